/- Part. -/
import Derived.Test.YtoeibiahbenpcaaGreatDoorA18
import Derived.Test.YtoeibiahbenpcaaGreatDoorA20
namespace Go.Proofs.YtoeibiahbenpcaaGreatDoor
open RowKit Maps Proofs.Tryz
set_option linter.unusedVariables false
set_option maxRecDepth 99999
set_option maxHeartbeats 9000000
abbrev Tb:=List (Nat×Ob)
def zt(T:Tb)(i:Nat):Option Ob:=(T.find? (λp=>decide (p.1=i))).map (·.2)
def qm(T:Tb):Prop:=T.Pairwise (λp q=>p.1<q.1)
theorem Zl{T:Tb}{i:Nat}{o:Ob}(h:zt T i=some o):(i,o)∈T:=by
 unfold zt at h;simp only[Option.map_eq_some_iff] at h;obtain⟨p,hp,rfl⟩:=h;have h1:=List.find?_some hp;have h2:=List.mem_of_find?_eq_some hp;simp at h1;subst h1;exact h2
theorem qv:∀ {T:Tb},qm T->∀ {i:Nat} {o:Ob},(i,o)∈T->zt T i=some o
 | [],_,i,o,h=>by cases h
 | p::T,hs,i,o,h=>by
  unfold qm at hs;rw[List.pairwise_cons] at hs;unfold zt;rw[List.find?_cons];rcases List.mem_cons.1 h with rfl|h1
  ·simp
  ·have:p.1<i:=hs.1 _ h1;have A0:¬p.1=i:=by omega
   simp only[A0,decide_false];exact qv hs.2 h1
theorem zec{T:Tb}{i:Nat}:zt T i=none↔∀o,(i,o)∉T:=by
 unfold zt;simp only[Option.map_eq_none_iff,List.find?_eq_none,decide_eq_true_eq];constructor
 ·exact λh v hm=>h _ hm rfl
 ·rintro h ⟨a,b⟩ hm rfl;exact h b hm
theorem vm{T:Tb}{i:Nat}:(zt T i).isSome=true↔i∈T.map (·.1):=by
 rw[List.mem_map];constructor
 ·intro h;obtain⟨o,ho⟩:=Option.isSome_iff_exists.1 h;exact⟨(i,o),Zl ho,rfl⟩
 ·rintro⟨p,hp,rfl⟩;cases h:zt T p.1 with
  | some o=>rfl
  | none=>exact absurd hp (zec.1 h p.2)
theorem zbt{T:Tb}{n:Nat}(h:∀p∈T,p.1<=n)(o:Ob)(i:Nat):zt (T++[(n+1,o)]) i=if i=n+1 then some o else zt T i:=by
 unfold zt;rw[List.find?_append];by_cases hi:i=n+1
 ·subst hi
  have:T.find? (λp=>decide (p.1=n+1))=none:=by
   rw[List.find?_eq_none];intro p hp;have:=h p hp;simp;omega
  rw[this];simp
 ·have h1:¬n+1=i:=λe=>hi e.symm
  simp[hi,h1]
theorem zsf{T:Tb}{n:Nat}(h:∀p∈T,p.1<=n)(hr:qm T)(o:Ob):qm (T++[(n+1,o)]):=by
 unfold qm;rw[List.pairwise_append];exact⟨hr,by simp,λp hp q hq=>by simp at hq;subst hq;have:=h p hp;simp only;omega⟩
def zj4(T:Tb)(i:Nat)(o:Ob):Tb:=T.map (λp=>if p.1=i then(i,o) else p)
theorem zkj(T:Tb)(i:Nat)(o:Ob):(zj4 T i o).map (·.1)=T.map (·.1):=by
 unfold zj4;rw[List.map_map];refine List.map_congr_left (λp hp=>?_);simp only[Function.comp_apply];split
 ·next e=>exact e.symm
 ·rfl
theorem zko{T T':Tb}(h:T'.map (·.1)=T.map (·.1))(hr:qm T):qm T':=by
 have h1:(T.map (·.1)).Pairwise (· < ·):=by rw[List.pairwise_map];exact hr
 rw[<-h,List.pairwise_map] at h1;exact h1
theorem co{T:Tb}{i:Nat}(o:Ob)(j:Nat):zt (zj4 T i o) j=if j=i/\(zt T i).isSome then some o else zt T j:=by
 induction T with
 | nil=>simp[zj4,zt]
 | cons p T ih =>
  unfold zj4 zt at ih ⊢;simp only[List.map_cons,List.find?_cons];by_cases h1:p.1=i
  ·simp only[h1,if_true];by_cases h2:i=j
   ·subst h2;simp
   ·have h3:¬j=i:=λe=>h2 e.symm
    simp only[h2,decide_false,h3,false_and,if_false];have:=ih;simp only[h3,false_and,if_false] at this;exact this
  ·simp only[h1,if_false,decide_false];by_cases h2:p.1=j
   ·have h3:¬j=i:=λe=>h1 (by rw[h2,e])
    simp[h2,h3]
   ·simp only[h2,decide_false];exact ih
theorem zeu(T:Tb)(g:Nat->Bool)(i:Nat):zt (T.filter (λp=>g p.1)) i=if g i then zt T i else none:=by
 induction T with
 | nil=>simp[zt]
 | cons p T ih =>
  unfold zt at ih ⊢;rw[List.filter_cons];by_cases h1:p.1=i
  ·subst h1;by_cases h2:g p.1=true
   ·simp[h2]
   ·simp only[h2];simp only[h2] at ih;exact ih
  ·by_cases h2:g p.1=true
   ·simp only[h2,if_true,List.find?_cons,h1,decide_false];exact ih
   ·simp only[h2,List.find?_cons,h1,decide_false];exact ih
theorem zrv:∀ {T U:Tb},qm T->qm U->(∀i,zt T i=zt U i)->T=U
 | [],[],_,_,_=>rfl
 | [],q::U,_,hm,h=>by
  have:=h q.1;rw[qv hm (o:=q.2) (by simp)] at this;cases this
 | p::T,[],hl,_,h=>by
  have:=h p.1;rw[qv hl (o:=p.2) (by simp)] at this;cases this
 | p::T,q::U,hl,hm,h=>by
  have A0:=hl;have A1:=hm;unfold qm at A0 A1;rw[List.pairwise_cons] at A0 A1;have h1:(p.1,p.2)∈q::U:=Zl (by rw[<-h];exact qv hl (by simp));have h2:(q.1,q.2)∈p::T:=Zl (by rw[h];exact qv hm (by simp))
  have A2:p=q:=by
   rcases List.mem_cons.1 h1 with h1|h1
   ·exact h1
   ·rcases List.mem_cons.1 h2 with h2|h2
    ·exact h2.symm
    ·have a1:=A1.1 _ h1;have a2:=A0.1 _ h2;simp only at a1 a2;omega
  subst A2;rw[zrv A0.2 A1.2 (λx=>?_)];have hx:=h x;by_cases A3:p.1=x
  ·have e1:zt T x=none:=zec.2 (λv hv=>by have:=A0.1 _ hv;simp only at this;omega);have e2:zt U x=none:=zec.2 (λv hv=>by have:=A1.1 _ hv;simp only at this;omega);rw[e1,e2]
  ·unfold zt at hx ⊢;simpa only [List.find?_cons,A3,decide_false] using hx
def zee(T:Tb)(i:Int):Bool:=decide (0<=i) && (zt T i.toNat).isSome
def yg(T:Tb)(i:Int):List Int:=if 0<=i then(match zt T i.toNat with|some o=>Zo (o.cls::o.W)|none=>[]) else []
inductive Reach(T:Tb)(roots:List Int):Int->Prop
 | root {r:Int} (h:r∈roots) (h1:zee T r=true):Reach T roots r
 | step {i j:Int} (h:Reach T roots i) (h1:j∈yg T i) (h2:zee T j=true):Reach T roots j
theorem Reach.has{T:Tb}{roots:List Int}{i:Int}(h:Reach T roots i):zee T i=true:=by cases h<;>assumption
structure Dfs(T:Tb)(roots:List Int)(seen:Int->Bool)(todo:List Int):Prop where
 sub:∀i,seen i=true->Reach T roots i
 stack:∀j∈todo,zee T j=true->Reach T roots j
 root:∀r∈roots,zee T r=true->seen r=true\/r∈todo
 closed:∀i,seen i=true->∀j∈yg T i,zee T j=true->seen j=true\/j∈todo
theorem Dfs.start(T:Tb)(roots:List Int):Dfs T roots (λ_=>false) roots :=
 ⟨(λi h=>by cases h),λj hj h=>.root hj h,λr hr _=>.inr hr,(λi h=>by cases h)⟩
theorem Dfs.skip{T:Tb}{roots:List Int}{seen:Int->Bool}{t:List Int}{j:Int}(h:Dfs T roots seen (t++[j]))(hj:zee T j=false\/seen j=true):Dfs T roots seen t:=by
 have key:∀k,zee T k=true->seen k=true\/k∈t++[j]->seen k=true\/k∈t:=λk hk hh=>by
  rcases hh with h1|h1
  ·exact .inl h1
  ·rcases List.mem_append.1 h1 with h2|h2
   ·exact .inr h2
   ·rw[List.mem_singleton] at h2;subst h2;rcases hj with h3|h3
    ·rw[h3] at hk;cases hk
    ·exact .inl h3
 exact⟨h.sub,λk hk hh=>h.stack k (by simp[hk]) hh,λr hr hh=>key r hh (h.root r hr hh),λi hi k hk hh=>key k hh (h.closed i hi k hk hh)⟩
theorem Dfs.take{T:Tb}{roots:List Int}{seen:Int->Bool}{t:List Int}{j:Int}(h:Dfs T roots seen (t++[j]))(hj:zee T j=true):Dfs T roots (λk=>decide (k=j) || seen k) (t++yg T j):=by
 have hr:=h.stack j (by simp) hj
 have key:∀k,seen k=true\/k∈t++[j]->(decide (k=j) || seen k)=true\/k∈t++yg T j:=λk hh=>by
  rcases hh with h1|h1
  ·exact .inl (by simp[h1])
  ·rcases List.mem_append.1 h1 with h2|h2
   ·exact .inr (by simp[h2])
   ·rw[List.mem_singleton] at h2;exact .inl (by simp[h2])
 refine⟨λi hi=>?_,λk hk hh=>?_,λr A0 hh=>key r (h.root r A0 hh),λi hi k hk hh=>?_⟩
 ·simp only[Bool.or_eq_true,decide_eq_true_eq] at hi;rcases hi with rfl|hi
  ·exact hr
  ·exact h.sub i hi
 ·rcases List.mem_append.1 hk with h1|h1
  ·exact h.stack k (by simp[h1]) hh
  ·exact .step hr h1 hh
 ·simp only[Bool.or_eq_true,decide_eq_true_eq] at hi;rcases hi with rfl|hi
  ·exact .inr (by simp[hk])
  ·exact key k (h.closed i hi k hk hh)
theorem Dfs.done{T:Tb}{roots:List Int}{seen:Int->Bool}(h:Dfs T roots seen [])(i:Int):seen i=true↔Reach T roots i:=by
 constructor
 ·exact h.sub i
 ·intro hr;induction hr with
  | root h1 h2 =>
   rcases h.root _ h1 h2 with h3|h3
   ·exact h3
   ·cases h3
  | step h1 h2 h3 ih =>
   rcases h.closed _ ih _ h2 h3 with h4|h4
   ·exact h4
   ·cases h4
end Go.Proofs.YtoeibiahbenpcaaGreatDoor
