/- Part. -/
import Derived.Test.YtoeibiahbenpcaaGreatDoorA01
import Derived.Maps.OwnSet
import Derived.Maps.OwnOps
import Derived.Maps.RangeWalk
import Derived.Maps.Ext
import Derived.WalkMore
namespace Go.Proofs.YtoeibiahbenpcaaGreatDoor
open RowKit Maps Proofs.Tryz
set_option linter.unusedVariables false
set_option maxRecDepth 99999
set_option maxHeartbeats 9000000
abbrev KV:=Int×Value
def zn7(v:Value):Option (DataW Value×List MemPlace):=some (.held v,[])
def kvD(l:List KV):DataW Value:=.map (l.map λp=>(Lit.int .i64 p.1,DataW.held p.2))
def wfK(x:Int):Prop:=(Lit.int .i64 x).wf=true
theorem za6{a:Int}(h0:-9223372036854775808<=a)(h1:a<=9223372036854775807):wfK a:=by
 have h2:IntKind.i64.min=-9223372036854775808:=by decide
 have h3:IntKind.i64.max=9223372036854775807:=by decide
 simp[wfK,Lit.wf];omega
theorem zfx{n:Nat}(h:n<=1000000000000):wfK (n:Int):=za6 (by omega) (by omega)
theorem zbe:Keyed prog 3:=int_keyed underlying3
theorem zhy{x:Int}(h:wfK x):keyOf prog 3 (.int .i64 x)=some (.int .i64 x):=keyOf_int_mk underlying3 h
def zw(l:List KV)(x:Int):Option Value:=(l.find? (λp=>decide (p.1=x))).map (·.2)
def jh(l:List KV):Prop:=l.Pairwise (λp q=>p.1<q.1)
structure qi(w:World)(b:Nat)(l:List KV):Prop where
 own:w.ownsMap prog 3 zn7 b l.length (kvD l)
 srt:jh l
 wf:∀p∈l,wfK p.1
theorem ze8(a b:Int):(Lit.int .i64 a).sameKey (.int .i64 b)=decide (a=b):=by simp[Lit.sameKey]
theorem zm4(l:List KV)(x:Int)(z:Value):(kvD l).atKey (.int .i64 x) (.held z)=.held ((zw l x).getD z):=by
 unfold kvD DataW.atKey zw;simp only;induction l with
 | nil=>rfl
 | cons p l ih =>
  simp only[List.map_cons,List.find?_cons,ze8];by_cases h:p.1=x
  ·simp[h]
  ·simp only[h,decide_false];exact ih
theorem zgg(l:List KV)(x:Int):Maps.has (kvD l) (.int .i64 x)=(zw l x).isSome:=by
 unfold kvD zw;rw[has_eq];induction l with
 | nil=>rfl
 | cons p l ih =>
  simp only[List.map_cons,List.any_cons,List.find?_cons,ze8];by_cases h:p.1=x
  ·simp[h]
  ·simp only[h,decide_false,Bool.false_or];exact ih
theorem zi4(l:List KV):Maps.size (kvD l)=l.length:=by simp[kvD,Maps.size]
theorem zdl{l:List KV}{x:Int}{o:Option Value}(h1:Maps.has (kvD l) (.int .i64 x)=o.isSome)(h2:∀z,(kvD l).atKey (.int .i64 x) (.held z)=.held (o.getD z)):zw l x=o:=by
 rw[zgg] at h1;cases ho:o with
 | none =>
  rw[ho] at h1;cases hg:zw l x with
  | none=>rfl
  | some v=>rw[hg] at h1;cases h1
 | some v =>
  rw[ho] at h1;cases hg:zw l x with
  | none=>rw[hg] at h1;cases h1
  | some u =>
   have:=h2 (.bool false);rw[zm4,hg,ho] at this;simp at this;rw[this]
theorem qg{l:List KV}{x:Int}{v:Value}(h:zw l x=some v):(x,v)∈l:=by
 unfold zw at h;simp only[Option.map_eq_some_iff] at h;obtain⟨p,hp,rfl⟩:=h;have h1:=List.find?_some hp;have h2:=List.mem_of_find?_eq_some hp;simp at h1;subst h1;exact h2
theorem gd{l:List KV}(hs:jh l){x:Int}{v:Value}(h:(x,v)∈l):zw l x=some v:=by
 induction l with
 | nil=>cases h
 | cons p l ih =>
  unfold jh at hs;rw[List.pairwise_cons] at hs;unfold zw;rw[List.find?_cons];rcases List.mem_cons.1 h with rfl|h1
  ·simp
  ·have:p.1<x:=hs.1 _ h1;have A0:¬p.1=x:=by omega
   simp only[A0,decide_false];exact ih hs.2 h1
theorem zef{l:List KV}{x:Int}:zw l x=none↔∀v,(x,v)∉l:=by
 unfold zw;simp only[Option.map_eq_none_iff,List.find?_eq_none,decide_eq_true_eq];constructor
 ·exact λh v hm=>h _ hm rfl
 ·rintro h ⟨a,b⟩ hm rfl;exact h b hm
theorem zhx:∀ {l m:List KV},jh l->jh m->(∀x,zw l x=zw m x)->l=m
 | [],[],_,_,_=>rfl
 | [],q::m,_,hm,h=>by
  have:=h q.1;rw[gd hm (v:=q.2) (by simp)] at this;cases this
 | p::l,[],hl,_,h=>by
  have:=h p.1;rw[gd hl (v:=p.2) (by simp)] at this;cases this
 | p::l,q::m,hl,hm,h=>by
  have A0:=hl;have A1:=hm;unfold jh at A0 A1;rw[List.pairwise_cons] at A0 A1;have h1:(p.1,p.2)∈q::m:=qg (by rw[<-h];exact gd hl (by simp));have h2:(q.1,q.2)∈p::l:=qg (by rw[h];exact gd hm (by simp))
  have A2:p=q:=by
   rcases List.mem_cons.1 h1 with h1|h1
   ·exact h1
   ·rcases List.mem_cons.1 h2 with h2|h2
    ·exact h2.symm
    ·have a1:=A1.1 _ h1;have a2:=A0.1 _ h2;simp only at a1 a2;omega
  subst A2;rw[zhx A0.2 A1.2 (λx=>?_)];have hx:=h x;by_cases A3:p.1=x
  ·have e1:zw l x=none:=zef.2 (λv hv=>by have:=A0.1 _ hv;simp only at this;omega);have e2:zw m x=none:=zef.2 (λv hv=>by have:=A1.1 _ hv;simp only at this;omega);rw[e1,e2]
  ·unfold zw at hx ⊢;simpa only [List.find?_cons,A3,decide_false] using hx
theorem zi8{w:World}{b n:Nat}{D:DataW Value}(h:w.ownsMap prog 3 zn7 b n D):∃l,D=kvD l/\qi w b l:=by
 obtain⟨es,hD,A2,A5⟩:=h.canon zbe
 have A0:∀p∈es,∃x v,p=(Lit.int .i64 x,DataW.held v)/\wfK x:=by
  obtain⟨es0,clock,hb,F,hs,A1⟩:=h;rw[hD] at A1;have e1:es=(es0.toList.map (WideElems.rg prog 3 zn7)).foldr DataW.insert []:=by simpa using A1
  intro p hp;rw[e1,mem_sorted,List.mem_map] at hp;obtain⟨x,hx,rfl⟩:=hp;obtain⟨y,hy⟩:=F.reads x hx;have hk:=WideElems.rd_key hy;obtain⟨a,ha,A7,A4⟩:=keyOf_int_inv underlying3 hk;refine⟨a,x.val,?_,A4⟩;unfold WideElems.rg;rw[hy];unfold WideElems.rd zn7 at hy;rw[ha,zhy A4] at hy;simp at hy;rw[<-hy];rfl
 obtain⟨l,hl⟩:∃l:List KV,es=l.map (λp=>(Lit.int .i64 p.1,DataW.held p.2))/\∀p∈l,wfK p.1:=by
  clear A2 A5 hD;induction es with
  | nil=>exact⟨[],rfl,λp hp=>by cases hp⟩
  | cons p es ih =>
   obtain⟨l,hl,hw⟩:=ih (λq hq=>A0 q (by simp[hq]));obtain⟨x,v,hp,A6⟩:=A0 p (by simp);refine⟨(x,v)::l,by rw[hl,hp];rfl,λq hq=>?_⟩;rcases List.mem_cons.1 hq with rfl|hq
   ·exact A6
   ·exact hw q hq
 obtain⟨hl,hw⟩:=hl;have A3:D=kvD l:=by rw[hD,hl];rfl
 refine⟨l,A3,⟨?_,?_,hw⟩⟩
 ·have A8:=h.size_le;obtain⟨es0,clock,hb,F,hs,A1⟩:=h;refine⟨es0,clock,hb,F,?_,by rw[<-A3];exact A1⟩;have h1:Maps.size D=es0.size:=by rw[A1];exact length_read es0
  have h2:Maps.size D=l.length:=by rw[A3];exact zi4 l
  omega
 ·rw[hl,List.pairwise_map] at A2;exact A2.imp (fun {a b} h=>by simpa[Lit.before] using h)
theorem qi.made(w:World):qi (w.alloc (.map #[] 0)) w.heap.size [] :=
 ⟨World.ownsMap_made w _ _ _,List.Pairwise.nil,λp hp=>by cases hp⟩
theorem qi.lt{w:World}{b:Nat}{l:List KV}(h:qi w b l):b<w.heap.size:=h.own.lt
theorem qi.keep{w w':World}{b:Nat}{l:List KV}(h:qi w b l){m:List Nat}(u:Upd m w w')(hm:b∉m):qi w' b l:=by
 obtain⟨⟨es,clock,hb,F,hs,hD⟩,h2,h3⟩:=h;exact⟨⟨es,clock,u.heap hb hm,F,hs,hD⟩,h2,h3⟩
theorem qi.below{w w':World}{b:Nat}{l:List KV}(h:qi w b l)(hb:Below w.heap.size w w'):qi w' b l:=h.keep (l:=l) (m:=[]) (.of_below hb) (by simp)
theorem qi.look{w:World}{b:Nat}{l:List KV}(h:qi w b l){T E:TypeId}(ht:(prog).underlying T=some (.map 3 E)){z:Value}(hz:(zeroValue E).run prog w=.ok z w){x:Int}(hx:wfK x) :
 (Instr.lookup T (.map (some b)) (.int .i64 x) false).run prog w=.ok ((zw l x).getD z) w:=by
 obtain⟨v,ps,hr,hv⟩:=h.own.lookup zbe ht hz (zd:=.held z) (zp:=[]) rfl (zhy hx);rw[zm4] at hv;unfold zn7 at hv;simp at hv;rw[hr,hv.1]
theorem qi.lookOk{w:World}{b:Nat}{l:List KV}(h:qi w b l){T E:TypeId}(ht:(prog).underlying T=some (.map 3 E)){z:Value}(hz:(zeroValue E).run prog w=.ok z w){x:Int}(hx:wfK x) :
 (Instr.lookup T (.map (some b)) (.int .i64 x) true).run prog w=.ok (.tuple #[(zw l x).getD z,.bool (zw l x).isSome]) w:=by
 obtain⟨v,ps,hr,hv⟩:=h.own.look_ok zbe ht hz (zd:=.held z) (zp:=[]) rfl (zhy hx);rw[zm4] at hv;unfold zn7 at hv;simp at hv;rw[hr,hv.1,zgg]
section
variable{w:World}{ops:Array Oper}{rest:List Oper}{o:Oper}{a:Act}{Q:Exit->Act->World->Prop}{b:Nat}{l:List KV}{x:Int}
theorem Zw(h:qi w b l)(hx:wfK x)(hg:o.guard=none)(m k:Operand)(T:TypeId)(A0:o.op=Op.lookup T m k false)(E:TypeId)(ht:(prog).underlying T=some (.map 3 E))(z:Value)(hz:(zeroValue E).run prog w=.ok z w)
 (hm:a.eval m=.map (some b)) (hk:a.eval k=.int .i64 x) (v:Value) (hv:(zw l x).getD z=v) (hK:wpList prog ops Q rest (a.put o.dst v) w):wpList prog ops Q (o::rest) a w:=by
 subst hv;refine wpList_plain hg λK' A1=>?_
 unfold Oper.wp;simp[execOp,A0,hm,hk,h.look ht hz hx,Result.andThen];exact A1 _ _ hK
theorem qd(h:qi w b l)(hx:wfK x)(hg:o.guard=none)(m k:Operand)(T:TypeId)(A0:o.op=Op.lookup T m k true)(E:TypeId)(ht:(prog).underlying T=some (.map 3 E))(z:Value)(hz:(zeroValue E).run prog w=.ok z w)
 (hm:a.eval m=.map (some b)) (hk:a.eval k=.int .i64 x) (v:Value) (hv:(zw l x).getD z=v) (c:Bool) (hc:(zw l x).isSome=c) (hK:wpList prog ops Q rest (a.put o.dst (.tuple #[v,.bool c])) w):wpList prog ops Q (o::rest) a w:=by
 subst hv;subst hc;refine wpList_plain hg λK' A1=>?_
 unfold Oper.wp;simp[execOp,A0,hm,hk,h.lookOk ht hz hx,Result.andThen];exact A1 _ _ hK
theorem jc(h:qi w b l)(hx:wfK x)(hl:l.length<=1000000)(hg:o.guard=none)(m k e:Operand)(T:TypeId)(A1:o.op=Op.mapUpdate T m k e)(E:TypeId)(ht:(prog).underlying T=some (.map 3 E))
 (hm:a.eval m=.map (some b)) (hk:a.eval k=.int .i64 x) (v:Value) (hv:a.eval e=v)
 (hK:∀w' l',qi w' b l'->(∀y,zw l' y=if y=x then some v else zw l y)->Upd [b] w w'->wpList prog ops Q rest (a.put o.dst undef) w'):wpList prog ops Q (o::rest) a w:=by
 refine wpList_mapUpdate_own w hg m k e _ A1 _ E zbe ht zn7 b l.length (kvD l) hm h.own (by unfold maxLen;omega) _ _ _ hk hv (zhy hx) (.held v) [] rfl ?_;intro w' h1 gr;obtain⟨l',A0,A2⟩:=zi8 h1;refine hK w' l' A2 (λy=>zdl ?_ (λz=>?_)) ⟨gr.os,gr.tape,gr.output,gr.size,λk hk hn=>gr.block k hk (λe=>hn (by simp at e;simp[e]))⟩
 ·rw[<-A0];by_cases hy:y=x
  ·subst hy;rw[has_put_same (k:=Lit.int .i64 y) (show IsMap (kvD l) from⟨_,rfl⟩) (show WideAt.IsKeyLit (Lit.int .i64 y) from trivial),if_pos rfl];rfl
  ·rw[has_put_other (by simp[hy]),if_neg hy,zgg]
 ·rw[<-A0];by_cases hy:y=x
  ·subst hy;rw[atKey_put_same (k:=Lit.int .i64 y) (show IsMap (kvD l) from⟨_,rfl⟩) (show WideAt.IsKeyLit (Lit.int .i64 y) from trivial),if_pos rfl];rfl
  ·rw[atKey_put_other (by simp[hy]),if_neg hy,zm4]
theorem zj6(h:qi w b l)(hx:wfK x)(hg:o.guard=none)(m k:Operand)(T:TypeId)(A1:o.op=Op.call { callee:=Callee.builtin Builtin.delete,args:=#[m,k],argTypes:=#[T,3] })(E:TypeId)(ht:(prog).underlying T=some (.map 3 E))
 (hm:a.eval m=.map (some b)) (hk:a.eval k=.int .i64 x)
 (hK:∀w' l',qi w' b l'->(∀y,zw l' y=if y=x then none else zw l y)->Upd [b] w w'->wpList prog ops Q rest (a.put o.dst (.tuple #[])) w'):wpList prog ops Q (o::rest) a w:=by
 refine wpList_delete_own (w:=w) hg m k _ _ A1 E zbe ht zn7 b l.length (kvD l) hm h.own _ _ hk (zhy hx) ?_;intro w' h1 tr;have gr:=tr.grown;obtain⟨l',A0,A2⟩:=zi8 h1;refine hK w' l' A2 (λy=>zdl ?_ (λz=>?_)) ⟨gr.os,gr.tape,gr.output,gr.size,λk hk hn=>gr.block k hk (λe=>hn (by simp at e;simp[e]))⟩
 ·rw[<-A0];by_cases hy:y=x
  ·subst hy;rw[has_del_same,if_pos rfl];rfl
  ·rw[has_del_other (by simp[hy]),if_neg hy,zgg]
 ·rw[<-A0];by_cases hy:y=x
  ·subst hy;rw[atKey_del_same,if_pos rfl];rfl
  ·rw[atKey_del_other (by simp[hy]),if_neg hy,zm4]
theorem zep(h:qi w b l)(hg:o.guard=none)(m:Operand)(T:TypeId)(A0:o.op=Op.call { callee:=Callee.builtin Builtin.len,args:=#[m],argTypes:=#[T] })(E:TypeId)(ht:(prog).underlying T=some (.map 3 E))
 (hm:a.eval m=.map (some b)) (hK:wpList prog ops Q rest (a.put o.dst (.int .i64 l.length)) w):wpList prog ops Q (o::rest) a w:=by
 refine wpList_len_own w hg m T A0 _ E ht zn7 b l.length (kvD l) hm h.own ?_;rw[zi4];exact hK
end
def bAt(l:List Bool)(p:Nat):Bool:=l.getD p false
theorem z2l{l:List Bool}{p:Nat}(hp:p<l.length)(b:Bool)(q:Nat):bAt (l.set p b) q=if q=p then b else bAt l q:=by
 unfold bAt;simp only[List.getD_eq_getElem?_getD,List.getElem?_set];by_cases h:p=q
 ·subst h;simp[hp]
 ·simp[h,Ne.symm h]
structure zph(n h0 j:Nat)(ins tc:List Bool):Prop where
 len:tc.length=n
 once:∀t,t<j->bAt ins ((h0+t) % n)=true->bAt tc ((h0+t) % n)=false
 none:∀t,n<=t->t<j->bAt ins ((h0+t) % n)=false
theorem zph.start(n h0:Nat){ins tc:List Bool}(h:tc.length=n):zph n h0 0 ins tc:=⟨h,λt ht=>by omega,λt _ ht=>by omega⟩
theorem zph.out{n h0 j:Nat}{ins tc:List Bool}(h:zph n h0 j ins tc)(hi:bAt ins ((h0+j) % n)=false):zph n h0 (j+1) ins tc:=by
 refine⟨h.len,λt ht h1=>?_,λt h1 ht=>?_⟩
 ·by_cases e:t=j
  ·subst e;rw[hi] at h1;cases h1
  ·exact h.once t (by omega) h1
 ·by_cases e:t=j
  ·subst e;exact hi
  ·exact h.none t h1 (by omega)
theorem zph.early{n h0 j:Nat}{ins tc:List Bool}(h:zph n h0 j ins tc)(hi:bAt ins ((h0+j) % n)=true)(ht:bAt tc ((h0+j) % n)=true):j<n:=by
 rcases Nat.lt_or_ge j n with h1|h1
 ·exact h1
 ·exfalso;rcases Nat.eq_zero_or_pos n with A0|hn
  ·subst A0;have hl:=h.len;unfold bAt at ht;rw[zg,List.getElem?_eq_none (by omega)] at ht;cases ht
  ·have e:(h0+(j-n)) % n=(h0+j) % n:=by
    rw[show h0+j=h0+(j-n)+n by omega,Nat.add_mod_right]
   have:=h.once (j-n) (by omega) (by rw[e];exact hi);rw[e,ht] at this;cases this
theorem zph.touch{n h0 j:Nat}{ins tc:List Bool}(h:zph n h0 j ins tc)(hi:bAt ins ((h0+j) % n)=true)(ht:bAt tc ((h0+j) % n)=true):zph n h0 (j+1) ins (tc.set ((h0+j) % n) false):=by
 have hj:=h.early hi ht;have hp:(h0+j) % n<tc.length:=by rw[h.len];exact Nat.mod_lt _ (by omega)
 refine⟨by rw[List.length_set];exact h.len,λt A0 h1=>?_,λt h1 A0=>by omega⟩;rw[z2l hp];split
 ·rfl
 ·next e =>
  by_cases e2:t=j
  ·subst e2;exact absurd rfl e
  ·exact h.once t (by omega) h1
theorem zph.all{n h0:Nat}{ins tc:List Bool}(h:zph n h0 (2*n) ins tc)(hh:h0<n)(p:Nat)(hp:p<n):bAt ins p=false:=by
 by_cases h1:h0<=p
 ·have:=h.none (p-h0+n) (by omega) (by omega);rwa[show h0+(p-h0+n)=p+n by omega,Nat.add_mod_right,Nat.mod_eq_of_lt hp] at this
 ·have:=h.none (p+n-h0+n) (by omega) (by omega);rwa[show h0+(p+n-h0+n)=p+n+n by omega,Nat.add_mod_right,Nat.add_mod_right,Nat.mod_eq_of_lt hp] at this
theorem zzy{l:List Nat}{a b:World}(h:Upd l a b){p:Addr}{v:Value}(hc:a.cell? p=some v)(hn:p.block∉l):b.cell? p=some v :=
 (World.cell?_of_block (w:=a) (h.block _ (World.block_lt_of_cell? a p hc) hn)).trans hc
def zmi(a b c:Value):Nat->List Value
 | 0=>[]
 | n+1=>zmi a b c n++[a,b,c]
theorem zhu(a b c:Value):∀n,(madeCells #[a,b,c] (n*3)).toList=zmi a b c n
 | 0=>by simp[madeCells,zmi]
 | n+1=>by
  have ih:=zhu a b c n;unfold madeCells at ih ⊢;rw[show(n+1)*3=n*3+1+1+1 by omega];have e0:(n*3) % 3=0:=by omega
  have e1:(n*3+1) % 3=1:=by omega
  have e2:(n*3+1+1) % 3=2:=by omega
  have es:(#[a,b,c]:Array Value).size=3:=rfl;rw[es] at ih ⊢;simp only[Array.range_succ,Array.map_append,Array.toList_append,ih,zmi,List.append_assoc];simp[e1,e2]
theorem zhk{P:Program}{w:World}{ops:Array Oper}{rest:List Oper}{o:Oper}{a:Act}{Q:Exit->Act->World->Prop}(hw:Region.wanted o (yielded ops a.tmps)=true)(l c:Operand)(t:TypeId)(ho:o.op=Op.makeSlice t l c)
 (e:TypeId) (z za zb zc:Value) (bytes:Nat) (ht:P.underlying t=some (.slice e)) (A0:(P.info? e).map (λi=>(i.zero,i.size,i.bytes))=some (some z,3,bytes)) (hz:z.cells=#[za,zb,zc])
 (kl kc:IntKind) (L C:Int) (n:Nat) (hl:a.eval l=.int kl L) (hc:a.eval c=.int kc C) (hL:L = ↑n) (hC:C = ↑n) (hb:bytes*n<=281474976710656) (hm:n<=maxLen)
 (h:∀w',Row w' w.heap.size e (zmi za zb zc n)->Upd [] w w'->wpList P ops Q rest (a.put o.dst (.slice (some ⟨w.heap.size,0,none⟩) n n)) w'):wpList P ops Q (o::rest) a w:=by
 obtain⟨i,hi,A2,hs,A3⟩:=info_parts A0;refine BigFrame.wpList_want hw λK hK=>?_
 obtain⟨w',A1,own,gr⟩:=run_make_full (P:=P) w w.heap.size t e i z 3 ht hi A2 hs kl kc n (by rw[A3];exact hb) hm (Nat.le_refl _);subst hL;subst hC;unfold Oper.wp;simp[execOp,ho,hl,hc,A1,Result.andThen];refine hK _ _ (h w' ?_ ⟨gr.os,gr.tape,gr.output,gr.size,λk hk _=>gr.block k hk (by simp)⟩);rcases own.2 with⟨hv,_⟩|⟨g,cap,cur,hv,A5,hh,hn,A6,A7,A4⟩
 ·cases hv
 ·cases hv
  have e1:cur.toList=(madeCells z.cells (n*3)).toList:=by
   rw[<-A4,List.take_of_length_le];simp only[Array.length_toList];omega
  rw[hz,zhu] at e1;rw[<-e1];unfold Row;simpa using hh
def gw:List Bool->List Bool->List Value
 | a::l,b::m=>.bool a::.bool b::.bool false::gw l m
 | _,_=>[]
theorem zld:∀(l m:List Bool),l.length=m.length->(gw l m).length=3*l.length
 | [],[],_=>rfl
 | a::l,b::m,h=>by
  have:=zld l m (by simpa using h);simp only[gw,List.length_cons,this];omega
theorem gf:∀(l m:List Bool) (i:Nat),l.length=m.length->i<l.length->(gw l m)[i*3]?=some (.bool (bAt l i))/\(gw l m)[i*3+1]?=some (.bool (bAt m i))/\(gw l m)[i*3+2]?=some (.bool false)
 | [],_,i,_,h=>by simp at h
 | a::l,b::m,0,_,_=>⟨rfl,rfl,rfl⟩
 | a::l,b::m,i+1,h,hi=>by
  have ih:=gf l m i (by simpa using h) (by simpa using hi);have e0:(i+1)*3=i*3+3:=by omega
  rw[e0];exact ih
theorem zbz:∀(l m:List Bool) (i:Nat) (b:Bool),l.length=m.length->i<l.length->gw l (m.set i b)=(gw l m).set (i*3+1) (.bool b)
 | [],_,i,_,_,h=>by simp at h
 | a::l,c::m,0,b,_,_=>rfl
 | a::l,c::m,i+1,b,h,hi=>by
  have ih:=zbz l m i b (by simpa using h) (by simpa using hi);show .bool a::.bool c::.bool false::gw l (m.set i b)=_
  rw[ih,show(i+1)*3+1=(i*3+1)+3 by omega];rfl
theorem zh3:∀(l m:List Bool) (i:Nat) (b:Bool),l.length=m.length->i<l.length->gw (l.set i b) (m.set i false)=(((gw l m).set (i*3) (.bool b)).set (i*3+1) (.bool false)).set (i*3+2) (.bool false)
 | [],_,i,_,_,h=>by simp at h
 | a::l,c::m,0,b,_,_=>rfl
 | a::l,c::m,i+1,b,h,hi=>by
  have ih:=zh3 l m i b (by simpa using h) (by simpa using hi);show .bool a::.bool c::.bool false::gw (l.set i b) (m.set i false)=_
  rw[ih,show(i+1)*3=i*3+3 by omega,show i*3+3+1=(i*3+1)+3 by omega,show i*3+3+2=(i*3+2)+3 by omega];rfl
theorem zle:∀(l m l' m':List Bool),l.length=m.length->gw (l++l') (m++m')=gw l m++gw l' m'
 | [],[],_,_,_=>rfl
 | a::l,b::m,l',m',h=>by
  have ih:=zle l m l' m' (by simpa using h);simp only[List.cons_append,gw,ih]
theorem zh4:∀n,gw (List.replicate n false) (List.replicate n false)=zmi (.bool false) (.bool false) (.bool false) n
 | 0=>rfl
 | n+1=>by
  rw[List.replicate_succ',zle _ _ _ _ rfl,zh4 n];rfl
structure gy(w:World)(c cp n:Nat)(ins:List Bool):Prop where
 head:∃h:Nat,h<n/\Row w c 134 [.slice (some ⟨cp,0,none⟩) n n,.int .i64 h]
 data:∃tc:List Bool,tc.length=n/\Row w cp 176 (gw ins tc)
 len:ins.length=n
 small:n<=16384
 ne:c≠cp
theorem gy.keep{w w':World}{c cp n:Nat}{ins:List Bool}(h:gy w c cp n ins){l:List Nat}(u:Upd l w w')(hc:c∉l)(hp:cp∉l):gy w' c cp n ins:=by
 obtain⟨hd,hh,hr⟩:=h.head;obtain⟨tc,ht,A0⟩:=h.data;exact⟨⟨hd,hh,hr.keep u hc⟩,⟨tc,ht,A0.keep u hp⟩,h.len,h.small,h.ne⟩
theorem gy.lt{w:World}{c cp n:Nat}{ins:List Bool}(h:gy w c cp n ins):c<w.heap.size/\cp<w.heap.size:=by
 obtain⟨hd,hh,hr⟩:=h.head;obtain⟨tc,ht,A0⟩:=h.data;exact⟨hr.lt,A0.lt⟩
theorem zyn(n:Nat)(w:World)(h1:1<=n)(hn:n<=16384):Calls prog 26 #[.int .i64 n] w λe w'=>∃c cp,e=.returned (.tuple #[.pointer (some ⟨c,0,none⟩),.int .i64 0])/\gy w' c cp n (List.replicate n false)/\w.heap.size<=c/\w.heap.size<=cp/\Below w.heap.size w w':=by
 go_enter func26,ntmps26;go_wp2_with (at_make;refine zhk rfl _ _ 132 rfl 176 (.agg #[.bool false,.bool false,.bool false]) (.bool false) (.bool false) (.bool false) 3 underlying132 (by kernel_rfl) rfl .i64 .i64 _ _ n rfl rfl rfl rfl (by omega) (by unfold maxLen;omega) ?_);intro w2 row upd;have lt:=row.lt;have HR:=zh row;have HU:=zh upd;clear row upd;go_wp2;go_ret2;refine⟨w2.heap.size,w.heap.size,rfl,⟨⟨0,by omega,Row.made _ _ _⟩,⟨List.replicate n false,by simp,?_⟩,by simp,hn,by omega⟩,by omega,Nat.le_refl _,(HU.out.alloc _).below (Nat.le_refl _) (by simp)⟩;rw[zh4];exact HR.alloc _
section
variable{c cp n:Nat}{ins:List Bool}{w:World}
theorem zvg(h:gy w c cp n ins)(i:Nat)(hi:i<n):Calls prog 101 #[.pointer (some ⟨c,0,none⟩),.int .i64 i,.bool false] w λe w'=>e=.returned (.tuple #[.pointer (some ⟨cp,i*3,none⟩),.int .i64 0])/\w=w':=by
 obtain⟨hd,hh,hr⟩:=h.head;have A0:=h.small;have k0:=hr.cell (i:=0) rfl;clear h hr;go_enter func101,ntmps101;go_wp2;go_ret2;exact⟨rfl,rfl⟩
theorem zvf(h:gy w c cp n ins)(i:Nat)(hi:i<n)(hb:bAt ins i=true):Calls prog 101 #[.pointer (some ⟨c,0,none⟩),.int .i64 i,.bool true] w λe w'=>e=.returned (.tuple #[.pointer (some ⟨cp,i*3,none⟩),.int .i64 0])/\w=w':=by
 obtain⟨hd,hh,hr⟩:=h.head;obtain⟨tc,ht,A0⟩:=h.data;have A1:=h.small;have k0:=hr.cell (i:=0) rfl;have k1:=A0.cell (gf ins tc i (by rw[h.len,ht]) (by rw[h.len];exact hi)).1;rw[hb] at k1;clear h hr A0;go_enter func101,ntmps101;go_wp2;go_ret2;exact⟨rfl,rfl⟩
theorem zve(h:gy w c cp n ins)(i:Nat)(hi:i<n)(b:Bool):Calls prog 99 #[.pointer (some ⟨c,0,none⟩),.int .i64 i,.bool b] w λe w'=>e=.returned (.int .i64 0)/\gy w' c cp n (ins.set i b)/\Upd [cp] w w':=by
 have HC:=zh (zvg h i hi);obtain⟨tc,ht,A0⟩:=h.data;have hl:ins.length=tc.length:=by rw[h.len,ht]
 have A2:i<ins.length:=by rw[h.len];exact hi
 obtain⟨g0,g1,g2⟩:=gf ins tc i hl A2;have k0:=A0.cell g0;have k1:=A0.cell g1;have k2:=A0.cell g2;have f0:=A0.free (i*3);have f1:=A0.free (i*3+1);have f2:=A0.free (i*3+2);have A1:=zld ins tc hl;have l2:i*3+2<(gw ins tc).length:=by omega
 have HE:=zh (zh3 ins tc i b hl A2);have HH:=zh h;have HR:=zh A0;have HT:=zh ht;clear h A0 g0 g1 g2 hl A1;go_enter func99,ntmps99;go_wp2_with fail;go_call HC as e w' ⟨rfl,rfl⟩;go_wp2;go_ret;refine⟨rfl,?_,(((Upd.refl [cp] w).setCell (by simp) _).setCell (by simp) _).setCell (by simp) _⟩;obtain⟨hd,hh,hr⟩:=HH.out.head;refine⟨⟨hd,hh,((hr.setOther (Ne.symm HH.out.ne) _).setOther (Ne.symm HH.out.ne) _).setOther (Ne.symm HH.out.ne) _⟩,⟨tc.set i false,by rw[List.length_set];exact HT.out,?_⟩,by rw[List.length_set];exact HH.len,HH.small,HH.ne⟩;rw[HE.out];exact((HR.set _ _).set _ _).set _ _
theorem z2b(h:gy w c cp n ins)(i:Nat)(hi:i<n):Calls prog 56 #[.pointer (some ⟨c,0,none⟩),.int .i64 i] w λe w'=>∃b,e=.returned (.tuple #[.bool (bAt ins i),.bool b,.bool false])/\Below w.heap.size w w':=by
 have HC:=zh (zvg h i hi);obtain⟨tc,ht,A0⟩:=h.data;obtain⟨g0,g1,g2⟩:=gf ins tc i (by rw[h.len,ht]) (by rw[h.len];exact hi);have k0:=A0.cell g0;have k1:=A0.cell g1;have k2:=A0.cell g2;clear h A0 g0 g1 g2;generalize bAt ins i=b0 at *;generalize bAt tc i=b1 at *;go_enter func56,ntmps56;go_wp2_with fail;go_call HC as e w' ⟨rfl,rfl⟩;go_wp2;go_quiet (fail);go_wp2;go_ret3;exact⟨b1,rfl,by first|exact Zd (Below.refl _ _)|exact⟨rfl,rfl,rfl,Nat.le_refl _,λ_ _=>rfl⟩⟩
theorem z4k(h:gy w c cp n ins)(i:Nat)(hi:i<n):Calls prog 177 #[.pointer (some ⟨cp,i*3,none⟩)] w λe w'=>e=.returned (.bool (bAt ins i))/\w=w':=by
 obtain⟨tc,ht,A0⟩:=h.data;obtain⟨g0,g1,g2⟩:=gf ins tc i (by rw[h.len,ht]) (by rw[h.len];exact hi);have k0:=A0.cell g0;have k2:=A0.cell g2;clear h A0 g0 g1 g2;generalize bAt ins i=b0 at *;cases b0
 all_goals
  go_enter func177,ntmps177;go_wp2;go_ret;exact⟨rfl,rfl⟩
theorem zrb(h:gy w c cp n ins)(i:Nat)(hi:i<n)(hb:bAt ins i=true)(g o cc:Nat)(hg:w.cell? ⟨g,o,none⟩=some (.int .i64 i))(A6:g≠cp) :
 Calls prog 118 #[.pointer (some ⟨c,0,none⟩),.slice (some ⟨g,o,none⟩) 1 cc] w λe w'=>e=.returned (.int .i64 0)/\gy w' c cp n ins/\Upd [cp] w w':=by
 have HC:=zh (zvf h i hi hb);obtain⟨hd,hh,hr⟩:=h.head;obtain⟨tc,ht,A1⟩:=h.data;have hl:ins.length=tc.length:=by rw[h.len,ht]
 have A2:i<ins.length:=by rw[h.len];exact hi
 obtain⟨g0,g1,g2⟩:=gf ins tc i hl A2;have k0:=hr.cell (i:=0) rfl;have k1:=A1.cell g1;have f1:=A1.free (i*3+1);have HE:=zh (zbz ins tc i true hl A2);have HH:=zh h;have HR:=zh A1;have HT:=zh ht;have B2:=h.small;clear h hr A1 g0 g1 g2 hl;go_enter func118,ntmps118;go_wp2;go_loop [15] (λi=>∃k:Nat,k<=1/\i=.int .i64 k) (λi=>1-(intOf i).toNat)
 case atStart=>exact⟨0,Nat.zero_le _,rfl⟩
 case round =>
  obtain⟨k,hk,rfl⟩:=hrel;by_cases A7:k<1
  ·obtain rfl:k=0:=by omega
   go_wp2_with fail;go_call HC as e w' ⟨rfl,rfl⟩;go_wp2;go_round
   case rel=>exact⟨1,by omega,by go_num⟩
   case measure=>simp[intOf]
  ·obtain rfl:k=1:=by omega
   go_wp2;go_loopw [31] (λi' wr=>(∃k:Nat,k<=1/\i'=.int .i64 k)/\Hid (gy wr c cp n ins)/\Hid (Upd [cp] w wr)) (λi _=>1-(intOf i).toNat)
   case atStart=>exact⟨⟨0,Nat.zero_le _,rfl⟩,HH,Upd.refl _ _⟩
   case round =>
    obtain⟨⟨k,hk,rfl⟩,HA,HU⟩:=hrel;by_cases A7:k<1
    ·obtain rfl:k=0:=by omega
     obtain⟨A8,A9,A3⟩:=HA.out.head;obtain⟨tc',A4,A0⟩:=HA.out.data;have hl:ins.length=tc'.length:=by rw[HH.out.len,A4]
     have j0:=A3.cell (i:=0) rfl;have j1:=A0.cell (gf ins tc' i hl A2).2.1;have jf:=A0.free (i*3+1);have jg:=zzy HU.out hg (by simp;exact A6);have HE:=zh (zbz ins tc' i true hl A2);have B0:=zh A3;have A5:=zh A0;have B1:=zh A4;clear A3 A0 hl A4 k0 k1 f1 hg;go_wp2;refine⟨⟨⟨1,by omega,by go_num⟩,⟨⟨A8,A9,B0.out.setOther (Ne.symm HH.out.ne) _⟩,⟨tc'.set i true,by rw[List.length_set];exact B1.out,?_⟩,HH.out.len,HH.out.small,HH.out.ne⟩,HU.out.setCell (by simp) _⟩,by simp[intOf]⟩;rw[HE.out];exact A5.set _ _
    ·obtain rfl:k=1:=by omega
     go_wp2;go_ret;exact⟨rfl,HA,HU⟩
def z2o(c cp n:Nat)(ins:List Bool)(w:World)(e:Ending)(w':World):Prop :=
 gy w' c cp n ins/\Upd [c,cp] w w'/\((∃i:Nat,i<n/\bAt ins i=true/\e=.returned (.tuple #[.int .i64 i,.bool true]))\/((∀i,i<n->bAt ins i=false)/\e=.returned (.tuple #[.int .i64 0,.bool false])))
theorem zx0(h:gy w c cp n ins):Calls prog 154 #[.pointer (some ⟨c,0,none⟩)] w (z2o c cp n ins w):=by
 obtain⟨h0,hh,hr⟩:=h.head;have k0:=hr.cell (i:=0) rfl;have C2:=h.small;obtain⟨tc,ht,A1⟩:=h.data;have B6:=zh (zph.start n h0 (ins:=ins) ht);have HH:=zh h;have HR:=zh hr;have B7:=zh A1;have A4:h0 % n=h0:=Nat.mod_eq_of_lt hh;have HM:=zh A4;clear h hr A1 ht A4;go_enter func154,ntmps154;go_wp2;go_step3;go_wp2;go_step3;go_wp2;go_loopw [4,15] (λfnd i wr=>∃j:Nat,j<=2*n/\i=.int .i64 j/\fnd=.int .i64 (-1)/\Hid (Row wr c 134 [.slice (some ⟨cp,0,none⟩) n n,.int .i64 ((h0+j) % n:Nat)])/\Hid (∃tc',zph n h0 j ins tc'/\Row wr cp 176 (gw ins tc'))/\Hid (Upd [c,cp] w wr)) (λ_ i _=>2*n-(intOf i).toNat)
 case atStart=>exact⟨0,Nat.zero_le _,rfl,rfl,by unfold Hid;rw[Nat.add_zero,HM.out];exact HR,⟨tc,B6,B7⟩,Upd.refl _ _⟩
 case round =>
  obtain⟨j,hj,rfl,rfl,A5,HD,HU⟩:=hrel;by_cases C3:j<2*n
  ·obtain⟨tc',hv,A1⟩:=HD.out;have hp:(h0+j) % n<n:=Nat.mod_lt _ (by omega);have hl:ins.length=tc'.length:=by rw[HH.out.len,hv.len]
   have B4:(h0+j) % n<ins.length:=by rw[HH.out.len];exact hp
   obtain⟨g0,g1,g2⟩:=gf ins tc' _ hl B4;have A6:(((h0+j) % n:Nat):Int)+1=((((h0+j) % n)+1:Nat):Int):=by omega
   have B8:=zh (show((((h0+j) % n)+1) % n:Nat)=(h0+(j+1)) % n by rw[Nat.mod_add_mod];rfl);have q0:=A5.cell (i:=0) rfl;have q1:=A5.cell (i:=1) rfl;have qf:=A5.free 1;have HV:=zh hv;have B0:=zh A1;have B1:=zh (hv.out);have B9:=zh (hv.touch);have HG:=zh (And.intro g0 (And.intro g1 g2));have C0:=zh (zbz ins tc' ((h0+j) % n) false hl B4);clear A1 hv k0 HD hl A6 g0 g1 g2;generalize(h0+j) % n=p at *
   have A7:(((p:Nat):Int)+1) % ((n:Nat):Int)=(((h0+(j+1)) % n:Nat):Int):=by
    rw[<-B8.out,Int.natCast_emod,Int.natCast_add];rfl
   obtain⟨w2,A8⟩:=zx (wr.setCell ⟨c,1,none⟩ (.int .i64 ((((p:Nat):Int)+1) % ((n:Nat):Int))))
   have A2:Hid (Row w2 c 134 [.slice (some ⟨cp,0,none⟩) n n,.int .i64 ((h0+(j+1)) % n:Nat)]):=by
    rw[A8,A7];exact A5.set 1 _
   have A0:Hid (Row w2 cp 176 (gw ins tc')):=by rw[A8];exact B0.setOther HH.ne _
   have B2:Hid (Upd [c,cp] w w2):=by rw[A8];exact HU.out.setCell (by simp) _
   have C1:=zh (Nat.mod_lt (h0+(j+1)) (show 0<n by omega));have A9:Hid (gy w2 c cp n ins):=⟨⟨_,C1,A2⟩,⟨tc',HV.len,A0⟩,HH.len,HH.small,HH.ne⟩;have A3:=zh (z4k A9 p hp);have B5:=zh A8;clear A7 A8;go_wp2_with fail;rw[<-B5.out];clear q0 q1 qf B5;cases hb:bAt ins p with
   | false =>
    rw[hb] at A3;go_call A3 as e w' ⟨rfl,rfl⟩;have B3:=zh (B1 hb);clear hb A3;go_wp2;go_roundw
    case rel=>exact⟨j+1,by omega,by go_num,rfl,A2.out,⟨tc',B3.out,A0.out⟩,B2.out⟩
    case measure=>simp[intOf];omega
   | true =>
    rw[hb] at A3;go_call A3 as e w' ⟨rfl,rfl⟩;have j1:=A0.cell HG.out.2.1;have jf:=A0.free (p*3+1);have HB:=zh hb;clear hb A3;cases ht:bAt tc' p with
    | true =>
     rw[ht] at j1;have B3:=zh (B9 HB ht);clear ht;go_wp2;refine⟨⟨j+1,by omega,by go_num,rfl,A2.out.setOther (Ne.symm HH.out.ne) _,⟨_,B3.out,?_⟩,B2.out.setCell (by simp) _⟩,by simp[intOf];omega⟩;rw[C0.out];exact A0.set _ _
    | false =>
     rw[ht] at j1;clear ht;go_wp2;rw[Exit.noGoto_ret];go_ret2;exact⟨A9,B2,.inl ⟨p,hp,HB,rfl⟩⟩
  ·obtain rfl:j=2*n:=by omega
   have HN:Hid (∀i,i<n->bAt ins i=false):=by
    obtain⟨tc',hv,A1⟩:=HD.out;exact λi hi=>hv.all hh i hi
   have A9:Hid (gy wr c cp n ins):=by
    obtain⟨tc',hv,A1⟩:=HD.out;exact⟨⟨_,Nat.mod_lt _ (by omega),A5.out⟩,⟨tc',hv.len,A1⟩,HH.out.len,HH.out.small,HH.out.ne⟩
   go_wp2
   (try rw[Exit.noGoto_ret])
   go_ret2;exact⟨A9,HU,.inr ⟨HN,rfl⟩⟩
end
end Go.Proofs.YtoeibiahbenpcaaGreatDoor
