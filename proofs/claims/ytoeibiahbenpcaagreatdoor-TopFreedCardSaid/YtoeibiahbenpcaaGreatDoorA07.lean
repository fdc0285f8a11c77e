/- Part. -/
import Derived.Test.YtoeibiahbenpcaaGreatDoorA01
namespace Go.Proofs.YtoeibiahbenpcaaGreatDoor
open RowKit Maps Proofs.Tryz
set_option linter.unusedVariables false
set_option maxRecDepth 99999
set_option maxHeartbeats 9000000
theorem zza:∀(n m:Nat) (f:Nat->Nat),(∀i,i<m->f i<n)->(∀i j,i<m->j<m->f i=f j->i=j)->m<=n
 | 0,m,f,h,_=>by
  rcases Nat.eq_zero_or_pos m with h0|h0
  ·omega
  ·exact absurd (h 0 h0) (by omega)
 | n+1,0,f,_,_=>Nat.zero_le _
 | n+1,m+1,f,h,inj=>by
  have key:m<=n:=zza n m (λi=>if f i=n then f m else f i) (λi hi=>by
   have h1:=h i (by omega);have h2:=h m (by omega);by_cases h3:f i=n
   ·have h4:f m≠n:=λh4=>by have:=inj i m (by omega) (by omega) (h3.trans h4.symm);omega
    simp only[h3,if_true];omega
   ·simp only[h3,if_false];omega) (λi j hi hj he=>by
   by_cases h3:f i=n
   ·by_cases h4:f j=n
    ·exact inj i j (by omega) (by omega) (h3.trans h4.symm)
    ·simp only[h3,h4,if_true,if_false] at he;have:=inj m j (by omega) (by omega) he;omega
   ·by_cases h4:f j=n
    ·simp only[h3,h4,if_true,if_false] at he;have:=inj i m (by omega) (by omega) he;omega
    ·simp only[h3,h4,if_false] at he
     exact inj i j (by omega) (by omega) he)
  omega
def zqm(H:Nat)(id:Int):Nat:=(id.toNat*2654435761 % 18446744073709551616) % H
theorem zm9{H:Nat}(h:0<H)(id:Int):zqm H id<H:=Nat.mod_lt _ h
def ve(H:Nat)(id:Int)(j:Nat):Nat:=(zqm H id+j) % H
theorem zml{H:Nat}(h:0<H)(id:Int)(j:Nat):ve H id j<H:=Nat.mod_lt _ h
theorem zn0{H:Nat}(id:Int){i j:Nat}(hi:i<H)(hj:j<H)(h:ve H id i=ve H id j):i=j:=by
 unfold ve at h;have h0:zqm H id<H:=zm9 (by omega) id;by_cases h1:zqm H id+i<H
 ·rw[Nat.mod_eq_of_lt h1] at h;by_cases h2:zqm H id+j<H
  ·rw[Nat.mod_eq_of_lt h2] at h;omega
  ·rw[Nat.mod_eq_sub_mod (by omega),Nat.mod_eq_of_lt (by omega)] at h;omega
 ·rw[Nat.mod_eq_sub_mod (by omega),Nat.mod_eq_of_lt (by omega)] at h;by_cases h2:zqm H id+j<H
  ·rw[Nat.mod_eq_of_lt h2] at h;omega
  ·rw[Nat.mod_eq_sub_mod (by omega),Nat.mod_eq_of_lt (by omega)] at h;omega
attribute [irreducible] zqm ve
structure zdx(N:Nat)(ids hash:List Int):Prop where
 li:ids.length=N+1
 lh:hash.length=2*N+1
 i0:ids.getD 0 0=0
 pos:∀s,0<=ids.getD s 0/\ids.getD s 0<=9223372036854775807
 hr:∀p,-1<=hash.getD p 0/\hash.getD p 0<=N
 live:∀p,0<hash.getD p 0->ids.getD (hash.getD p 0).toNat 0≠0
 one:∀p q,0<hash.getD p 0->hash.getD p 0=hash.getD q 0->p=q
 path:∀s:Nat,ids.getD s 0≠0->∃j,j<2*N+1/\hash.getD (ve (2*N+1) (ids.getD s 0) j) 0=s/\∀i,i<j->hash.getD (ve (2*N+1) (ids.getD s 0) i) 0≠0
 diff:∀s t:Nat,ids.getD s 0=ids.getD t 0->ids.getD s 0≠0->s=t
def zrm(N:Nat)(ids hash:List Int)(id:Int)(k:Nat):Prop :=
 (∀s,ids.getD s 0≠id)/\hash.getD k 0<=0/\∃j,j<2*N+1/\k=ve (2*N+1) id j/\∀i,i<j->hash.getD (ve (2*N+1) id i) 0≠0
structure zjy(N:Nat)(ids hash:List Int)(id:Int)(i:Nat)(op:Int):Prop where
 no:∀j,j<i->hash.getD (ve (2*N+1) id j) 0≠0/\(0<hash.getD (ve (2*N+1) id j) 0->ids.getD (hash.getD (ve (2*N+1) id j) 0).toNat 0≠id)
 op:(op=-1/\∀j,j<i->0<hash.getD (ve (2*N+1) id j) 0)\/∃j,j<i/\op=(ve (2*N+1) id j:Nat)/\hash.getD (ve (2*N+1) id j) 0=-1
theorem zjy.start(N:Nat)(ids hash:List Int)(id:Int):zjy N ids hash id 0 (-1):=⟨λj hj=>by omega,.inl ⟨rfl,λj hj=>by omega⟩⟩
theorem zjy.gone{N:Nat}{ids hash:List Int}{id:Int}{i:Nat}{op:Int}(h:zjy N ids hash id i op)(hh:hash.getD (ve (2*N+1) id i) 0=-1) :
 zjy N ids hash id (i+1) (if op=-1 then(ve (2*N+1) id i:Nat) else op):=by
 refine⟨λj hj=>?_,?_⟩
 ·by_cases A0:j=i
  ·subst A0;rw[hh];exact⟨by decide,λh=>by omega⟩
  ·exact h.no j (by omega)
 ·by_cases h1:op=-1
  ·rw[if_pos h1];exact .inr ⟨i,by omega,rfl,hh⟩
  ·rw[if_neg h1];rcases h.op with⟨h2,_⟩|⟨j,hj,h2,h3⟩
   ·exact absurd h2 h1
   ·exact .inr ⟨j,by omega,h2,h3⟩
theorem zjy.other{N:Nat}{ids hash:List Int}{id:Int}{i:Nat}{op:Int}(h:zjy N ids hash id i op)(h0:0<hash.getD (ve (2*N+1) id i) 0)(h1:ids.getD (hash.getD (ve (2*N+1) id i) 0).toNat 0≠id) :
 zjy N ids hash id (i+1) op:=by
 refine⟨λj hj=>?_,?_⟩
 ·by_cases A0:j=i
  ·subst A0;exact⟨by omega,λ_=>h1⟩
  ·exact h.no j (by omega)
 ·rcases h.op with⟨h2,h3⟩|⟨j,hj,h2,h3⟩
  ·refine .inl ⟨h2,λj hj=>?_⟩;by_cases A0:j=i
   ·subst A0;exact h0
   ·exact h3 j (by omega)
  ·exact .inr ⟨j,by omega,h2,h3⟩
theorem zjy.absent{N:Nat}{ids hash:List Int}{id:Int}{i:Nat}{op:Int}(g:zdx N ids hash)(hid:id≠0)(h:zjy N ids hash id i op)(hi:i=2*N+1\/hash.getD (ve (2*N+1) id i) 0=0):∀s,ids.getD s 0≠id:=by
 intro s hs;subst hs;obtain⟨j,hj,hp,hz⟩:=g.path s hid;have A2:s≠0:=λh0=>hid (by rw[h0];exact g.i0)
 by_cases A0:j<i
 ·have:=(h.no j A0).2 (by rw[hp];omega);rw[hp] at this;exact this (by simp)
 ·rcases hi with hi|hi
  ·omega
  ·by_cases A1:j=i
   ·subst A1;rw[hp] at hi;omega
   ·exact hz i (by omega) hi
theorem zjy.zero{N:Nat}{ids hash:List Int}{id:Int}{i:Nat}{op:Int}(g:zdx N ids hash)(hid:id≠0)(h:zjy N ids hash id i op)(hi:i<2*N+1)(hz:hash.getD (ve (2*N+1) id i) 0=0) :
 ∃k:Nat,(if op=-1 then((ve (2*N+1) id i:Nat):Int) else op)=k/\zrm N ids hash id k:=by
 have ha:=h.absent g hid (.inr hz);by_cases h1:op=-1
 ·exact⟨_,by rw[if_pos h1],ha,by omega,i,hi,rfl,λj hj=>(h.no j hj).1⟩
 ·rcases h.op with⟨h2,_⟩|⟨j,hj,h2,h3⟩
  ·exact absurd h2 h1
  ·exact⟨_,by rw[if_neg h1,h2],ha,by omega,j,by omega,rfl,λj' A0=>(h.no j' (by omega)).1⟩
theorem zjy.all{N:Nat}{ids hash:List Int}{id:Int}{op:Int}(g:zdx N ids hash)(hid:id≠0)(h:zjy N ids hash id (2*N+1) op) :
 ∃k:Nat,op=k/\zrm N ids hash id k:=by
 have ha:=h.absent g hid (.inl rfl);rcases h.op with⟨h2,h3⟩|⟨j,hj,h2,h3⟩
 ·exfalso
  have:=zza N (2*N+1) (λi=>(hash.getD (ve (2*N+1) id i) 0).toNat-1) (λi hi=>by
   have h4:=h3 i hi;have h5:=(g.hr (ve (2*N+1) id i)).2;omega) (λi j hi hj he=>by
   have h4:=h3 i hi;have h5:=h3 j hj
   exact zn0 id hi hj (g.one _ _ h4 (by omega)))
  omega
 ·exact⟨_,h2,ha,by omega,j,hj,rfl,λj' A0=>(h.no j' (by omega)).1⟩
theorem xm{l:List Int}{i:Nat}(h:i<l.length)(v:Int):(l.set i v).getD i 0=v:=by
 rw[zg,List.getElem?_set_self h];rfl
theorem ju{l:List Int}{i j:Nat}(h:i≠j)(v:Int):(l.set i v).getD j 0=l.getD j 0:=by
 rw[zg,List.getElem?_set_ne h,<-zg]
theorem zdx.bound{N:Nat}{ids hash:List Int}(g:zdx N ids hash){id:Int}{k s:Nat}(h0:0<id)(h1:id<=9223372036854775807)(hf:zrm N ids hash id k)(B1:0<s)(hs:s<=N)(A4:ids.getD s 0=0) :
 zdx N (ids.set s id) (hash.set k s):=by
 obtain⟨ha,B2,j,hj,rfl,hz⟩:=hf;have A7:=g.li;have A6:=g.lh;have A8:s<ids.length:=by omega
 have A9:ve (2*N+1) id j<hash.length:=by rw[A6];exact zml (by omega) _ _
 have A5:=zh (show ∀p,hash.getD p 0≠s from λp hp=>g.live p (by omega) (by rw[hp];simpa using A4));have idS:=zh (xm A8 id);have idO:=zh (λt (h:s≠t)=>ju (l:=ids) h id);have A3:=zh (xm A9 (s:Int));have A0:=zh (λt (h:ve (2*N+1) id j≠t)=>ju (l:=hash) h (s:Int));refine⟨by simp[A7],by simp[A6],?_,λt=>?_,λp=>?_,λp hp=>?_,λp q hp A1=>?_,λt ht=>?_,λt u A2 ht=>?_⟩
 ·rw[idO.out 0 (by omega)];exact g.i0
 ·by_cases h:s=t
  ·subst h;rw[idS.out];omega
  ·rw[idO.out t h];exact g.pos t
 ·by_cases h:ve (2*N+1) id j=p
  ·subst h;rw[A3.out];omega
  ·rw[A0.out p h];exact g.hr p
 ·by_cases h:ve (2*N+1) id j=p
  ·subst h;rw[A3.out,Int.toNat_natCast,idS.out];omega
  ·rw[A0.out p h] at hp ⊢;have:=g.live p hp;rw[idO.out _ (λB3=>A5.out p (by omega))];exact this
 ·by_cases h:ve (2*N+1) id j=p
  ·subst h;by_cases h2:ve (2*N+1) id j=q
   ·exact h2
   ·rw[A3.out,A0.out q h2] at A1;exact absurd A1.symm (A5.out q)
  ·rw[A0.out p h] at hp A1;by_cases h2:ve (2*N+1) id j=q
   ·subst h2;rw[A3.out] at A1;exact absurd A1 (A5.out p)
   ·rw[A0.out q h2] at A1;exact g.one p q hp A1
 ·by_cases h:s=t
  ·subst h;rw[idS.out];refine⟨j,hj,A3.out,λi hi=>?_⟩;rw[A0.out _ (λhe=>by have:=zn0 id hj (by omega) he;omega)];exact hz i hi
  ·rw[idO.out t h] at ht ⊢;obtain⟨m,hm,hp,B0⟩:=g.path t ht;refine⟨m,hm,?_,λi hi=>?_⟩
   ·by_cases h2:ve (2*N+1) id j=ve (2*N+1) (ids.getD t 0) m
    ·rw[<-h2] at hp;exfalso;have:t≠0:=λh0=>ht (by rw[h0];exact g.i0)
     omega
    ·rw[A0.out _ h2];exact hp
   ·by_cases h2:ve (2*N+1) id j=ve (2*N+1) (ids.getD t 0) i
    ·rw[<-h2,A3.out];omega
    ·rw[A0.out _ h2];exact B0 i hi
 ·by_cases h:s=t
  ·subst h;by_cases h2:s=u
   ·exact h2
   ·rw[idS.out,idO.out u h2] at A2;exact absurd A2.symm (ha u)
  ·rw[idO.out t h] at A2 ht;by_cases h2:s=u
   ·subst h2;rw[idS.out] at A2;exact absurd A2 (ha t)
   ·rw[idO.out u h2] at A2;exact g.diff t u A2 ht
theorem zdx.freed{N:Nat}{ids hash:List Int}(g:zdx N ids hash){k s:Nat}(hk:hash.getD k 0=s)(B0:0<s):zdx N (ids.set s 0) (hash.set k (-1)):=by
 have A4:=g.li;have A5:=g.lh
 have A6:k<hash.length:=by
  rcases Nat.lt_or_ge k hash.length with h|h
  ·exact h
  ·rw[zg,List.getElem?_eq_none h] at hk;simp at hk;omega
 have A7:s<ids.length:=by have:=(g.hr k).2;omega
 have A8:=zh (show ∀p,k≠p->hash.getD p 0≠s from λp hp h=>hp (g.one k p (by omega) (by omega)));have idS:=zh (xm A7 0);have idO:=zh (λt (h:s≠t)=>ju (l:=ids) h 0);have A1:=zh (xm A6 (-1));have A0:=zh (λt (h:k≠t)=>ju (l:=hash) h (-1));refine⟨by simp[A4],by simp[A5],?_,λt=>?_,λp=>?_,λp hp=>?_,λp q hp A3=>?_,λt ht=>?_,λt u A2 ht=>?_⟩
 ·rw[idO.out 0 (by omega)];exact g.i0
 ·by_cases h:s=t
  ·subst h;rw[idS.out];omega
  ·rw[idO.out t h];exact g.pos t
 ·by_cases h:k=p
  ·subst h;rw[A1.out];omega
  ·rw[A0.out p h];exact g.hr p
 ·by_cases h:k=p
  ·subst h;rw[A1.out] at hp;omega
  ·rw[A0.out p h] at hp ⊢;rw[idO.out _ (λB1=>A8.out p h (by omega))];exact g.live p hp
 ·by_cases h:k=p
  ·subst h;rw[A1.out] at hp;omega
  ·rw[A0.out p h] at hp A3;by_cases h2:k=q
   ·subst h2;rw[A1.out] at A3;omega
   ·rw[A0.out q h2] at A3;exact g.one p q hp A3
 ·by_cases h:s=t
  ·subst h;rw[idS.out] at ht;exact absurd rfl ht
  ·rw[idO.out t h] at ht ⊢;obtain⟨m,hm,hp,A9⟩:=g.path t ht;refine⟨m,hm,?_,λi hi=>?_⟩
   ·rw[A0.out _ (λhe=>by rw[<-he,hk] at hp;omega)];exact hp
   ·by_cases h2:k=ve (2*N+1) (ids.getD t 0) i
    ·rw[<-h2,A1.out];omega
    ·rw[A0.out _ h2];exact A9 i hi
 ·by_cases h:s=t
  ·subst h;rw[idS.out] at ht;exact absurd rfl ht
  ·rw[idO.out t h] at A2 ht;by_cases h2:s=u
   ·subst h2;rw[idS.out] at A2;exact absurd A2 ht
   ·rw[idO.out u h2] at A2;exact g.diff t u A2 ht
theorem zdx.new(N:Nat):zdx N (List.replicate (N+1) 0) (List.replicate (2*N+1) 0):=by
 have hz:∀m p:Nat,(List.replicate m (0:Int)).getD p 0=0:=λm p=>by
  rw[zg,List.getElem?_replicate];split<;>rfl
 refine⟨by simp,by simp,hz _ _,λs=>by rw[hz];omega,λp=>by rw[hz];omega,λp hp=>by rw[hz] at hp;omega,λp q hp=>by rw[hz] at hp;omega,λs hs=>absurd (hz _ _) hs,λs t _ h=>absurd (hz _ _) h⟩
def live(l:List Int):Nat:=(l.filter (λx=>x != 0)).length
structure zcx(w:World)(t gi gh N:Nat)(l hash:List Int):Prop where
 head:Row w t 131 [.slice (some ⟨gi,0,none⟩) (N+1) (N+1),.slice (some ⟨gh,0,none⟩) (2*N+1) (2*N+1),.int .i64 (live l)]
 ri:Row w gi 3 ((0::l).map (Value.int .i64))
 ra:Row w gh 3 (hash.map (Value.int .i64))
 good:zdx N (0::l) hash
 small:N<=16383
 n1:t≠gi
 n2:t≠gh
 n3:gi≠gh
def Tab(w:World)(t gi gh N:Nat)(l:List Int):Prop:=∃hash,zcx w t gi gh N l hash
theorem zcx.keep{w w':World}{t gi gh N:Nat}{l hash:List Int}(h:zcx w t gi gh N l hash){m:List Nat}(u:Upd m w w')(h1:t∉m)(h2:gi∉m)(h3:gh∉m):zcx w' t gi gh N l hash :=
 ⟨h.head.keep u h1,h.ri.keep u h2,h.ra.keep u h3,h.good,h.small,h.n1,h.n2,h.n3⟩
theorem Tab.keep{w w':World}{t gi gh N:Nat}{l:List Int}(h:Tab w t gi gh N l){m:List Nat}(u:Upd m w w')(h1:t∉m)(h2:gi∉m)(h3:gh∉m):Tab w' t gi gh N l:=by
 obtain⟨hash,h⟩:=h;exact⟨hash,h.keep u h1 h2 h3⟩
theorem z4u(t gi gh N:Nat)(l:List Int)(w:World)(h:Tab w t gi gh N l):Calls prog 70 #[.pointer (some ⟨t,0,none⟩)] w λe w'=>e=.returned (.int .i64 (live l))/\w=w':=by
 obtain⟨hash,h⟩:=h;have k1:=h.head.cell (i:=2) rfl;clear h;go_enter func70,ntmps70;go_wp2;go_ret;exact⟨rfl,rfl⟩
theorem zxl(H:Nat)(id:Int)(h:0<=id)(hH:0<H)(hs:H<=32767):wrap64 ((IntKind.u64.wrap (id*2654435761)).tmod (H:Int))=((zqm H id:Nat):Int):=by
 obtain⟨n,rfl⟩:=Int.eq_ofNat_of_zero_le h;have h1:=zm9 hH (n:Int)
 have h2:(IntKind.u64.wrap ((n:Int)*2654435761)).tmod (H:Int)=((zqm H n:Nat):Int):=by
  rw[IntKind.wrap_u64,Int.tmod_eq_emod_of_nonneg (by omega)];unfold zqm;simp
 rw[h2];unfold wrap64;omega
theorem z52(H:Nat)(id:Int)(h:0<H):ve H id 0=zqm H id:=by
 unfold ve;rw[Nat.add_zero,Nat.mod_eq_of_lt (zm9 h id)]
theorem zr6(H:Nat)(id:Int)(i:Nat):(((ve H id i:Nat):Int)+1) % (H:Int)=((ve H id (i+1):Nat):Int):=by
 unfold ve;rw[show(((zqm H id+i) % H:Nat):Int)+1=(((zqm H id+i) % H+1:Nat):Int) from by simp];rw[<-Int.natCast_emod,Nat.mod_add_mod,Nat.add_assoc]
def zy4(N:Nat)(ids hash:List Int)(id:Int)(w:World)(e:Ending)(w':World):Prop :=
 ∃k:Nat,k<2*N+1/\w=w'/\((e=.returned (.tuple #[.int .i64 k,.bool true])/\∃s:Nat,0<s/\s<=N/\hash.getD k 0=s/\ids.getD s 0=id)\/(e=.returned (.tuple #[.int .i64 k,.bool false])/\zrm N ids hash id k))
theorem ztv{N:Nat}{ids hash:List Int}{id:Int}{k:Nat}(h:zrm N ids hash id k):k<2*N+1:=by
 obtain⟨_,_,j,hj,rfl,_⟩:=h;exact zml (by omega) _ _
theorem zzj(t gi gh N:Nat)(l hash:List Int)(w:World)(h:zcx w t gi gh N l hash)(id:Int)(h0:0<id)(h1:id<=9223372036854775807) :
 Calls prog 105 #[.pointer (some ⟨t,0,none⟩),.int .i64 id] w (zy4 N (0::l) hash id w):=by
 have k0:=h.head.cell (i:=0) rfl;have k1:=h.head.cell (i:=1) rfl;have C0:=h.small;have HI:=zh h.ri;have HA:=zh h.ra;have HG:=zh h.good;generalize 0::l=ids at *;obtain⟨H,hH⟩:=zx (2*N+1);rw[<-hH] at k1;have B3:H<=32767:=by omega
 have A9:0<H:=by omega
 have h2:=zxl H id (by omega) A9 B3;have h3:=z52 H id A9;rw[<-h3] at h2;have H2:=zh h2;clear h3 h2;have A0:=zh hH;have A3:id≠0:=by omega
 clear h hH;go_enter func105,ntmps105;go_wp2;go_step3;go_wp2;go_step3;go_wp2;go_loop [6,7,25] (λo p i=>∃(k:Nat) (op:Int),k<=H/\o=.int .i64 op/\p=.int .i64 (ve H id k)/\i=.int .i64 k/\Hid (zjy N ids hash id k op)) (λ_ _ i=>H-(intOf i).toNat)
 case atStart=>exact⟨0,-1,Nat.zero_le _,rfl,by rw[H2.out],rfl,zjy.start _ _ _ _⟩
 case round =>
  obtain⟨k,op,hk,rfl,rfl,rfl,hs⟩:=hrel;have C1:=zh hk;by_cases B4:k<H
  ·have A8:=zml A9 id k;have A2:=zr6 H id k;have A4:=HG.out.lh;have A5:ve H id k<hash.length:=by rw[A4,<-A0.out];exact A8
   have kc:=HA.cell (zr (k:=.i64) A5);have A1:=HG.hr (ve H id k);obtain⟨v,hv⟩:=zx (hash.getD (ve H id k) 0);rw[<-hv] at kc A1;have HV:=zh hv;obtain⟨p,hp⟩:=zx (ve H id k);obtain⟨p2,B0⟩:=zx (ve H id (k+1));have HP:=zh hp;have B1:=zh B0;rw[<-hp] at A8 A2 kc;rw[<-B0] at A2;rw[<-hp];clear hv hp B0 A4 A5;by_cases B5:v=0
   ·subst B5;have hz:=hs.out.zero HG.out A3 (by rw[<-A0.out];exact B4) (by rw[<-A0.out];exact HV.symm);rw[<-A0.out,<-HP.out] at hz;clear A1 A2;by_cases A6:op=-1
    ·subst A6;obtain⟨q,hq,hf⟩:=hz;rw[if_pos rfl] at hq;have B6:q=p:=by omega
     subst B6;have HF:=zh hf;clear hf hq hs;go_wp2;go_ret2;exact⟨q,by rw[<-A0.out];exact A8,rfl,.inr ⟨rfl,HF⟩⟩
    ·rw[if_neg A6] at hz;obtain⟨q,rfl,hf⟩:=hz;have HF:=zh hf;clear hf hs;go_wp2;go_ret2;exact⟨q,ztv HF,rfl,.inr ⟨rfl,HF⟩⟩
   ·by_cases B7:v=-1
    ·subst B7;have hg:=zh (hs.out.gone (by rw[<-A0.out];exact HV.symm));by_cases A6:op=-1
     ·subst A6;rw[<-A0.out,<-HP.out] at hg;have A7:Hid (zjy N ids hash id (k+1) (p:Int)):=by have:=hg.out;rwa[if_pos rfl] at this
      clear hg hs A1;go_wp2;go_round
      case rel=>exact⟨k+1,_,by omega,rfl,by rw[<-B1.out];exact congrArg _ A2,by go_num,A7⟩
      case measure=>simp[intOf];omega
     ·have A7:Hid (zjy N ids hash id (k+1) op):=by have:=hg.out;rwa[if_neg A6] at this
      clear hg hs A1;go_wp2;go_round
      case rel=>exact⟨k+1,_,by omega,rfl,by rw[<-B1.out];exact congrArg _ A2,by go_num,A7⟩
      case measure=>simp[intOf];omega
    ·obtain⟨s,rfl⟩:=Int.eq_ofNat_of_zero_le (show 0<=v from by omega);have B8:s<N+1:=by omega
     have B9:0<s:=by omega
     have ks:=HI.out.cell (zr (k:=.i64) (show s<ids.length from by rw[HG.out.li];exact B8));have HO:=zh (λh:ids.getD s 0≠id=>hs.out.other (by rw[<-A0.out,<-HV.out];omega) (by rw[<-A0.out,<-HV.out,Int.toNat_natCast];exact h));obtain⟨y,hy⟩:=zx (ids.getD s 0);rw[<-hy] at ks;have HY:=zh hy;clear hy A1 hs;by_cases B2:y=id
     ·subst B2;clear HO A2;go_wp2;go_ret2;exact⟨p,by rw[<-A0.out];exact A8,rfl,.inl ⟨rfl,s,B9,by omega,by rw[HP.out,<-HV.out],HY.out.symm⟩⟩
     ·have A7:=zh (HO.out (by rw[<-HY.out];exact B2));clear HO;go_wp2;go_round
      case rel=>exact⟨k+1,_,by omega,rfl,by rw[<-B1.out];exact congrArg _ A2,by go_num,A7⟩
      case measure=>simp[intOf];omega
  ·obtain rfl:k=H:=by omega
   have hz:=zjy.all HG.out A3 (by rw[<-A0.out];exact hs.out);obtain⟨q,rfl,hf⟩:=hz;have HF:=zh hf;clear hf hs;go_wp2;go_ret2;exact⟨q,ztv HF,rfl,.inr ⟨rfl,HF⟩⟩
def zen(w:World)(k:Int)(e:Ending)(w':World):Prop :=
 if k<0\/16383<k then e=.returned (.tuple #[.pointer none,.int .i64 2])/\w=w'
 else ∃t gi gh,e=.returned (.tuple #[.pointer (some ⟨t,0,none⟩),.int .i64 0])/\w.heap.size<=t/\w.heap.size<=gi/\w.heap.size<=gh/\Tab w' t gi gh k.toNat (List.replicate k.toNat 0)/\Upd [] w w'
theorem zs6(N:Nat):live (List.replicate N 0)=0:=by
 unfold live;rw[List.length_eq_zero_iff,List.filter_eq_nil_iff];intro x hx;rw[List.eq_of_mem_replicate hx];simp
theorem zkv{w wB:World}{N gi gh:Nat}(hN:N<=16383)(h1:Row wB gi 3 (List.replicate (N+1) (.int .i64 0)))(h2:Row wB gh 3 (List.replicate (2*N+1) (.int .i64 0)))(h3:gi≠gh)(h4:w.heap.size<=gi)(h5:w.heap.size<=gh)(u:Upd [] w wB) :
 let w':=wB.alloc (.cells #[.slice (some ⟨gi,0,none⟩) (N+1) (N+1),.slice (some ⟨gh,0,none⟩) (2*N+1) (2*N+1),.int .i64 0] 131)
 w.heap.size<=wB.heap.size/\Tab w' wB.heap.size gi gh N (List.replicate N 0)/\Upd [] w w':=by
 have l1:=h1.lt;have l2:=h2.lt;refine⟨u.size,⟨List.replicate (2*N+1) 0,?_,?_,?_,?_,hN,by omega,by omega,h3⟩,u.alloc _⟩
 ·rw[zs6];exact Row.made _ _ _
 ·rw[show(0:Int)::List.replicate N 0=List.replicate (N+1) 0 from rfl,List.map_replicate];exact h1.alloc _
 ·rw[List.map_replicate];exact h2.alloc _
 ·rw[show(0:Int)::List.replicate N 0=List.replicate (N+1) 0 from rfl];exact zdx.new N
theorem z4s(k:Int)(w:World)(h0:-9223372036854775808<=k)(h1:k<=9223372036854775807):Calls prog 25 #[.int .i64 k] w (zen w k):=by
 by_cases h:k<0
 ·go_enter func25,ntmps25;go_wp2;go_ret2;unfold zen;rw[if_pos (.inl h)];exact⟨rfl,rfl⟩
 ·by_cases h2:16383<k
  ·go_enter func25,ntmps25;go_wp2;go_ret2;unfold zen;rw[if_pos (.inr h2)];exact⟨rfl,rfl⟩
  ·obtain⟨N,rfl⟩:=Int.eq_ofNat_of_zero_le (show 0<=k from by omega);have hN:N<=16383:=by omega
   go_enter func25,ntmps25;go_wp2;refine zb9 (.free 0 (.free 1 (.free 3 (.free 4 (.free 5 (.two 2 6 (.sole 6 (.sole 7 (.sole 8 (.free 9 (.free 10 .fin))))) (.sole 2 (.sole 7 (.sole 8 (.free 9 (.free 10 .fin))))))))))) (by kernel_rfl) (by kernel_rfl) (λ_ _ _ _ _ h=>h) ?_
   (repeat (refine Z7 rfl (λK hK=>?_);go_simp;(try go_bits);refine hK _ ?_;clear hK K))
   refine zd1 rfl rfl ?_ ?_
   ·refine qo ?hw _ _ 25 rfl 3 (.int .i64 0) 8 underlying25 zgl rfl .i64 .i64 _ _ (N+1) rfl rfl ?c1 ?c2 (by omega) (by unfold maxLen;omega) ?_
    case hw=>go_simp
    case c1=>omega
    case c2=>omega
    intro w1 row1 upd1;have l1:=row1.lt;go_wp2;refine Zi rfl ?_;refine qo ?hw _ _ 25 rfl 3 (.int .i64 0) 8 underlying25 zgl rfl .i64 .i64 _ _ (2*N+1) rfl rfl ?c1 ?c2 (by omega) (by unfold maxLen;omega) ?_
    case hw=>go_simp
    case c1=>omega
    case c2=>omega
    intro w2 row2 upd2;have HT:=zh (zkv (w:=w) hN (row1.keep upd2 (by simp)) row2 (by show w.heap.size≠_;exact Nat.ne_of_lt l1) (Nat.le_refl _) (Nat.le_of_lt l1) ((Upd.refl [] w).drew.trans (upd1.trans upd2)));have HL:=zh (Nat.le_of_lt l1);clear row1 upd1 row2 upd2 l1;go_wp2;refine Zi rfl ?_;go_wp2;refine Zi rfl ?_;go_wp2
    (repeat (refine Z7 rfl (λK hK=>?_);go_simp;(try go_bits);refine hK _ ?_;clear hK K))
    refine ce ?_;go_wp2;go_ret2;unfold zen;rw[if_neg (by omega),Int.toNat_natCast];obtain⟨h3,h4,h5⟩:=HT.out;exact⟨_,_,_,rfl,h3,Nat.le_refl _,HL,h4,h5⟩
   ·refine qo ?hw _ _ 25 rfl 3 (.int .i64 0) 8 underlying25 zgl rfl .i64 .i64 _ _ (2*N+1) rfl rfl ?c1 ?c2 (by omega) (by unfold maxLen;omega) ?_
    case hw=>go_simp
    case c1=>omega
    case c2=>omega
    intro w1 row1 upd1;have l1:=row1.lt;go_wp2;refine Zi rfl ?_;refine qo ?hw _ _ 25 rfl 3 (.int .i64 0) 8 underlying25 zgl rfl .i64 .i64 _ _ (N+1) rfl rfl ?c1 ?c2 (by omega) (by unfold maxLen;omega) ?_
    case hw=>go_simp
    case c1=>omega
    case c2=>omega
    intro w2 row2 upd2;have HT:=zh (zkv (w:=w) hN row2 (row1.keep upd2 (by simp)) (by show _≠w.heap.size;exact Nat.ne_of_gt l1) (Nat.le_of_lt l1) (Nat.le_refl _) ((Upd.refl [] w).drew.trans (upd1.trans upd2)));have HL:=zh (Nat.le_of_lt l1);clear row1 upd1 row2 upd2 l1;go_wp2;refine Zi rfl ?_;go_wp2;refine Zi rfl ?_;go_wp2
    (repeat (refine Z7 rfl (λK hK=>?_);go_simp;(try go_bits);refine hK _ ?_;clear hK K))
    refine ce ?_;go_wp2;go_ret2;unfold zen;rw[if_neg (by omega),Int.toNat_natCast];obtain⟨h3,h4,h5⟩:=HT.out;exact⟨_,_,_,rfl,h3,HL,Nat.le_refl _,h4,h5⟩
def vx(l:List Int)(id:Int):Nat:=if id<1 then 0 else match idx l id with|some k=>k+1|none=>0
theorem zjf{l hash:List Int}{N:Nat}(g:zdx N (0::l) hash){id:Int}{s:Nat}(h0:0<id)(A0:0<s)(hs:(0::l).getD s 0=id):vx l id=s:=by
 obtain⟨k,rfl⟩:∃k,s=k+1:=⟨s-1,by omega⟩;rw[List.getD_cons_succ] at hs
 have hk:k<l.length:=by
  rcases Nat.lt_or_ge k l.length with h|h
  ·exact h
  ·rw[zg,List.getElem?_eq_none h] at hs;simp at hs;omega
 have:idx l id=some k:=zoo hk hs (λj hj he=>by
  have:=g.diff (j+1) (k+1) (by rw[List.getD_cons_succ,List.getD_cons_succ,he,hs]) (by rw[List.getD_cons_succ,he];omega)
  omega)
 unfold vx;rw[if_neg (by omega),this]
theorem zqr{l:List Int}{id:Int}(h:∀s,(0::l).getD s 0≠id):vx l id=0:=by
 unfold vx;split
 ·rfl
 ·rw[zop (λj hj=>by have:=h (j+1);rwa[List.getD_cons_succ] at this)]
theorem zgz(t gi gh N:Nat)(l hash:List Int)(w:World)(h:zcx w t gi gh N l hash)(id:Int)(h0:0<id)(h1:id<=9223372036854775807)(s:Nat)(hs:vx l id=s)(A0:0<s) :
 Calls prog 105 #[.pointer (some ⟨t,0,none⟩),.int .i64 id] w λe w'=>∃k:Nat,e=.returned (.tuple #[.int .i64 k,.bool true])/\k<2*N+1/\hash.getD k 0=s/\w=w':=by
 refine(zzj t gi gh N l hash w h id h0 h1).mono ?_;rintro e w' ⟨k,hk,rfl,⟨rfl,s',h2,h3,h4,h5⟩|⟨rfl,hf⟩⟩
 ·have:=zjf h.good h0 h2 h5;exact⟨k,rfl,hk,by rw[h4];omega,rfl⟩
 ·have:=zqr hf.1;omega
theorem zjo(t gi gh N:Nat)(l hash:List Int)(w:World)(h:zcx w t gi gh N l hash)(id:Int)(h0:0<id)(h1:id<=9223372036854775807)(hs:vx l id=0) :
 Calls prog 105 #[.pointer (some ⟨t,0,none⟩),.int .i64 id] w λe w'=>∃k:Nat,e=.returned (.tuple #[.int .i64 k,.bool false])/\k<2*N+1/\zrm N (0::l) hash id k/\w=w':=by
 refine(zzj t gi gh N l hash w h id h0 h1).mono ?_;rintro e w' ⟨k,hk,rfl,⟨rfl,s',h2,h3,h4,h5⟩|⟨rfl,hf⟩⟩
 ·have:=zjf h.good h0 h2 h5;omega
 ·exact⟨k,rfl,hk,hf,rfl⟩
theorem z4p(t gi gh N:Nat)(l:List Int)(w:World)(h:Tab w t gi gh N l)(id:Int)(h1:id<=9223372036854775807) :
 Calls prog 61 #[.pointer (some ⟨t,0,none⟩),.int .i64 id] w λe w'=>e=.returned (.tuple #[.int .i64 (vx l id),.bool (vx l id != 0)])/\w=w':=by
 obtain⟨hash,h⟩:=h;by_cases h0:id<1
 ·have hf:vx l id=0:=by unfold vx;rw[if_pos h0]
  rw[hf];clear h;go_enter func61,ntmps61;go_wp2;go_ret2;exact⟨rfl,rfl⟩
 ·obtain⟨s,hs⟩:∃s,vx l id=s:=⟨_,rfl⟩;rw[hs];have hid:1<=id:=by omega
  by_cases A0:s=0
  ·subst A0;have HC:=zh (zjo t gi gh N l hash w h id (by omega) h1 hs);clear h hs h0;go_enter func61,ntmps61;go_wp2_with (go_at_call 105;go_call HC as e w' ⟨k,rfl,hk,hf,rfl⟩);go_ret2;exact⟨rfl,rfl⟩
  ·have HC:=zh (zgz t gi gh N l hash w h id (by omega) h1 s hs (by omega));have k1:=h.head.cell (i:=1) rfl;have HA:=zh h.ra;have HL:=zh h.good.lh;have A2:=h.small;have A1:(s != 0)=true:=by simpa using A0
   rw[A1];obtain⟨H,hH⟩:=zx (2*N+1);rw[<-hH] at k1 HC HL;clear h hs A1 h0 hH;go_enter func61,ntmps61;go_wp2_with (go_at_call 105;go_call HC as e w' ⟨k,rfl,hk,hf,rfl⟩;have kc:=HA.out.cell (zr (k:=.i64) (show k<hash.length from by rw[HL.out];exact hk));rw[hf] at kc;clear hf);go_ret2;exact⟨rfl,rfl⟩
def zje(l:List Int)(s:Int):Bool:=decide (1<=s) && decide (s<=l.length) && (l.getD (s-1).toNat 0 != 0)
theorem z6p(t gi gh N:Nat)(l:List Int)(w:World)(h:Tab w t gi gh N l)(s:Int)(h0:-9223372036854775808<=s)(h1:s<=9223372036854775807) :
 Calls prog 55 #[.pointer (some ⟨t,0,none⟩),.int .i64 s] w λe w'=>e=.returned (.tuple #[.int .i64 (if zje l s then l.getD (s-1).toNat 0 else 0),.bool (zje l s)])/\w=w':=by
 obtain⟨hash,h⟩:=h;have k0:=h.head.cell (i:=0) rfl;have A1:=h.small;have hl:l.length=N:=by have:=h.good.li;simp at this;exact this
 by_cases hs:s<1
 ·have hf:zje l s=false:=by unfold zje;simp;omega
  rw[hf];clear h hl;go_enter func55,ntmps55;go_wp2;go_ret2;exact⟨rfl,rfl⟩
 ·obtain⟨n,rfl⟩:=Int.eq_ofNat_of_zero_le (show 0<=s from by omega);by_cases hn:(N:Int)<n
  ·have hf:zje l n=false:=by unfold zje;simp;omega
   rw[hf];have hg:((N:Int)+1<=n):=by omega
   clear h hl;go_enter func55,ntmps55;go_wp2;go_ret2;exact⟨rfl,rfl⟩
  ·obtain⟨k,rfl⟩:∃k,n=k+1:=⟨n-1,by omega⟩;have hk:k<l.length:=by omega
   have kc:=h.ri.cell (zr (k:=.i64) (show k+1<(0::l).length from by simp;exact hk));rw[List.getD_cons_succ] at kc
   have hh:zje l ((k+1:Nat):Int)=(l.getD k 0 != 0):=by
    unfold zje;have:(((k+1:Nat):Int)-1).toNat=k:=by omega
    rw[this];have h3:decide (1<=((k+1:Nat):Int))=true:=by simp;omega
    have h4:decide (((k+1:Nat):Int)<=l.length)=true:=by simp;omega
    rw[h3,h4];rfl
   have hv:(((k+1:Nat):Int)-1).toNat=k:=by omega
   rw[hh,hv];have h6:k+1<N+1:=by omega
   generalize l.getD k 0=x at *;clear h hl hh hv hk;obtain⟨m,hm⟩:=zx (k+1);rw[<-hm] at kc h6 hs hn h0 h1 ⊢;clear hm;by_cases hx:x=0
   ·subst hx;go_enter func55,ntmps55;go_wp2;go_ret2;exact⟨rfl,rfl⟩
   ·have A0:(x != 0)=true:=by simpa using hx
    have A2:(x == 0)=false:=by simpa using hx
    rw[A0];clear A0;go_enter func55,ntmps55;go_wp2;go_ret2;exact⟨rfl,rfl⟩
def zrh(l:List Int)(id:Int):List Int:=if id<1 then l else if vx l id≠0 then l else match idx l 0 with|some k=>l.set k id|none=>l
def zrg(l:List Int)(id:Int):Nat:=if id<1 then 0 else if vx l id≠0 then vx l id else match idx l 0 with|some k=>k+1|none=>0
def zri(l:List Int)(id:Int):Int:=if id<1 then 2 else if vx l id≠0 then 0 else match idx l 0 with|some k=>0|none=>3
def zax(t gi gh N:Nat)(l:List Int)(id:Int)(w:World)(e:Ending)(w':World):Prop :=
 e=.returned (.tuple #[.int .i64 (zrg l id),.int .i64 (zri l id)])/\Tab w' t gi gh N (zrh l id)/\Upd [t,gi,gh] w w'
theorem zbb(a:Int)(l:List Int):live (a::l)=(if a=0 then 0 else 1)+live l:=by
 unfold live;by_cases h:a=0
 ·rw[if_pos h,List.filter_cons_of_neg (by simpa using h)];omega
 ·rw[if_neg h,List.filter_cons_of_pos (by simpa using h),List.length_cons];omega
theorem zm3:∀l:List Int,live l<=l.length
 | []=>by simp[live]
 | a::l=>by
  have:=zm3 l;rw[zbb,List.length_cons];split<;>omega
theorem zi2:∀(l:List Int) (k:Nat) (x:Int),k<l.length->live (l.set k x)+(if l.getD k 0=0 then 0 else 1)=live l+(if x=0 then 0 else 1)
 | [],k,x,h=>by simp at h
 | a::l,0,x,h=>by
  rw[List.set_cons_zero,zbb,zbb,List.getD_cons_zero];omega
 | a::l,k+1,x,h=>by
  have:=zi2 l k x (by simpa using h);rw[List.set_cons_succ,zbb,zbb,List.getD_cons_succ];omega
theorem zpa(t gi gh N:Nat)(l:List Int)(w:World)(h:Tab w t gi gh N l):Calls prog 97 #[.slice (some ⟨gi,1,none⟩) N N,.int .i64 0] w λe w'=>e=.returned (.int .i64 (zoq l 0))/\w=w':=by
 obtain⟨hash,h⟩:=h;have hl:l.length=N:=by have:=h.good.li;simp at this;exact this
 have hs:=h.small;refine zjs _ N N l 0 w hl.symm (h.ri.reads (λi u hu=>?_)) (by omega);rw[Nat.add_comm,List.map_cons,List.getElem?_cons_succ];exact hu
theorem z2d(t gi gh N:Nat)(l:List Int)(w:World)(h:Tab w t gi gh N l)(id:Int)(h0:1<=id)(h1:id<=9223372036854775807)(hf:vx l id=0)(k:Nat)(hi:idx l 0=some k) :
 Calls prog 121 #[.pointer (some ⟨t,0,none⟩),.int .i64 id] w λe w'=>e=.returned (.tuple #[.int .i64 (k+1:Nat),.int .i64 0])/\Tab w' t gi gh N (l.set k id)/\Upd [t,gi,gh] w w':=by
 have HX:=zh (zpa t gi gh N l w h);obtain⟨hash,h⟩:=h;have A8:=h.small;have k0:=h.head.cell (i:=0) rfl;have HC:=zh (zjo t gi gh N l hash w h id (by omega) h1 hf);have hv:zoq l 0=k:=by unfold zoq;rw[hi]
 rw[hv] at HX;have hk:=(zk2 hi).1;have hl:l.length=N:=by have:=h.good.li;simp at this;exact this
 have hN:0<N:=by omega
 have C0:N≠0:=by omega
 have C1:k<N:=by omega
 have HH:=zh h;have HI:=zh hi;have C2:(0:Int)<=(k:Int)+1:=by omega
 clear h hv hi hk hl hf;go_enter func121,ntmps121;go_wp2_with fail;go_call HC as e w' ⟨p,rfl,hp,A6,rfl⟩;go_wp2_with fail;go_call HX as e w' ⟨rfl,rfl⟩;have k1:=HH.head.cell (i:=1) rfl;obtain⟨H,hH⟩:=zx (2*N+1);rw[<-hH] at k1 hp;have A9:=zh A6;have A4:=zh hH;clear A6 hH;go_wp2_with fail;refine zm (λx=>x.cell? ⟨t,0,none⟩=some (.slice (some ⟨gi,0,none⟩) (N+1) (N+1))/\x.cell? ⟨t,1,none⟩=some (.slice (some ⟨gh,0,none⟩) H H)) (zp [0,1,2,3,4,5,6,7,8,9,10,11,12,1013,14,1015]) (by kernel_rfl) (by kernel_rfl) (λ_ _ _ _ _ h=>h) ⟨k0,k1⟩ ?_
 (repeat (refine zi rfl (λK hK=>?_);go_simp;(try go_bits);refine hK _ ?_;clear hK K))
 refine zl (.slice (some ⟨gi,0,none⟩) (N+1) (N+1)) rfl rfl (λx hS=>by obtain⟨s0,s1⟩:=hS;go_simp) ?_
 (repeat (refine zi rfl (λK hK=>?_);go_simp;(try go_bits);refine hK _ ?_;clear hK K))
 refine zl (.slice (some ⟨gh,0,none⟩) H H) rfl rfl (λx hS=>by obtain⟨s0,s1⟩:=hS;go_simp) ?_
 (repeat (refine zi rfl (λK hK=>?_);go_simp;(try go_bits);refine hK _ ?_;clear hK K))
 refine zj rfl ?_;have hd:Row w t 131 [.slice (some ⟨gi,0,none⟩) (N+1) (N+1),.slice (some ⟨gh,0,none⟩) H H,.int .i64 (live l)]:=by rw[A4.out];exact HH.head
 have kc0:=HH.out.ri.cell (zr (k:=.i64) (show k+1<(0::l).length from by rw[HH.out.good.li];omega));have kf0:=HH.ri.free (k+1);go_wp2;have n1:=HH.out.n1;have n2:=HH.out.n2;have n3:=HH.out.n3;have A7:p<hash.length:=by rw[HH.out.good.lh,<-A4.out];exact hp
 obtain⟨w1,A0⟩:=zx ((w.setCell ⟨gi,k+1,none⟩ (.int .i64 id)).drew);rw[<-A0];have R1:Row w1 t 131 [.slice (some ⟨gi,0,none⟩) (N+1) (N+1),.slice (some ⟨gh,0,none⟩) H H,.int .i64 (live l)]:=by rw[A0];exact(hd.setOther (Ne.symm n1) _).drew
 have I1:Row w1 gi 3 (((0::l).map (Value.int .i64)).set (k+1) (.int .i64 id)):=by rw[A0];exact(HH.ri.set _ _).drew
 have A1:Row w1 gh 3 (hash.map (Value.int .i64)):=by rw[A0];exact(HH.ra.setOther n3 _).drew
 have U1:Upd [t,gi,gh] w w1:=by rw[A0];exact((Upd.refl _ w).setCell (by simp) _).drew
 refine⟨⟨R1.cell rfl,R1.cell rfl⟩,?_⟩;have kc1:=A1.cell (zr (k:=.i64) A7);have kf1:=A1.free p;have B0:=zh R1;have B1:=zh I1;have B2:=zh A1;have B3:=zh U1;clear A0 kc0 kf0 R1 I1 A1 U1 k0 k1 hd A7
 (repeat (refine zi rfl (λK hK=>?_);go_simp;(try go_bits);refine hK _ ?_;clear hK K))
 refine zj rfl ?_;go_wp2;obtain⟨w2,A3⟩:=zx (w1.setCell ⟨gh,p,none⟩ (.int .i64 ((k:Int)+1)));rw[<-A3];have R2:Row w2 t 131 [.slice (some ⟨gi,0,none⟩) (N+1) (N+1),.slice (some ⟨gh,0,none⟩) H H,.int .i64 (live l)]:=by rw[A3];exact B0.out.setOther (Ne.symm n2) _
 have I2:Row w2 gi 3 (((0::l).map (Value.int .i64)).set (k+1) (.int .i64 id)):=by rw[A3];exact B1.out.setOther (Ne.symm n3) _
 have A2:Row w2 gh 3 ((hash.map (Value.int .i64)).set p (.int .i64 ((k:Int)+1))):=by rw[A3];exact B2.out.set _ _
 have U2:Upd [t,gi,gh] w w2:=by rw[A3];exact B3.out.setCell (by simp) _
 refine⟨⟨R2.cell rfl,R2.cell rfl⟩,zo ?_⟩;have kc2:=R2.cell (i:=2) rfl;have kf2:=R2.free 2;have B4:live l<=16383:=by have:=zm3 l;have h2:=HH.out.good.li;simp at h2;omega
 have A5:=zh (zi2 l k id (by have h2:=HH.out.good.li;simp at h2;omega));have B5:=zh R2;have B6:=zh I2;have B7:=zh A2;have B8:=zh U2;obtain⟨m,hm⟩:=zx (live l);rw[<-hm] at kc2 B4;have HM:=zh hm;clear A3 kc1 kf1 R2 I2 A2 U2 hm;go_wp2;go_ret2;have hz:l.getD k 0=0:=(zk2 HI).2.1
 have B9:live (l.set k id)=live l+1:=by
  have:=A5.out;rw[if_pos hz,if_neg (by omega)] at this;omega
 refine⟨rfl,⟨hash.set p ((k+1:Nat):Int),?_,?_,?_,?_,A8,n1,n2,n3⟩,B8.out.setCell (by simp) _⟩
 ·rw[B9,<-HM.out,<-A4.out];exact B5.out.set 2 _
 ·rw[<-List.set_cons_succ,List.map_set];exact B6.out.setOther n1 _
 ·rw[List.map_set];exact B7.out.setOther n2 _
 ·rw[<-List.set_cons_succ];exact HH.out.good.bound (by omega) h1 A9.out (by omega) (by omega) (by rw[List.getD_cons_succ];exact hz)
theorem z5e(t gi gh N:Nat)(l:List Int)(w:World)(h:Tab w t gi gh N l)(id:Int)(h1:id<=9223372036854775807) :
 Calls prog 121 #[.pointer (some ⟨t,0,none⟩),.int .i64 id] w (zax t gi gh N l id w):=by
 by_cases h0:id<1
 ·have HH:=zh h;clear h;go_enter func121,ntmps121;go_wp2;go_ret2;unfold zax zrg zri zrh;rw[if_pos h0,if_pos h0,if_pos h0];exact⟨rfl,HH,Upd.refl _ _⟩
 ·obtain⟨s,hs⟩:∃s,vx l id=s:=⟨_,rfl⟩;have hid:1<=id:=by omega
  by_cases A0:s=0
  ·subst A0;cases hi:idx l 0 with
   | some k =>
    refine(z2d t gi gh N l w h id hid h1 hs k hi).mono ?_;rintro e w' ⟨rfl,h2,h3⟩;unfold zax zrg zri zrh;rw[if_neg h0,if_neg h0,if_neg h0,hs];simp only[ne_eq,not_true_eq_false,if_false,hi];exact⟨trivial,h2,h3⟩
   | none =>
    have hp:∀e w',e=Ending.returned (.tuple #[.int .i64 0,.int .i64 3])/\w=w'->zax t gi gh N l id w e w':=by
     rintro e w' ⟨rfl,rfl⟩;unfold zax zrg zri zrh;rw[if_neg h0,if_neg h0,if_neg h0,hs];simp only[ne_eq,not_true_eq_false,if_false,hi];exact⟨rfl,h,Upd.refl _ _⟩
    refine Calls.mono (R:=λe w'=>e=Ending.returned (.tuple #[.int .i64 0,.int .i64 3])/\w=w') ?_ hp;have hv:zoq l 0=-1:=by unfold zoq;rw[hi]
    have HX:=zh (zpa t gi gh N l w h);rw[hv] at HX;obtain⟨hash,h⟩:=h;have A2:=h.small;have k0:=h.head.cell (i:=0) rfl;have HC:=zh (zjo t gi gh N l hash w h id (by omega) h1 hs);clear h hv hi hs hp h0;by_cases hN:N=0
    ·subst hN;have HZ:=zh (zjs (some ⟨gi,0,none⟩) 0 0 [] 0 w rfl (zv.empty (λh=>by cases h)) (by omega));go_enter func121,ntmps121;go_wp2_with fail;go_call HC as e w' ⟨p,rfl,hp,A1,rfl⟩;clear A1;go_wp2_with fail;go_call HZ as e w' ⟨rfl,rfl⟩;rw[show zoq [] 0=-1 from rfl];go_wp2;go_ret2;exact⟨rfl,rfl⟩
    ·have A3:0<N:=by omega
     go_enter func121,ntmps121;go_wp2_with fail;go_call HC as e w' ⟨p,rfl,hp,A1,rfl⟩;clear A1;go_wp2_with fail;go_call HX as e w' ⟨rfl,rfl⟩;go_wp2;go_ret2;exact⟨rfl,rfl⟩
  ·have hp:∀e w',e=Ending.returned (.tuple #[.int .i64 s,.int .i64 0])/\w=w'->zax t gi gh N l id w e w':=by
    rintro e w' ⟨rfl,rfl⟩;unfold zax zrg zri zrh;rw[if_neg h0,if_neg h0,if_neg h0,hs,if_pos A0,if_pos A0,if_pos A0];exact⟨rfl,h,Upd.refl _ _⟩
   refine Calls.mono (R:=λe w'=>e=Ending.returned (.tuple #[.int .i64 s,.int .i64 0])/\w=w') ?_ hp;obtain⟨hash,h⟩:=h;have HC:=zh (zgz t gi gh N l hash w h id (by omega) h1 s hs (by omega));have k1:=h.head.cell (i:=1) rfl;have HA:=zh h.ra;have HL:=zh h.good.lh;have A2:=h.small;obtain⟨H,hH⟩:=zx (2*N+1);rw[<-hH] at k1 HC HL;clear h hs h0 hH hp;go_enter func121,ntmps121;go_wp2_with (go_at_call 105;go_call HC as e w' ⟨k,rfl,hk,hf,rfl⟩;have kc:=HA.out.cell (zr (k:=.i64) (show k<hash.length from by rw[HL.out];exact hk));rw[hf] at kc;clear hf);go_ret2;exact⟨rfl,rfl⟩
end Go.Proofs.YtoeibiahbenpcaaGreatDoor
