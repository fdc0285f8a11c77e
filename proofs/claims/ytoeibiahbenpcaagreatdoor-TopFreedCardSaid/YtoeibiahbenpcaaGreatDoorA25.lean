/- Part. -/
import Derived.Test.YtoeibiahbenpcaaGreatDoorA08
import Derived.Test.YtoeibiahbenpcaaGreatDoorA15
import Derived.Test.YtoeibiahbenpcaaGreatDoorA24
namespace Go.Proofs.YtoeibiahbenpcaaGreatDoor
open RowKit Maps Proofs.Tryz
set_option linter.unusedVariables false
set_option maxRecDepth 99999
set_option maxHeartbeats 9000000
theorem z2e{a b:Blk}(h:a.row=b.row):a=b:=by
 obtain⟨a1,a2,a3⟩:=a;obtain⟨b1,b2,b3⟩:=b;unfold Blk.row at h;simp at h;obtain⟨h1,h2,h3⟩:=h;have e1:a1=b1:=by omega
 have e2:a2=b2:=by omega
 rw[e1,e2,h3]
theorem zlf:∀ {xs ys:List Blk},xs.length=ys.length->Z8 xs=Z8 ys->xs=ys
 | [],[],_,_=>rfl
 | [],y::ys,h,_=>by simp at h
 | x::xs,[],h,_=>by simp at h
 | x::xs,y::ys,h,e=>by
  have e2:x.row++Z8 xs=y.row++Z8 ys:=e;obtain⟨h1,h2⟩:=List.append_inj e2 rfl;rw[z2e h1,zlf (by simpa using h) h2]
theorem zz0{xs ys:List Int}(h:xs.map (Value.int .u16)=ys.map (Value.int .u16)):xs=ys:=by
 refine List.map_inj_right (λa b A0=>?_) |>.1 h;cases A0;rfl
theorem HX.one{w:World}{B h g:Nat}{S S':HpS}(a:HX w B h g S)(b:HX w B h g S'):S=S':=by
 obtain⟨v,a⟩:=a;obtain⟨u,b⟩:=b;have h1:w.heap[h]?=_:=a.head;rw[show w.heap[h]?=_ from b.head] at h1;have h2:w.heap[g]?=_:=a.data;rw[show w.heap[g]?=_ from b.data] at h2;simp at h1 h2;obtain⟨hN,hv⟩:=h1;subst hv;have e2:=zz0 (xs:=S'.ws) (ys:=S.ws) (by simpa using h2)
 have e3:S.bl=S'.bl:=by
  have o1:=a.own;have o2:=b.own;obtain⟨p,c,rfl,r1,_⟩:=zk o1
  have hl:S.bl.length=S'.bl.length:=by
   obtain⟨p2,c2,A0,_⟩:=zk o2;simp at A0;exact A0.2.1
  refine zlf hl ?_;rcases o1.2 with⟨q1,q2⟩|⟨g1,cap,cur,q1,_,q2,_,_,_,q3⟩
  ·rcases o2.2 with⟨p1,p2⟩|⟨g2,cap2,cur2,p1,_⟩
   ·have:S.bl=[]:=List.eq_nil_of_length_eq_zero q2;have h':S'.bl=[]:=List.eq_nil_of_length_eq_zero p2;rw[this,h']
   ·rw[q1] at p1;cases p1
  ·rcases o2.2 with⟨p1,p2⟩|⟨g2,cap2,cur2,p1,_,p2,_,_,_,p3⟩
   ·rw[p1] at q1;cases q1
   ·rw[p1] at q1;simp at q1;obtain⟨rfl,-,-⟩:=q1;rw[q2] at p2;cases p2
    rw[<-q3,<-p3,hl]
 obtain⟨N,ws,bl⟩:=S;obtain⟨N',ws',bl'⟩:=S';simp only at hN e2 e3;subst e2;subst e3;congr 1;omega
def vOf(S:HpS)(k:Nat):Option (List Int):=if usd S k then some ((List.range (nOf S k)).map (word S k)) else none
theorem ze4{S:HpS}{k:Nat}{ws:List Int}(h:vOf S k=some ws):k∈qp S/\ws.length=nOf S k/\∀i,i<nOf S k->ws.getD i 0=word S k i:=by
 unfold vOf at h;split at h
 ·next hu =>
  cases h
  refine⟨Zf.2 hu,by simp,λi hi=>?_⟩;rw[zg,List.getElem?_map,List.getElem?_range hi];rfl
 ·cases h
theorem zal{S:HpS}{k:Nat}:vOf S k=none↔k∉qp S:=by
 unfold vOf;rw[Zf];cases usd S k<;>simp
theorem z3l{S:HpS}{k:Nat}{ws:List Int}(hu:usd S k=true)(hl:ws.length=nOf S k)(hw:∀i,i<nOf S k->ws.getD i 0=word S k i):vOf S k=some ws:=by
 unfold vOf;rw[if_pos hu];congr 1;refine List.ext_getElem? (λi=>?_);by_cases hi:i<nOf S k
 ·rw[List.getElem?_map,List.getElem?_range hi];have:=hw i hi;rw[zg,ze (by omega)] at this;rw[ze (by omega)];simp at this ⊢;rw[this]
 ·rw[List.getElem?_eq_none (by simp;omega),List.getElem?_eq_none (by omega)]
structure HV(w:World)(B h g NW:Nat)(V:Nat->Option (List Int))(bn:Nat):Prop where
 at_:∃S,HI w B h g S/\S.N=NW/\V=vOf S/\S.bl.length<=bn
theorem HV.below{w w':World}{B h g NW:Nat}{V:Nat->Option (List Int)}{bn:Nat}(H:HV w B h g NW V bn)(hb:Below w.heap.size w w'):HV w' B h g NW V bn:=by
 obtain⟨S,h1,h2⟩:=H.at_;exact⟨S,h1.below hb,h2⟩
def zdw(w:World)(B h g:Nat):Prop:=∀S L,HI w B h g S->zl1 S L->cm (Zs S L)=gx (Zs S L)
section
variable{w:World}{B h g NW bn:Nat}{V:Nat->Option (List Int)}
theorem z01(H:HV w B h g NW V bn){k:Nat}{ws:List Int}(hk:V k=some ws):Calls prog 52 #[.pointer (some ⟨h,0,none⟩),.int .i64 k] w λe w'=>e=.returned (.int .i64 ws.length)/\w=w':=by
 obtain⟨S,h1,rfl,rfl,-⟩:=H.at_;obtain⟨hu,hl,-⟩:=ze4 hk;rw[hl];exact z3h h1 hu
theorem zed(H:HV w B h g NW V bn){k:Nat}{ws:List Int}(hk:V k=some ws)(i:Nat)(hi:i<ws.length):Calls prog 32 #[.pointer (some ⟨h,0,none⟩),.int .i64 k,.int .i64 i] w λe w'=>e=.returned (.tuple #[.int .i64 (ws.getD i 0),.int .i64 0])/\Below w.heap.size w w':=by
 obtain⟨S,h1,rfl,rfl,-⟩:=H.at_;obtain⟨hu,hl,hw⟩:=ze4 hk;rw[hw i (by omega)];exact z3j h1 hu i (by omega)
theorem z03(H:HV w B h g NW V bn){k:Nat}{ws:List Int}(hk:V k=some ws):Calls prog 98 #[.pointer (some ⟨h,0,none⟩),.int .i64 k] w λe w'=>e=.returned (.int .i64 0)/\HV w' B h g NW (upF V k none) bn/\zai B w w':=by
 obtain⟨S,h1,rfl,rfl,A0⟩:=H.at_;obtain⟨hu,hl,hw⟩:=ze4 hk;obtain⟨vb,hx⟩:=h1.at_;obtain⟨hm,A1⟩:=zfz (Zf.1 hu);refine(zu8 hx k hm A1).mono ?_;rintro e w' ⟨rfl,A2,A3⟩;refine⟨rfl,⟨zcr S k,⟨⟨vb,A2⟩,zxf h1.inv k⟩,(znf S k).1,?_,by rw[(znf S k).2];exact A0⟩,A3⟩;have A4:(zcr S k).ws=S.ws:=by unfold zcr;split<;>rfl
 funext j;obtain⟨a1,a2,a3⟩:=zfe S k j;unfold upF;by_cases hj:j=k
 ·subst hj;rw[if_pos rfl];symm;rw[zal,Zf];unfold usd;rw[zgp,if_pos rfl];cases S.bl[j]?<;>simp
 ·rw[if_neg hj];have A5:usd (zcr S k) j=usd S j:=by unfold usd;rw[zgp,if_neg hj]
  unfold vOf word;rw[A5,a2,a1,A4]
theorem Inv.off{S:HpS}(hI:Inv S){k j:Nat}(hk:k∈qp S)(hj:j∈qp S)(A0:k≠j){a b:Nat}(ha:a<nOf S k)(hb:b<nOf S j):z7 S k+a≠z7 S j+b:=by
 rcases hI.apart k hk j hj A0 (by omega) (by omega) with h|h<;>omega
theorem zor(H:HV w B h g NW V bn){k:Nat}{ws:List Int}(hk:V k=some ws)(i:Nat)(a:Option Addr)(n c:Nat)(l:List Int)(e0:n=l.length)(hn:i+n<=ws.length)(hr:zv w a c (l.map (Value.int .i64)))(hg:∀x,a=some x->x.block≠g)(hl:∀x∈l,0<=x/\x<=65535) :
 Calls prog 35 #[.pointer (some ⟨h,0,none⟩),.int .i64 k,.int .i64 i,.slice a n c] w λe w'=>e=.returned (.int .i64 0)/\HV w' B h g NW (upF V k (some (splice ws i l))) bn/\zai B w w':=by
 obtain⟨S,h1,rfl,rfl,A7⟩:=H.at_;obtain⟨hu,A2,hw⟩:=ze4 hk;obtain⟨vb,hx⟩:=h1.at_;obtain⟨hm,A5⟩:=zfz (Zf.1 hu);obtain⟨hf,hN⟩:=h1.blk hm A5;have e1:=(gq hm).1;have e2:=(gq hm).2;have A3:zwk l=false:=zpf.2 hl;refine(zu6 hx k hm A5 hf i a n c l e0 (by rw[e2];omega) hr hg A3).mono ?_;rintro e w' ⟨rfl,A6,A8⟩;rw[e1] at A6;refine⟨rfl,⟨wsS S (z7 S k+i) l,⟨⟨vb,A6⟩,z30 h1.inv _ _⟩,rfl,?_,A7⟩,A8⟩;have B0:S.ws.length=S.N:=hx.len;have A9:=h1.inv.fit k hu;funext j
 have A0:∀j t,word (wsS S (z7 S k+i) l) j t=if z7 S j+t<z7 S k+i then word S j t else if z7 S j+t<z7 S k+i+l.length then l.getD (z7 S j+t-(z7 S k+i)) 0 else word S j t:=λj t=>by
  unfold word;show(splice S.ws (z7 S k+i) l).getD (z7 S j+t) 0=_
  simp only[List.getD_eq_getElem?_getD];rw[qe _ _ _ (by omega)];split
  ·rfl
  ·split<;>rfl
 unfold upF;by_cases hj:j=k
 ·subst hj;rw[if_pos rfl];symm;refine z3l (Zf.1 hu) (by rw[ye _ _ _ (by omega)];exact A2) (λt ht=>?_);have A4:t<nOf S j:=ht;rw[A0,zg,qe _ _ _ (by omega)];have h3:=hw t A4;rw[zg] at h3;by_cases c1:t<i
  ·have d1:z7 S j+t<z7 S j+i:=by omega
   rw[if_pos c1,if_pos d1];exact h3
  ·have d1:¬z7 S j+t<z7 S j+i:=by omega
   rw[if_neg c1,if_neg d1];by_cases c2:t<i+l.length
   ·have d2:z7 S j+t<z7 S j+i+l.length:=by omega
    rw[if_pos c2,if_pos d2,zg];congr 2;omega
   ·have d2:¬z7 S j+t<z7 S j+i+l.length:=by omega
    rw[if_neg c2,if_neg d2];exact h3
 ·rw[if_neg hj];unfold vOf;by_cases A1:usd S j=true
  ·rw[if_pos A1,if_pos (show usd (wsS S (z7 S k+i) l) j=true from A1)];congr 1;refine List.map_congr_left (λt ht=>?_);have A4:t<nOf S j:=List.mem_range.1 ht;rw[A0];by_cases c1:z7 S j+t<z7 S k+i
   ·rw[if_pos c1]
   ·rw[if_neg c1];by_cases c2:z7 S j+t<z7 S k+i+l.length
    ·exfalso;have:=h1.inv.off hu (Zf.2 A1) (λe=>hj e.symm) (a:=z7 S j+t-z7 S k) (b:=t) (by omega) A4;omega
    ·rw[if_neg c2]
  ·rw[if_neg A1,if_neg (show ¬usd (wsS S (z7 S k+i) l) j=true from A1)]
theorem zwo{ks:List Nat}{S:HpS}(hk:∀k,vOf S k≠none->k∈ks):(qp S).length<=ks.length :=
 Z4 (vj _ _) (λk hm=>hk k (λe=>(zal.1 e) hm))
theorem ztu(S:HpS)(h:zz S=S.bl.length):S.bl.length<=(qp S).length:=by
 have h1:∀k,k<S.bl.length->k∈qp S:=λk hk=>by
  rw[Zf];unfold usd;rw[ze hk];have h2:k<zz S:=by omega
  have h3:=List.not_of_lt_findIdx (p:=λb:Blk=>!b.used) (xs:=S.bl) (i:=k) h2;simpa using h3
 have h2:=Z4 (l:=List.range S.bl.length) (m:=qp S) List.nodup_range (λk hk=>h1 k (List.mem_range.1 hk));simpa using h2
theorem zxk(H:HV w B h g NW V bn)(ks:List Nat)(A4:∀k,V k≠none->k∈ks)(A5:ks.length+1<=bn)(B2:bn<=900)(n:Nat)(hn:n<=1000000) :
 Calls prog 174 #[.pointer (some ⟨h,0,none⟩),.int .i64 n] w λe w'=>zai B w w'/\
  (
   (∃k ws,e=.returned (.tuple #[.int .i64 (k:Nat),.int .i64 0])/\V k=none/\ws.length=n/\HV w' B h g NW (upF V k (some ws)) bn)\/
   (e=.returned (.tuple #[.int .i64 0,.int .i64 3])/\HV w' B h g NW V bn/\(zdw w B h g->zdw w' B h g)/\¬((∀k,V k=none)/\n<=NW))):=by
 obtain⟨S,h1,rfl,rfl,hb⟩:=H.at_;obtain⟨vb,hx⟩:=h1.at_;have B3:S.ws.length=S.N:=hx.len;refine(zyg hx (h1.ok (by omega)) h1.ords n (by omega) (by omega)).mono ?_;rintro e w' ⟨L,hL,hu,⟨p,vb',hp,rfl,A2⟩|⟨hp,rfl,A2⟩⟩
 ·refine⟨hu,.inl ⟨zz S,(List.range n).map (word (yv S p n) (zz S)),rfl,?_,by simp,⟨yv S p n,⟨⟨vb',A2⟩,zgi h1.inv hL hp⟩,rfl,?_,?_⟩⟩⟩
  ·rw[zal,Zf,zgr];simp
  ·have B4:p+n<=S.N:=by
    have h2:=(zgi h1.inv hL hp).fit (zz S) (Zf.2 (by rw[kb];simp));rw[vt,gu,if_pos rfl,if_pos rfl] at h2;exact h2
   funext j;unfold upF;by_cases hj:j=zz S
   ·rw[if_pos hj];unfold vOf;rw[kb,gu,hj];simp
   ·rw[if_neg hj];unfold vOf;rw[kb,gu];simp only[hj,decide_false,Bool.false_or,if_false];by_cases A0:usd S j=true
    ·rw[if_pos A0,if_pos A0];congr 1;refine List.map_congr_left (λt ht=>?_);have A6:t<nOf S j:=List.mem_range.1 ht;unfold word;rw[vt,if_neg hj];show _=(splice S.ws p (List.replicate n 0)).getD (z7 S j+t) 0
     have B5:=h1.inv.fit j (Zf.2 A0)
     have A3:∀b,b<n->z7 S j+t≠p+b:=λb A7=>by
      have h3:=(zgi h1.inv hL hp).off (k:=j) (j:=zz S) (Zf.2 (by rw[kb];simp[A0])) (Zf.2 (by rw[kb];simp)) hj (a:=t) (b:=b) (by rw[gu,if_neg hj];exact A6) (by rw[gu,if_pos rfl];exact A7);rw[vt,vt,if_neg hj,if_pos rfl] at h3;exact h3
     simp only[List.getD_eq_getElem?_getD];rw[qe _ _ _ (by simp;omega)];by_cases c1:z7 S j+t<p
     ·rw[if_pos c1]
     ·rw[if_neg c1];by_cases c2:z7 S j+t<p+(List.replicate n (0:Int)).length
      ·exfalso;simp at c2;exact A3 (z7 S j+t-p) (by omega) (by omega)
      ·rw[if_neg c2]
    ·rw[if_neg A0,if_neg A0]
  ·have h2:=zwo A4;have h3:=ztu S;have h4:=zk9 S;unfold yv;simp only;split
   ·rw[List.length_set];exact hb
   ·have:=h3 (by omega);rw[List.length_append];simp;omega
 ·refine⟨hu,.inr ⟨rfl,⟨S,⟨⟨vb,A2⟩,h1.inv⟩,rfl,rfl,hb⟩,λA8 S2 L2 h2 o2=>?_,?_⟩⟩
  ·have:=HX.one h2.at_ ⟨vb,A2⟩;subst this;exact A8 S2 L2 h1 o2
  rintro⟨A1,A9⟩
  have B0:L=[]:=by
   cases B1:L with
   | nil=>rfl
   | cons a L2=>exact absurd (hL.1.mem_iff.1 (by rw[B1];simp)) (zal.1 (A1 a))
  subst B0;unfold Zy at hp;by_cases h0:n=0
  ·rw[if_pos h0] at hp;cases hp
  ·rw[if_neg h0] at hp
   have hg:Zs S []=[(0,S.N)]:=by
    unfold Zs;rw[if_pos (show(Zk S []).2<S.N by show 0<S.N;omega)];rfl
   rw[hg] at hp;simp[A9] at hp
theorem z02(H:HV w B h g NW V bn)(A8:bn<=900):Calls prog 175 #[.pointer (some ⟨h,0,none⟩)] w λe w'=>∃al mo:Nat,e=.returned (.tuple #[.int .i64 al,.int .i64 mo])/\al<=1000000/\mo<=1000000/\(zdw w B h g->mo=al)/\((∀k,V k=none)->al=NW)/\Below w.heap.size w w':=by
 obtain⟨S,h1,rfl,rfl,hb⟩:=H.at_;obtain⟨vb,hx⟩:=h1.at_;refine(z3i h1 (by omega)).mono ?_;rintro e w' ⟨L,hL,rfl,A1⟩;have A2:=zbu h1.inv hL;obtain⟨A3,A9⟩:=zne A2 (λk hk=>h1.inv.fit k (hL.1.mem_iff.1 hk));have B0:=hx.small;have A4:=(zjx (Zs S L) (N:=S.N) (λx A5=>(A3 x A5).2.1) (Zs S L).length (Nat.le_refl _)).2;rw[List.take_length] at A4;refine⟨_,_,rfl,by omega,by omega,λhp=>hp S L h1 hL,λA0=>?_,A1⟩
 have A6:L=[]:=by
  cases A7:L with
  | nil=>rfl
  | cons a L2=>exact absurd (hL.1.mem_iff.1 (by rw[A7];simp)) (zal.1 (A0 a))
 subst A6;have:zck S []=0:=rfl;omega
theorem zql(H:HV w B h g NW V bn)(A5:bn<=900):Calls prog 176 #[.pointer (some ⟨h,0,none⟩)] w λe w'=>∃k:Nat,e=.returned (.int .i64 k)/\HV w' B h g NW V bn/\zdw w' B h g/\zai B w w':=by
 obtain⟨S,h1,rfl,rfl,hb⟩:=H.at_;refine(zrs h1 (by omega)).mono ?_;rintro e w' ⟨L,hL,rfl,A0,hm,-,hu⟩;refine⟨_,rfl,⟨_,⟨A0,hm.inv⟩,hm.N,?_,by rw[hm.bl];exact hb⟩,?_,hu⟩
 ·funext k;unfold vOf
  have A1:usd (Zp S L).1 k=usd S k:=by
   have h2:k∈qp (Zp S L).1↔k∈qp S:=by rw[hm.used]
   rw[Zf,Zf] at h2;cases ha:usd S k<;>cases A2:usd (Zp S L).1 k<;>simp[ha,A2] at h2 ⊢
  rw[A1,hm.n];by_cases hk:usd S k=true
  ·rw[if_pos hk,if_pos hk];congr 1;refine List.map_congr_left (λt ht=>?_);exact(hm.word k (hL.1.mem_iff.2 (Zf.2 hk)) t (List.mem_range.1 ht)).symm
  ·rw[if_neg hk,if_neg hk]
 ·intro S2 L2 A3 A4;have:=HX.one A3.at_ A0;subst this;obtain⟨a1,a2,-⟩:=zmz hm h1.inv hL A4;omega
theorem ztn(H:HV w B h g NW V bn):Calls prog 58 #[.pointer (some ⟨h,0,none⟩)] w λe w'=>∃v U,e=.returned v/\w'.ownsRow w.heap.size 3 1 v (List.length U) (List.map z5x U)/\U.Nodup/\(∀k,k∈U↔V k≠none)/\Below w.heap.size w w':=by
 obtain⟨S,h1,rfl,rfl,hb⟩:=H.at_;refine(zwl h1).mono ?_;rintro e w' ⟨v,rfl,own,A0⟩;exact⟨v,qp S,rfl,own,vj _ _,λk=>by rw[Ne,zal,Classical.not_not],A0⟩
end
structure LmI where
 m:Nat
 sl:Nat
 I:qy
 B:Nat
 h:Nat
 g:Nat
 t:Nat
 gi:Nat
 gh:Nat
 c:Nat
 cp:Nat
def LmI.fix(J:LmI):List Nat:=J.m::J.sl::J.t::J.gi::J.gh::J.c::J.cp::J.I.all
def zid(t:TypeId):Prop:=zl8 t\/t=86
instance(t:TypeId):Decidable (zid t):=by unfold zid;exact inferInstance
structure LU(J:LmI)(w w':World):Prop where
 os:w'.os=w.os
 tape:w'.tape=w.tape
 output:w'.output=w.output
 size:w.heap.size<=w'.heap.size
 block:∀k,k<w.heap.size->k∉J.fix->(k<J.B\/∀cs t r,w.heap[k]?=some (.cells cs t r)->¬zid t)->w'.heap[k]?=w.heap[k]?
theorem LU.refl(J:LmI)(w:World):LU J w w:=⟨rfl,rfl,rfl,Nat.le_refl _,λ_ _ _ _=>rfl⟩
theorem LU.trans{J:LmI}{a b c:World}(h:LU J a b)(k:LU J b c):LU J a c :=
 ⟨k.os.trans h.os,k.tape.trans h.tape,k.output.trans h.output,Nat.le_trans h.size k.size,λi hi hn ht=>by
  have e:=h.block i hi hn ht
  exact(k.block i (Nat.lt_of_lt_of_le hi h.size) hn (by rw[e];exact ht)).trans e⟩
theorem LU.of_below{J:LmI}{a b:World}(h:Below a.heap.size a b):LU J a b:=⟨h.os,h.tape,h.output,h.size,λi hi _ _=>h.block i hi⟩
theorem LU.of_upd{J:LmI}{l:List Nat}{a b:World}(h:Upd l a b)(hl:∀k∈l,k∈J.fix\/(J.B<=k/\∃t xs,Row a k t xs/\zid t)):LU J a b :=
 ⟨h.os,h.tape,h.output,h.size,λi hi hn ht=>h.block i hi (λhm=>by
  rcases hl i hm with h1|⟨h1,t,xs,h2,h3⟩
  ·exact hn h1
  ·rcases ht with ht|ht
   ·omega
   ·exact ht _ _ _ h2 h3)⟩
theorem LU.of_hupd{J:LmI}{a b:World}(h:zai J.B a b):LU J a b :=
 ⟨h.os,h.tape,h.output,h.size,λi hi hn ht=>h.block i hi (ht.imp id (λht cs t r he hm=>ht cs t r he (.inl hm)))⟩
theorem LU.upd{J:LmI}{a b:World}(h:LU J a b):∃l,Upd l a b/\∀k∈l,k∈J.fix\/(J.B<=k/\∃t xs,Row a k t xs/\zid t)\/(J.B<=k/\∃cs t r,a.heap[k]?=some (.cells cs t r)/\zid t):=by
 classical
 refine⟨(List.range a.heap.size).filter (λk=>decide (k∈J.fix\/(J.B<=k/\∃cs t r,a.heap[k]?=some (.cells cs t r)/\zid t))),⟨h.os,h.tape,h.output,h.size,λk hk hn=>?_⟩,λk hk=>?_⟩
 ·have A0:¬(k∈J.fix\/(J.B<=k/\∃cs t r,a.heap[k]?=some (.cells cs t r)/\zid t)):=λhc=>hn (List.mem_filter.2 ⟨List.mem_range.2 hk,by simpa using hc⟩)
  refine h.block k hk (λhm=>A0 (.inl hm)) ?_;by_cases hB:k<J.B
  ·exact .inl hB
  ·exact .inr (λcs t r he hm=>A0 (.inr ⟨by omega,cs,t,r,he,hm⟩))
 ·have:=(List.mem_filter.1 hk).2;simp only[decide_eq_true_eq] at this;rcases this with h1|h1
  ·exact .inl h1
  ·exact .inr (.inr h1)
theorem LU.row{J:LmI}{w w':World}(u:LU J w w'){g:Nat}{t:TypeId}{xs:List Value}(h:Row w g t xs)(hg:g∉J.fix)(ht:¬zid t):Row w' g t xs :=
 (u.block g h.lt hg (.inr (λcs t' r h'=>by rw[show w.heap[g]?=_ from h] at h';cases h';exact ht))).trans h
theorem zai.upd{B:Nat}{a b:World}(h:zai B a b):∃l,Upd l a b/\∀k∈l,B<=k/\∃cs t r,a.heap[k]?=some (.cells cs t r)/\zl8 t:=by
 classical
 refine⟨(List.range a.heap.size).filter (λk=>decide (B<=k/\∃cs t r,a.heap[k]?=some (.cells cs t r)/\zl8 t)),⟨h.os,h.tape,h.output,h.size,λk hk hn=>?_⟩,λk hk=>?_⟩
 ·have A0:¬(B<=k/\∃cs t r,a.heap[k]?=some (.cells cs t r)/\zl8 t):=λhc=>hn (List.mem_filter.2 ⟨List.mem_range.2 hk,by simpa using hc⟩)
  refine h.block k hk ?_;by_cases hB:k<B
  ·exact .inl hB
  ·exact .inr (λcs t r he hm=>A0 ⟨by omega,cs,t,r,he,hm⟩)
 ·simpa using(List.mem_filter.1 hk).2
theorem zse{w:World}{B k:Nat}{t:TypeId}{xs:List Value}(hr:Row w k t xs)(ht:¬zl8 t){l:List Nat}(hl:∀k∈l,B<=k/\∃cs t r,w.heap[k]?=some (.cells cs t r)/\zl8 t):k∉l:=λhm=>by
 obtain⟨_,cs,t',r,h1,h2⟩:=hl k hm;rw[show w.heap[k]?=_ from hr] at h1;cases h1
 exact ht h2
theorem HV.keep{w w':World}{B h g NW bn:Nat}{V:Nat->Option (List Int)}(H:HV w B h g NW V bn){l:List Nat}(u:Upd l w w')(hl:∀k∈l,k<B\/∃t xs,Row w k t xs/\¬zl8 t):HV w' B h g NW V bn:=by
 obtain⟨S,⟨⟨vb,hx⟩,h2⟩,h3⟩:=H.at_
 have key:∀ {k:Nat} {t:TypeId} {xs:List Value},B<=k->Row w k t xs->zl8 t->k∉l:=fun {k t xs} hB hr ht hm=>by
  rcases hl k hm with h4|⟨t',xs',h4,h5⟩
  ·omega
  ·rw[Row,show w.heap[k]?=_ from hr] at h4;cases h4
   exact h5 ht
 refine⟨S,⟨⟨vb,⟨hx.head.keep u (key hx.lo.1 hx.head (.inl rfl)),hx.data.keep u (key hx.lo.2 hx.data (.inr (.inl rfl))),u.owns hx.own (λk hk=>?_),hx.len,hx.small,hx.few,hx.lo,hx.word⟩⟩,h2⟩,h3⟩;obtain⟨h5,ys,h6⟩:=Zg hx.own k hk;exact key h5 h6 (.inr (.inr rfl))
def yx(x:Sl):Value:=match x.res with|some r=>.pointer (some ⟨r.ad,0,none⟩)|none=>.pointer none
def zik(x:Sl):List Value:=[yx x,.int .i64 x.id,.int .i64 x.refs]
def ja(l:List Sl):List Value:=l.flatMap zik
def zkp(r:Rs):List Value:=[.int .i64 r.hb,.int .i64 r.kind,.int .i64 r.size,.bool r.dirty]
theorem Z6:∀ {l:List Sl} {s:Nat},s<l.length->(ja l)[s*3]?=some (yx (l.getD s z6))/\(ja l)[s*3+1]?=some (.int .i64 (l.getD s z6).id)/\(ja l)[s*3+2]?=some (.int .i64 (l.getD s z6).refs)
 | [],s,h=>by simp at h
 | x::l,0,_=>⟨rfl,rfl,rfl⟩
 | x::l,s+1,h=>by
  obtain⟨h1,h2,h3⟩:=Z6 (l:=l) (s:=s) (by simpa using h)
  have e:∀j,(ja (x::l))[(s+1)*3+j]?=(ja l)[s*3+j]?:=λj=>by
   show(zik x++ja l)[(s+1)*3+j]?=_
   rw[List.getElem?_append_right (by show 3<=_;omega)];congr 1;show(s+1)*3+j-3=_
   omega
  rw[List.getD_cons_succ];exact⟨(e 0).trans h1,(e 1).trans h2,(e 2).trans h3⟩
theorem zbh:∀ {l:List Sl} {s:Nat} (x:Sl),s<l.length->ja (l.set s x)=(((ja l).set (s*3) (yx x)).set (s*3+1) (.int .i64 x.id)).set (s*3+2) (.int .i64 x.refs)
 | [],s,x,h=>by simp at h
 | y::l,0,x,_=>rfl
 | y::l,s+1,x,h=>by
  have ih:=zbh (l:=l) (s:=s) x (by simpa using h);show zik y++ja (l.set s x)=(((zik y++ja l).set _ _).set _ _).set _ _
  rw[ih]
  have e:∀(ys:List Value) (j:Nat) (v:Value),(zik y++ys).set ((s+1)*3+j) v=zik y++ys.set (s*3+j) v:=λys j v=>by
   rw[List.set_append_right _ _ (by show 3<=_;omega)];congr 2;show(s+1)*3+j-3=_
   omega
  have e0:=e (ja l) 0 (yx x);simp only[Nat.add_zero] at e0;rw[e0,e,e]
def xa(l:List Sl):List Int:=(l.drop 1).map (λx=>(x.id:Int))
def zc0(l:List Sl):List Bool:=l.map (λx=>x.res.isSome)
structure LmP(w:World)(J:LmI)(K NW:Nat)(sls:List Sl)(V:Nat->Option (List Int))(bn:Nat)(ids:List Int)(ins:List Bool)(T:Tb)(made U N:Nat)(F:Nat->Nat)(busy:Nat):Prop where
 head:Row w J.m 69 [.pointer (some ⟨J.I.s,0,none⟩),.pointer (some ⟨J.h,0,none⟩),.pointer (some ⟨J.t,0,none⟩),.pointer (some ⟨J.c,0,none⟩),.slice (some ⟨J.sl,0,none⟩) (K+1) (K+1),.int .i64 busy]
 slots:Row w J.sl 84 (ja sls)
 len:sls.length=K+1
 resid:∀s r,(sls.getD s z6).res=some r->J.B<=r.ad/\Row w r.ad 86 (zkp r)
 sec:Zn w J.I T made U N F
 heap:HV w J.B J.h J.g NW V bn
 nam:Tab w J.t J.gi J.gh K ids
 clk:gy w J.c J.cp (K+1) ins
 ne:J.fix.Nodup
 low:∀k∈J.I.all,k<J.B
 kle:K<=16382
section
variable{w w':World}{J:LmI}{K NW:Nat}{sls:List Sl}{V:Nat->Option (List Int)}{bn:Nat}{ids:List Int}{ins:List Bool}{T:Tb}{made U N:Nat}{F:Nat->Nat}{busy:Nat}
theorem LmP.types(H:LmP w J K NW sls V bn ids ins T made U N F busy):∀k∈J.fix,k∉J.I.all->∃t xs,Row w k t xs/\¬zid t:=λk hk hn=>by
 obtain⟨hash,ht⟩:=H.nam;obtain⟨hd,hh,hc⟩:=H.clk.head;obtain⟨tc,A1,A0⟩:=H.clk.data;simp only[LmI.fix,List.mem_cons] at hk;rcases hk with rfl|rfl|rfl|rfl|rfl|rfl|rfl|hk
 ·exact⟨_,_,H.head,by decide⟩
 ·exact⟨_,_,H.slots,by decide⟩
 ·exact⟨_,_,ht.head,by decide⟩
 ·exact⟨_,_,ht.ri,by decide⟩
 ·exact⟨_,_,ht.ra,by decide⟩
 ·exact⟨_,_,hc,by decide⟩
 ·exact⟨_,_,A0,by decide⟩
 ·exact absurd hk hn
theorem LmP.notH(H:LmP w J K NW sls V bn ids ins T made U N F busy){l:List Nat}(hl:∀k∈l,k∈J.fix):∀k∈l,k<J.B\/∃t xs,Row w k t xs/\¬zl8 t:=λk hk=>by
 by_cases hI:k∈J.I.all
 ·exact .inl (H.low k hI)
 ·obtain⟨t,xs,h1,h2⟩:=H.types k (hl k hk) hI;exact .inr ⟨t,xs,h1,λhm=>h2 (.inl hm)⟩
theorem LmP.ad_fix(H:LmP w J K NW sls V bn ids ins T made U N F busy){s:Nat}{r:Rs}(hr:(sls.getD s z6).res=some r):r.ad∉J.fix:=λhm=>by
 obtain⟨h1,h2⟩:=H.resid s r hr;by_cases hI:r.ad∈J.I.all
 ·have:=H.low _ hI;omega
 ·obtain⟨t,xs,h3,h4⟩:=H.types _ hm hI;rw[Row,show w.heap[r.ad]?=_ from h2] at h3;cases h3
  exact h4 (.inr rfl)
theorem LmP.fixne(H:LmP w J K NW sls V bn ids ins T made U N F busy):(∀k,k∈[J.m,J.sl,J.t,J.gi,J.gh,J.c,J.cp]->k∉J.I.all)/\[J.m,J.sl,J.t,J.gi,J.gh,J.c,J.cp].Nodup:=by
 have h:=H.ne;have e:J.fix=[J.m,J.sl,J.t,J.gi,J.gh,J.c,J.cp]++J.I.all:=rfl;rw[e,List.nodup_append] at h;exact⟨λk hk hm=>h.2.2 k hk k hm rfl,h.1⟩
theorem LmP.sec'(H:LmP w J K NW sls V bn ids ins T made U N F busy){l:List Nat}(u:Upd l w w')(hl:∀k∈l,k∈J.I.all){T':Tb}{made' U' N':Nat}{F':Nat->Nat}(hs:Zn w' J.I T' made' U' N' F'):LmP w' J K NW sls V bn ids ins T' made' U' N' F' busy:=by
 obtain⟨h1,h2⟩:=H.fixne;have k:∀x∈[J.m,J.sl,J.t,J.gi,J.gh,J.c,J.cp],x∉l:=λx hx hm=>h1 x hx (hl x hm)
 exact⟨H.head.keep u (k _ (by simp)),H.slots.keep u (k _ (by simp)),H.len,λs r hr=>⟨(H.resid s r hr).1,(H.resid s r hr).2.keep u (λhm=>by have:=H.low _ (hl _ hm);have:=(H.resid s r hr).1;omega)⟩,hs,
  H.heap.keep u (λx hx=>.inl (H.low x (hl x hx))),H.nam.keep u (k _ (by simp)) (k _ (by simp)) (k _ (by simp)),H.clk.keep u (k _ (by simp)) (k _ (by simp)),H.ne,H.low,H.kle⟩
theorem LmP.heap'(H:LmP w J K NW sls V bn ids ins T made U N F busy)(u:zai J.B w w'){V':Nat->Option (List Int)}{bn':Nat}(hv:HV w' J.B J.h J.g NW V' bn'):LmP w' J K NW sls V' bn' ids ins T made U N F busy:=by
 obtain⟨l,ul,hl⟩:=u.upd;obtain⟨hash,ht⟩:=H.nam;obtain⟨hd,hh,hc⟩:=H.clk.head;obtain⟨tc,A1,A0⟩:=H.clk.data;have k:∀ {x:Nat} {t:TypeId} {xs:List Value},Row w x t xs->¬zl8 t->x∉l:=λhr hm=>zse hr hm hl
 exact⟨H.head.keep ul (k H.head (by decide)),H.slots.keep ul (k H.slots (by decide)),H.len,λs r hr=>⟨(H.resid s r hr).1,(H.resid s r hr).2.keep ul (k (H.resid s r hr).2 (by decide))⟩,
  H.sec.keep ul (λx hx hm=>by have:=H.low x hx;have:=(hl x hm).1;omega),hv,H.nam.keep ul (k ht.head (by decide)) (k ht.ri (by decide)) (k ht.ra (by decide)),H.clk.keep ul (k hc (by decide)) (k A0 (by decide)),H.ne,H.low,H.kle⟩
theorem LmP.nam'(H:LmP w J K NW sls V bn ids ins T made U N F busy)(u:Upd [J.t,J.gi,J.gh] w w'){ids':List Int}(hn:Tab w' J.t J.gi J.gh K ids'):LmP w' J K NW sls V bn ids' ins T made U N F busy:=by
 obtain⟨h1,h2⟩:=H.fixne;simp only[List.nodup_cons,List.mem_cons,not_or,List.not_mem_nil,not_false_eq_true,and_true] at h2;have hf:∀k∈[J.t,J.gi,J.gh],k∈J.fix:=λk hk=>by simp at hk;rcases hk with rfl|rfl|rfl<;>simp[LmI.fix]
 exact⟨H.head.keep u (by simp;exact⟨h2.1.2.1,h2.1.2.2.1,h2.1.2.2.2.1⟩),H.slots.keep u (by simp;exact⟨h2.2.1.1,h2.2.1.2.1,h2.2.1.2.2.1⟩),H.len,λs r hr=>⟨(H.resid s r hr).1,(H.resid s r hr).2.keep u (λhm=>H.ad_fix hr (hf _ hm))⟩,
  H.sec.keep u (λx hx hm=>by simp at hm;rcases hm with rfl|rfl|rfl<;>exact h1 _ (by simp) hx),H.heap.keep u (H.notH hf),hn,H.clk.keep u (by simp;exact⟨λe=>h2.2.2.1.2.2.1 e.symm,λe=>h2.2.2.2.1.2.1 e.symm,λe=>h2.2.2.2.2.1.1 e.symm⟩) (by simp;exact⟨λe=>h2.2.2.1.2.2.2 e.symm,λe=>h2.2.2.2.1.2.2 e.symm,λe=>h2.2.2.2.2.1.2 e.symm⟩),H.ne,H.low,H.kle⟩
theorem LmP.clk'(H:LmP w J K NW sls V bn ids ins T made U N F busy)(u:Upd [J.c,J.cp] w w'){ins':List Bool}(hn:gy w' J.c J.cp (K+1) ins'):LmP w' J K NW sls V bn ids ins' T made U N F busy:=by
 obtain⟨h1,h2⟩:=H.fixne;simp only[List.nodup_cons,List.mem_cons,not_or,List.not_mem_nil,not_false_eq_true,and_true] at h2;have hf:∀k∈[J.c,J.cp],k∈J.fix:=λk hk=>by simp at hk;rcases hk with rfl|rfl<;>simp[LmI.fix]
 exact⟨H.head.keep u (by simp;exact⟨h2.1.2.2.2.2.1,h2.1.2.2.2.2.2⟩),H.slots.keep u (by simp;exact⟨h2.2.1.2.2.2.1,h2.2.1.2.2.2.2⟩),H.len,λs r hr=>⟨(H.resid s r hr).1,(H.resid s r hr).2.keep u (λhm=>H.ad_fix hr (hf _ hm))⟩,
  H.sec.keep u (λx hx hm=>by simp at hm;rcases hm with rfl|rfl<;>exact h1 _ (by simp) hx),H.heap.keep u (H.notH hf),H.nam.keep u (by simp;exact⟨h2.2.2.1.2.2.1,h2.2.2.1.2.2.2⟩) (by simp;exact⟨h2.2.2.2.1.2.1,h2.2.2.2.1.2.2⟩) (by simp;exact⟨h2.2.2.2.2.1.1,h2.2.2.2.2.1.2⟩),hn,H.ne,H.low,H.kle⟩
theorem LmP.own'(H:LmP w J K NW sls V bn ids ins T made U N F busy){l:List Nat}(u:Upd l w w')(hl:∀k∈l,k=J.m\/k=J.sl){sls':List Sl}{busy':Nat}(A0:sls'.length=K+1)
 (hh:Row w' J.m 69 [.pointer (some ⟨J.I.s,0,none⟩),.pointer (some ⟨J.h,0,none⟩),.pointer (some ⟨J.t,0,none⟩),.pointer (some ⟨J.c,0,none⟩),.slice (some ⟨J.sl,0,none⟩) (K+1) (K+1),.int .i64 busy'])
 (hs:Row w' J.sl 84 (ja sls')) (hr:∀s r,(sls'.getD s z6).res=some r->J.B<=r.ad/\Row w r.ad 86 (zkp r)):LmP w' J K NW sls' V bn ids ins T made U N F busy':=by
 obtain⟨h1,h2⟩:=H.fixne;simp only[List.nodup_cons,List.mem_cons,not_or,List.not_mem_nil,not_false_eq_true,and_true] at h2;have hf:∀k∈l,k∈J.fix:=λk hk=>by rcases hl k hk with rfl|rfl<;>simp[LmI.fix]
 have hm:∀x,x≠J.m->x≠J.sl->x∉l:=λx a b hx=>(hl x hx).elim a b
 have A2:∀x xs,Row w x 86 xs->x∉l:=λx xs hx A1=>by
  rcases hl x A1 with rfl|rfl
  ·have h3:=H.head;rw[Row,show w.heap[_]?=_ from hx] at h3;simp at h3
  ·have h3:=H.slots;rw[Row,show w.heap[_]?=_ from hx] at h3;simp at h3
 exact⟨hh,hs,A0,λs r hq=>⟨(hr s r hq).1,(hr s r hq).2.keep u (A2 _ _ (hr s r hq).2)⟩,H.sec.keep u (λx hx A1=>by rcases hl x A1 with rfl|rfl<;>exact h1 _ (by simp) hx),H.heap.keep u (H.notH hf),
  H.nam.keep u (hm _ (Ne.symm h2.1.2.1) (Ne.symm h2.2.1.1)) (hm _ (Ne.symm h2.1.2.2.1) (Ne.symm h2.2.1.2.1)) (hm _ (Ne.symm h2.1.2.2.2.1) (Ne.symm h2.2.1.2.2.1)),H.clk.keep u (hm _ (Ne.symm h2.1.2.2.2.2.1) (Ne.symm h2.2.1.2.2.2.1)) (hm _ (Ne.symm h2.1.2.2.2.2.2) (Ne.symm h2.2.1.2.2.2.2)),H.ne,H.low,H.kle⟩
theorem LmP.keep(H:LmP w J K NW sls V bn ids ins T made U N F busy){l:List Nat}(u:Upd l w w')(hl:∀k∈l,k<w.heap.size->k∉J.fix/\J.B<=k/\∀cs t r,w.heap[k]?=some (.cells cs t r)->¬zid t):LmP w' J K NW sls V bn ids ins T made U N F busy:=by
 have k1:∀k∈J.fix,k<w.heap.size->k∉l:=λk hk A0 hm=>(hl k hm A0).1 hk
 have k2:∀ {k t xs},Row w k t xs->zid t->k∉l:=fun {k t xs} hr ht hm=>(hl k hm hr.lt).2.2 _ _ _ hr ht
 obtain⟨hash,ht⟩:=H.nam;obtain⟨hd,hh,hc⟩:=H.clk.head;obtain⟨tc,A2,A1⟩:=H.clk.data
 have hv:HV w' J.B J.h J.g NW V bn:=by
  obtain⟨S,⟨⟨vb,hx⟩,h2⟩,h3⟩:=H.heap.at_;refine⟨S,⟨⟨vb,⟨hx.head.keep u (k2 hx.head (.inl (.inl rfl))),hx.data.keep u (k2 hx.data (.inl (.inr (.inl rfl)))),u.owns hx.own (λk hk=>?_),hx.len,hx.small,hx.few,hx.lo,hx.word⟩⟩,h2⟩,h3⟩;obtain⟨h5,ys,h6⟩:=Zg hx.own k hk;exact k2 h6 (.inl (.inr (.inr rfl)))
 exact⟨H.head.keep u (k1 _ (by simp[LmI.fix]) H.head.lt),H.slots.keep u (k1 _ (by simp[LmI.fix]) H.slots.lt),H.len,λs r hr=>⟨(H.resid s r hr).1,(H.resid s r hr).2.keep u (k2 (H.resid s r hr).2 (.inr rfl))⟩,
  H.sec.keep u (λx hx=>k1 x (by simp[LmI.fix,hx]) (H.sec.lt x hx)),hv,H.nam.keep u (k1 _ (by simp[LmI.fix]) ht.head.lt) (k1 _ (by simp[LmI.fix]) ht.ri.lt) (k1 _ (by simp[LmI.fix]) ht.ra.lt),H.clk.keep u (k1 _ (by simp[LmI.fix]) hc.lt) (k1 _ (by simp[LmI.fix]) A1.lt),H.ne,H.low,H.kle⟩
theorem LmP.below(H:LmP w J K NW sls V bn ids ins T made U N F busy)(hb:Below w.heap.size w w'):LmP w' J K NW sls V bn ids ins T made U N F busy:=H.keep (l:=[]) (.of_below hb) (λk hk=>by simp at hk)
theorem LmP.res'(H:LmP w J K NW sls V bn ids ins T made U N F busy){s:Nat}{r r':Rs}(hs:s<K+1)(hr:(sls.getD s z6).res=some r)(A3:r'.ad=r.ad)(A0:∀t q,(sls.getD t z6).res=some q->q.ad=r.ad->t=s)(u:Upd [r.ad] w w')(A1:Row w' r.ad 86 (zkp r')) :
 LmP w' J K NW (sls.set s { sls.getD s z6 with res:=some r' }) V bn ids ins T made U N F busy:=by
 have hx:=H.ad_fix hr;obtain⟨hb,A5⟩:=H.resid s r hr;have k1:∀k∈J.fix,k∉[r.ad]:=λk hk hm=>by simp at hm;subst hm;exact hx hk
 obtain⟨hash,ht⟩:=H.nam
 have A6:ja (sls.set s { sls.getD s z6 with res:=some r' })=ja sls:=by
  have A4:s<sls.length:=by rw[H.len];exact hs
  obtain⟨g0,g1,g2⟩:=Z6 A4;rw[zbh _ A4];have e0:yx { sls.getD s z6 with res:=some r' } = yx (sls.getD s z6):=by unfold yx;rw[hr];simp[A3]
  rw[e0];rw[jk g0,jk g1,jk g2]
 refine⟨H.head.keep u (k1 _ (by simp[LmI.fix])),by rw[A6];exact H.slots.keep u (k1 _ (by simp[LmI.fix])),by rw[List.length_set];exact H.len,λt q hq=>?_,
  H.sec.keep u (λx hx=>k1 x (by simp[LmI.fix,hx])),H.heap.keep u (λk hk=>by simp at hk;subst hk;exact .inr ⟨_,_,A5,by decide⟩),H.nam.keep u (k1 _ (by simp[LmI.fix])) (k1 _ (by simp[LmI.fix])) (k1 _ (by simp[LmI.fix])),H.clk.keep u (k1 _ (by simp[LmI.fix])) (k1 _ (by simp[LmI.fix])),H.ne,H.low,H.kle⟩
 by_cases A2:t=s
 ·subst A2;rw[zg,List.getElem?_set,if_pos rfl,if_pos (by rw[H.len];exact hs)] at hq;simp at hq;subst hq;rw[A3];exact⟨hb,A1⟩
 ·rw[zg,List.getElem?_set,if_neg (Ne.symm A2),<-zg] at hq;obtain⟨h3,h4⟩:=H.resid t q hq;exact⟨h3,h4.keep u (λhm=>by simp at hm;exact A2 (A0 t q hq hm))⟩
end
structure Zh(w:World)(J:LmI)(K NW N:Nat)(S:Lm)(A:Nat->Option Ob)(ex:List Int)(pe bl:Nat->Prop)(T:Tb)(made U:Nat)(F:Nat->Nat)(busy:Nat):Prop where
 P:LmP w J K NW S.sls S.V (K+3) (xa S.sls) (zc0 S.sls) T made U N F busy
 dk:S.dk=zt T
 inv:qn S A K ex pe bl
 ks:K<=800
theorem zil{α:Type}{l:List α}{i:Nat}{x:α}(h:l[i]?=some x):l.set i x=l:=by
 refine List.ext_getElem? (λj=>?_);rw[List.getElem?_set];by_cases e:i=j
 ·subst e;rw[if_pos rfl,h];rw[if_pos (List.getElem?_eq_some_iff.1 h).1]
 ·rw[if_neg e]
theorem wz(l:List Sl)(k:Nat):(xa l).getD k 0=((l.getD (k+1) z6).id:Int):=by
 unfold xa;simp only[List.getD_eq_getElem?_getD,List.getElem?_map,List.getElem?_drop];rw[Nat.add_comm 1 k];cases l[k+1]?<;>rfl
theorem zbw(l:List Sl):(xa l).length=l.length-1:=by simp[xa]
theorem zja(l:List Sl)(k:Nat)(x:Sl):xa (l.set (k+1) x)=(xa l).set k (x.id:Int):=by
 unfold xa;cases l with
 | nil=>rfl
 | cons y l=>simp only[List.set_cons_succ,List.drop_succ_cons,List.drop_zero,List.map_set]
theorem ko{l:List Sl}{s:Nat}{x:Sl}(h:x.id=(l.getD s z6).id):xa (l.set s x)=xa l:=by
 cases s with
 | zero =>
  cases l with
  | nil=>rfl
  | cons y l=>rfl
 | succ k =>
  rw[zja];by_cases hk:k<(xa l).length
  ·refine zil ?_;have:=wz l k;rw[zg,ze hk] at this;rw[ze hk,h];simp at this;rw[this,zg]
  ·exact List.set_eq_of_length_le (by omega)
theorem zi7(l:List Sl)(s:Nat)(x:Sl):zc0 (l.set s x)=(zc0 l).set s x.res.isSome:=by
 unfold zc0;rw[List.map_set]
theorem zdk(l:List Sl)(s:Nat):bAt (zc0 l) s=(l.getD s z6).res.isSome:=by
 unfold zc0 bAt;simp only[List.getD_eq_getElem?_getD,List.getElem?_map];cases l[s]?<;>rfl
theorem ct{l:List Sl}{s:Nat}{x:Sl}(h:x.res.isSome=(l.getD s z6).res.isSome):zc0 (l.set s x)=zc0 l:=by
 rw[zi7];by_cases hk:s<(zc0 l).length
 ·refine zil ?_;have:=zdk l s;unfold bAt at this;rw[zg,ze hk] at this;rw[ze hk,h];simp at this;rw[this,zg]
 ·exact List.set_eq_of_length_le (by omega)
section
variable{w:World}{J:LmI}{K NW N:Nat}{S:Lm}{A:Nat->Option Ob}{ex:List Int}{pe bl:Nat->Prop}{T:Tb}{made U:Nat}{F:Nat->Nat}{busy:Nat}
theorem Zh.below{w':World}(H:Zh w J K NW N S A ex pe bl T made U F busy)(hb:Below w.heap.size w w'):Zh w' J K NW N S A ex pe bl T made U F busy:=⟨H.P.below hb,H.dk,H.inv,H.ks⟩
theorem Zh.lens(H:Zh w J K NW N S A ex pe bl T made U F busy):S.sls.length=K+1:=H.inv.len
theorem Zh.slot(H:Zh w J K NW N S A ex pe bl T made U F busy){s:Nat}(hs:s<=K) :
 w.cell? ⟨J.sl,s*3,none⟩=some (yx (S.sl s))/\w.cell? ⟨J.sl,s*3+1,none⟩=some (.int .i64 (S.sl s).id)/\w.cell? ⟨J.sl,s*3+2,none⟩=some (.int .i64 (S.sl s).refs)/\J.sl<w.heap.size:=by
 obtain⟨h1,h2,h3⟩:=Z6 (l:=S.sls) (s:=s) (by rw[H.lens];omega);exact⟨H.P.slots.cell h1,H.P.slots.cell h2,H.P.slots.cell h3,H.P.slots.lt⟩
theorem Zh.hasA(H:Zh w J K NW N S A ex pe bl T made U F busy)(i:Nat):(zt T i).isSome=(A i).isSome:=by
 have:=H.inv.dom i;rw[H.dk] at this;cases h1:zt T i<;>cases h2:A i<;>simp[h1,h2] at this ⊢
def qz(A:Nat->Option Ob)(x:Int):Option Ob:=if 0<=x then A x.toNat else none
theorem Zh.lookI(H:Zh w J K NW N S A ex pe bl T made U F busy)(x:Int):(lookI T x).isSome=(qz A x).isSome:=by
 unfold Go.Proofs.YtoeibiahbenpcaaGreatDoor.lookI qz;split
 ·exact H.hasA _
 ·rfl
theorem zcm(o:Int):wfK (Zz o):=by
 unfold Zz;split
 ·exact za6 (by omega) (by omega)
 ·exact za6 (by omega) (by omega)
theorem z4w(H:Zh w J K NW N S A ex pe bl T made U F busy)(o:Int)(b0:-9223372036854775808<=o)(b1:o<=9223372036854775807) :
 Calls prog 60 #[.pointer (some ⟨J.m,0,none⟩),.int .i64 o] w λe w'=>e=.returned (if (qz A (Zz o)).isSome then .tuple #[.int .i64 (Zz o),.int .i64 0] else .tuple #[.int .i64 0,.int .i64 4])/\Below w.heap.size w w':=by
 have HN:=zh (jr o w b0 b1);have HC:=zh (zfj H.P.sec (Zz o) (zcm o));rw[H.lookI] at HC;have k0:=H.P.head.cell (i:=0) rfl;clear H;cases hb:(qz A (Zz o)).isSome with
 | true =>
  rw[hb] at HC;clear hb;go_enter func60,ntmps60
  go_wp2_with (first
   | (go_at_call 34;go_call HN as e w' ⟨rfl,rfl⟩)
   | (go_at_call 54;go_call HC as e w' ⟨rfl,hb⟩))
  go_ret2;exact⟨rfl,hb⟩
 | false =>
  rw[hb] at HC;clear hb;go_enter func60,ntmps60
  go_wp2_with (first
   | (go_at_call 34;go_call HN as e w' ⟨rfl,rfl⟩)
   | (go_at_call 54;go_call HC as e w' ⟨rfl,hb⟩))
  go_ret2;exact⟨rfl,hb⟩
theorem zo1(kind:Int)(n:Nat)(hn:n<=1000000)(w:World):Calls prog 53 #[.int .i64 kind,.int .i64 n] w λe w'=>e=.returned (.int .i64 (nWd kind n:Nat))/\w=w':=by
 unfold nWd;by_cases h:kind=2
 ·subst h;have e:(((n:Int)+1) / 2)=(((n+1) / 2:Nat):Int):=by omega
  rw[if_pos rfl,<-e];clear e;go_enter func53,ntmps53;go_wp2;go_ret;refine⟨?_,rfl⟩
  first|rfl|(congr 2;omega)
 ·rw[if_neg h];have h2:(kind == 2)=false:=by simpa using h
  clear h;go_enter func53,ntmps53;go_wp2;go_ret;exact⟨rfl,rfl⟩
end
end Go.Proofs.YtoeibiahbenpcaaGreatDoor
