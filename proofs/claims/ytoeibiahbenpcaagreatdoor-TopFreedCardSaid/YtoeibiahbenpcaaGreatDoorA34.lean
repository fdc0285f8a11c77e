/- Part. -/
import Derived.Test.YtoeibiahbenpcaaGreatDoorA33
namespace Go.Proofs.YtoeibiahbenpcaaGreatDoor
open RowKit Maps Proofs.Tryz
set_option linter.unusedVariables false
set_option maxRecDepth 99999
set_option maxHeartbeats 9000000
def zij(S:Lm)(l:List Int)(s:Nat):Nat:=(l.map (λx=>cnt (Zv S.V (S.sl x.toNat)) s)).sum
def yj(f:Nat->Nat)(n:Nat):List Int:=(List.range n).map (λs=>(f s:Int))
theorem zbq{f:Nat->Nat}{n s:Nat}(h:s<n):(yj f n)[s]?=some (f s:Int):=by
 unfold yj;rw[List.getElem?_map,List.getElem?_range h];rfl
theorem zp2{f g:Nat->Nat}{n s:Nat}{x:Int}(h:s<n)(hx:x=(g s:Int))(ho:∀t,t≠s->g t=f t):(yj f n).set s x=yj g n:=by
 refine List.ext_getElem? (λt=>?_);rw[List.getElem?_set];by_cases ht:t<n
 ·rw[zbq ht,zbq ht];by_cases e:s=t
  ·subst e;rw[if_pos rfl,if_pos (by simp[yj];exact ht),hx]
  ·rw[if_neg e,ho t (Ne.symm e)]
 ·rw[if_neg (by omega),List.getElem?_eq_none (by simp[yj];omega),List.getElem?_eq_none (by simp[yj];omega)]
theorem wh{f g:Nat->Nat}{n:Nat}(h:∀t,t<n->f t=g t):yj f n=yj g n:=by
 unfold yj;refine List.map_congr_left (λt ht=>?_);rw[h t (List.mem_range.1 ht)]
theorem zr3{S:Lm}{l:List Int}{j s:Nat}(hj:j<l.length)(hs:l.getD j 0=(s:Int))(t:Nat):zij S (l.take (j+1)) t=zij S (l.take j) t+cnt (Zv S.V (S.sl s)) t:=by
 have hg:l[j]=(s:Int):=by rw[zg,ze hj] at hs;exact hs
 unfold zij;rw[List.take_add_one,ze hj,List.map_append,List.sum_append,hg];simp
theorem zxv{ws:List Int}{k:Nat}(hk:k<ws.length)(t:Nat):cnt (ws.take (k+1)) t=cnt (ws.take k) t+if ws.getD k 0=((2*t:Nat):Int) then 1 else 0:=by
 rw[List.take_add_one,ze hk,z1h,zg,ze hk];show _+cnt [_] t=_
 rw[jy,zau];simp
section
variable{w:World}{J:LmI}{K NW N:Nat}{S:Lm}{A:Nat->Option Ob}{ex:List Int}{pe bl:Nat->Prop}{T:Tb}{made U:Nat}{F:Nat->Nat}{busy:Nat}
theorem Zh.wdsLe(H:Zh w J K NW N S A ex pe bl T made U F busy)(t s:Nat):cnt (Zv S.V (S.sl t)) s<=1000:=by
 have h1:cnt (Zv S.V (S.sl t)) s<=(Zv S.V (S.sl t)).length:=by unfold cnt;exact List.countP_le_length
 refine Nat.le_trans h1 ?_;cases hr:(S.sl t).res with
 | none=>unfold Zv;rw[hr];simp
 | some r =>
  obtain⟨o,d,ws,ok⟩:=H.inv.res t r hr;rw[xi hr,ok.V];have h3:=(H.inv.good _ _ ok.ob).size_le;have h4:=ok.len;unfold nWd at h4;split
  ·simp only[Option.getD_some];split at h4<;>omega
  ·simp
theorem zz3{l:List Int}{s:Nat}(h:∀t,cnt (Zv S.V (S.sl t)) s<=1000):zij S l s<=l.length*1000:=by
 unfold zij;induction l with
 | nil=>simp
 | cons x l ih =>
  simp only[List.map_cons,List.sum_cons,List.length_cons];have:=h x.toNat;omega
def z3a(S:Lm)(n s:Nat):Nat:=((List.range n).map (λt=>cnt (Zv S.V (S.sl t)) s)).sum
theorem zr1(n s:Nat):z3a S (n+1) s=z3a S n s+cnt (Zv S.V (S.sl n)) s:=by
 unfold z3a;rw[List.range_succ,List.map_append,List.sum_append];simp
theorem zps(n s:Nat):zij S (qx S.sls n) s=z3a S n s:=by
 induction n with
 | zero=>rfl
 | succ n ih =>
  rw[zco,zr1,<-ih];unfold zij;rw[List.map_append,List.sum_append];congr 1;by_cases h:(S.sls.getD n z6).res.isSome=true
  ·rw[if_pos h];simp
  ·rw[if_neg h]
   have h2:(S.sl n).res=none:=by
    unfold Lm.sl;cases h3:(S.sls.getD n z6).res with
    | none=>rfl
    | some q=>rw[h3] at h;exact absurd rfl h
   unfold Zv;rw[h2];rfl
theorem zwq(s:Nat):S.tot s=z3a S S.sls.length s:=by
 unfold Lm.tot zcc z3a;congr 1;refine List.ext_getElem? (λt=>?_);rw[List.getElem?_map,List.getElem?_map];by_cases ht:t<S.sls.length
 ·rw[List.getElem?_range ht,ze ht];simp only[Option.map_some];congr 2;unfold Lm.sl;rw[zg,ze ht];rfl
 ·rw[List.getElem?_eq_none (by omega),List.getElem?_eq_none (by simp;omega)];rfl
theorem z4x(H:Zh w J K NW N S A ex pe bl T made U F busy){s:Nat}(A0:1<=s)(hs:s<=K) :
 Calls prog 55 #[.pointer (some ⟨J.t,0,none⟩),.int .i64 s] w λe w'=>e=.returned (.tuple #[.int .i64 (S.sl s).id,.bool (decide ((S.sl s).id≠0))])/\w=w':=by
 have hK:=H.ks;have h1:=z6p J.t J.gi J.gh K (xa S.sls) w H.P.nam (s:Int) (by omega) (by omega);obtain⟨k,rfl⟩:∃k,s=k+1:=⟨s-1,by omega⟩;have h2:=wz S.sls k;have e:(((k+1:Nat):Int)-1).toNat=k:=by omega
 have h3:zje (xa S.sls) ((k+1:Nat):Int)=decide ((S.sl (k+1)).id≠0):=by
  unfold zje;rw[e,h2,zbw,H.lens];have a1:decide ((1:Int)<=((k+1:Nat):Int))=true:=decide_eq_true (by omega);have a2:decide (((k+1:Nat):Int)<=((K+1-1:Nat):Int))=true:=decide_eq_true (by omega);rw[a1,a2];simp only[Bool.true_and];show(((S.sl (k+1)).id:Int) != 0)=_
  by_cases h0:(S.sl (k+1)).id=0
  ·rw[h0];rfl
  ·have:((S.sl (k+1)).id:Int)≠0:=by omega
   rw[bne_iff_ne.2 this,decide_eq_true h0]
 rw[h3,e,h2] at h1
 have h4:(if decide ((S.sl (k+1)).id≠0)=true then(((S.sls.getD (k+1) z6).id:Nat):Int) else 0)=(((S.sl (k+1)).id:Nat):Int):=by
  by_cases h0:(S.sl (k+1)).id=0
  ·rw[h0];simp
  ·rw[if_pos (decide_eq_true h0)];rfl
 rw[h4] at h1;exact h1
theorem zk4(l:List Sl):∀n,n<=l.length->(qx l n).length=(zwj (l.take n)).length
 | 0,_=>rfl
 | n+1,h=>by
  have ih:=zk4 l n (by omega);have hg:l.getD n z6=l[n]:=by rw[zg,ze (by omega)];rfl
  rw[zco,List.length_append,ih,List.take_add_one,ze (by omega),hg];unfold zwj;rw[List.filterMap_append,List.length_append];congr 1;cases hr:(l[n]).res with
  | none=>simp[hr]
  | some r=>simp[hr]
theorem qn.hbs_nodup(h:qn S A K ex pe bl):(zwj S.sls).Nodup:=by
 have key:∀l:List Sl,l.Pairwise (λx y=>∀r q,x.res=some r->y.res=some q->r.hb≠q.hb)->(zwj l).Nodup:=λl hp=>by
  unfold zwj;rw[List.Nodup,List.pairwise_filterMap];refine hp.imp (fun {x y} A0 a ha b hb=>?_);cases hx:x.res with
  | none=>rw[hx] at ha;cases ha
  | some r =>
   cases hy:y.res with
   | none=>rw[hy] at hb;cases hb
   | some q =>
    rw[hx] at ha;rw[hy] at hb;simp at ha hb;rw[<-ha,<-hb];exact A0 r q hx hy
 refine key _ (List.pairwise_iff_getElem.2 (λi j hi hj A1 r q hr hq he=>?_));have e1:(S.sl i).res=some r:=by unfold Lm.sl;rw[zg,ze hi];exact hr
 have e2:(S.sl j).res=some q:=by unfold Lm.sl;rw[zg,ze hj];exact hq
 have:=h.hbs i j r q e1 e2 he;omega
theorem zo4(H:Zh w J K NW N S A [] (λ_=>False) (λ_=>False) T made U F 0)(hm:made<=100000) :
 Calls prog 15 #[.pointer (some ⟨J.m,0,none⟩)] w λe w'=>e=.returned (.bool true)/\Zh w' J K NW N S A [] (λ_=>False) (λ_=>False) T made U F 0/\LU J w w':=by
 have HH:=zh H;have m4:=H.P.head.cell (i:=4) rfl;have ml:=H.P.head.lt;have hK:=H.ks;clear H;go_enter func15,ntmps15;go_wp2_with (at_make;refine qo rfl _ _ 25 rfl 3 (.int .i64 0) 8 underlying25 Zx rfl .i64 .i64 _ _ (K+1) rfl rfl (by omega) (by omega) (by omega) (by unfold maxLen;omega) ?_);intro w1 F8 J0;obtain⟨g,hg⟩:=zx (w.heap.size);rw[<-hg] at F8 ⊢;have F9:Below w.heap.size w w1:=J0.below (Nat.le_refl _) (by simp)
 have G0:Hid (Row w1 g 3 ((yj (λ_=>0) (K+1)).map (Value.int .i64))):=by
  unfold Hid yj;rw[List.map_map]
  have:(List.range (K+1)).map ((Value.int IntKind.i64)∘λs=>((0:Nat):Int))=List.replicate (K+1) (Value.int .i64 0):=by
   refine List.ext_getElem? (λt=>?_);rw[List.getElem?_map,List.getElem?_replicate];by_cases ht:t<K+1
   ·rw[List.getElem?_range ht,if_pos ht];rfl
   ·rw[List.getElem?_eq_none (by simp;omega),if_neg ht];rfl
  rw[this];exact F8
 have HG:=zh hg;have E8:=zh (HH.below F9);have J1:=zh (LU.of_below (J:=J) F9);have L9:=zh HH.fixlt;have M0:=zh HH.Blt;have J2:=zh (zfm E8);have ml1:=E8.P.head.lt;clear F8 J0 F9 hg HH m4 ml;go_wp2_with fail;go_call J2 as e w2 ⟨v34,rfl,own2,E9⟩;obtain⟨qa,qc,rfl,-,-,-⟩:=zk own2;obtain⟨ql,C8⟩:=zx (qx S.sls (K+1));have J3:∀x∈ql,∃s:Nat,x=s/\s<K+1/\(S.sl s).res.isSome=true:=λx hx=>by rw[C8] at hx;exact cu.1 hx
 have M1:ql.length<=K+1:=by rw[C8];exact zbx _ _
 rw[<-C8] at own2 ⊢;have M2:=zh (E8.below E9);have M3:=zh (J1.trans (.of_below E9));have M4:=zh (G0.out.keep (l:=[]) (.of_below E9) (by simp));have M5:=zh own2;have J4:=zh J3;have G1:=zh C8;have M6:Hid (g<w1.heap.size):=G0.out.lt;clear own2 E9 C8 J3 E8 J1 G0 J2 ml1;go_wp2;go_loopw [4,36] (λnb i wr=>∃j,j<=ql.length/\nb=.int .i64 (j:Nat)/\i=.int .i64 (j:Nat)/\Hid (Zh wr J K NW N S A [] (λ_=>False) (λ_=>False) T made U F 0)/\Hid (Row wr g 3 ((yj (zij S (ql.take j)) (K+1)).map (Value.int .i64)))/\Hid (wr.ownsRow w1.heap.size 3 1 (.slice qa ql.length qc) ql.length (ql.map (Value.int .i64)))/\Hid (LU J w wr)) (λ_ i _=>ql.length-(intOf i).toNat)
 case atStart=>exact⟨0,Nat.zero_le _,rfl,rfl,M2,M4,M5,M3⟩
 case round =>
  obtain⟨j,hj,rfl,rfl,HL,B0,HQ,HU⟩:=hrel;by_cases A8:j<ql.length
  ·obtain⟨_,_,hv,rd,-,-⟩:=zk HQ;cases hv
   obtain⟨b,off,rfl,G2,C9⟩:=rd.at (by simp;omega);obtain⟨s,G3,P4,J5⟩:=J4.out (ql.getD j 0) (by rw[zg,ze A8];exact List.getElem_mem _);have A6:=C9 j (.int .i64 (s:Int)) (by rw[<-G3];exact zr A8);obtain⟨r,hr⟩:=Option.isSome_iff_exists.1 J5;obtain⟨o,d,ws,ok⟩:=HL.inv.res s r hr;have m4:=HL.P.head.cell (i:=4) rfl;have mlw:=HL.P.head.lt;have M7:(s:Int)<(K:Int)+1:=by omega
   have M8:=zh G3;have HR:=zh hr;have A4:=zh ok;clear C9 rd G3 J5 hr ok;go_wp2_with fail;have C4:=HL.inv.good _ _ A4.ob;obtain⟨ew,G4⟩:=zx (Zv S.V (S.sl s));have B4:ew=if r.kind=1 then ws else []:=by rw[G4,xi HR.out,A4.out.V];rfl
   have A3:ws.length=nWd r.kind r.size:=by rw[A4.out.len,A4.out.kind.2,A4.out.size.2.2]
   have M9:r.size<=1000:=by rw[A4.out.size.2.2];exact C4.size_le
   have B1:ws.length<=1000:=by rw[A3];unfold nWd;split<;>omega
   have D0:(lookI T ((S.sl s).id:Int)).isSome=true:=by rw[je,<-HL.out.dk,A4.out.dk];rfl
   have D1:=HL.idb A4.ob;obtain⟨sid,B5⟩:=zx ((S.sl s).id);have J6:=zh (λz (hv:Below wr.heap.size wr z)=>z01 (HL.P.heap.below hv) A4.V);have G5:=zh (λz=>zo1 r.kind r.size (by omega) z);rw[<-A3] at G5;have G6:=zh (λz (hv:Below wr.heap.size wr z)=>zfj (HL.out.P.sec.below hv) ((S.sl s).id:Int) (zfx (by omega)));rw[D0,<-B5] at G6
   have J7:∀z,Below wr.heap.size wr z->z.cell? ⟨J.m,0,none⟩=some (.pointer (some ⟨J.I.s,0,none⟩))/\z.cell? ⟨J.m,1,none⟩=some (.pointer (some ⟨J.h,0,none⟩))/\z.cell? ⟨J.sl,s*3,none⟩=some (.pointer (some ⟨r.ad,0,none⟩))/\z.cell? ⟨J.sl,s*3+1,none⟩=some (.int .i64 sid)/\z.cell? ⟨r.ad,0,none⟩=some (.int .i64 r.hb)/\z.cell? ⟨r.ad,1,none⟩=some (.int .i64 r.kind)/\z.cell? ⟨r.ad,2,none⟩=some (.int .i64 r.size):=λz hz=>by
    have hl:=HL.below hz;obtain⟨a1,a2,a3⟩:=hl.hS HR;have B6:=hl.resrow HR;rw[B5];exact⟨hl.P.head.cell (i:=0) rfl,a1,a2,(hl.slot (by omega)).2.1,a3,B6.cell (i:=1) rfl,B6.cell (i:=2) rfl⟩
   have D2:=zh J7;have N0:=zh G4;have G7:=zh B4;have J8:=zh A3;have P5:=zh C4
   have D3:ew.length<=1000:=by
    rw[B4];split
    ·exact B1
    ·simp
   have N1:=zh D3;clear D3 C4 G4 B4 D0 D1 B5 J7 A6 m4 mlw A3;refine zm (λz=>z.cell? ⟨J.m,0,none⟩=some (.pointer (some ⟨J.I.s,0,none⟩))/\z.cell? ⟨J.m,1,none⟩=some (.pointer (some ⟨J.h,0,none⟩))/\z.cell? ⟨J.sl,s*3,none⟩=some (.pointer (some ⟨r.ad,0,none⟩))/\z.cell? ⟨J.sl,s*3+1,none⟩=some (.int .i64 sid)/\z.cell? ⟨r.ad,0,none⟩=some (.int .i64 r.hb)/\z.cell? ⟨r.ad,1,none⟩=some (.int .i64 r.kind)/\z.cell? ⟨r.ad,2,none⟩=some (.int .i64 r.size)) (zp [0,1,2,3,4,5,6,7,8,9,10,12,13,14,15,16,17,18,19,20,21,22,23,24,25,1011,1026,27,28,29,30,31,32,33,34,35,36,1037,38,39]) (by kernel_rfl) (by kernel_rfl) (λ_ _ _ _ _ h=>h) (D2.out _ (Zd (Below.refl _ _))) ?_
   (repeat (refine zi rfl (λK hK=>?_);go_simp;(try go_bits);refine hK _ ?_;clear hK K))
   refine zl (.pointer (some ⟨J.h,0,none⟩)) rfl rfl (λx hS=>by obtain⟨s0,s1,s2,s3,s4,s5,s6⟩:=hS;go_simp) ?_
   (repeat (refine zi rfl (λK hK=>?_);go_simp;(try go_bits);refine hK _ ?_;clear hK K))
   refine zl (.pointer (some ⟨r.ad,0,none⟩)) rfl rfl (λx hS=>by obtain⟨s0,s1,s2,s3,s4,s5,s6⟩:=hS;go_simp) ?_
   (repeat (refine zi rfl (λK hK=>?_);go_simp;(try go_bits);refine hK _ ?_;clear hK K))
   refine zl (.int .i64 r.hb) rfl rfl (λx hS=>by obtain⟨s0,s1,s2,s3,s4,s5,s6⟩:=hS;go_simp) ?_
   (repeat (refine zi rfl (λK hK=>?_);go_simp;(try go_bits);refine hK _ ?_;clear hK K))
   refine zl (.pointer (some ⟨r.ad,0,none⟩)) rfl rfl (λx hS=>by obtain⟨s0,s1,s2,s3,s4,s5,s6⟩:=hS;go_simp) ?_
   (repeat (refine zi rfl (λK hK=>?_);go_simp;(try go_bits);refine hK _ ?_;clear hK K))
   refine zl (.int .i64 r.kind) rfl rfl (λx hS=>by obtain⟨s0,s1,s2,s3,s4,s5,s6⟩:=hS;go_simp) ?_
   (repeat (refine zi rfl (λK hK=>?_);go_simp;(try go_bits);refine hK _ ?_;clear hK K))
   refine zl (.pointer (some ⟨r.ad,0,none⟩)) rfl rfl (λx hS=>by obtain⟨s0,s1,s2,s3,s4,s5,s6⟩:=hS;go_simp) ?_
   (repeat (refine zi rfl (λK hK=>?_);go_simp;(try go_bits);refine hK _ ?_;clear hK K))
   refine zl (.int .i64 r.size) rfl rfl (λx hS=>by obtain⟨s0,s1,s2,s3,s4,s5,s6⟩:=hS;go_simp) ?_;refine zj rfl ?_;go_wp2_with fail;refine(J6 _ (Zd (Below.refl _ _))).mono ?_;rintro e w3 ⟨rfl,rfl⟩;go_wp2_with fail;refine⟨D2 _ (Zd (Below.refl _ _)),?_⟩;refine zj rfl ?_;go_wp2_with fail;refine(G5 _).mono ?_;rintro e w3 ⟨rfl,rfl⟩;go_wp2_with fail;refine⟨D2 _ (Zd (Below.refl _ _)),?_⟩
   (repeat (refine zi rfl (λK hK=>?_);go_simp;(try go_bits);refine hK _ ?_;clear hK K))
   (repeat (refine zi rfl (λK hK=>?_);go_simp;(try go_bits);refine hK _ ?_;clear hK K))
   refine zl (.pointer (some ⟨J.I.s,0,none⟩)) rfl rfl (λx hS=>by obtain⟨s0,s1,s2,s3,s4,s5,s6⟩:=hS;go_simp) ?_
   (repeat (refine zi rfl (λK hK=>?_);go_simp;(try go_bits);refine hK _ ?_;clear hK K))
   refine zl (.int .i64 sid) rfl rfl (λx hS=>by obtain⟨s0,s1,s2,s3,s4,s5,s6⟩:=hS;go_simp) ?_;refine zj rfl ?_;go_wp2_with fail;refine(G6 _ (Zd (Below.refl _ _))).mono ?_;rintro e w3 ⟨rfl,J9⟩;have A5:Below wr.heap.size wr w3:=zy (Zd (Below.refl _ wr)) J9;have N2:=zh (D2 _ A5);have N3:=zh (HL.below A5);have N4:=zh (HU.trans (.of_below A5));have G8:=zh (B0.out.keep (l:=[]) (.of_below A5) (by simp));have N5:=zh ((Upd.of_below (l:=[]) A5).ownsAbove HQ.out (by simp));clear J9 A5 G6 J6 G5 D2 HL HU B0 HQ;go_wp2_with fail;refine⟨N2,?_⟩
   (repeat (refine zi rfl (λK hK=>?_);go_simp;(try go_bits);refine hK _ ?_;clear hK K))
   refine zo ?_;go_wp2;go_loopw [8] (λi wr2=>∃k:Nat,k<=ew.length/\i=.int .i64 k/\Hid (Zh wr2 J K NW N S A [] (λ_=>False) (λ_=>False) T made U F 0)/\Hid (Row wr2 g 3 ((yj (λt=>zij S (ql.take j) t+cnt (ew.take k) t) (K+1)).map (Value.int .i64)))/\Hid (wr2.ownsRow w1.heap.size 3 1 (.slice (some ⟨b,off,none⟩) ql.length qc) ql.length (ql.map (Value.int .i64)))/\Hid (LU J w wr2)) (λi _=>ew.length-(intOf i).toNat)
   case atStart=>exact⟨0,Nat.zero_le _,rfl,N3,by unfold Hid;rw[wh (g:=zij S (ql.take j)) (λt _=>by rw[List.take_zero,zau,Nat.add_zero])];exact G8,N5,N4⟩
   case round =>
    obtain⟨k,hk,rfl,HL,B0,HQ,HU⟩:=hrel;have B6:=HL.resrow HR;have z1:=B6.cell (i:=1) rfl;have z2:=B6.cell (i:=2) rfl;have zl:=B6.lt;obtain⟨m1,y0,z0⟩:=HL.hS HR;have yl:=HL.P.slots.lt;by_cases D4:k<ew.length
    ·have A9:r.kind=1:=by
      have:=G7.out;by_cases h:r.kind=1
      ·exact h
      ·rw[if_neg h] at this;rw[this] at D4;simp at D4
     have F0:ew=ws:=by rw[G7.out,if_pos A9]
     have N6:ws.length=r.size:=by rw[J8.out];unfold nWd;rw[if_neg (by omega)]
     have P6:(k:Int)<(r.size:Int):=by
      have:ew.length=ws.length:=by rw[F0]
      omega
     obtain⟨xw,D5⟩:=zx (ws.getD k 0);have C5:k<ws.length:=by rw[<-F0];exact D4
     have B7:vy K xw:=by
      rw[D5,zg,ze C5];exact A4.out.wok (by rw[<-A4.out.kind.2];exact A9) _ (List.getElem_mem C5)
     have P7:0<=xw/\xw<=65535:=by
      rw[D5,zg,ze C5];exact A4.rng _ (List.getElem_mem C5)
     have G9:=zh (λv (hv:Below wr.heap.size wr v)=>zed (HL.P.heap.below hv) A4.V k C5);rw[<-D5] at G9;have D6:Hid (∀t,cnt (ew.take (k+1)) t=cnt (ew.take k) t+if xw=((2*t:Nat):Int) then 1 else 0):=λt=>by rw[D5,<-F0];exact zxv D4 t
     have I0:=zh (HL.hS HR);have m1l:=HL.P.head.lt;rw[A9] at z1;clear F0 N6 D5 B6 C5 A9;go_wp2_with fail;refine zm (λz=>z.cell? ⟨J.m,1,none⟩=some (.pointer (some ⟨J.h,0,none⟩))/\z.cell? ⟨J.sl,s*3,none⟩=some (.pointer (some ⟨r.ad,0,none⟩))/\z.cell? ⟨r.ad,0,none⟩=some (.int .i64 r.hb)) (zp [0,1,2,3,4,5,6,7,8,9,10,11,1012,13,14,15,16,17]) (by kernel_rfl) (by kernel_rfl) (λ_ _ _ _ _ h=>h) (I0.out) ?_;clear m1 y0 z0 z1 z2 zl yl
     (repeat (refine zi rfl (λK hK=>?_);go_simp;(try go_bits);refine hK _ ?_;clear hK K))
     refine zl (.pointer (some ⟨J.h,0,none⟩)) rfl rfl (λx hS=>by obtain⟨s0,s1,s2⟩:=hS;go_simp) ?_
     (repeat (refine zi rfl (λK hK=>?_);go_simp;(try go_bits);refine hK _ ?_;clear hK K))
     refine zl (.pointer (some ⟨r.ad,0,none⟩)) rfl rfl (λx hS=>by obtain⟨s0,s1,s2⟩:=hS;go_simp) ?_
     (repeat (refine zi rfl (λK hK=>?_);go_simp;(try go_bits);refine hK _ ?_;clear hK K))
     refine zl (.int .i64 r.hb) rfl rfl (λx hS=>by obtain⟨s0,s1,s2⟩:=hS;go_simp) ?_
     (repeat (refine zi rfl (λK hK=>?_);go_simp;(try go_bits);refine hK _ ?_;clear hK K))
     refine zj rfl ?_;go_wp2_with fail;refine(G9 _ (Zd (Below.refl _ _))).mono ?_;rintro e w4 ⟨rfl,K0⟩;have A5:Below wr.heap.size wr w4:=zy (Zd (Below.refl _ wr)) K0;have C6:=zh (HL.below A5);have F1:=zh (HU.trans (.of_below A5));have F2:=zh (B0.out.keep (l:=[]) (.of_below A5) (by simp));have D7:=zh ((Upd.of_below (l:=[]) A5).ownsAbove HQ.out (by simp));clear K0 A5 G9 HL HU B0 HQ;go_wp2_with fail;refine⟨C6.hS HR,?_⟩
     (repeat (refine zi rfl (λK hK=>?_);go_simp;(try go_bits);refine hK _ ?_;clear hK K))
     refine zo ?_;by_cases hp:ym xw
     ·have B8:Hid (Row w4 g 3 ((yj (λt=>zij S (ql.take j) t+cnt (ew.take (k+1)) t) (K+1)).map (Value.int .i64))):=by
       unfold Hid
       rw[wh (g:=λt=>zij S (ql.take j) t+cnt (ew.take k) t) (λt ht=>by
        rw[D6.out t,if_neg (hp.ne (K:=K) (by omega) (by omega)),Nat.add_zero])]
       exact F2
      clear F2 D6
      have A7:(xw % 2=1/\xw≠65534)\/xw=65534:=by
       rcases hp with h|h
       ·exact .inl ⟨h.1,by omega⟩
       ·exact .inr h
      clear hp B7;rcases A7 with⟨h1,h2⟩|h1
      ·have h3:(xw != 65534)=true:=by simpa using h2
       have h4:(xw.tmod 2)=1:=by rw[Int.tmod_eq_emod_of_nonneg (by omega)];exact h1
       go_wp2;go_roundw
       case rel=>exact⟨k+1,by omega,by go_num,C6.out,B8.out,D7.out,F1.out⟩
       case measure=>simp[intOf];omega
      ·subst h1;go_wp2;go_roundw
       case rel=>exact⟨k+1,by omega,by go_num,C6.out,B8.out,D7.out,F1.out⟩
       case measure=>simp[intOf];omega
     ·obtain⟨s2,K1,K2,N7⟩:=B7.slot hp
      have P8:(xw != 65534)=true:=by
       have:xw≠65534:=by omega
       simpa using this
      have P9:xw.tmod 2=0:=by rw[Int.tmod_eq_emod_of_nonneg (by omega)];omega
      have Q0:xw / 2=(s2:Int):=by omega
      have D8:Hid (∀t s,cnt (Zv S.V (S.sl t)) s<=1000):=C6.out.wdsLe;obtain⟨f,hf⟩:∃f:Nat->Nat,f=λt=>zij S (ql.take j) t+cnt (ew.take k) t:=⟨_,rfl⟩
      have B9:=F2.out;rw[<-hf] at B9;have D9:=B9.cell (i:=s2) (v:=.int .i64 (f s2)) (by rw[List.getElem?_map,zbq (by omega)];rfl);have Q1:=B9.free s2;have I1:=B9.lt;have N8:s2<K+1:=by omega
      have u5:Upd [g] w4 (w4.setCell ⟨g,s2,none⟩ (.int .i64 ((f s2:Int)+1))):=(Upd.refl _ _).setCell (by simp) _;have I2:=zh (C6.out.ownRow L9.out M0.out B9 (by rw[HG.out];exact Nat.le_refl _) (by decide) u5);have I3:=zh (F1.out.fresh u5 (λx hx=>by simp at hx;subst hx;rw[HG.out];exact Nat.le_refl _))
      have N9:=zh (u5.owns D7 (λx hx hm=>by
       simp at hm;subst hm;have:=(D7.out.lt x hx).1;have:=M6.out
       omega))
      have B8:Hid (Row (w4.setCell ⟨g,s2,none⟩ (.int .i64 ((f s2:Int)+1))) g 3 ((yj (λt=>zij S (ql.take j) t+cnt (ew.take (k+1)) t) (K+1)).map (Value.int .i64))):=by
       unfold Hid;have h1:=zbp B9 s2 ((f s2:Int)+1);rw[zp2 (g:=λt=>zij S (ql.take j) t+cnt (ew.take (k+1)) t) N8 (by rw[D6.out s2,if_pos K1,hf];simp only;omega) (λt ht=>by rw[D6.out t,if_neg (by omega),hf];simp only;omega)] at h1;exact h1
      have Q2:f s2<=10000000:=by
       rw[hf]
       have h1:zij S (ql.take j) s2<=801000:=by
        have:=zz3 (S:=S) (l:=ql.take j) (s:=s2) (λt=>D8.out t s2);rw[List.length_take] at this;omega
       have h2:cnt (ew.take k) s2<=(ew.take k).length:=by unfold cnt;exact List.countP_le_length
       have h3:=N1.out;rw[List.length_take] at h2;simp only;omega
      generalize f s2=fv at *;clear hf B9 u5 K1 hp B7 C6 F1 D7 F2 D6 D8;go_wp2;go_roundw
      case rel=>exact⟨k+1,by omega,by go_num,I2.out,B8.out,N9.out,I3.out⟩
      case measure=>simp[intOf];omega
    ·obtain rfl:k=ew.length:=by omega
     have B8:Hid (Row wr g 3 ((yj (zij S (ql.take (j+1))) (K+1)).map (Value.int .i64))):=by
      unfold Hid;rw[wh (g:=λt=>zij S (ql.take j) t+cnt (ew.take ew.length) t) (λt _=>by rw[List.take_length,N0.out,zr3 A8 M8.out])];exact B0
     clear B0 D4;by_cases A9:r.kind=1
     ·have Q3:¬((ew.length:Int)<(r.size:Int)):=by
       have h1:=G7.out;rw[if_pos A9] at h1;have h2:=J8.out;unfold nWd at h2;rw[if_neg (by omega)] at h2;have h3:ew.length=ws.length:=by rw[h1]
       omega
      rw[A9] at z1;clear A9;go_wp2;go_roundw
      case rel=>exact⟨j+1,by omega,by go_num,by go_num,HL.out,B8.out,HQ.out,HU.out⟩
      case measure=>simp[intOf];omega
     ·have Q4:(r.kind == 1)=false:=by simpa using A9
      clear A9;go_wp2;go_roundw
      case rel=>exact⟨j+1,by omega,by go_num,by go_num,HL.out,B8.out,HQ.out,HU.out⟩
      case measure=>simp[intOf];omega
  ·obtain rfl:j=ql.length:=by omega
   have G8:Hid (Row wr g 3 ((yj S.tot (K+1)).map (Value.int .i64))):=by
    unfold Hid;rw[wh (g:=zij S (ql.take ql.length)) (λt _=>by rw[List.take_length,G1.out,zps,zwq,HL.out.lens])];exact B0
   have O0:Hid (ql.length=(zwj S.sls).length):=by
    unfold Hid;rw[G1.out,<-HL.out.lens,zk4 _ _ (Nat.le_refl _),List.take_length]
   clear B0 HQ A8 J4 G1;go_wp2;go_loopw [11] (λi wr2=>∃s:Nat,1<=s/\s<=K+1/\i=.int .i64 s/\Hid (Zh wr2 J K NW N S A [] (λ_=>False) (λ_=>False) T made U F 0)/\Hid (Row wr2 g 3 ((yj S.tot (K+1)).map (Value.int .i64)))/\Hid (LU J w wr2)) (λi _=>K+1-(intOf i).toNat)
   case atStart=>exact⟨1,Nat.le_refl _,by omega,rfl,HL.out,G8.out,HU.out⟩
   case round =>
    obtain⟨s,K2,N7,rfl,HL,HR,HU⟩:=hrel;have m4:=HL.P.head.cell (i:=4) rfl;have m2:=HL.P.head.cell (i:=2) rfl;have m3:=HL.P.head.cell (i:=3) rfl;have mlw:=HL.P.head.lt;by_cases A8:s<K+1
    ·have M7:(s:Int)<(K:Int)+1:=by omega
     have C0:=zh (z4x HL.out K2 (by omega));have C1:=zh (λz (hb:Below wr.heap.size wr z)=>z2b (HL.out.below hb).P.clk s (by omega));obtain⟨y0,y1,y2,yl⟩:=HL.out.slot (s:=s) (by omega);have E0:=HL.out.inv.refs s (by omega);rw[zau,Nat.add_zero] at E0;have D9:=HR.out.cell (i:=s) (v:=.int .i64 (S.tot s)) (by rw[List.getElem?_map,zbq A8];rfl);have I1:=HR.out.lt
     have E1:(S.sl s).id≠0↔((S.sl s).res≠none\/0<S.tot s):=by
      rw[<-E0];refine⟨λh=>?_,HL.inv.used s⟩;rcases HL.out.inv.live s h with h1|h1|h1
      ·exact .inl h1
      ·exact .inr h1
      ·exact h1.elim
     have I4:=zdk S.sls s;have C2:bAt (zc0 S.sls) s=(S.sl s).res.isSome:=I4;rw[E0] at y2;rw[C2] at C1;generalize(S.sl s).id=sid at *;generalize S.tot s=tt at *;cases A0:(S.sl s).res with
     | some r =>
      have e0:yx (S.sl s)=.pointer (some ⟨r.ad,0,none⟩):=by unfold yx;rw[A0]
      rw[e0] at y0;have A2:decide (sid≠0)=true:=decide_eq_true (E1.2 (.inl (by rw[A0];simp)));rw[A2] at C0;rw[A0] at C1;clear A0 e0 A2 E1 I4 C2 E0;go_wp2_with fail;go_call C0 as e w' ⟨rfl,rfl⟩;go_wp2_with fail;refine(C1 _ (Below.refl _ _)).mono ?_;rintro e w6 ⟨tb,rfl,A1⟩;have B3:=zh (HL.below A1);have E2:=zh (HR.out.keep (l:=[]) (.of_below A1) (by simp));have C7:=zh (HU.trans (.of_below A1));have x0:=zu A1 y0;have x1:=zu A1 y1;have x2:=zu A1 y2;have xg:=zu A1 D9;have xl:=B3.P.slots.lt;have xgl:=E2.out.lt;clear A1 C1 C0 y0 y1 y2 D9 yl I1 m4 m2 m3 mlw;go_wp2_with fail;go_region;go_wp2;go_roundw
      case rel=>exact⟨s+1,by omega,by omega,by go_num,B3.out.below (Zd (Below.refl _ _)),E2.out.drew,C7.out.trans (.of_below (Zd (Below.refl _ _)))⟩
      case measure=>simp[intOf];omega
     | none =>
      have e0:yx (S.sl s)=.pointer none:=by unfold yx;rw[A0]
      rw[e0] at y0;rw[A0] at C1
      have A7:(tt=0/\decide (sid≠0)=false)\/(0<tt/\decide (sid≠0)=true):=by
       rcases Nat.eq_zero_or_pos tt with h|h
       ·refine .inl ⟨h,decide_eq_false (λh2=>?_)⟩;rcases E1.1 h2 with h3|h3
        ·exact h3 A0
        ·omega
       ·exact .inr ⟨h,decide_eq_true (E1.2 (.inr h))⟩
      clear e0 E1 I4 C2 E0 A0;rcases A7 with⟨K3,A2⟩|⟨K3,A2⟩
      case' inl =>
       subst K3;rw[A2] at C0
      case' inr =>
       have Q5:(tt:Int) > 0:=by omega
       rw[A2] at C0
      all_goals
       clear A2;go_wp2_with fail;go_call C0 as e w' ⟨rfl,rfl⟩;go_wp2_with fail;refine(C1 _ (Below.refl _ _)).mono ?_;rintro e w6 ⟨tb,rfl,A1⟩;have B3:=zh (HL.below A1);have E2:=zh (HR.out.keep (l:=[]) (.of_below A1) (by simp));have C7:=zh (HU.trans (.of_below A1));have x0:=zu A1 y0;have x1:=zu A1 y1;have x2:=zu A1 y2;have xg:=zu A1 D9;have xl:=B3.P.slots.lt;have xgl:=E2.out.lt;clear A1 C1 C0 y0 y1 y2 D9 yl I1 m4 m2 m3 mlw;go_wp2_with fail;go_region;go_wp2;go_roundw
       case rel=>exact⟨s+1,by omega,by omega,by go_num,B3.out.below (Zd (Below.refl _ _)),E2.out.drew,C7.out.trans (.of_below (Zd (Below.refl _ _)))⟩
       case measure=>simp[intOf];omega
    ·obtain rfl:s=K+1:=by omega
     have E3:=zh (zjq HL.P.sec);have m0:=HL.P.head.cell (i:=0) rfl;have m1:=HL.P.head.cell (i:=1) rfl;have O1:¬(((K+1:Nat):Int)<(K:Int)+1):=by omega
     clear A8 m2 m3 HR;go_wp2_with fail;go_call E3 as e w5 ⟨v226,rfl,own5,I5⟩;obtain⟨da,dc,rfl,-,-,-⟩:=zk own5;obtain⟨dl,F3⟩:=zx (xh T);have K4:dl.length=T.length:=by rw[F3];simp[xh]
     have Q6:=HL.P.sec.len;rw[<-F3] at own5 ⊢;have I2:=zh (HL.below I5);have I3:=zh (HU.trans (.of_below I5));have O2:=zh own5;have O3:Hid (∀k∈J.fix,k<wr.heap.size):=HL.out.fixlt;have O4:=zh F3;have O5:=zh HL.P.sec.rise;clear own5 I5 F3 HL HU E3 m0 m1 O1;go_wp2;go_loopw [18,228] (λn i wr2=>∃j,j<=dl.length/\n=.int .i64 (zny (T.take j):Nat)/\i=.int .i64 (j:Nat)/\Hid (Zh wr2 J K NW N S A [] (λ_=>False) (λ_=>False) T made U F 0)/\Hid (wr2.ownsRow wr.heap.size 3 1 (.slice da dl.length dc) dl.length (dl.map (Value.int .i64)))/\Hid (LU J w wr2)) (λ_ i _=>dl.length-(intOf i).toNat)
     case atStart=>exact⟨0,Nat.zero_le _,rfl,rfl,I2,O2,I3⟩
     case round =>
      obtain⟨j,Q7,rfl,rfl,HL,HD,HU⟩:=hrel;by_cases A8:j<dl.length
      ·obtain⟨_,_,hv,rd,-,-⟩:=zk HD;cases hv
       obtain⟨b,off,rfl,G2,C9⟩:=rd.at (by simp;omega);have O6:j<T.length:=by omega
       obtain⟨p,hp⟩:∃p,T[j]?=some p:=⟨_,ze O6⟩
       have K5:dl.getD j 0=(p.1:Int):=by
        rw[O4.out];unfold xh;rw[zg,List.getElem?_map,hp];rfl
       have A6:=C9 j (.int .i64 (p.1:Int)) (by rw[<-K5];exact zr A8);have F4:p∈T:=List.mem_of_getElem? hp;have K6:zt T p.1=some p.2:=qv O5.out F4;have C4:=HL.P.sec.good _ F4;have D1:=HL.P.sec.ids _ F4;have O7:=HL.P.sec.few;have K7:=zh (zdu HL.out p.1 (by omega) p.2 (by rw[HL.out.dk];exact K6))
       have E4:zny (T.take (j+1))=zny (T.take j)+obN p.2:=by
        unfold zny;rw[List.take_add_one,hp,List.map_append,List.sum_append];simp
       have Q8:zny (T.take j)<=j*1000:=by
        have key:∀l:Tb,(∀p∈l,obN p.2<=1000)->zny l<=l.length*1000:=λl=>by
         induction l with
         | nil=>intro _;simp[zny]
         | cons x l ih =>
          intro h;have a:=ih (λy hy=>h y (by simp[hy]));have b:=h x (by simp);unfold zny at a ⊢;simp only[List.map_cons,List.sum_cons,List.length_cons];omega
        have h1:=key (T.take j) (λp hp=>by
         have:=(HL.out.P.sec.good _ (List.mem_of_mem_take hp)).enc_len;unfold obN jl
         omega)
        rw[List.length_take] at h1;omega
       have E5:=zh E4;have I6:=zh C4;have m0:=HL.P.head.cell (i:=0) rfl;have mlw:=HL.P.head.lt;clear C9 rd hp K5 F4 K6 C4 E4;go_wp2_with fail;go_call K7 as e w6 ⟨d,rfl,B7,I7,F5,K8,I8⟩;have O8:=zh F5
       have K9:d.wn<=1000000:=by
        rw[B7.wl,F5.W];rcases I6.out.kinds with⟨_,_,a,_⟩|⟨_,a,_⟩
        ·omega
        ·rw[a];simp
       have E6:=zh B7;have L0:Hid (∀z,Below w6.heap.size w6 z->Calls prog 57 #[.agg #[.int .i64 d.cls,.int .i64 d.kind,.slice d.wa d.wn d.wc,.slice d.ba d.bn d.bc]] z (zeo d z)):=λz hz=>zav d z (E6.below hz) K9
       have L1:Hid ((zb0 d).length=p.2.enc.length):=by unfold Hid;rw[(F5.enc I6.out).2]
       have B3:=zh K8;have C7:=zh (HU.trans I8);have L2:=zh (I8.owns HD.out O3.out (by decide));clear B7 I7 F5 K8 I8 K7 HL HU HD m0 mlw A6 K9;go_wp2_with fail;refine(L0 _ (zn (Below.refl _ _))).mono ?_;rintro e w7 ⟨vb,rfl,ownb,L3⟩;obtain⟨ba,bc,rfl,-,-,-⟩:=zk ownb;rw[L1.out];obtain⟨nn,F6⟩:=zx (p.2.enc.length);have Q9:nn<=4012:=by rw[F6];exact I6.enc_len
       have L4:obN p.2=max ((nn+63) / 64) 1:=by rw[F6];rfl
       rw[L4] at E5;rw[<-F6];have B2:Below w6.heap.size w6 w7:=zy (zn (Below.refl _ w6)) L3;have O9:=zh (B3.below B2);have P0:=zh (C7.trans (.of_below B2));have P1:=zh ((Upd.of_below (l:=[]) B2).ownsAbove L2.out (by simp));clear ownb L3 B2 F6 L4 L0 L1 E6 B3 C7 L2;generalize zny (T.take j)=sm at *;go_wp2;go_roundw
       case rel=>exact⟨j+1,by omega,by
        rw[E5.out];congr 1
        omega,by go_num,O9.out,P1.out,P0.out⟩
       case measure=>simp[intOf];omega
      ·obtain rfl:j=dl.length:=by omega
       have L5:=zh (ztn HL.P.heap);have m0:=HL.P.head.cell (i:=0) rfl;have m1:=HL.P.head.cell (i:=1) rfl;have mlw:=HL.P.head.lt;have L6:zny (T.take dl.length)=zny T:=by rw[List.take_of_length_le (by omega)]
       rw[L6];clear L6 A8 HD;go_wp2_with fail;go_call L5 as e w8 ⟨vb,UU,rfl,ownb,L7,C3,I9⟩;obtain⟨ba,bc,rfl,-,-,-⟩:=zk ownb;have F7:=zh (HL.below I9);have P2:=zh (HU.trans (.of_below I9))
       have L8:UU.length=(zwj S.sls).length:=by
        refine Nat.le_antisymm (Z4 L7 (λk hk=>HL.inv.hbs_mem k ((C3 k).1 hk))) (Z4 HL.inv.hbs_nodup (λk hk=>(C3 k).2 ?_));obtain⟨x,hx,E7⟩:=List.mem_filterMap.1 hk;obtain⟨t,ht,rfl⟩:=zc6 hx;cases hr:(S.sls.getD t z6).res with
        | none=>rw[hr] at E7;cases E7
        | some r =>
         rw[hr] at E7;obtain⟨o,d,ws,ok⟩:=HL.inv.res t r hr;simp at E7;rw[<-E7,ok.V];simp
       rw[L8,<-O0.out];have m0:=F7.P.head.cell (i:=0) rfl;have ml8:=F7.P.head.lt;have P3:=zh (zus F7.P.sec);clear ownb L7 C3 I9 L8 L5 HL HU m1 mlw;go_wp2_with fail;go_call P3 as e w9 ⟨rfl,rfl⟩;go_wp2;go_ret;exact⟨rfl,F7,P2⟩
end
end Go.Proofs.YtoeibiahbenpcaaGreatDoor
