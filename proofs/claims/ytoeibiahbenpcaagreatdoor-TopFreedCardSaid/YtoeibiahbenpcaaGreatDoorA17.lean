/- Part. -/
import Derived.Test.YtoeibiahbenpcaaGreatDoorA16
import Derived.Laws.ResultCell
namespace Go.Proofs.YtoeibiahbenpcaaGreatDoor
open RowKit Maps Proofs.Tryz
set_option linter.unusedVariables false
set_option maxRecDepth 99999
set_option maxHeartbeats 9000000
def zb0(o:Za):List Int:=if xk o.cls o.kind o.W o.B then zfh o.cls o.kind o.W o.B else []
def zeo(o:Za)(w:World)(e:Ending)(w':World):Prop :=
 ∃v,e=.returned (.tuple #[v,.int .i64 (zag o)])/\w'.ownsRow w.heap.size 5 1 v (zb0 o).length ((zb0 o).map (Value.int .u8))/\Below w.heap.size w w'
theorem zav(o:Za)(w:World)(h:o.ok w)(hm:o.wn<=1000000):Calls prog 57 #[o.val] w (zeo o w):=by
 have A1:∀w,Below w.heap.size w (w.alloc (.cells #[.int .i64 o.cls,.int .i64 o.kind,.slice o.wa o.wn o.wc,.slice o.ba o.bn o.bc] 28)):=λw=>(Below.refl _ w).alloc (Nat.le_refl _) _
 have HC:=zh (zvh o (w.alloc (.cells #[.int .i64 o.cls,.int .i64 o.kind,.slice o.wa o.wn o.wc,.slice o.ba o.bn o.bc] 28)) (h.below (A1 w)) hm);have B7:=zh (A1 w);by_cases A2:xk o.cls o.kind o.W o.B
 ·have he:zag o=0:=by unfold zag;rw[if_pos A2]
  have hx:zb0 o=zfh o.cls o.kind o.W o.B:=by unfold zb0;rw[if_pos A2]
  unfold zeo;rw[hx,he];rw[he] at HC;have A6:=zh A2;have HH:=zh h;have HS:=zh (λw=>zcu o w);obtain⟨cls,kind,wa,wn,wc,W,ba,bn,bc,B⟩:=o;have C8:wn=W.length:=h.wl;have C9:bn=B.length:=h.bl;subst C8;subst C9;clear h A2 he hx A1;unfold Za.val at *;dsimp only at *;go_enter func57,ntmps57;go_wp2_with fail;go_call HC as e w1 ⟨rfl,bel⟩;have hq:∀i v,[Value.int .i64 cls,Value.int .i64 kind,Value.slice wa W.length wc,Value.slice ba B.length bc][i]?=some v->w1.cell? ⟨w.heap.size,i,none⟩=some v:=λi v hv=>zu bel ((Row.made w [Value.int .i64 cls,Value.int .i64 kind,Value.slice wa W.length wc,Value.slice ba B.length bc] 28).cell hv)
  have q0:=hq 0 _ rfl;have q1:=hq 1 _ rfl;have q2:=hq 2 _ rfl;have q3:=hq 3 _ rfl;have D0:=zh (zy B7 bel);clear hq bel;obtain⟨q,B1⟩:=zx (w.heap.size);rw[<-B1] at q0 q1 q2 q3 ⊢;have HQ:=zh B1;clear B1;go_wp2;refine zm (λz=>z.cell? ⟨q,0,none⟩=some (.int .i64 cls)/\z.cell? ⟨q,1,none⟩=some (.int .i64 kind)/\z.cell? ⟨q,2,none⟩=some (.slice wa W.length wc)/\z.cell? ⟨q,3,none⟩=some (.slice ba B.length bc)) (zp [0,1,2,3,4,8,9,11,12,1005,1006,1007,1010,1013,1014,15,16]) (by kernel_rfl) (by kernel_rfl) (λ_ _ _ _ _ h=>h) ⟨q0,q1,q2,q3⟩ ?_
  (repeat (refine zi rfl (λK hK=>?_);go_simp;(try go_bits);refine hK _ ?_;clear hK K))
  refine zl (.int .i64 cls) rfl rfl (λz hS=>by obtain⟨s0,s1,s2,s3⟩:=hS;go_simp) ?_
  (repeat (refine zi rfl (λK hK=>?_);go_simp;(try go_bits);refine hK _ ?_;clear hK K))
  refine zl (.int .i64 kind) rfl rfl (λz hS=>by obtain⟨s0,s1,s2,s3⟩:=hS;go_simp) ?_
  (repeat (refine zi rfl (λK hK=>?_);go_simp;(try go_bits);refine hK _ ?_;clear hK K))
  refine zl (.agg #[.int .i64 cls,.int .i64 kind,.slice wa W.length wc,.slice ba B.length bc]) rfl rfl (λz hS=>by obtain⟨s0,s1,s2,s3⟩:=hS;go_simp) ?_
  (repeat (refine zi rfl (λK hK=>?_);go_simp;(try go_bits);refine hK _ ?_;clear hK K))
  refine zl (.slice wa W.length wc) rfl rfl (λz hS=>by obtain⟨s0,s1,s2,s3⟩:=hS;go_simp) ?_
  (repeat (refine zi rfl (λK hK=>?_);go_simp;(try go_bits);refine hK _ ?_;clear hK K))
  refine zl (.slice ba B.length bc) rfl rfl (λz hS=>by obtain⟨s0,s1,s2,s3⟩:=hS;go_simp) ?_
  (repeat (refine zi rfl (λK hK=>?_);go_simp;(try go_bits);refine hK _ ?_;clear hK K))
  obtain⟨sz,A7⟩:=zx (kt kind W B)
  have D1:sz<=1000:=by
   rw[A7];unfold kt;rcases A6.out.2 with⟨k1,_,k2,_⟩|⟨k1,_,k2⟩
   ·rw[if_pos k1];exact k2
   ·rw[if_neg (by omega),if_pos k1];exact k2
  have D7:W.length<=1000:=by
   rcases A6.out.2 with⟨_,_,k2,_⟩|⟨_,k2,_⟩
   ·exact k2
   ·rw[k2];exact Nat.zero_le _
  have D8:B.length<=1000:=by
   rcases A6.out.2 with⟨_,k2,_⟩|⟨_,_,k2⟩
   ·rw[k2];exact Nat.zero_le _
   ·exact k2
  have D2:=zh A7;have B8:Hid (∀w,Calls prog 78 #[.agg #[.int .i64 cls,.int .i64 kind,.slice wa W.length wc,.slice ba B.length bc]] w λe w'=>e=.returned (.int .i64 (sz:Nat))/\Below w.heap.size w w'):=λw=>by rw[A7];exact HS w
  clear A7 HS;refine zj rfl ?_;go_wp2_with fail;refine(B8 _).mono ?_;rintro e w2 ⟨rfl,bel⟩;have r0:=zu bel q0;have r1:=zu bel q1;have r2:=zu bel q2;have r3:=zu bel q3;have D3:=zh (zy (Zd D0) bel);clear bel q0 q1 q2 q3 B8;go_wp2;refine⟨⟨r0,r1,r2,r3⟩,?_⟩
  (repeat (refine zi rfl (λK hK=>?_);go_simp;(try go_bits);refine hK _ ?_;clear hK K))
  refine zj rfl ?_;go_wp2;obtain⟨w3,A8⟩:=zx (w2.alloc (.cells #[.int .i64 cls,.int .i64 kind,.int .i64 (sz:Nat)] 3));have b3:Below w2.heap.size w2 w3:=by rw[A8];exact(Below.refl _ _).alloc (Nat.le_refl _) _
  have R3:zv w3 (some ⟨w2.heap.size,0,none⟩) 3 ([cls,kind,(sz:Int)].map (Value.int .i64)):=by rw[A8];exact zv.made w2 [.int .i64 cls,.int .i64 kind,.int .i64 (sz:Nat)] _ 3
  rw[<-A8];have s0:=zu b3 r0;have s1:=zu b3 r1;have s2:=zu b3 r2;have s3:=zu b3 r3;have D4:=zh (zy D3 b3);have B9:=zh R3;refine⟨⟨s0,s1,s2,s3⟩,?_⟩;obtain⟨q6,C0⟩:=zx (w2.heap.size);rw[<-C0] at B9 ⊢;clear A8 b3 R3 r0 r1 r2 r3 C0;have A0:=A6.out
  have C1:z3d [cls,kind,(sz:Int)]:=λx hx=>by
   simp at hx;have h1:=zgb A0.1;have h2:1<=kind/\kind<=2:=by rcases A0.2 with⟨k,_⟩|⟨k,_⟩<;>omega
   rcases hx with rfl|rfl|rfl
   ·omega
   ·omega
   ·omega
  have C2:=zh (z5h (some ⟨q6,0,none⟩) 3 3 [cls,kind,(sz:Int)] w3 rfl B9.out C1 (by omega));clear A0 C1
  (repeat (refine zi rfl (λK hK=>?_);go_simp;(try go_bits);refine hK _ ?_;clear hK K))
  refine zj rfl ?_;go_wp2_with fail;go_call C2 as e w4 ⟨v7,rfl,own7,bel⟩;obtain⟨a7,c7,rfl,C3,-,-⟩:=zk own7;have C4:=zh C3;have t0:=zu bel s0;have t1:=zu bel s1;have t2:=zu bel s2;have t3:=zu bel s3;have C5:=zh (zy D4 bel);have C6:(zce [cls,kind,(sz:Int)]).length=12:=by rw[zb5];rfl
  rw[C6];clear own7 C3 bel s0 s1 s2 s3 C2;go_wp2;refine⟨⟨t0,t1,t2,t3⟩,?_⟩;have C7:=zh (z5h wa W.length wc W w4 rfl (HH.wr.below C5) HH.wi hm)
  (repeat (refine zi rfl (λK hK=>?_);go_simp;(try go_bits);refine hK _ ?_;clear hK K))
  refine zj rfl ?_;go_wp2_with fail;go_call C7 as e w5 ⟨v10,rfl,own10,bel⟩;obtain⟨a10,c10,rfl,A4,-,-⟩:=zk own10;have B2:=zh A4;have B3:=zh (C4.below bel);have u0:=zu bel t0;have u1:=zu bel t1;have u2:=zu bel t2;have u3:=zu bel t3;have D5:=zh (zy C5 bel);clear own10 A4 bel t0 t1 t2 t3 C7 C4;obtain⟨n10,A3⟩:=zx ((zce W).length);rw[<-A3];have B4:=zh A3;clear A3;go_wp2;refine⟨⟨u0,u1,u2,u3⟩,?_⟩
  (repeat (refine zi rfl (λK hK=>?_);go_simp;(try go_bits);refine hK _ ?_;clear hK K))
  refine zj rfl ?_;go_wp2;obtain⟨w6,A9⟩:=zx (w5.alloc (.cells #[.slice a7 12 c7,.slice a10 n10 c10,.slice ba B.length bc] 26));have b6:Below w5.heap.size w5 w6:=by rw[A9];exact(Below.refl _ _).alloc (Nat.le_refl _) _
  have R6:zv w6 (some ⟨w5.heap.size,0,none⟩) 3 [.slice a7 12 c7,.slice a10 n10 c10,.slice ba B.length bc]:=by rw[A9];exact zv.made w5 [.slice a7 12 c7,.slice a10 n10 c10,.slice ba B.length bc] _ 3
  rw[<-A9];have x0:=zu b6 u0;have x1:=zu b6 u1;have x2:=zu b6 u2;have x3:=zu b6 u3;have B5:=zh (zy D5 b6)
  have B6:jq [⟨a7,12,c7,zce [cls,kind,(sz:Int)]⟩,⟨a10,n10,c10,zce W⟩,⟨ba,B.length,bc,B⟩]=zfh cls kind W B:=by
   unfold jq zfh;rw[<-D2.out];simp[zce,List.append_assoc]
  have B0:=zh (zyk (some ⟨w5.heap.size,0,none⟩) 3 3 [⟨a7,12,c7,zce [cls,kind,(sz:Int)]⟩,⟨a10,n10,c10,zce W⟩,⟨ba,B.length,bc,B⟩] w6 rfl R6 (λp hp=>by
   simp at hp;rcases hp with rfl|rfl|rfl
   ·exact⟨C6.symm,B3.below b6⟩
   ·exact⟨B4,B2.below b6⟩
   ·exact⟨rfl,HH.out.br.below B5.out⟩) (by rw[B6,zat];omega) (by simp))
  rw[B6] at B0;refine⟨⟨x0,x1,x2,x3⟩,?_⟩;obtain⟨q13,A5⟩:=zx (w5.heap.size);rw[<-A5] at B0 ⊢;clear A9 b6 R6 u0 u1 u2 u3 A5 B6
  (repeat (refine zi rfl (λK hK=>?_);go_simp;(try go_bits);refine hK _ ?_;clear hK K))
  refine zj rfl ?_;go_wp2_with fail;go_call B0 as e w7 ⟨v14,rfl,own14,bel⟩;have y0:=zu bel x0;have y1:=zu bel x1;have y2:=zu bel x2;have y3:=zu bel x3;have HO:=zh (qq own14 B5.size);have D6:=zh (zy B5 bel);clear own14 bel x0 x1 x2 x3 B0;go_wp2;refine⟨⟨y0,y1,y2,y3⟩,?_⟩
  (repeat (refine zi rfl (λK hK=>?_);go_simp;(try go_bits);refine hK _ ?_;clear hK K))
  refine zo ?_;go_wp2;go_ret2;exact⟨_,rfl,HO,D6⟩
 ·have he:zag o=2:=by unfold zag;rw[if_neg A2]
  have hx:zb0 o=[]:=by unfold zb0;rw[if_neg A2]
  unfold zeo;rw[hx,he];rw[he] at HC;clear h A2 he hx A1;unfold Za.val at *;go_enter func57,ntmps57;go_wp2_with fail;go_call HC as e w1 ⟨rfl,bel⟩;have HB:=zh (zy B7 bel);clear bel;go_wp2;go_ret2;exact⟨_,rfl,World.ownsRow_nil _ _ _ _,HB⟩
theorem zju(a0 a1:Option Addr)(n0 n1 c0 c1:Nat)(l0 l1:List Int)(w:World)(e0:n0=l0.length)(e1:n1=l1.length)
 (h0:zv w a0 c0 (l0.map (Value.int .u8))) (h1:zv w a1 c1 (l1.map (Value.int .u8))) (hm:n0<=1000000000) (A8:n1<=1000000000) :
 Calls prog 126 #[.slice a0 n0 c0,.slice a1 n1 c1] w λe w'=>e=.returned (.bool (decide (l0=l1)))/\Below w.heap.size w w':=by
 by_cases hl:n0=n1
 ·subst hl;have E0:=zh e0;have E1:=zh e1;have H0:=zh h0;have H1:=zh h1;clear e0 e1 h0 h1;go_enter func126,ntmps126;go_wp2;go_loopw [13] (λi wr=>∃k:Nat,k<=n0/\i=.int .i64 k/\Hid (∀j,j<k->l0.getD j 0=l1.getD j 0)/\Hid (Below w.heap.size w wr)) (λi _=>n0-(intOf i).toNat)
  case atStart=>exact⟨0,Nat.zero_le _,rfl,λj hj=>by omega,Below.refl _ _⟩
  case round =>
   obtain⟨k,hk,rfl,hz,hb⟩:=hrel;by_cases A9:k<n0
   ·have A2:k<l0.length:=by have:=E0.out;omega
    have A3:k<l1.length:=by have:=E1.out;omega
    obtain⟨b0,o0,rfl,_,A0⟩:=(H0.out.below hb.out).at (by simp;omega);obtain⟨b1,o1,rfl,_,A1⟩:=(H1.out.below hb.out).at (by simp;omega);have k0:=A0 k _ (zr A2);have k1:=A1 k _ (zr A3)
    have HN:=zh (λh:l0.getD k 0=l1.getD k 0=>(by
     intro j hj;by_cases A4:j=k
     ·subst A4;exact h
     ·exact hz.out j (by omega):∀j,j<k+1->l0.getD j 0=l1.getD j 0))
    have HF:=zh (λh:l0.getD k 0≠l1.getD k 0=>show l0≠l1 from λe=>h (by rw[e]));clear A0 A1 hz;generalize l0.getD k 0=y0 at *;generalize l1.getD k 0=y1 at *;by_cases hy:y0=y1
    ·subst hy;have A5:=zh (HN rfl);clear HN HF;go_wp2;go_region;go_wp2;go_roundw
     case rel=>exact⟨k+1,by omega,by go_num,A5.out,Zd hb.out⟩
     case measure=>simp[intOf];omega
    ·go_wp2;go_region;go_wp2;go_ret;exact⟨by rw[decide_eq_false (HF.out hy)];rfl,Zd hb.out⟩
   ·have A6:k=n0:=by omega
    subst A6
    have A7:=zh (show l0=l1 from by
     apply List.ext_getElem (by rw[<-E0.out,<-E1.out]);intro i h1 h2;have:=hz.out i (by rw[E0.out];exact h1)
     rwa[zg,ze h1,zg,ze h2] at this)
    go_wp2;go_ret;exact⟨by rw[decide_eq_true A7.out];rfl,hb.out⟩
 ·have HN:=zh (show l0≠l1 from λe=>hl (by rw[e0,e1,e]));clear e0 e1 h0 h1;go_enter func126,ntmps126;go_wp2;go_ret;exact⟨by rw[decide_eq_false HN.out];rfl,Below.refl _ _⟩
theorem zyi(a0 a1:Option Addr)(n0 n1 c0 c1:Nat)(l0 l1:List Int)(w:World)(e0:n0=l0.length)(e1:n1=l1.length)
 (h0:zv w a0 c0 (l0.map (Value.int .i64))) (h1:zv w a1 c1 (l1.map (Value.int .i64))) (hm:n0<=1000000000) (A8:n1<=1000000000) :
 Calls prog 69 #[.slice a0 n0 c0,.slice a1 n1 c1] w λe w'=>e=.returned (.bool (decide (l0=l1)))/\Below w.heap.size w w':=by
 by_cases hl:n0=n1
 ·subst hl;have E0:=zh e0;have E1:=zh e1;have H0:=zh h0;have H1:=zh h1;clear e0 e1 h0 h1;go_enter func69,ntmps69;go_wp2;go_loopw [13] (λi wr=>∃k:Nat,k<=n0/\i=.int .i64 k/\Hid (∀j,j<k->l0.getD j 0=l1.getD j 0)/\Hid (Below w.heap.size w wr)) (λi _=>n0-(intOf i).toNat)
  case atStart=>exact⟨0,Nat.zero_le _,rfl,λj hj=>by omega,Below.refl _ _⟩
  case round =>
   obtain⟨k,hk,rfl,hz,hb⟩:=hrel;by_cases A9:k<n0
   ·have A2:k<l0.length:=by have:=E0.out;omega
    have A3:k<l1.length:=by have:=E1.out;omega
    obtain⟨b0,o0,rfl,_,A0⟩:=(H0.out.below hb.out).at (by simp;omega);obtain⟨b1,o1,rfl,_,A1⟩:=(H1.out.below hb.out).at (by simp;omega);have k0:=A0 k _ (zr A2);have k1:=A1 k _ (zr A3)
    have HN:=zh (λh:l0.getD k 0=l1.getD k 0=>(by
     intro j hj;by_cases A4:j=k
     ·subst A4;exact h
     ·exact hz.out j (by omega):∀j,j<k+1->l0.getD j 0=l1.getD j 0))
    have HF:=zh (λh:l0.getD k 0≠l1.getD k 0=>show l0≠l1 from λe=>h (by rw[e]));clear A0 A1 hz;generalize l0.getD k 0=y0 at *;generalize l1.getD k 0=y1 at *;by_cases hy:y0=y1
    ·subst hy;have A5:=zh (HN rfl);clear HN HF;go_wp2;go_region;go_wp2;go_roundw
     case rel=>exact⟨k+1,by omega,by go_num,A5.out,Zd hb.out⟩
     case measure=>simp[intOf];omega
    ·go_wp2;go_region;go_wp2;go_ret;exact⟨by rw[decide_eq_false (HF.out hy)];rfl,Zd hb.out⟩
   ·have A6:k=n0:=by omega
    subst A6
    have A7:=zh (show l0=l1 from by
     apply List.ext_getElem (by rw[<-E0.out,<-E1.out]);intro i h1 h2;have:=hz.out i (by rw[E0.out];exact h1)
     rwa[zg,ze h1,zg,ze h2] at this)
    go_wp2;go_ret;exact⟨by rw[decide_eq_true A7.out];rfl,hb.out⟩
 ·have HN:=zh (show l0≠l1 from λe=>hl (by rw[e0,e1,e]));clear e0 e1 h0 h1;go_enter func69,ntmps69;go_wp2;go_ret;exact⟨by rw[decide_eq_false HN.out];rfl,Below.refl _ _⟩
def zhb(w:World)(l:List Int)(e:Ending)(w':World):Prop :=
 ∃v,e=.returned v/\w'.ownsRow w.heap.size 3 1 v l.length (l.map (Value.int .i64))/\Below w.heap.size w w'
theorem zjv(x:Addr)(n c:Nat)(l:List Int)(w:World)(e0:n=l.length)(h:zv w (some x) c (l.map (Value.int .u8)))(hm:n<=1000000000) :
 Calls prog 106 #[.slice (some x) n c] w (zb6 w l):=by
 subst e0;have hs:=h.alloc (.cells #[] 5);have HS:=zh hs;clear hs;have hn:=λw=>Lib.run_eql_slice_nil (P:=prog) w 26 5 (some x) l.length c 0 0 underlying26
 go_enter func106,ntmps106;go_wp2_with (at_builtin;refine Zb rfl _ _ 26 rfl w.heap.size 5 (.int .u8 0) 1 1 underlying26 zgk rfl (by decide) _ 0 [] rfl (World.ownsRow_made w #[] 0 (Nat.le_refl _) (Nat.zero_le _) rfl) (some x) l.length c _ rfl (by simp) HS.out (jw _ _) (by unfold maxLen;omega) (by omega) (by simp) ?_);intro v1 w1 own1 gr1;have bel1:Below w.heap.size w w1:=((Below.refl _ _).alloc (Nat.le_refl _) _).grown gr1 (by simp) (λk hk=>by simp[Value.ownBlock] at hk;omega);clear gr1;go_wp2;go_ret;exact⟨v1,rfl,own1,bel1⟩
theorem zym(x:Addr)(n c:Nat)(l:List Int)(w:World)(e0:n=l.length)(h:zv w (some x) c (l.map (Value.int .i64)))(hm:n<=1000000000) :
 Calls prog 91 #[.slice (some x) n c] w (zhb w l):=by
 subst e0;have hs:=h.alloc (.cells #[] 3);have HS:=zh hs;clear hs;have hn:=λw=>Lib.run_eql_slice_nil (P:=prog) w 25 3 (some x) l.length c 0 0 underlying25
 go_enter func91,ntmps91;go_wp2_with (at_builtin;refine Zb rfl _ _ 25 rfl w.heap.size 3 (.int .i64 0) 1 8 underlying25 Zx rfl (by decide) _ 0 [] rfl (World.ownsRow_made w #[] 0 (Nat.le_refl _) (Nat.zero_le _) rfl) (some x) l.length c _ rfl (by simp) HS.out (jw _ _) (by unfold maxLen;omega) (by omega) (by simp) ?_);intro v1 w1 own1 gr1;have bel1:Below w.heap.size w w1:=((Below.refl _ _).alloc (Nat.le_refl _) _).grown gr1 (by simp) (λk hk=>by simp[Value.ownBlock] at hk;omega);clear gr1;go_wp2;go_ret;exact⟨v1,rfl,own1,bel1⟩
def Za.nothing:Za:=⟨0,0,none,0,0,[],none,0,0,[]⟩
theorem zra(a:Option Addr)(n c:Nat)(w:World)(hn:n<12):Calls prog 87 #[.slice a n c] w λe w'=>e=.returned (.tuple #[Za.nothing.val,.int .i64 5])/\Below w.heap.size w w':=by
 go_enter func87,ntmps87;go_wp2
 (try simp only[Exit.inBlock,Exit.then])
 refine bodyPost_ret (by rw[results_cell_tmp rfl];go_simp;rfl) rfl ?_;exact⟨rfl,(Below.refl _ _).alloc (Nat.le_refl _) _⟩
theorem zfu(b:List Int)(p:Nat):∀k,∀x∈za5 b p k,-2147483648<=x/\x<=2147483647
 | 0,x,h=>by simp[za5] at h
 | k+1,x,h=>by
  rw[za5] at h;rcases List.mem_append.1 h with h|h
  ·exact zfu b p k x h
  ·simp only[List.mem_singleton] at h;rw[h];exact xv
def xn(base:Nat)(w:World)(o:Za):Prop:=w.ownsRow base 3 1 (.slice o.wa o.wn o.wc) o.wn (o.W.map (Value.int .i64))/\w.ownsRow base 5 1 (.slice o.ba o.bn o.bc) o.bn (o.B.map (Value.int .u8))
theorem xn.keep{base:Nat}{w w':World}{o:Za}(h:xn base w o){l:List Nat}(u:Upd l w w')(hl:∀k∈l,k<base):xn base w' o :=
 ⟨u.owns h.1 (λk hk hm=>by have:=(h.1.lt k hk).1;have:=hl k hm;omega),u.owns h.2 (λk hk hm=>by have:=(h.2.lt k hk).1;have:=hl k hm;omega)⟩
theorem xn.below{base:Nat}{w w':World}{o:Za}(h:xn base w o)(b:Below w.heap.size w w'):xn base w' o:=h.keep (l:=[]) (.of_below b) (by simp)
theorem xn.mono{base base':Nat}{w:World}{o:Za}(h:xn base w o)(hb:base'<=base):xn base' w o:=⟨qq h.1 hb,qq h.2 hb⟩
def zj0(l:List Int)(w:World)(e:Ending)(w':World):Prop :=
 Below w.heap.size w w'/\((cr l/\∃o:Za,e=.returned (.tuple #[o.val,.int .i64 0])/\o.ok w'/\xn w.heap.size w' o/\o.cls=zrq l/\o.kind=zhe l/\o.W=zl6 l/\o.B=zl7 l)\/(¬cr l/\e=.returned (.tuple #[Za.nothing.val,.int .i64 5])))
theorem z5c(a:Option Addr)(n c:Nat)(l:List Int)(w:World)(e0:n=l.length)(h:zv w a c (l.map (Value.int .u8)))(hb:Byt l)(hn:12<=n)(hc:n<=c)(hm:n<=100000)(k1:zhe l=1):Calls prog 87 #[.slice a n c] w (zj0 l w):=by
 subst e0;have HG:=zh (λw' (h':zv w' a c (l.map (Value.int .u8))) p (hp:-9223372036854775808<=p/\p<=9223372036854775807)=>z16 a l.length c l p w' rfl hc (by omega) h' hb hp.1 hp.2);have HR:=zh h;clear h;obtain⟨C,hC⟩:=zx (zh0 l 0);have K1:zh0 l 4=1:=k1;obtain⟨Kn,D2⟩:=zx ((l.length-12) / 4);have F3:12+4*Kn<=l.length:=by omega
 have F4:l.length<16+4*Kn:=by omega
 have D3:zl6 l=za5 l 12 Kn:=by unfold zl6;rw[if_pos k1,D2]
 have D4:zl7 l=[]:=by unfold zl7;rw[if_neg (by omega)]
 have D5:zhe l=1:=k1;have A7:=zh (And.intro D3 (And.intro D4 D5));clear k1 D2 D3 D4 D5;go_enter func87,ntmps87;go_wp2_with fail;refine(HG.out _ ((HR.out.alloc _)) 0 (by decide)).mono ?_;rintro e w' ⟨rfl,rfl⟩;rw[<-hC];have B9:=zh hC;clear hC;go_wp2_with fail;refine(HG.out _ ((HR.out.alloc _)) 4 (by decide)).mono ?_;rintro e w' ⟨rfl,rfl⟩;rw[K1];go_wp2_with fail;obtain⟨w2,A8⟩:=zx (((w.alloc (.cells #[.int .i64 0,.int .i64 0,.slice none 0 0,.slice none 0 0] 28)).alloc (.cells #[.int .i64 C,.int .i64 1,.slice none 0 0,.slice none 0 0] 28)))
 have B0:Row w2 (w.heap.size+1) 28 [.int .i64 C,.int .i64 1,.slice none 0 0,.slice none 0 0]:=by
  rw[A8];have:=Row.made (w.alloc (.cells #[.int .i64 0,.int .i64 0,.slice none 0 0,.slice none 0 0] 28)) [.int .i64 C,.int .i64 1,.slice none 0 0,.slice none 0 0] 28;simpa using this
 have A3:Row w2 w.heap.size 28 [.int .i64 0,.int .i64 0,.slice none 0 0,.slice none 0 0]:=by
  rw[A8];exact(Row.made w [.int .i64 0,.int .i64 0,.slice none 0 0,.slice none 0 0] 28).alloc _
 have B1:Below w.heap.size w w2:=by rw[A8];exact zn ((Below.refl _ w).alloc (Nat.le_refl _) _)
 have B2:w2.heap.size=w.heap.size+2:=by rw[A8];simp
 rw[<-A8];have B3:=zh B0;have A4:=zh A3;have C0:=zh B1;obtain⟨p0,C1⟩:=zx (w.heap.size);obtain⟨p1,C2⟩:=zx (w.heap.size+1);rw[<-C2] at B3 ⊢;rw[<-C1] at A4 ⊢;have HP:=zh (And.intro C1 (And.intro C2 B2));clear B0 A3 B1 A8 B2 C1 C2;go_loopw [9] (λi wr=>∃(k:Nat) (v:Value),k<=Kn/\i=.int .i64 (12+4*(k:Int))/\Hid (Row wr p1 28 [.int .i64 C,.int .i64 1,v,.slice none 0 0])/\Hid (Row wr p0 28 [.int .i64 0,.int .i64 0,.slice none 0 0,.slice none 0 0])/\Hid (wr.ownsRow w2.heap.size 3 1 v k ((za5 l 12 k).map (Value.int .i64)))/\Hid (Below w.heap.size w wr)/\w2.heap.size<=wr.heap.size) (λi _=>12+4*Kn+4-(intOf i).toNat)
 case atStart=>exact⟨0,.slice none 0 0,Nat.zero_le _,rfl,B3,A4,World.ownsRow_nil _ _ _ _,C0,Nat.le_refl _⟩
 case round =>
  obtain⟨k,v,hk,rfl,A2,C3,HO,HB,B2⟩:=hrel;by_cases E2:k<Kn
  ·have E3:(12:Int)+4*(k:Int)<=(l.length:Int)-4:=by omega
   obtain⟨va,vc,rfl,-,-,-⟩:=zk HO;have kc:=A2.cell (i:=2) rfl;have kf:=A2.free 2;obtain⟨x,hx⟩:=zx (zh0 l (12+4*(k:Int)));have C4:=zh (HG.out wr (HR.out.below HB.out) (12+4*(k:Int)) (by omega));rw[<-hx] at C4;have HX:=zh hx;clear hx
   go_wp2_with (first
    | (go_at_call 125;go_call C4 as e w' ⟨rfl,rfl⟩)
    | (at_builtin;refine Zb rfl _ _ 25 rfl w2.heap.size 3 (.int .i64 0) 1 8 underlying25 Zx rfl (by decide) _ _ _ rfl (HO.out.alloc _) _ 1 1 [.int .i64 x] rfl rfl (zv.madeAt rfl) (by simp[Value.oneCell']) (by unfold maxLen;omega) (by omega) (by simp;omega) ?_))
   intro v' w3 own3 gr3;have D6:=HO.out.lt;have b3:Below w2.heap.size wr w3:=((Below.refl w2.heap.size wr).alloc B2 _).grown gr3 (by simp;omega) (λk hk=>(D6 k hk).1);obtain⟨e0,e1,e2⟩:=HP.out;have R1:Row w3 p1 28 [.int .i64 C,.int .i64 1,.slice va k vc,.slice none 0 0]:=(b3.block p1 (by omega)).trans A2.out;have R0:Row w3 p0 28 [.int .i64 0,.int .i64 0,.slice none 0 0,.slice none 0 0]:=(b3.block p0 (by omega)).trans C3.out;obtain⟨va',vc',rfl,-,-,B7⟩:=zk own3;have C5:w2.heap.size<=w3.heap.size:=Nat.le_trans B2 b3.size;have kc3:=R1.cell (i:=2) rfl;have kf3:=R1.free 2
   have HW:Hid (za5 l 12 (k+1)=za5 l 12 k++[x]):=by
    rw[HX.out];show za5 l 12 k++[zh0 l ((12+4*k:Nat):Int)]=_
    rw[show((12+4*k:Nat):Int)=12+4*(k:Int) from by omega]
   have E4:Hid ((w3.setCell ⟨p1,2,none⟩ (.slice va' (k+1) vc')).ownsRow w2.heap.size 3 1 (.slice va' (k+1) vc') (k+1) ((za5 l 12 (k+1)).map (Value.int .i64))):=by
    rw[HW.out,List.map_append];refine zap own3 (λq hq=>Below.heap_setCell _ _ _ _ ?_);have:=(own3.lt q hq).1;show q≠p1
    omega
   have C6:=zh (R1.set 2 (.slice va' (k+1) vc'));have C7:=zh (R0.setOther (p:=⟨p1,2,none⟩) (by show p1≠p0;omega) (.slice va' (k+1) vc'));have A9:=zh ((HB.out.trans (b3.mono (by omega))).setCell (p:=⟨p1,2,none⟩) (by show w.heap.size<=p1;omega) (.slice va' (k+1) vc'));clear own3 gr3 D6 b3 R1 R0 B7 kc kf C4 HX e0 e1 e2;go_wp2;go_roundw
   case rel=>exact⟨k+1,_,by omega,by go_num,C6.out,C7.out,E4.out,A9.out,by simpa using C5⟩
   case measure=>simp[intOf];omega
  ·obtain rfl:Kn=k:=by omega
   have E3:¬(12:Int)+4*(Kn:Int)<=(l.length:Int)-4:=by omega
   obtain⟨va,vc,rfl,D7,D8,B7⟩:=zk HO;have E5:=zh (λx hx=>(B7 x hx).1);clear B7
   have D9:vc<=9223372036854775807:=by
    rcases HO.out.2 with⟨h,_⟩|⟨g,cap,cur,hv,_,_,_,E6,_⟩
    ·cases h;omega
    ·cases hv;unfold maxLen at E6;omega
   obtain⟨o,ho⟩:∃o:Za,o=⟨C,1,va,Kn,vc,za5 l 12 Kn,none,0,0,[]⟩:=⟨_,rfl⟩
   have B8:o.ok wr:=by
    rw[ho];have F5:-2147483648<=C/\C<=2147483647:=by rw[B9.out];exact xv (p:=0)
    refine⟨by dsimp only;omega,by dsimp only;omega,by dsimp only;rw[zfv],⟨D8,D9⟩,D7,λx hx=>?_,rfl,⟨Nat.le_refl _,by dsimp only;omega⟩,zv.nil wr,Byt.nil⟩;have:=zfu l 12 Kn x hx;constructor<;>omega
   have HE:=zh (zav o wr B8 (by rw[ho];dsimp only;omega));have hv:o.val=.agg #[.int .i64 C,.int .i64 1,.slice va Kn vc,.slice none 0 0]:=by rw[ho];rfl
   rw[hv] at HE;have E7:=zh B8;have E8:Hid (xn w2.heap.size wr o):=by rw[ho];exact⟨HO,World.ownsRow_nil _ _ _ _⟩
   have A1:=zh ho;have j0:=A2.cell (i:=0) rfl;have j1:=A2.cell (i:=1) rfl;have j2:=A2.cell (i:=2) rfl;have j3:=A2.cell (i:=3) rfl;obtain⟨wA,rfl⟩:=zx (wr);clear D7 D8 D9 B8 hv ho E2 hk;go_wp2_with fail;go_call HE as e w4 ⟨v4,rfl,own4,b4⟩;obtain⟨a4,c4,rfl,C8,-,-⟩:=zk own4;have R1:Row w4 p1 28 [.int .i64 C,.int .i64 1,.slice va Kn vc,.slice none 0 0]:=(b4.block p1 A2.lt).trans A2;have R0:Row w4 p0 28 [.int .i64 0,.int .i64 0,.slice none 0 0,.slice none 0 0]:=(b4.block p0 C3.lt).trans C3;have F6:=zh C8;have C9:=zh (E7.below b4);have D0:=zh (E8.below b4);have A9:=zh (zy HB b4)
   have B4:(zb0 o).length<=100000:=by
    unfold zb0;split
    ·rename_i B8
     rw[zat,A1.out];dsimp only;rw[zfv];simp only[List.length_nil];omega
    ·simp
   have E9:=zh B4;have B5:=zh (zju a4 a (zb0 o).length l.length c4 c (zb0 o) l w4 rfl rfl C8 (HR.out.below A9.out) (by omega) (by omega));clear own4 C8 b4 j0 j1 j2 j3 HE B4
   have B6:cr l↔(zag o=0/\zb0 o=l):=by
    have e1:o.cls=zrq l:=by rw[A1.out];exact B9
    have e2:o.kind=zhe l:=by rw[A1.out];exact A7.out.2.2.symm
    have e3:o.W=zl6 l:=by rw[A1.out];exact A7.out.1.symm
    have e4:o.B=zl7 l:=by rw[A1.out];exact A7.out.2.1.symm
    unfold cr zag zb0;rw[e1,e2,e3,e4];by_cases hk:xk (zrq l) (zhe l) (zl6 l) (zl7 l)
    ·rw[if_pos hk,if_pos hk];exact⟨λh=>⟨rfl,h.2.2⟩,λh=>⟨hn,hk,h.2⟩⟩
    ·rw[if_neg hk];exact⟨λh=>absurd h.2.1 hk,λh=>by cases h.1⟩
   have A6:=zh B6;clear B6;obtain⟨n4,E0⟩:=zx ((zb0 o).length);rw[<-E0] at B5 ⊢;clear E0 E9;by_cases hE:zag o=0
   ·rw[hE];by_cases hq:zb0 o=l
    ·rw[decide_eq_true hq] at B5;have F0:=zh (A6.out.2 ⟨hE,hq⟩);clear hE hq;go_wp2_with fail;go_call B5 as e w5 ⟨rfl,b5⟩;have R15:Row w5 p1 28 [.int .i64 C,.int .i64 1,.slice va Kn vc,.slice none 0 0]:=(b5.block p1 R1.lt).trans R1;have R05:Row w5 p0 28 [.int .i64 0,.int .i64 0,.slice none 0 0,.slice none 0 0]:=(b5.block p0 R0.lt).trans R0;have i0:=R15.cell (i:=0) rfl;have i1:=R15.cell (i:=1) rfl;have i2:=R15.cell (i:=2) rfl;have i3:=R15.cell (i:=3) rfl;have o0:=R05.cell (i:=0) rfl;have o1:=R05.cell (i:=1) rfl;have o2:=R05.cell (i:=2) rfl;have o3:=R05.cell (i:=3) rfl;have f0:=R05.free 0;have f1:=R05.free 1;have f2:=R05.free 2;have f3:=R05.free 3;go_wp2;obtain⟨w6,A0⟩:=zx ((((w5.setCell ⟨p0,0,none⟩ (.int .i64 C)).setCell ⟨p0,1,none⟩ (.int .i64 1)).setCell ⟨p0,2,none⟩ (.slice va Kn vc)).setCell ⟨p0,3,none⟩ (.slice none 0 0));have R6:Row w6 p0 28 [.int .i64 C,.int .i64 1,.slice va Kn vc,.slice none 0 0]:=by rw[A0];exact(((R05.set 0 _).set 1 _).set 2 _).set 3 _
     have U6:Upd [p0] w5 w6:=by rw[A0];exact((((Upd.refl [p0] w5).setCell (by simp) _).setCell (by simp) _).setCell (by simp) _).setCell (by simp) _
     rw[<-A0];clear A0;have z0:=R6.cell (i:=0) rfl;have z1:=R6.cell (i:=1) rfl;have z2:=R6.cell (i:=2) rfl;have z3:=R6.cell (i:=3) rfl
     (try simp only[Exit.inBlock,Exit.then])
     refine bodyPost_ret (by rw[results_cell_tmp rfl];go_simp;rfl) rfl ?_;have hp:=HP.out;have A5:=zh (zy A9 b5);have ok5:=C9.below b5;have F1:o.wa=va:=by rw[A1.out]
     have F2:o.ba=none:=by rw[A1.out]
     refine⟨A5.out.trans (U6.below A5.out.size (λk hk=>by simp at hk;omega)),.inl ⟨F0.out,o,by rw[A1.out];rfl,⟨ok5.c0,ok5.k0,ok5.wl,ok5.wm,U6.reads ok5.wr (λx hx=>?_),ok5.wi,ok5.bl,ok5.bm,U6.reads ok5.br (λx hx=>?_),ok5.bb⟩,((D0.out.below b5).keep U6 (λk hk=>by simp at hk;omega)).mono (by omega),by rw[A1.out];exact B9.out,by rw[A1.out];exact A7.out.2.2.symm,by rw[A1.out];exact A7.out.1.symm,by rw[A1.out];exact A7.out.2.1.symm⟩⟩
     ·rw[F1] at hx;have:=E5.out x hx;simp;omega
     ·rw[F2] at hx;cases hx
    ·rw[decide_eq_false hq] at B5;have D1:=zh (show ¬cr l from λh=>hq (A6.out.1 h).2);clear hE hq;go_wp2_with fail;go_call B5 as e w5 ⟨rfl,b5⟩;have R05:Row w5 p0 28 [.int .i64 0,.int .i64 0,.slice none 0 0,.slice none 0 0]:=(b5.block p0 R0.lt).trans R0;have A5:=zh (zy A9 b5);have o0:=R05.cell (i:=0) rfl;have o1:=R05.cell (i:=1) rfl;have o2:=R05.cell (i:=2) rfl;have o3:=R05.cell (i:=3) rfl;have f0:=R05.free 0;have f1:=R05.free 1;have f2:=R05.free 2;have f3:=R05.free 3;go_wp2;obtain⟨w6,A0⟩:=zx ((((w5.setCell ⟨p0,0,none⟩ (.int .i64 0)).setCell ⟨p0,1,none⟩ (.int .i64 0)).setCell ⟨p0,2,none⟩ (.slice none 0 0)).setCell ⟨p0,3,none⟩ (.slice none 0 0));have R6:Row w6 p0 28 [.int .i64 0,.int .i64 0,.slice none 0 0,.slice none 0 0]:=by rw[A0];exact(((R05.set 0 _).set 1 _).set 2 _).set 3 _
     have U6:Upd [p0] w5 w6:=by rw[A0];exact((((Upd.refl [p0] w5).setCell (by simp) _).setCell (by simp) _).setCell (by simp) _).setCell (by simp) _
     rw[<-A0];clear A0;have z0:=R6.cell (i:=0) rfl;have z1:=R6.cell (i:=1) rfl;have z2:=R6.cell (i:=2) rfl;have z3:=R6.cell (i:=3) rfl
     (try simp only[Exit.inBlock,Exit.then])
     refine bodyPost_ret (by rw[results_cell_tmp rfl];go_simp;rfl) rfl ?_;have hp:=HP.out.1;exact⟨A5.out.trans (U6.below A5.out.size (λk hk=>by simp at hk;omega)),.inr ⟨D1.out,rfl⟩⟩
   ·have E1:zag o=2:=by
     unfold zag at hE ⊢;split
     ·rename_i hx;rw[if_pos hx] at hE;exact absurd rfl hE
     ·rfl
    rw[E1];have D1:=zh (show ¬cr l from λh=>hE (A6.out.1 h).1);clear hE E1;obtain⟨w5,rfl⟩:=zx (w4);have R05:=R0;have A5:=A9;have o0:=R05.cell (i:=0) rfl;have o1:=R05.cell (i:=1) rfl;have o2:=R05.cell (i:=2) rfl;have o3:=R05.cell (i:=3) rfl;have f0:=R05.free 0;have f1:=R05.free 1;have f2:=R05.free 2;have f3:=R05.free 3;go_wp2;obtain⟨w6,A0⟩:=zx ((((w5.setCell ⟨p0,0,none⟩ (.int .i64 0)).setCell ⟨p0,1,none⟩ (.int .i64 0)).setCell ⟨p0,2,none⟩ (.slice none 0 0)).setCell ⟨p0,3,none⟩ (.slice none 0 0));have R6:Row w6 p0 28 [.int .i64 0,.int .i64 0,.slice none 0 0,.slice none 0 0]:=by rw[A0];exact(((R05.set 0 _).set 1 _).set 2 _).set 3 _
    have U6:Upd [p0] w5 w6:=by rw[A0];exact((((Upd.refl [p0] w5).setCell (by simp) _).setCell (by simp) _).setCell (by simp) _).setCell (by simp) _
    rw[<-A0];clear A0;have z0:=R6.cell (i:=0) rfl;have z1:=R6.cell (i:=1) rfl;have z2:=R6.cell (i:=2) rfl;have z3:=R6.cell (i:=3) rfl
    (try simp only[Exit.inBlock,Exit.then])
    refine bodyPost_ret (by rw[results_cell_tmp rfl];go_simp;rfl) rfl ?_;have hp:=HP.out.1;exact⟨A5.out.trans (U6.below A5.out.size (λk hk=>by simp at hk;omega)),.inr ⟨D1.out,rfl⟩⟩
theorem z5d(a:Option Addr)(n c:Nat)(l:List Int)(w:World)(e0:n=l.length)(h:zv w a c (l.map (Value.int .u8)))(hb:Byt l)(hn:12<=n)(hc:n<=c)(hm:n<=100000)(k1:zhe l≠1)(k2:zhe l≠2):Calls prog 87 #[.slice a n c] w (zj0 l w):=by
 subst e0;have HG:=zh (λw' (h':zv w' a c (l.map (Value.int .u8))) p (hp:-9223372036854775808<=p/\p<=9223372036854775807)=>z16 a l.length c l p w' rfl hc (by omega) h' hb hp.1 hp.2);have HR:=zh h;clear h;obtain⟨C,hC⟩:=zx (zh0 l 0);obtain⟨K,hK⟩:=zx (zh0 l 4);have q1:(K == 1)=false:=by rw[hK];exact beq_eq_false_iff_ne.2 k1
 have q2:(K == 2)=false:=by rw[hK];exact beq_eq_false_iff_ne.2 k2
 have C1:-2147483648<=K/\K<=2147483647:=by rw[hK];exact xv (p:=4)
 have B6:=zh (show ¬cr l from λh=>by
  rcases h.2.1.2 with⟨h1,_⟩|⟨h1,_⟩
  ·exact k1 h1
  ·exact k2 h1)
 have B1:K≠1:=by rw[hK];exact k1
 have B2:K≠2:=by rw[hK];exact k2
 have A4:=zh (And.intro B1 B2);clear k1 k2 B1 B2;go_enter func87,ntmps87;go_wp2_with fail;refine(HG.out _ ((HR.out.alloc _)) 0 (by decide)).mono ?_;rintro e w' ⟨rfl,rfl⟩;rw[<-hC];have B7:=zh hC;clear hC;go_wp2_with fail;refine(HG.out _ ((HR.out.alloc _)) 4 (by decide)).mono ?_;rintro e w' ⟨rfl,rfl⟩;rw[<-hK];have C2:=zh hK;clear hK;go_wp2_with fail;obtain⟨w2,A3⟩:=zx (((w.alloc (.cells #[.int .i64 0,.int .i64 0,.slice none 0 0,.slice none 0 0] 28)).alloc (.cells #[.int .i64 C,.int .i64 K,.slice none 0 0,.slice none 0 0] 28)))
 have A5:Row w2 (w.heap.size+1) 28 [.int .i64 C,.int .i64 K,.slice none 0 0,.slice none 0 0]:=by
  rw[A3];have:=Row.made (w.alloc (.cells #[.int .i64 0,.int .i64 0,.slice none 0 0,.slice none 0 0] 28)) [.int .i64 C,.int .i64 K,.slice none 0 0,.slice none 0 0] 28;simpa using this
 have A2:Row w2 w.heap.size 28 [.int .i64 0,.int .i64 0,.slice none 0 0,.slice none 0 0]:=by
  rw[A3];exact(Row.made w [.int .i64 0,.int .i64 0,.slice none 0 0,.slice none 0 0] 28).alloc _
 have A6:Below w.heap.size w w2:=by rw[A3];exact zn ((Below.refl _ w).alloc (Nat.le_refl _) _)
 have B3:w2.heap.size=w.heap.size+2:=by rw[A3];simp
 rw[<-A3];have A0:=zh A5;have A1:=zh A2;have A8:=zh A6;obtain⟨p0,A9⟩:=zx (w.heap.size);obtain⟨p1,B0⟩:=zx (w.heap.size+1);rw[<-B0] at A0 ⊢;rw[<-A9] at A1 ⊢;have HP:=zh (And.intro A9 (And.intro B0 B3));clear A5 A2 A6 A3 B3 A9 B0;go_loopw [9] (λi wr=>i=.int .i64 12/\w2=wr) (λi _=>1-(intOf i).toNat)
 case atStart=>exact⟨rfl,rfl⟩
 case round =>
  obtain⟨rfl,rfl⟩:=hrel;obtain⟨o,ho⟩:∃o:Za,o=⟨C,K,none,0,0,[],none,0,0,[]⟩:=⟨_,rfl⟩
  have B4:o.ok w2:=by
   rw[ho];have C3:-2147483648<=C/\C<=2147483647:=by rw[B7.out];exact xv (p:=0)
   exact⟨by dsimp only;omega,by dsimp only;omega,rfl,⟨Nat.le_refl _,by dsimp only;omega⟩,zv.nil w2,λx hx=>by simp at hx,rfl,⟨Nat.le_refl _,by dsimp only;omega⟩,zv.nil w2,Byt.nil⟩
  have hE:zag o=2:=by
   unfold zag;rw[if_neg];rintro⟨_,h|h⟩
   ·exact A4.out.1 (by have:=h.1;rw[ho] at this;exact this)
   ·exact A4.out.2 (by have:=h.1;rw[ho] at this;exact this)
  have HE:=zh (zav o w2 B4 (by rw[ho];dsimp only;omega));have hv:o.val=.agg #[.int .i64 C,.int .i64 K,.slice none 0 0,.slice none 0 0]:=by rw[ho];rfl
  rw[hv] at HE;have B8:=zh hE;have HB:=zh A8;have j0:=A0.cell (i:=0) rfl;have j1:=A0.cell (i:=1) rfl;have j2:=A0.cell (i:=2) rfl;have j3:=A0.cell (i:=3) rfl;clear B4 hv hE ho;go_wp2_with fail;go_call HE as e w4 ⟨v4,rfl,own4,b4⟩;obtain⟨a4,c4,rfl,B9,-,-⟩:=zk own4;have R0:Row w4 p0 28 [.int .i64 0,.int .i64 0,.slice none 0 0,.slice none 0 0]:=(b4.block p0 A1.lt).trans A1;have C0:=zh (zy HB b4);rw[B8.out];generalize(zb0 o).length=n4 at *;clear own4 B9 b4 j0 j1 j2 j3 HE HB;obtain⟨w5,rfl⟩:=zx (w4);have R05:=R0;have B5:=C0;have o0:=R05.cell (i:=0) rfl;have o1:=R05.cell (i:=1) rfl;have o2:=R05.cell (i:=2) rfl;have o3:=R05.cell (i:=3) rfl;have f0:=R05.free 0;have f1:=R05.free 1;have f2:=R05.free 2;have f3:=R05.free 3;go_wp2;obtain⟨w6,A7⟩:=zx ((((w5.setCell ⟨p0,0,none⟩ (.int .i64 0)).setCell ⟨p0,1,none⟩ (.int .i64 0)).setCell ⟨p0,2,none⟩ (.slice none 0 0)).setCell ⟨p0,3,none⟩ (.slice none 0 0));have R6:Row w6 p0 28 [.int .i64 0,.int .i64 0,.slice none 0 0,.slice none 0 0]:=by rw[A7];exact(((R05.set 0 _).set 1 _).set 2 _).set 3 _
  have U6:Upd [p0] w5 w6:=by rw[A7];exact((((Upd.refl [p0] w5).setCell (by simp) _).setCell (by simp) _).setCell (by simp) _).setCell (by simp) _
  rw[<-A7];clear A7;have z0:=R6.cell (i:=0) rfl;have z1:=R6.cell (i:=1) rfl;have z2:=R6.cell (i:=2) rfl;have z3:=R6.cell (i:=3) rfl
  (try simp only[Exit.inBlock,Exit.then])
  refine bodyPost_ret (by rw[results_cell_tmp rfl];go_simp;rfl) rfl ?_;have hp:=HP.out.1;exact⟨B5.out.trans (U6.below B5.out.size (λk hk=>by simp at hk;omega)),.inr ⟨B6.out,rfl⟩⟩
end Go.Proofs.YtoeibiahbenpcaaGreatDoor
