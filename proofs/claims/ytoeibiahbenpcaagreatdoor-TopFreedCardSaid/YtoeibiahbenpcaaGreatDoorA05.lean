/- Part. -/
import Derived.Test.YtoeibiahbenpcaaGreatDoorA04
namespace Go.Proofs.YtoeibiahbenpcaaGreatDoor
open RowKit Maps Proofs.Tryz
set_option linter.unusedVariables false
set_option maxRecDepth 99999
set_option maxHeartbeats 9000000
def z2q(I:SpI)(S:SpS)(F n sz:Nat)(d:List Int)(w:World)(e:Ending)(w':World):Prop :=
 Upd [I.d,I.dg,I.mp,I.bg] w w'/\
 (
  (jl d.length=n/\e=.returned (.tuple #[.agg #[.int .i64 F,.int .i64 (jl d.length),.int .i64 d.length],.int .i64 0])/\yu w' I (laid { S with f:=vo ((F:Int),(n:Int),(sz:Int)) S.f } F d))\/
  (jl d.length≠n/\qu (jx S.b F n false) S.N (jl d.length) none/\e=.returned (.tuple #[.agg #[.int .i64 0,.int .i64 0,.int .i64 0],.int .i64 3])/\yu w' I S)\/
  (jl d.length≠n/\∃G:Nat,qu (jx S.b F n false) S.N (jl d.length) (some G)/\e=.returned (.tuple #[.agg #[.int .i64 G,.int .i64 (jl d.length),.int .i64 d.length],.int .i64 0])/\
   yu w' I (zwh (zme { S with b:=jx S.b F n false } F n sz) G d)))
theorem z45{w:World}{I:SpI}{S:SpS}(h:yu w I S)(F n sz:Nat)(hF:F+n<=S.N)(F0:1<=n)(F1:sz<=10000000)(hf:S.f ((F:Int),(n:Int),(sz:Int))=true)(C1:jt S.b F n true)(d:List Int)(hq:S.q+jl d.length<1000000)(D6:S.c<999999)
 (a:Option Addr) (len cap:Nat) (e0:len=d.length) (hl:len<=1000000) (hb:Byt d) (hr:zv w a cap (d.map (Value.int .u8))) (C2:len<=cap) (hd:0<len->∀y,a=some y->y.block∉I.all) :
 Calls prog 88 #[.pointer (some ⟨I.m,0,none⟩),.agg #[.int .i64 F,.int .i64 n,.int .i64 sz],.slice a len cap] w (z2q I S F n sz d w):=by
 have hN:=h.dk.small;obtain⟨X,hX⟩:=zx (w.heap.size);obtain⟨W,hW⟩:=zx ((w.alloc (.cells #[.int .i64 F,.int .i64 n,.int .i64 sz] 152)).alloc (.cells #[.int .i64 0,.int .i64 0,.int .i64 0] 152));have bW:Below w.heap.size w W:=by rw[hW];exact((Below.refl _ _).alloc (Nat.le_refl _) _).alloc (by simp) _
 have rX:Row W X 152 [.int .i64 F,.int .i64 n,.int .i64 sz]:=by rw[hW,hX];exact(Row.made w _ _).alloc _
 have rR:Row W (X+1) 152 [.int .i64 0,.int .i64 0,.int .i64 0]:=by
  rw[hW,hX];have:=Row.made (w.alloc (.cells #[.int .i64 F,.int .i64 n,.int .i64 sz] 152)) [.int .i64 0,.int .i64 0,.int .i64 0] 152;simpa using this
 have D7:∀k∈I.all,k<X:=by rw[hX];exact h.lt
 have A2:=zh (h.below bW);have C0:=zh hX;have HW:=zh hW;have A8:=zh D7;have A0:=zh rX;have A1:=zh rR;have A4:Hid (Upd [I.d,I.dg,I.mp,I.bg,X,X+1] w W):=Upd.of_below bW;have C3:=zh C1;have HB:=zh hb;have D2:=zh hr;have HD:=zh hd;have HE:=zh e0;have E3:=zsc d.length;have D3:=yi d.length;have F2:=zh hf;have HC:=zh (zoj A2.out (F:Int) (n:Int) (sz:Int) (zji (by omega) (by omega) (by omega)) hf);have D8:=zh (zji (F:=F) (n:=n) (s:=sz) (by omega) (by omega) (by omega));clear h hX hW bW rX rR D7 hf C1 hb hr hd
 have B1:∀z:World,Calls prog 127 #[.int .i64 len] z λe w'=>e=.returned (.int .i64 (jl d.length))/\z=w':=λz=>by
  have:=zlv len z (by omega);rw[show jl len=jl d.length by rw[e0]] at this;exact this
 obtain⟨N2,D4⟩:=zx (jl d.length);rw[<-D4] at hq E3 D3 B1;have A7:=zh D4;have B2:=zh B1;clear B1 D4 e0;go_enter func88,ntmps88;go_wp2_with fail;rw[<-HW.out,<-C0.out];clear HW;go_call HC as e w1 ⟨rfl,hb⟩;have A2:=zh (A2.below hb);have A0:=zh (A0.out.keep (l:=[]) (.of_below hb) (by simp));have A1:=zh (A1.out.keep (l:=[]) (.of_below hb) (by simp));have A4:Hid (Upd [I.d,I.dg,I.mp,I.bg,X,X+1] w _):=A4.trans (Upd.of_below hb);clear hb HC;have x0:=A0.cell (i:=0) rfl;have x1:=A0.cell (i:=1) rfl;have x2:=A0.cell (i:=2) rfl;go_wp2_with fail;refine zm (λz=>z.cell? ⟨X,0,none⟩=some (.int .i64 F)/\z.cell? ⟨X,1,none⟩=some (.int .i64 n)/\z.cell? ⟨X,2,none⟩=some (.int .i64 sz)) (zp [0,1,3,4,1002,5]) (by kernel_rfl) (by kernel_rfl) (λ_ _ _ _ _ h=>h) ⟨x0,x1,x2⟩ ?_;clear x0 x1 x2
 (repeat (refine zi rfl (λK hK=>?_);go_simp;(try go_bits);refine hK _ ?_;clear hK K))
 refine zl (.int .i64 n) rfl rfl (λx hS=>by obtain⟨s0,s1,s2⟩:=hS;go_simp) ?_;refine zj rfl ?_;go_wp2_with fail;refine(B2 _).mono ?_;rintro e w' ⟨rfl,rfl⟩;go_wp2;refine⟨⟨A0.cell (i:=0) rfl,A0.cell (i:=1) rfl,A0.cell (i:=2) rfl⟩,?_⟩
 (repeat (refine zi rfl (λK hK=>?_);go_simp;(try go_bits);refine hK _ ?_;clear hK K))
 refine zo ?_;have B3:Below w1.heap.size w1 w1.drew:=Zd (Below.refl _ w1);generalize w1.drew=wd at *;have A2:=zh (A2.below B3);have A0:=zh (A0.out.keep (l:=[]) (.of_below B3) (by simp));have A1:=zh (A1.out.keep (l:=[]) (.of_below B3) (by simp));have A4:Hid (Upd [I.d,I.dg,I.mp,I.bg,X,X+1] w _):=A4.trans (Upd.of_below B3);clear B3;by_cases hs:N2=n
 ·obtain rfl:n=N2:=hs.symm;have x0:=A0.cell (i:=0) rfl;have x1:=A0.cell (i:=1) rfl;have x2:=A0.cell (i:=2) rfl;have k0:=A2.row.cell (i:=2) rfl;go_wp2_with fail;refine zm (λz=>z.cell? ⟨I.m,2,none⟩=some (.map (some I.mp))/\z.cell? ⟨X,0,none⟩=some (.int .i64 F)/\z.cell? ⟨X,1,none⟩=some (.int .i64 n)/\z.cell? ⟨X,2,none⟩=some (.int .i64 sz)) (zp [0,1,2,3,4,1005]) (by kernel_rfl) (by kernel_rfl) (λ_ _ _ _ _ h=>h) ⟨k0,x0,x1,x2⟩ ?_;clear x0 x1 x2 k0
  (repeat (refine zi rfl (λK hK=>?_);go_simp;(try go_bits);refine hK _ ?_;clear hK K))
  refine zl (.map (some I.mp)) rfl rfl (λx hS=>by obtain⟨s0,s1,s2,s3⟩:=hS;go_simp) ?_
  (repeat (refine zi rfl (λK hK=>?_);go_simp;(try go_bits);refine hK _ ?_;clear hK K))
  refine zl (.agg #[.int .i64 F,.int .i64 n,.int .i64 sz]) rfl rfl (λx hS=>by obtain⟨s0,s1,s2,s3⟩:=hS;go_simp) ?_;refine zj rfl ?_;refine zfs rfl _ _ rfl I.mp S.c S.f rfl (A2.out.lv.keep (l:=[]) (Upd.refl _ _).drew (by simp)) ((F:Int),(n:Int),(sz:Int)) D8.out rfl ?_;intro v2 hl hu;have A6:Upd [I.mp] wd v2:=((Upd.refl _ _).drew).trans hu;have A2:=zh (A2.live hl A6)
  have A3:∀j,X<=j->j∉[I.mp]:=λj hj hm=>by
   have B8:=A8.out I.mp (by simp[SpI.all]);simp at hm;omega
  have A0:=zh (A0.keep A6 (A3 X (Nat.le_refl _)));have A1:=zh (A1.out.keep A6 (A3 (X+1) (by omega)));have A4:=zh (A4.out.trans (A6.mono (m:=[I.d,I.dg,I.mp,I.bg,X,X+1]) (by simp)));refine⟨⟨A2.row.cell (i:=2) rfl,A0.cell (i:=0) rfl,A0.cell (i:=1) rfl,A0.cell (i:=2) rfl⟩,?_⟩;clear hl hu A6 A3;refine zo ?_;have x0:=A0.cell (i:=0) rfl;have x1:=A0.cell (i:=1) rfl;have x2:=A0.cell (i:=2) rfl
  have B9:=z1k A2.out F d (by rw[<-A7.out];show F+n<=S.N;omega) (sz:Int) (by rw[<-A7.out];exact hq) D6 a len cap HE HB (yy D2 A4 (λh0 y hy hm=>by
  have h1:=HD.out (by have:=HE.out;simp at h0;omega) y hy;have h2:=D2.out;have h3:=zkr h2 h0 y hy;have h4:=C0.out;simp[SpI.all] at h1;simp at hm
  omega)) C2 HD.out
  rw[<-A7.out] at B9;have C4:=zh B9;clear B9;go_wp2_with fail;go_call C4 as e wl ⟨rfl,B4,hu⟩;have A2:=zh B4;unfold exV
  have A3:∀j,X<=j->j∉[I.d,I.dg,I.mp]:=λj hj hm=>by
   have E4:=A8.out I.d (by simp[SpI.all]);have C5:=A8.out I.dg (by simp[SpI.all]);have B8:=A8.out I.mp (by simp[SpI.all]);simp at hm;omega
  have A0:=zh (A0.keep hu (A3 X (Nat.le_refl _)));have A1:=zh (A1.out.keep hu (A3 (X+1) (by omega)));have A4:=zh (A4.out.trans (hu.mono (m:=[I.d,I.dg,I.mp,I.bg,X,X+1]) (by simp)));clear B4 hu A3 x0 x1 x2 C4;rw[<-A7.out,<-HE.out];have y0:=A1.cell (i:=0) rfl;have y1:=A1.cell (i:=1) rfl;have y2:=A1.cell (i:=2) rfl;have g0:=A1.free 0;have g1:=A1.free 1;have g2:=A1.free 2;go_wp2_with fail;obtain⟨v3,A9⟩:=zx (((wl.setCell ⟨X+1,0,none⟩ (.int .i64 F)).setCell ⟨X+1,1,none⟩ (.int .i64 n)).setCell ⟨X+1,2,none⟩ (.int .i64 len));have B0:Row v3 (X+1) 152 [.int .i64 F,.int .i64 n,.int .i64 len]:=by rw[A9];exact((A1.set 0 _).set 1 _).set 2 _
  have u3:Upd [X+1] wl v3:=by rw[A9];exact(((Upd.refl [X+1] wl).setCell (by simp) _).setCell (by simp) _).setCell (by simp) _
  rw[<-A9];have B5:=zh u3;clear A9 u3 y0 y1 y2 g0 g1 g2;have z0:=B0.cell (i:=0) rfl;have z1:=B0.cell (i:=1) rfl;have z2:=B0.cell (i:=2) rfl;clear B0
  (try simp only[Exit.inBlock,Exit.then])
  refine bodyPost_ret (by rw[Z2 rfl];go_simp;rfl) rfl ?_
  have C6:∀k∈I.all,k∉[X+1]:=λk hk hm=>by
   have:=A8.out k hk;simp at hm;omega
  have C7:=A2.keep B5 C6
  have C8:Upd [I.d,I.dg,I.mp,I.bg] w v3:=Upd.new (m:=[I.d,I.dg,I.mp,I.bg,X,X+1]) (A4.out.trans (B5.out.mono (by simp))) (λj hj=>by
   have:=C0.out;simp at hj ⊢
   omega)
  exact⟨C8,.inl ⟨by rw[<-A7.out],by rw[<-A7.out,<-HE.out];try rfl,C7⟩⟩
 ·have F3:¬(N2:Int)=n:=by omega
  have B6:ze1 S.N (F:Int) (n:Int):=⟨by omega,by omega,by omega⟩;have A5:jt S.b (F:Int).toNat (n:Int).toNat true:=by rw[Int.toNat_natCast,Int.toNat_natCast];exact C3
  have hE:zqx S.b S.N (F:Int) (n:Int) true 4=0:=by unfold zqx;rw[if_pos B6,if_pos A5]
  have C9:zqy S.b S.N (F:Int) (n:Int) true=jx S.b F n false:=by unfold zqy;rw[if_pos ⟨B6,A5⟩,Int.toNat_natCast,Int.toNat_natCast];rfl
  have D9:=zh B6;have E5:=zh hE;have E6:=zh C9;clear B6 A5 hE C9;have x0:=A0.cell (i:=0) rfl;have x1:=A0.cell (i:=1) rfl;have x2:=A0.cell (i:=2) rfl;have k0:=A2.row.cell (i:=1) rfl;go_wp2_with fail;refine zm (λz=>z.cell? ⟨I.m,1,none⟩=some (.pointer (some ⟨I.bm,0,none⟩))/\z.cell? ⟨X,0,none⟩=some (.int .i64 F)/\z.cell? ⟨X,1,none⟩=some (.int .i64 n)/\z.cell? ⟨X,2,none⟩=some (.int .i64 sz)) (zp [0,1,2,3,4,5,6,7,1008]) (by kernel_rfl) (by kernel_rfl) (λ_ _ _ _ _ h=>h) ⟨k0,x0,x1,x2⟩ ?_;clear x0 x1 x2 k0
  (repeat (refine zi rfl (λK hK=>?_);go_simp;(try go_bits);refine hK _ ?_;clear hK K))
  refine zl (.pointer (some ⟨I.bm,0,none⟩)) rfl rfl (λx hS=>by obtain⟨s0,s1,s2,s3⟩:=hS;go_simp) ?_
  (repeat (refine zi rfl (λK hK=>?_);go_simp;(try go_bits);refine hK _ ?_;clear hK K))
  refine zl (.int .i64 F) rfl rfl (λx hS=>by obtain⟨s0,s1,s2,s3⟩:=hS;go_simp) ?_
  (repeat (refine zi rfl (λK hK=>?_);go_simp;(try go_bits);refine hK _ ?_;clear hK K))
  refine zl (.int .i64 n) rfl rfl (λx hS=>by obtain⟨s0,s1,s2,s3⟩:=hS;go_simp) ?_;refine zj rfl ?_;have hT:=zvl _ _ _ _ wd.drew (A2.out.bt.keep (l:=[]) (Upd.refl _ _).drew (by simp) (by simp)) (F:Int) (n:Int) (by omega) (by omega) (by omega);unfold gz at hT;rw[E5.out,E6.out] at hT;have HT:=zh hT;clear hT;go_wp2_with fail;go_call HT as e v2 ⟨rfl,hm,hu⟩;have A6:Upd [I.bg] wd v2:=((Upd.refl _ _).drew).trans hu;have A2:Hid (yu v2 I { S with b:=jx S.b F n false }):=A2.bits hm A6
  have A3:∀j,X<=j->j∉[I.bg]:=λj hj hm=>by
   have D0:=A8.out I.bg (by simp[SpI.all]);simp at hm;omega
  have A0:=zh (A0.keep A6 (A3 X (Nat.le_refl _)));have A1:=zh (A1.out.keep A6 (A3 (X+1) (by omega)));have A4:=zh (A4.out.trans (A6.mono (m:=[I.d,I.dg,I.mp,I.bg,X,X+1]) (by simp)));clear hm hu A6 A3 HT;go_wp2;refine⟨⟨A2.row.cell (i:=1) rfl,A0.cell (i:=0) rfl,A0.cell (i:=1) rfl,A0.cell (i:=2) rfl⟩,?_⟩;refine zo ?_;have x0:=A0.cell (i:=0) rfl;have x1:=A0.cell (i:=1) rfl;have x2:=A0.cell (i:=2) rfl;have k0:=A2.row.cell (i:=1) rfl;go_wp2_with fail;refine zm (λz=>z.cell? ⟨I.m,1,none⟩=some (.pointer (some ⟨I.bm,0,none⟩))/\z.cell? ⟨X,0,none⟩=some (.int .i64 F)/\z.cell? ⟨X,1,none⟩=some (.int .i64 n)/\z.cell? ⟨X,2,none⟩=some (.int .i64 sz)) (zp [0,1,2,3,4,5,1006,1007,8,9,10,11,12]) (by kernel_rfl) (by kernel_rfl) (λ_ _ _ _ _ h=>h) ⟨k0,x0,x1,x2⟩ ?_;clear x0 x1 x2 k0
  (repeat (refine zi rfl (λK hK=>?_);go_simp;(try go_bits);refine hK _ ?_;clear hK K))
  refine zl (.pointer (some ⟨I.bm,0,none⟩)) rfl rfl (λx hS=>by obtain⟨s0,s1,s2,s3⟩:=hS;go_simp) ?_
  (repeat (refine zi rfl (λK hK=>?_);go_simp;(try go_bits);refine hK _ ?_;clear hK K))
  refine zj rfl ?_;go_wp2_with fail;refine(B2 _).mono ?_;rintro e w' ⟨rfl,rfl⟩;go_wp2;refine⟨⟨A2.row.cell (i:=1) rfl,A0.cell (i:=0) rfl,A0.cell (i:=1) rfl,A0.cell (i:=2) rfl⟩,?_⟩;refine zj rfl ?_;have HF:=zh (zu9 _ _ _ _ v2.drew (A2.out.bt.keep (l:=[]) (Upd.refl _ _).drew (by simp) (by simp)) (N2:Int) (by omega));go_wp2_with fail;go_call HF as e w' ⟨⟨o,ho,rfl⟩,rfl⟩;clear HF
  have E0:qu (jx S.b F n false) S.N N2 o:=by
   rcases ho with⟨h1,-⟩|⟨-,h1⟩
   ·omega
   ·rwa[Int.toNat_natCast] at h1
  have HO:=zh E0;clear ho E0;unfold zov;go_wp2;refine⟨⟨A2.row.cell (i:=1) rfl,A0.cell (i:=0) rfl,A0.cell (i:=1) rfl,A0.cell (i:=2) rfl⟩,?_⟩
  (repeat (refine zi rfl (λK hK=>?_);go_simp;(try go_bits);refine hK _ ?_;clear hK K))
  refine zo ?_;have B3:Below v2.heap.size v2 v2.drew:=Zd (Below.refl _ v2);generalize v2.drew=vd at *;have A2:=zh (A2.below B3);have A0:=zh (A0.out.keep (l:=[]) (.of_below B3) (by simp));have A1:=zh (A1.out.keep (l:=[]) (.of_below B3) (by simp));have A4:Hid (Upd [I.d,I.dg,I.mp,I.bg,X,X+1] w _):=A4.trans (Upd.of_below B3);clear B3;cases o with
  | none =>
   have D1:zqx (jx S.b F n false) S.N (F:Int) (n:Int) false 3=0:=by
    unfold zqx;rw[if_pos D9.out,if_pos (by rw[Int.toNat_natCast,Int.toNat_natCast];exact zff _ _ _ _)]
   have E1:zqy (jx S.b F n false) S.N (F:Int) (n:Int) false=S.b:=by
    unfold zqy;rw[if_pos ⟨D9.out,by rw[Int.toNat_natCast,Int.toNat_natCast];exact zff _ _ _ _⟩,Int.toNat_natCast,Int.toNat_natCast];exact zlj C3 false
   have E7:=zh D1;have E8:=zh E1;clear D1 E1;have x0:=A0.cell (i:=0) rfl;have x1:=A0.cell (i:=1) rfl;have x2:=A0.cell (i:=2) rfl;have k0:=A2.row.cell (i:=1) rfl;go_wp2_with fail;refine zm (λz=>z.cell? ⟨I.m,1,none⟩=some (.pointer (some ⟨I.bm,0,none⟩))/\z.cell? ⟨X,0,none⟩=some (.int .i64 F)/\z.cell? ⟨X,1,none⟩=some (.int .i64 n)/\z.cell? ⟨X,2,none⟩=some (.int .i64 sz)) (zp [0,1,2,3,4,5,6,7,1008]) (by kernel_rfl) (by kernel_rfl) (λ_ _ _ _ _ h=>h) ⟨k0,x0,x1,x2⟩ ?_;clear x0 x1 x2 k0
   (repeat (refine zi rfl (λK hK=>?_);go_simp;(try go_bits);refine hK _ ?_;clear hK K))
   refine zl (.pointer (some ⟨I.bm,0,none⟩)) rfl rfl (λx hS=>by obtain⟨s0,s1,s2,s3⟩:=hS;go_simp) ?_
   (repeat (refine zi rfl (λK hK=>?_);go_simp;(try go_bits);refine hK _ ?_;clear hK K))
   refine zl (.int .i64 F) rfl rfl (λx hS=>by obtain⟨s0,s1,s2,s3⟩:=hS;go_simp) ?_
   (repeat (refine zi rfl (λK hK=>?_);go_simp;(try go_bits);refine hK _ ?_;clear hK K))
   refine zl (.int .i64 n) rfl rfl (λx hS=>by obtain⟨s0,s1,s2,s3⟩:=hS;go_simp) ?_;refine zj rfl ?_;have hT:=zur _ _ _ _ vd.drew (A2.out.bt.keep (l:=[]) (Upd.refl _ _).drew (by simp) (by simp)) (F:Int) (n:Int) (by omega) (by omega) (by omega);unfold gz at hT;rw[E7.out,E8.out] at hT;have HT:=zh hT;clear hT;go_wp2_with fail;go_call HT as e wl ⟨rfl,hm,hu⟩;have A6:Upd [I.bg] vd wl:=((Upd.refl _ _).drew).trans hu;have A2:Hid (yu wl I S):=A2.bits hm A6
   have A3:∀j,X<=j->j∉[I.bg]:=λj hj hm=>by
    have D0:=A8.out I.bg (by simp[SpI.all]);simp at hm;omega
   have A0:=zh (A0.keep A6 (A3 X (Nat.le_refl _)));have A1:=zh (A1.out.keep A6 (A3 (X+1) (by omega)));have A4:=zh (A4.out.trans (A6.mono (m:=[I.d,I.dg,I.mp,I.bg,X,X+1]) (by simp)));clear hm hu A6 A3 HT;go_wp2;refine⟨⟨A2.row.cell (i:=1) rfl,A0.cell (i:=0) rfl,A0.cell (i:=1) rfl,A0.cell (i:=2) rfl⟩,?_⟩;refine zo ?_;have y0:=A1.cell (i:=0) rfl;have y1:=A1.cell (i:=1) rfl;have y2:=A1.cell (i:=2) rfl;have g0:=A1.free 0;have g1:=A1.free 1;have g2:=A1.free 2;go_wp2_with fail;obtain⟨v3,A9⟩:=zx (((wl.setCell ⟨X+1,0,none⟩ (.int .i64 0)).setCell ⟨X+1,1,none⟩ (.int .i64 0)).setCell ⟨X+1,2,none⟩ (.int .i64 0));have B0:Row v3 (X+1) 152 [.int .i64 0,.int .i64 0,.int .i64 0]:=by rw[A9];exact((A1.set 0 _).set 1 _).set 2 _
   have u3:Upd [X+1] wl v3:=by rw[A9];exact(((Upd.refl [X+1] wl).setCell (by simp) _).setCell (by simp) _).setCell (by simp) _
   rw[<-A9];have B5:=zh u3;clear A9 u3 y0 y1 y2 g0 g1 g2;have z0:=B0.cell (i:=0) rfl;have z1:=B0.cell (i:=1) rfl;have z2:=B0.cell (i:=2) rfl;clear B0
   (try simp only[Exit.inBlock,Exit.then])
   refine bodyPost_ret (by rw[Z2 rfl];go_simp;rfl) rfl ?_
   have C6:∀k∈I.all,k∉[X+1]:=λk hk hm=>by
    have:=A8.out k hk;simp at hm;omega
   have C7:=A2.keep B5 C6
   have C8:Upd [I.d,I.dg,I.mp,I.bg] w v3:=Upd.new (m:=[I.d,I.dg,I.mp,I.bg,X,X+1]) (A4.out.trans (B5.out.mono (by simp))) (λj hj=>by
    have:=C0.out;simp at hj ⊢
    omega)
   exact⟨C8,.inr (.inl ⟨by rw[<-A7.out];exact hs,by rw[<-A7.out];exact HO,rfl,C7⟩)⟩
  | some G =>
   have D5:G+N2<=S.N:=HO.out.1;have B7:jt (jx S.b F n false) G N2 false:=HO.out.2.1;have E9:=zh B7;clear B7;have x0:=A0.cell (i:=0) rfl;have x1:=A0.cell (i:=1) rfl;have x2:=A0.cell (i:=2) rfl;have E2:=zh (zzh A2 F n (sz:Int) hF D8);go_wp2_with fail;go_call E2 as e v4 ⟨rfl,B4,hu⟩;have A2:=zh B4
   have A3:∀j,X<=j->j∉[I.dg,I.mp]:=λj hj hm=>by
    have C5:=A8.out I.dg (by simp[SpI.all]);have B8:=A8.out I.mp (by simp[SpI.all]);simp at hm;omega
   have A0:=zh (A0.keep hu (A3 X (Nat.le_refl _)));have A1:=zh (A1.out.keep hu (A3 (X+1) (by omega)));have A4:=zh (A4.out.trans (hu.mono (m:=[I.d,I.dg,I.mp,I.bg,X,X+1]) (by simp)));clear B4 hu A3 x0 x1 x2 E2;go_wp2_with fail;refine(B2 _).mono ?_;rintro e w' ⟨rfl,rfl⟩;have k1:=A2.row.cell (i:=1) rfl;have B6:ze1 S.N (G:Int) (N2:Int):=⟨by omega,by omega,by omega⟩;have A5:jt (jx S.b F n false) (G:Int).toNat (N2:Int).toNat false:=by rw[Int.toNat_natCast,Int.toNat_natCast];exact E9
   have hE:zqx (jx S.b F n false) S.N (G:Int) (N2:Int) false 3=0:=by unfold zqx;rw[if_pos B6,if_pos A5]
   have C9:zqy (jx S.b F n false) S.N (G:Int) (N2:Int) false=jx (jx S.b F n false) G N2 true:=by unfold zqy;rw[if_pos ⟨B6,A5⟩,Int.toNat_natCast,Int.toNat_natCast];rfl
   have hT:=zur _ _ _ _ v4 A2.out.bt (G:Int) (N2:Int) (by omega) (by omega) (by omega);unfold gz at hT;rw[show(zme { S with b:=jx S.b F n false } F n (sz:Int)).b=jx S.b F n false from rfl,show(zme { S with b:=jx S.b F n false } F n (sz:Int)).N=S.N from rfl,hE,C9] at hT;have HT:=zh hT;clear B6 A5 hE C9 hT;go_wp2_with fail;go_call HT as e v5 ⟨rfl,hm,hu⟩;have A2:=zh (A2.bits hm hu)
   have A3:∀j,X<=j->j∉[I.bg]:=λj hj hm=>by
    have D0:=A8.out I.bg (by simp[SpI.all]);simp at hm;omega
   have A0:=zh (A0.keep hu (A3 X (Nat.le_refl _)));have A1:=zh (A1.out.keep hu (A3 (X+1) (by omega)));have A4:=zh (A4.out.trans (hu.mono (m:=[I.d,I.dg,I.mp,I.bg,X,X+1]) (by simp)));clear hm hu A3 HT k1
   have B9:=z1k A2.out G d (by rw[<-A7.out];exact D5) 0 (by rw[<-A7.out];exact hq) D6 a len cap HE HB (yy D2 A4 (λh0 y hy hm=>by
  have h1:=HD.out (by have:=HE.out;simp at h0;omega) y hy;have h2:=D2.out;have h3:=zkr h2 h0 y hy;have h4:=C0.out;simp[SpI.all] at h1;simp at hm
  omega)) C2 HD.out
   rw[<-A7.out] at B9;have C4:=zh B9;clear B9;go_wp2_with fail;go_call C4 as e wl ⟨rfl,B4,hu⟩;have A2:=zh B4;unfold exV
   have A3:∀j,X<=j->j∉[I.d,I.dg,I.mp]:=λj hj hm=>by
    have E4:=A8.out I.d (by simp[SpI.all]);have C5:=A8.out I.dg (by simp[SpI.all]);have B8:=A8.out I.mp (by simp[SpI.all]);simp at hm;omega
   have A0:=zh (A0.keep hu (A3 X (Nat.le_refl _)));have A1:=zh (A1.out.keep hu (A3 (X+1) (by omega)));have A4:=zh (A4.out.trans (hu.mono (m:=[I.d,I.dg,I.mp,I.bg,X,X+1]) (by simp)));clear B4 hu A3 C4;rw[<-A7.out,<-HE.out];have y0:=A1.cell (i:=0) rfl;have y1:=A1.cell (i:=1) rfl;have y2:=A1.cell (i:=2) rfl;have g0:=A1.free 0;have g1:=A1.free 1;have g2:=A1.free 2;go_wp2_with fail;obtain⟨v3,A9⟩:=zx (((wl.setCell ⟨X+1,0,none⟩ (.int .i64 G)).setCell ⟨X+1,1,none⟩ (.int .i64 N2)).setCell ⟨X+1,2,none⟩ (.int .i64 len));have B0:Row v3 (X+1) 152 [.int .i64 G,.int .i64 N2,.int .i64 len]:=by rw[A9];exact((A1.set 0 _).set 1 _).set 2 _
   have u3:Upd [X+1] wl v3:=by rw[A9];exact(((Upd.refl [X+1] wl).setCell (by simp) _).setCell (by simp) _).setCell (by simp) _
   rw[<-A9];have B5:=zh u3;clear A9 u3 y0 y1 y2 g0 g1 g2;have z0:=B0.cell (i:=0) rfl;have z1:=B0.cell (i:=1) rfl;have z2:=B0.cell (i:=2) rfl;clear B0
   (try simp only[Exit.inBlock,Exit.then])
   refine bodyPost_ret (by rw[Z2 rfl];go_simp;rfl) rfl ?_
   have C6:∀k∈I.all,k∉[X+1]:=λk hk hm=>by
    have:=A8.out k hk;simp at hm;omega
   have C7:=A2.keep B5 C6
   have C8:Upd [I.d,I.dg,I.mp,I.bg] w v3:=Upd.new (m:=[I.d,I.dg,I.mp,I.bg,X,X+1]) (A4.out.trans (B5.out.mono (by simp))) (λj hj=>by
    have:=C0.out;simp at hj ⊢
    omega)
   refine⟨C8,.inr (.inr ⟨by rw[<-A7.out];exact hs,G,by rw[<-A7.out];exact HO.out,by rw[<-A7.out,<-HE.out];try rfl,?_⟩)⟩;unfold zwh;rw[<-A7.out];exact C7
def Ovl(x:Rw4)(F n:Nat):Prop:=F<x.1+rN x/\x.1<F+n
def zhc(L:List Rw4)(N n:Nat):Option Nat->Prop
 | some F=>F+n<=N/\(∀x∈L,¬Ovl x F n)/\∀F',F'<F->∃x∈L,Ovl x F' n
 | none=>∀F',F'+n<=N->∃x∈L,Ovl x F' n
theorem zaj.free{S:SpS}{L:List Rw4}(h:zaj S L){F n:Nat}(hn:1<=n):jt S.b F n false↔∀x∈L,¬Ovl x F n:=by
 constructor
 ·intro hr x hx ho;have:=h.not_cov hr hn hx;have h1:=ho.1;have h2:=ho.2;omega
 ·intro ha i hi;cases hb:S.b (F+i) with
  | false=>rfl
  | true =>
   obtain⟨x,hx,h1,h2⟩:=(h.bits _).1 hb;exact absurd ⟨by omega,by omega⟩ (ha x hx)
theorem zaj.ovl{S:SpS}{L:List Rw4}(h:zaj S L){F n:Nat}(hn:1<=n)(hr:¬jt S.b F n false):∃x∈L,Ovl x F n:=by
 rcases Classical.em (∃x∈L,Ovl x F n) with h1|h1
 ·exact h1
 ·exact absurd ((h.free hn).2 (λx hx ho=>h1 ⟨x,hx,ho⟩)) hr
theorem zaj.first{S:SpS}{L:List Rw4}(h:zaj S L){n:Nat}(hn:1<=n){o:Option Nat}(hf:qu S.b S.N n o):zhc L S.N n o:=by
 cases o with
 | none=>exact λF' hF=>h.ovl hn (hf F' hF)
 | some F=>exact⟨hf.1,(h.free hn).1 hf.2.1,λF' hF=>h.ovl hn (hf.2.2 F' hF)⟩
theorem zaj.setSame{S:SpS}{L:List Rw4}(h:zaj S L){k:Nat}{x:Rw4}(hk:L[k]?=some x){d:List Int}(hd:Byt d)(hs:jl d.length=rN x) :
 zaj (laid { S with f:=vo (rE x) S.f } x.1 d) (L.eraseIdx k++[(x.1,d)]):=by
 have hx:x∈L:=List.mem_of_getElem? hk;have hf:=h.fit x hx;have A0:jt S.b x.1 (rN x) true:=λi hi=>(h.bits _).2 ⟨x,hx,by omega,by omega⟩
 have h1:=h.cut hk (bs:=S.bs) h.len (λF m _=>rfl) S.c S.q S.r;have h2:=h1.add (F:=x.1) (d:=d) (by rw[hs];exact hf) (by rw[hs];exact zff _ _ _ _) hd
 have e:zwh { S with bs:=S.bs,b:=jx S.b x.1 (rN x) false,f:=vo (rE x) S.f,c:=S.c,q:=S.q,r:=S.r } x.1 d=laid { S with f:=vo (rE x) S.f } x.1 d:=by
  unfold zwh;rw[show jx (jx S.b x.1 (rN x) false) x.1 (jl d.length) true=S.b by rw[hs];exact zlj A0 false]
 rw[e] at h2;exact h2
theorem zaj.setElse{S:SpS}{L:List Rw4}(h:zaj S L){k:Nat}{x:Rw4}(hk:L[k]?=some x){d:List Int}(hd:Byt d){G:Nat}(hf:qu (jx S.b x.1 (rN x) false) S.N (jl d.length) (some G)) :
 zaj (zwh (zme { S with b:=jx S.b x.1 (rN x) false } x.1 (rN x) (x.2.length:Int)) G d) (L.eraseIdx k++[(G,d)]):=(h.wipe hk).add hf.1 hf.2.1 hd
theorem zaj.setFirst{S:SpS}{L:List Rw4}(h:zaj S L){k:Nat}{x:Rw4}(hk:L[k]?=some x){n:Nat}(hn:1<=n){o:Option Nat}(hf:qu (jx S.b x.1 (rN x) false) S.N n o):zhc (L.eraseIdx k) S.N n o:=(h.wipe hk).first hn hf
theorem zaj.reads{S:SpS}{L:List Rw4}(h:zaj S L)(r:Nat):zaj { S with r:=r } L:=⟨h.live,h.fit,h.bits,h.data,h.apart,h.byt,h.len,h.cnt⟩
theorem zaj.run{S:SpS}{L:List Rw4}(h:zaj S L){x:Rw4}(hx:x∈L):jt S.b x.1 (rN x) true:=λi hi=>(h.bits _).2 ⟨x,hx,by omega,by omega⟩
def SG(w:World)(I:SpI)(L:List Rw4)(N k:Nat):Prop :=
 ∃S,yu w I S/\zaj S L/\S.N=N/\S.r<=0/\S.q<=0/\S.c<=20000
theorem zaj.few{S:SpS}{L:List Rw4}(h:zaj S L):L.length<=S.N:=by
 have h1:L.length<=(L.map rN).sum:=by
  clear h;induction L with
  | nil=>simp
  | cons x L ih =>
   have:=zer x;simp only[List.length_cons,List.map_cons,List.sum_cons];omega
 rw[<-h.cnt] at h1;exact Nat.le_trans h1 (zjl _ _)
theorem SG.of{w:World}{I:SpI}{S:SpS}{L:List Rw4}{N k:Nat}(h:yu w I S)(g:zaj S L)(hN:S.N=N):SG w I L N k:=by
 have hf:=g.few;have hs:=h.dk.small;refine⟨{ S with r:=0,q:=0,c:=(L.map rE).length },⟨h.row,⟨h.dk.head,h.dk.data,h.dk.len,h.dk.ne,h.dk.small,h.dk.byt,Nat.zero_le _,Nat.zero_le _⟩,h.bt,h.lv.tight _ (λx hx=>?_),h.ne⟩,⟨g.live,g.fit,g.bits,g.data,g.apart,g.byt,g.len,g.cnt⟩,hN,Nat.le_refl _,Nat.le_refl _,?_⟩
 ·obtain⟨y,hy,rfl⟩:=(g.live x).1 hx;exact List.mem_map_of_mem hy
 ·show(L.map rE).length<=_
  rw[List.length_map];omega
section
variable{w w':World}{I:SpI}{L:List Rw4}{N k:Nat}
theorem SG.keep(h:SG w I L N k){l:List Nat}(u:Upd l w w')(hl:∀k∈I.all,k∉l):SG w' I L N k:=by
 obtain⟨S,h1,h2⟩:=h;exact⟨S,h1.keep u hl,h2⟩
theorem SG.below(h:SG w I L N k)(hb:Below w.heap.size w w'):SG w' I L N k:=h.keep (l:=[]) (.of_below hb) (by simp)
theorem SG.lt(h:SG w I L N k):∀j∈I.all,j<w.heap.size:=by obtain⟨S,h1,-⟩:=h;exact h1.lt
theorem SG.fit(h:SG w I L N k):∀x∈L,x.1+rN x<=N:=by
 obtain⟨S,h1,h2,rfl,-⟩:=h;exact h2.fit
theorem SG.small(h:SG w I L N k):N<=20000:=by obtain⟨S,h1,h2,rfl,-⟩:=h;exact h1.dk.small
theorem SG.apart(h:SG w I L N k):L.Pairwise Ap:=by obtain⟨S,h1,h2,-⟩:=h;exact h2.apart
theorem z6z(n:Nat)(w:World)(hn:n<=20000):Calls prog 72 #[.int .i64 n] w λe w'=>∃I,e=.returned (.tuple #[.pointer (some ⟨I.m,0,none⟩),.int .i64 0])/\SG w' I [] n 0/\(∀k∈I.all,w.heap.size<=k)/\Below w.heap.size w w' :=
 (z48 n w hn).mono λe w' ⟨I,h1,h2,h3,h4⟩=>⟨I,h1,SG.of h2 (zaj.new n) rfl,h3,h4.below (Nat.le_refl _) (by simp)⟩
def exA(F n s:Int):Value:=.agg #[.int .i64 F,.int .i64 n,.int .i64 s]
def z62(I:SpI)(L:List Rw4)(N k:Nat)(d:List Int)(w:World)(e:Ending)(w':World):Prop :=
 (zhc L N (jl d.length) none/\e=.returned (.tuple #[exA 0 0 0,.int .i64 3])/\SG w' I L N k/\Upd I.all w w')\/
 ∃F:Nat,zhc L N (jl d.length) (some F)/\e=.returned (.tuple #[exA F (jl d.length) d.length,.int .i64 0])/\SG w' I (L++[(F,d)]) N (k+1)/\Upd I.all w w'
theorem z6y(h:SG w I L N k)(d:List Int)(a:Option Addr)(len cap:Nat)(e0:len=d.length)(hl:len<=1000000)
 (hb:Byt d) (hr:zv w a cap (d.map (Value.int .u8))) (A0:len<=cap) (hd:0<len->∀y,a=some y->y.block∉I.all) :
 Calls prog 220 #[.pointer (some ⟨I.m,0,none⟩),.slice a len cap] w (z62 I L N k d w):=by
 obtain⟨S,h1,h2,rfl,h4,h5,h6⟩:=h;have hs:jl d.length<=20000:=by unfold jl;omega
 refine(z47 h1 d (by omega) (by omega) a len cap e0 hl hb hr A0 hd).mono ?_;rintro e w' (⟨hf,rfl,k2,k3⟩|⟨F,hf,rfl,k2,k3⟩)
 ·exact .inl ⟨h2.first (yi _) hf,rfl,⟨S,k2,h2,rfl,h4,h5,h6⟩,k3.mono (by simp)⟩
 ·have A1:=hf.1;exact .inr ⟨F,h2.first (yi _) hf,rfl,SG.of k2 (h2.add hf.1 hf.2.1 hb) rfl,k3.mono (by simp[SpI.all])⟩
def z67(I:SpI)(L:List Rw4)(N k:Nat)(x:Rw4)(w:World)(e:Ending)(w':World):Prop :=
 ∃a c,e=.returned (.tuple #[.slice a x.2.length c,.int .i64 0])/\zv w' a c (x.2.map (Value.int .u8))/\(∀y,a=some y->w.heap.size<=y.block)/\SG w' I L N (k+1)/\Upd I.all w w'/\x.2.length<=c
theorem z60(h:SG w I L N k){x:Rw4}(hx:x∈L) :
 Calls prog 86 #[.pointer (some ⟨I.m,0,none⟩),exA x.1 (rN x) x.2.length] w (z67 I L N k x w):=by
 obtain⟨S,h1,h2,rfl,h4,h5,h6⟩:=h;have A1:=h1.dk.small;have hf:=h2.fit x hx;refine(z49 h1 x.1 (rN x) x.2.length hf (ci _) (by omega) ((h2.live _).2 ⟨x,hx,rfl⟩)).mono ?_;rintro e w' ⟨a,c,rfl,k2,k3,k4,k5,k6⟩;have A0:(S.bs.drop (64*x.1)).take x.2.length=x.2:=h2.data x hx;rw[A0] at k2;exact⟨a,c,rfl,k2,k3,SG.of k4 (h2.reads _) rfl,k5.mono (by simp[SpI.all]),k6⟩
def z61(I:SpI)(L:List Rw4)(N k j:Nat)(x:Rw4)(d:List Int)(w:World)(e:Ending)(w':World):Prop :=
 Upd I.all w w'/\
 (
  (jl d.length=rN x/\e=.returned (.tuple #[exA x.1 (jl d.length) d.length,.int .i64 0])/\SG w' I (L.eraseIdx j++[(x.1,d)]) N (k+1))\/
  (jl d.length≠rN x/\zhc (L.eraseIdx j) N (jl d.length) none/\e=.returned (.tuple #[exA 0 0 0,.int .i64 3])/\SG w' I L N k)\/
  (jl d.length≠rN x/\∃G:Nat,zhc (L.eraseIdx j) N (jl d.length) (some G)/\e=.returned (.tuple #[exA G (jl d.length) d.length,.int .i64 0])/\SG w' I (L.eraseIdx j++[(G,d)]) N (k+1)))
theorem z6x(h:SG w I L N k){j:Nat}{x:Rw4}(hj:L[j]?=some x)(A2:x.2.length<=1000000)(d:List Int)(a:Option Addr)(len cap:Nat)(e0:len=d.length)(hl:len<=1000000)
 (hb:Byt d) (hr:zv w a cap (d.map (Value.int .u8))) (A0:len<=cap) (hd:0<len->∀y,a=some y->y.block∉I.all) :
 Calls prog 88 #[.pointer (some ⟨I.m,0,none⟩),exA x.1 (rN x) x.2.length,.slice a len cap] w (z61 I L N k j x d w):=by
 obtain⟨S,h1,h2,rfl,h4,h5,h6⟩:=h;have hx:x∈L:=List.mem_of_getElem? hj;have hs:jl d.length<=20000:=by unfold jl;omega
 have hf:=h2.fit x hx;refine(z45 h1 x.1 (rN x) x.2.length hf (zer x) (by omega) ((h2.live _).2 ⟨x,hx,rfl⟩) (h2.run hx) d (by omega) (by omega) a len cap e0 hl hb hr A0 hd).mono ?_;rintro e w' ⟨ku,h⟩;refine⟨ku.mono (by simp[SpI.all]),?_⟩;rcases h with⟨ks,rfl,k2⟩|⟨ks,kf,rfl,k2⟩|⟨ks,G,kf,rfl,k2⟩
 ·exact .inl ⟨ks,rfl,SG.of k2 (h2.setSame hj hb ks) rfl⟩
 ·exact .inr (.inl ⟨ks,h2.setFirst hj (yi _) kf,rfl,⟨S,k2,h2,rfl,h4,h5,h6⟩⟩)
 ·have A1:=kf.1;exact .inr (.inr ⟨ks,G,h2.setFirst hj (yi _) kf,rfl,SG.of k2 (h2.setElse hj hb kf) rfl⟩)
theorem z58(h:SG w I L N k):Calls prog 104 #[.pointer (some ⟨I.m,0,none⟩)] w λe w'=>e=.returned (.int .i64 ((L.map rN).sum:Nat))/\w=w':=by
 obtain⟨S,h1,h2,-⟩:=h;have:=z19 h1;rw[h2.cnt] at this;exact this
end
def exC(x:Ext):List Value:=[.int .i64 x.1,.int .i64 x.2.1,.int .i64 x.2.2]
def zl5(l:List Ext)(k:Nat):Ext:=l.getD k (0,0,0)
theorem zdr{l:List Ext}{k:Nat}(hk:k<l.length):l[k]?=some (zl5 l k):=by
 simp[zl5,hk]
theorem zfg{l:List Ext}{k:Nat}(hk:k<l.length):zl5 l k∈l:=List.mem_of_getElem? (zdr hk)
theorem zjh{w:World}{a0:Option Addr}{l:List Ext}(h:qr w a0 3 exC l){k:Nat}(hk:k<l.length) :
 ∃b off,a0=some ⟨b,off,none⟩/\b<w.heap.size/\w.cell? ⟨b,off+k*3,none⟩=some (.int .i64 (zl5 l k).1)/\w.cell? ⟨b,off+k*3+1,none⟩=some (.int .i64 (zl5 l k).2.1)/\w.cell? ⟨b,off+k*3+2,none⟩=some (.int .i64 (zl5 l k).2.2):=by
 obtain⟨b,off,rfl,hb,hc⟩:=h k _ (zdr hk);exact⟨b,off,rfl,hb,hc 0 _ rfl,hc 1 _ rfl,hc 2 _ rfl⟩
theorem zow{w w':World}{a:Option Addr}{xs:List Ext}(h:qr w a 3 exC xs){l:List Nat}(u:Upd l w w')(hd:∀y,a=some y->y.block∉l):qr w' a 3 exC xs:=λi d hid=>by
 obtain⟨b,off,rfl,hb,hc⟩:=h i d hid;refine⟨b,off,rfl,Nat.lt_of_lt_of_le hb u.size,λj v hv=>?_⟩
 have:=u.reads (c:=0) (xs:=[v]) (.inr ⟨⟨b,off+i*3+j,none⟩,rfl,λi u hu=>by
  cases i with
  | zero=>cases hu;exact hc j v hv
  | succ i=>simp at hu⟩) (λx hx=>by cases hx;exact hd ⟨b,off,none⟩ rfl)
 rcases this with⟨h1,-⟩|⟨x,hx,h1⟩
 ·cases h1
 ·cases hx;exact h1 0 v rfl
theorem zxt{w:World}{a:Option Addr}{xs:List Ext}(h:qr w a 3 exC xs)(k:Nat):qr w a 3 exC (xs.take k):=λi d hid=>by
 refine h i d ?_;rw[List.getElem?_take] at hid;split at hid
 ·exact hid
 ·cases hid
def zze(l:List Ext)(x:Ext):Int:=match l.findIdx? (λy=>decide (y=x)) with|some k=>k|none=>-1
theorem zth{l:List Ext}{x:Ext}{k:Nat}(hk:k<l.length)(h:zl5 l k=x)(hb:∀j,j<k->zl5 l j≠x):zze l x=k:=by
 have:l.findIdx? (λy=>decide (y=x))=some k:=by
  rw[List.findIdx?_eq_some_iff_getElem];refine⟨hk,by simpa[zl5,List.getD_eq_getElem?_getD,List.getElem?_eq_getElem hk] using h,λj hj=>?_⟩;have:=hb j hj;have A0:j<l.length:=by omega
  simpa[zl5,List.getD_eq_getElem?_getD,List.getElem?_eq_getElem A0] using this
 unfold zze;rw[this]
theorem zti{l:List Ext}{x:Ext}(h:∀j,j<l.length->zl5 l j≠x):zze l x=-1:=by
 have:l.findIdx? (λy=>decide (y=x))=none:=by
  rw[List.findIdx?_eq_none_iff];intro y hy;obtain⟨j,hj,rfl⟩:=List.getElem_of_mem hy;have:=h j hj;simpa[zl5,List.getD_eq_getElem?_getD,List.getElem?_eq_getElem hj] using this
 unfold zze;rw[this]
theorem zxi(l:List Ext)(x:Ext):decide (0<=zze l x)=decide (x∈l):=by
 unfold zze;cases hi:l.findIdx? (λy=>decide (y=x)) with
 | none =>
  rw[List.findIdx?_eq_none_iff] at hi;have:x∉l:=λhx=>by have:=hi x hx;simp at this
  simp[this]
 | some k =>
  rw[List.findIdx?_eq_some_iff_getElem] at hi;obtain⟨hk,h1,-⟩:=hi
  have:x∈l:=by
   have e:l[k]=x:=by simpa using h1
   rw[<-e];exact List.getElem_mem hk
  simp[this]
theorem zyd(a:Option Addr)(n c:Nat)(l:List Ext)(x:Ext)(w:World)(e0:n=l.length)(h:qr w a 3 exC l)(hm:n<=1000000000) :
 Calls prog 161 #[.slice a n c,exV x] w λe w'=>e=.returned (.int .i64 (zze l x))/\Below w.heap.size w w':=by
 subst e0;obtain⟨p,q,r⟩:=x;unfold exV;obtain⟨X,hX⟩:=zx (w.heap.size);obtain⟨W,hW⟩:=zx (w.alloc (.cells #[.int .i64 p,.int .i64 q,.int .i64 r] 152));have bW:Below w.heap.size w W:=by rw[hW];exact(Below.refl _ _).alloc (Nat.le_refl _) _
 have rX:Row W X 152 [.int .i64 p,.int .i64 q,.int .i64 r]:=by rw[hW,hX];exact Row.made w _ _
 have HR:=zh (h.below bW);have HB:=zh bW;have A1:=zh rX;have HW:=zh hW;have A7:=zh hX;clear h hX hW bW rX;go_enter func161,ntmps161;go_wp2;rw[<-HW.out,<-A7.out];clear HW;go_loopw [8] (λi wr=>∃k:Nat,k<=l.length/\i=.int .i64 k/\Hid (∀j,j<k->zl5 l j≠(p,q,r))/\Hid (Below W.heap.size W wr)) (λi _=>l.length-(intOf i).toNat)
 case atStart=>exact⟨0,Nat.zero_le _,rfl,λj hj=>by omega,Below.refl _ _⟩
 case round =>
  obtain⟨k,hk,rfl,hz,A0⟩:=hrel;by_cases A6:k<l.length
  ·obtain⟨b,off,rfl,hb,c0,c1,c2⟩:=zjh (HR.below A0) A6;have x0:=(A1.out.keep (l:=[]) (.of_below A0.out) (by simp)).cell (i:=0) rfl;have x1:=(A1.out.keep (l:=[]) (.of_below A0.out) (by simp)).cell (i:=1) rfl;have x2:=(A1.out.keep (l:=[]) (.of_below A0.out) (by simp)).cell (i:=2) rfl;obtain⟨p',q',r',A2⟩:∃p' q' r',zl5 l k=(p',q',r'):=⟨_,_,_,rfl⟩;rw[A2] at c0 c1 c2;have A3:=zh A2;clear A2 hb;go_wp2_with fail;refine zm (λz=>z.cell? ⟨X,0,none⟩=some (.int .i64 p)/\z.cell? ⟨X,1,none⟩=some (.int .i64 q)/\z.cell? ⟨X,2,none⟩=some (.int .i64 r)/\z.cell? ⟨b,off+k*3,none⟩=some (.int .i64 p')/\z.cell? ⟨b,off+k*3+1,none⟩=some (.int .i64 q')/\z.cell? ⟨b,off+k*3+2,none⟩=some (.int .i64 r')) (zp [0,1,2,3,4,5]) (by kernel_rfl) (by kernel_rfl) (λ_ _ _ _ _ h=>h) ⟨x0,x1,x2,c0,c1,c2⟩ ?_;clear x0 x1 x2 c0 c1 c2;refine zl (.agg #[.int .i64 p,.int .i64 q,.int .i64 r]) rfl rfl (λx hS=>by obtain⟨s0,s1,s2,s3,s4,s5⟩:=hS;go_simp) ?_
   (repeat (refine zi rfl (λK hK=>?_);go_simp;(try go_bits);refine hK _ ?_;clear hK K))
   refine zl (.agg #[.int .i64 p',.int .i64 q',.int .i64 r']) rfl rfl (λx hS=>by obtain⟨s0,s1,s2,s3,s4,s5⟩:=hS;go_simp) ?_;have A4:Below W.heap.size W wr.drew:=A0.out.drew;generalize wr.drew=wd at *;by_cases he:((p',q',r'):Ext)=(p,q,r)
   ·obtain⟨rfl,rfl,rfl⟩:p'=p/\q'=q/\r'=r:=by simpa using he
    (repeat (refine zi rfl (λK hK=>?_);go_simp;(try go_bits);refine hK _ ?_;clear hK K))
    refine zo ?_;have HV:=zh (zth A6 A3 hz.out);go_wp2;go_ret;exact⟨by rw[HV.out];rfl,zy HB.out A4⟩
   ·have HN:Hid (∀j,j<k+1->zl5 l j≠(p,q,r)):=λj hj=>by
     by_cases A8:j=k
     ·subst A8;rw[A3.out];exact he
     ·exact hz.out j (by omega)
    have A5:=zh A4
    have h3:¬p=p'\/(p=p'/\¬q=q')\/(p=p'/\q=q'/\¬r=r'):=by
     by_cases e1:p=p'
     ·by_cases e2:q=q'
      ·by_cases e3:r=r'
       ·exact absurd (by rw[e1,e2,e3]) he
       ·exact .inr (.inr ⟨e1,e2,e3⟩)
      ·exact .inr (.inl ⟨e1,e2⟩)
     ·exact .inl e1
    clear hz A3 he A4;rcases h3 with e1|⟨rfl,e2⟩|⟨rfl,rfl,e3⟩
    ·have f1:(p == p')=false:=by simpa using e1
     (repeat (refine zi rfl (λK hK=>?_);go_simp;(try go_bits);refine hK _ ?_;clear hK K))
     refine zo ?_;go_wp2;go_roundw
     case rel=>exact⟨k+1,by omega,by go_num,HN.out,A5.out⟩
     case measure=>simp[intOf];omega
    ·have f1:(q == q')=false:=by simpa using e2
     (repeat (refine zi rfl (λK hK=>?_);go_simp;(try go_bits);refine hK _ ?_;clear hK K))
     refine zo ?_;go_wp2;go_roundw
     case rel=>exact⟨k+1,by omega,by go_num,HN.out,A5.out⟩
     case measure=>simp[intOf];omega
    ·have f1:(r == r')=false:=by simpa using e3
     (repeat (refine zi rfl (λK hK=>?_);go_simp;(try go_bits);refine hK _ ?_;clear hK K))
     refine zo ?_;go_wp2;go_roundw
     case rel=>exact⟨k+1,by omega,by go_num,HN.out,A5.out⟩
     case measure=>simp[intOf];omega
  ·obtain rfl:k=l.length:=by omega
   have HV:=zh (zti hz.out);have A9:=zh (zy HB A0);clear hz A0;go_wp2;go_ret;exact⟨by rw[HV.out];rfl,A9.out⟩
theorem znr(a:Option Addr)(n c:Nat)(l:List Ext)(x:Ext)(w:World)(e0:n=l.length)(h:qr w a 3 exC l)(hm:n<=1000000000) :
 Calls prog 139 #[.slice a n c,exV x] w λe w'=>e=.returned (.bool (decide (x∈l)))/\Below w.heap.size w w':=by
 have HV:=zh (zxi l x);obtain⟨W,hW⟩:=zx (w.alloc (.cells #[.int .i64 x.1,.int .i64 x.2.1,.int .i64 x.2.2] 152));have bW:Below w.heap.size w W:=by rw[hW];exact(Below.refl _ _).alloc (Nat.le_refl _) _
 have rX:Row W w.heap.size 152 [.int .i64 x.1,.int .i64 x.2.1,.int .i64 x.2.2]:=by rw[hW];exact Row.made w _ _
 have HI:=zh (zyd a n c l x W e0 (h.below bW) hm);have HW:=zh hW;have HB:=zh bW;have x0:=rX.cell (i:=0) rfl;have x1:=rX.cell (i:=1) rfl;have x2:=rX.cell (i:=2) rfl;rw[hW] at x0 x1 x2;clear h hm e0 hW bW rX;generalize zze l x=v at *;obtain⟨p,q,r⟩:=x;unfold exV at *;go_enter func139,ntmps139;go_wp2_with fail;rw[<-HW.out];go_call HI as e w' ⟨rfl,hb⟩;go_wp2;go_ret;refine⟨?_,zy HB hb⟩;rw[<-HV.out];rfl
end Go.Proofs.YtoeibiahbenpcaaGreatDoor
