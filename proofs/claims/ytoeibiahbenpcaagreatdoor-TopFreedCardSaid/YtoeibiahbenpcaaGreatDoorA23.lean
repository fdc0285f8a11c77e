/- Part. -/
import Derived.Test.YtoeibiahbenpcaaGreatDoorA18
import Derived.Test.YtoeibiahbenpcaaGreatDoorA19
import Derived.Shelf.SlIterI.Nil
import Derived.Shelf.SlIterI.Sorted
import Derived.Shelf.SortM.Plain
import Derived.Shelf.SortM.SortNone
namespace Go.Proofs.YtoeibiahbenpcaaGreatDoor
open RowKit Maps Proofs.Tryz
set_option linter.unusedVariables false
set_option maxRecDepth 99999
set_option maxHeartbeats 9000000
section
open Go.RowKit Go.ChangeShapes Go.WideShapes Go.ChangeAt
theorem z8{fn:Func}{p:Tmp}{ty:TypeId}(h:fn.results=#[.cell p ty])(tmps:Array Value)(P:Program)(w:World) :
 (results fn tmps).run P w =
  ((asAddr (tmps.getD p undef)).run P w).andThen λa w₁=>(loadVar ty a).run P w₁:=by
 simp only[results,h];simp[Sem.run_bind,Result.andThen]
theorem zjw(a:Option Addr)(n c:Nat)(l:List Int)(w:World)(e0:n=l.length)(h:zv w a c (l.map (Value.int .u8)))(hm:n<=1000000000) :
 Calls prog 106 #[.slice a n c] w (zb6 w l):=by
 cases a with
 | some x=>exact zjv x n c l w e0 h hm
 | none =>
  rcases h with⟨_,rfl,hx⟩|⟨x,hx,_⟩
  ·have hl:l=[]:=by simpa using hx
   subst hl;subst e0;have hn:=λw=>Lib.run_eql_slice_nil (P:=prog) w 26 5 none 0 0 0 0 underlying26
   go_enter func106,ntmps106;go_wp2;go_ret;exact⟨.slice none 0 0,rfl,World.ownsRow_nil _ _ _ _,Below.refl _ _⟩
  ·cases hx
theorem zly(a:Option Addr)(n c:Nat)(l:List Int)(w:World)(e0:n=l.length)(h:zv w a c (l.map (Value.int .i64)))(hm:n<=1000000000) :
 Calls prog 91 #[.slice a n c] w (zhb w l):=by
 cases a with
 | some x=>exact zym x n c l w e0 h hm
 | none =>
  rcases h with⟨_,rfl,hx⟩|⟨x,hx,_⟩
  ·have hl:l=[]:=by simpa using hx
   subst hl;subst e0;have hn:=λw=>Lib.run_eql_slice_nil (P:=prog) w 25 3 none 0 0 0 0 underlying25
   go_enter func91,ntmps91;go_wp2;go_ret;exact⟨.slice none 0 0,rfl,World.ownsRow_nil _ _ _ _,Below.refl _ _⟩
  ·cases hx
def zpo(o:Za)(w:World)(e:Ending)(w':World):Prop :=
 ∃c:Za,e=.returned c.val/\c.ok w'/\c.cls=o.cls/\c.kind=o.kind/\c.W=o.W/\c.B=o.B/\w'.ownsRow w.heap.size 3 1 (.slice c.wa c.wn c.wc) c.wn (c.W.map (Value.int .i64))/\w'.ownsRow w.heap.size 5 1 (.slice c.ba c.bn c.bc) c.bn (c.B.map (Value.int .u8))/\(∀x y,c.wa=some x->c.ba=some y->x.block≠y.block)/\Below w.heap.size w w'
theorem z1p(o:Za)(w:World)(h:o.ok w)(m1:o.wn<=1000000)(m2:o.bn<=1000000000):Calls prog 63 #[o.val] w (zpo o w):=by
 have C5:o.val=.agg #[.int .i64 o.cls,.int .i64 o.kind,.slice o.wa o.wn o.wc,.slice o.ba o.bn o.bc]:=rfl;rw[C5];have HH:=zh h;obtain⟨w2,C4⟩:=zx (((w.alloc (.cells #[.int .i64 o.cls,.int .i64 o.kind,.slice o.wa o.wn o.wc,.slice o.ba o.bn o.bc] 28)).alloc (.cells #[.int .i64 0,.int .i64 0,.slice none 0 0,.slice none 0 0] 28)));have C6:Below w.heap.size w w2:=by rw[C4];exact zn ((Below.refl _ w).alloc (Nat.le_refl _) _)
 have C7:w2.heap.size=w.heap.size+2:=by rw[C4];simp
 have r0:Row w2 w.heap.size 28 [.int .i64 o.cls,.int .i64 o.kind,.slice o.wa o.wn o.wc,.slice o.ba o.bn o.bc]:=by
  rw[C4];exact(Row.made w [.int .i64 o.cls,.int .i64 o.kind,.slice o.wa o.wn o.wc,.slice o.ba o.bn o.bc] 28).alloc _
 have r1:Row w2 (w.heap.size+1) 28 [.int .i64 0,.int .i64 0,.slice none 0 0,.slice none 0 0]:=by
  rw[C4];have:=Row.made (w.alloc (.cells #[.int .i64 o.cls,.int .i64 o.kind,.slice o.wa o.wn o.wc,.slice o.ba o.bn o.bc] 28)) [.int .i64 0,.int .i64 0,.slice none 0 0,.slice none 0 0] 28;simpa using this
 obtain⟨q0,D7⟩:=zx (w.heap.size);obtain⟨q1,D8⟩:=zx (w.heap.size+1);rw[<-D8] at r1;rw[<-D7] at r0;have D9:=zh (Zd C6);have A3:=zh (show Row w2.drew q0 28 [.int .i64 o.cls,.int .i64 o.kind,.slice o.wa o.wn o.wc,.slice o.ba o.bn o.bc] from r0);have A8:=zh (show Row w2.drew q1 28 [.int .i64 0,.int .i64 0,.slice none 0 0,.slice none 0 0] from r1);have HQ:=zh (And.intro D7 (And.intro D8 C7));have C3:=zh (show w2.heap.size<=w2.drew.heap.size from Nat.le_refl _);have E1:=zh (And.intro D7 D8);have E2:=zh C4;clear C5 h C6 C7 r0 r1 C4 D7 D8;go_enter func63,ntmps63;go_wp2;rw[<-E2.out,<-E1.out.2,<-E1.out.1];refine zb9 (.free 0 (.free 3 (.two 1 4 (.two 2 4 (.sole 4 (.free 6 (.sole 5 (.sole 7 (.free 8 (.sole 9 .fin)))))) (.sole 2 (.free 6 (.sole 5 (.sole 7 (.free 8 (.sole 9 .fin))))))) (.sole 1 (.sole 2 (.free 6 (.sole 5 (.sole 7 (.free 8 (.sole 9 .fin)))))))))) (by kernel_rfl) (by kernel_rfl) (λ_ _ _ _ _ h=>h) ?_;generalize w2.drew=w3 at *;have E0:=zh (zly o.wa o.wn o.wc o.W w3 HH.out.wl (HH.out.wr.below D9.out) (by omega));have j2:=A3.out.cell (i:=2) rfl;have j3:=A3.out.cell (i:=3) rfl
 (repeat (refine Z7 rfl (λK hK=>?_);go_simp;(try go_bits);refine hK _ ?_;clear hK K))
 refine zd1 rfl rfl ?_ ?_
 ·go_wp2;refine zd1 rfl rfl ?_ ?_
  ·go_wp2_with fail;go_call E0.out as e w5 ⟨v5,rfl,own5,b5⟩;obtain⟨aw,cw,rfl,-,A9,A1⟩:=zk own5;have A4:=wu own5;rw[<-HH.out.wl] at own5 A9 ⊢;have C8:=zh (And.intro A9 (And.intro A4 A1));have B6:=zh own5;have B7:=zh (zy D9.out b5);have B5:=zh (show Row w5 q0 28 [.int .i64 o.cls,.int .i64 o.kind,.slice o.wa o.wn o.wc,.slice o.ba o.bn o.bc] from(b5.block q0 A3.out.lt).trans A3.out);have B8:=zh (show Row w5 q1 28 [.int .i64 0,.int .i64 0,.slice none 0 0,.slice none 0 0] from(b5.block q1 A8.out.lt).trans A8.out);have B0:=zh (And.intro C3.out b5.size);clear own5 A9 A1 A4 b5;have i3:=B5.out.cell (i:=3) rfl;clear j2 j3;go_wp2;refine Zi rfl ?_;go_wp2;have B9:=zh (zjw o.ba o.bn o.bc o.B w5 HH.out.bl (HH.out.br.below B7.out) m2)
   (repeat (refine Z7 rfl (λK hK=>?_);go_simp;(try go_bits);refine hK _ ?_;clear hK K))
   refine Zi rfl ?_;go_wp2_with fail;refine B9.out.mono ?_;clear B9;rintro e w6 ⟨v6,rfl,own6,b6⟩;obtain⟨ab,cb,rfl,C0,B1,A2⟩:=zk own6;have A4:=wu own6;rw[<-HH.out.bl] at own6 B1 ⊢;have C1:=zh own6;have C9:=zh (And.intro B1 (And.intro A4 (And.intro C0 A2)));have A0:=zh (show Row w6 q0 28 [.int .i64 o.cls,.int .i64 o.kind,.slice o.wa o.wn o.wc,.slice o.ba o.bn o.bc] from(b6.block q0 B5.out.lt).trans B5.out);have B2:=zh (show Row w6 q1 28 [.int .i64 0,.int .i64 0,.slice none 0 0,.slice none 0 0] from(b6.block q1 B8.out.lt).trans B8.out);have A5:=zh (zap B6.out (λk hk=>b6.block k (B6.out.lt k hk).2));have C2:=zh (zy B7.out b6);have D0:=zh (And.intro B0.out b6.size);clear own6 C0 B1 A2 A4 b6;go_wp2;refine Zi rfl ?_;have f2:=A0.out.free 2;have f3:=A0.out.free 3;have j2:=A0.out.cell (i:=2) rfl;have j3:=A0.out.cell (i:=3) rfl;go_wp2
   (repeat (refine Z7 rfl (λK hK=>?_);go_simp;(try go_bits);refine hK _ ?_;clear hK K))
   refine Zi rfl ?_;have B3:Row (w6.setCell ⟨q0,2,none⟩ (.slice aw o.wn cw)) q0 28 [.int .i64 o.cls,.int .i64 o.kind,.slice aw o.wn cw,.slice o.ba o.bn o.bc]:=A0.out.set 2 _;have f3':=B3.free 3;have j3':=B3.cell (i:=3) rfl;clear f2 f3 j2 j3;go_wp2;refine ce ?_;obtain⟨w8,A6⟩:=zx (((w6.setCell ⟨q0,2,none⟩ (.slice aw o.wn cw)).setCell ⟨q0,3,none⟩ (.slice ab o.bn cb)));have R8:Row w8 q0 28 [.int .i64 o.cls,.int .i64 o.kind,.slice aw o.wn cw,.slice ab o.bn cb]:=by rw[A6];exact(A0.out.set 2 _).set 3 _
   have U8:Upd [q0] w6 w8:=by rw[A6];exact((Upd.refl [q0] w6).setCell (by simp) _).setCell (by simp) _
   have RZ8:Row w8 q1 28 [.int .i64 0,.int .i64 0,.slice none 0 0,.slice none 0 0]:=B2.out.keep U8 (by simp;have:=HQ.out;omega);have D1:=zh U8;have k0:=R8.cell (i:=0) rfl;have k1:=R8.cell (i:=1) rfl;have k2:=R8.cell (i:=2) rfl;have k3:=R8.cell (i:=3) rfl;have y0:=RZ8.cell (i:=0) rfl;have y1:=RZ8.cell (i:=1) rfl;have y2:=RZ8.cell (i:=2) rfl;have y3:=RZ8.cell (i:=3) rfl;have g0:=RZ8.free 0;have g1:=RZ8.free 1;have g2:=RZ8.free 2;have g3:=RZ8.free 3;have B4:=zh RZ8;rw[<-A6];clear B3 f3' j3' A6 R8 U8 RZ8;go_wp2;obtain⟨w9,A7⟩:=zx ((((w8.setCell ⟨q1,0,none⟩ (.int .i64 o.cls)).setCell ⟨q1,1,none⟩ (.int .i64 o.kind)).setCell ⟨q1,2,none⟩ (.slice aw o.wn cw)).setCell ⟨q1,3,none⟩ (.slice ab o.bn cb));have R9:Row w9 q1 28 [.int .i64 o.cls,.int .i64 o.kind,.slice aw o.wn cw,.slice ab o.bn cb]:=by rw[A7];exact(((B4.out.set 0 _).set 1 _).set 2 _).set 3 _
   have U9:Upd [q1] w8 w9:=by rw[A7];exact((((Upd.refl [q1] w8).setCell (by simp) _).setCell (by simp) _).setCell (by simp) _).setCell (by simp) _
   have D2:=zh U9;rw[<-A7];clear A7 U9;have z0:=R9.cell (i:=0) rfl;have z1:=R9.cell (i:=1) rfl;have z2:=R9.cell (i:=2) rfl;have z3:=R9.cell (i:=3) rfl
   (try simp only[Exit.inBlock,Exit.then])
   refine bodyPost_ret (by rw[z8 rfl];go_simp;rfl) rfl ?_;have hq:=HQ.out;have C7:=D0.out;have A2:=C9.out;have A1:=C8.out;have U:=(D1.out.mono (m:=[q0,q1]) (by simp)).trans (D2.out.mono (m:=[q0,q1]) (by simp));have oW:=U.owns A5.out (λk hk=>by have:=(A5.out.lt k hk).1;simp;omega);have oB:=U.owns C1.out (λk hk=>by have:=(C1.out.lt k hk).1;simp;omega);obtain⟨_,_,D3,rW,_,_⟩:=zk oW;cases D3
   obtain⟨_,_,D4,rB,_,_⟩:=zk oB;cases D4
   have D5:=qq (base':=w.heap.size) oW (by omega);have D6:=qq (base':=w.heap.size) oB (by omega)
   exact⟨⟨o.cls,o.kind,aw,o.wn,cw,o.W,ab,o.bn,cb,o.B⟩,rfl,⟨HH.out.c0,HH.out.k0,HH.out.wl,⟨A1.1,A1.2.1⟩,rW,HH.out.wi,HH.out.bl,⟨A2.1,A2.2.1⟩,rB,HH.out.bb⟩,rfl,rfl,rfl,rfl,D5,D6,λx y hx hy=>by
    have h1:=(A1.2.2 x hx).2;have h2:=(A2.2.2.2 y hy).1
    omega,C2.out.trans (U.below C2.out.size (λk hk=>by simp at hk;omega))⟩
  ·go_wp2;refine Zi rfl ?_;go_wp2_with fail;go_call E0.out as e w5 ⟨v5,rfl,own5,b5⟩;obtain⟨aw,cw,rfl,-,A9,A1⟩:=zk own5;have A4:=wu own5;rw[<-HH.out.wl] at own5 A9 ⊢;have C8:=zh (And.intro A9 (And.intro A4 A1));have B6:=zh own5;have B7:=zh (zy D9.out b5);have B5:=zh (show Row w5 q0 28 [.int .i64 o.cls,.int .i64 o.kind,.slice o.wa o.wn o.wc,.slice o.ba o.bn o.bc] from(b5.block q0 A3.out.lt).trans A3.out);have B8:=zh (show Row w5 q1 28 [.int .i64 0,.int .i64 0,.slice none 0 0,.slice none 0 0] from(b5.block q1 A8.out.lt).trans A8.out);have B0:=zh (And.intro C3.out b5.size);clear own5 A9 A1 A4 b5;clear j2 j3;go_wp2;have B9:=zh (zjw o.ba o.bn o.bc o.B w5 HH.out.bl (HH.out.br.below B7.out) m2)
   (repeat (refine Z7 rfl (λK hK=>?_);go_simp;(try go_bits);refine hK _ ?_;clear hK K))
   refine Zi rfl ?_;go_wp2_with fail;refine B9.out.mono ?_;clear B9;rintro e w6 ⟨v6,rfl,own6,b6⟩;obtain⟨ab,cb,rfl,C0,B1,A2⟩:=zk own6;have A4:=wu own6;rw[<-HH.out.bl] at own6 B1 ⊢;have C1:=zh own6;have C9:=zh (And.intro B1 (And.intro A4 (And.intro C0 A2)));have A0:=zh (show Row w6 q0 28 [.int .i64 o.cls,.int .i64 o.kind,.slice o.wa o.wn o.wc,.slice o.ba o.bn o.bc] from(b6.block q0 B5.out.lt).trans B5.out);have B2:=zh (show Row w6 q1 28 [.int .i64 0,.int .i64 0,.slice none 0 0,.slice none 0 0] from(b6.block q1 B8.out.lt).trans B8.out);have A5:=zh (zap B6.out (λk hk=>b6.block k (B6.out.lt k hk).2));have C2:=zh (zy B7.out b6);have D0:=zh (And.intro B0.out b6.size);clear own6 C0 B1 A2 A4 b6;go_wp2;refine Zi rfl ?_;have f2:=A0.out.free 2;have f3:=A0.out.free 3;have j2:=A0.out.cell (i:=2) rfl;have j3:=A0.out.cell (i:=3) rfl;go_wp2
   (repeat (refine Z7 rfl (λK hK=>?_);go_simp;(try go_bits);refine hK _ ?_;clear hK K))
   refine Zi rfl ?_;have B3:Row (w6.setCell ⟨q0,2,none⟩ (.slice aw o.wn cw)) q0 28 [.int .i64 o.cls,.int .i64 o.kind,.slice aw o.wn cw,.slice o.ba o.bn o.bc]:=A0.out.set 2 _;have f3':=B3.free 3;have j3':=B3.cell (i:=3) rfl;clear f2 f3 j2 j3;go_wp2;refine ce ?_;obtain⟨w8,A6⟩:=zx (((w6.setCell ⟨q0,2,none⟩ (.slice aw o.wn cw)).setCell ⟨q0,3,none⟩ (.slice ab o.bn cb)));have R8:Row w8 q0 28 [.int .i64 o.cls,.int .i64 o.kind,.slice aw o.wn cw,.slice ab o.bn cb]:=by rw[A6];exact(A0.out.set 2 _).set 3 _
   have U8:Upd [q0] w6 w8:=by rw[A6];exact((Upd.refl [q0] w6).setCell (by simp) _).setCell (by simp) _
   have RZ8:Row w8 q1 28 [.int .i64 0,.int .i64 0,.slice none 0 0,.slice none 0 0]:=B2.out.keep U8 (by simp;have:=HQ.out;omega);have D1:=zh U8;have k0:=R8.cell (i:=0) rfl;have k1:=R8.cell (i:=1) rfl;have k2:=R8.cell (i:=2) rfl;have k3:=R8.cell (i:=3) rfl;have y0:=RZ8.cell (i:=0) rfl;have y1:=RZ8.cell (i:=1) rfl;have y2:=RZ8.cell (i:=2) rfl;have y3:=RZ8.cell (i:=3) rfl;have g0:=RZ8.free 0;have g1:=RZ8.free 1;have g2:=RZ8.free 2;have g3:=RZ8.free 3;have B4:=zh RZ8;rw[<-A6];clear B3 f3' j3' A6 R8 U8 RZ8;go_wp2;obtain⟨w9,A7⟩:=zx ((((w8.setCell ⟨q1,0,none⟩ (.int .i64 o.cls)).setCell ⟨q1,1,none⟩ (.int .i64 o.kind)).setCell ⟨q1,2,none⟩ (.slice aw o.wn cw)).setCell ⟨q1,3,none⟩ (.slice ab o.bn cb));have R9:Row w9 q1 28 [.int .i64 o.cls,.int .i64 o.kind,.slice aw o.wn cw,.slice ab o.bn cb]:=by rw[A7];exact(((B4.out.set 0 _).set 1 _).set 2 _).set 3 _
   have U9:Upd [q1] w8 w9:=by rw[A7];exact((((Upd.refl [q1] w8).setCell (by simp) _).setCell (by simp) _).setCell (by simp) _).setCell (by simp) _
   have D2:=zh U9;rw[<-A7];clear A7 U9;have z0:=R9.cell (i:=0) rfl;have z1:=R9.cell (i:=1) rfl;have z2:=R9.cell (i:=2) rfl;have z3:=R9.cell (i:=3) rfl
   (try simp only[Exit.inBlock,Exit.then])
   refine bodyPost_ret (by rw[z8 rfl];go_simp;rfl) rfl ?_;have hq:=HQ.out;have C7:=D0.out;have A2:=C9.out;have A1:=C8.out;have U:=(D1.out.mono (m:=[q0,q1]) (by simp)).trans (D2.out.mono (m:=[q0,q1]) (by simp));have oW:=U.owns A5.out (λk hk=>by have:=(A5.out.lt k hk).1;simp;omega);have oB:=U.owns C1.out (λk hk=>by have:=(C1.out.lt k hk).1;simp;omega);obtain⟨_,_,D3,rW,_,_⟩:=zk oW;cases D3
   obtain⟨_,_,D4,rB,_,_⟩:=zk oB;cases D4
   have D5:=qq (base':=w.heap.size) oW (by omega);have D6:=qq (base':=w.heap.size) oB (by omega)
   exact⟨⟨o.cls,o.kind,aw,o.wn,cw,o.W,ab,o.bn,cb,o.B⟩,rfl,⟨HH.out.c0,HH.out.k0,HH.out.wl,⟨A1.1,A1.2.1⟩,rW,HH.out.wi,HH.out.bl,⟨A2.1,A2.2.1⟩,rB,HH.out.bb⟩,rfl,rfl,rfl,rfl,D5,D6,λx y hx hy=>by
    have h1:=(A1.2.2 x hx).2;have h2:=(A2.2.2.2 y hy).1
    omega,C2.out.trans (U.below C2.out.size (λk hk=>by simp at hk;omega))⟩
 ·go_wp2;refine Zi rfl ?_;go_wp2;refine Zi rfl ?_;go_wp2_with fail;go_call E0.out as e w5 ⟨v5,rfl,own5,b5⟩;obtain⟨aw,cw,rfl,-,A9,A1⟩:=zk own5;have A4:=wu own5;rw[<-HH.out.wl] at own5 A9 ⊢;have C8:=zh (And.intro A9 (And.intro A4 A1));have B6:=zh own5;have B7:=zh (zy D9.out b5);have B5:=zh (show Row w5 q0 28 [.int .i64 o.cls,.int .i64 o.kind,.slice o.wa o.wn o.wc,.slice o.ba o.bn o.bc] from(b5.block q0 A3.out.lt).trans A3.out);have B8:=zh (show Row w5 q1 28 [.int .i64 0,.int .i64 0,.slice none 0 0,.slice none 0 0] from(b5.block q1 A8.out.lt).trans A8.out);have B0:=zh (And.intro C3.out b5.size);clear own5 A9 A1 A4 b5;clear j2 j3;go_wp2;have B9:=zh (zjw o.ba o.bn o.bc o.B w5 HH.out.bl (HH.out.br.below B7.out) m2)
  (repeat (refine Z7 rfl (λK hK=>?_);go_simp;(try go_bits);refine hK _ ?_;clear hK K))
  refine Zi rfl ?_;go_wp2_with fail;refine B9.out.mono ?_;clear B9;rintro e w6 ⟨v6,rfl,own6,b6⟩;obtain⟨ab,cb,rfl,C0,B1,A2⟩:=zk own6;have A4:=wu own6;rw[<-HH.out.bl] at own6 B1 ⊢;have C1:=zh own6;have C9:=zh (And.intro B1 (And.intro A4 (And.intro C0 A2)));have A0:=zh (show Row w6 q0 28 [.int .i64 o.cls,.int .i64 o.kind,.slice o.wa o.wn o.wc,.slice o.ba o.bn o.bc] from(b6.block q0 B5.out.lt).trans B5.out);have B2:=zh (show Row w6 q1 28 [.int .i64 0,.int .i64 0,.slice none 0 0,.slice none 0 0] from(b6.block q1 B8.out.lt).trans B8.out);have A5:=zh (zap B6.out (λk hk=>b6.block k (B6.out.lt k hk).2));have C2:=zh (zy B7.out b6);have D0:=zh (And.intro B0.out b6.size);clear own6 C0 B1 A2 A4 b6;go_wp2;refine Zi rfl ?_;have f2:=A0.out.free 2;have f3:=A0.out.free 3;have j2:=A0.out.cell (i:=2) rfl;have j3:=A0.out.cell (i:=3) rfl;go_wp2
  (repeat (refine Z7 rfl (λK hK=>?_);go_simp;(try go_bits);refine hK _ ?_;clear hK K))
  refine Zi rfl ?_;have B3:Row (w6.setCell ⟨q0,2,none⟩ (.slice aw o.wn cw)) q0 28 [.int .i64 o.cls,.int .i64 o.kind,.slice aw o.wn cw,.slice o.ba o.bn o.bc]:=A0.out.set 2 _;have f3':=B3.free 3;have j3':=B3.cell (i:=3) rfl;clear f2 f3 j2 j3;go_wp2;refine ce ?_;obtain⟨w8,A6⟩:=zx (((w6.setCell ⟨q0,2,none⟩ (.slice aw o.wn cw)).setCell ⟨q0,3,none⟩ (.slice ab o.bn cb)));have R8:Row w8 q0 28 [.int .i64 o.cls,.int .i64 o.kind,.slice aw o.wn cw,.slice ab o.bn cb]:=by rw[A6];exact(A0.out.set 2 _).set 3 _
  have U8:Upd [q0] w6 w8:=by rw[A6];exact((Upd.refl [q0] w6).setCell (by simp) _).setCell (by simp) _
  have RZ8:Row w8 q1 28 [.int .i64 0,.int .i64 0,.slice none 0 0,.slice none 0 0]:=B2.out.keep U8 (by simp;have:=HQ.out;omega);have D1:=zh U8;have k0:=R8.cell (i:=0) rfl;have k1:=R8.cell (i:=1) rfl;have k2:=R8.cell (i:=2) rfl;have k3:=R8.cell (i:=3) rfl;have y0:=RZ8.cell (i:=0) rfl;have y1:=RZ8.cell (i:=1) rfl;have y2:=RZ8.cell (i:=2) rfl;have y3:=RZ8.cell (i:=3) rfl;have g0:=RZ8.free 0;have g1:=RZ8.free 1;have g2:=RZ8.free 2;have g3:=RZ8.free 3;have B4:=zh RZ8;rw[<-A6];clear B3 f3' j3' A6 R8 U8 RZ8;go_wp2;obtain⟨w9,A7⟩:=zx ((((w8.setCell ⟨q1,0,none⟩ (.int .i64 o.cls)).setCell ⟨q1,1,none⟩ (.int .i64 o.kind)).setCell ⟨q1,2,none⟩ (.slice aw o.wn cw)).setCell ⟨q1,3,none⟩ (.slice ab o.bn cb));have R9:Row w9 q1 28 [.int .i64 o.cls,.int .i64 o.kind,.slice aw o.wn cw,.slice ab o.bn cb]:=by rw[A7];exact(((B4.out.set 0 _).set 1 _).set 2 _).set 3 _
  have U9:Upd [q1] w8 w9:=by rw[A7];exact((((Upd.refl [q1] w8).setCell (by simp) _).setCell (by simp) _).setCell (by simp) _).setCell (by simp) _
  have D2:=zh U9;rw[<-A7];clear A7 U9;have z0:=R9.cell (i:=0) rfl;have z1:=R9.cell (i:=1) rfl;have z2:=R9.cell (i:=2) rfl;have z3:=R9.cell (i:=3) rfl
  (try simp only[Exit.inBlock,Exit.then])
  refine bodyPost_ret (by rw[z8 rfl];go_simp;rfl) rfl ?_;have hq:=HQ.out;have C7:=D0.out;have A2:=C9.out;have A1:=C8.out;have U:=(D1.out.mono (m:=[q0,q1]) (by simp)).trans (D2.out.mono (m:=[q0,q1]) (by simp));have oW:=U.owns A5.out (λk hk=>by have:=(A5.out.lt k hk).1;simp;omega);have oB:=U.owns C1.out (λk hk=>by have:=(C1.out.lt k hk).1;simp;omega);obtain⟨_,_,D3,rW,_,_⟩:=zk oW;cases D3
  obtain⟨_,_,D4,rB,_,_⟩:=zk oB;cases D4
  have D5:=qq (base':=w.heap.size) oW (by omega);have D6:=qq (base':=w.heap.size) oB (by omega)
  exact⟨⟨o.cls,o.kind,aw,o.wn,cw,o.W,ab,o.bn,cb,o.B⟩,rfl,⟨HH.out.c0,HH.out.k0,HH.out.wl,⟨A1.1,A1.2.1⟩,rW,HH.out.wi,HH.out.bl,⟨A2.1,A2.2.1⟩,rB,HH.out.bb⟩,rfl,rfl,rfl,rfl,D5,D6,λx y hx hy=>by
   have h1:=(A1.2.2 x hx).2;have h2:=(A2.2.2.2 y hy).1
   omega,C2.out.trans (U.below C2.out.size (λk hk=>by simp at hk;omega))⟩
end
section
open Go.RowKit Go.Maps Go.Sort Go.Shelf
def zkz:Ren:=⟨λn=>match n with|7=>94|10=>137|n=>n,λn=>match n with|23=>123|26=>3|3=>152|28=>161|0=>0|27=>160|33=>80|4=>4|n=>n,λn=>n⟩
theorem z3y:SlLaysZI.n7 prog zkz:={
 mixed:=by kernel_rfl
 f7:=⟨Tryz.f94.name,by decide,by kernel_rfl⟩
 f10:=⟨Tryz.f137.name,by decide,by kernel_rfl⟩
 t0:=underlying0
 a0:=isAgg0
 z0:=sizeOf0
 v0:=zeroValue0
 t4:=underlying4
 a4:=isAgg4
 z4:=sizeOf4
 v4:=zeroValue4
 t23:=underlying123
 a23:=isAgg123
 z23:=sizeOf123
 v23:=zeroValue123
 t26:=underlying3
 a26:=isAgg3
 z26:=sizeOf3
 v26:=zeroValue3
 t27:=underlying160
 a27:=isAgg160
 z27:=sizeOf160
 v27:=zeroValue160
 t28:=underlying161
 a28:=isAgg161
 z28:=sizeOf161
 v28:=zeroValue161
 t33:=underlying80
 a33:=isAgg80
 z33:=sizeOf80
 v33:=zeroValue80 }
def zk0:Ren:=⟨λn=>match n with|7=>93|10=>136|n=>n,λn=>match n with|23=>103|26=>3|3=>4|28=>161|0=>0|27=>160|33=>80|4=>4|n=>n,λn=>n⟩
theorem z3z:SlLaysZI.n7 prog zk0:={
 mixed:=by kernel_rfl
 f7:=⟨Tryz.f93.name,by decide,by kernel_rfl⟩
 f10:=⟨Tryz.f136.name,by decide,by kernel_rfl⟩
 t0:=underlying0
 a0:=isAgg0
 z0:=sizeOf0
 v0:=zeroValue0
 t4:=underlying4
 a4:=isAgg4
 z4:=sizeOf4
 v4:=zeroValue4
 t23:=underlying103
 a23:=isAgg103
 z23:=sizeOf103
 v23:=zeroValue103
 t26:=underlying3
 a26:=isAgg3
 z26:=sizeOf3
 v26:=zeroValue3
 t27:=underlying160
 a27:=isAgg160
 z27:=sizeOf160
 v27:=zeroValue160
 t28:=underlying161
 a28:=isAgg161
 z28:=sizeOf161
 v28:=zeroValue161
 t33:=underlying80
 a33:=isAgg80
 z33:=sizeOf80
 v33:=zeroValue80 }
def zf4:Ren:=⟨λn=>match n with|6=>92|8=>135|9=>107|11=>160|13=>144|12=>143|23=>171|24=>172|14=>163|15=>164|16=>165|17=>166|18=>167|19=>168|20=>95|21=>169|22=>170|25=>179|26=>180|27=>181|28=>182|29=>183|30=>138|31=>190|n=>n,λn=>match n with|26=>3|28=>161|24=>25|0=>0|3=>3|37=>148|48=>259|50=>249|4=>4|40=>253|39=>252|45=>87|5=>5|9=>9|51=>266|55=>270|57=>281|58=>142|33=>80|n=>n,λn=>n⟩
theorem zr7:SlLaysZI.n6 prog zf4:={
 mixed:=by kernel_rfl
 f6:=⟨Tryz.f92.name,by decide,by kernel_rfl⟩
 f8:=⟨Tryz.f135.name,by decide,by kernel_rfl⟩
 f11:=⟨Tryz.f160.name,by decide,by kernel_rfl⟩
 t0:=underlying0
 a0:=isAgg0
 z0:=sizeOf0
 v0:=zeroValue0
 t24:=underlying25
 a24:=isAgg25
 z24:=sizeOf25
 v24:=zeroValue25
 t26:=underlying3
 a26:=isAgg3
 z26:=sizeOf3
 v26:=zeroValue3
 t28:=underlying161
 a28:=isAgg161
 z28:=sizeOf161
 v28:=zeroValue161
 i26:=by kernel_rfl }
def zr8:Ren:=⟨λn=>match n with|5=>107|8=>144|7=>143|19=>171|20=>172|10=>163|11=>164|12=>165|13=>166|14=>167|15=>168|16=>95|17=>169|18=>170|30=>179|31=>180|32=>181|33=>182|34=>183|35=>138|40=>190|n=>n,λn=>match n with|23=>25|25=>3|3=>3|32=>148|22=>25|0=>0|44=>259|46=>249|4=>4|36=>253|35=>252|41=>87|5=>5|9=>9|53=>266|57=>270|63=>281|64=>142|n=>n,λn=>n⟩
theorem zwv:SlLaysM.n5 prog zr8:={
 mixed:=by kernel_rfl
 f5:=⟨Tryz.f107.name,by decide,by kernel_rfl⟩
 f7:=⟨Tryz.f143.name,by decide,by kernel_rfl⟩
 f8:=by kernel_rfl
 f10:=⟨Tryz.f163.name,by decide,by kernel_rfl⟩
 f11:=⟨Tryz.f164.name,by decide,by kernel_rfl⟩
 f12:=⟨Tryz.f165.name,by decide,by kernel_rfl⟩
 f13:=⟨Tryz.f166.name,by decide,by kernel_rfl⟩
 f14:=⟨Tryz.f167.name,by decide,by kernel_rfl⟩
 f15:=⟨Tryz.f168.name,by decide,by kernel_rfl⟩
 f16:=⟨Tryz.f95.name,by decide,by kernel_rfl⟩
 f17:=⟨Tryz.f169.name,by decide,by kernel_rfl⟩
 f18:=⟨Tryz.f170.name,by decide,by kernel_rfl⟩
 f19:=by kernel_rfl
 f20:=by kernel_rfl
 f30:=⟨Tryz.f179.name,by decide,by kernel_rfl⟩
 f31:=by kernel_rfl
 f32:=by kernel_rfl
 f33:=⟨Tryz.f182.name,by decide,by kernel_rfl⟩
 f34:=⟨Tryz.f183.name,by decide,by kernel_rfl⟩
 f35:=⟨Tryz.f138.name,by decide,by kernel_rfl⟩
 f40:=⟨Tryz.f190.name,by decide,by kernel_rfl⟩
 t0:=underlying0
 a0:=isAgg0
 z0:=sizeOf0
 v0:=zeroValue0
 t3:=underlying3
 a3:=isAgg3
 z3:=sizeOf3
 v3:=zeroValue3
 t4:=underlying4
 a4:=isAgg4
 z4:=sizeOf4
 v4:=zeroValue4
 t5:=underlying5
 a5:=isAgg5
 z5:=sizeOf5
 v5:=zeroValue5
 t9:=underlying9
 a9:=isAgg9
 z9:=sizeOf9
 v9:=zeroValue9
 t22:=underlying25
 a22:=isAgg25
 z22:=sizeOf25
 v22:=zeroValue25
 t23:=underlying25
 a23:=isAgg25
 z23:=sizeOf25
 v23:=zeroValue25
 t25:=underlying3
 a25:=isAgg3
 z25:=sizeOf3
 v25:=zeroValue3
 t32:=underlying148
 a32:=isAgg148
 z32:=sizeOf148
 v32:=zeroValue148
 t35:=underlying252
 a35:=isAgg252
 z35:=sizeOf252
 v35:=zeroValue252
 t36:=underlying253
 a36:=isAgg253
 z36:=sizeOf253
 v36:=zeroValue253
 t41:=underlying87
 a41:=isAgg87
 z41:=sizeOf87
 v41:=zeroValue87
 t44:=underlying259
 a44:=isAgg259
 z44:=sizeOf259
 v44:=zeroValue259
 t46:=underlying249
 a46:=isAgg249
 z46:=sizeOf249
 v46:=zeroValue249
 t53:=underlying266
 a53:=isAgg266
 z53:=sizeOf266
 v53:=zeroValue266
 t57:=underlying270
 a57:=isAgg270
 z57:=sizeOf270
 v57:=zeroValue270
 t63:=underlying281
 a63:=isAgg281
 z63:=sizeOf281
 v63:=zeroValue281
 t64:=underlying142
 a64:=isAgg142
 z64:=sizeOf142
 v64:=zeroValue142 }
theorem zy7(m:Nat):AnyZI.SortsIn prog zf4 Fence.wide m :=
 ⟨λblk off cap ss W hH A0 A1=>callsIn_wide.2 (AnyM.slices_Sort_int zwv blk off cap ss W hH A0 A1),
  λp cap W=>callsIn_wide.2 (AnyM.slices_Sort_int_none zwv p cap W)⟩
def Z1(l:List KV):List Int:=l.map (·.1)
theorem zbv{l:List KV}(h:jh l):(Z1 l).Pairwise (λa b=>a<b):=by
 unfold Z1;rw[List.pairwise_map];exact h
theorem zgj(l:List KV):intKeys (kvD l)=Z1 l:=by
 unfold kvD intKeys Z1;simp only[List.map_map];exact List.map_congr_left (λp _=>rfl)
theorem zf5{l:List KV}(h:jh l){ss:List Int}(hp:ss.Perm (Z1 l)):ss.mergeSort (λx y=>decide (x<=y))=Z1 l:=by
 have h1:(ss.mergeSort (λx y=>decide (x<=y))).Pairwise (λa b=>a<=b):=by
  have:=List.pairwise_mergeSort (le:=λx y:Int=>decide (x<=y)) (λa b c h1 h2=>by simp at h1 h2 ⊢;omega) (λa b=>by simp;omega) ss;exact this.imp (λA0=>by simpa using A0)
 have h2:(Z1 l).Pairwise (λa b=>a<=b):=(zbv h).imp (λA0=>by omega);exact List.Perm.eq_of_pairwise (λa b _ _ h1 h2=>by omega) h1 h2 ((List.mergeSort_perm _ _).trans hp)
theorem zn1(l:List KV):Maps.size (kvD l)=l.length:=by unfold kvD Maps.size;simp
def zpi(w:World)(l:List KV)(e:Ending)(w':World):Prop :=
 ∃v,e=.returned v/\w'.ownsRow w.heap.size 3 1 v l.length ((Z1 l).map (Value.int .i64))/\(v=.slice none 0 0↔l=[])/\Below w.heap.size w w'
theorem z1l(b:Nat)(w:World):Calls prog 94 #[.map (some b)] w λe w'=>e=.returned (.func (.func 137) #[] #[.pointer (some ⟨w.heap.size,0,none⟩)])/\w'=w.alloc (.cells #[.map (some b)] 123) :=
 (callsIn_wide (n:=5)).1 (AnyZI.keys_in z3y Fence.wide 5 trivial rfl (some b) w)
theorem zuk{w:World}{b:Nat}{l:List KV}(H:qi w b l)(hl:l.length<=1000000) :
 Calls prog 92 #[.func (.func 137) #[] #[.pointer (some ⟨w.heap.size,0,none⟩)]] (w.alloc (.cells #[.map (some b)] 123)) (zpi (w.alloc (.cells #[.map (some b)] 123)) l):=by
 have A4:=H.lt;have A3:=zn1 l
 have A1:SeqGives Fence.wide 2 prog 137 #[.pointer (some ⟨w.heap.size,0,none⟩)] encZ (λss=>ss.Perm (intKeys (kvD l))) (Maps.size (kvD l)) (w.alloc (.cells #[.map (some b)] 123)) :=
  AnyZI.keys_gives (ρ:=zkz) { z3y with } Fence.wide _ trivial rfl (by omega) w.heap.size b l.length (kvD l) _ (by simp) (by simp) (by
   obtain⟨es,clock,hb,Ft,hs,hD⟩:=H.own
   exact⟨es,clock,(Below.heap_alloc _ _ b A4).trans hb,Ft,hs,hD⟩)
 have cS:=AnyZI.sorted_in zr7 Fence.wide 5 trivial trivial trivial trivial rfl (by omega) (zy7 _) (enters_of func107 (by kernel_rfl) rfl) 137 #[.pointer (some ⟨w.heap.size,0,none⟩)] trivial (enters_of func137 (by kernel_rfl) rfl) _ _ (by rw[A3];unfold maxLen;omega) (by rw[A3];omega) _ A1;change CallsIn _ _ prog 92 _ _ _ at cS;refine((callsIn_wide (n:=5)).1 cS).mono ?_;rintro e w' ⟨v,ss,rfl,hS,A0,A2,hb⟩;rw[zgj] at hS;refine⟨v,rfl,?_,?_,hb⟩
 ·rw[zf5 H.srt hS] at A0;have e1:ss.length=l.length:=by rw[hS.length_eq];simp[Z1]
  rw[e1] at A0;exact A0
 ·rw[A2];constructor
  ·rintro rfl;have:=hS.length_eq;simp[Z1] at this;exact List.eq_nil_of_length_eq_zero this.symm
  ·rintro rfl;exact List.Perm.eq_nil (by simpa[Z1] using hS)
theorem z1m(b:Nat)(w:World):Calls prog 93 #[.map (some b)] w λe w'=>e=.returned (.func (.func 136) #[] #[.pointer (some ⟨w.heap.size,0,none⟩)])/\w'=w.alloc (.cells #[.map (some b)] 103) :=
 (callsIn_wide (n:=5)).1 (AnyZI.keys_in z3z Fence.wide 5 trivial rfl (some b) w)
theorem zul{w:World}{b:Nat}{l:List KV}(H:qi w b l)(hl:l.length<=1000000) :
 Calls prog 92 #[.func (.func 136) #[] #[.pointer (some ⟨w.heap.size,0,none⟩)]] (w.alloc (.cells #[.map (some b)] 103)) (zpi (w.alloc (.cells #[.map (some b)] 103)) l):=by
 have A4:=H.lt;have A3:=zn1 l
 have A1:SeqGives Fence.wide 2 prog 136 #[.pointer (some ⟨w.heap.size,0,none⟩)] encZ (λss=>ss.Perm (intKeys (kvD l))) (Maps.size (kvD l)) (w.alloc (.cells #[.map (some b)] 103)) :=
  AnyZI.keys_gives (ρ:=zk0) { z3z with } Fence.wide _ trivial rfl (by omega) w.heap.size b l.length (kvD l) _ (by simp) (by simp) (by
   obtain⟨es,clock,hb,Ft,hs,hD⟩:=H.own
   exact⟨es,clock,(Below.heap_alloc _ _ b A4).trans hb,Ft,hs,hD⟩)
 have cS:=AnyZI.sorted_in zr7 Fence.wide 5 trivial trivial trivial trivial rfl (by omega) (zy7 _) (enters_of func107 (by kernel_rfl) rfl) 136 #[.pointer (some ⟨w.heap.size,0,none⟩)] trivial (enters_of func136 (by kernel_rfl) rfl) _ _ (by rw[A3];unfold maxLen;omega) (by rw[A3];omega) _ A1;change CallsIn _ _ prog 92 _ _ _ at cS;refine((callsIn_wide (n:=5)).1 cS).mono ?_;rintro e w' ⟨v,ss,rfl,hS,A0,A2,hb⟩;rw[zgj] at hS;refine⟨v,rfl,?_,?_,hb⟩
 ·rw[zf5 H.srt hS] at A0;have e1:ss.length=l.length:=by rw[hS.length_eq];simp[Z1]
  rw[e1] at A0;exact A0
 ·rw[A2];constructor
  ·rintro rfl;have:=hS.length_eq;simp[Z1] at this;exact List.eq_nil_of_length_eq_zero this.symm
  ·rintro rfl;exact List.Perm.eq_nil (by simpa[Z1] using hS)
end
end Go.Proofs.YtoeibiahbenpcaaGreatDoor
