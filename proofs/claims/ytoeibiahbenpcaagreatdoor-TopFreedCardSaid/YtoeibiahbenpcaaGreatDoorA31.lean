/- Part. -/
import Derived.Test.YtoeibiahbenpcaaGreatDoorA30
namespace Go.Proofs.YtoeibiahbenpcaaGreatDoor
open RowKit Maps Proofs.Tryz
set_option linter.unusedVariables false
set_option maxRecDepth 99999
set_option maxHeartbeats 9000000
section
variable{w:World}{J:LmI}{K NW N:Nat}{S:Lm}{A:Nat->Option Ob}{ex:List Int}{pe bl:Nat->Prop}{T:Tb}{made U:Nat}{F:Nat->Nat}{busy:Nat}
def z5p(w:World)(J:LmI)(K NW N:Nat)(A:Nat->Option Ob)(made U:Nat)(F:Nat->Nat)(o i v:Int)(e:Ending)(w':World):Prop :=
 LU J w w'/\e=.returned (.int .i64 (ze0 A o i v))/\∃S' T',Zh w' J K NW N S' (if ze0 A o i v=0 then zwy A o i v else A) [] (λ_=>False) (λ_=>False) T' made U F 0
theorem zzk(H:Zh w J K NW N S A [] (λ_=>False) (λ_=>False) T made U F 0)(hk:1<=K)(R2:1000<=NW)(o i v:Int)(b0:-9223372036854775808<=o)(b1:o<=9223372036854775807)(R3:-9223372036854775808<=i/\i<=9223372036854775807)(v0:-9223372036854775808<=v)(v1:v<=9223372036854775807) :
 Calls prog 9 #[.pointer (some ⟨J.m,0,none⟩),.int .i64 o,.int .i64 i,.int .i64 v] w (z5p w J K NW N A made U F o i v):=by
 have I6:=zh (zo5 H hk R2 o 1 i b0 b1 R3);have E3:=zh (λz=>zzn v z v0 v1);have I7:=zh (λz=>zo0 v z v0 v1);have I8:=zh (λz=>jr v z v0 v1);have hK:=H.ks;have ml:=H.P.head.lt;have HH:=zh H;have N4:=zh (zn9 (A:=A) (o:=o) (kind:=1) (i:=i));clear H;go_enter func9,ntmps9;go_wp2_with fail;go_call I6 as e w1 (⟨h0,k,N5,C9,s,S1,T1,r,rfl,A5,E4,B6⟩|⟨h0,rfl,A5,C9⟩)
 ·cases D0:yh v with
  | false =>
   have HE:Hid (ze0 A o i v=2):=by unfold Hid ze0;rw[if_neg (by omega),D0];rfl
   rw[D0] at E3;have D1:=zh A5;have E5:=zh C9;clear A5 C9 E4 B6 h0 D0 N5 I6 I7 I8;go_wp2_with fail;refine(E3 _).mono ?_;rintro e w2 ⟨rfl,rfl⟩;go_wp2;go_ret;exact⟨E5.out,by rw[HE.out];rfl,S1,T1,by rw[HE.out];exact D1⟩
  | true =>
   obtain⟨k',n,ob,g1,g2,g3,g4,g5,g6⟩:=zfa h0;obtain rfl:k=k':=by omega
   have HE:Hid (ze0 A o i v=0):=by unfold Hid ze0;rw[if_neg (by omega),D0];rfl
   have K9:=zh (zmn (v:=v) g1 g2 g4);subst g4;have N6:=A5.inv.good _ _ g2
   have N7:ob.size=ob.W.length:=by
    rcases N6.kinds with⟨_,_,_,a⟩|⟨a,_⟩
    ·exact a
    ·omega
   obtain⟨o1,d,ws,ok⟩:=A5.inv.res s r E4;have R4:o1=ob:=by have:=ok.ob;rw[B6,g2] at this;cases this;rfl
   subst R4;have N8:ws.length=o1.W.length:=by rw[ok.len];unfold nWd;rw[if_neg (by omega),N7]
   obtain⟨L0,T2,hs⟩:=A5.inv.res_id E4;obtain⟨old,D2⟩:=zx (ws.getD n 0);have D3:=zh D2;have D1:=zh A5;have E5:=zh C9;have A1:=zh E4;have A8:=zh B6;have A4:=zh ok;have I9:=zh D0;have J0:=zh g3;have E6:Hid (n<o1.W.length):=by unfold Hid;omega
   have N9:=zh N8;rw[D0] at E3;have ml1:=A5.P.head.lt;have O0:=zh (A5.hS E4);have L1:=zh (λz (hv:Below w1.heap.size w1 z)=>zed (D1.out.P.heap.below hv) A4.out.V n (by rw[N9.out];exact E6));rw[<-D2] at L1;clear A5 C9 E4 B6 h0 D0 N5 I6 g1 g2 g3 g5 g6 N6 N7 ok N8 L0 D2 ml;go_wp2_with fail;refine(E3 _).mono ?_;rintro e w2 ⟨rfl,rfl⟩;go_wp2_with fail;refine zm (λz=>z.cell? ⟨J.m,1,none⟩=some (.pointer (some ⟨J.h,0,none⟩))/\z.cell? ⟨J.sl,s*3,none⟩=some (.pointer (some ⟨r.ad,0,none⟩))/\z.cell? ⟨r.ad,0,none⟩=some (.int .i64 r.hb)) (zp [0,1,2,3,4,5,6,7,8,9,10,11,1012,13,14,15,16,17]) (by kernel_rfl) (by kernel_rfl) (λ_ _ _ _ _ h=>h) (O0.out) ?_
   (repeat (refine zi rfl (λK hK=>?_);go_simp;(try go_bits);refine hK _ ?_;clear hK K))
   refine zl (.pointer (some ⟨J.h,0,none⟩)) rfl rfl (λx hS=>by obtain⟨s0,s1,s2⟩:=hS;go_simp) ?_
   (repeat (refine zi rfl (λK hK=>?_);go_simp;(try go_bits);refine hK _ ?_;clear hK K))
   refine zl (.pointer (some ⟨r.ad,0,none⟩)) rfl rfl (λx hS=>by obtain⟨s0,s1,s2⟩:=hS;go_simp) ?_
   (repeat (refine zi rfl (λK hK=>?_);go_simp;(try go_bits);refine hK _ ?_;clear hK K))
   refine zl (.int .i64 r.hb) rfl rfl (λx hS=>by obtain⟨s0,s1,s2⟩:=hS;go_simp) ?_
   (repeat (refine zi rfl (λK hK=>?_);go_simp;(try go_bits);refine hK _ ?_;clear hK K))
   refine zj rfl ?_;go_wp2_with fail;refine(L1 _ (Zd (Below.refl _ _))).mono ?_;rintro e w2 ⟨rfl,O1⟩;have L2:Below w1.heap.size w1 w2:=zy (Zd (Below.refl _ w1)) O1;have A3:=zh (D1.below L2);have D4:=zh (E5.trans (.of_below L2));clear O1 L2 L1 D1 E5 O0 E3;go_wp2_with fail;refine⟨A3.hS A1,?_⟩
   (repeat (refine zi rfl (λK hK=>?_);go_simp;(try go_bits);refine hK _ ?_;clear hK K))
   refine zo ?_;go_wp2_with fail;refine(I7 _).mono ?_;rintro e w3 ⟨rfl,rfl⟩;go_wp2_with fail;refine(I8 _).mono ?_;rintro e w3 ⟨rfl,rfl⟩;clear I7 I8;have D5:n<ws.length:=by rw[N9.out];exact E6
   have R5:(n:Int)=((n:Nat):Int):=rfl;clear R5;cases J1:zga v with
   | true =>
    have B7:ym (zhf v):=by
     have:=zdh v;unfold zaq at this;rwa[if_pos J1] at this
    have O2:=λid there=>zes J1 id there
    obtain⟨x,hx⟩:=zx (zhf v);rw[<-hx] at B7;have L3:0<=x/\x<=65535:=by rcases B7 with h|h<;>omega
    have E9:=zh (λz (hv:Below w2.heap.size w2 z)=>zfk (A3.P.below hv) A4.V D5 L3 z.heap.size rfl);have B2:=(A3.out.inv.cons_plain B7).setWord A1.out A4.out J0.out E6.out I9.out L3 (B7.ok K) d rfl rfl rfl rfl (λ_ _=>rfl) (by rw[hx];exact O2 _ _) true (λh=>by cases h);rw[<-D3.out,A8.out,<-K9.out] at B2;have L4:=zh B2;rw[<-hx];clear B7 O2 hx L3 B2;have O3:=zh (A3.hS A1);go_wp2_with fail;refine zm (λz=>z.cell? ⟨J.m,1,none⟩=some (.pointer (some ⟨J.h,0,none⟩))/\z.cell? ⟨J.sl,s*3,none⟩=some (.pointer (some ⟨r.ad,0,none⟩))/\z.cell? ⟨r.ad,0,none⟩=some (.int .i64 r.hb)) (zp [0,1,2,3,4,5,6,7,8,9,10,11,12,1013,1014]) (by kernel_rfl) (by kernel_rfl) (λ_ _ _ _ _ h=>h) (O3.out) ?_
    (repeat (refine zi rfl (λK hK=>?_);go_simp;(try go_bits);refine hK _ ?_;clear hK K))
    refine zl (.pointer (some ⟨J.h,0,none⟩)) rfl rfl (λx hS=>by obtain⟨s0,s1,s2⟩:=hS;go_simp) ?_
    (repeat (refine zi rfl (λK hK=>?_);go_simp;(try go_bits);refine hK _ ?_;clear hK K))
    refine zl (.pointer (some ⟨r.ad,0,none⟩)) rfl rfl (λx hS=>by obtain⟨s0,s1,s2⟩:=hS;go_simp) ?_
    (repeat (refine zi rfl (λK hK=>?_);go_simp;(try go_bits);refine hK _ ?_;clear hK K))
    refine zl (.int .i64 r.hb) rfl rfl (λx hS=>by obtain⟨s0,s1,s2⟩:=hS;go_simp) ?_
    (repeat (refine zi rfl (λK hK=>?_);go_simp;(try go_bits);refine hK _ ?_;clear hK K))
    refine zj rfl ?_;go_wp2_with fail;refine⟨(A3.below (zn (Zd (Below.refl _ _)))).hS A1,?_⟩;refine zj rfl ?_;go_wp2_with fail;refine(E9 _ (Zd (Below.refl _ _))).mono ?_;rintro e w3 ⟨rfl,F0,D6⟩;have A6:=zh F0;have B8:=zh (D4.trans ((LU.of_below (J:=J) (Zd (Below.refl _ w2))).trans D6));clear F0 D6 E9 O3 D4;go_wp2_with fail;refine⟨A6.hS hs A1,?_⟩;refine zo ?_;obtain⟨-,y0,-⟩:=A6.hS hs A1;have yl:=A6.out.slots.lt;obtain⟨F1,A0⟩:=A6.resid s r A1;have z3:=A0.cell (i:=3) rfl;have zf:=A0.free 3;have zl:=A0.lt;have D7:Upd [r.ad] w3 (w3.setCell ⟨r.ad,3,none⟩ (.bool true)):=(Upd.refl _ _).setCell (by simp) _;have F2:=A6.out.res' (r':={ r with dirty:=true }) (w':=w3.setCell ⟨r.ad,3,none⟩ (.bool true)) (by omega) A1.out rfl (λt q hq he=>A3.out.inv.ads t s q r hq A1.out he) D7 (A0.set 3 _);have F3:=zh (zdt (d':=d) F2 A1.out (by rw[zkc A4.out.dk];exact A3.dk) L4 A3.ks);have F4:=zh (B8.out.trans (.of_upd D7 (λk hk=>by simp at hk;subst hk;exact .inr ⟨F1,_,_,A0,.inr rfl⟩)));have C3:=zh (zfl F3.out (λh=>absurd rfl h) (by simp));clear F1 A0 D7 F2 A6 B8;go_wp2_with fail;go_call C3 as e w5 ⟨rfl,F5,F6⟩;have E7:=zh F5;have E8:=zh (F4.trans F6);clear F5 F6 C3 F3 F4 y0 yl z3 zf zl;go_wp2;go_ret;exact⟨E8.out,by rw[HE.out];rfl,_,T1,by rw[HE.out,if_pos rfl];exact E7⟩
   | false =>
    have T3:=zh J1;clear J1;have F7:yb v=true\/yb v=false:=by cases yb v<;>simp
    rcases F7 with D8|D8
    case' inl =>
     obtain⟨m,O4,J2,L5⟩:∃m:Nat,Zz v=m/\1<=m/\m<1073741824/\v=((2*m:Nat):Int):=by
      unfold yb at D8;have h:=of_decide_eq_true D8;refine⟨(v / 2).toNat,?_,by omega,by omega,by omega⟩;rw[kh h];omega
     have L6:=zh (z1z A3 A1 A4.V D5 J2 L5.1);have J3:=zh L5;rw[D8,O4];clear O4 L5 D8;go_wp2_with fail;go_call L6 as e w3 ⟨D6,⟨rfl,s',x,O5,R6,hx,L7,F0⟩|⟨rfl,O6⟩⟩
     case' inl =>
      have J4:=zxc A3.inv O5 R6 J2 J3.out.1 L7 hx;have B9:s'<S1.sls.length:=by rw[A3.out.lens];omega
      have J5:((S1.put s' x).sl s).res=some r:=by
       rw[Lm.sl_put B9];split
       ·next e=>rw[hx,<-e];exact A1
       ·exact A1
      have D9:((S1.put s' x).sl s).id=k:=by
       rw[Lm.sl_put B9];split
       ·next e =>
        rw[hx,<-e];subst e;show m=k
        rcases L7 with h|⟨h,-⟩
        ·rw[<-h];exact A8
        ·have:=(A3.out.inv.res_id A1.out).1;exact absurd h this
       ·exact A8
      have C4:((S1.put s' x).sl s').id=m:=by rw[Lm.sl_put B9,if_pos rfl,hx]
      obtain⟨o2,d2,ws2,ok2⟩:=J4.res s r J5
      have R7:o2=o1:=by
       have h1:=ok2.ob;have h2:=A4.out.ob;rw[D9] at h1;rw[A8.out] at h2;rw[h2] at h1;cases h1;rfl
      subst R7
      have R8:ws2=ws:=by
       have h1:=ok2.V;have h2:=A4.V;rw[show(S1.put s' x).V=S1.V from rfl,h2] at h1;cases h1;rfl
      subst R8;have F8:s'<=16383:=by omega
      have B2:=J4.setWord J5 ok2 J0.out E6.out I9.out (x:=((2*s':Nat):Int)) (by omega) (.inr (.inr ⟨by omega,by omega,by omega⟩)) d2 rfl rfl rfl rfl (λ_ _=>rfl) (by rw[zqb O5 F8 C4 J2 J3.out.1];exact J3.out.2.symm) true (λh=>by cases h);rw[<-D3.out,D9,<-K9.out] at B2;have L4:=zh B2;have A6:Hid (LmP w3 J K NW (S1.put s' x).sls (upF S1.V r.hb (some (ws2.set n ((2*s':Nat):Int)))) (K+3) (xa (S1.put s' x).sls) (zc0 (S1.put s' x).sls) T1 made U N F 0):=F0;have B8:=zh (D4.trans D6);have F9:Hid (((S1.put s' x).sls.getD s z6).res=some r):=J5
      have R9:Hid (upF (S1.put s' x).dk ((S1.put s' x).sl s).id (some d2)=zt T1):=by
       unfold Hid;rw[zkc ok2.dk];exact A3.dk
      have O7:=zh J4.ads;clear J4 B9 D9 C4 ok2 F8 B2 F0 D6 L7 hx L6 J5;obtain⟨-,y0,-⟩:=A6.hS hs F9;have yl:=A6.out.slots.lt;obtain⟨F1,A0⟩:=A6.resid s r F9;have z3:=A0.cell (i:=3) rfl;have zf:=A0.free 3;have zl:=A0.lt;have D7:Upd [r.ad] w3 (w3.setCell ⟨r.ad,3,none⟩ (.bool true)):=(Upd.refl _ _).setCell (by simp) _;have F2:=A6.out.res' (r':={ r with dirty:=true }) (w':=w3.setCell ⟨r.ad,3,none⟩ (.bool true)) (by omega) F9.out rfl (λt q hq he=>O7.out t s q r hq F9.out he) D7 (A0.set 3 _);have F3:=zh (zdt (S:=S1.put s' x) (d':=d2) F2 F9 R9 L4 A3.ks);have F4:=zh (B8.out.trans (.of_upd D7 (λk hk=>by simp at hk;subst hk;exact .inr ⟨F1,_,_,A0,.inr rfl⟩)));have C3:=zh (zfl F3.out (λh=>absurd rfl h) (by simp));clear F1 A0 D7 F2 A6 B8 O7;go_wp2_with fail;go_call C3 as e w5 ⟨rfl,F5,F6⟩;have E7:=zh F5;have E8:=zh (F4.trans F6);clear F5 F6 C3 F3 F4 y0 yl z3 zf zl;go_wp2;go_ret;exact⟨E8.out,by rw[HE.out];rfl,_,T1,by rw[HE.out,if_pos rfl];exact E7⟩
     case' inr =>
      have A9:=zh O6;have B8:=zh (D4.trans D6);clear O6 D6 L6 J3 J2 A3 D4
    case' inr =>
     rw[D8];obtain⟨w3,J6⟩:=zx (w2);have A9:Hid (Zh w3 J K NW N S1 A [] (λ_=>False) (λ_=>False) T1 made U F 0):=by rw[J6];exact A3
     have B8:Hid (LU J w w3):=by rw[J6];exact D4
     rw[<-J6];clear D8 A3 D4 J6
    all_goals
     have m0:=A9.P.head.cell (i:=0) rfl;have y1:=(A9.slot hs).2.1;have C5:Hid (Row w3 J.m 69 (cn J K 0)):=A9.P.head;have C6:=zh A9.P.slots;have L8:lookI T1 ((S1.sl s).id:Int)=some d:=by rw[je,<-A4.out.dk,A9.out.dk]
     have O8:=zh L8;have O9:wfK ((S1.sl s).id:Int):=by have:=A9.out.inv.idlt s;exact zfx (by omega)
     have P0:=zh O9;have P1:=A9.out.P.sec.good _ (Zl (by rw[<-je];exact L8));have L9:=zh P1;clear L8 O9 P1;go_wp2_with fail
     refine xx (λz:World=>z.cell? ⟨J.m,0,none⟩=some (.pointer (some ⟨J.I.s,0,none⟩))/\z.cell? ⟨J.sl,s*3+1,none⟩=some (.int .i64 (S1.sl s).id)) [0,1,2,3,4,5,6,7,8,9,10,11,12,13,14]
      (.load 0 (.load 1 (.load 2 (.load 3 (.load 4 (.load 5 (.load 6 (.load 7 (.two 8 12 (.load 9 (.load 10 (.load 11 (.sole 12 (.sole 13 (.load 14 .fin)))))) (.sole 8 (.load 9 (.load 10 (.load 11 (.sole 13 (.load 14 .fin))))))))))))))) (by kernel_rfl) (by kernel_rfl) (λ_ _ _ _ _ h=>h) ?_
     have G0:(λz:World=>z.cell? ⟨J.m,0,none⟩=some (.pointer (some ⟨J.I.s,0,none⟩))/\z.cell? ⟨J.sl,s*3+1,none⟩=some (.int .i64 (S1.sl s).id)) w3.drew:=⟨m0,y1⟩;clear m0 y1
     (repeat (refine Zj G0 rfl (λK hK=>?_);go_simp;(try go_bits);refine hK _ ?_;clear hK K))
     refine kd (.pointer (some ⟨J.I.s,0,none⟩)) G0 rfl rfl (λx hS=>by obtain⟨s0,s1⟩:=hS;go_simp) (λK hK=>?_);refine hK _ ?_;clear hK K
     (repeat (refine Zj G0 rfl (λK hK=>?_);go_simp;(try go_bits);refine hK _ ?_;clear hK K))
     refine kd (.int .i64 (S1.sl s).id) G0 rfl rfl (λx hS=>by obtain⟨s0,s1⟩:=hS;go_simp) (λK hK=>?_);refine hK _ ?_;clear hK K;have C0:=zh (A9.below (Zd (Below.refl _ w3)));have G1:Hid (LU J w3 w3.drew):=LU.of_below (Zd (Below.refl _ w3));have J7:Hid (Row w3.drew J.m 69 (cn J K 0)):=C5.out.drew;have J8:Hid (Row w3.drew J.sl 84 (ja S1.sls)):=C6.out.drew;have C7:Hid (∀z:World,Row z J.m 69 (cn J K 0)->Row z J.sl 84 (ja S1.sls)->(z.cell? ⟨J.m,0,none⟩=some (.pointer (some ⟨J.I.s,0,none⟩))/\z.cell? ⟨J.sl,s*3+1,none⟩=some (.int .i64 (S1.sl s).id))):=λz r1 r2=>⟨r1.cell (i:=0) rfl,r2.cell (Z6 (l:=S1.sls) (s:=s) (by rw[A9.out.lens];omega)).2.1⟩
     clear C5 C6;generalize w3.drew=wd at *
     have G2:∀v,Below wd.heap.size wd v->Hid (Calls prog 37 #[.pointer (some ⟨J.I.s,0,none⟩),.int .i64 (S1.sl s).id] v λe w'=>∃dd:Za,e=.returned (.tuple #[.agg #[.int .i64 dd.cls,.int .i64 dd.kind,.slice dd.wa dd.wn dd.wc,.slice dd.ba dd.bn dd.bc],.int .i64 0])/\dd.ok w'/\xn v.heap.size w' dd/\Is dd d/\Zn w' J.I T1 made U N F/\Upd J.I.E.all v w'):=λv hv=>by
      refine(zb1 (C0.P.sec.below hv) _ P0 d O8).mono ?_;rintro e w' ⟨dd,rfl,a1,a2,a3,a4,a5,a6,a7,a8⟩;exact⟨dd,rfl,a1,a2,⟨a3,a4,a5,a6⟩,a7,a8⟩
     have G3:=zh G2;have M0:=A9.P.fixne;have J9:Hid (J.m∉J.I.E.all/\J.sl∉J.I.E.all):=⟨λhm=>M0.1 J.m (by simp) (by simp[qy.all,hm]),λhm=>M0.1 J.sl (by simp) (by simp[qy.all,hm])⟩;have P2:=zh C0.P.sec.lt;clear G2 M0;refine zfr rfl rfl ?_ ?_;go_wp2_with fail;refine(G3 wd (Below.refl _ _)).out.mono ?_;rintro e w4 ⟨dd,rfl,G4,B0,hi,hs,hu⟩;have B3:=zh (J7.keep hu J9.out.1);have B4:=zh (J8.keep hu J9.out.2);have A2:=zh (zgt G4 B0 hi hs hu);clear G4 B0 hi hs hu;go_wp2;refine⟨C7 _ B3 B4,?_⟩;have B1:=zh (C7 _ B3 B4)
     (repeat (refine Zj B1.out rfl (λK hK=>?_);go_simp;(try go_bits);refine hK _ ?_;clear hK K))
     refine Zu rfl ?_;go_wp2_with fail;refine⟨C7 _ (B3.alloc _) (B4.alloc _),?_⟩;refine Zu rfl ?_;go_wp2_with fail;obtain⟨q,hq⟩:=zx (w4.heap.size);obtain⟨w5,B5⟩:=zx (w4.alloc (.cells #[.int .i64 dd.cls,.int .i64 dd.kind,.slice dd.wa dd.wn dd.wc,.slice dd.ba dd.bn dd.bc] 28));have K0:Hid (Row w5 J.m 69 (cn J K 0)):=by rw[B5];exact B3.alloc _
     have K1:Hid (Row w5 J.sl 84 (ja S1.sls)):=by rw[B5];exact B4.alloc _
     rw[<-B5,<-hq] at A2;rw[<-B5,<-hq];clear B5 hq B3 B4 B1
     rotate_left
     go_wp2_with fail;obtain⟨q,hq⟩:=zx (wd.heap.size);obtain⟨wq,E0⟩:=zx (wd.alloc (.cells #[.int .i64 0,.int .i64 0,.slice none 0 0,.slice none 0 0] 28));have K2:Below wd.heap.size wd wq:=by rw[E0];exact zn (Below.refl _ _)
     refine⟨C7 _ (J7.alloc _) (J8.alloc _),?_⟩;refine Zu rfl ?_;go_wp2_with fail;rw[<-E0,<-hq];have P3:Hid (Row wq J.m 69 (cn J K 0)):=by rw[E0];exact J7.alloc _
     have P4:Hid (Row wq J.sl 84 (ja S1.sls)):=by rw[E0];exact J8.alloc _
     refine(G3 wq K2).out.mono ?_;rintro e w4 ⟨dd,rfl,G4,B0,hi,hs,hu⟩;have B3:=zh (P3.keep hu J9.out.1);have B4:=zh (P4.keep hu J9.out.2)
     have rq4:Row w4 q 28 [.int .i64 0,.int .i64 0,.slice none 0 0,.slice none 0 0]:=by
      refine Row.keep ?_ hu (λhm=>by have:=P2.out q (by simp[qy.all,hm]);omega);rw[E0,hq];exact Row.made _ _ _
     have f0:=rq4.free 0;have f1:=rq4.free 1;have f2:=rq4.free 2;have f3:=rq4.free 3;have g0:=rq4.cell (i:=0) rfl;have g1:=rq4.cell (i:=1) rfl;have g2:=rq4.cell (i:=2) rfl;have g3:=rq4.cell (i:=3) rfl;have gl:=rq4.lt;have G5:=zh (λw5=>zew (w5:=w5) hq E0 P2 G4 B0 hi hs hu);have P5:=zh hq;clear G4 B0 hi hs hu K2 E0 hq rq4;go_wp2_with fail;refine⟨C7 _ B3 B4,?_⟩;have B1:=zh (C7 _ B3 B4)
     (repeat (refine Zj B1.out rfl (λK hK=>?_);go_simp;(try go_bits);refine hK _ ?_;clear hK K))
     refine Zu rfl ?_;go_wp2_with fail;obtain⟨w5,B5⟩:=zx ((((w4.setCell ⟨q,0,none⟩ (.int .i64 dd.cls)).setCell ⟨q,1,none⟩ (.int .i64 dd.kind)).setCell ⟨q,2,none⟩ (.slice dd.wa dd.wn dd.wc)).setCell ⟨q,3,none⟩ (.slice dd.ba dd.bn dd.bc));have A2:=zh (G5 w5 B5);have u5:Upd [q] w4 w5:=by rw[B5];exact((((Upd.refl [q] w4).setCell (by simp) _).setCell (by simp) _).setCell (by simp) _).setCell (by simp) _
     have M1:q∉[J.m,J.sl]:=λhm=>by
      have h1:=J7.out.lt;have h2:=J8.out.lt;have h3:=P5.out;simp at hm;omega
     have K0:Hid (Row w5 J.m 69 (cn J K 0)):=B3.out.keep u5 (λhm=>M1 (by simp at hm;simp[hm]));have K1:Hid (Row w5 J.sl 84 (ja S1.sls)):=B4.out.keep u5 (λhm=>M1 (by simp at hm;simp[hm]));rw[<-B5];clear B5 u5 M1 f0 f1 f2 f3 g0 g1 g2 g3 gl B3 B4 P3 P4 B1 G5 P5
     all_goals
      refine⟨C7 _ K0 K1,?_⟩;have G6:=zh (C7 _ K0 K1)
      (repeat (refine Zj G6.out rfl (λK hK=>?_);go_simp;(try go_bits);refine hK _ ?_;clear hK K))
      refine zcg ?_;clear G6 G0;have E7:Hid (Zh w5 J K NW N S1 A [] (λ_=>False) (λ_=>False) T1 made U F 0):=⟨C0.out.P.sec' A2.out.upd (λk hk=>by simp[qy.all,hk]) A2.out.sec,C0.out.dk,C0.out.inv,C0.out.ks⟩;have E8:Hid (LU J w w5):=B8.out.trans (G1.out.trans (.disk A2.out.upd (λk hk=>by simp[qy.all,hk])));have C8:w5.ownsRow wd.heap.size 3 1 (.slice dd.wa dd.wn dd.wc) dd.wn (d.W.map (Value.int .i64)):=by have:=A2.out.own.1;rw[A2.out.is_.W] at this;exact this
      have P6:dd.wn=d.W.length:=by rw[A2.out.ok.wl,A2.out.is_.W]
      have M2:d.W.length=o1.W.length:=A4.out.size.1;have S0:n<dd.wn:=by have:=E6.out;omega
      have E1:n<d.W.length:=by omega
      obtain⟨g,G7⟩:=yo C8 (by omega);have T4:=zh A2.ok.wm;have M3:=A2.qw _ G7;simp only at M3;rw[G7] at C8;have P7:=(C8.lt g rfl).1;obtain⟨-,ys,K3⟩:=Zg C8 g rfl;have K4:=A2.out.row;have z2:=K4.cell (i:=2) rfl;rw[G7] at z2;have S2:=C8.frozenAt n
      have S3:w5.cell? ⟨g,n,none⟩=some (.int .i64 (d.W.getD n 0)):=by
       have h1:=C8.cellAt n (by omega);rw[h1,zr E1]
      have S4:=K3.lt;have zq:=K4.lt;have u6:Upd [g] w5 (w5.setCell ⟨g,n,none⟩ (.int .i64 v)):=(Upd.refl _ _).setCell (by simp) _;have A7:=zh (E7.out.ownRow C0.out.fixlt C0.out.Blt K3 P7 (by decide) u6)
      have P8:Hid (LU J w (w5.setCell ⟨g,n,none⟩ (.int .i64 v))):=by
       refine E8.fresh u6 (λx hx=>?_);simp at hx;subst hx;have h1:=B8.out.size;have h2:=G1.out.size;omega
      have M4:=(C8.stored n (.int .i64 v)).1;rw[<-List.map_set] at M4;have M5:=zh M4
      have M6:=u6.owns A2.own.2 (λx hx hm=>by
       simp at hm;subst hm;obtain⟨-,ys2,h2⟩:=Zg A2.own.2 x hx;rw[Row,show w5.heap[x]?=_ from K3] at h2
       simp at h2)
      rw[A2.out.is_.B] at M6;have M7:=zh M6;have E2:=zh (K4.keep u6 (by simp;exact λe=>M3 e.symm));have G8:=zh A2.ok;have C1:=zh A2.is_;have S5:Hid (∀k∈J.fix,k<q):=λk hk=>Nat.lt_of_lt_of_le (C0.fixlt k hk) A2.q0
      have M8:=zh (And.intro G7 P6);have S6:(n:Int)<(dd.wn:Int):=by omega
      clear C8 P6 M2 M3 K3 K4 u6 M4 M6 A2 E7 E8 K0 K1 P7 S0;go_wp2_with fail;obtain⟨w6,P9⟩:=zx (w5.setCell ⟨g,n,none⟩ (.int .i64 v));rw[<-P9] at A7 P8 M5 M7 E2 ⊢;clear P9 G7 z2 S2 S3 S4 zq;obtain⟨D,hD⟩:∃D:Za,D=⟨dd.cls,dd.kind,dd.wa,dd.wn,dd.wc,d.W.set n v,dd.ba,dd.bn,dd.bc,d.B⟩:=⟨_,rfl⟩;have G9:d.kind=1:=by rw[A4.out.kind.1];exact J0
      have K5:=zf6 (n:=n) L9 G9 I9
      have I0:D.ok w6:=by
       rw[hD];have k0:=G8.out;obtain⟨_,_,S7,rw1,-,-⟩:=zk M5.out;cases S7
       obtain⟨_,_,K2,rb1,-,-⟩:=zk M7;cases K2
       exact⟨k0.c0,k0.k0,by simp only[List.length_set];exact M8.out.2,k0.wm,by rw[M8.out.1];exact rw1,K5.i64,by rw[k0.bl,C1.out.B],k0.bm,rb1,L9.out.2⟩
      have I1:Is D (zj3 d n v):=by
       rw[hD];exact⟨C1.cls,C1.kind,rfl,rfl⟩
      have Q0:(zj3 d n v).enc.length=d.enc.length:=by rw[Ob.enc_len,Ob.enc_len];show 12+4*(d.W.set n v).length+_=_;rw[List.length_set];rfl
      have M9:dd.wn<=1000:=by rw[M8.out.2];have:=L9.out.kinds;omega
      have N0:=zh (zia (A7.out.P.sec.below (Zd (Below.refl _ w6))) _ P0.out d (zj3 d n v) O8.out D (I0.below (Zd (Below.refl _ w6))) (by rw[hD];simp only;omega) I1 K5 Q0);have Q1:D.val=.agg #[.int .i64 dd.cls,.int .i64 dd.kind,.slice dd.wa dd.wn dd.wc,.slice dd.ba dd.bn dd.bc]:=by rw[hD];rfl
      rw[Q1,Int.toNat_natCast] at N0;have Q2:=A7.out.P.slots.cell (Z6 (l:=S1.sls) (s:=s) (by rw[A7.out.lens];omega)).2.1;have Q3:Hid (w6.cell? ⟨J.m,0,none⟩=some (.pointer (some ⟨J.I.s,0,none⟩))/\w6.cell? ⟨J.sl,s*3+1,none⟩=some (.int .i64 (S1.sl s).id)/\w6.cell? ⟨q,0,none⟩=some (.int .i64 dd.cls)/\w6.cell? ⟨q,1,none⟩=some (.int .i64 dd.kind)/\w6.cell? ⟨q,2,none⟩=some (.slice dd.wa dd.wn dd.wc)/\w6.cell? ⟨q,3,none⟩=some (.slice dd.ba dd.bn dd.bc)):=⟨A7.P.head.cell (i:=0) rfl,Q2,E2.cell (i:=0) rfl,E2.cell (i:=1) rfl,E2.cell (i:=2) rfl,E2.cell (i:=3) rfl⟩;have T5:=zh K5;clear hD G9 K5 I0 I1 Q0 M9 Q1 Q2 M5 M7 G8 C1;refine zm (λz=>z.cell? ⟨J.m,0,none⟩=some (.pointer (some ⟨J.I.s,0,none⟩))/\z.cell? ⟨J.sl,s*3+1,none⟩=some (.int .i64 (S1.sl s).id)/\z.cell? ⟨q,0,none⟩=some (.int .i64 dd.cls)/\z.cell? ⟨q,1,none⟩=some (.int .i64 dd.kind)/\z.cell? ⟨q,2,none⟩=some (.slice dd.wa dd.wn dd.wc)/\z.cell? ⟨q,3,none⟩=some (.slice dd.ba dd.bn dd.bc)) (zp [0,1,2,3,4,5,6,7,8,1009]) (by kernel_rfl) (by kernel_rfl) (λ_ _ _ _ _ h=>h) (Q3.out) ?_
      (repeat (refine zi rfl (λK hK=>?_);go_simp;(try go_bits);refine hK _ ?_;clear hK K))
      refine zl (.pointer (some ⟨J.I.s,0,none⟩)) rfl rfl (λx hS=>by obtain⟨s0,s1,s2,s3,s4,s5⟩:=hS;go_simp) ?_
      (repeat (refine zi rfl (λK hK=>?_);go_simp;(try go_bits);refine hK _ ?_;clear hK K))
      refine zl (.int .i64 (S1.sl s).id) rfl rfl (λx hS=>by obtain⟨s0,s1,s2,s3,s4,s5⟩:=hS;go_simp) ?_
      (repeat (refine zi rfl (λK hK=>?_);go_simp;(try go_bits);refine hK _ ?_;clear hK K))
      refine zl (.agg #[.int .i64 dd.cls,.int .i64 dd.kind,.slice dd.wa dd.wn dd.wc,.slice dd.ba dd.bn dd.bc]) rfl rfl (λx hS=>by obtain⟨s0,s1,s2,s3,s4,s5⟩:=hS;go_simp) ?_;refine zj rfl ?_;go_wp2_with fail;go_call N0 as e w7 ⟨rfl,Q4,I2⟩;have K6:Upd (J.I.mp::J.I.E.all) w6 w7:=((Upd.refl _ w6).drew).trans I2;have K7:=A7.out.P.sec' K6 (λk hk=>by simp[qy.all] at hk ⊢;rcases hk with rfl|hk<;>simp[*]) Q4
      have I3:=E2.keep K6 (λhm=>by
       have h1:q∈J.fix:=by simp only[LmI.fix,qy.all,List.mem_cons] at hm ⊢;rcases hm with rfl|hm<;>simp[*]
       have:=S5.out q h1
       omega)
      have I4:=zh K7;have Q5:=zh (P8.out.trans (.disk K6 (λk hk=>by simp[qy.all] at hk ⊢;rcases hk with rfl|hk<;>simp[*])))
      have N1:Hid (w7.cell? ⟨J.m,0,none⟩=some (.pointer (some ⟨J.I.s,0,none⟩))/\w7.cell? ⟨J.sl,s*3+1,none⟩=some (.int .i64 (S1.sl s).id)/\w7.cell? ⟨q,0,none⟩=some (.int .i64 dd.cls)/\w7.cell? ⟨q,1,none⟩=some (.int .i64 dd.kind)/\w7.cell? ⟨q,2,none⟩=some (.slice dd.wa dd.wn dd.wc)/\w7.cell? ⟨q,3,none⟩=some (.slice dd.ba dd.bn dd.bc)) :=
       ⟨K7.head.cell (i:=0) rfl,K7.slots.cell (Z6 (l:=S1.sls) (s:=s) (by rw[A7.out.lens];omega)).2.1,I3.cell (i:=0) rfl,I3.cell (i:=1) rfl,I3.cell (i:=2) rfl,I3.cell (i:=3) rfl⟩
      clear K6 I2 K7 I3 Q4 N0 Q3 E2;go_wp2_with fail;refine⟨N1,?_⟩;refine zo ?_;have Q6:=zh (I4.hS hs A1);have E9:=zh (λz (hv:Below w7.heap.size w7 z)=>zfk (I4.out.below hv) A4.out.V D5 (x:=65534) (by decide) z.heap.size rfl);have ml7:=I4.out.head.lt;go_wp2_with fail;refine zm (λz=>z.cell? ⟨J.m,1,none⟩=some (.pointer (some ⟨J.h,0,none⟩))/\z.cell? ⟨J.sl,s*3,none⟩=some (.pointer (some ⟨r.ad,0,none⟩))/\z.cell? ⟨r.ad,0,none⟩=some (.int .i64 r.hb)) (zp [0,1,2,3,4,5,6,7,8,9,10,11,1012,1013]) (by kernel_rfl) (by kernel_rfl) (λ_ _ _ _ _ h=>h) (Q6.out) ?_
      (repeat (refine zi rfl (λK hK=>?_);go_simp;(try go_bits);refine hK _ ?_;clear hK K))
      refine zl (.pointer (some ⟨J.h,0,none⟩)) rfl rfl (λx hS=>by obtain⟨s0,s1,s2⟩:=hS;go_simp) ?_
      (repeat (refine zi rfl (λK hK=>?_);go_simp;(try go_bits);refine hK _ ?_;clear hK K))
      refine zl (.pointer (some ⟨r.ad,0,none⟩)) rfl rfl (λx hS=>by obtain⟨s0,s1,s2⟩:=hS;go_simp) ?_
      (repeat (refine zi rfl (λK hK=>?_);go_simp;(try go_bits);refine hK _ ?_;clear hK K))
      refine zl (.int .i64 r.hb) rfl rfl (λx hS=>by obtain⟨s0,s1,s2⟩:=hS;go_simp) ?_
      (repeat (refine zi rfl (λK hK=>?_);go_simp;(try go_bits);refine hK _ ?_;clear hK K))
      refine zj rfl ?_;go_wp2_with fail;refine⟨(I4.below (zn (Zd (Below.refl _ _)))).hS hs A1,?_⟩;refine zj rfl ?_;go_wp2_with fail;refine(E9 _ (Zd (Below.refl _ _))).mono ?_;rintro e w8 ⟨rfl,N2,Q7⟩;have N3:s<S1.sls.length:=by rw[A7.out.lens];omega
      have C2:=N2;rw[<-setSame N3 A1.out] at C2;have B7:ym 65534:=.inr rfl;have B2:=(A7.out.inv.cons_plain B7).setWord A1.out A4.out J0.out E6.out I9.out (by decide) (B7.ok K) (zj3 d n v) rfl rfl rfl (by show(d.W.set n v).length=_;rw[List.length_set]) (λj hj=>by show(d.W.set n v).getD j 0=_;rw[vq E1,if_neg hj]) (by rw[zkw];show(d.W.set n v).getD n 0=_;rw[vq E1,if_pos rfl]) r.dirty (λh=>by rw[A4.out.clean h])
      have I5:upF S1.dk (S1.sl s).id (some (zj3 d n v))=zt (zj4 T1 (S1.sl s).id (zj3 d n v)):=by
       funext j;rw[co];unfold upF;have h1:(zt T1 (S1.sl s).id).isSome=true:=by rw[<-A7.out.dk,A4.out.dk];rfl
       by_cases hj:j=(S1.sl s).id
       ·rw[if_pos hj,if_pos ⟨hj,h1⟩]
       ·rw[if_neg hj,if_neg (λh=>hj h.1),A7.out.dk]
      have e8:xa (S1.sls.set s { S1.sls.getD s z6 with res:=some { r with dirty:=r.dirty } })=xa S1.sls/\zc0 (S1.sls.set s { S1.sls.getD s z6 with res:=some { r with dirty:=r.dirty } })=zc0 S1.sls:=by rw[setSame N3 A1.out];exact⟨rfl,rfl⟩
      rw[e8.1,e8.2] at C2;have K8:=zh (zdt (dirty:=r.dirty) C2 A1 I5 B2 A7.ks);rw[<-D3.out] at K8;have S8:Hid (upF A (S1.sl s).id (some (zj3 o1 n v))=zwy A o (↑n) v):=by unfold Hid;rw[A8.out,K9.out]
      rw[S8.out] at K8;have Q8:=zh (N2.hS hs A1);have Q9:=zh (Q5.trans ((LU.of_below (J:=J) (Zd (Below.refl _ w7))).trans Q7));have C3:=zh (zfl K8.out (λh=>absurd rfl h) (by simp));clear N3 N2 C2 B7 B2 I5 e8 Q7 E9 Q6 I4 Q5;go_wp2_with fail;refine⟨Q8,?_⟩;refine zo ?_;go_wp2_with fail;go_call C3 as e w9 ⟨rfl,R0,R1⟩;have S9:=zh R0;have T0:=zh (Q9.trans R1);clear R0 R1 C3 K8 Q9 Q8;go_wp2;go_ret;exact⟨T0.out,by rw[HE.out];rfl,_,_,by rw[HE.out,if_pos rfl];exact S9⟩
 ·have HE:Hid (ze0 A o i v=plE A o 1 i):=by unfold Hid ze0;rw[if_pos h0]
  have D1:=zh A5;have E5:=zh C9;have HZ:=zh h0;clear A5 C9 I6 I7 I8;obtain⟨c,hc⟩:=zx (plE A o 1 i);have T6:(c == 0)=false:=by rw[hc];simpa using h0
  have T7:(c != 0)=true:=by rw[hc];simpa using h0
  have T8:(c == 3)=false:=by rw[hc];simpa using N4.out
  rw[<-hc] at HE HZ ⊢;clear hc h0 N4 E3;go_wp2;go_ret;exact⟨E5.out,by rw[HE.out];rfl,S,T,by rw[HE.out,if_neg HZ.out];exact D1⟩
end
theorem z5i(x:Int)(h0:0<=x)(h1:x<65536):(BitVec.ofInt 64 x).toNat=x.toNat:=by rw[BitVec.toNat_ofInt];omega
theorem zto{n i:Nat}(hn:n<65536)(hi:16<=i):n.testBit i=false :=
 Nat.testBit_lt_two_pow (Nat.lt_of_lt_of_le (m:=2 ^ 16) (by omega) (Nat.pow_le_pow_right (by omega) hi))
theorem zvt(x:Int)(h0:0<=x)(h1:x<65536):bits .andNot .i64 x 255=x / 256*256:=by
 have h:∀n:Nat,n<65536->n &&& 18446744073709551360=n / 256*256:=λn hn=>by
  have e:n &&& 18446744073709551360=(n % 2 ^ 16) &&& 65280:=by
   have h2:(18446744073709551360:Nat)=281474976710655*2 ^ 16+65280:=by decide
   apply Nat.eq_of_testBit_eq;intro i;simp only[Nat.testBit_and,Nat.testBit_mod_two_pow];by_cases hi:i<16
   ·have:(18446744073709551360:Nat).testBit i=(65280:Nat).testBit i:=by
     have:∀i,i<16->(18446744073709551360:Nat).testBit i=(65280:Nat).testBit i:=by decide
     exact this i hi
    rw[this];simp[hi]
   ·have h3:n.testBit i=false:=zto hn (by omega);rw[h3];simp
  rw[e,Nat.mod_eq_of_lt (by omega)];have h4:n=n / 256*2 ^ 8+n % 256:=by omega
  have h5:n &&& 65280=n / 256*2 ^ 8:=by
   apply Nat.eq_of_testBit_eq;intro i;rw[Nat.testBit_and];by_cases hi:i<8
   ·have:(65280:Nat).testBit i=false:=by
     have:∀i,i<8->(65280:Nat).testBit i=false:=by decide
     exact this i hi
    rw[this,Nat.testBit_mul_two_pow];simp;omega
   ·by_cases hj:i<16
    ·have:(65280:Nat).testBit i=true:=by
      have:∀i,i<16->8<=i->(65280:Nat).testBit i=true:=by decide
      exact this i hj (by omega)
     rw[this,Nat.testBit_mul_two_pow]
     have e2:(n / 256).testBit (i-8)=n.testBit i:=by
      rw[show(256:Nat)=2 ^ 8 from rfl,Nat.testBit_div_two_pow];congr 1;omega
     rw[e2];simp;omega
    ·have h3:n.testBit i=false:=zto hn (by omega);rw[h3,Nat.testBit_mul_two_pow,show(256:Nat)=2 ^ 8 from rfl,Nat.testBit_div_two_pow,show i-8+8=i by omega,h3];simp
  rw[h5]
 have key:(BitVec.ofInt 64 x &&& ~~~ BitVec.ofInt 64 255).toNat=x.toNat / 256*256:=by
  rw[BitVec.toNat_and,z5i x h0 h1];have:(~~~ BitVec.ofInt 64 255).toNat=18446744073709551360:=by decide
  rw[this];exact h _ (by omega)
 show IntKind.i64.wrap ((BitVec.ofInt 64 x &&& ~~~ BitVec.ofInt 64 255).toNat:Nat)=x / 256*256
 rw[key,IntKind.wrap_i64];omega
theorem zvu(x:Int)(h0:0<=x)(h1:x<65536):bits .andNot .i64 x 65280=x % 256:=by
 have h:∀n:Nat,n<65536->n &&& 18446744073709486335=n % 256:=λn hn=>by
  have e:n &&& 18446744073709486335=n % 2 ^ 8:=by
   apply Nat.eq_of_testBit_eq;intro i;rw[Nat.testBit_and,Nat.testBit_mod_two_pow];by_cases hi:i<8
   ·have:(18446744073709486335:Nat).testBit i=true:=by
     have:∀i,i<8->(18446744073709486335:Nat).testBit i=true:=by decide
     exact this i hi
    rw[this];simp[hi]
   ·by_cases hj:i<16
    ·have:(18446744073709486335:Nat).testBit i=false:=by
      have:∀i,i<16->8<=i->(18446744073709486335:Nat).testBit i=false:=by decide
      exact this i hj (by omega)
     rw[this];simp[hi]
    ·rw[zto hn (by omega)];simp
  exact e
 have key:(BitVec.ofInt 64 x &&& ~~~ BitVec.ofInt 64 65280).toNat=x.toNat % 256:=by
  rw[BitVec.toNat_and,z5i x h0 h1];have:(~~~ BitVec.ofInt 64 65280).toNat=18446744073709486335:=by decide
  rw[this];exact h _ (by omega)
 show IntKind.i64.wrap ((BitVec.ofInt 64 x &&& ~~~ BitVec.ofInt 64 65280).toNat:Nat)=x % 256
 rw[key,IntKind.wrap_i64];omega
theorem z0y(c x:Int)(h0:0<=x)(h1:x<256)(h2:0<=c)(h3:c<256):bits .or .i64 c (x*256)=x*256+c:=by
 have ha:(BitVec.ofInt 64 (x*256)).toNat=x.toNat*2 ^ 8:=by rw[BitVec.toNat_ofInt];omega
 have hb:(BitVec.ofInt 64 c).toNat=c.toNat:=by rw[BitVec.toNat_ofInt];omega
 have key:(BitVec.ofInt 64 c ||| BitVec.ofInt 64 (x*256)).toNat=x.toNat*2 ^ 8+c.toNat:=by
  rw[BitVec.toNat_or,ha,hb,Nat.or_comm,zbs _ _ _ (by omega)]
 show IntKind.i64.wrap ((BitVec.ofInt 64 c ||| BitVec.ofInt 64 (x*256)).toNat:Nat)=x*256+c
 rw[key,IntKind.wrap_i64];omega
def zwg(o:Ob)(n:Nat)(v:Int):Ob:={ o with B:=o.B.set n v }
theorem zkk{o:Ob}(h:o.good){n:Nat}{v:Int}(hk:o.kind=2)(hv:0<=v/\v<=255):(zwg o n v).good:=by
 refine⟨⟨h.1.1,?_⟩,λx hx=>?_⟩
 ·rcases h.1.2 with⟨h1,_⟩|⟨h1,h2,h3⟩
  ·omega
  ·exact .inr ⟨h1,h2,by show(o.B.set n v).length<=1000;rw[List.length_set];exact h3⟩
 ·rcases List.mem_or_eq_of_mem_set hx with h5|h5
  ·exact h.2 x h5
  ·rw[h5];exact hv
def zyp(w:Int)(n:Nat)(v:Int):Int:=if n % 2=0 then v*256+w % 256 else w / 256*256+v
section
variable{S:Lm}{A:Nat->Option Ob}{K:Nat}{ex:List Int}{pe bl:Nat->Prop}
theorem qn.setByte(h:qn S A K ex pe bl){s:Nat}{r:Rs}{o d:Ob}{ws:List Int}(hr:(S.sl s).res=some r)(ok:zhj S A K (S.sl s) r o d ws)(hk:o.kind=2){n:Nat}(hn:n<o.B.length){v:Int}(hv:0<=v/\v<=255) :
 qn (Z0 S s r.hb (ws.set (n / 2) (zyp (ws.getD (n / 2) 0) n v)) true d) (upF A (S.sl s).id (some (zwg o n v))) K ex pe bl:=by
 have A0:=h.good _ _ ok.ob
 have A3:ws.length=(o.B.length+1) / 2:=by
  rw[ok.len];unfold nWd;rw[if_pos hk];rcases A0.kinds with⟨a,_⟩|⟨_,_,_,a⟩
  ·omega
  ·rw[a]
 have hj:n / 2<ws.length:=by omega
 have A4:0<=ws.getD (n / 2) 0/\ws.getD (n / 2) 0<=65535:=by
  rw[zg,ze hj];exact ok.rng _ (List.getElem_mem _)
 have hx:0<=zyp (ws.getD (n / 2) 0) n v/\zyp (ws.getD (n / 2) 0) n v<=65535:=by unfold zyp;split<;>omega
 refine h.change hr ok (zwg o n v) d _ true (zkk A0 hk hv) ok.cls ⟨rfl,ok.kind.1⟩ ⟨rfl,by show(o.B.set n v).length=_;rw[List.length_set],ok.size.1,ok.size.2.1⟩ (by rw[List.length_set]) (λw hw=>?_) (λh1=>by omega) (λh1=>by omega) (λ_ i hi=>?_) (λh1=>by cases h1) (λt ht=>by rw[if_neg (by omega),if_neg (by omega)]) h.exok
 ·rcases List.mem_or_eq_of_mem_set hw with h5|h5
  ·exact ok.rng w h5
  ·rw[h5];exact hx
 ·have hb:=ok.byte hk i hi;have A1:=ok.byte hk n hn;show _=(o.B.set n v).getD i 0
  rw[vq hn];unfold zrf at hb A1 ⊢;by_cases e:i / 2=n / 2
  ·rw[e,vq hj,if_pos rfl];rw[e] at hb;unfold zyp;by_cases e2:i=n
   ·subst e2;rw[if_pos rfl];by_cases h1:i % 2=0
    ·rw[if_pos h1,if_pos h1];omega
    ·rw[if_neg h1,if_neg h1];omega
   ·rw[if_neg e2,<-hb];by_cases h1:i % 2=0
    ·rw[if_pos h1,if_pos h1,if_neg (by omega)];omega
    ·rw[if_neg h1,if_neg h1,if_pos (by omega)];omega
  ·have A2:¬i=n:=λh=>e (by rw[h])
   rw[vq hj,if_neg e,if_neg A2,<-hb]
end
def vg(A:Nat->Option Ob)(o i v:Int):Int:=if plE A o 2 i≠0 then plE A o 2 i else if v<0\/255<v then 2 else 0
def zkl(A:Nat->Option Ob)(o i v:Int):Nat->Option Ob :=
 match qz A (Zz o) with
 | some ob=>upF A (Zz o).toNat (some (zwg ob i.toNat v))
 | none=>A
theorem zin{A:Nat->Option Ob}{o i v:Int}{k n:Nat}{ob:Ob}(h1:Zz o=k)(h2:A k=some ob)(h3:i=n):zkl A o i v=upF A k (some (zwg ob n v)):=by
 unfold zkl qz;rw[h1,h3,if_pos (by omega),Int.toNat_natCast,Int.toNat_natCast,h2]
section
variable{w:World}{J:LmI}{K NW N:Nat}{S:Lm}{A:Nat->Option Ob}{ex:List Int}{pe bl:Nat->Prop}{T:Tb}{made U:Nat}{F:Nat->Nat}{busy:Nat}
def z5l(w:World)(J:LmI)(K NW N:Nat)(A:Nat->Option Ob)(made U:Nat)(F:Nat->Nat)(o i v:Int)(e:Ending)(w':World):Prop :=
 LU J w w'/\e=.returned (.int .i64 (vg A o i v))/\∃S' T',Zh w' J K NW N S' (if vg A o i v=0 then zkl A o i v else A) [] (λ_=>False) (λ_=>False) T' made U F 0
theorem zq5(H:Zh w J K NW N S A [] (λ_=>False) (λ_=>False) T made U F 0)(hk:1<=K)(D9:1000<=NW)(o i v:Int)(b0:-9223372036854775808<=o)(b1:o<=9223372036854775807)(E0:-9223372036854775808<=i/\i<=9223372036854775807) :
 Calls prog 216 #[.pointer (some ⟨J.m,0,none⟩),.int .i64 o,.int .i64 i,.int .i64 v] w (z5l w J K NW N A made U F o i v):=by
 have B2:=zh (zo5 H hk D9 o 2 i b0 b1 E0);have hK:=H.ks;have ml:=H.P.head.lt;have C5:=zh (zn9 (A:=A) (o:=o) (kind:=2) (i:=i));clear H;go_enter func216,ntmps216;go_wp2_with fail;go_call B2 as e w1 (⟨h0,k,C6,A6,s,S1,T1,r,rfl,A0,A7,A2⟩|⟨h0,rfl,A0,A6⟩)
 ·by_cases hv:v<0\/255<v
  ·have HE:Hid (vg A o i v=2):=by unfold Hid vg;rw[if_neg (by omega),if_pos hv]
   have A8:=zh A0;have A9:=zh A6;clear A0 A6 A7 A2 h0 C6 B2;have E1:v<0\/(¬v<0/\v > 255):=by omega
   clear hv;rcases E1 with C7|⟨C7,E2⟩
   all_goals
    go_wp2;go_ret;exact⟨A9.out,by rw[HE.out];rfl,S1,T1,by rw[HE.out];exact A8⟩
  ·obtain⟨k',n,ob,g1,g2,g3,g4,g5,g6⟩:=zfa h0;obtain rfl:k=k':=by omega
   have HE:Hid (vg A o i v=0):=by unfold Hid vg;rw[if_neg (by omega),if_neg hv]
   have E3:=zh (zin (v:=v) g1 g2 g4);subst g4;have B4:=A0.inv.good _ _ g2
   have C8:ob.size=ob.B.length:=by
    rcases B4.kinds with⟨a,_⟩|⟨_,_,_,a⟩
    ·omega
    ·exact a
   obtain⟨o1,d,ws,ok⟩:=A0.inv.res s r A7;have E4:o1=ob:=by have:=ok.ob;rw[A2,g2] at this;cases this;rfl
   subst E4;have E5:ws.length=(o1.B.length+1) / 2:=by rw[ok.len];unfold nWd;rw[if_pos g3,C8]
   have E6:o1.B.length<=1000:=by have:=B4.size_le;omega
   obtain⟨B5,F4,hs⟩:=A0.inv.res_id A7;have B6:n / 2<ws.length:=by omega
   obtain⟨old,A3⟩:=zx (ws.getD (n / 2) 0)
   have B1:0<=old/\old<=65535:=by
    rw[A3,zg,ze B6];exact ok.rng _ (List.getElem_mem _)
   have B7:=A0.inv.setByte A7 ok g3 (n:=n) (by omega) (v:=v) (by omega);rw[<-A3,A2,<-E3.out] at B7;have C9:=zh B7;have A8:=zh A0;have A9:=zh A6;have A4:=zh A7;have B8:=zh ok;have ml1:=A0.P.head.lt;have D0:=zh (A0.hS A7);have B9:=zh (λz (hv:Below w1.heap.size w1 z)=>zed (A8.P.heap.below hv) B8.V (n / 2) B6);rw[<-A3,show((n / 2:Nat):Int)=(n:Int) / 2 by omega] at B9;have E7:¬v<0/\¬v > 255:=by omega
   obtain⟨C7,E2⟩:=E7;have E8:n<=1000:=by omega
   clear A0 A6 A7 A2 h0 C6 B2 g1 g2 g3 g5 g6 B4 C8 ok E5 B5 A3 ml B7 hv E6;go_wp2_with fail;refine zm (λz=>z.cell? ⟨J.m,1,none⟩=some (.pointer (some ⟨J.h,0,none⟩))/\z.cell? ⟨J.sl,s*3,none⟩=some (.pointer (some ⟨r.ad,0,none⟩))/\z.cell? ⟨r.ad,0,none⟩=some (.int .i64 r.hb)) (zp [0,1,2,3,4,5,6,7,8,9,10,11,12,1013,14,15,16,17,18]) (by kernel_rfl) (by kernel_rfl) (λ_ _ _ _ _ h=>h) (D0.out) ?_
   (repeat (refine zi rfl (λK hK=>?_);go_simp;(try go_bits);refine hK _ ?_;clear hK K))
   refine zl (.pointer (some ⟨J.h,0,none⟩)) rfl rfl (λx hS=>by obtain⟨s0,s1,s2⟩:=hS;go_simp) ?_
   (repeat (refine zi rfl (λK hK=>?_);go_simp;(try go_bits);refine hK _ ?_;clear hK K))
   refine zl (.pointer (some ⟨r.ad,0,none⟩)) rfl rfl (λx hS=>by obtain⟨s0,s1,s2⟩:=hS;go_simp) ?_
   (repeat (refine zi rfl (λK hK=>?_);go_simp;(try go_bits);refine hK _ ?_;clear hK K))
   refine zl (.int .i64 r.hb) rfl rfl (λx hS=>by obtain⟨s0,s1,s2⟩:=hS;go_simp) ?_
   (repeat (refine zi rfl (λK hK=>?_);go_simp;(try go_bits);refine hK _ ?_;clear hK K))
   refine zj rfl ?_;go_wp2_with fail;refine(B9 _ (Zd (Below.refl _ _))).mono ?_;rintro e w2 ⟨rfl,D1⟩;have C0:Below w1.heap.size w1 w2:=zy (Zd (Below.refl _ w1)) D1;have A5:=zh (A8.below C0);have D2:=zh (A9.trans (.of_below C0));clear D1 C0 B9 A8 A9 D0;go_wp2_with fail;refine⟨A5.hS A4,?_⟩
   (repeat (refine zi rfl (λK hK=>?_);go_simp;(try go_bits);refine hK _ ?_;clear hK K))
   refine zo ?_;have D3:=zh (A5.hS A4);have ml2:=A5.P.head.lt;rcases Nat.mod_two_eq_zero_or_one n with hp|hp
   case' inl =>
    have C1:(n:Int) % 2=0:=by omega
    have E9:(n:Int).tmod 2=0:=by rw[Int.tmod_eq_emod_of_nonneg (by omega)];exact C1
    obtain⟨x,hx⟩:=zx (zyp old n v);have B3:x=v*256+old % 256:=by rw[hx];unfold zyp;rw[if_pos hp]
    have F0:=zvu old B1.1 (by omega);have F1:bits .or .i64 (old % 256) (v*256)=x:=by rw[z0y _ _ (by omega) (by omega) (by omega) (by omega),B3]
    have C2:0<=x/\x<=65535:=by omega
   case' inr =>
    have C1:(n:Int) % 2=1:=by omega
    have E9:(n:Int).tmod 2=1:=by rw[Int.tmod_eq_emod_of_nonneg (by omega)];exact C1
    obtain⟨x,hx⟩:=zx (zyp old n v);have B3:x=old / 256*256+v:=by rw[hx];unfold zyp;rw[if_neg (by omega)]
    have F0:=zvt old B1.1 (by omega);have F1:bits .or .i64 (old / 256*256) v=x:=by rw[ztk _ _ (by omega) (by omega) (by omega) (by omega),B3]
    have C2:0<=x/\x<=65535:=by omega
   all_goals
    rw[<-hx] at C9;have C3:=zh (λz (hv:Below w2.heap.size w2 z)=>zfk (A5.P.below hv) B8.V B6 C2 z.heap.size rfl);rw[show((n / 2:Nat):Int)=(n:Int) / 2 by omega] at C3;clear hx B3 C2;go_wp2_with fail;refine zm (λz=>z.cell? ⟨J.m,1,none⟩=some (.pointer (some ⟨J.h,0,none⟩))/\z.cell? ⟨J.sl,s*3,none⟩=some (.pointer (some ⟨r.ad,0,none⟩))/\z.cell? ⟨r.ad,0,none⟩=some (.int .i64 r.hb)) (zp [0,1,2,3,4,5,6,7,8,9,10,11,12,13,14,15,16,17,18,19,20,1021,1022]) (by kernel_rfl) (by kernel_rfl) (λ_ _ _ _ _ h=>h) (D3.out) ?_
    (repeat (refine zi rfl (λK hK=>?_);go_simp;(try go_bits);refine hK _ ?_;clear hK K))
    refine zl (.pointer (some ⟨J.h,0,none⟩)) rfl rfl (λx hS=>by obtain⟨s0,s1,s2⟩:=hS;go_simp) ?_
    (repeat (refine zi rfl (λK hK=>?_);go_simp;(try go_bits);refine hK _ ?_;clear hK K))
    refine zl (.pointer (some ⟨r.ad,0,none⟩)) rfl rfl (λx hS=>by obtain⟨s0,s1,s2⟩:=hS;go_simp) ?_
    (repeat (refine zi rfl (λK hK=>?_);go_simp;(try go_bits);refine hK _ ?_;clear hK K))
    refine zl (.int .i64 r.hb) rfl rfl (λx hS=>by obtain⟨s0,s1,s2⟩:=hS;go_simp) ?_
    (repeat (refine zi rfl (λK hK=>?_);go_simp;(try go_bits);refine hK _ ?_;clear hK K))
    refine zj rfl ?_;go_wp2_with fail;refine⟨(A5.below (zn (Zd (Below.refl _ _)))).hS A4,?_⟩;refine zj rfl ?_;go_wp2_with fail;refine(C3 _ (Zd (Below.refl _ _))).mono ?_;rintro e w3 ⟨rfl,D4,D5⟩;have B0:=zh D4;have D6:=zh (D2.trans ((LU.of_below (J:=J) (Zd (Below.refl _ w2))).trans D5));clear D4 D5 C3 D3 D2;go_wp2_with fail;refine⟨B0.hS hs A4,?_⟩;refine zo ?_;obtain⟨-,y0,-⟩:=B0.hS hs A4;have yl:=B0.out.slots.lt;obtain⟨D7,A1⟩:=B0.resid s r A4;have z3:=A1.cell (i:=3) rfl;have zf:=A1.free 3;have zl:=A1.lt;have C4:Upd [r.ad] w3 (w3.setCell ⟨r.ad,3,none⟩ (.bool true)):=(Upd.refl _ _).setCell (by simp) _;have D8:=B0.out.res' (r':={ r with dirty:=true }) (w':=w3.setCell ⟨r.ad,3,none⟩ (.bool true)) (by omega) A4.out rfl (λt q hq he=>A5.out.inv.ads t s q r hq A4.out he) C4 (A1.set 3 _);have F2:=zh (zdt (d':=d) D8 A4.out (by rw[zkc B8.out.dk];exact A5.dk) C9 A5.ks);have F3:=zh (D6.out.trans (.of_upd C4 (λk hk=>by simp at hk;subst hk;exact .inr ⟨D7,_,_,A1,.inr rfl⟩)));clear D7 A1 C4 D8 B0 D6;go_wp2;go_ret;exact⟨F3.out,by rw[HE.out];rfl,_,T1,by rw[HE.out,if_pos rfl];exact F2⟩
 ·have HE:Hid (vg A o i v=plE A o 2 i):=by unfold Hid vg;rw[if_pos h0]
  have A8:=zh A0;have A9:=zh A6;have HZ:=zh h0;clear A0 A6 B2;obtain⟨c,hc⟩:=zx (plE A o 2 i);have F5:(c == 0)=false:=by rw[hc];simpa using h0
  have F6:(c != 0)=true:=by rw[hc];simpa using h0
  have F7:(c == 3)=false:=by rw[hc];simpa using C5.out
  rw[<-hc] at HE HZ ⊢;clear hc h0 C5;go_wp2;go_ret;exact⟨A9.out,by rw[HE.out];rfl,S,T,by rw[HE.out,if_neg HZ.out];exact A8⟩
end
end Go.Proofs.YtoeibiahbenpcaaGreatDoor
