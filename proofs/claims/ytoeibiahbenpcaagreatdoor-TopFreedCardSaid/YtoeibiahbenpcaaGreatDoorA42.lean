/- Part. -/
import Derived.Test.YtoeibiahbenpcaaGreatDoorA41
namespace Go.Proofs.YtoeibiahbenpcaaGreatDoor
open RowKit Maps Proofs.Tryz
set_option linter.unusedVariables false
set_option maxRecDepth 99999
set_option maxHeartbeats 9000000
theorem LU.belowA{J:LmI}{w w':World}(u:LU J w w'){B:Nat}(hf:∀k∈J.fix,B<=k)(hb:B<=J.B)(hs:B<=w.heap.size):Below B w w' :=
 ⟨u.os,u.tape,u.output,u.size,λk hk=>u.block k (by omega) (λhm=>by have:=hf k hm;omega) (.inl (by omega))⟩
structure LdL(wA w0:World)(J:LmI)(K NW N:Nat)(w:World)(A:Nat->Option Ob)(made U:Nat):Prop where
 mem:∃S T F,Zh w J K NW N S A [] (λ_=>False) (λ_=>False) T made U F 0
 upd:LU J w0 w
 args:Below wA.heap.size wA w
 lo:(∀k∈J.fix,wA.heap.size<=k)/\wA.heap.size<=J.B
 ks:1<=K/\1000<=NW
structure LdM(wA w0:World)(J:LmI)(K NW N:Nat)(w:World)(A:Nat->Option Ob)(made U q:Nat)(d:Za):Prop where
 ld:LdL wA w0 J K NW N w A made U
 row:Row w q 28 (kq d)
 out:q∉J.fix
section
variable{wA w0 w w':World}{J:LmI}{K NW N made U:Nat}{A:Nat->Option Ob}
theorem LdL.below(h:LdL wA w0 J K NW N w A made U)(hb:Below w.heap.size w w'):LdL wA w0 J K NW N w' A made U:=by
 obtain⟨S,T,F,h1⟩:=h.mem;exact⟨⟨S,T,F,h1.below hb⟩,h.upd.trans (.of_below hb),h.args.trans (hb.mono h.args.size),h.lo,h.ks⟩
theorem LdL.withRow(h:LdL wA w0 J K NW N w A made U)(d:Za){W:World}(hW:W=w.alloc (.cells #[.int .i64 d.cls,.int .i64 d.kind,.slice d.wa d.wn d.wc,.slice d.ba d.bn d.bc] 28)):LdM wA w0 J K NW N W A made U w.heap.size d:=by
 have b2:Below w.heap.size w W:=by rw[hW];exact zn (Below.refl _ _)
 obtain⟨S,T,F,h1⟩:=h.mem;exact⟨h.below b2,by rw[hW];exact Row.made w _ _,λhm=>by have:=h1.fixlt _ hm;omega⟩
theorem LdM.below{q:Nat}{d:Za}(h:LdM wA w0 J K NW N w A made U q d)(hb:Below w.heap.size w w'):LdM wA w0 J K NW N w' A made U q d :=
 ⟨h.ld.below hb,h.row.keep (l:=[]) (.of_below hb) (by simp),h.out⟩
theorem LdM.step{q:Nat}{d:Za}(H:LdM wA w0 J K NW N w A made U q d){A':Nat->Option Ob}{made' U':Nat}(u:LU J w w')(hm:∃S T F,Zh w' J K NW N S A' [] (λ_=>False) (λ_=>False) T made' U' F 0):LdM wA w0 J K NW N w' A' made' U' q d :=
 ⟨⟨hm,H.ld.upd.trans u,H.ld.args.trans (u.belowA H.ld.lo.1 H.ld.lo.2 H.ld.args.size),H.ld.lo,H.ld.ks⟩,u.row H.row H.out (by decide),H.out⟩
theorem z0o(H:LdL wA w0 J K NW N w A made U):Calls prog 8 #[.pointer (some ⟨J.m,0,none⟩)] w λe w'=>e=.returned (.int .i64 made)/\w=w':=by
 obtain⟨S,T,F,h1⟩:=H.mem;exact zu3 h1
def zpk(wA w0:World)(J:LmI)(K NW N:Nat)(A:Nat->Option Ob)(made U:Nat)(v:Value)(e:Ending)(w':World):Prop:=e=.returned v/\LdL wA w0 J K NW N w' A made U
def zv6(wA w0:World)(J:LmI)(K NW N:Nat)(A:Nat->Option Ob)(made U q:Nat)(d:Za)(v:Value)(e:Ending)(w':World):Prop:=e=.returned v/\LdM wA w0 J K NW N w' A made U q d
theorem z3v{q:Nat}{d:Za}(H:LdM wA w0 J K NW N w A made U q d)(cls kind:Int)(n:Nat)(hc:yb cls=true)(hk:kind=1\/kind=2)(hn:n<=1000)(hm:made+1<=100000)(hU:U+obN (Z9 cls kind n)<=N) :
 Calls prog 214 #[.pointer (some ⟨J.m,0,none⟩),.int .i64 cls,.int .i64 kind,.int .i64 n] w (zv6 wA w0 J K NW N (upF A (made+1) (some (Z9 cls kind n))) (made+1) (U+obN (Z9 cls kind n)) q d (.tuple #[.int .i64 (2*((made:Int)+1)),.int .i64 0])):=by
 obtain⟨S,T,F,h1⟩:=H.ld.mem;refine(zu1 h1 cls kind n hc hk hn (by omega) hU).mono ?_;rintro e w2 ⟨hu,rfl,S',T',f,h2⟩;exact⟨rfl,H.step hu ⟨S',T',_,h2⟩⟩
theorem z3u{q:Nat}{d:Za}(H:LdM wA w0 J K NW N w A made U q d)(o i v:Int)(b0:-9223372036854775808<=o)(b1:o<=9223372036854775807)(A0:-9223372036854775808<=i/\i<=9223372036854775807)(v0:-9223372036854775808<=v)(v1:v<=9223372036854775807) :
 Calls prog 9 #[.pointer (some ⟨J.m,0,none⟩),.int .i64 o,.int .i64 i,.int .i64 v] w (zv6 wA w0 J K NW N (ifA (ze0 A o i v) (zwy A o i v) A) made U q d (.int .i64 (ze0 A o i v))):=by
 obtain⟨S,T,F,h1⟩:=H.ld.mem;refine(zzk h1 H.ld.ks.1 H.ld.ks.2 o i v b0 b1 A0 v0 v1).mono ?_;rintro e w2 ⟨hu,rfl,S',T',h2⟩;exact⟨rfl,H.step hu ⟨S',T',_,h2⟩⟩
theorem zqd{q:Nat}{d:Za}(H:LdM wA w0 J K NW N w A made U q d)(o i v:Int)(b0:-9223372036854775808<=o)(b1:o<=9223372036854775807)(A0:-9223372036854775808<=i/\i<=9223372036854775807) :
 Calls prog 216 #[.pointer (some ⟨J.m,0,none⟩),.int .i64 o,.int .i64 i,.int .i64 v] w (zv6 wA w0 J K NW N (ifA (vg A o i v) (zkl A o i v) A) made U q d (.int .i64 (vg A o i v))):=by
 obtain⟨S,T,F,h1⟩:=H.ld.mem;refine(zq5 h1 H.ld.ks.1 H.ld.ks.2 o i v b0 b1 A0).mono ?_;rintro e w2 ⟨hu,rfl,S',T',h2⟩;exact⟨rfl,H.step hu ⟨S',T',_,h2⟩⟩
theorem z0p(H:LdL wA w0 J K NW N w (λ_=>none) 0 0)(a:Option Addr)(n c:Nat)(l:List Za)(HA:yf wA a n c l)(hn:n<=100000)(hU:Z5 l l.length<=N) :
 Calls prog 28 #[.iface 30 (.pointer (some ⟨J.m,0,none⟩)),.slice a n c] w λe w'=>(zg8 l=true/\zpk wA w0 J K NW N (λ_=>none) 0 0 (.int .i64 2) e w')\/(zg8 l=false/\zpk wA w0 J K NW N (zay l n) n (Z5 l n) (.int .i64 0) e w'):=by
 have C0:=zh (zg3 a n c l w (HA.below H.args) (by omega));have D1:=zh (z0o H);have HH:=zh H;have E5:=zh HA;have E6:=HA.len;have F6:=zh E6;clear H HA E6;go_enter func28,ntmps28;cases B6:zg8 l with
 | true =>
  rw[B6] at C0;clear B6
  go_wp2_with (first
   | (go_at_call 8;go_call D1 as e w' ⟨rfl,rfl⟩)
   | (go_at_call 75;go_call C0 as e w1 ⟨rfl,C7⟩))
  go_ret;exact⟨rfl,HH.below C7⟩
 | false =>
  rw[B6] at C0;have F7:=zh (zb4.1 B6);clear B6
  go_wp2_with (first
   | (go_at_call 8;go_call D1 as e w' ⟨rfl,rfl⟩)
   | (go_at_call 75;go_call C0 as e w1 ⟨rfl,C7⟩))
  have E7:=zh (HH.below C7);clear C7 C0 D1 HH;go_loopw [20] (λi wr=>∃k:Nat,k<=n/\i=.int .i64 k/\Hid (LdL wA w0 J K NW N wr (zay l k) k (Z5 l k))) (λi _=>n-(intOf i).toNat)
  case atStart=>exact⟨0,Nat.zero_le _,rfl,by rw[zkf];exact E7⟩
  case round =>
   obtain⟨k,hk,rfl,HL⟩:=hrel;clear E7;by_cases D2:k<n
   ·have E8:k<l.length:=by rw[<-F6.out];exact D2
    obtain⟨b,off,rfl,B6,D3,A3,A8⟩:=(E5.below HL.args).get D2;have D4:=zht E8;have D5:=zkg l k;have E9:=zog (l:=l) (k:=k+1) (by omega);obtain⟨d,hd⟩:=zx (l.getD k Za.nothing);rw[<-hd] at D3 A3 A8 D4 D5;have F0:=F7 d A3;unfold kq at A8;have x0:=A8 0 _ rfl;have x1:=A8 1 _ rfl;have x2:=A8 2 _ rfl;have x3:=A8 3 _ rfl;rw[Nat.add_zero] at x0;obtain⟨q,hq⟩:=zx (wr.heap.size);obtain⟨W2,C8⟩:=zx (wr.alloc (.cells #[.int .i64 d.cls,.int .i64 d.kind,.slice d.wa d.wn d.wc,.slice d.ba d.bn d.bc] 28));have D6:=HL.withRow d C8;rw[<-hq] at D6;have D7:=zh D6;have A2:=zh (D3.below (show Below wr.heap.size wr W2 by rw[C8];exact zn (Below.refl _ _)));have A4:=zh (E5.ok d A3);have A7:=zh F0;have F1:=zh D4;have F8:=zh D5;have F9:=zh E9;have G0:=zh C8;have G1:(k:Int)<(n:Int):=by omega
    clear A8 hd D3 A3 F0 D4 D5 E9 E8 D6 C8 HL;go_wp2_with fail;rw[<-G0.out,<-hq];clear hq x0 x1 x2 x3;have B7:=D7.out.row;unfold kq at B7;have HS:Hid (W2.cell? ⟨q,0,none⟩=some (.int .i64 d.cls)/\W2.cell? ⟨q,1,none⟩=some (.int .i64 d.kind)/\W2.cell? ⟨q,2,none⟩=some (.slice d.wa d.wn d.wc)/\W2.cell? ⟨q,3,none⟩=some (.slice d.ba d.bn d.bc)):=⟨B7.cell (i:=0) rfl,B7.cell (i:=1) rfl,B7.cell (i:=2) rfl,B7.cell (i:=3) rfl⟩;have C9:=zh (λW=>zcu d W);unfold Za.val at C9;obtain⟨S0,C1⟩:∃S0:Nat,S0=kt d.kind d.W d.B:=⟨_,rfl⟩
    have F2:(if d.kind=1 then d.wn else if d.kind=2 then d.bn else 0)=S0:=by
     rw[C1];unfold kt;rw[A2.out.wl,A2.out.bl]
    rw[F2] at C9
    have G2:S0<=1000:=by
     rw[C1];unfold kt;rcases A7.out.2 with⟨h1,_,h2,_⟩|⟨h1,_,h2⟩
     ·rw[if_pos h1];exact h2
     ·rw[if_neg (by omega),if_pos h1];exact h2
    have F3:zix d=obN (Z9 d.cls d.kind S0):=by unfold zix;rw[C1]
    have D8:d.wn<=1000/\d.bn<=1000:=by
     rw[A2.out.wl,A2.out.bl];rcases A7.out.2 with⟨_,h1,h2,_⟩|⟨_,h1,h2⟩<;>rw[h1]<;>simp<;>omega
    have G3:=D8.1;have G4:=D8.2;have F4:d.kind=1\/d.kind=2:=A7.out.2.imp (λh=>h.1) (λh=>h.1);have D0:=zh (λw3 (h:LdM wA w0 J K NW N w3 (zay l k) k (Z5 l k) q d)=>z3v h d.cls d.kind S0 A7.out.1 F4 G2 (by omega) (by have h1:=F1.out;have h2:=F9.out;omega));rw[<-F3] at D0;rw[<-F1.out] at D0;have G5:=zh C1;clear B7 F2 F3 F4 C1 D8;refine zm (λz=>z.cell? ⟨q,0,none⟩=some (.int .i64 d.cls)/\z.cell? ⟨q,1,none⟩=some (.int .i64 d.kind)/\z.cell? ⟨q,2,none⟩=some (.slice d.wa d.wn d.wc)/\z.cell? ⟨q,3,none⟩=some (.slice d.ba d.bn d.bc)) (zp [0,1,2,3,4,5,7,8,9,1006,1010,11,12,13,14,15]) (by kernel_rfl) (by kernel_rfl) (λ_ _ _ _ _ h=>h) (HS.out) ?_
    (repeat (refine zi rfl (λK hK=>?_);go_simp;(try go_bits);refine hK _ ?_;clear hK K))
    refine zl (.int .i64 d.cls) rfl rfl (λx hS=>by obtain⟨s0,s1,s2,s3⟩:=hS;go_simp) ?_
    (repeat (refine zi rfl (λK hK=>?_);go_simp;(try go_bits);refine hK _ ?_;clear hK K))
    refine zl (.int .i64 d.kind) rfl rfl (λx hS=>by obtain⟨s0,s1,s2,s3⟩:=hS;go_simp) ?_
    (repeat (refine zi rfl (λK hK=>?_);go_simp;(try go_bits);refine hK _ ?_;clear hK K))
    refine zl (.agg #[.int .i64 d.cls,.int .i64 d.kind,.slice d.wa d.wn d.wc,.slice d.ba d.bn d.bc]) rfl rfl (λx hS=>by obtain⟨s0,s1,s2,s3⟩:=hS;go_simp) ?_
    (repeat (refine zi rfl (λK hK=>?_);go_simp;(try go_bits);refine hK _ ?_;clear hK K))
    refine zl (.func (.method "New") #[.iface 30 (.pointer (some ⟨J.m,0,none⟩))] #[]) rfl rfl (λx hS=>by kernel_rfl) ?_
    (repeat (refine zi rfl (λK hK=>?_);go_simp;(try go_bits);refine hK _ ?_;clear hK K))
    refine zj rfl ?_;go_wp2_with fail;refine(C9 _).mono ?_;rintro e w3 ⟨rfl,D9⟩;have A9:=zh ((D7.below (Zd (Below.refl _ _))).below D9);have G6:=zh (zy (Zd (Below.refl W2.heap.size W2)) D9);clear D9 C9 D7 HS;go_wp2_with fail;have B8:=A9.out.row;unfold kq at B8;refine⟨⟨B8.cell (i:=0) rfl,B8.cell (i:=1) rfl,B8.cell (i:=2) rfl,B8.cell (i:=3) rfl⟩,?_⟩;clear B8;refine zj rfl ?_;go_wp2_with fail;refine(D0 _ A9).mono ?_;rintro e w4 ⟨rfl,E0⟩;have G7:=zh E0
    have E1:Hid (LdM wA w0 J K NW N w4 (upF (zay l k) (k+1) (some (PA d 0 0))) (k+1) (Z5 l (k+1)) q d):=by
     have h1:=zv1 A7;rw[<-G5.out] at h1;unfold Hid;rw[<-h1];exact E0
    clear E0 A9 G6 D0 G7;go_wp2_with fail;have B9:=E1.out.row;unfold kq at B9;refine⟨⟨B9.cell (i:=0) rfl,B9.cell (i:=1) rfl,B9.cell (i:=2) rfl,B9.cell (i:=3) rfl⟩,?_⟩;clear B9
    (repeat (refine zi rfl (λK hK=>?_);go_simp;(try go_bits);refine hK _ ?_;clear hK K))
    refine zo ?_;go_wp2;go_loopw [8,9] (λe i wq=>∃j:Nat,j<=d.wn/\e=.int .i64 0/\i=.int .i64 j/\Hid (LdM wA w0 J K NW N wq (upF (zay l k) (k+1) (some (PA d j 0))) (k+1) (Z5 l (k+1)) q d)) (λ_ i _=>d.wn-(intOf i).toNat)
    case atStart=>exact⟨0,Nat.zero_le _,rfl,rfl,E1⟩
    case round =>
     obtain⟨j,hj,rfl,rfl,HQ⟩:=hrel;clear E1;have A0:=HQ.out.row;unfold kq at A0;have y2:=A0.cell (i:=2) rfl;have yl:=A0.lt;by_cases B0:j<d.wn
     ·have E2:(j:Int)<(d.wn:Int):=by omega
      have B1:j<d.W.length:=by have:=A2.out.wl;omega
      obtain⟨g1,g2,g3⟩:=zv2 (A:=zay l k) A7.out (k:=k) (by omega) B1;have A5:=zd7 g1;obtain⟨x,hx⟩:=zx (d.W.getD j 0);rw[<-hx] at g1 g2 g3 A5;have B2:=zh (λw3 (h:LdM wA w0 J K NW N w3 (upF (zay l k) (k+1) (some (PA d j 0))) (k+1) (Z5 l (k+1)) q d)=>z3u h (2*((k:Int)+1)) j x (by omega) (by omega) (by omega) A5.1 A5.2);rw[g2,zqi rfl,g3] at B2;have HX:=zh hx;have A6:=zh B1;clear g1 g2 g3 A5 hx B1;obtain⟨bw,ow,B3,E3,C2⟩:=(A4.out.below HQ.out.ld.args).wr.at (by simp;exact Nat.lt_of_le_of_lt (Nat.zero_le _) A6);have C3:=C2 j (.int .i64 x) (by rw[HX.out];exact zr A6);rw[B3] at y2;have HS:Hid (wr.cell? ⟨q,2,none⟩=some (.slice (some ⟨bw,ow,none⟩) d.wn d.wc)/\wr.cell? ⟨bw,ow+j,none⟩=some (.int .i64 x)):=⟨y2,C3⟩;have C4:=zh B3
      have C5:Hid (∀w3,LdM wA w0 J K NW N w3 (upF (zay l k) (k+1) (some (PA d (j+1) 0))) (k+1) (Z5 l (k+1)) q d->w3.cell? ⟨q,2,none⟩=some (.slice (some ⟨bw,ow,none⟩) d.wn d.wc)/\w3.cell? ⟨bw,ow+j,none⟩=some (.int .i64 x)):=λw3 h=>by
       have h1:=h.row;unfold kq at h1;have h2:=h1.cell (i:=2) rfl;rw[C4.out] at h2;obtain⟨bw2,ow2,A1,_,B4⟩:=(A4.out.below h.ld.args).wr.at (by simp;exact Nat.lt_of_le_of_lt (Nat.zero_le _) A6);rw[C4.out] at A1;cases A1
       exact⟨h2,B4 j _ (by rw[HX.out];exact zr A6)⟩
      have C6:=zh (HQ.below (Zd (Below.refl wr.heap.size wr)));clear B3 C2 A0 HQ;go_wp2_with fail;clear y2 C3 E3 yl;refine zm (λz=>z.cell? ⟨q,2,none⟩=some (.slice (some ⟨bw,ow,none⟩) d.wn d.wc)/\z.cell? ⟨bw,ow+j,none⟩=some (.int .i64 x)) (zp [0,1,2,3,4,5,6,7,8,9,10,1011,12]) (by kernel_rfl) (by kernel_rfl) (λ_ _ _ _ _ h=>h) (HS.out) ?_
      (repeat (refine zi rfl (λK hK=>?_);go_simp;(try go_bits);refine hK _ ?_;clear hK K))
      refine zl (.slice (some ⟨bw,ow,none⟩) d.wn d.wc) rfl rfl (λx hS=>by obtain⟨s0,s1⟩:=hS;go_simp) ?_
      (repeat (refine zi rfl (λK hK=>?_);go_simp;(try go_bits);refine hK _ ?_;clear hK K))
      refine zl (.int .i64 x) rfl rfl (λx hS=>by obtain⟨s0,s1⟩:=hS;go_simp) ?_
      (repeat (refine zi rfl (λK hK=>?_);go_simp;(try go_bits);refine hK _ ?_;clear hK K))
      refine zl (.func (.method "Set") #[.iface 30 (.pointer (some ⟨J.m,0,none⟩))] #[]) rfl rfl (λx hS=>by kernel_rfl) ?_
      (repeat (refine zi rfl (λK hK=>?_);go_simp;(try go_bits);refine hK _ ?_;clear hK K))
      refine zj rfl ?_;go_wp2_with fail;refine(B2 _ C6).mono ?_;rintro e w3 ⟨rfl,B5⟩;have E4:=zh (C5 w3 B5);have A9:=zh B5;clear B5 C6 B2 C5 HS;go_wp2_with fail;refine⟨E4,?_⟩
      (repeat (refine zi rfl (λK hK=>?_);go_simp;(try go_bits);refine hK _ ?_;clear hK K))
      refine zo ?_;go_wp2;go_roundw
      case rel=>exact⟨j+1,by omega,rfl,by go_num,A9.out⟩
      case measure=>simp[intOf];omega
     ·obtain rfl:j=d.wn:=by omega
      have F5:=zh HQ;clear B0 A0 HQ;go_wp2;clear y2 yl;go_loopw [8,10] (λe i wq=>∃j:Nat,j<=d.bn/\e=.int .i64 0/\i=.int .i64 j/\Hid (LdM wA w0 J K NW N wq (upF (zay l k) (k+1) (some (PA d d.W.length j))) (k+1) (Z5 l (k+1)) q d)) (λ_ i _=>d.bn-(intOf i).toNat)
      case atStart =>
       refine⟨0,Nat.zero_le _,rfl,rfl,?_⟩;have h1:=A2.out.wl;unfold Hid;rw[<-h1];have h2:PA d d.wn 0=PA d d.wn 0:=rfl;exact F5
      case round =>
       obtain⟨j,hj,rfl,rfl,HQ⟩:=hrel;clear F5;have A0:=HQ.out.row;unfold kq at A0;have y2:=A0.cell (i:=3) rfl;have yl:=A0.lt;by_cases B0:j<d.bn
       ·have E2:(j:Int)<(d.bn:Int):=by omega
        have B1:j<d.B.length:=by have:=A2.out.bl;omega
        obtain⟨g2,g3⟩:=zv3 (A:=zay l k) A7.out A2.out.bb (k:=k) (j:=d.W.length) (by omega) B1;have A5:=zah A2.bb j;obtain⟨x,hx⟩:=zx (d.B.getD j 0);rw[<-hx] at g2 g3 A5;have B2:=zh (λw3 (h:LdM wA w0 J K NW N w3 (upF (zay l k) (k+1) (some (PA d d.W.length j))) (k+1) (Z5 l (k+1)) q d)=>zqd h (2*((k:Int)+1)) j x (by omega) (by omega) (by omega));rw[g2,zqi rfl,g3] at B2;have HX:=zh hx;have A6:=zh B1;have G9:=A5.1;have I0:=A5.2;clear g2 g3 A5 hx B1;obtain⟨bw,ow,B3,E3,C2⟩:=(A4.out.below HQ.out.ld.args).br.at (by simp;exact Nat.lt_of_le_of_lt (Nat.zero_le _) A6);have C3:=C2 j (.int .u8 x) (by rw[HX.out];exact zr A6);rw[B3] at y2;have HS:Hid (wr.cell? ⟨q,3,none⟩=some (.slice (some ⟨bw,ow,none⟩) d.bn d.bc)/\wr.cell? ⟨bw,ow+j,none⟩=some (.int .u8 x)):=⟨y2,C3⟩;have C4:=zh B3
        have C5:Hid (∀w3,LdM wA w0 J K NW N w3 (upF (zay l k) (k+1) (some (PA d d.W.length (j+1)))) (k+1) (Z5 l (k+1)) q d->w3.cell? ⟨q,3,none⟩=some (.slice (some ⟨bw,ow,none⟩) d.bn d.bc)/\w3.cell? ⟨bw,ow+j,none⟩=some (.int .u8 x)):=λw3 h=>by
         have h1:=h.row;unfold kq at h1;have h2:=h1.cell (i:=3) rfl;rw[C4.out] at h2;obtain⟨bw2,ow2,A1,_,B4⟩:=(A4.out.below h.ld.args).br.at (by simp;exact Nat.lt_of_le_of_lt (Nat.zero_le _) A6);rw[C4.out] at A1;cases A1
         exact⟨h2,B4 j _ (by rw[HX.out];exact zr A6)⟩
        have C6:=zh (HQ.below (Zd (Below.refl wr.heap.size wr)));clear B3 C2 A0 HQ;go_wp2_with fail;clear y2 C3 E3 yl;refine zm (λz=>z.cell? ⟨q,3,none⟩=some (.slice (some ⟨bw,ow,none⟩) d.bn d.bc)/\z.cell? ⟨bw,ow+j,none⟩=some (.int .u8 x)) (zp [0,1,2,3,4,5,6,7,8,9,10,11,1012,13]) (by kernel_rfl) (by kernel_rfl) (λ_ _ _ _ _ h=>h) (HS.out) ?_
        (repeat (refine zi rfl (λK hK=>?_);go_simp;(try go_bits);refine hK _ ?_;clear hK K))
        refine zl (.slice (some ⟨bw,ow,none⟩) d.bn d.bc) rfl rfl (λx hS=>by obtain⟨s0,s1⟩:=hS;go_simp) ?_
        (repeat (refine zi rfl (λK hK=>?_);go_simp;(try go_bits);refine hK _ ?_;clear hK K))
        refine zl (.int .u8 x) rfl rfl (λx hS=>by obtain⟨s0,s1⟩:=hS;go_simp) ?_
        (repeat (refine zi rfl (λK hK=>?_);go_simp;(try go_bits);refine hK _ ?_;clear hK K))
        refine zl (.func (.method "SetByte") #[.iface 30 (.pointer (some ⟨J.m,0,none⟩))] #[]) rfl rfl (λx hS=>by kernel_rfl) ?_
        (repeat (refine zi rfl (λK hK=>?_);go_simp;(try go_bits);refine hK _ ?_;clear hK K))
        refine zj rfl ?_;go_wp2_with fail;refine(B2 _ C6).mono ?_;rintro e w3 ⟨rfl,B5⟩;have E4:=zh (C5 w3 B5);have A9:=zh B5;clear B5 C6 B2 C5 HS;go_wp2_with fail;refine⟨E4,?_⟩
        (repeat (refine zi rfl (λK hK=>?_);go_simp;(try go_bits);refine hK _ ?_;clear hK K))
        refine zo ?_;go_wp2;go_roundw
        case rel=>exact⟨j+1,by omega,rfl,by go_num,A9.out⟩
        case measure=>simp[intOf];omega
       ·obtain rfl:j=d.bn:=by omega
        have G8:Hid (LdL wA w0 J K NW N wr (zay l (k+1)) (k+1) (Z5 l (k+1))):=by
         have h1:=zzo A7;have h2:=A2.out.bl;rw[<-h2] at h1;have h3:=HQ.out.ld;rw[h1,<-F8.out] at h3;exact h3
        clear B0 A0 HQ;go_wp2;go_roundw
        case rel=>exact⟨k+1,by omega,by go_num,G8.out⟩
        case measure=>simp[intOf];omega
   ·obtain rfl:k=n:=by omega
    clear D2;go_wp2;go_ret;exact⟨rfl,HL⟩
end
end Go.Proofs.YtoeibiahbenpcaaGreatDoor
