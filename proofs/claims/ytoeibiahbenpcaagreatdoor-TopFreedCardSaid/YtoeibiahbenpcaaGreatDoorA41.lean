/- Part. -/
import Derived.Test.YtoeibiahbenpcaaGreatDoorA40
namespace Go.Proofs.YtoeibiahbenpcaaGreatDoor
open RowKit Maps Proofs.Tryz
set_option linter.unusedVariables false
set_option maxRecDepth 99999
set_option maxHeartbeats 9000000
def z0h(d:Za):Ob:=⟨d.cls,d.kind,d.W,d.B⟩
def zay(l:List Za)(k:Nat):Nat->Option Ob:=λi=>if 1<=i/\i<=k then some (z0h (l.getD (i-1) Za.nothing)) else none
theorem zkf(l:List Za):zay l 0=λ_=>none:=by
 funext i;unfold zay;rw[if_neg (by omega)]
theorem zkg(l:List Za)(k:Nat):zay l (k+1)=upF (zay l k) (k+1) (some (z0h (l.getD k Za.nothing))):=by
 funext i;unfold upF;by_cases h:i=k+1
 ·subst h;rw[if_pos rfl];unfold zay;rw[if_pos (by omega)];rfl
 ·rw[if_neg h];unfold zay;by_cases h2:1<=i/\i<=k
  ·rw[if_pos h2,if_pos (by omega)]
  ·rw[if_neg h2,if_neg (by omega)]
theorem zru{α:Type}(f:Nat->α)(k:Nat)(u v:α):upF (upF f k u) k v=upF f k v:=by
 funext i;unfold upF;by_cases h:i=k<;>simp[h]
def za8(d:Za)(j:Nat):Ob:=⟨d.cls,1,d.W.take j++List.replicate (d.W.length-j) 2,[]⟩
def za9(d:Za)(j:Nat):Ob:=⟨d.cls,2,[],d.B.take j++List.replicate (d.B.length-j) 0⟩
theorem zp6{d:Za}(h:d.kind=1):Z9 d.cls d.kind d.W.length=za8 d 0:=by
 unfold Z9 za8;rw[if_pos h];simp
theorem zp8{d:Za}(h:d.kind=2):Z9 d.cls d.kind d.B.length=za9 d 0:=by
 unfold Z9 za9;rw[if_neg (by omega)];simp
theorem zst{d:Za}(h:d.kind=1)(hb:d.B=[]):za8 d d.W.length=z0h d:=by
 unfold za8 z0h;rw[h,hb];simp
theorem zsv{d:Za}(h:d.kind=2)(hw:d.W=[]):za9 d d.B.length=z0h d:=by
 unfold za9 z0h;rw[h,hw];simp
theorem zoa{l:List Int}{j:Nat}(z:Int)(hj:j<l.length):(l.take j++List.replicate (l.length-j) z).set j (l.getD j 0)=l.take (j+1)++List.replicate (l.length-(j+1)) z:=by
 have hl:(l.take j).length=j:=by rw[List.length_take];omega
 rw[List.set_append_right _ _ (by omega),hl,Nat.sub_self];rw[show l.length-j=(l.length-(j+1))+1 by omega,List.replicate_succ,List.set_cons_zero]
 have h1:l.take (j+1)=l.take j++[l.getD j 0]:=by
  rw[List.take_add_one,ze hj,zg,ze hj];rfl
 rw[h1,List.append_assoc];rfl
theorem zss{d:Za}{j:Nat}(hj:j<d.W.length):zj3 (za8 d j) j (d.W.getD j 0)=za8 d (j+1):=by
 unfold zj3 za8;simp only;rw[zoa 2 hj]
theorem zsu{d:Za}{j:Nat}(hj:j<d.B.length):zwg (za9 d j) j (d.B.getD j 0)=za9 d (j+1):=by
 unfold zwg za9;simp only;rw[zoa 0 hj]
theorem zp7{d:Za}{j:Nat}(hj:j<=d.W.length):(za8 d j).size=d.W.length:=by
 unfold Ob.size kt za8;simp;omega
theorem zp9{d:Za}{j:Nat}(hj:j<=d.B.length):(za9 d j).size=d.B.length:=by
 unfold Ob.size kt za9;simp;omega
theorem zsa{A:Nat->Option Ob}{d:Za}{k j:Nat}{v:Int}(hk:k<1000000)(hj:j<d.W.length)(hv:yh v=true) :
 ze0 (upF A (k+1) (some (za8 d j))) (2*((k:Int)+1)) j v=0/\zwy (upF A (k+1) (some (za8 d j))) (2*((k:Int)+1)) j v=upF A (k+1) (some (zj3 (za8 d j) j v)):=by
 have hn:Zz (2*((k:Int)+1))=((k+1:Nat):Int):=by rw[kh (by omega)];omega
 have hl:qz (upF A (k+1) (some (za8 d j))) (Zz (2*((k:Int)+1)))=some (za8 d j):=by
  unfold qz;rw[hn,if_pos (by omega),Int.toNat_natCast,Zm]
 have hp:plE (upF A (k+1) (some (za8 d j))) (2*((k:Int)+1)) 1 j=0:=by
  unfold plE;rw[hl];simp only;rw[if_neg (by unfold za8;simp),if_neg (by rw[zp7 (by omega)];omega)]
 refine⟨?_,?_⟩
 ·unfold ze0;rw[if_neg (by rw[hp];simp),hv];rfl
 ·rw[zmn hn (Zm _ _ _) rfl,zru]
theorem zpy{A:Nat->Option Ob}{d:Za}{k j:Nat}{v:Int}(hk:k<1000000)(hj:j<d.B.length)(hv:0<=v/\v<=255) :
 vg (upF A (k+1) (some (za9 d j))) (2*((k:Int)+1)) j v=0/\zkl (upF A (k+1) (some (za9 d j))) (2*((k:Int)+1)) j v=upF A (k+1) (some (zwg (za9 d j) j v)):=by
 have hn:Zz (2*((k:Int)+1))=((k+1:Nat):Int):=by rw[kh (by omega)];omega
 have hl:qz (upF A (k+1) (some (za9 d j))) (Zz (2*((k:Int)+1)))=some (za9 d j):=by
  unfold qz;rw[hn,if_pos (by omega),Int.toNat_natCast,Zm]
 have hp:plE (upF A (k+1) (some (za9 d j))) (2*((k:Int)+1)) 2 j=0:=by
  unfold plE;rw[hl];simp only;rw[if_neg (by unfold za9;simp),if_neg (by rw[zp9 (by omega)];omega)]
 refine⟨?_,?_⟩
 ·unfold vg;rw[if_neg (by rw[hp];simp),if_neg (by omega)]
 ·rw[zin hn (Zm _ _ _) rfl,zru]
def PA(d:Za)(i j:Nat):Ob:=if d.kind=1 then za8 d i else za9 d j
theorem zv1{d:Za}(h:xk d.cls d.kind d.W d.B):Z9 d.cls d.kind (kt d.kind d.W d.B)=PA d 0 0:=by
 unfold PA kt;rcases h.2 with⟨h1,_⟩|⟨h1,_⟩
 ·rw[if_pos h1,if_pos h1,zp6 h1]
 ·rw[if_neg (by omega),if_pos h1,if_neg (by omega),zp8 h1]
theorem zzo{d:Za}(h:xk d.cls d.kind d.W d.B):PA d d.W.length d.B.length=z0h d:=by
 unfold PA;rcases h.2 with⟨h1,h2,_⟩|⟨h1,h2,_⟩
 ·rw[if_pos h1,zst h1 h2]
 ·rw[if_neg (by omega),zsv h1 h2]
theorem zv2{A:Nat->Option Ob}{d:Za}(h:xk d.cls d.kind d.W d.B){k i:Nat}(hk:k<1000000)(hi:i<d.W.length) :
 yh (d.W.getD i 0)=true/\ze0 (upF A (k+1) (some (PA d i 0))) (2*((k:Int)+1)) i (d.W.getD i 0)=0/\zwy (upF A (k+1) (some (PA d i 0))) (2*((k:Int)+1)) i (d.W.getD i 0)=upF A (k+1) (some (PA d (i+1) 0)):=by
 rcases h.2 with⟨h1,h2,_,h4⟩|⟨h1,h2,_⟩
 ·have hm:yh (d.W.getD i 0)=true:=h4 _ (by rw[zg,ze hi];exact List.getElem_mem _);unfold PA;rw[if_pos h1,if_pos h1];obtain⟨e1,e2⟩:=zsa (A:=A) hk hi hm;refine⟨hm,e1,?_⟩;rw[e2,zss hi]
 ·rw[h2] at hi;simp at hi
theorem zv3{A:Nat->Option Ob}{d:Za}(h:xk d.cls d.kind d.W d.B)(hb:Byt d.B){k i j:Nat}(hk:k<1000000)(hi:i<d.B.length) :
 vg (upF A (k+1) (some (PA d j i))) (2*((k:Int)+1)) i (d.B.getD i 0)=0/\zkl (upF A (k+1) (some (PA d j i))) (2*((k:Int)+1)) i (d.B.getD i 0)=upF A (k+1) (some (PA d j (i+1))):=by
 rcases h.2 with⟨h1,h2,_⟩|⟨h1,h2,_⟩
 ·rw[h2] at hi;simp at hi
 ·unfold PA;rw[if_neg (by omega),if_neg (by omega)];obtain⟨e1,e2⟩:=zpy (A:=A) hk hi (zah hb i);refine⟨e1,?_⟩;rw[e2,zsu hi]
def zix(d:Za):Nat:=obN (Z9 d.cls d.kind (kt d.kind d.W d.B))
def Z5(l:List Za)(k:Nat):Nat:=((l.take k).map zix).sum
theorem zht{l:List Za}{k:Nat}(h:k<l.length):Z5 l (k+1)=Z5 l k+zix (l.getD k Za.nothing):=by
 have h1:l.take (k+1)=l.take k++[l.getD k Za.nothing]:=by
  rw[List.take_add_one,ze h,zg,ze h];rfl
 unfold Z5;rw[h1,List.map_append,List.sum_append];rfl
theorem zog{l:List Za}{k:Nat}(h:k<=l.length):Z5 l k<=Z5 l l.length:=by
 unfold Z5;rw[List.take_length];have:l=l.take k++l.drop k:=(List.take_append_drop k l).symm;conv=>rhs;rw[this]
 rw[List.map_append,List.sum_append];omega
structure LdF(wA w0:World)(base m mp:Nat)(w:World)(A:Nat->Option Ob)(made U:Nat):Prop where
 mem:∃Y,yc w base m mp Y made/\zt (fTb Y)=A/\(∀k∈fBl m mp Y,k∈[m,mp]\/w0.heap.size<=k)
 upd:Upd [m,mp] w0 w
 args:Below wA.heap.size wA w
 lo:base<=w0.heap.size/\wA.heap.size<=base
section
variable{wA w0 w w':World}{base m mp made U N:Nat}{A:Nat->Option Ob}
theorem LdF.below(h:LdF wA w0 base m mp w A made U)(hb:Below w.heap.size w w'):LdF wA w0 base m mp w' A made U:=by
 obtain⟨Y,h1,h2,h3⟩:=h.mem;exact⟨⟨Y,h1.below hb,h2,h3⟩,h.upd.trans (.of_below hb),h.args.trans (hb.mono h.args.size),h.lo⟩
theorem z0q(H:LdF wA w0 base m mp w A made U):Calls prog 224 #[.pointer (some ⟨m,0,none⟩)] w λe w'=>e=.returned (.int .i64 made)/\w=w':=by
 obtain⟨Y,h1,-⟩:=H.mem;exact z18 h1
theorem LdF.next(H:LdF wA w0 base m mp w A made U){Y Y':List FE}(h1:yc w base m mp Y made)(h3:∀k∈fBl m mp Y,k∈[m,mp]\/w0.heap.size<=k)(u:Upd (fBl m mp Y) w w'):Upd [m,mp] w0 w'/\Below wA.heap.size wA w':=by
 have A0:=H.upd.size;refine⟨⟨u.os.trans H.upd.os,u.tape.trans H.upd.tape,u.output.trans H.upd.output,Nat.le_trans A0 u.size,λk hk hn=>?_⟩,?_⟩
 ·refine(u.block k (by omega) (λhm=>?_)).trans (H.upd.block k hk hn);rcases h3 k hm with h4|h4
  ·exact hn h4
  ·omega
 ·exact H.args.trans (u.below H.args.size (λk hk=>Nat.le_trans H.lo.2 (h1.lo k hk)))
structure LdQ(wA w0:World)(base m mp:Nat)(w:World)(A:Nat->Option Ob)(made U q:Nat)(d:Za):Prop where
 mem:∃Y,yc w base m mp Y made/\zt (fTb Y)=A/\(∀k∈fBl m mp Y,k∈[m,mp]\/w0.heap.size<=k)/\q∉fBl m mp Y
 ld:LdF wA w0 base m mp w A made U
 row:Row w q 28 (kq d)
theorem LdF.withRow(h:LdF wA w0 base m mp w A made U)(d:Za){W:World}(hW:W=w.alloc (.cells #[.int .i64 d.cls,.int .i64 d.kind,.slice d.wa d.wn d.wc,.slice d.ba d.bn d.bc] 28)):LdQ wA w0 base m mp W A made U w.heap.size d:=by
 have b2:Below w.heap.size w W:=by rw[hW];exact zn (Below.refl _ _)
 obtain⟨Y,h1,h2,h3⟩:=h.mem;exact⟨⟨Y,h1.below b2,h2,h3,λhm=>by have:=h1.lt _ hm;omega⟩,h.below b2,by rw[hW];exact Row.made w _ _⟩
theorem LdQ.below{q:Nat}{d:Za}(h:LdQ wA w0 base m mp w A made U q d)(hb:Below w.heap.size w w'):LdQ wA w0 base m mp w' A made U q d:=by
 obtain⟨Y,h1,h2,h3,h4⟩:=h.mem;exact⟨⟨Y,h1.below hb,h2,h3,h4⟩,h.ld.below hb,h.row.keep (l:=[]) (.of_below hb) (by simp)⟩
def zpl(wA w0:World)(base m mp:Nat)(A:Nat->Option Ob)(made U:Nat)(v:Value)(e:Ending)(w':World):Prop:=e=.returned v/\LdF wA w0 base m mp w' A made U
def zv5(wA w0:World)(base m mp:Nat)(A:Nat->Option Ob)(made U q:Nat)(d:Za)(v:Value)(e:Ending)(w':World):Prop:=e=.returned v/\LdQ wA w0 base m mp w' A made U q d
theorem LdQ.step{q:Nat}{d:Za}(H:LdQ wA w0 base m mp w A made U q d){Y Y':List FE}{A':Nat->Option Ob}{made' U':Nat}(h1:yc w base m mp Y made)(h3:∀k∈fBl m mp Y,k∈[m,mp]\/w0.heap.size<=k)(h4:q∉fBl m mp Y)(f1:yc w' base m mp Y' made')(f2:zt (fTb Y')=A')(f3:∀k∈fBl m mp Y',k∈fBl m mp Y\/w.heap.size<=k)(u:Upd (fBl m mp Y) w w'):LdQ wA w0 base m mp w' A' made' U' q d:=by
 obtain⟨g1,g2⟩:=H.ld.next (Y':=Y') h1 h3 u;have A0:=H.ld.upd.size;have A1:=H.row.lt;refine⟨⟨Y',f1,f2,λk hk=>(f3 k hk).elim (h3 k) (λh=>.inr (by omega)),λhm=>(f3 q hm).elim h4 (λh=>by omega)⟩,⟨⟨Y',f1,f2,λk hk=>(f3 k hk).elim (h3 k) (λh=>.inr (by omega))⟩,g1,g2,H.ld.lo⟩,H.row.keep u h4⟩
theorem z3x{q:Nat}{d:Za}(H:LdQ wA w0 base m mp w A made U q d)(cls kind:Int)(n:Nat)(hc:yb cls=true)(hk:kind=1\/kind=2)(hn:n<=1000)(hm:made+1<=100000)(hU:U+obN (Z9 cls kind n)<=N) :
 Calls prog 225 #[.pointer (some ⟨m,0,none⟩),.int .i64 cls,.int .i64 kind,.int .i64 n] w (zv5 wA w0 base m mp (upF A (made+1) (some (Z9 cls kind n))) (made+1) (U+obN (Z9 cls kind n)) q d (.tuple #[.int .i64 (2*((made:Int)+1)),.int .i64 0])):=by
 obtain⟨Y,h1,rfl,h3,h4⟩:=H.mem;have A0:=H.ld.upd.size;refine(zva h1 cls kind n hc hk hn hm (by have:=H.ld.lo.1;omega)).mono ?_;rintro e w2 ⟨rfl,Y',f1,f2,f3,f4⟩;exact⟨rfl,H.step h1 h3 h4 f1 f2 f3 f4⟩
theorem z3w{q:Nat}{d:Za}(H:LdQ wA w0 base m mp w A made U q d)(o i v:Int)(b0:-9223372036854775808<=o)(b1:o<=9223372036854775807)(A0:-9223372036854775808<=i/\i<=9223372036854775807)(v0:-9223372036854775808<=v)(v1:v<=9223372036854775807) :
 Calls prog 10 #[.pointer (some ⟨m,0,none⟩),.int .i64 o,.int .i64 i,.int .i64 v] w (zv5 wA w0 base m mp (ifA (ze0 A o i v) (zwy A o i v) A) made U q d (.int .i64 (ze0 A o i v))):=by
 obtain⟨Y,h1,rfl,h3,h4⟩:=H.mem;refine(zzm h1 o i v b0 b1 v0 v1).mono ?_;rintro e w2 ⟨rfl,Y',f1,f2,f3,f4⟩;exact⟨rfl,H.step h1 h3 h4 f1 f2 (λk hk=>.inl (by rw[<-f3];exact hk)) f4⟩
theorem zqf{q:Nat}{d:Za}(H:LdQ wA w0 base m mp w A made U q d)(o i v:Int)(b0:-9223372036854775808<=o)(b1:o<=9223372036854775807)(A0:-9223372036854775808<=i/\i<=9223372036854775807) :
 Calls prog 227 #[.pointer (some ⟨m,0,none⟩),.int .i64 o,.int .i64 i,.int .i64 v] w (zv5 wA w0 base m mp (ifA (vg A o i v) (zkl A o i v) A) made U q d (.int .i64 (vg A o i v))):=by
 obtain⟨Y,h1,rfl,h3,h4⟩:=H.mem;refine(zq8 h1 o i v b0 b1).mono ?_;rintro e w2 ⟨rfl,Y',f1,f2,f3,f4⟩;exact⟨rfl,H.step h1 h3 h4 f1 f2 (λk hk=>.inl (by rw[<-f3];exact hk)) f4⟩
theorem zs9(H:LdF wA w0 base m mp w (λ_=>none) 0 0)(a:Option Addr)(n c:Nat)(l:List Za)(HA:yf wA a n c l)(hn:n<=100000)(hU:Z5 l l.length<=N) :
 Calls prog 28 #[.iface 34 (.pointer (some ⟨m,0,none⟩)),.slice a n c] w λe w'=>(zg8 l=true/\zpl wA w0 base m mp (λ_=>none) 0 0 (.int .i64 2) e w')\/(zg8 l=false/\zpl wA w0 base m mp (zay l n) n (Z5 l n) (.int .i64 0) e w'):=by
 have C0:=zh (zg3 a n c l w (HA.below H.args) (by omega));have D1:=zh (z0q H);have HH:=zh H;have E5:=zh HA;have E6:=HA.len;have F6:=zh E6;clear H HA E6;go_enter func28,ntmps28;cases B6:zg8 l with
 | true =>
  rw[B6] at C0;clear B6
  go_wp2_with (first
   | (go_at_call 224;go_call D1 as e w' ⟨rfl,rfl⟩)
   | (go_at_call 75;go_call C0 as e w1 ⟨rfl,C7⟩))
  go_ret;exact⟨rfl,HH.below C7⟩
 | false =>
  rw[B6] at C0;have F7:=zh (zb4.1 B6);clear B6
  go_wp2_with (first
   | (go_at_call 224;go_call D1 as e w' ⟨rfl,rfl⟩)
   | (go_at_call 75;go_call C0 as e w1 ⟨rfl,C7⟩))
  have E7:=zh (HH.below C7);clear C7 C0 D1 HH;go_loopw [20] (λi wr=>∃k:Nat,k<=n/\i=.int .i64 k/\Hid (LdF wA w0 base m mp wr (zay l k) k (Z5 l k))) (λi _=>n-(intOf i).toNat)
  case atStart=>exact⟨0,Nat.zero_le _,rfl,by rw[zkf];exact E7⟩
  case round =>
   obtain⟨k,hk,rfl,HL⟩:=hrel;clear E7;by_cases D2:k<n
   ·have E8:k<l.length:=by rw[<-F6.out];exact D2
    obtain⟨b,off,rfl,B6,D3,A3,A8⟩:=(E5.below HL.args).get D2;have D4:=zht E8;have D5:=zkg l k;have E9:=zog (l:=l) (k:=k+1) (by omega);obtain⟨d,hd⟩:=zx (l.getD k Za.nothing);rw[<-hd] at D3 A3 A8 D4 D5;have F0:=F7 d A3;unfold kq at A8;have x0:=A8 0 _ rfl;have x1:=A8 1 _ rfl;have x2:=A8 2 _ rfl;have x3:=A8 3 _ rfl;rw[Nat.add_zero] at x0;obtain⟨q,hq⟩:=zx (wr.heap.size);obtain⟨W2,C8⟩:=zx (wr.alloc (.cells #[.int .i64 d.cls,.int .i64 d.kind,.slice d.wa d.wn d.wc,.slice d.ba d.bn d.bc] 28));have D6:=HL.withRow d C8;rw[<-hq] at D6;have D7:=zh D6;have A2:=zh (D3.below (show Below wr.heap.size wr W2 by rw[C8];exact zn (Below.refl _ _)));have A4:=zh (E5.ok d A3);have A7:=zh F0;have F1:=zh D4;have F8:=zh D5;have F9:=zh E9;have G0:=zh C8;have G1:(k:Int)<(n:Int):=by omega
    clear A8 hd D3 A3 F0 D4 D5 E9 E8 D6 C8 HL;go_wp2_with fail;rw[<-G0.out,<-hq];clear hq x0 x1 x2 x3;have B7:=D7.out.row;unfold kq at B7;have HS:Hid (W2.cell? ⟨q,0,none⟩=some (.int .i64 d.cls)/\W2.cell? ⟨q,1,none⟩=some (.int .i64 d.kind)/\W2.cell? ⟨q,2,none⟩=some (.slice d.wa d.wn d.wc)/\W2.cell? ⟨q,3,none⟩=some (.slice d.ba d.bn d.bc)):=⟨B7.cell (i:=0) rfl,B7.cell (i:=1) rfl,B7.cell (i:=2) rfl,B7.cell (i:=3) rfl⟩;have C9:=zh (λW=>zcu d W);unfold Za.val at C9;obtain⟨S0,C1⟩:∃S0:Nat,S0=kt d.kind d.W d.B:=⟨_,rfl⟩
    have F2:(if d.kind=1 then d.wn else if d.kind=2 then d.bn else 0)=S0:=by
     rw[C1];unfold kt;rw[A2.out.wl,A2.out.bl]
    rw[F2] at C9
    have G2:S0<=1000:=by
     rw[C1];unfold kt;rcases A7.out.2 with⟨h1,_,h2,_⟩|⟨h1,_,h2⟩
     ·rw[if_pos h1];exact h2
     ·rw[if_neg (by omega),if_pos h1];exact h2
    have F3:zix d=obN (Z9 d.cls d.kind S0):=by unfold zix;rw[C1]
    have D8:d.wn<=1000/\d.bn<=1000:=by
     rw[A2.out.wl,A2.out.bl];rcases A7.out.2 with⟨_,h1,h2,_⟩|⟨_,h1,h2⟩<;>rw[h1]<;>simp<;>omega
    have G3:=D8.1;have G4:=D8.2;have F4:d.kind=1\/d.kind=2:=A7.out.2.imp (λh=>h.1) (λh=>h.1);have D0:=zh (λw3 (h:LdQ wA w0 base m mp w3 (zay l k) k (Z5 l k) q d)=>z3x (N:=N) h d.cls d.kind S0 A7.out.1 F4 G2 (by omega) (by have h1:=F1.out;have h2:=F9.out;omega));rw[<-F3] at D0;rw[<-F1.out] at D0;have G5:=zh C1;clear B7 F2 F3 F4 C1 D8;refine zm (λz=>z.cell? ⟨q,0,none⟩=some (.int .i64 d.cls)/\z.cell? ⟨q,1,none⟩=some (.int .i64 d.kind)/\z.cell? ⟨q,2,none⟩=some (.slice d.wa d.wn d.wc)/\z.cell? ⟨q,3,none⟩=some (.slice d.ba d.bn d.bc)) (zp [0,1,2,3,4,5,7,8,9,1006,1010,11,12,13,14,15]) (by kernel_rfl) (by kernel_rfl) (λ_ _ _ _ _ h=>h) (HS.out) ?_
    (repeat (refine zi rfl (λK hK=>?_);go_simp;(try go_bits);refine hK _ ?_;clear hK K))
    refine zl (.int .i64 d.cls) rfl rfl (λx hS=>by obtain⟨s0,s1,s2,s3⟩:=hS;go_simp) ?_
    (repeat (refine zi rfl (λK hK=>?_);go_simp;(try go_bits);refine hK _ ?_;clear hK K))
    refine zl (.int .i64 d.kind) rfl rfl (λx hS=>by obtain⟨s0,s1,s2,s3⟩:=hS;go_simp) ?_
    (repeat (refine zi rfl (λK hK=>?_);go_simp;(try go_bits);refine hK _ ?_;clear hK K))
    refine zl (.agg #[.int .i64 d.cls,.int .i64 d.kind,.slice d.wa d.wn d.wc,.slice d.ba d.bn d.bc]) rfl rfl (λx hS=>by obtain⟨s0,s1,s2,s3⟩:=hS;go_simp) ?_
    (repeat (refine zi rfl (λK hK=>?_);go_simp;(try go_bits);refine hK _ ?_;clear hK K))
    refine zl (.func (.method "New") #[.iface 34 (.pointer (some ⟨m,0,none⟩))] #[]) rfl rfl (λx hS=>by kernel_rfl) ?_
    (repeat (refine zi rfl (λK hK=>?_);go_simp;(try go_bits);refine hK _ ?_;clear hK K))
    refine zj rfl ?_;go_wp2_with fail;refine(C9 _).mono ?_;rintro e w3 ⟨rfl,D9⟩;have A9:=zh ((D7.below (Zd (Below.refl _ _))).below D9);have G6:=zh (zy (Zd (Below.refl W2.heap.size W2)) D9);clear D9 C9 D7 HS;go_wp2_with fail;have B8:=A9.out.row;unfold kq at B8;refine⟨⟨B8.cell (i:=0) rfl,B8.cell (i:=1) rfl,B8.cell (i:=2) rfl,B8.cell (i:=3) rfl⟩,?_⟩;clear B8;refine zj rfl ?_;go_wp2_with fail;refine(D0 _ A9).mono ?_;rintro e w4 ⟨rfl,E0⟩;have G7:=zh E0
    have E1:Hid (LdQ wA w0 base m mp w4 (upF (zay l k) (k+1) (some (PA d 0 0))) (k+1) (Z5 l (k+1)) q d):=by
     have h1:=zv1 A7;rw[<-G5.out] at h1;unfold Hid;rw[<-h1];exact E0
    clear E0 A9 G6 D0 G7;go_wp2_with fail;have B9:=E1.out.row;unfold kq at B9;refine⟨⟨B9.cell (i:=0) rfl,B9.cell (i:=1) rfl,B9.cell (i:=2) rfl,B9.cell (i:=3) rfl⟩,?_⟩;clear B9
    (repeat (refine zi rfl (λK hK=>?_);go_simp;(try go_bits);refine hK _ ?_;clear hK K))
    refine zo ?_;go_wp2;go_loopw [8,9] (λe i wq=>∃j:Nat,j<=d.wn/\e=.int .i64 0/\i=.int .i64 j/\Hid (LdQ wA w0 base m mp wq (upF (zay l k) (k+1) (some (PA d j 0))) (k+1) (Z5 l (k+1)) q d)) (λ_ i _=>d.wn-(intOf i).toNat)
    case atStart=>exact⟨0,Nat.zero_le _,rfl,rfl,E1⟩
    case round =>
     obtain⟨j,hj,rfl,rfl,HQ⟩:=hrel;clear E1;have A0:=HQ.out.row;unfold kq at A0;have y2:=A0.cell (i:=2) rfl;have yl:=A0.lt;by_cases B0:j<d.wn
     ·have E2:(j:Int)<(d.wn:Int):=by omega
      have B1:j<d.W.length:=by have:=A2.out.wl;omega
      obtain⟨g1,g2,g3⟩:=zv2 (A:=zay l k) A7.out (k:=k) (by omega) B1;have A5:=zd7 g1;obtain⟨x,hx⟩:=zx (d.W.getD j 0);rw[<-hx] at g1 g2 g3 A5;have B2:=zh (λw3 (h:LdQ wA w0 base m mp w3 (upF (zay l k) (k+1) (some (PA d j 0))) (k+1) (Z5 l (k+1)) q d)=>z3w h (2*((k:Int)+1)) j x (by omega) (by omega) (by omega) A5.1 A5.2);rw[g2,zqi rfl,g3] at B2;have HX:=zh hx;have A6:=zh B1;clear g1 g2 g3 A5 hx B1;obtain⟨bw,ow,B3,E3,C2⟩:=(A4.out.below HQ.out.ld.args).wr.at (by simp;exact Nat.lt_of_le_of_lt (Nat.zero_le _) A6);have C3:=C2 j (.int .i64 x) (by rw[HX.out];exact zr A6);rw[B3] at y2;have HS:Hid (wr.cell? ⟨q,2,none⟩=some (.slice (some ⟨bw,ow,none⟩) d.wn d.wc)/\wr.cell? ⟨bw,ow+j,none⟩=some (.int .i64 x)):=⟨y2,C3⟩;have C4:=zh B3
      have C5:Hid (∀w3,LdQ wA w0 base m mp w3 (upF (zay l k) (k+1) (some (PA d (j+1) 0))) (k+1) (Z5 l (k+1)) q d->w3.cell? ⟨q,2,none⟩=some (.slice (some ⟨bw,ow,none⟩) d.wn d.wc)/\w3.cell? ⟨bw,ow+j,none⟩=some (.int .i64 x)):=λw3 h=>by
       have h1:=h.row;unfold kq at h1;have h2:=h1.cell (i:=2) rfl;rw[C4.out] at h2;obtain⟨bw2,ow2,A1,_,B4⟩:=(A4.out.below h.ld.args).wr.at (by simp;exact Nat.lt_of_le_of_lt (Nat.zero_le _) A6);rw[C4.out] at A1;cases A1
       exact⟨h2,B4 j _ (by rw[HX.out];exact zr A6)⟩
      have C6:=zh (HQ.below (Zd (Below.refl wr.heap.size wr)));clear B3 C2 A0 HQ;go_wp2_with fail;clear y2 C3 E3 yl;refine zm (λz=>z.cell? ⟨q,2,none⟩=some (.slice (some ⟨bw,ow,none⟩) d.wn d.wc)/\z.cell? ⟨bw,ow+j,none⟩=some (.int .i64 x)) (zp [0,1,2,3,4,5,6,7,8,9,10,1011,12]) (by kernel_rfl) (by kernel_rfl) (λ_ _ _ _ _ h=>h) (HS.out) ?_
      (repeat (refine zi rfl (λK hK=>?_);go_simp;(try go_bits);refine hK _ ?_;clear hK K))
      refine zl (.slice (some ⟨bw,ow,none⟩) d.wn d.wc) rfl rfl (λx hS=>by obtain⟨s0,s1⟩:=hS;go_simp) ?_
      (repeat (refine zi rfl (λK hK=>?_);go_simp;(try go_bits);refine hK _ ?_;clear hK K))
      refine zl (.int .i64 x) rfl rfl (λx hS=>by obtain⟨s0,s1⟩:=hS;go_simp) ?_
      (repeat (refine zi rfl (λK hK=>?_);go_simp;(try go_bits);refine hK _ ?_;clear hK K))
      refine zl (.func (.method "Set") #[.iface 34 (.pointer (some ⟨m,0,none⟩))] #[]) rfl rfl (λx hS=>by kernel_rfl) ?_
      (repeat (refine zi rfl (λK hK=>?_);go_simp;(try go_bits);refine hK _ ?_;clear hK K))
      refine zj rfl ?_;go_wp2_with fail;refine(B2 _ C6).mono ?_;rintro e w3 ⟨rfl,B5⟩;have E4:=zh (C5 w3 B5);have A9:=zh B5;clear B5 C6 B2 C5 HS;go_wp2_with fail;refine⟨E4,?_⟩
      (repeat (refine zi rfl (λK hK=>?_);go_simp;(try go_bits);refine hK _ ?_;clear hK K))
      refine zo ?_;go_wp2;go_roundw
      case rel=>exact⟨j+1,by omega,rfl,by go_num,A9.out⟩
      case measure=>simp[intOf];omega
     ·obtain rfl:j=d.wn:=by omega
      have F5:=zh HQ;clear B0 A0 HQ;go_wp2;clear y2 yl;go_loopw [8,10] (λe i wq=>∃j:Nat,j<=d.bn/\e=.int .i64 0/\i=.int .i64 j/\Hid (LdQ wA w0 base m mp wq (upF (zay l k) (k+1) (some (PA d d.W.length j))) (k+1) (Z5 l (k+1)) q d)) (λ_ i _=>d.bn-(intOf i).toNat)
      case atStart =>
       refine⟨0,Nat.zero_le _,rfl,rfl,?_⟩;have h1:=A2.out.wl;unfold Hid;rw[<-h1];have h2:PA d d.wn 0=PA d d.wn 0:=rfl;exact F5
      case round =>
       obtain⟨j,hj,rfl,rfl,HQ⟩:=hrel;clear F5;have A0:=HQ.out.row;unfold kq at A0;have y2:=A0.cell (i:=3) rfl;have yl:=A0.lt;by_cases B0:j<d.bn
       ·have E2:(j:Int)<(d.bn:Int):=by omega
        have B1:j<d.B.length:=by have:=A2.out.bl;omega
        obtain⟨g2,g3⟩:=zv3 (A:=zay l k) A7.out A2.out.bb (k:=k) (j:=d.W.length) (by omega) B1;have A5:=zah A2.bb j;obtain⟨x,hx⟩:=zx (d.B.getD j 0);rw[<-hx] at g2 g3 A5;have B2:=zh (λw3 (h:LdQ wA w0 base m mp w3 (upF (zay l k) (k+1) (some (PA d d.W.length j))) (k+1) (Z5 l (k+1)) q d)=>zqf h (2*((k:Int)+1)) j x (by omega) (by omega) (by omega));rw[g2,zqi rfl,g3] at B2;have HX:=zh hx;have A6:=zh B1;have G9:=A5.1;have I0:=A5.2;clear g2 g3 A5 hx B1;obtain⟨bw,ow,B3,E3,C2⟩:=(A4.out.below HQ.out.ld.args).br.at (by simp;exact Nat.lt_of_le_of_lt (Nat.zero_le _) A6);have C3:=C2 j (.int .u8 x) (by rw[HX.out];exact zr A6);rw[B3] at y2;have HS:Hid (wr.cell? ⟨q,3,none⟩=some (.slice (some ⟨bw,ow,none⟩) d.bn d.bc)/\wr.cell? ⟨bw,ow+j,none⟩=some (.int .u8 x)):=⟨y2,C3⟩;have C4:=zh B3
        have C5:Hid (∀w3,LdQ wA w0 base m mp w3 (upF (zay l k) (k+1) (some (PA d d.W.length (j+1)))) (k+1) (Z5 l (k+1)) q d->w3.cell? ⟨q,3,none⟩=some (.slice (some ⟨bw,ow,none⟩) d.bn d.bc)/\w3.cell? ⟨bw,ow+j,none⟩=some (.int .u8 x)):=λw3 h=>by
         have h1:=h.row;unfold kq at h1;have h2:=h1.cell (i:=3) rfl;rw[C4.out] at h2;obtain⟨bw2,ow2,A1,_,B4⟩:=(A4.out.below h.ld.args).br.at (by simp;exact Nat.lt_of_le_of_lt (Nat.zero_le _) A6);rw[C4.out] at A1;cases A1
         exact⟨h2,B4 j _ (by rw[HX.out];exact zr A6)⟩
        have C6:=zh (HQ.below (Zd (Below.refl wr.heap.size wr)));clear B3 C2 A0 HQ;go_wp2_with fail;clear y2 C3 E3 yl;refine zm (λz=>z.cell? ⟨q,3,none⟩=some (.slice (some ⟨bw,ow,none⟩) d.bn d.bc)/\z.cell? ⟨bw,ow+j,none⟩=some (.int .u8 x)) (zp [0,1,2,3,4,5,6,7,8,9,10,11,1012,13]) (by kernel_rfl) (by kernel_rfl) (λ_ _ _ _ _ h=>h) (HS.out) ?_
        (repeat (refine zi rfl (λK hK=>?_);go_simp;(try go_bits);refine hK _ ?_;clear hK K))
        refine zl (.slice (some ⟨bw,ow,none⟩) d.bn d.bc) rfl rfl (λx hS=>by obtain⟨s0,s1⟩:=hS;go_simp) ?_
        (repeat (refine zi rfl (λK hK=>?_);go_simp;(try go_bits);refine hK _ ?_;clear hK K))
        refine zl (.int .u8 x) rfl rfl (λx hS=>by obtain⟨s0,s1⟩:=hS;go_simp) ?_
        (repeat (refine zi rfl (λK hK=>?_);go_simp;(try go_bits);refine hK _ ?_;clear hK K))
        refine zl (.func (.method "SetByte") #[.iface 34 (.pointer (some ⟨m,0,none⟩))] #[]) rfl rfl (λx hS=>by kernel_rfl) ?_
        (repeat (refine zi rfl (λK hK=>?_);go_simp;(try go_bits);refine hK _ ?_;clear hK K))
        refine zj rfl ?_;go_wp2_with fail;refine(B2 _ C6).mono ?_;rintro e w3 ⟨rfl,B5⟩;have E4:=zh (C5 w3 B5);have A9:=zh B5;clear B5 C6 B2 C5 HS;go_wp2_with fail;refine⟨E4,?_⟩
        (repeat (refine zi rfl (λK hK=>?_);go_simp;(try go_bits);refine hK _ ?_;clear hK K))
        refine zo ?_;go_wp2;go_roundw
        case rel=>exact⟨j+1,by omega,rfl,by go_num,A9.out⟩
        case measure=>simp[intOf];omega
       ·obtain rfl:j=d.bn:=by omega
        have G8:Hid (LdF wA w0 base m mp wr (zay l (k+1)) (k+1) (Z5 l (k+1))):=by
         have h1:=zzo A7;have h2:=A2.out.bl;rw[<-h2] at h1;have h3:=HQ.out.ld;rw[h1,<-F8.out] at h3;exact h3
        clear B0 A0 HQ;go_wp2;go_roundw
        case rel=>exact⟨k+1,by omega,by go_num,G8.out⟩
        case measure=>simp[intOf];omega
   ·obtain rfl:k=n:=by omega
    clear D2;go_wp2;go_ret;exact⟨rfl,HL⟩
end
end Go.Proofs.YtoeibiahbenpcaaGreatDoor
