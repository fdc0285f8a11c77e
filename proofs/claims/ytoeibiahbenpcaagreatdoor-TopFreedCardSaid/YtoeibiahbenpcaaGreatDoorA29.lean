/- Part. -/
import Derived.Test.YtoeibiahbenpcaaGreatDoorA28
import Derived.Defers
namespace Go.Proofs.YtoeibiahbenpcaaGreatDoor
open RowKit Maps Proofs.Tryz
set_option linter.unusedVariables false
set_option maxRecDepth 99999
set_option maxHeartbeats 9000000
theorem z00(x:Int)(h0:0<=x)(h1:x<65536):bits .or .i64 0 x=x:=by
 have ha:(BitVec.ofInt 64 x).toNat=x.toNat:=by rw[BitVec.toNat_ofInt];omega
 have hb:(BitVec.ofInt 64 0).toNat=0:=by decide
 have key:(BitVec.ofInt 64 0 ||| BitVec.ofInt 64 x).toNat=x.toNat:=by
  rw[BitVec.toNat_or,ha,hb,Nat.zero_or]
 show IntKind.i64.wrap ((BitVec.ofInt 64 0 ||| BitVec.ofInt 64 x).toNat:Nat)=x
 rw[key,IntKind.wrap_i64];omega
theorem ztk(x c:Int)(h0:0<=x)(h1:x<256)(h2:0<=c)(h3:c<256):bits .or .i64 (x*256) c=x*256+c:=by
 have ha:(BitVec.ofInt 64 (x*256)).toNat=x.toNat*2 ^ 8:=by rw[BitVec.toNat_ofInt];omega
 have hb:(BitVec.ofInt 64 c).toNat=c.toNat:=by rw[BitVec.toNat_ofInt];omega
 have key:(BitVec.ofInt 64 (x*256) ||| BitVec.ofInt 64 c).toNat=x.toNat*2 ^ 8+c.toNat:=by
  rw[BitVec.toNat_or,ha,hb,zbs _ _ _ (by omega)]
 show IntKind.i64.wrap ((BitVec.ofInt 64 (x*256) ||| BitVec.ofInt 64 c).toNat:Nat)=x*256+c
 rw[key,IntKind.wrap_i64];omega
def zvr(B:List Int)(k:Nat):List Int:=(List.range ((B.length+1) / 2)).map (λj=>(if 2*j<k then B.getD (2*j) 0 else 0)*256+(if 2*j+1<k then B.getD (2*j+1) 0 else 0))
theorem zdv(B:List Int)(k:Nat):(zvr B k).length=(B.length+1) / 2:=by simp[zvr]
theorem zfo(B:List Int)(k j:Nat)(hj:j<(B.length+1) / 2):(zvr B k)[j]?=some ((if 2*j<k then B.getD (2*j) 0 else 0)*256+(if 2*j+1<k then B.getD (2*j+1) 0 else 0)):=by
 unfold zvr;rw[List.getElem?_map,List.getElem?_range hj];rfl
theorem zvp(B:List Int):zvr B 0=List.replicate ((B.length+1) / 2) 0:=by
 refine List.ext_getElem? (λj=>?_);by_cases hj:j<(B.length+1) / 2
 ·rw[zfo _ _ _ hj,List.getElem?_replicate,if_pos hj];simp
 ·rw[List.getElem?_eq_none (by rw[zdv];omega),List.getElem?_eq_none (by simp;omega)]
theorem zpg{o:Ob}(hk:o.kind=2):zvr o.B o.B.length=Zc o:=by
 unfold Zc;rw[if_pos hk];refine List.map_congr_left (λj hj=>?_);have hj:=List.mem_range.1 hj;rw[if_pos (by omega)];split
 ·rfl
 ·rw[zg (i:=2*j+1),List.getElem?_eq_none (by omega)];rfl
theorem zvq(B:List Int)(k:Nat)(hk:k<B.length)(x:Int)(hx:x=(if k % 2=0 then B.getD k 0*256 else B.getD (k-1) 0*256+B.getD k 0)):(zvr B k).set (k / 2) x=zvr B (k+1):=by
 refine List.ext_getElem? (λj=>?_);rw[List.getElem?_set];have hl:=zdv B k;by_cases hj:j<(B.length+1) / 2
 ·rw[zfo _ _ _ hj,zfo _ _ _ hj];by_cases h1:k / 2=j
  ·rw[if_pos h1,if_pos (by omega),hx];rcases Nat.mod_two_eq_zero_or_one k with hp|hp
   ·rw[if_pos hp,if_pos (by omega),if_neg (by omega),show 2*j=k by omega];simp
   ·rw[if_neg (by omega),if_pos (by omega),if_pos (by omega),show 2*j+1=k by omega,show 2*j=k-1 by omega]
  ·rw[if_neg h1];congr 2
   ·congr 1;by_cases h2:2*j<k
    ·rw[if_pos h2,if_pos (by omega)]
    ·rw[if_neg h2,if_neg (by omega)]
   ·by_cases h2:2*j+1<k
    ·rw[if_pos h2,if_pos (by omega)]
    ·rw[if_neg h2,if_neg (by omega)]
 ·rw[if_neg (by omega),List.getElem?_eq_none (by rw[zdv];omega),List.getElem?_eq_none (by rw[zdv];omega)]
theorem zbp{w:World}{g:Nat}{t:TypeId}{k:IntKind}{o:List Int}(h:Row w g t (o.map (Value.int k)))(i:Nat)(d:Int):Row (w.setCell ⟨g,i,none⟩ (.int k d)) g t ((o.set i d).map (Value.int k)):=by
 have:=h.set i (.int k d);rwa[<-List.map_set] at this
theorem zxa{α:Type}(a b:List α):a.take 0++b.drop 0=b:=by simp
def zjz(w:World)(o:Ob)(e:Ending)(w':World):Prop :=
 ∃g,e=.returned (.slice (some ⟨g,0,none⟩) (Zc o).length (Zc o).length)/\Row w' g 3 ((Zc o).map (Value.int .i64))/\w.heap.size<=g/\Below w.heap.size w w'
theorem zu2(d:Za)(o:Ob)(w:World)(hd:d.ok w)(hi:Is d o)(ho:o.good) :
 Calls prog 152 #[d.val] w (zjz w o):=by
 have A7:(if d.kind=1 then d.wn else if d.kind=2 then d.bn else 0)=o.size:=by
  have h1:=hd.wl;have h2:=hd.bl;rw[hi.kind];rcases ho.kinds with⟨a,_,_,b⟩|⟨a,_,_,b⟩
  ·rw[if_pos a,b,h1,hi.W]
  ·rw[if_neg (by omega),if_pos a,b,h2,hi.B]
 have F1:=ho.size_le;obtain⟨n,hn⟩:=zx (nWd o.kind o.size);have I2:n<=1000:=by rw[hn];unfold nWd;split<;>omega
 have E0:n=(Zc o).length:=by rw[hn];exact(zch ho).symm
 have B9:Hid (∀v,Calls prog 78 #[d.val] v λe w'=>e=.returned (.int .i64 o.size)/\Below v.heap.size v w'):=λv=>by
  have:=zcu d v;rwa[A7] at this
 have C8:Hid (∀v,Calls prog 53 #[.int .i64 d.kind,.int .i64 o.size] v λe w'=>e=.returned (.int .i64 n)/\v=w'):=λv=>by
  have:=zo1 d.kind o.size (by omega) v;rwa[hi.kind,<-hn,<-hi.kind] at this
 have HD:=zh hd;have HI:=zh hi;have HG:=zh ho;have A8:=zh E0;clear hd hi ho A7 hn E0 F1;obtain⟨cls,kind,wa,wn,wc,W,ba,bn,bc,B⟩:=d;unfold Za.val at B9 ⊢;dsimp only at B9 C8 ⊢;go_enter func152,ntmps152;go_wp2_with fail;obtain⟨q,hq⟩:=zx (w.heap.size);have A3:=Row.made w [.int .i64 cls,.int .i64 kind,.slice wa wn wc,.slice ba bn bc] 28;have C9:Below w.heap.size w (w.alloc (.cells #[.int .i64 cls,.int .i64 kind,.slice wa wn wc,.slice ba bn bc] 28)):=zn (Below.refl _ _);rw[<-hq] at A3;have F2:=zh C9;have F3:=zh A3;obtain⟨w1,B3⟩:=zx (w.alloc (.cells #[.int .i64 cls,.int .i64 kind,.slice wa wn wc,.slice ba bn bc] 28))
 have hS:w1.drew.cell? ⟨q,0,none⟩=some (.int .i64 cls)/\w1.drew.cell? ⟨q,1,none⟩=some (.int .i64 kind)/\w1.drew.cell? ⟨q,2,none⟩=some (.slice wa wn wc)/\w1.drew.cell? ⟨q,3,none⟩=some (.slice ba bn bc):=by
  rw[B3];exact⟨A3.drew.cell (i:=0) rfl,A3.drew.cell (i:=1) rfl,A3.drew.cell (i:=2) rfl,A3.drew.cell (i:=3) rfl⟩
 have E1:Hid (Below w.heap.size w w1.drew):=by rw[B3];exact Zd C9
 have HQ:Hid (q<w1.drew.heap.size):=by have:=A3.drew.lt;rw[B3];exact this
 have I3:=zh hq
 have C0:Hid (∀v v':World,q<v.heap.size->Below v.heap.size v v'->(v.cell? ⟨q,0,none⟩=some (.int .i64 cls)/\v.cell? ⟨q,1,none⟩=some (.int .i64 kind)/\v.cell? ⟨q,2,none⟩=some (.slice wa wn wc)/\v.cell? ⟨q,3,none⟩=some (.slice ba bn bc))->v'.cell? ⟨q,0,none⟩=some (.int .i64 cls)/\v'.cell? ⟨q,1,none⟩=some (.int .i64 kind)/\v'.cell? ⟨q,2,none⟩=some (.slice wa wn wc)/\v'.cell? ⟨q,3,none⟩=some (.slice ba bn bc)) :=
  λv v' _ hb ⟨a,b,c,d⟩=>⟨zu hb a,zu hb b,zu hb c,zu hb d⟩
 rw[<-B3,<-hq];clear A3 C9 B3 F2 F3 hq;refine zm (λz=>z.cell? ⟨q,0,none⟩=some (.int .i64 cls)/\z.cell? ⟨q,1,none⟩=some (.int .i64 kind)/\z.cell? ⟨q,2,none⟩=some (.slice wa wn wc)/\z.cell? ⟨q,3,none⟩=some (.slice ba bn bc)) (zp [0,1,2,1003,1004,1005,6]) (by kernel_rfl) (by kernel_rfl) (λ_ _ _ _ _ h=>h) (hS) ?_;have HS:=zh hS;clear hS;generalize w1.drew=w2 at *
 (repeat (refine zi rfl (λK hK=>?_);go_simp;(try go_bits);refine hK _ ?_;clear hK K))
 refine zl (.int .i64 kind) rfl rfl (λx hS=>by obtain⟨s0,s1,s2,s3⟩:=hS;go_simp) ?_
 (repeat (refine zi rfl (λK hK=>?_);go_simp;(try go_bits);refine hK _ ?_;clear hK K))
 refine zl (.agg #[.int .i64 cls,.int .i64 kind,.slice wa wn wc,.slice ba bn bc]) rfl rfl (λx hS=>by obtain⟨s0,s1,s2,s3⟩:=hS;go_simp) ?_;refine zj rfl ?_;go_wp2_with fail;refine(B9 _).mono ?_;rintro e w3 ⟨rfl,C1⟩;have C2:=zh (C0 _ _ HQ C1 HS);have D0:=zh (zy E1 C1);have D1:Hid (q<w3.heap.size):=Nat.lt_of_lt_of_le HQ C1.size;clear C1 HS E1 HQ;go_wp2_with fail;refine⟨C2,?_⟩;refine zj rfl ?_;go_wp2_with fail;refine(C8 _).mono ?_;rintro e w3' ⟨rfl,rfl⟩;go_wp2_with fail;refine⟨C2,?_⟩;refine zj rfl ?_;refine qo rfl _ _ 25 rfl 3 (.int .i64 0) 8 underlying25 Zx rfl .i64 .i64 _ _ n rfl rfl rfl rfl (by omega) (by unfold maxLen;omega) ?_;intro w4 D2 D3;obtain⟨g,hg⟩:=zx (w3.heap.size);rw[<-hg] at D2;have C3:Hid (w.heap.size<=g):=by unfold Hid;rw[hg];exact D0.size
 have F4:Hid (g≠q):=by have:=D1.out;unfold Hid;omega
 have C4:Hid (Below w.heap.size w w4):=zy D0.out (D3.below (Nat.le_refl _) (by simp));have E2:=zh (C0.out _ _ D1.out (D3.below (Nat.le_refl _) (by simp)) C2.out)
 have E3:Hid (Row w4 g 3 ((List.replicate n (0:Int)).map (Value.int .i64))):=by
  unfold Hid;rw[List.map_replicate];exact D2
 rw[<-hg];clear D2 D3 hg C2 D0 D1 B9 C8;go_wp2_with fail;refine⟨E2,?_⟩
 (repeat (refine zi rfl (λK hK=>?_);go_simp;(try go_bits);refine hK _ ?_;clear hK K))
 refine zo ?_;obtain⟨c0,c1,c2,c3⟩:=E2.out;rcases HG.out.kinds with⟨hk,hB,F5,A7⟩|⟨hk,hW,F6,A7⟩
 ·have C5:wn=o.W.length:=by
   have h1:=HD.out.wl;have h2:=HI.W;simp only at h1 h2;rw[h1,h2]
  have E4:W=o.W:=HI.W
  have C6:bn=0:=by
   have h1:=HD.out.bl;have h2:=HI.B;simp only at h1 h2;rw[h1,h2,hB];rfl
  subst C6;have D4:Zc o=o.W.map zaq:=by unfold Zc;rw[if_neg (by omega)]
  have F7:n=wn:=by rw[A8.out,D4,List.length_map,C5]
  have F8:=zh D4;have F9:=zh E4;have D5:Hid (zv w wa wc (W.map (Value.int .i64))):=HD.out.wr;have B4:=zh (show wn=W.length from HD.wl);have G0:=zh (show I64 W from HD.wi);have G1:wn<=1000:=by omega
  clear D4 hk hB F5 A7 E4 C5;subst F7;clear HD HI C0;go_wp2;go_loopw [19] (λi wr=>∃k:Nat,k<=n/\i=.int .i64 k/\Hid (Row wr g 3 (((Zc o).take k++(List.replicate n (0:Int)).drop k).map (Value.int .i64)))/\Hid (Upd [g] w4 wr)) (λi _=>n-(intOf i).toNat)
  case atStart=>exact⟨0,Nat.zero_le _,rfl,by unfold Hid;rw[zxa];exact E3,Upd.refl _ _⟩
  case round =>
   obtain⟨k,G2,rfl,HR,HU⟩:=hrel;have A1:Hid (Below w.heap.size w wr):=C4.out.trans (HU.out.below C4.out.size (λx hx=>by simp at hx;subst hx;exact C3));by_cases A9:k<n
   ·obtain⟨b,off,rfl,D6,B5⟩:=(D5.out.below A1.out).at (by simp;have:=B4.out;omega);obtain⟨x,hx⟩:=zx (W.getD k 0);have B6:=B5 k (.int .i64 x) (by rw[hx];exact zr (by have:=B4.out;omega));have D7:=G0.out x (by rw[hx,zg,ze (by have:=B4.out;omega)];exact List.getElem_mem _);have C7:=zh (λv=>zo0 x v D7.1 D7.2);have D8:(Zc o).length=(List.replicate n (0:Int)).length:=by rw[<-A8.out];simp
    have A2:=zi1 D8 (k:=k) (by simp;exact A9) 0
    have E5:(Zc o).getD k 0=zaq x:=by
     rw[F8.out,<-F9.out,hx,zg,List.getElem?_map,ze (by have:=B4.out;omega),zg,ze (by have:=B4.out;omega)];rfl
    rw[E5] at A2;have A4:=zh A2;have E6:=HR.out.cell (i:=k) (v:=.int .i64 0) (by rw[List.getElem?_map,zm0 D8 (by simp;exact A9) 0,zg,List.getElem?_replicate,if_pos A9];rfl);have G3:=HR.free k;have G4:=HR.out.lt;have G5:(k:Int)<(n:Int):=by omega
    clear B5 hx D8 A2 E5 D7;unfold zaq at A4;cases B0:zga x with
    | true =>
     rw[B0,if_pos rfl] at A4;rw[B0] at C7
     have A5:Hid (Row (wr.setCell ⟨g,k,none⟩ (.int .i64 (zhf x))) g 3 (((Zc o).take (k+1)++(List.replicate n (0:Int)).drop (k+1)).map (Value.int .i64))):=by
      unfold Hid;rw[<-A4.out];exact zbp HR k (zhf x)
     have A6:Hid (Upd [g] w4 (wr.setCell ⟨g,k,none⟩ (.int .i64 (zhf x)))):=HU.out.setCell (by simp) _;clear A4 HR HU A1 B0;generalize zhf x=y at *;go_wp2_with (go_at_call 33;refine(C7 _).mono ?_;rintro e w5 ⟨rfl,rfl⟩);go_roundw
     case rel=>exact⟨k+1,by omega,by go_num,A5.out,A6.out⟩
     case measure=>simp[intOf];omega
    | false =>
     rw[B0] at A4;simp only[Bool.false_eq_true,if_false] at A4;rw[B0] at C7
     have A5:Hid (Row ((wr.setCell ⟨g,k,none⟩ (.int .i64 (zhf x))).setCell ⟨g,k,none⟩ (.int .i64 65534)) g 3 (((Zc o).take (k+1)++(List.replicate n (0:Int)).drop (k+1)).map (Value.int .i64))):=by
      unfold Hid;have h1:=zbp (zbp HR k (zhf x)) k 65534;rw[List.set_set] at h1;rw[<-A4.out];exact h1
     have A6:Hid (Upd [g] w4 ((wr.setCell ⟨g,k,none⟩ (.int .i64 (zhf x))).setCell ⟨g,k,none⟩ (.int .i64 65534))):=(HU.out.setCell (by simp) _).setCell (by simp) _;clear A4 HR HU A1 B0;generalize zhf x=y at *;go_wp2_with (go_at_call 33;refine(C7 _).mono ?_;rintro e w5 ⟨rfl,rfl⟩);go_roundw
     case rel=>exact⟨k+1,by omega,by go_num,A5.out,A6.out⟩
     case measure=>simp[intOf];omega
   ·obtain rfl:k=n:=by omega
    have c3':=HU.out.cell c3 (by simp;exact λe=>F4 e.symm)
    have HX:Hid (zjz w o (.returned (.slice (some ⟨g,0,none⟩) k k)) wr):=by
     refine⟨g,by rw[<-A8.out],?_,C3.out,A1.out⟩;have:=HR.out;rwa[List.take_of_length_le (by rw[<-A8.out];exact Nat.le_refl _),List.drop_of_length_le (by simp),List.append_nil] at this
    clear HR HU A1 A9;go_wp2;refine wp_loop_rounds 1 ?_;rw[rounds_succ];go_wp2;go_ret;exact HX
 ·have C6:bn=o.B.length:=by
   have h1:=HD.out.bl;have h2:=HI.B;simp only at h1 h2;rw[h1,h2]
  have C5:wn=0:=by
   have h1:=HD.out.wl;have h2:=HI.W;simp only at h1 h2;rw[h1,h2,hW];rfl
  subst C5;have E7:B=o.B:=HI.B;have E8:n=(bn+1) / 2:=by rw[A8.out,<-zpg hk,zdv,C6]
  have G6:=zh E7;have E9:=zh E8;have D5:Hid (zv w ba bc (B.map (Value.int .u8))):=HD.out.br;have B1:=zh (show bn=B.length from HD.bl);have F0:=zh (show Byt B from HD.bb);have G7:=zh hk;have G8:bn<=1000:=by omega
  clear C6 hk hW F6 A7 E7 E8;clear HD HI C0;go_wp2;refine wp_loop_rounds 1 ?_;rw[rounds_succ];go_wp2;go_loopw [42] (λi wr=>∃k:Nat,k<=bn/\i=.int .i64 k/\Hid (Row wr g 3 ((zvr B k).map (Value.int .i64)))/\Hid (Upd [g] w4 wr)) (λi _=>bn-(intOf i).toNat)
  case atStart=>exact⟨0,Nat.zero_le _,rfl,by unfold Hid;rw[zvp,<-B1.out,<-E9.out];exact E3,Upd.refl _ _⟩
  case round =>
   obtain⟨k,G2,rfl,HR,HU⟩:=hrel;have A1:Hid (Below w.heap.size w wr):=C4.out.trans (HU.out.below C4.out.size (λx hx=>by simp at hx;subst hx;exact C3));by_cases A9:k<bn
   ·obtain⟨b,off,rfl,D6,B5⟩:=(D5.out.below A1.out).at (by simp;have:=B1.out;omega);obtain⟨x,hx⟩:=zx (B.getD k 0);have B6:=B5 k (.int .u8 x) (by rw[hx];exact zr (by have:=B1.out;omega));have G9:=zah F0 k;rw[<-hx] at G9;obtain⟨x0,B7⟩:=zx (B.getD (k-1) 0);have B8:=zah F0 (k-1);rw[<-B7] at B8;have hj:k / 2<(B.length+1) / 2:=by have:=B1.out;omega
    have G4:=HR.out.lt;have G3:=HR.free (k / 2);have G5:(k:Int)<(bn:Int):=by omega
    have I4:k / 2<n:=by rw[E9.out];omega
    have A0:=zh (λy hy=>zvq B k (by have:=B1.out;omega) y hy);have B2:=zfo B k (k / 2) hj;clear B5;rcases Nat.mod_two_eq_zero_or_one k with hp|hp
    ·have D9:(k:Int) % 2=0:=by omega
     have I0:(k:Int).tmod 2=0:=by rw[Int.tmod_eq_emod_of_nonneg (by omega)];exact D9
     rw[if_neg (by omega),if_neg (by omega)] at B2;have E6:wr.cell? ⟨g,k / 2,none⟩=some (.int .i64 0):=HR.out.cell (by rw[List.getElem?_map,B2];rfl);have I1:=z00 (x*256) (by omega) (by omega);have A2:=A0.out (x*256) (by rw[if_pos hp,hx])
     have A5:Hid (Row (wr.setCell ⟨g,k / 2,none⟩ (.int .i64 (x*256))) g 3 ((zvr B (k+1)).map (Value.int .i64))):=by
      unfold Hid;rw[<-A2];exact zbp HR _ _
     have A6:Hid (Upd [g] w4 (wr.setCell ⟨g,k / 2,none⟩ (.int .i64 (x*256)))):=HU.out.setCell (by simp) _;clear A2 B2 HR HU A1 A0 hx B7 B8 hj;go_wp2_with fail;go_region;go_wp2;go_roundw
     case rel=>exact⟨k+1,by omega,by go_num,A5.out,A6.out.drew⟩
     case measure=>simp[intOf];omega
    ·have D9:(k:Int) % 2=1:=by omega
     have I0:(k:Int).tmod 2=1:=by rw[Int.tmod_eq_emod_of_nonneg (by omega)];exact D9
     rw[if_pos (by omega),if_neg (by omega),show 2*(k / 2)=k-1 by omega,<-B7,Int.add_zero] at B2;have E6:wr.cell? ⟨g,k / 2,none⟩=some (.int .i64 (x0*256)):=HR.out.cell (by rw[List.getElem?_map,B2];rfl);have I1:=ztk x0 x (by omega) (by omega) (by omega) (by omega);have A2:=A0.out (x0*256+x) (by rw[if_neg (by omega),hx,B7])
     have A5:Hid (Row (wr.setCell ⟨g,k / 2,none⟩ (.int .i64 (x0*256+x))) g 3 ((zvr B (k+1)).map (Value.int .i64))):=by
      unfold Hid;rw[<-A2];exact zbp HR _ _
     have A6:Hid (Upd [g] w4 (wr.setCell ⟨g,k / 2,none⟩ (.int .i64 (x0*256+x)))):=HU.out.setCell (by simp) _;clear A2 B2 HR HU A1 A0 hx B7 hj;go_wp2_with fail;go_region;go_wp2;go_roundw
     case rel=>exact⟨k+1,by omega,by go_num,A5.out,A6.out.drew⟩
     case measure=>simp[intOf];omega
   ·obtain rfl:k=bn:=by omega
    have HX:Hid (zjz w o (.returned (.slice (some ⟨g,0,none⟩) n n)) wr):=by
     refine⟨g,by rw[<-A8.out],?_,C3.out,A1.out⟩;have:=HR.out;rwa[B1.out,G6.out,zpg G7.out] at this
    clear HR HU A1 A9;go_wp2;go_ret;exact HX
theorem zu0(m q:Nat)(u:FrameMode)(w:World)(v:Value)(hq:w.cell? ⟨q,0,none⟩=some (.pointer (some ⟨m,0,none⟩)))(hm:w.cell? ⟨m,5,none⟩=some v)(hf:w.frozen? ⟨m,5,none⟩=false) :
 CallsD prog 151 #[.pointer (some ⟨q,0,none⟩)] u w λe u' w'=>u'=u/\e=.returned (.tuple #[])/\w'=w.setCell ⟨m,5,none⟩ (.int .i64 0):=by
 have A0:=World.block_lt_of_cell? w _ hm;have A1:=World.block_lt_of_cell? w _ hq;simp only at A0 A1;go_enter_d func151,ntmps151;go_wp2;go_end0
 first|exact⟨rfl,rfl,rfl⟩|exact⟨rfl,rfl⟩|rfl
section
variable{w:World}{J:LmI}{K NW N:Nat}{S:Lm}{A:Nat->Option Ob}{ex:List Int}{pe bl:Nat->Prop}{T:Tb}{made U:Nat}{F:Nat->Nat}{busy:Nat}
theorem zdu(H:Zh w J K NW N S A ex pe bl T made U F busy)(i:Nat)(hi:i<1073741824)(o:Ob)(ho:S.dk i=some o) :
 Calls prog 37 #[.pointer (some ⟨J.I.s,0,none⟩),.int .i64 i] w λe w'=>∃d:Za,e=.returned (.tuple #[.agg #[.int .i64 d.cls,.int .i64 d.kind,.slice d.wa d.wn d.wc,.slice d.ba d.bn d.bc],.int .i64 0])/\d.ok w'/\xn w.heap.size w' d/\Is d o/\Zh w' J K NW N S A ex pe bl T made U F busy/\LU J w w':=by
 have hl:lookI T (i:Int)=some o:=by rw[je,<-ho,H.dk]
 refine(zb1 H.P.sec _ (zfx (by omega)) o hl).mono ?_;rintro e w' ⟨d,rfl,a1,a2,a3,a4,a5,a6,a7,a8⟩;have A0:∀k∈J.I.E.all,k∈J.I.all:=λk hk=>by simp[qy.all,hk]
 exact⟨d,rfl,a1,a2,⟨a3,a4,a5,a6⟩,⟨H.P.sec' a8 A0 a7,H.dk,H.inv,H.ks⟩,.disk a8 A0⟩
theorem LU.rowNew{w w':World}(u:LU J w w'){g:Nat}{t:TypeId}{xs:List Value}(h:Row w g t xs)(hf:∀k∈J.fix,k<g)(ht:¬zid t):Row w' g t xs:=u.row h (λhm=>by have:=hf g hm;omega) ht
def z6e(Q:Exit->Act->World->Prop):Exit->Act->World->Prop
 | .panic _,_,_=>False
 | e,a,w=>Q e a w
theorem zj5{P:Program}{c:Code}{K:Act->World->Prop}{Q:Exit->Act->World->Prop}{a:Act}{w:World}(h:c.wp P (Exit.then K (z6e Q)) a w):c.wp P (Exit.then K Q) a w :=
 wp_mono h (λe a w hq=>by
  cases e
  case normal=>exact hq
  case panic=>exact hq.elim
  all_goals exact hq)
theorem zpw{ws l:List Int}(h:ws.length=l.length):splice ws 0 l=l:=by
 unfold splice;rw[List.drop_of_length_le (by omega)];simp
theorem HV.gne{B h g bn:Nat}{V:Nat->Option (List Int)}(H:HV w B h g NW V bn){x:Nat}{t:TypeId}{xs:List Value}(hr:Row w x t xs)(ht:t≠147):x≠g:=λe=>by
 subst e;obtain⟨S',⟨⟨vb,hx⟩,-⟩,-⟩:=H.at_;have h1:=hx.data;rw[Row,show w.heap[x]?=_ from hr] at h1;cases h1
 exact ht rfl
theorem zvs{o:Ob}{s:Nat}{r:Rs}(hP:LmP w J K NW (S.sls.set s { S.sls.getD s z6 with res:=some r }) (upF S.V r.hb (some (Zc o))) (K+3) (xa S.sls) ((zc0 S.sls).set s true) T made U N F busy)(A0:S.dk=zt T)(A1:K<=800)
 (hi:qn (ka S s r (Zc o)) A K ex pe bl):Zh w J K NW N (ka S s r (Zc o)) A ex pe bl T made U F busy:=by
 refine⟨?_,A0,hi,A1⟩;have e1:=ko (l:=S.sls) (s:=s) (x:={ S.sls.getD s z6 with res:=some r }) rfl;have e2:=zi7 S.sls s { S.sls.getD s z6 with res:=some r };show LmP w J K NW (S.sls.set s { S.sls.getD s z6 with res:=some r }) (upF S.V r.hb (some (Zc o))) (K+3) (xa (S.sls.set s { S.sls.getD s z6 with res:=some r })) (zc0 (S.sls.set s { S.sls.getD s z6 with res:=some r })) T made U N F busy
 rw[e1,e2];exact hP
theorem zo2(H:Zh w J K NW N S A ex pe bl T made U F busy){s:Nat}{r:Rs}(hr:(S.sl s).res=some r)(g:Nat)(hg:g=w.heap.size) :
 Calls prog 118 #[.pointer (some ⟨J.c,0,none⟩),.slice (some ⟨g,0,none⟩) 1 1] (w.alloc (.cells #[.int .i64 s] 3)) λe w'=>e=.returned (.int .i64 0)/\Zh w' J K NW N S A ex pe bl T made U F busy/\LU J w w':=by
 subst hg;have hb:Below w.heap.size w (w.alloc (.cells #[.int .i64 s] 3)):=zn (Below.refl _ _);have HB:=H.below hb;have hs:=(H.inv.res_id hr).2.2;have A2:=H.P.clk.lt.2;have A1:=Row.made w [.int .i64 s] 3;refine(zrb HB.P.clk s (by omega) (by rw[zdk];unfold Lm.sl at hr;rw[hr];rfl) w.heap.size 0 1 (A1.cell (i:=0) rfl) (by omega)).mono ?_;rintro e w' ⟨rfl,hc,hu⟩;have A0:Upd [J.c,J.cp] (w.alloc (.cells #[.int .i64 s] 3)) w':=hu.mono (λx hx=>by simp at hx;simp[hx]);exact⟨rfl,⟨HB.P.clk' A0 hc,H.dk,H.inv,H.ks⟩,(LU.of_below hb).trans (.clock A0)⟩
def vu(w:World)(J:LmI)(K NW N:Nat)(S:Lm)(A:Nat->Option Ob)(made U:Nat)(F:Nat->Nat)(i:Nat)(e:Ending)(w':World):Prop :=
 LU J w w'/\∃s S' T' r,e=.returned (.tuple #[.pointer (some ⟨J.sl,s*3,none⟩),.int .i64 0])/\Zh w' J K NW N S' A [] (λ_=>False) (λ_=>False) T' made U F 0/\(S'.sl s).res=some r/\(S'.sl s).id=i
theorem zo7(H:Zh w J K NW N S A [] (λ_=>False) (λ_=>False) T made U F 0)(hk:1<=K)(O7:1000<=NW){i:Nat}{o:Ob}(ho:A i=some o)(hn:∀s,(S.sl s).id=i->(S.sl s).res=none)(hi:1<=i)(I2:i<1073741824) :
 Calls prog 119 #[.pointer (some ⟨J.m,0,none⟩),.int .i64 i] w (vu w J K NW N S A made U F i):=by
 have N3:∀(fn:Fn) (first cap:Array Value) (w:World),(Instr.makeFunc fn first cap).run prog w=.ok (.func fn first cap) w:=λ_ _ _ _=>rfl
 have hK:=H.ks;have I3:=H.inv.good _ _ ho;have HH:=zh H;have HO:=zh ho;have HN:=zh hn;have HG:=zh I3;clear H ho hn I3;go_enter_defers func119,ntmps119;go_wp2_with fail;obtain⟨q,hq⟩:=zx (w.heap.size);obtain⟨w1,D4⟩:=zx (w.alloc (.cells #[.pointer (some ⟨J.m,0,none⟩)] 30));have E7:Below w.heap.size w w1:=by rw[D4];exact zn (Below.refl _ _)
 have D5:Row w1 q 30 [.pointer (some ⟨J.m,0,none⟩)]:=by rw[D4,hq];exact Row.made _ _ _
 have I4:=zh (HH.below E7);have I5:=zh (LU.of_below (J:=J) E7);have I6:=zh D5;have A2:Hid (∀k∈J.fix,k<q):=by rw[hq];exact HH.fixlt
 have HB:=zh (z11 I4 hk hi I2);rw[<-D4,<-hq];have cq:=D5.cell (i:=0) rfl;have ql:=D5.lt;clear D4 hq E7 D5;go_wp2_with fail;go_call HB as e w2 ⟨E8,s,S2,T2,O8,hs,rfl,A4,A9,I7⟩
 have A3:∀t,(S2.sl t).id=i->(S2.sl t).res=none:=λt ht=>by
  rcases Classical.em ((S2.sl t).res=none) with h|h
  ·exact h
  ·obtain⟨h1,h2⟩:=I7.res t h;rw[ht] at h2;rw[h1];exact HN t h2.symm
 have I8:S2.dk i=some o:=by rw[A4.inv.away i A3];exact HO
 have I9:=zh (A3 s A9);have C2:=zh A9;have A5:=zh (E8.rowNew I6.out A2.out (by decide));have cq2:=A5.cell (i:=0) rfl;have ql2:=A5.out.lt;have E9:Hid (Zh (w2.setCell ⟨J.m,5,none⟩ (.int .i64 s)) J K NW N S2 A [] (λt=>t=s) (λ_=>False) T2 made U F s):=⟨A4.P.setBusy s,A4.dk,A4.inv,A4.ks⟩;have J0:=zh (I5.trans (E8.trans (LU.setM J w2 5 (.int .i64 s))));have B0:=zh ((LU.setM J w2 5 (.int .i64 s)).rowNew A5.out A2.out (by decide));have m5:=A4.P.head.cell (i:=5) rfl;have mf:=A4.P.head.free 5;have ml:=A4.P.head.lt;have cq3:=B0.cell (i:=0) rfl;have m03:=E9.P.head.cell (i:=0) rfl;have J1:=zh (zdu E9 i I2 o I8);clear E8 A4 A9 I7 A3 I8 HB HN cq ql I4 I5 I6;go_wp2_with fail;go_call J1 as e w4 ⟨d,rfl,J2,F0,J3,J4,F1⟩;have J5:=zh (F1.rowNew B0.out A2.out (by decide));have F2:=zh J4;have J6:=zh (J0.trans F1);have C3:=zh J3;have D6:=zh J2;clear J2 F0 J3 J4 F1 J1 E9 J0 B0 A5 cq2 ql2 m5 mf ml cq3 m03;go_wp2_with fail;obtain⟨p,hp⟩:=zx (w4.heap.size);obtain⟨w5,D7⟩:=zx (w4.alloc (.cells #[.int .i64 d.cls,.int .i64 d.kind,.slice d.wa d.wn d.wc,.slice d.ba d.bn d.bc] 28));have C4:Below w4.heap.size w4 w5:=by rw[D7];exact zn (Below.refl _ _)
 have F3:Row w5 p 28 [.int .i64 d.cls,.int .i64 d.kind,.slice d.wa d.wn d.wc,.slice d.ba d.bn d.bc]:=by rw[D7,hp];exact Row.made _ _ _
 rw[<-D7,<-hp];have B1:Hid (∀k∈J.fix,k<p):=by rw[hp];exact F2.fixlt
 have J7:Calls prog 152 #[.agg #[.int .i64 d.cls,.int .i64 d.kind,.slice d.wa d.wn d.wc,.slice d.ba d.bn d.bc]] w5 (zjz w5 o):=zu2 d o w5 (D6.below C4) C3 HG;have J8:=zh J7;have J9:=zh F3;have K0:=zh ((LU.of_below (J:=J) C4).rowNew J5.out A2.out (by decide));have K1:=zh (F2.below C4);have K2:=zh (J6.trans (.of_below C4));have K3:p<w5.heap.size:=F3.lt;have N4:=zh K3;have N5:Hid (d.kind=o.kind):=C3.out.kind
 have K4:Hid (∀v,Calls prog 78 #[.agg #[.int .i64 d.cls,.int .i64 d.kind,.slice d.wa d.wn d.wc,.slice d.ba d.bn d.bc]] v λe w'=>e=.returned (.int .i64 o.size)/\Below v.heap.size v w'):=λv=>by
  have:=zcu d v
  have N6:(if d.kind=1 then d.wn else if d.kind=2 then d.bn else 0)=o.size:=by
   have h1:=D6.out.wl;have h2:=D6.out.bl;rw[C3.out.kind];rcases HG.out.kinds with⟨a,_,_,b⟩|⟨a,_,_,b⟩
   ·rw[if_pos a,b,h1,C3.out.W]
   ·rw[if_neg (by omega),if_pos a,b,h2,C3.out.B]
  rwa[N6] at this
 clear D7 hp C4 F3 J5 F2 J6 J7 K3 D6;go_wp2_with fail;go_call J8 as e w6 ⟨g,rfl,K5,N7,C5⟩;have N8:Hid (∀k∈J.fix,k<g):=λk hk=>by have:=B1.out k hk;have:=N4.out;omega
 have K6:=zh K5;have D8:=zh ((LU.of_below (J:=J) C5).rowNew K0.out A2.out (by decide));have K7:=zh ((LU.of_below (J:=J) C5).rowNew J9.out B1.out (by decide));have K8:=zh (K1.below C5);have K9:=zh (K2.trans (.of_below C5))
 have N9:(Zc o).length<=1000:=by
  rw[zch HG.out];have:=HG.out.size_le;unfold nWd;split<;>omega
 obtain⟨n,hn⟩:=zx ((Zc o).length);rw[<-hn] at N9 ⊢;have L0:=zh (zx9 (LU.refl J w6) K8.out (λ_=>rfl) n (by omega) (by omega));have L1:=zh hn;have cq6:=D8.cell (i:=0) rfl;have ql6:=D8.out.lt;clear K5 N7 C5 K0 K1 K2 J9 J8 hn;go_wp2_with fail;go_call L0 as e w7 ⟨C6,B8,S7,T7,ws,rfl,B9,F4,B2,F5⟩;have D9:=zh (C6.rowNew D8.out A2.out (by decide));have L2:=zh (C6.rowNew K7.out B1.out (by decide));have F6:=C6.rowNew K6.out N8.out (by decide);have C7:=zh B9;have L3:=zh (K9.trans C6);have O0:=zh F4;have B3:Hid ((S7.sl s).id=i):=(F5.own (by omega)).trans C2.out
 have F7:Hid ((S7.sl s).res=none):=by
  rcases Classical.em ((S7.sl s).res=none) with h|h
  ·exact h
  ·exact absurd ((F5.res s h).1▸I9) h
 have F8:=zor B9.P.heap F4 0 (some ⟨g,0,none⟩) n n (Zc o) L1.out (by rw[B2];omega) (F6.reads (off:=0) (λi u h=>by simpa using h)) (λx hx=>by cases hx;exact B9.P.heap.gne F6 (by decide)) (zfw HG.out);rw[zpw (by rw[B2];exact L1)] at F8;have L4:=zh F8;have cq7:=D9.cell (i:=0) rfl;have ql7:=D9.out.lt;have k1:=B9.P.head.cell (i:=1) rfl;have ml:=B9.P.head.lt;clear C6 B9 F4 B2 F5 F6 F8 D8 K7 K8 K9 K6 L0 cq6 ql6 C2 I9;go_wp2_with fail;go_call L4 as e w8 ⟨rfl,L5,C8⟩;have F9:=zh ((LU.of_hupd (J:=J) C8).rowNew D9.out A2.out (by decide));have G0:=zh ((LU.of_hupd (J:=J) C8).rowNew L2.out B1.out (by decide));have B4:=zh (C7.P.heap' C8 L5);have L6:=zh (L3.trans (.of_hupd C8));clear L5 C8 L4 D9 L2 L3 cq7 ql7 k1 ml;go_wp2_with fail
 have L7:∀z:World,Row z q 30 [.pointer (some ⟨J.m,0,none⟩)]->Row z J.m 69 (cn J K s)->Row z p 28 [.int .i64 d.cls,.int .i64 d.kind,.slice d.wa d.wn d.wc,.slice d.ba d.bn d.bc]->
  z.cell? ⟨q,0,none⟩=some (.pointer (some ⟨J.m,0,none⟩))/\z.cell? ⟨J.m,4,none⟩=some (.slice (some ⟨J.sl,0,none⟩) (K+1) (K+1))/\z.cell? ⟨p,0,none⟩=some (.int .i64 d.cls)/\z.cell? ⟨p,1,none⟩=some (.int .i64 d.kind)/\z.cell? ⟨p,2,none⟩=some (.slice d.wa d.wn d.wc)/\z.cell? ⟨p,3,none⟩=some (.slice d.ba d.bn d.bc) :=
  λz h1 h2 h3=>⟨h1.cell (i:=0) rfl,h2.cell (i:=4) rfl,h3.cell (i:=0) rfl,h3.cell (i:=1) rfl,h3.cell (i:=2) rfl,h3.cell (i:=3) rfl⟩
 have B5:=zh L7;have O9:(s:Int)<(K:Int)+1:=by omega
 clear L7;refine zj5 ?_;refine zm (λz=>z.cell? ⟨q,0,none⟩=some (.pointer (some ⟨J.m,0,none⟩))/\z.cell? ⟨J.m,4,none⟩=some (.slice (some ⟨J.sl,0,none⟩) (K+1) (K+1))/\z.cell? ⟨p,0,none⟩=some (.int .i64 d.cls)/\z.cell? ⟨p,1,none⟩=some (.int .i64 d.kind)/\z.cell? ⟨p,2,none⟩=some (.slice d.wa d.wn d.wc)/\z.cell? ⟨p,3,none⟩=some (.slice d.ba d.bn d.bc)) (zp [0,1,2,3,4,5,6,7,8,1009,1010,1011,12,13,1014]) (by kernel_rfl) (by kernel_rfl) (λ_ _ _ _ _ h=>h) (B5.out _ F9.out.drew B4.out.head.drew G0.out.drew) ?_;have L8:=zh F9.drew;have L9:=zh G0.drew;have C9:=zh (B4.below (Zd (Below.refl _ _)));have M0:=zh (L6.trans (.of_below (Zd (Below.refl _ _))));clear F9 G0 B4 L6;generalize w8.drew=w9 at *
 (repeat (refine zi rfl (λK hK=>?_);go_simp;(try go_bits);refine hK _ ?_;clear hK K))
 refine zl (.pointer (some ⟨J.m,0,none⟩)) rfl rfl (λx hS=>by obtain⟨s0,s1,s2,s3,s4,s5⟩:=hS;go_simp) ?_
 (repeat (refine zi rfl (λK hK=>?_);go_simp;(try go_bits);refine hK _ ?_;clear hK K))
 refine zl (.slice (some ⟨J.sl,0,none⟩) (K+1) (K+1)) rfl rfl (λx hS=>by obtain⟨s0,s1,s2,s3,s4,s5⟩:=hS;go_simp) ?_
 (repeat (refine zi rfl (λK hK=>?_);go_simp;(try go_bits);refine hK _ ?_;clear hK K))
 refine zl (.int .i64 d.kind) rfl rfl (λx hS=>by obtain⟨s0,s1,s2,s3,s4,s5⟩:=hS;go_simp) ?_
 (repeat (refine zi rfl (λK hK=>?_);go_simp;(try go_bits);refine hK _ ?_;clear hK K))
 refine zl (.agg #[.int .i64 d.cls,.int .i64 d.kind,.slice d.wa d.wn d.wc,.slice d.ba d.bn d.bc]) rfl rfl (λx hS=>by obtain⟨s0,s1,s2,s3,s4,s5⟩:=hS;go_simp) ?_;refine zj rfl ?_;go_wp2_with fail;refine(K4 _).mono ?_;rintro e wa ⟨rfl,D0⟩;have E0:=zh ((LU.of_below (J:=J) D0).rowNew L8.out A2.out (by decide));have E1:=zh ((LU.of_below (J:=J) D0).rowNew L9.out B1.out (by decide));have A1:=zh (C9.below D0);have M1:=zh (M0.trans (.of_below D0));clear D0 L8 L9 C9 M0 K4;go_wp2_with fail;refine⟨B5 _ E0 A1.head E1,?_⟩;refine zj rfl ?_;go_wp2_with fail;refine⟨B5 _ E0 A1.head E1,?_⟩;refine zj rfl ?_;go_wp2_with fail;obtain⟨ad,G1⟩:=zx (wa.heap.size);obtain⟨wb,E2⟩:=zx (wa.alloc (.cells #[.int .i64 B8,.int .i64 d.kind,.int .i64 o.size,.bool false] 86));have D1:Below wa.heap.size wa wb:=by rw[E2];exact zn (Below.refl _ _)
 have M2:Row wb ad 86 [.int .i64 B8,.int .i64 d.kind,.int .i64 o.size,.bool false]:=by rw[E2,G1];exact Row.made _ _ _
 rw[<-E2,<-G1];have E3:=zh ((LU.of_below (J:=J) D1).rowNew E0.out A2.out (by decide));have E4:=zh ((LU.of_below (J:=J) D1).rowNew E1.out B1.out (by decide));have A0:=zh (A1.below D1);have M3:=zh (M1.trans (.of_below D1));have O1:=zh M2;obtain⟨r,hr⟩:∃r:Rs,r=⟨ad,B8,d.kind,o.size,false⟩:=⟨_,rfl⟩;have A8:=zh hr
 have G2:Hid (∀t q,(S7.sl t).res=some q->q.ad≠ad):=λt q hq=>by
  have:=(A1.out.resid t q hq).2.lt;omega
 have G3:Hid (J.B<=ad):=by
  obtain⟨S',⟨⟨vb,hx⟩,-⟩,-⟩:=A1.out.heap.at_;have h1:=hx.lo.1;have h2:=hx.head.lt;unfold Hid;omega
 clear E2 G1 D1 M2 hr E0 E1 A1 M1;refine⟨B5 _ E3 A0.head E4,?_⟩
 (repeat (refine zi rfl (λK hK=>?_);go_simp;(try go_bits);refine hK _ ?_;clear hK K))
 refine zj rfl ?_;have G4:s<S7.sls.length:=by rw[A0.out.len];omega
 have O2:=A0.slots.cell (Z6 G4).1;have O3:wb.frozen? ⟨J.sl,s*3,none⟩=false:=A0.slots.free _;have O4:=A0.out.slots.lt
 have hP:LmP (wb.setCell ⟨J.sl,s*3,none⟩ (.pointer (some ⟨ad,0,none⟩))) J K NW (S7.sls.set s { S7.sls.getD s z6 with res:=some r }) (upF S7.V B8 (some (Zc o))) (K+3) (xa S7.sls) (zc0 S7.sls) T7 made U N F s:=by
  have h1:=A0.setRes hs (some r) (λr' h=>by
   cases h
   rw[A8.out]
   exact⟨G3,O1⟩)
  have e:yx ⟨some r,0,0⟩=.pointer (some ⟨ad,0,none⟩):=by rw[A8.out];rfl
  rw[e] at h1;exact h1
 have B6:=zh hP;have hu:=LU.setSl J wb (s*3) (.pointer (some ⟨ad,0,none⟩));have G5:=zh (M3.trans hu);have C0:=zh (hu.rowNew E3.out A2.out (by decide));have G6:=zh (hu.rowNew E4.out B1.out (by decide));have O5:=zh G4;have M4:=zh (B5 _ E3 A0.head E4);clear hP hu A0 M3 E3 E4 G4;go_wp2_with fail;refine⟨?_,?_⟩
 ·obtain⟨b0,b1,b2,b3,b4,b5⟩:=M4.out;obtain⟨c0,c1,c2,c3,c4,c5⟩:=B5 _ C0 B6.head G6;exact⟨b0,b1,b2,b3,b4,c5⟩
 refine zo ?_;obtain⟨wc,M5⟩:=zx (wb.setCell ⟨J.sl,s*3,none⟩ (.pointer (some ⟨ad,0,none⟩)));rw[<-M5] at B6 G5 C0 G6 ⊢;clear M5 G6 M4 O2 O3 O4 B5;have cqc:=C0.cell (i:=0) rfl;have qlc:=C0.out.lt;have mc3:=B6.head.cell (i:=3) rfl;have mlc:=B6.out.head.lt;have M6:=zh (zve B6.out.clk s (by omega) true);go_wp2_with fail;go_call M6 as e wd ⟨rfl,M7,M8⟩;have A6:Upd [J.c,J.cp] wc wd:=M8.mono (λx hx=>by simp at hx;simp[hx]);have G7:=B6.clk' A6 M7
 have D2:qn (ka S7 s r (Zc o)) A K [] (λt=>t=s) (λk=>k=B8/\k≠r.hb):=by
  refine C7.out.inv.arrive (by rw[B3.out];omega) F7.out (by rw[B3.out];exact HO.out) (by rw[A8.out]) (by rw[A8.out];exact N5.out) (by rw[A8.out]) (by rw[A8.out]) (λt q hq=>by rw[A8.out];exact G2 t q hq)
 have B7:r.hb=B8:=by rw[A8.out]
 rw[<-B7] at G7;have G8:=zvs G7 C7.dk C7.ks D2
 have A7:((ka S7 s r (Zc o)).sl s).res=some r/\((ka S7 s r (Zc o)).sl s).id=i:=by
  have:(ka S7 s r (Zc o)).sl s = { S7.sl s with res:=some r }:=by
   have h:=Lm.sl_put (S:=S7) O5 { S7.sl s with res:=some r } s;rw[if_pos rfl] at h;exact h
  rw[this];exact⟨rfl,B3⟩
 obtain⟨S9,M9⟩:=zx (ka S7 s r (Zc o));rw[<-M9] at G8 A7
 have E5:Hid (Zh wd J K NW N S9 A [] (λ_=>False) (λ_=>False) T7 made U F s) :=
  (G8.mono (pe':=λ_=>False) (λt ht _ h2 _=>by rw[ht,A7.1] at h2;cases h2)).blEq (λk=>by simp[B7])
 have G9:=zh A7;have N0:=zh (G5.trans (.clock A6));have D3:=zh ((LU.clock (J:=J) A6).rowNew C0.out A2.out (by decide));clear M7 M8 A6 G7 D2 B7 G8 A7 M9 M6 B6 G5 C0 cqc qlc mc3 mlc C7 O0;have cqd:=D3.cell (i:=0) rfl;have qld:=D3.out.lt;have md3:=E5.P.head.cell (i:=3) rfl;have mld:=E5.P.head.lt;have N1:=zh (zo2 E5 G9.out.1 wd.heap.size rfl);have P0:=zh (D3.lt);go_wp2_with fail;go_call N1 as e we ⟨rfl,C1,I0⟩;have O6:=zh (N0.trans I0);have N2:=zh (I0.rowNew D3.out A2.out (by decide));have cqe:=N2.cell (i:=0) rfl;have qle:=N2.out.lt;have me4:=C1.P.head.cell (i:=4) rfl;have me5:=C1.P.head.cell (i:=5) rfl;have mle:=C1.P.head.lt;have mfr:=C1.P.head.free 5;have E6:=zh C1;clear C1 I0 N1 N0 D3 cqd qld md3 mld E5 N3;go_wp2;refine leaves_cons (f:=151) (args:=#[.pointer (some ⟨q,0,none⟩)]) (by simp) (by simp[go_sem]) ?_;refine(zu0 J.m q .returning we _ cqe me5 mfr).mono ?_;rintro e u' w'' ⟨rfl,rfl,rfl⟩
 have I1:Hid (vu w J K NW N S A made U F i (.returned (.tuple #[.pointer (some ⟨J.sl,s*3,none⟩),.int .i64 0])) (we.setCell ⟨J.m,5,none⟩ (.int .i64 0))) :=
  ⟨O6.out.trans (LU.setM J we 5 (.int .i64 0)),s,S9,T7,r,rfl,⟨E6.out.P.setBusy 0,E6.out.dk,E6.out.inv,E6.out.ks⟩,G9.out.1,G9.out.2⟩
 refine⟨.tuple #[.pointer (some ⟨J.sl,s*3,none⟩),.int .i64 0],?_,I1⟩
 first
  | exact results_tmp rfl _ _ _
  | simp[results,Tryz.results119,go_sem]
  | rfl
end
end Go.Proofs.YtoeibiahbenpcaaGreatDoor
