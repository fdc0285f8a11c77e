/- Part. -/
import Derived.Test.YtoeibiahbenpcaaGreatDoorA05
namespace Go.Proofs.YtoeibiahbenpcaaGreatDoor
open RowKit Maps Proofs.Tryz
set_option linter.unusedVariables false
set_option maxRecDepth 99999
set_option maxHeartbeats 9000000
theorem z2m{x y:Rw4}(h:Ap x y):rE x≠rE y:=λe=>by
 have h1:=zy8 e;have h2:=zer x;have h3:=zer y;unfold Ap at h;omega
theorem zex:∀ {M:List Rw4} {i:Nat} {y:Rw4},M.Pairwise Ap->M[i]?=some y->M.eraseIdx i=M.filter (λz=>!decide (rE z=rE y))
 | [],i,y,_,h=>by simp at h
 | z::M,0,y,hp,h=>by
  simp at h;subst h;rw[List.pairwise_cons] at hp;rw[List.eraseIdx_cons_zero,List.filter_cons_of_neg (by simp)];exact(List.filter_eq_self.2 (λu hu=>by have:=z2m (hp.1 u hu);simp;exact λe=>this e.symm)).symm
 | z::M,i+1,y,hp,h=>by
  rw[List.pairwise_cons] at hp;have hy:M[i]?=some y:=by simpa using h
  have:=z2m (hp.1 y (List.mem_of_getElem? hy));rw[List.eraseIdx_cons_succ,List.filter_cons_of_pos (by simpa using this),zex hp.2 hy]
def rest(L:List Rw4)(xs:List Ext):List Rw4:=L.filter (λy=>!decide (rE y∈xs))
theorem zw1(L:List Rw4):rest L []=L:=by unfold rest;exact List.filter_eq_self.2 (λu _=>by simp)
theorem zsg{L:List Rw4}(hp:L.Pairwise Ap){xs:List Ext}{j i:Nat}{y:Rw4}(hj:xs[j]?=some (rE y))(hi:(rest L (xs.take j))[i]?=some y):(rest L (xs.take j)).eraseIdx i=rest L (xs.take (j+1)):=by
 have A0:(rest L (xs.take j)).Pairwise Ap:=hp.filter _;rw[zex A0 hi];unfold rest;rw[List.filter_filter];congr 1;funext z;rw[List.take_add_one,hj];simp only[Option.toList_some,List.mem_append,List.mem_singleton];by_cases h1:rE z=rE y<;>by_cases h2:rE z∈xs.take j<;>simp[h1,h2]
def z3f(L:List Rw4)(xs:List Ext):Prop:=(∀x∈xs,∃y∈L,x=rE y)/\xs.Nodup
def z6o(I:SpI)(L:List Rw4)(N k:Nat)(xs:List Ext)(w:World)(e:Ending)(w':World):Prop :=
 Upd I.all w w'/\((¬z3f L xs/\e=.returned (.int .i64 4)/\SG w' I L N k)\/(z3f L xs/\e=.returned (.int .i64 0)/\SG w' I (rest L xs) N k))
theorem z59{w:World}{I:SpI}{L:List Rw4}{N k:Nat}(h:SG w I L N k)(a:Option Addr)(n c:Nat)(xs:List Ext)(e0:n=xs.length)(hm:n<=100000)(hc:n<=c)(hr:qr w a 3 exC xs)(B0:∀x∈xs,zni x)(hd:∀y,a=some y->y.block∉I.all) :
 Calls prog 100 #[.pointer (some ⟨I.m,0,none⟩),.slice a n c] w (z6o I L N k xs w):=by
 subst e0;obtain⟨S,h1,h2,h3,h4,h5,h6⟩:=h;have A3:=zh h1;have B1:=zh h2;have B7:=zh (And.intro h3 (And.intro h4 (And.intro h5 h6)));have HR:=zh hr;have D9:=zh B0;have HD:=zh hd;have F3:=zh h1.lt;clear h1 h2 h3 h4 h5 h6 hr B0 hd;go_enter func100,ntmps100;go_wp2;go_loopw [13] (λi wr=>∃k:Nat,k<=xs.length/\i=.int .i64 k/\Hid (∀x∈xs.take k,S.f x=true)/\Hid (xs.take k).Nodup/\Hid (Below w.heap.size w wr)) (λi _=>xs.length-(intOf i).toNat)
 case atStart=>exact⟨0,Nat.zero_le _,rfl,λx hx=>by simp at hx,by simp[Hid],Below.refl _ _⟩
 case round =>
  obtain⟨j,hj,rfl,HF,C7,HB⟩:=hrel;by_cases A0:j<xs.length
  ·obtain⟨b,off,rfl,hb,c0,c1,c2⟩:=zjh (HR.below HB) A0;have A6:=D9 _ (zfg A0);obtain⟨p,q,r,C8⟩:∃p q r,zl5 xs j=(p,q,r):=⟨_,_,_,rfl⟩;rw[C8] at c0 c1 c2 A6;have C9:=zh A6;have E0:=zh C8;clear C8 hb A6;obtain⟨X,hX⟩:=zx (wr.heap.size);obtain⟨W,hW⟩:=zx (wr.alloc (.cells #[.int .i64 p,.int .i64 q,.int .i64 r] 152));have bW:Below wr.heap.size wr W:=by rw[hW];exact(Below.refl _ _).alloc (Nat.le_refl _) _
   have rX:Row W X 152 [.int .i64 p,.int .i64 q,.int .i64 r]:=by rw[hW,hX];exact Row.made wr _ _
   have HW:=zh hW;have D0:=zh hX;have B8:=zh (zy HB bW);have x0:=rX.cell (i:=0) rfl;have x1:=rX.cell (i:=1) rfl;have x2:=rX.cell (i:=2) rfl;have A4:=zh rX;clear hW hX bW rX;go_wp2_with fail;rw[<-HW.out,<-D0.out];clear c0 c1 c2 HW;have B9:Hid (yu W I S):=A3.below B8;have k2:=B9.row.cell (i:=2) rfl;refine zm (λz=>z.cell? ⟨I.m,2,none⟩=some (.map (some I.mp))/\z.cell? ⟨X,0,none⟩=some (.int .i64 p)/\z.cell? ⟨X,1,none⟩=some (.int .i64 q)/\z.cell? ⟨X,2,none⟩=some (.int .i64 r)/\ji z I.mp S.c S.f) (zp [0,1,2,3,4,5,6,7,8,9,10,11,1012,13]) (by kernel_rfl) (by kernel_rfl) (λ_ _ _ _ _ h=>h) ⟨k2,x0,x1,x2,B9.out.lv.keep (l:=[]) (Upd.refl _ _).drew (by simp)⟩ ?_;have HS:Hid (W.drew.cell? ⟨I.m,2,none⟩=some (.map (some I.mp))/\W.drew.cell? ⟨X,0,none⟩=some (.int .i64 p)/\W.drew.cell? ⟨X,1,none⟩=some (.int .i64 q)/\W.drew.cell? ⟨X,2,none⟩=some (.int .i64 r)/\ji W.drew I.mp S.c S.f):=⟨k2,x0,x1,x2,B9.out.lv.keep (l:=[]) (Upd.refl _ _).drew (by simp)⟩;clear k2 x0 x1 x2
   (repeat (refine zi rfl (λK hK=>?_);go_simp;(try go_bits);refine hK _ ?_;clear hK K))
   refine zl (.map (some I.mp)) rfl rfl (λx hS=>by obtain⟨s0,s1,s2,s3,s4⟩:=hS;go_simp) ?_;refine zl (.agg #[.int .i64 p,.int .i64 q,.int .i64 r]) rfl rfl (λx hS=>by obtain⟨s0,s1,s2,s3,s4⟩:=hS;go_simp) ?_
   refine za4 (.bool (S.f (p,q,r))) rfl rfl (λx hS=>by
    obtain⟨s0,s1,s2,s3,s4⟩:=hS;have h5:=s4.look C9;unfold exV at h5
    go_simp) (λK hK=>?_)
   refine hK _ ?_;clear hK K;obtain⟨vf,D1⟩:=zx (S.f (p,q,r));rw[<-D1];have E1:=zh D1;clear D1;have D2:=zh B8.drew;have C0:=zh (B9.below (Zd (Below.refl _ W)));have F4:Hid (qr W.drew (some ⟨b,off,none⟩) 3 exC (xs.take j)):=zxt (HR.below D2) j;generalize W.drew=wd at *;cases vf
   ·(repeat (refine zi rfl (λK hK=>?_);go_simp;(try go_bits);refine hK _ ?_;clear hK K))
    refine zj rfl ?_;go_wp2;refine⟨HS,?_⟩
    (repeat (refine zi rfl (λK hK=>?_);go_simp;(try go_bits);refine hK _ ?_;clear hK K))
    refine zo ?_
    have A5:¬z3f L xs:=λhf=>by
     obtain⟨y,hy,e⟩:=hf.1 _ (zfg A0);rw[E0.out] at e;have:=(B1.out.live (p,q,r)).2 ⟨y,hy,e⟩;rw[<-E1.out] at this;cases this
    go_wp2;go_ret;exact⟨.of_below D2,.inl ⟨A5,rfl,⟨S,C0,B1,B7⟩⟩⟩
   ·have G3:j<=c:=by omega
    (repeat (refine zi rfl (λK hK=>?_);go_simp;(try go_bits);refine hK _ ?_;clear hK K))
    refine zl (.agg #[.int .i64 p,.int .i64 q,.int .i64 r]) rfl rfl (λx hS=>by obtain⟨s0,s1,s2,s3,s4⟩:=hS;go_simp) ?_;refine zj rfl ?_;have D3:=zh (znr (some ⟨b,off,none⟩) j c (xs.take j) (p,q,r) wd (by simp;omega) F4.out (by omega));unfold exV at D3;go_wp2_with fail;go_call D3 as e w' ⟨rfl,A7⟩;have E2:=zh (zy D2 A7);have C0:=zh (C0.below A7);have E3:Hid (w'.cell? ⟨I.m,2,none⟩=some (.map (some I.mp))/\w'.cell? ⟨X,0,none⟩=some (.int .i64 p)/\w'.cell? ⟨X,1,none⟩=some (.int .i64 q)/\w'.cell? ⟨X,2,none⟩=some (.int .i64 r)/\ji w' I.mp S.c S.f):=⟨zu A7 HS.out.1,zu A7 HS.out.2.1,zu A7 HS.out.2.2.1,zu A7 HS.out.2.2.2.1,HS.out.2.2.2.2.keep (l:=[]) (.of_below A7) (by simp)⟩;clear A7 D3 HS
    have B4:xs.take (j+1)=xs.take j++[(p,q,r)]:=by
     rw[List.take_add_one,zdr A0,E0.out];rfl
    by_cases B2:(p,q,r)∈xs.take j
    ·have A5:¬z3f L xs:=λhf=>by
      have h1:=(List.take_sublist (j+1) xs).nodup hf.2;rw[B4,List.nodup_append] at h1;exact h1.2.2 _ B2 _ (by simp) rfl
     have D4:=zh A5;rw[show decide ((p,q,r)∈xs.take j)=true from decide_eq_true B2];clear A5 B2 B4;go_wp2;refine⟨E3,?_⟩
     (repeat (refine zi rfl (λK hK=>?_);go_simp;(try go_bits);refine hK _ ?_;clear hK K))
     refine zo ?_;go_wp2;go_ret;exact⟨.of_below E2,.inl ⟨D4,rfl,⟨S,C0,B1,B7⟩⟩⟩
    ·have F5:Hid (∀x∈xs.take (j+1),S.f x=true):=λx hx=>by
      rw[B4] at hx;rcases List.mem_append.1 hx with h1|h1
      ·exact HF x h1
      ·rw[List.mem_singleton] at h1;subst h1;exact E1.symm
     have D5:Hid (xs.take (j+1)).Nodup:=by
      unfold Hid;rw[B4,List.nodup_append];exact⟨C7.out,by simp,λx hx y hy=>by simp at hy;subst hy;exact λe=>B2 (e▸hx)⟩
     rw[show decide ((p,q,r)∈xs.take j)=false from decide_eq_false B2];clear B2 B4;go_wp2;refine⟨E3,?_⟩
     (repeat (refine zi rfl (λK hK=>?_);go_simp;(try go_bits);refine hK _ ?_;clear hK K))
     refine zo ?_;go_wp2;go_roundw
     case rel=>exact⟨j+1,by omega,by go_num,F5.out,D5.out,E2.out⟩
     case measure=>simp[intOf];omega
  ·obtain rfl:j=xs.length:=by omega
   have A8:z3f L xs:=⟨λx hx=>(B1.out.live x).1 (HF.out x (by rw[List.take_length];exact hx)),by have:=C7.out;rwa[List.take_length] at this⟩;have A1:=zh A8;have C1:Hid (SG wr I L N k):=⟨S,A3.below HB,B1,B7⟩;have E4:=zh (HR.below HB);have F6:=zh C1.apart;have F7:Hid (∀k∈I.all,k<wr.heap.size):=C1.out.lt;have E5:Hid (Upd I.all w wr):=.of_below HB;clear A8 HF C7 HB A3 B1 B7 HR F3 A0;go_wp2;obtain⟨w1,E6⟩:=zx (wr);rw[<-E6] at C1 E4 F7 E5 ⊢;clear E6;go_loopw [35] (λi wr=>∃j:Nat,j<=xs.length/\i=.int .i64 j/\Hid (SG wr I (rest L (xs.take j)) N k)/\Hid (Upd I.all w1 wr)) (λi _=>xs.length-(intOf i).toNat)
   case atStart=>exact⟨0,Nat.zero_le _,rfl,by unfold Hid;rw[List.take_zero,zw1];exact C1,Upd.refl _ _⟩
   case round =>
    obtain⟨j,hj,rfl,HG,HU⟩:=hrel;by_cases A0:j<xs.length
    ·have A6:=D9 _ (zfg A0);obtain⟨y,E7,C2⟩:=A1.out.1 _ (zfg A0)
     have C3:y∈rest L (xs.take j):=by
      unfold rest;rw[List.mem_filter];refine⟨E7,?_⟩;have h1:=(List.take_sublist (j+1) xs).nodup A1.out.2;rw[List.take_add_one,zdr A0,C2,List.nodup_append] at h1;have h2:rE y∉xs.take j:=λhm=>h1.2.2 _ hm _ (by simp) rfl
      simpa using h2
     obtain⟨i,hi⟩:=List.getElem?_of_mem C3;have A9:=zsg F6.out (j:=j) (by rw[zdr A0,C2]) hi;obtain⟨b,off,rfl,hb,c0,c1,c2⟩:=zjh (zow E4 HU HD) A0;obtain⟨S2,B3,C4,E8⟩:=HG.out;have D6:=C4.fit y C3;have B5:=C4.run C3;have F8:=zer y;have D7:=C4.wipe hi;rw[A9] at D7;rw[C2] at c0 c1 c2 A6;simp only[rE] at c0 c1 c2 A6;have E9:=HG.out.lt;clear C2 E7 C3 hi A9 C4 hb HG;generalize y.1=F at *;generalize rN y=nn at *;generalize y.2.length=sz at *;have G4:=B3.dk.small;obtain⟨X,hX⟩:=zx (wr.heap.size);obtain⟨W,hW⟩:=zx (wr.alloc (.cells #[.int .i64 F,.int .i64 nn,.int .i64 sz] 152));have bW:Below wr.heap.size wr W:=by rw[hW];exact(Below.refl _ _).alloc (Nat.le_refl _) _
     have rX:Row W X 152 [.int .i64 F,.int .i64 nn,.int .i64 sz]:=by rw[hW,hX];exact Row.made wr _ _
     have F0:X∉I.all:=λhm=>by have:=E9 _ hm;omega
     have F9:=zh F0;have HW:=zh hW;have D0:=zh hX;have B6:=zh (HU.trans (.of_below bW));have A3:=zh (B3.below bW);have D8:=zh B5;have G0:=zh D7;have G1:=zh E8;have C9:=zh A6;have x0:=rX.cell (i:=0) rfl;have x1:=rX.cell (i:=1) rfl;have x2:=rX.cell (i:=2) rfl;have k1:=A3.row.cell (i:=1) rfl;have A4:=zh rX;clear hX hW bW rX B3 B5 D7 E8 A6 E9 F0 HU;go_wp2_with fail;rw[<-HW.out,<-D0.out];clear c0 c1 c2 HW;have B0:ze1 S2.N (F:Int) (nn:Int):=⟨by omega,by omega,by omega⟩;have A2:jt S2.b (F:Int).toNat (nn:Int).toNat true:=by rw[Int.toNat_natCast,Int.toNat_natCast];exact D8
     have hE:zqx S2.b S2.N (F:Int) (nn:Int) true 4=0:=by unfold zqx;rw[if_pos B0,if_pos A2]
     have F1:zqy S2.b S2.N (F:Int) (nn:Int) true=jx S2.b F nn false:=by unfold zqy;rw[if_pos ⟨B0,A2⟩,Int.toNat_natCast,Int.toNat_natCast];rfl
     have G2:=zh hE;have B8:=zh F1;clear B0 A2 hE F1;refine zm (λz=>z.cell? ⟨I.m,1,none⟩=some (.pointer (some ⟨I.bm,0,none⟩))/\z.cell? ⟨X,0,none⟩=some (.int .i64 F)/\z.cell? ⟨X,1,none⟩=some (.int .i64 nn)/\z.cell? ⟨X,2,none⟩=some (.int .i64 sz)) (zp [0,1,2,3,4,5,6,7,1008]) (by kernel_rfl) (by kernel_rfl) (λ_ _ _ _ _ h=>h) ⟨k1,x0,x1,x2⟩ ?_;clear k1 x0 x1 x2
     (repeat (refine zi rfl (λK hK=>?_);go_simp;(try go_bits);refine hK _ ?_;clear hK K))
     refine zl (.pointer (some ⟨I.bm,0,none⟩)) rfl rfl (λx hS=>by obtain⟨s0,s1,s2,s3⟩:=hS;go_simp) ?_
     (repeat (refine zi rfl (λK hK=>?_);go_simp;(try go_bits);refine hK _ ?_;clear hK K))
     refine zl (.int .i64 F) rfl rfl (λx hS=>by obtain⟨s0,s1,s2,s3⟩:=hS;go_simp) ?_
     (repeat (refine zi rfl (λK hK=>?_);go_simp;(try go_bits);refine hK _ ?_;clear hK K))
     refine zl (.int .i64 nn) rfl rfl (λx hS=>by obtain⟨s0,s1,s2,s3⟩:=hS;go_simp) ?_;refine zj rfl ?_;have hT:=zvl _ _ _ _ W.drew (A3.out.bt.keep (l:=[]) (Upd.refl _ _).drew (by simp) (by simp)) (F:Int) (nn:Int) (by omega) (by omega) (by omega);unfold gz at hT;rw[G2.out,B8.out] at hT;have HT:=zh hT;clear hT;go_wp2_with fail;go_call HT as e v2 ⟨rfl,hm,hu⟩;have C5:Upd [I.bg] W v2:=((Upd.refl _ _).drew).trans hu;have A3:Hid (yu v2 I { S2 with b:=jx S2.b F nn false }):=A3.bits hm C5;have A4:=zh (A4.out.keep C5 (λhm=>F9.out (by simp at hm;simp[SpI.all,hm])));have B6:=zh (B6.out.trans (C5.mono (m:=I.all) (by simp[SpI.all])));clear hm hu C5 HT;go_wp2;refine⟨⟨A3.row.cell (i:=1) rfl,A4.cell (i:=0) rfl,A4.cell (i:=1) rfl,A4.cell (i:=2) rfl⟩,?_⟩;refine zo ?_;have x0:=A4.cell (i:=0) rfl;have x1:=A4.cell (i:=1) rfl;have x2:=A4.cell (i:=2) rfl;have F2:=zh (zzh A3 F nn (sz:Int) D6 C9);go_wp2_with fail;go_call F2 as e v4 ⟨rfl,B3,hu⟩;have HG:Hid (SG v4 I (rest L (xs.take (j+1))) N k):=⟨_,B3,G0,G1⟩;have B6:=zh (B6.out.trans (hu.mono (m:=I.all) (by simp[SpI.all])));clear B3 hu x0 x1 x2 F2;go_wp2;go_roundw
     case rel=>exact⟨j+1,by omega,by go_num,HG.out,B6.out⟩
     case measure=>simp[intOf];omega
    ·obtain rfl:j=xs.length:=by omega
     have C6:=HG.out;rw[List.take_length] at C6;have C6:=zh C6;clear HG;go_wp2;go_ret;exact⟨E5.trans HU,.inr ⟨A1,rfl,C6⟩⟩
end Go.Proofs.YtoeibiahbenpcaaGreatDoor
