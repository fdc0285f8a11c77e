/- Part. -/
import Derived.Test.YtoeibiahbenpcaaGreatDoorA17
namespace Go.Proofs.YtoeibiahbenpcaaGreatDoor
open RowKit Maps Proofs.Tryz
set_option linter.unusedVariables false
set_option maxRecDepth 99999
set_option maxHeartbeats 9000000
theorem zkq{w:World}{b o c c':Nat}{xs ys:List Value}(h:zv w (some ⟨b,o,none⟩) c (xs++ys)):zv w (some ⟨b,o+xs.length,none⟩) c' ys:=by
 rcases h with⟨h,_⟩|⟨x,hx,h⟩
 ·cases h
 ·cases hx
  refine .inr ⟨_,rfl,λi u hu=>?_⟩;have:=h (xs.length+i) u (by rw[List.getElem?_append_right (by omega),Nat.add_sub_cancel_left];exact hu);rw[qk] at this ⊢;rwa[Nat.add_assoc]
theorem wu{w:World}{base:Nat}{e:TypeId}{size:Nat}{a:Option Addr}{n c:Nat}{xs:List Value}(h:w.ownsRow base e size (.slice a n c) n xs):c<=9223372036854775807:=by
 rcases h.2 with⟨h,_⟩|⟨g,cap,cur,hv,_,_,_,A0,_⟩
 ·cases h;omega
 ·cases hv;unfold maxLen at A0;omega
theorem z5b(a:Option Addr)(n c:Nat)(l:List Int)(w:World)(e0:n=l.length)(h:zv w a c (l.map (Value.int .u8)))(hb:Byt l)(hn:12<=n)(hc:n<=c)(hm:n<=100000)(k1:zhe l=2):Calls prog 87 #[.slice a n c] w (zj0 l w):=by
 subst e0;have HG:=zh (λw' (h':zv w' a c (l.map (Value.int .u8))) p (hp:-9223372036854775808<=p/\p<=9223372036854775807)=>z16 a l.length c l p w' rfl hc (by omega) h' hb hp.1 hp.2);have HR:=zh h;clear h;obtain⟨C,hC⟩:=zx (zh0 l 0);have K1:zh0 l 4=2:=k1;have E7:zl6 l=[]:=by unfold zl6;rw[if_neg (by omega)]
 have E8:zl7 l=l.drop 12:=by unfold zl7;rw[if_pos k1]
 have E9:zhe l=2:=k1;have A6:=zh (And.intro E7 (And.intro E8 E9));clear k1 E7 E8 E9;go_enter func87,ntmps87;go_wp2_with fail;refine(HG.out _ ((HR.out.alloc _)) 0 (by decide)).mono ?_;rintro e w' ⟨rfl,rfl⟩;rw[<-hC];have C4:=zh hC;clear hC;go_wp2_with fail;refine(HG.out _ ((HR.out.alloc _)) 4 (by decide)).mono ?_;rintro e w' ⟨rfl,rfl⟩;rw[K1];go_wp2_with fail;obtain⟨w2,C5⟩:=zx (((w.alloc (.cells #[.int .i64 0,.int .i64 0,.slice none 0 0,.slice none 0 0] 28)).alloc (.cells #[.int .i64 C,.int .i64 2,.slice none 0 0,.slice none 0 0] 28)))
 have C6:Row w2 (w.heap.size+1) 28 [.int .i64 C,.int .i64 2,.slice none 0 0,.slice none 0 0]:=by
  rw[C5];have:=Row.made (w.alloc (.cells #[.int .i64 0,.int .i64 0,.slice none 0 0,.slice none 0 0] 28)) [.int .i64 C,.int .i64 2,.slice none 0 0,.slice none 0 0] 28;simpa using this
 have B4:Row w2 w.heap.size 28 [.int .i64 0,.int .i64 0,.slice none 0 0,.slice none 0 0]:=by
  rw[C5];exact(Row.made w [.int .i64 0,.int .i64 0,.slice none 0 0,.slice none 0 0] 28).alloc _
 have C7:Below w.heap.size w w2:=by rw[C5];exact zn ((Below.refl _ w).alloc (Nat.le_refl _) _)
 have F0:w2.heap.size=w.heap.size+2:=by rw[C5];simp
 rw[<-C5];have B5:=zh C6;have A7:=zh B4;have B6:=zh C7;obtain⟨p0,D8⟩:=zx (w.heap.size);obtain⟨p1,D9⟩:=zx (w.heap.size+1);rw[<-D9] at B5 ⊢;rw[<-D8] at A7 ⊢;have HP:=zh (And.intro D8 (And.intro D9 F0));clear C6 B4 C7 C5 F0 D8 D9;go_loopw [9] (λi wr=>i=.int .i64 12/\w2=wr) (λi _=>1-(intOf i).toNat)
 case atStart=>exact⟨rfl,rfl⟩
 case round =>
  obtain⟨rfl,rfl⟩:=hrel;have B7:0<(l.map (Value.int .u8)).length:=by simp;omega
  obtain⟨b,of,rfl,-,-⟩:=HR.at B7;by_cases F1:c=12
  ·have E0:l.length=12:=by omega
   have C8:zv w2 (some ⟨b,of,none⟩) 0 ((l.drop 12).map (Value.int .u8)):=by
    rw[List.drop_of_length_le (by omega)];exact zv.empty (λh=>by cases h)
   have C9:=zh (zjv ⟨b,of,none⟩ (l.length-12) 0 (l.drop 12) w2 (by simp) C8 (by omega));clear C8 E0 B7;go_wp2_with fail;refine C9.mono ?_;clear C9 F1;rintro e w3 ⟨v3,rfl,own3,b3⟩;have B8:(l.drop 12).length=l.length-12:=by simp
   rw[B8] at own3;obtain⟨va,vc,rfl,D0,D1,D2⟩:=zk own3;have B9:=zh (λx hx=>(D2 x hx).1);clear D2;have D3:=wu own3;obtain⟨e0,e1,e2⟩:=HP.out;have R1:Row w3 p1 28 [.int .i64 C,.int .i64 2,.slice none 0 0,.slice none 0 0]:=(b3.block p1 (by omega)).trans B5.out;have R0:Row w3 p0 28 [.int .i64 0,.int .i64 0,.slice none 0 0,.slice none 0 0]:=(b3.block p0 (by omega)).trans A7.out;have kc3:=R1.cell (i:=3) rfl;have kf3:=R1.free 3;obtain⟨wr,A4⟩:=zx (w3.setCell ⟨p1,3,none⟩ (.slice va (l.length-12) vc));have A5:Hid (Row wr p1 28 [.int .i64 C,.int .i64 2,.slice none 0 0,.slice va (l.length-12) vc]):=by rw[A4];exact R1.set 3 _
   have D4:Hid (Row wr p0 28 [.int .i64 0,.int .i64 0,.slice none 0 0,.slice none 0 0]):=by rw[A4];exact R0.setOther (p:=⟨p1,3,none⟩) (by show p1≠p0;omega) _
   have HB:Hid (Below w.heap.size w wr):=by rw[A4];exact(zy B6.out b3).setCell (p:=⟨p1,3,none⟩) (by show w.heap.size<=p1;omega) _
   have A8:zv wr va vc ((l.drop 12).map (Value.int .u8)):=by
    rw[A4];refine((Upd.refl [p1] w3).setCell (p:=⟨p1,3,none⟩) (by simp) _).reads D0 (λx hx=>?_);have:=B9.out x hx;simp;omega
   have F2:Hid (∀x,va=some x->w2.heap.size<=x.block):=B9.out;obtain⟨o,ho⟩:∃o:Za,o=⟨C,2,none,0,0,[],va,l.length-12,vc,l.drop 12⟩:=⟨_,rfl⟩
   have B2:o.ok wr:=by
    rw[ho];have F3:-2147483648<=C/\C<=2147483647:=by rw[C4.out];exact xv (p:=0)
    exact⟨by dsimp only;omega,by dsimp only;omega,rfl,⟨Nat.le_refl _,by dsimp only;omega⟩,zv.nil wr,λx hx=>by simp at hx,by dsimp only;omega,⟨D1,D3⟩,A8,λx hx=>hb x (List.mem_of_mem_drop hx)⟩
   have HE:=zh (zav o wr B2 (by rw[ho];dsimp only;omega));have hv:o.val=.agg #[.int .i64 C,.int .i64 2,.slice none 0 0,.slice va (l.length-12) vc]:=by rw[ho];rfl
   rw[hv] at HE;have E1:=zh B2
   have E2:Hid (xn w2.heap.size wr o):=by
    rw[ho,A4];refine⟨World.ownsRow_nil _ _ _ _,zap own3 (λq hq=>Below.heap_setCell _ _ _ _ ?_)⟩;have:=(own3.lt q hq).1;show q≠p1
    omega
   have A1:=zh ho;have F4:=zh B8;have j0:=A5.cell (i:=0) rfl;have j1:=A5.cell (i:=1) rfl;have j2:=A5.cell (i:=2) rfl;have j3:=A5.cell (i:=3) rfl;have D5:o.bn<=100000:=by rw[ho];dsimp only;omega
   have F5:=zh D5;subst A4;clear D0 D1 D3 B2 hv ho own3 b3 R1 R0 A8 B8 e0 e1 e2 D5;go_wp2_with fail;go_call HE as e w4 ⟨v4,rfl,own4,b4⟩;obtain⟨a4,c4,rfl,C0,-,-⟩:=zk own4;have R1:Row w4 p1 28 [.int .i64 C,.int .i64 2,.slice none 0 0,.slice va (l.length-12) vc]:=(b4.block p1 A5.lt).trans A5;have R0:Row w4 p0 28 [.int .i64 0,.int .i64 0,.slice none 0 0,.slice none 0 0]:=(b4.block p0 D4.lt).trans D4;have F6:=zh C0;have C1:=zh (E1.below b4);have C2:=zh (E2.below b4);have B3:=zh (zy HB b4)
   have A9:(zb0 o).length<=100000:=by
    unfold zb0;split
    ·rename_i B2
     rw[zat,A1.out];dsimp only;rw[List.length_drop];simp only[List.length_nil];omega
    ·simp
   have E3:=zh A9;have B0:=zh (zju a4 (some ⟨b,of,none⟩) (zb0 o).length l.length c4 c (zb0 o) l w4 rfl rfl C0 (HR.out.below B3.out) (by omega) (by omega));clear own4 C0 b4 j0 j1 j2 j3 HE A9
   have B1:cr l↔(zag o=0/\zb0 o=l):=by
    have e1:o.cls=zrq l:=by rw[A1.out];exact C4
    have e2:o.kind=zhe l:=by rw[A1.out];exact A6.out.2.2.symm
    have e3:o.W=zl6 l:=by rw[A1.out];exact A6.out.1.symm
    have e4:o.B=zl7 l:=by rw[A1.out];exact A6.out.2.1.symm
    unfold cr zag zb0;rw[e1,e2,e3,e4];by_cases hk:xk (zrq l) (zhe l) (zl6 l) (zl7 l)
    ·rw[if_pos hk,if_pos hk];exact⟨λh=>⟨rfl,h.2.2⟩,λh=>⟨hn,hk,h.2⟩⟩
    ·rw[if_neg hk];exact⟨λh=>absurd h.2.1 hk,λh=>by cases h.1⟩
   have A3:=zh B1;clear B1;obtain⟨n4,D6⟩:=zx ((zb0 o).length);rw[<-D6] at B0 ⊢;clear D6 E3;by_cases hE:zag o=0
   ·rw[hE];by_cases hq:zb0 o=l
    ·rw[decide_eq_true hq] at B0;have E4:=zh (A3.out.2 ⟨hE,hq⟩);clear hE hq;go_wp2_with fail;go_call B0 as e w5 ⟨rfl,b5⟩;have R15:Row w5 p1 28 [.int .i64 C,.int .i64 2,.slice none 0 0,.slice va (l.length-12) vc]:=(b5.block p1 R1.lt).trans R1;have R05:Row w5 p0 28 [.int .i64 0,.int .i64 0,.slice none 0 0,.slice none 0 0]:=(b5.block p0 R0.lt).trans R0;have i0:=R15.cell (i:=0) rfl;have i1:=R15.cell (i:=1) rfl;have i2:=R15.cell (i:=2) rfl;have i3:=R15.cell (i:=3) rfl;have o0:=R05.cell (i:=0) rfl;have o1:=R05.cell (i:=1) rfl;have o2:=R05.cell (i:=2) rfl;have o3:=R05.cell (i:=3) rfl;have f0:=R05.free 0;have f1:=R05.free 1;have f2:=R05.free 2;have f3:=R05.free 3;go_wp2;obtain⟨w6,A0⟩:=zx ((((w5.setCell ⟨p0,0,none⟩ (.int .i64 C)).setCell ⟨p0,1,none⟩ (.int .i64 2)).setCell ⟨p0,2,none⟩ (.slice none 0 0)).setCell ⟨p0,3,none⟩ (.slice va (l.length-12) vc));have R6:Row w6 p0 28 [.int .i64 C,.int .i64 2,.slice none 0 0,.slice va (l.length-12) vc]:=by rw[A0];exact(((R05.set 0 _).set 1 _).set 2 _).set 3 _
     have U6:Upd [p0] w5 w6:=by rw[A0];exact((((Upd.refl [p0] w5).setCell (by simp) _).setCell (by simp) _).setCell (by simp) _).setCell (by simp) _
     rw[<-A0];clear A0;have z0:=R6.cell (i:=0) rfl;have z1:=R6.cell (i:=1) rfl;have z2:=R6.cell (i:=2) rfl;have z3:=R6.cell (i:=3) rfl
     (try simp only[Exit.inBlock,Exit.then])
     refine bodyPost_ret (by rw[results_cell_tmp rfl];go_simp;rfl) rfl ?_;have hp:=HP.out;have A2:=zh (zy B3 b5);have ok5:=C1.below b5;have E5:o.wa=none:=by rw[A1.out]
     have E6:o.ba=va:=by rw[A1.out]
     refine⟨A2.out.trans (U6.below A2.out.size (λk hk=>by simp at hk;omega)),.inl ⟨E4.out,o,by rw[A1.out];rfl,⟨ok5.c0,ok5.k0,ok5.wl,ok5.wm,U6.reads ok5.wr (λx hx=>?_),ok5.wi,ok5.bl,ok5.bm,U6.reads ok5.br (λx hx=>?_),ok5.bb⟩,((C2.out.below b5).keep U6 (λk hk=>by simp at hk;omega)).mono (by omega),by rw[A1.out];exact C4.out,by rw[A1.out];exact A6.out.2.2.symm,by rw[A1.out];exact A6.out.1.symm,by rw[A1.out];exact A6.out.2.1.symm⟩⟩
     ·rw[E5] at hx;cases hx
     ·rw[E6] at hx;have:=B9.out x hx;simp;omega
    ·rw[decide_eq_false hq] at B0;have C3:=zh (show ¬cr l from λh=>hq (A3.out.1 h).2);clear hE hq;go_wp2_with fail;go_call B0 as e w5 ⟨rfl,b5⟩;have R05:Row w5 p0 28 [.int .i64 0,.int .i64 0,.slice none 0 0,.slice none 0 0]:=(b5.block p0 R0.lt).trans R0;have A2:=zh (zy B3 b5);have o0:=R05.cell (i:=0) rfl;have o1:=R05.cell (i:=1) rfl;have o2:=R05.cell (i:=2) rfl;have o3:=R05.cell (i:=3) rfl;have f0:=R05.free 0;have f1:=R05.free 1;have f2:=R05.free 2;have f3:=R05.free 3;go_wp2;obtain⟨w6,A0⟩:=zx ((((w5.setCell ⟨p0,0,none⟩ (.int .i64 0)).setCell ⟨p0,1,none⟩ (.int .i64 0)).setCell ⟨p0,2,none⟩ (.slice none 0 0)).setCell ⟨p0,3,none⟩ (.slice none 0 0));have R6:Row w6 p0 28 [.int .i64 0,.int .i64 0,.slice none 0 0,.slice none 0 0]:=by rw[A0];exact(((R05.set 0 _).set 1 _).set 2 _).set 3 _
     have U6:Upd [p0] w5 w6:=by rw[A0];exact((((Upd.refl [p0] w5).setCell (by simp) _).setCell (by simp) _).setCell (by simp) _).setCell (by simp) _
     rw[<-A0];clear A0;have z0:=R6.cell (i:=0) rfl;have z1:=R6.cell (i:=1) rfl;have z2:=R6.cell (i:=2) rfl;have z3:=R6.cell (i:=3) rfl
     (try simp only[Exit.inBlock,Exit.then])
     refine bodyPost_ret (by rw[results_cell_tmp rfl];go_simp;rfl) rfl ?_;have hp:=HP.out.1;exact⟨A2.out.trans (U6.below A2.out.size (λk hk=>by simp at hk;omega)),.inr ⟨C3.out,rfl⟩⟩
   ·have D7:zag o=2:=by
     unfold zag at hE ⊢;split
     ·rename_i hx;rw[if_pos hx] at hE;exact absurd rfl hE
     ·rfl
    rw[D7];have C3:=zh (show ¬cr l from λh=>hE (A3.out.1 h).1);clear hE D7;obtain⟨w5,rfl⟩:=zx (w4);have R05:=R0;have A2:=B3;have o0:=R05.cell (i:=0) rfl;have o1:=R05.cell (i:=1) rfl;have o2:=R05.cell (i:=2) rfl;have o3:=R05.cell (i:=3) rfl;have f0:=R05.free 0;have f1:=R05.free 1;have f2:=R05.free 2;have f3:=R05.free 3;go_wp2;obtain⟨w6,A0⟩:=zx ((((w5.setCell ⟨p0,0,none⟩ (.int .i64 0)).setCell ⟨p0,1,none⟩ (.int .i64 0)).setCell ⟨p0,2,none⟩ (.slice none 0 0)).setCell ⟨p0,3,none⟩ (.slice none 0 0));have R6:Row w6 p0 28 [.int .i64 0,.int .i64 0,.slice none 0 0,.slice none 0 0]:=by rw[A0];exact(((R05.set 0 _).set 1 _).set 2 _).set 3 _
    have U6:Upd [p0] w5 w6:=by rw[A0];exact((((Upd.refl [p0] w5).setCell (by simp) _).setCell (by simp) _).setCell (by simp) _).setCell (by simp) _
    rw[<-A0];clear A0;have z0:=R6.cell (i:=0) rfl;have z1:=R6.cell (i:=1) rfl;have z2:=R6.cell (i:=2) rfl;have z3:=R6.cell (i:=3) rfl
    (try simp only[Exit.inBlock,Exit.then])
    refine bodyPost_ret (by rw[results_cell_tmp rfl];go_simp;rfl) rfl ?_;have hp:=HP.out.1;exact⟨A2.out.trans (U6.below A2.out.size (λk hk=>by simp at hk;omega)),.inr ⟨C3.out,rfl⟩⟩
  ·have C8:zv w2 (some ⟨b,of+12,none⟩) (c-12) ((l.drop 12).map (Value.int .u8)):=by
    have hh:=HR.below B6;rw[<-List.take_append_drop 12 l,List.map_append] at hh;have:=zkq (c':=c-12) hh;rwa[List.length_map,List.length_take,Nat.min_eq_left hn] at this
   have C9:=zh (zjv ⟨b,of+12,none⟩ (l.length-12) (c-12) (l.drop 12) w2 (by simp) C8 (by omega));clear C8 B7;go_wp2_with fail;refine C9.mono ?_;clear C9 F1;rintro e w3 ⟨v3,rfl,own3,b3⟩;have B8:(l.drop 12).length=l.length-12:=by simp
   rw[B8] at own3;obtain⟨va,vc,rfl,D0,D1,D2⟩:=zk own3;have B9:=zh (λx hx=>(D2 x hx).1);clear D2;have D3:=wu own3;obtain⟨e0,e1,e2⟩:=HP.out;have R1:Row w3 p1 28 [.int .i64 C,.int .i64 2,.slice none 0 0,.slice none 0 0]:=(b3.block p1 (by omega)).trans B5.out;have R0:Row w3 p0 28 [.int .i64 0,.int .i64 0,.slice none 0 0,.slice none 0 0]:=(b3.block p0 (by omega)).trans A7.out;have kc3:=R1.cell (i:=3) rfl;have kf3:=R1.free 3;obtain⟨wr,A4⟩:=zx (w3.setCell ⟨p1,3,none⟩ (.slice va (l.length-12) vc));have A5:Hid (Row wr p1 28 [.int .i64 C,.int .i64 2,.slice none 0 0,.slice va (l.length-12) vc]):=by rw[A4];exact R1.set 3 _
   have D4:Hid (Row wr p0 28 [.int .i64 0,.int .i64 0,.slice none 0 0,.slice none 0 0]):=by rw[A4];exact R0.setOther (p:=⟨p1,3,none⟩) (by show p1≠p0;omega) _
   have HB:Hid (Below w.heap.size w wr):=by rw[A4];exact(zy B6.out b3).setCell (p:=⟨p1,3,none⟩) (by show w.heap.size<=p1;omega) _
   have A8:zv wr va vc ((l.drop 12).map (Value.int .u8)):=by
    rw[A4];refine((Upd.refl [p1] w3).setCell (p:=⟨p1,3,none⟩) (by simp) _).reads D0 (λx hx=>?_);have:=B9.out x hx;simp;omega
   have F2:Hid (∀x,va=some x->w2.heap.size<=x.block):=B9.out;obtain⟨o,ho⟩:∃o:Za,o=⟨C,2,none,0,0,[],va,l.length-12,vc,l.drop 12⟩:=⟨_,rfl⟩
   have B2:o.ok wr:=by
    rw[ho];have F3:-2147483648<=C/\C<=2147483647:=by rw[C4.out];exact xv (p:=0)
    exact⟨by dsimp only;omega,by dsimp only;omega,rfl,⟨Nat.le_refl _,by dsimp only;omega⟩,zv.nil wr,λx hx=>by simp at hx,by dsimp only;omega,⟨D1,D3⟩,A8,λx hx=>hb x (List.mem_of_mem_drop hx)⟩
   have HE:=zh (zav o wr B2 (by rw[ho];dsimp only;omega));have hv:o.val=.agg #[.int .i64 C,.int .i64 2,.slice none 0 0,.slice va (l.length-12) vc]:=by rw[ho];rfl
   rw[hv] at HE;have E1:=zh B2
   have E2:Hid (xn w2.heap.size wr o):=by
    rw[ho,A4];refine⟨World.ownsRow_nil _ _ _ _,zap own3 (λq hq=>Below.heap_setCell _ _ _ _ ?_)⟩;have:=(own3.lt q hq).1;show q≠p1
    omega
   have A1:=zh ho;have F4:=zh B8;have j0:=A5.cell (i:=0) rfl;have j1:=A5.cell (i:=1) rfl;have j2:=A5.cell (i:=2) rfl;have j3:=A5.cell (i:=3) rfl;have D5:o.bn<=100000:=by rw[ho];dsimp only;omega
   have F5:=zh D5;subst A4;clear D0 D1 D3 B2 hv ho own3 b3 R1 R0 A8 B8 e0 e1 e2 D5;go_wp2_with fail;go_call HE as e w4 ⟨v4,rfl,own4,b4⟩;obtain⟨a4,c4,rfl,C0,-,-⟩:=zk own4;have R1:Row w4 p1 28 [.int .i64 C,.int .i64 2,.slice none 0 0,.slice va (l.length-12) vc]:=(b4.block p1 A5.lt).trans A5;have R0:Row w4 p0 28 [.int .i64 0,.int .i64 0,.slice none 0 0,.slice none 0 0]:=(b4.block p0 D4.lt).trans D4;have F6:=zh C0;have C1:=zh (E1.below b4);have C2:=zh (E2.below b4);have B3:=zh (zy HB b4)
   have A9:(zb0 o).length<=100000:=by
    unfold zb0;split
    ·rename_i B2
     rw[zat,A1.out];dsimp only;rw[List.length_drop];simp only[List.length_nil];omega
    ·simp
   have E3:=zh A9;have B0:=zh (zju a4 (some ⟨b,of,none⟩) (zb0 o).length l.length c4 c (zb0 o) l w4 rfl rfl C0 (HR.out.below B3.out) (by omega) (by omega));clear own4 C0 b4 j0 j1 j2 j3 HE A9
   have B1:cr l↔(zag o=0/\zb0 o=l):=by
    have e1:o.cls=zrq l:=by rw[A1.out];exact C4
    have e2:o.kind=zhe l:=by rw[A1.out];exact A6.out.2.2.symm
    have e3:o.W=zl6 l:=by rw[A1.out];exact A6.out.1.symm
    have e4:o.B=zl7 l:=by rw[A1.out];exact A6.out.2.1.symm
    unfold cr zag zb0;rw[e1,e2,e3,e4];by_cases hk:xk (zrq l) (zhe l) (zl6 l) (zl7 l)
    ·rw[if_pos hk,if_pos hk];exact⟨λh=>⟨rfl,h.2.2⟩,λh=>⟨hn,hk,h.2⟩⟩
    ·rw[if_neg hk];exact⟨λh=>absurd h.2.1 hk,λh=>by cases h.1⟩
   have A3:=zh B1;clear B1;obtain⟨n4,D6⟩:=zx ((zb0 o).length);rw[<-D6] at B0 ⊢;clear D6 E3;by_cases hE:zag o=0
   ·rw[hE];by_cases hq:zb0 o=l
    ·rw[decide_eq_true hq] at B0;have E4:=zh (A3.out.2 ⟨hE,hq⟩);clear hE hq;go_wp2_with fail;go_call B0 as e w5 ⟨rfl,b5⟩;have R15:Row w5 p1 28 [.int .i64 C,.int .i64 2,.slice none 0 0,.slice va (l.length-12) vc]:=(b5.block p1 R1.lt).trans R1;have R05:Row w5 p0 28 [.int .i64 0,.int .i64 0,.slice none 0 0,.slice none 0 0]:=(b5.block p0 R0.lt).trans R0;have i0:=R15.cell (i:=0) rfl;have i1:=R15.cell (i:=1) rfl;have i2:=R15.cell (i:=2) rfl;have i3:=R15.cell (i:=3) rfl;have o0:=R05.cell (i:=0) rfl;have o1:=R05.cell (i:=1) rfl;have o2:=R05.cell (i:=2) rfl;have o3:=R05.cell (i:=3) rfl;have f0:=R05.free 0;have f1:=R05.free 1;have f2:=R05.free 2;have f3:=R05.free 3;go_wp2;obtain⟨w6,A0⟩:=zx ((((w5.setCell ⟨p0,0,none⟩ (.int .i64 C)).setCell ⟨p0,1,none⟩ (.int .i64 2)).setCell ⟨p0,2,none⟩ (.slice none 0 0)).setCell ⟨p0,3,none⟩ (.slice va (l.length-12) vc));have R6:Row w6 p0 28 [.int .i64 C,.int .i64 2,.slice none 0 0,.slice va (l.length-12) vc]:=by rw[A0];exact(((R05.set 0 _).set 1 _).set 2 _).set 3 _
     have U6:Upd [p0] w5 w6:=by rw[A0];exact((((Upd.refl [p0] w5).setCell (by simp) _).setCell (by simp) _).setCell (by simp) _).setCell (by simp) _
     rw[<-A0];clear A0;have z0:=R6.cell (i:=0) rfl;have z1:=R6.cell (i:=1) rfl;have z2:=R6.cell (i:=2) rfl;have z3:=R6.cell (i:=3) rfl
     (try simp only[Exit.inBlock,Exit.then])
     refine bodyPost_ret (by rw[results_cell_tmp rfl];go_simp;rfl) rfl ?_;have hp:=HP.out;have A2:=zh (zy B3 b5);have ok5:=C1.below b5;have E5:o.wa=none:=by rw[A1.out]
     have E6:o.ba=va:=by rw[A1.out]
     refine⟨A2.out.trans (U6.below A2.out.size (λk hk=>by simp at hk;omega)),.inl ⟨E4.out,o,by rw[A1.out];rfl,⟨ok5.c0,ok5.k0,ok5.wl,ok5.wm,U6.reads ok5.wr (λx hx=>?_),ok5.wi,ok5.bl,ok5.bm,U6.reads ok5.br (λx hx=>?_),ok5.bb⟩,((C2.out.below b5).keep U6 (λk hk=>by simp at hk;omega)).mono (by omega),by rw[A1.out];exact C4.out,by rw[A1.out];exact A6.out.2.2.symm,by rw[A1.out];exact A6.out.1.symm,by rw[A1.out];exact A6.out.2.1.symm⟩⟩
     ·rw[E5] at hx;cases hx
     ·rw[E6] at hx;have:=B9.out x hx;simp;omega
    ·rw[decide_eq_false hq] at B0;have C3:=zh (show ¬cr l from λh=>hq (A3.out.1 h).2);clear hE hq;go_wp2_with fail;go_call B0 as e w5 ⟨rfl,b5⟩;have R05:Row w5 p0 28 [.int .i64 0,.int .i64 0,.slice none 0 0,.slice none 0 0]:=(b5.block p0 R0.lt).trans R0;have A2:=zh (zy B3 b5);have o0:=R05.cell (i:=0) rfl;have o1:=R05.cell (i:=1) rfl;have o2:=R05.cell (i:=2) rfl;have o3:=R05.cell (i:=3) rfl;have f0:=R05.free 0;have f1:=R05.free 1;have f2:=R05.free 2;have f3:=R05.free 3;go_wp2;obtain⟨w6,A0⟩:=zx ((((w5.setCell ⟨p0,0,none⟩ (.int .i64 0)).setCell ⟨p0,1,none⟩ (.int .i64 0)).setCell ⟨p0,2,none⟩ (.slice none 0 0)).setCell ⟨p0,3,none⟩ (.slice none 0 0));have R6:Row w6 p0 28 [.int .i64 0,.int .i64 0,.slice none 0 0,.slice none 0 0]:=by rw[A0];exact(((R05.set 0 _).set 1 _).set 2 _).set 3 _
     have U6:Upd [p0] w5 w6:=by rw[A0];exact((((Upd.refl [p0] w5).setCell (by simp) _).setCell (by simp) _).setCell (by simp) _).setCell (by simp) _
     rw[<-A0];clear A0;have z0:=R6.cell (i:=0) rfl;have z1:=R6.cell (i:=1) rfl;have z2:=R6.cell (i:=2) rfl;have z3:=R6.cell (i:=3) rfl
     (try simp only[Exit.inBlock,Exit.then])
     refine bodyPost_ret (by rw[results_cell_tmp rfl];go_simp;rfl) rfl ?_;have hp:=HP.out.1;exact⟨A2.out.trans (U6.below A2.out.size (λk hk=>by simp at hk;omega)),.inr ⟨C3.out,rfl⟩⟩
   ·have D7:zag o=2:=by
     unfold zag at hE ⊢;split
     ·rename_i hx;rw[if_pos hx] at hE;exact absurd rfl hE
     ·rfl
    rw[D7];have C3:=zh (show ¬cr l from λh=>hE (A3.out.1 h).1);clear hE D7;obtain⟨w5,rfl⟩:=zx (w4);have R05:=R0;have A2:=B3;have o0:=R05.cell (i:=0) rfl;have o1:=R05.cell (i:=1) rfl;have o2:=R05.cell (i:=2) rfl;have o3:=R05.cell (i:=3) rfl;have f0:=R05.free 0;have f1:=R05.free 1;have f2:=R05.free 2;have f3:=R05.free 3;go_wp2;obtain⟨w6,A0⟩:=zx ((((w5.setCell ⟨p0,0,none⟩ (.int .i64 0)).setCell ⟨p0,1,none⟩ (.int .i64 0)).setCell ⟨p0,2,none⟩ (.slice none 0 0)).setCell ⟨p0,3,none⟩ (.slice none 0 0));have R6:Row w6 p0 28 [.int .i64 0,.int .i64 0,.slice none 0 0,.slice none 0 0]:=by rw[A0];exact(((R05.set 0 _).set 1 _).set 2 _).set 3 _
    have U6:Upd [p0] w5 w6:=by rw[A0];exact((((Upd.refl [p0] w5).setCell (by simp) _).setCell (by simp) _).setCell (by simp) _).setCell (by simp) _
    rw[<-A0];clear A0;have z0:=R6.cell (i:=0) rfl;have z1:=R6.cell (i:=1) rfl;have z2:=R6.cell (i:=2) rfl;have z3:=R6.cell (i:=3) rfl
    (try simp only[Exit.inBlock,Exit.then])
    refine bodyPost_ret (by rw[results_cell_tmp rfl];go_simp;rfl) rfl ?_;have hp:=HP.out.1;exact⟨A2.out.trans (U6.below A2.out.size (λk hk=>by simp at hk;omega)),.inr ⟨C3.out,rfl⟩⟩
theorem zyj(a:Option Addr)(n c:Nat)(l:List Int)(w:World)(e0:n=l.length)(h:zv w a c (l.map (Value.int .u8)))(hb:Byt l)(hc:n<=c)(hm:n<=100000):Calls prog 87 #[.slice a n c] w (zj0 l w):=by
 by_cases hn:n<12
 ·refine(zra a n c w hn).mono ?_;rintro e w' ⟨rfl,b⟩;exact⟨b,.inr ⟨λh=>by have:=h.1;omega,rfl⟩⟩
 ·by_cases k1:zhe l=1
  ·exact z5c a n c l w e0 h hb (by omega) hc hm k1
  ·by_cases k2:zhe l=2
   ·exact z5b a n c l w e0 h hb (by omega) hc hm k2
   ·exact z5d a n c l w e0 h hb (by omega) hc hm k1 k2
instance(l:List Int):Decidable (cr l):=by unfold cr;exact inferInstance
def Zo:List Int->List Int
 | []=>[]
 | x::l=>(if yb x then [Zz x] else [])++Zo l
theorem zc8:∀(a b:List Int),Zo (a++b)=Zo a++Zo b
 | [],b=>rfl
 | x::a,b=>by simp only[List.cons_append,Zo,zc8 a b,List.append_assoc]
theorem zms{l:List Int}{k:Nat}(h:k<l.length):Zo (l.take (k+1))=Zo (l.take k)++(if yb (l.getD k 0) then [Zz (l.getD k 0)] else []):=by
 rw[List.take_add_one,ze h,zc8,zg,ze h];simp[Zo]
theorem xq:∀l:List Int,(Zo l).length<=l.length
 | []=>Nat.le_refl _
 | x::l=>by
  have:=xq l;simp only[Zo,List.length_append,List.length_cons];split<;>simp<;>omega
theorem zmv(w:World)(base:Nat)(e:TypeId)(x:Value)(hb:base<=w.heap.size):(w.alloc (.cells #[x] e)).ownsRow base e 1 (.slice (some ⟨w.heap.size,0,none⟩) 1 1) 1 [x] :=
 ⟨by simp,.inr ⟨w.heap.size,1,#[x],rfl,hb,heap_alloc_new w _,Nat.le_refl _,by unfold maxLen;omega,by simp,by simp⟩⟩
theorem zit{w:World}{base b:Nat}{e:TypeId}{x:Value}(hb:base<=w.heap.size)(h:b=w.heap.size):(w.alloc (.cells #[x] e)).ownsRow base e 1 (.slice (some ⟨b,0,none⟩) 1 1) 1 [x]:=by
 subst h;exact zmv w base e x hb
theorem zjp(o:Za)(w:World)(h:o.ok w)(hm:o.wn<=1000000):Calls prog 49 #[o.val] w (zhb w (Zo (o.cls::o.W))):=by
 obtain⟨cls,kind,wa,wn,wc,W,ba,bn,bc,B⟩:=o;obtain⟨hc,hk,wl,wm,wr,wi,bl,bm,br,bb⟩:=h;unfold Za.val;dsimp only at *;subst wl;have B1:=zh (wr.alloc (.cells #[.int .i64 cls,.int .i64 kind,.slice wa W.length wc,.slice ba bn bc] 28));have B2:=zh ((Below.refl _ w).alloc (Nat.le_refl _) (.cells #[.int .i64 cls,.int .i64 kind,.slice wa W.length wc,.slice ba bn bc] 28))
 have HI:=zh (show z3d (cls::W) from λx hx=>by
  rcases List.mem_cons.1 hx with rfl|h
  ·exact hc
  ·exact wi x h)
 clear wm wr wi bl bm br bb hc hk;go_enter func49,ntmps49;go_wp2_with (at_builtin;refine Zb rfl _ _ 25 rfl w.heap.size 3 (.int .i64 0) 1 8 underlying25 Zx rfl (by decide) _ 1 [.int .i64 cls] rfl (zit (by simp) (by simp)) wa W.length wc _ rfl (by simp) (B1.out.alloc _) (jw _ _) (by unfold maxLen;omega) (by omega) (by simp;omega) ?_);intro v1 w1 own1 gr1;have A6:=own1.lt;have B3:=zh ((zn B2.out).grown gr1 (by simp;omega) (λk hk=>by simp[Value.ownBlock] at hk;omega));clear gr1 A6 B1 B2;rw[show Value.int .i64 cls::W.map (Value.int .i64)=(cls::W).map (Value.int .i64) from rfl] at own1;obtain⟨a1,c1,rfl,B4,B8,B9⟩:=zk own1;have C0:=zh B4;have A4:1+W.length=(cls::W).length:=by simp;omega
 have A7:(cls::W).length<=1000001:=by simp;omega
 rw[A4] at *;have HP:=zh (And.intro A7 HI);clear own1 B4 B8 B9 A4 A7 HI hm;generalize cls::W=l at *;go_wp2;go_loopw [3,15] (λv i wr=>∃k:Nat,k<=l.length/\i=.int .i64 k/\Hid (wr.ownsRow w1.heap.size 3 1 v (Zo (l.take k)).length ((Zo (l.take k)).map (Value.int .i64)))/\Hid (Below w1.heap.size w1 wr)) (λ_ i _=>l.length-(intOf i).toNat)
 case atStart=>exact⟨0,Nat.zero_le _,rfl,World.ownsRow_nil _ _ _ _,Below.refl _ _⟩
 case round =>
  obtain⟨k,hk,rfl,A0,A1⟩:=hrel;by_cases A5:k<l.length
  ·have A3:=zh A5;have C7:k<=1000001:=by have:=HP.out.1;omega
   obtain⟨b0,o0,rfl,_,B5⟩:=(C0.out.below A1.out).at (by simp;omega);have k0:=B5 k _ (zr A5);have hs:=zh (zms A5)
   have A8:-9223372036854775808<=l.getD k 0/\l.getD k 0<=9223372036854775807:=by
    rw[zg,ze A5];exact HP.out.2 _ (List.getElem_mem A5)
   generalize l.getD k 0=x at *;have HN:=zh (jr x wr A8.1 A8.2);clear B5 A8;by_cases hn:yb x=true
   ·rw[hn] at HN;have A2:=hs.out;rw[if_pos hn] at A2;have B6:=congrArg List.length A2;have C1:=xq (l.take k);have C2:(l.take k).length=k:=by simp;omega
    have A7:=HP.out.1;have A9:=A1.out.size;have C3:(Zo (l.take k)).length<=1000001:=by omega
    obtain⟨m,hm⟩:=zx ((Zo (l.take k)).length);rw[<-hm] at A0 C3;have HM:=zh hm;have C4:=zh A2;have C5:=zh B6;clear hn hs A2 B6 C1 C2 A7 hm
    go_wp2_with (first
     | (go_at_call 34;go_call HN as e w' ⟨rfl,rfl⟩)
     | (at_builtin;refine Zb rfl _ _ 25 rfl w1.heap.size 3 (.int .i64 0) 1 8 underlying25 Zx rfl (by decide) _ _ _ rfl (A0.out.alloc _) _ 1 1 [.int .i64 (Zz x)] rfl rfl (zv.madeAt rfl) (by simp[Value.oneCell']) (by unfold maxLen;omega) (by omega) (by simp;omega) ?_))
    intro v' w3 own3 gr3;have A6:=A0.out.lt;have C6:=zh ((A1.out.alloc A9 _).grown gr3 (by simp;omega) (λk hk=>(A6 k hk).1))
    have B0:Hid (w3.ownsRow w1.heap.size 3 1 v' (Zo (l.take (k+1))).length ((Zo (l.take (k+1))).map (Value.int .i64))):=by
     rw[C5.out,C4.out,List.map_append,List.length_append,<-HM.out];exact own3
    clear gr3 A6 own3 A0 A1;go_wp2;go_roundw
    case rel=>have:=HP.out.1;have:=A3.out;exact⟨k+1,A3,by go_num,B0,C6⟩
    case measure=>have:=A3.out;have:=HP.out.1;simp[intOf];omega
   ·have B7:yb x=false:=by simpa using hn
    rw[B7] at HN;have A2:=hs.out;rw[if_neg hn,List.append_nil] at A2
    have B0:Hid (wr.ownsRow w1.heap.size 3 1 u3 (Zo (l.take (k+1))).length ((Zo (l.take (k+1))).map (Value.int .i64))):=by
     rw[A2];exact A0.out
    clear hn B7 hs A2 A0;go_wp2_with (go_at_call 34;go_call HN as e w' ⟨rfl,rfl⟩);go_roundw
    case rel=>have:=HP.out.1;have:=A3.out;exact⟨k+1,A3,by go_num,B0,A1.out⟩
    case measure=>have:=A3.out;have:=HP.out.1;simp[intOf];omega
  ·obtain rfl:k=l.length:=by omega
   rw[List.take_of_length_le (Nat.le_refl _)] at A0;have A9:=B3.out.size;go_wp2;go_ret;exact⟨_,rfl,qq A0.out A9,zy B3 A1.out⟩
theorem zz9(a b:Za)(w:World)(ha:a.ok w)(hb:b.ok w)(m1:a.wn<=1000000000)(m2:b.wn<=1000000000) :
 Calls prog 18 #[a.val,b.val] w λe w'=>e=.returned (.bool (decide (a.cls=b.cls/\a.kind=b.kind/\a.W=b.W/\a.B=b.B)))/\Below w.heap.size w w':=by
 obtain⟨cls,kind,wa,wn,wc,W,ba,bn,bc,B⟩:=a;obtain⟨cls',kind',wa',wn',wc',W',ba',bn',bc',B'⟩:=b;unfold Za.val;dsimp only at m1 m2 ⊢;obtain⟨w2,A2⟩:=zx (((w.alloc (.cells #[.int .i64 cls,.int .i64 kind,.slice wa wn wc,.slice ba bn bc] 28)).alloc (.cells #[.int .i64 cls',.int .i64 kind',.slice wa' wn' wc',.slice ba' bn' bc'] 28)));have A0:Below w.heap.size w w2:=by rw[A2];exact zn ((Below.refl _ w).alloc (Nat.le_refl _) _)
 have A3:=ha.below A0;have A4:=hb.below A0;have HI:=zh (zg0 wa wa' wn wn' wc wc' W W' w2 A3.wl A4.wl A3.wr A4.wr m1 m2);have HB:=zh (λwx (bx:Below w2.heap.size w2 wx)=>z1u ba ba' bn bn' bc bc' B B' wx A3.bl A4.bl (A3.br.below bx) (A4.br.below bx) A3.bb A4.bb);have A1:=zh A0
 have r0:Row w2 w.heap.size 28 [.int .i64 cls,.int .i64 kind,.slice wa wn wc,.slice ba bn bc]:=by
  rw[A2];exact(Row.made w [.int .i64 cls,.int .i64 kind,.slice wa wn wc,.slice ba bn bc] 28).alloc _
 have r1:Row w2 (w.heap.size+1) 28 [.int .i64 cls',.int .i64 kind',.slice wa' wn' wc',.slice ba' bn' bc']:=by
  rw[A2];have:=Row.made (w.alloc (.cells #[.int .i64 cls,.int .i64 kind,.slice wa wn wc,.slice ba bn bc] 28)) [.int .i64 cls',.int .i64 kind',.slice wa' wn' wc',.slice ba' bn' bc'] 28;simpa using this
 have A8:=zh r0;have A9:=zh r1;clear r0 r1;rw[A2] at HI;have A6:=zh A2;clear A0 A3 A4 ha hb m1 m2 A2;have hd:∀p:Prop,∀(i:Decidable p),p->decide p=true:=λp i h=>decide_eq_true h
 by_cases h1:cls=cls'
 ·subst h1;by_cases h2:kind=kind'
  ·subst h2;by_cases h3:W=W'
   ·subst h3;rw[decide_eq_true rfl] at HI;have hr:decide (cls=cls/\kind=kind/\W=W/\B=B')=decide (B=B'):=by simp
    rw[hr];generalize decide (B=B')=q at *;clear hr hd;go_enter func18,ntmps18;go_wp2_with fail;go_call HI as e w3 ⟨rfl,b3⟩;rw[<-A6.out] at b3;have HC:=zh (HB w3 b3);have A7:=zh (zy A1 b3);have R0:=(b3.block w.heap.size A8.lt).trans A8;have R1:=(b3.block (w.heap.size+1) A9.lt).trans A9;have j0:=Row.cell R0 (i:=3) rfl;have j1:=Row.cell R1 (i:=3) rfl;clear b3 HI HB R0 R1;go_wp2_with fail;go_call HC as e w4 ⟨rfl,rfl⟩;clear HC;go_wp2;go_ret;exact⟨rfl,A7⟩
   ·rw[decide_eq_false h3] at HI;have hr:decide (cls=cls/\kind=kind/\W=W'/\B=B')=false:=decide_eq_false (λh=>h3 h.2.2.1);rw[hr];clear hr hd h3;go_enter func18,ntmps18;go_wp2_with fail;go_call HI as e w3 ⟨rfl,b3⟩;rw[<-A6.out] at b3;have A7:=zh (zy A1 b3);clear b3 HI HB;go_wp2;go_ret;exact⟨rfl,A7⟩
  ·have hr:decide (cls=cls/\kind=kind'/\W=W'/\B=B')=false:=decide_eq_false (λh=>h2 h.2.1);rw[hr];have q1:(kind == kind')=false:=by simp[h2]
   have A5:=zh A1;rw[A6.out] at A5;clear hr hd h2 HI HB;go_enter func18,ntmps18;go_wp2;go_ret;exact⟨rfl,A5⟩
 ·have hr:decide (cls=cls'/\kind=kind'/\W=W'/\B=B')=false:=decide_eq_false (λh=>h1 h.1);rw[hr];have q1:(cls == cls')=false:=by simp[h1]
  have A5:=zh A1;rw[A6.out] at A5;clear hr hd h1 HI HB;go_enter func18,ntmps18;go_wp2;go_ret;exact⟨rfl,A5⟩
theorem ztb{cls kind:Int}{W B:List Int}(h:xk cls kind W B):cr (zfh cls kind W B):=by
 obtain⟨h1,h2,h3,h4⟩:=zt9 h;unfold cr;rw[h1,h2,h3,h4];exact⟨by rw[zat];omega,h,rfl⟩
end Go.Proofs.YtoeibiahbenpcaaGreatDoor
