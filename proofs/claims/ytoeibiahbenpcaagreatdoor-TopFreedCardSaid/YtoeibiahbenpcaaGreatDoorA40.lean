/- Part. -/
import Derived.Test.YtoeibiahbenpcaaGreatDoorA36
import Derived.Test.YtoeibiahbenpcaaGreatDoorA39
namespace Go.Proofs.YtoeibiahbenpcaaGreatDoor
open RowKit Maps Proofs.Tryz
set_option linter.unusedVariables false
set_option maxRecDepth 99999
set_option maxHeartbeats 9000000
theorem ztm(n:Int):bits .and .i64 n 15=n % 16:=by
 have h1:(BitVec.ofInt 64 15).toNat=2 ^ 4-1:=by decide
 have key:(BitVec.ofInt 64 n &&& BitVec.ofInt 64 15).toNat=(n % ((2 ^ 64:Nat):Int)).toNat % 2 ^ 4:=by
  rw[BitVec.toNat_and,BitVec.toNat_ofInt,h1,Nat.and_two_pow_sub_one_eq_mod]
 show IntKind.i64.wrap ((BitVec.ofInt 64 n &&& BitVec.ofInt 64 15).toNat:Nat)=n % 16
 rw[key,IntKind.wrap_i64];omega
theorem ztl(n:Int):bits .and .i64 n 31=n % 32:=by
 have h1:(BitVec.ofInt 64 31).toNat=2 ^ 5-1:=by decide
 have key:(BitVec.ofInt 64 n &&& BitVec.ofInt 64 31).toNat=(n % ((2 ^ 64:Nat):Int)).toNat % 2 ^ 5:=by
  rw[BitVec.toNat_and,BitVec.toNat_ofInt,h1,Nat.and_two_pow_sub_one_eq_mod]
 show IntKind.i64.wrap ((BitVec.ofInt 64 n &&& BitVec.ofInt 64 31).toNat:Nat)=n % 32
 rw[key,IntKind.wrap_i64];omega
theorem zm7(n:Int):bits .and .i64 n 1023=n % 1024:=by
 have h1:(BitVec.ofInt 64 1023).toNat=2 ^ 10-1:=by decide
 have key:(BitVec.ofInt 64 n &&& BitVec.ofInt 64 1023).toNat=(n % ((2 ^ 64:Nat):Int)).toNat % 2 ^ 10:=by
  rw[BitVec.toNat_and,BitVec.toNat_ofInt,h1,Nat.and_two_pow_sub_one_eq_mod]
 show IntKind.i64.wrap ((BitVec.ofInt 64 n &&& BitVec.ofInt 64 1023).toNat:Nat)=n % 1024
 rw[key,IntKind.wrap_i64];omega
structure Mt where
 args:Int
 temps:Int
 prim:Int
 code:Int
 lits:Int
def Mt.val(m:Mt):Value:=.agg #[.int .i64 m.args,.int .i64 m.temps,.int .i64 m.prim,.int .i64 m.code,.int .i64 m.lits]
def wg(m:Mt):Bool:=decide (0<=m.args/\m.args<16/\m.args<=m.temps/\m.temps<=20/\0<=m.prim/\m.prim<1024)
theorem z1i(m:Mt)(w:World):Calls prog 149 #[.agg #[.int .i64 m.args,.int .i64 m.temps,.int .i64 m.prim,.int .i64 m.code,.int .i64 m.lits]] w λe w'=>e=.returned (.bool (wg m))/\Below w.heap.size w w':=by
 have yes:0<=m.args->m.args<16->m.args<=m.temps->m.temps<=20->0<=m.prim->m.prim<1024->wg m=true:=λa b c d e f=>by
  unfold wg;simp only[decide_eq_true_eq];omega
 have no:(m.args<0\/16<=m.args\/m.temps<m.args\/20<m.temps\/m.prim<0\/1024<=m.prim)->wg m=false:=λa=>by
  unfold wg;simp only[decide_eq_false_iff_not];omega
 have may:0<=m.args->m.args<16->m.args<=m.temps->m.temps<=20->0<=m.prim->wg m=decide (m.prim<1024):=λa b c d e=>by
  unfold wg;rw[decide_eq_decide];omega
 have HY:=zh yes;have HN:=zh no;have A0:=zh may;clear yes no may;go_enter func149,ntmps149;go_wp2
 all_goals
  go_ret;refine⟨?_,zn (Below.refl _ _)⟩
  first
   | (rw[HY.out (by assumption) (by assumption) (by assumption) (by assumption) (by assumption) (by assumption)];rfl)
   | (rw[A0.out (by assumption) (by assumption) (by assumption) (by assumption) (by assumption)];rfl)
   | (rw[HN.out (by omega)];rfl)
theorem zmh(w:World)(p:Nat)(a b c d e:Value):Upd [p] w (((((w.setCell ⟨p,0,none⟩ a).setCell ⟨p,1,none⟩ b).setCell ⟨p,2,none⟩ c).setCell ⟨p,3,none⟩ d).setCell ⟨p,4,none⟩ e):=(((((Upd.refl [p] w).setCell (by simp) _).setCell (by simp) _).setCell (by simp) _).setCell (by simp) _).setCell (by simp) _
theorem zmr{w:World}{p:Nat}{t:TypeId}{x y z u v:Value}(h:Row w p t [x,y,z,u,v])(a b c d e:Value):Row (((((w.setCell ⟨p,0,none⟩ a).setCell ⟨p,1,none⟩ b).setCell ⟨p,2,none⟩ c).setCell ⟨p,3,none⟩ d).setCell ⟨p,4,none⟩ e) p t [a,b,c,d,e]:=((((h.set 0 a).set 1 b).set 2 c).set 3 d).set 4 e
def noM:Mt:=⟨0,0,0,0,0⟩
def zqa(h:Int)(ob:Ob):Mt:=⟨h % 16,h / 16 % 32,h / 512 % 1024,ob.W.getD 1 0,ob.W.length-2⟩
def cj(A:Nat->Option Ob)(o:Int):Mt×Int :=
 match qz A (Zz o) with
 | none=>(noM,4)
 | some ob=>if ob.kind≠1 then(noM,20) else if ob.size<2 then(noM,2) else
  if zdg (ob.W.getD 0 0)=false\/ziw (ob.W.getD 0 0)<0\/wg (zqa (ziw (ob.W.getD 0 0)) ob)=false then(noM,2) else(zqa (ziw (ob.W.getD 0 0)) ob,0)
def zvz(w:World)(A:Nat->Option Ob)(o:Int)(e:Ending)(w':World):Prop:=e=.returned (.tuple #[(cj A o).1.val,.int .i64 (cj A o).2])/\Below w.heap.size w w'
section
variable{w w':World}{base m mp made:Nat}{Y:List FE}
theorem zyc(H:yc w base m mp Y made)(o:Int)(b0:-9223372036854775808<=o)(b9:o<=9223372036854775807) :
 Calls prog 113 #[.iface 34 (.pointer (some ⟨m,0,none⟩)),.int .i64 o] w (zvz w (zt (fTb Y)) o):=by
 obtain⟨W1,C4⟩:=zx (w.alloc (.cells #[.int .i64 0,.int .i64 0,.int .i64 0,.int .i64 0,.int .i64 0] 196));have b1:Below w.heap.size w W1:=by rw[C4];exact zn (Below.refl _ _)
 obtain⟨p,hp⟩:=zx (w.heap.size);have r1:Row W1 p 196 [.int .i64 0,.int .i64 0,.int .i64 0,.int .i64 0,.int .i64 0]:=by rw[C4,hp];exact Row.made _ _ _
 have HP:=zh hp;have C6:=zh C4;have C7:=zh b1;have C8:=zh r1;cases hl:qz (zt (fTb Y)) (Zz o) with
 | none =>
  have HV:Hid (cj (zt (fTb Y)) o=(noM,4)):=by unfold Hid cj;rw[hl]
  have C5:=zh (zpc (H.below b1) o b0 b9 hl);clear hl H r1 b1 C4;go_enter func113,ntmps113;go_wp2_with fail;rw[<-C6.out,<-hp];clear hp;go_call C5 as e w2 ⟨rfl,B9⟩;have A3:=C8.out.keep (l:=[]) (.of_below B9) (by simp);have p0:=A3.cell (i:=0) rfl;have f0:=A3.free 0;have p1:=A3.cell (i:=1) rfl;have f1:=A3.free 1;have p2:=A3.cell (i:=2) rfl;have f2:=A3.free 2;have p3:=A3.cell (i:=3) rfl;have f3:=A3.free 3;have p4:=A3.cell (i:=4) rfl;have f4:=A3.free 4;have pl:=A3.lt;have B1:=zh A3;have A9:=zh (zy C7 B9);clear A3 B9 C5 C8 C7 C6;have A5:Hid (Row ((((((w2.setCell ⟨p,0,none⟩ (.int .i64 (0))).setCell ⟨p,1,none⟩ (.int .i64 (0))).setCell ⟨p,2,none⟩ (.int .i64 (0))).setCell ⟨p,3,none⟩ (.int .i64 (0))).setCell ⟨p,4,none⟩ (.int .i64 (0))).alloc (.cells #[.int .i64 0,.int .i64 0,.slice none 0 0,.slice none 0 0] 28)) p 196 [.int .i64 (0),.int .i64 (0),.int .i64 (0),.int .i64 (0),.int .i64 (0)]):=(zmr B1 _ _ _ _ _).alloc _;have A7:Hid (Below w.heap.size w ((((((w2.setCell ⟨p,0,none⟩ (.int .i64 (0))).setCell ⟨p,1,none⟩ (.int .i64 (0))).setCell ⟨p,2,none⟩ (.int .i64 (0))).setCell ⟨p,3,none⟩ (.int .i64 (0))).setCell ⟨p,4,none⟩ (.int .i64 (0))).alloc (.cells #[.int .i64 0,.int .i64 0,.slice none 0 0,.slice none 0 0] 28))):=(zn (A9.out.trans ((zmh w2 p _ _ _ _ _).below A9.out.size (λk hk=>by simp at hk;subst hk;rw[HP.out];exact Nat.le_refl _))));clear B1 A9;go_wp2;have q0:=A5.cell (i:=0) rfl;have q1:=A5.cell (i:=1) rfl;have q2:=A5.cell (i:=2) rfl;have q3:=A5.cell (i:=3) rfl;have q4:=A5.cell (i:=4) rfl;generalize((((((w2.setCell ⟨p,0,none⟩ (.int .i64 (0))).setCell ⟨p,1,none⟩ (.int .i64 (0))).setCell ⟨p,2,none⟩ (.int .i64 (0))).setCell ⟨p,3,none⟩ (.int .i64 (0))).setCell ⟨p,4,none⟩ (.int .i64 (0))).alloc (.cells #[.int .i64 0,.int .i64 0,.slice none 0 0,.slice none 0 0] 28))=w5 at *;refine bodyPost_ret (by rw[results_cell_tmp rfl];go_simp;rfl) rfl ?_;refine⟨?_,A7⟩;rw[HV.out];rfl
 | some ob =>
  obtain⟨i,hi,D4⟩:=vn hl
  have F1:ob.good:=by
   obtain⟨e,he,h1,h2⟩:=xd.1 (Zl D4);rw[<-h2];exact H.good e he
  have C5:=zh (zg6 (H.below b1) o b0 b9 hi D4)
  have B3:Hid (cj (zt (fTb Y)) o=if ob.kind≠1 then(noM,20) else if ob.size<2 then(noM,2) else
   if zdg (ob.W.getD 0 0)=false\/ziw (ob.W.getD 0 0)<0\/wg (zqa (ziw (ob.W.getD 0 0)) ob)=false then(noM,2) else(zqa (ziw (ob.W.getD 0 0)) ob,0)):=by unfold Hid cj;rw[hl]
  have F2:=zh F1;clear hl H r1 b1 C4 hi D4 F1;go_enter func113,ntmps113;go_wp2_with fail;rw[<-C6.out,<-hp];clear hp;go_call C5 as e w2 ⟨d,rfl,F3,D5,D6,B9⟩;have A3:=C8.out.keep (l:=[]) (.of_below B9) (by simp);have p0:=A3.cell (i:=0) rfl;have f0:=A3.free 0;have p1:=A3.cell (i:=1) rfl;have f1:=A3.free 1;have p2:=A3.cell (i:=2) rfl;have f2:=A3.free 2;have p3:=A3.cell (i:=3) rfl;have f3:=A3.free 3;have p4:=A3.cell (i:=4) rfl;have f4:=A3.free 4;have pl:=A3.lt;have B1:=zh A3;have A9:=zh (zy C7 B9);have D7:=zh F3;have G0:=zh D6;have D8:=zh (λW=>zcu d W);have C9:d.kind=ob.kind:=D6.kind;clear A3 B9 F3 D5 D6 C5 C8 C7 C6;by_cases hk:ob.kind=1
  ·rcases d with⟨dc,dk,wa,wn,wc,W,ba,bn,bc,B⟩;have D9:dk=1:=C9.trans hk;subst D9;simp only at D8;have B4:Hid (∀W',Calls prog 78 #[.agg #[.int .i64 dc,.int .i64 1,.slice wa wn wc,.slice ba bn bc]] W' λe w'=>e=.returned (.int .i64 wn)/\Below W'.heap.size W' w'):=D8.out;have hW:W=ob.W:=G0.W;have C0:wn=W.length:=D7.out.wl
   have F4:ob.size=wn:=by
    rcases F2.out.kinds with⟨_,_,_,h⟩|⟨h,_⟩
    ·rw[h,<-hW,C0]
    ·omega
   rw[if_neg (by simpa using hk),F4] at B3;simp only;clear C9 D8 hk F4;by_cases E0:wn<2
   ·have HV:Hid (cj (zt (fTb Y)) o=(noM,2)):=by unfold Hid;rw[B3.out,if_pos E0]
    have t0:(wn:Int)<2:=by omega
    clear C0 hW E0 B3;go_wp2_with fail;have b3:Below w2.heap.size w2 (w2.alloc (.cells #[.int .i64 dc,.int .i64 1,.slice wa wn wc,.slice ba bn bc] 28)):=zn (Below.refl _ _);refine(B4 _).mono ?_;rintro e w3 ⟨rfl,B0⟩;have A4:=B1.out.keep (l:=[]) (.of_below (zy b3 B0)) (by simp);have B2:=zh (zy A9 (zy b3 B0));clear p0 p1 p2 p3 p4 f0 f1 f2 f3 f4 pl;have p0:=A4.cell (i:=0) rfl;have f0:=A4.free 0;have p1:=A4.cell (i:=1) rfl;have f1:=A4.free 1;have p2:=A4.cell (i:=2) rfl;have f2:=A4.free 2;have p3:=A4.cell (i:=3) rfl;have f3:=A4.free 3;have p4:=A4.cell (i:=4) rfl;have f4:=A4.free 4;have pl:=A4.lt;have A1:Hid (Row (((((w3.setCell ⟨p,0,none⟩ (.int .i64 (0))).setCell ⟨p,1,none⟩ (.int .i64 (0))).setCell ⟨p,2,none⟩ (.int .i64 (0))).setCell ⟨p,3,none⟩ (.int .i64 (0))).setCell ⟨p,4,none⟩ (.int .i64 (0))) p 196 [.int .i64 (0),.int .i64 (0),.int .i64 (0),.int .i64 (0),.int .i64 (0)]):=zmr A4 _ _ _ _ _;have B5:Hid (Below w.heap.size w (((((w3.setCell ⟨p,0,none⟩ (.int .i64 (0))).setCell ⟨p,1,none⟩ (.int .i64 (0))).setCell ⟨p,2,none⟩ (.int .i64 (0))).setCell ⟨p,3,none⟩ (.int .i64 (0))).setCell ⟨p,4,none⟩ (.int .i64 (0)))):=B2.out.trans ((zmh w3 p _ _ _ _ _).below B2.out.size (λk hk=>by simp at hk;subst hk;rw[HP.out];exact Nat.le_refl _));clear A4 b3 B0 B2 B1 A9 B4;go_wp2;have q0:=A1.cell (i:=0) rfl;have q1:=A1.cell (i:=1) rfl;have q2:=A1.cell (i:=2) rfl;have q3:=A1.cell (i:=3) rfl;have q4:=A1.cell (i:=4) rfl;generalize(((((w3.setCell ⟨p,0,none⟩ (.int .i64 (0))).setCell ⟨p,1,none⟩ (.int .i64 (0))).setCell ⟨p,2,none⟩ (.int .i64 (0))).setCell ⟨p,3,none⟩ (.int .i64 (0))).setCell ⟨p,4,none⟩ (.int .i64 (0)))=w9 at *;refine bodyPost_ret (by rw[results_cell_tmp rfl];go_simp;rfl) rfl ?_;refine⟨?_,B5⟩;rw[HV.out];rfl
   ·have E1:=D7.out.wr;simp only at E1;obtain⟨g,off,rfl,E2,E3⟩:=E1.at (by simp;omega);obtain⟨x,hx⟩:=zx (ob.W.getD 0 0);obtain⟨y,hy⟩:=zx (ob.W.getD 1 0);have c0:=E3 0 (.int .i64 x) (by rw[hx,<-hW];exact zr (by omega));have c1:=E3 1 (.int .i64 y) (by rw[hy,<-hW];exact zr (by omega));rw[Nat.add_zero] at c0
    have E4:-9223372036854775808<=x/\x<=9223372036854775807:=by
     refine D7.wi x ?_;show x∈W
     rw[hx,<-hW,zg,ze (by omega)];exact List.getElem_mem _
    have E5:=zh (λW'=>zb3 x W' E4.1 E4.2)
    have G4:wn<=1000:=by
     rcases F2.out.kinds with⟨_,_,h,_⟩|⟨_,h,_⟩
     ·rw[C0,hW];exact h
     ·rw[C0,hW,h];simp
    have t0:¬((wn:Int)<2):=by omega
    obtain⟨h,hh⟩:=zx (ziw x);obtain⟨b,hb⟩:=zx (zdg x);rw[<-hh,<-hb] at E5;have E6:=zh (λm W'=>z1i m W');have F5:=zh (And.intro C0 hW);have G5:2<=wn:=by omega
    have G1:=zh (And.intro hx (And.intro hy (And.intro hh hb)));clear E3 E1 E4 C0 hW E0 hx hy hh hb;go_wp2_with fail;obtain⟨q,hq⟩:=zx (w2.heap.size);obtain⟨W3,D0⟩:=zx (w2.alloc (.cells #[.int .i64 dc,.int .i64 1,.slice (some ⟨g,off,none⟩) wn wc,.slice ba bn bc] 28));have b3:Below w2.heap.size w2 W3:=by rw[D0];exact zn (Below.refl _ _)
    have r3:Row W3 q 28 [.int .i64 dc,.int .i64 1,.slice (some ⟨g,off,none⟩) wn wc,.slice ba bn bc]:=by rw[D0,hq];exact Row.made w2 _ _
    rw[<-D0,<-hq];refine(B4 _).mono ?_;rintro e w3 ⟨rfl,B0⟩;have r4:=r3.keep (l:=[]) (.of_below B0) (by simp);have A4:=B1.out.keep (l:=[]) (.of_below (zy b3 B0)) (by simp);have B2:=zh (zy A9 (zy b3 B0));have G6:Hid (p≠q):=by have:=B1.out.lt;unfold Hid;omega
    have d0:w3.cell? ⟨g,off,none⟩=some (.int .i64 x):=((zy b3 B0).cell (p:=⟨g,off,none⟩) E2).trans c0;have d1:w3.cell? ⟨g,off+1,none⟩=some (.int .i64 y):=((zy b3 B0).cell (p:=⟨g,off+1,none⟩) E2).trans c1;have E7:g<w3.heap.size:=by have:=(zy b3 B0).size;omega
    have r40:=r4.cell (i:=0) rfl;have r41:=r4.cell (i:=1) rfl;have r42:=r4.cell (i:=2) rfl;have r43:=r4.cell (i:=3) rfl;have r4l:=r4.lt;clear p0 p1 p2 p3 p4 f0 f1 f2 f3 f4 pl c0 c1 E2;have p0:=A4.cell (i:=0) rfl;have f0:=A4.free 0;have p1:=A4.cell (i:=1) rfl;have f1:=A4.free 1;have p2:=A4.cell (i:=2) rfl;have f2:=A4.free 2;have p3:=A4.cell (i:=3) rfl;have f3:=A4.free 3;have p4:=A4.cell (i:=4) rfl;have f4:=A4.free 4;have pl:=A4.lt;have C1:=zh A4;clear A4 r4 r3 b3 B0 hq D0 B1 A9 B4;go_wp2_with (go_at_call 68;refine(E5 _).mono ?_;rintro e w4 ⟨rfl,rfl⟩);have A6:=G1.out;by_cases A2:b=true/\0<=h
    ·obtain⟨C2,G2⟩:=A2
     have D1:h<=1073741823:=by
      rw[A6.2.2.1,A6.1];unfold ziw;split<;>omega
     obtain⟨mt,E8⟩:=zx (zqa h ob)
     have E9:mt=⟨h % 16,h / 16 % 32,h / 512 % 1024,y,(wn:Int)-2⟩:=by
      rw[E8];unfold zqa;rw[<-A6.2.1,F5.out.1,F5.out.2]
     have F6:cj (zt (fTb Y)) o=if wg mt=false then(noM,2) else(mt,0):=by
      have h1:zdg (ob.W.getD 0 0)=true:=by rw[<-A6.1,<-A6.2.2.2];exact C2
      have h2:h=ziw (ob.W.getD 0 0):=by rw[<-A6.1];exact A6.2.2.1
      rw[B3.out,if_neg (by omega),<-h2,<-E8,h1];by_cases hr:wg mt=false
      ·rw[if_pos (.inr (.inr hr)),if_pos hr]
      ·rw[if_neg (by simp;exact⟨G2,by simpa using hr⟩),if_neg hr]
     have B6:=zh F6;have B7:=zh (λW'=>E6 mt W');rw[E9] at B7;simp only at B7;have F7:=zh E9;subst C2;clear A6 F6 E8 E9 B3 E6;go_region
     (try go_bits)
     generalize B8:World.drew _=W5;have b5:Below w3.heap.size w3 W5:=by rw[<-B8];exact Zd (zn (Below.refl _ _))
     have A0:=C1.out.keep (l:=[]) (.of_below b5) (by simp);have A7:=zh (zy B2 b5);clear p0 p1 p2 p3 p4 f0 f1 f2 f3 f4 pl;obtain⟨q5,F0⟩:=zx (w3.heap.size)
     have r5:Row W5 q5 196 [.int .i64 (h % 16),.int .i64 (h / 16 % 32),.int .i64 (h / 512 % 1024),.int .i64 y,.int .i64 ((wn:Int)-2)]:=by
      rw[<-B8,F0];rw[ztm,ztl,zm7];exact(Row.made _ _ _).drew
     rw[<-F0];have v0:=r5.cell (i:=0) rfl;have v1:=r5.cell (i:=1) rfl;have v2:=r5.cell (i:=2) rfl;have v3:=r5.cell (i:=3) rfl;have v4:=r5.cell (i:=4) rfl;have vl:=r5.lt;have A5:=zh A0;have F8:=zh r5;clear A0 b5 B8 F0 r5 C1 B2 d0 d1 E7 r40 r41 r42 r43 r4l E5;go_wp2_with fail;refine(B7 _).mono ?_;rintro e w6 ⟨rfl,D2⟩;have A8:=A5.out.keep (l:=[]) (.of_below D2) (by simp);have r6:=F8.out.keep (l:=[]) (.of_below D2) (by simp);clear v0 v1 v2 v3 v4 vl;have v0:=r6.cell (i:=0) rfl;have v1:=r6.cell (i:=1) rfl;have v2:=r6.cell (i:=2) rfl;have v3:=r6.cell (i:=3) rfl;have v4:=r6.cell (i:=4) rfl;have vl:=r6.lt;have p0:=A8.cell (i:=0) rfl;have f0:=A8.free 0;have p1:=A8.cell (i:=1) rfl;have f1:=A8.free 1;have p2:=A8.cell (i:=2) rfl;have f2:=A8.free 2;have p3:=A8.cell (i:=3) rfl;have f3:=A8.free 3;have p4:=A8.cell (i:=4) rfl;have f4:=A8.free 4;have pl:=A8.lt;have D3:=zh A8;have C3:=zh (zy A7 D2);have F9:wg ⟨h % 16,h / 16 % 32,h / 512 % 1024,y,(wn:Int)-2⟩=wg mt:=by rw[F7.out]
     rw[F9];clear A8 r6 D2 A5 F8 A7 B7 F9;cases hr:wg mt with
     | true =>
      have HV:Hid (cj (zt (fTb Y)) o=(⟨h % 16,h / 16 % 32,h / 512 % 1024,y,(wn:Int)-2⟩,0)):=by unfold Hid;rw[B6.out,hr,if_neg (by decide),F7.out]
      clear hr B6;have A1:Hid (Row (((((w6.setCell ⟨p,0,none⟩ (.int .i64 (h % 16))).setCell ⟨p,1,none⟩ (.int .i64 (h / 16 % 32))).setCell ⟨p,2,none⟩ (.int .i64 (h / 512 % 1024))).setCell ⟨p,3,none⟩ (.int .i64 (y))).setCell ⟨p,4,none⟩ (.int .i64 ((wn:Int)-2))) p 196 [.int .i64 (h % 16),.int .i64 (h / 16 % 32),.int .i64 (h / 512 % 1024),.int .i64 (y),.int .i64 ((wn:Int)-2)]):=zmr D3 _ _ _ _ _;have B5:Hid (Below w.heap.size w (((((w6.setCell ⟨p,0,none⟩ (.int .i64 (h % 16))).setCell ⟨p,1,none⟩ (.int .i64 (h / 16 % 32))).setCell ⟨p,2,none⟩ (.int .i64 (h / 512 % 1024))).setCell ⟨p,3,none⟩ (.int .i64 (y))).setCell ⟨p,4,none⟩ (.int .i64 ((wn:Int)-2)))):=C3.out.trans ((zmh w6 p _ _ _ _ _).below C3.out.size (λk hk=>by simp at hk;subst hk;rw[HP.out];exact Nat.le_refl _));clear D3 C3;go_wp2;have q0:=A1.cell (i:=0) rfl;have q1:=A1.cell (i:=1) rfl;have q2:=A1.cell (i:=2) rfl;have q3:=A1.cell (i:=3) rfl;have q4:=A1.cell (i:=4) rfl;generalize(((((w6.setCell ⟨p,0,none⟩ (.int .i64 (h % 16))).setCell ⟨p,1,none⟩ (.int .i64 (h / 16 % 32))).setCell ⟨p,2,none⟩ (.int .i64 (h / 512 % 1024))).setCell ⟨p,3,none⟩ (.int .i64 (y))).setCell ⟨p,4,none⟩ (.int .i64 ((wn:Int)-2)))=w9 at *;refine bodyPost_ret (by rw[results_cell_tmp rfl];go_simp;rfl) rfl ?_;refine⟨?_,B5⟩;rw[HV.out];rfl
     | false =>
      have HV:Hid (cj (zt (fTb Y)) o=(noM,2)):=by unfold Hid;rw[B6.out,hr,if_pos rfl]
      clear hr B6;have A1:Hid (Row (((((w6.setCell ⟨p,0,none⟩ (.int .i64 (0))).setCell ⟨p,1,none⟩ (.int .i64 (0))).setCell ⟨p,2,none⟩ (.int .i64 (0))).setCell ⟨p,3,none⟩ (.int .i64 (0))).setCell ⟨p,4,none⟩ (.int .i64 (0))) p 196 [.int .i64 (0),.int .i64 (0),.int .i64 (0),.int .i64 (0),.int .i64 (0)]):=zmr D3 _ _ _ _ _;have B5:Hid (Below w.heap.size w (((((w6.setCell ⟨p,0,none⟩ (.int .i64 (0))).setCell ⟨p,1,none⟩ (.int .i64 (0))).setCell ⟨p,2,none⟩ (.int .i64 (0))).setCell ⟨p,3,none⟩ (.int .i64 (0))).setCell ⟨p,4,none⟩ (.int .i64 (0)))):=C3.out.trans ((zmh w6 p _ _ _ _ _).below C3.out.size (λk hk=>by simp at hk;subst hk;rw[HP.out];exact Nat.le_refl _));clear D3 C3;go_wp2;have q0:=A1.cell (i:=0) rfl;have q1:=A1.cell (i:=1) rfl;have q2:=A1.cell (i:=2) rfl;have q3:=A1.cell (i:=3) rfl;have q4:=A1.cell (i:=4) rfl;generalize(((((w6.setCell ⟨p,0,none⟩ (.int .i64 (0))).setCell ⟨p,1,none⟩ (.int .i64 (0))).setCell ⟨p,2,none⟩ (.int .i64 (0))).setCell ⟨p,3,none⟩ (.int .i64 (0))).setCell ⟨p,4,none⟩ (.int .i64 (0)))=w9 at *;refine bodyPost_ret (by rw[results_cell_tmp rfl];go_simp;rfl) rfl ?_;refine⟨?_,B5⟩;rw[HV.out];rfl
    ·have HV:Hid (cj (zt (fTb Y)) o=(noM,2)):=by
      unfold Hid;have h1:b=zdg (ob.W.getD 0 0):=by rw[<-A6.1];exact A6.2.2.2
      have h2:h=ziw (ob.W.getD 0 0):=by rw[<-A6.1];exact A6.2.2.1
      rw[B3.out,if_neg (by omega),<-h1,<-h2,if_pos];cases hb:b
      ·exact .inl rfl
      ·rw[hb] at A2;simp at A2;exact .inr (.inl A2)
     have D1:-1073741824<=h/\h<=1073741823:=by
      rw[A6.2.2.1,A6.1];unfold ziw;split<;>omega
     have G7:=D1.1;have G8:=D1.2;clear D1 A6 B3 E6;cases C2:b with
     | false =>
      clear A2;subst C2;go_region
      (try go_bits)
      generalize B8:World.drew _=W5;have b5:Below w3.heap.size w3 W5:=by rw[<-B8];exact Zd (zn (Below.refl _ _))
      have A0:=C1.out.keep (l:=[]) (.of_below b5) (by simp);have A7:=zh (zy B2 b5);clear p0 p1 p2 p3 p4 f0 f1 f2 f3 f4 pl;have p0:=A0.cell (i:=0) rfl;have f0:=A0.free 0;have p1:=A0.cell (i:=1) rfl;have f1:=A0.free 1;have p2:=A0.cell (i:=2) rfl;have f2:=A0.free 2;have p3:=A0.cell (i:=3) rfl;have f3:=A0.free 3;have p4:=A0.cell (i:=4) rfl;have f4:=A0.free 4;have pl:=A0.lt;have A5:=zh A0;clear A0 b5 B8 C1 B2;have A1:Hid (Row (((((W5.setCell ⟨p,0,none⟩ (.int .i64 (0))).setCell ⟨p,1,none⟩ (.int .i64 (0))).setCell ⟨p,2,none⟩ (.int .i64 (0))).setCell ⟨p,3,none⟩ (.int .i64 (0))).setCell ⟨p,4,none⟩ (.int .i64 (0))) p 196 [.int .i64 (0),.int .i64 (0),.int .i64 (0),.int .i64 (0),.int .i64 (0)]):=zmr A5 _ _ _ _ _;have B5:Hid (Below w.heap.size w (((((W5.setCell ⟨p,0,none⟩ (.int .i64 (0))).setCell ⟨p,1,none⟩ (.int .i64 (0))).setCell ⟨p,2,none⟩ (.int .i64 (0))).setCell ⟨p,3,none⟩ (.int .i64 (0))).setCell ⟨p,4,none⟩ (.int .i64 (0)))):=A7.out.trans ((zmh W5 p _ _ _ _ _).below A7.out.size (λk hk=>by simp at hk;subst hk;rw[HP.out];exact Nat.le_refl _));clear A5 A7;go_wp2;have q0:=A1.cell (i:=0) rfl;have q1:=A1.cell (i:=1) rfl;have q2:=A1.cell (i:=2) rfl;have q3:=A1.cell (i:=3) rfl;have q4:=A1.cell (i:=4) rfl;generalize(((((W5.setCell ⟨p,0,none⟩ (.int .i64 (0))).setCell ⟨p,1,none⟩ (.int .i64 (0))).setCell ⟨p,2,none⟩ (.int .i64 (0))).setCell ⟨p,3,none⟩ (.int .i64 (0))).setCell ⟨p,4,none⟩ (.int .i64 (0)))=w9 at *;refine bodyPost_ret (by rw[results_cell_tmp rfl];go_simp;rfl) rfl ?_;refine⟨?_,B5⟩;rw[HV.out];rfl
     | true =>
      have G3:h<0:=by rw[C2] at A2;simp at A2;exact A2
      clear A2;subst C2;go_region
      (try go_bits)
      generalize B8:World.drew _=W5;have b5:Below w3.heap.size w3 W5:=by rw[<-B8];exact Zd (zn (Below.refl _ _))
      have A0:=C1.out.keep (l:=[]) (.of_below b5) (by simp);have A7:=zh (zy B2 b5);clear p0 p1 p2 p3 p4 f0 f1 f2 f3 f4 pl;have p0:=A0.cell (i:=0) rfl;have f0:=A0.free 0;have p1:=A0.cell (i:=1) rfl;have f1:=A0.free 1;have p2:=A0.cell (i:=2) rfl;have f2:=A0.free 2;have p3:=A0.cell (i:=3) rfl;have f3:=A0.free 3;have p4:=A0.cell (i:=4) rfl;have f4:=A0.free 4;have pl:=A0.lt;have A5:=zh A0;clear A0 b5 B8 C1 B2;have A1:Hid (Row (((((W5.setCell ⟨p,0,none⟩ (.int .i64 (0))).setCell ⟨p,1,none⟩ (.int .i64 (0))).setCell ⟨p,2,none⟩ (.int .i64 (0))).setCell ⟨p,3,none⟩ (.int .i64 (0))).setCell ⟨p,4,none⟩ (.int .i64 (0))) p 196 [.int .i64 (0),.int .i64 (0),.int .i64 (0),.int .i64 (0),.int .i64 (0)]):=zmr A5 _ _ _ _ _;have B5:Hid (Below w.heap.size w (((((W5.setCell ⟨p,0,none⟩ (.int .i64 (0))).setCell ⟨p,1,none⟩ (.int .i64 (0))).setCell ⟨p,2,none⟩ (.int .i64 (0))).setCell ⟨p,3,none⟩ (.int .i64 (0))).setCell ⟨p,4,none⟩ (.int .i64 (0)))):=A7.out.trans ((zmh W5 p _ _ _ _ _).below A7.out.size (λk hk=>by simp at hk;subst hk;rw[HP.out];exact Nat.le_refl _));clear A5 A7;go_wp2;have q0:=A1.cell (i:=0) rfl;have q1:=A1.cell (i:=1) rfl;have q2:=A1.cell (i:=2) rfl;have q3:=A1.cell (i:=3) rfl;have q4:=A1.cell (i:=4) rfl;generalize(((((W5.setCell ⟨p,0,none⟩ (.int .i64 (0))).setCell ⟨p,1,none⟩ (.int .i64 (0))).setCell ⟨p,2,none⟩ (.int .i64 (0))).setCell ⟨p,3,none⟩ (.int .i64 (0))).setCell ⟨p,4,none⟩ (.int .i64 (0)))=w9 at *;refine bodyPost_ret (by rw[results_cell_tmp rfl];go_simp;rfl) rfl ?_;refine⟨?_,B5⟩;rw[HV.out];rfl
  ·have HV:Hid (cj (zt (fTb Y)) o=(noM,20)):=by unfold Hid;rw[B3.out,if_pos hk]
   have G9:(d.kind != 1)=true:=by rw[C9];exact bne_iff_ne.2 hk
   clear hk C9 B3;have A5:Hid (Row ((((((w2.setCell ⟨p,0,none⟩ (.int .i64 (0))).setCell ⟨p,1,none⟩ (.int .i64 (0))).setCell ⟨p,2,none⟩ (.int .i64 (0))).setCell ⟨p,3,none⟩ (.int .i64 (0))).setCell ⟨p,4,none⟩ (.int .i64 (0))).alloc (.cells #[.int .i64 d.cls,.int .i64 d.kind,.slice d.wa d.wn d.wc,.slice d.ba d.bn d.bc] 28)) p 196 [.int .i64 (0),.int .i64 (0),.int .i64 (0),.int .i64 (0),.int .i64 (0)]):=(zmr B1 _ _ _ _ _).alloc _;have A7:Hid (Below w.heap.size w ((((((w2.setCell ⟨p,0,none⟩ (.int .i64 (0))).setCell ⟨p,1,none⟩ (.int .i64 (0))).setCell ⟨p,2,none⟩ (.int .i64 (0))).setCell ⟨p,3,none⟩ (.int .i64 (0))).setCell ⟨p,4,none⟩ (.int .i64 (0))).alloc (.cells #[.int .i64 d.cls,.int .i64 d.kind,.slice d.wa d.wn d.wc,.slice d.ba d.bn d.bc] 28))):=(zn (A9.out.trans ((zmh w2 p _ _ _ _ _).below A9.out.size (λk hk=>by simp at hk;subst hk;rw[HP.out];exact Nat.le_refl _))));clear B1 A9;go_wp2;have q0:=A5.cell (i:=0) rfl;have q1:=A5.cell (i:=1) rfl;have q2:=A5.cell (i:=2) rfl;have q3:=A5.cell (i:=3) rfl;have q4:=A5.cell (i:=4) rfl;generalize((((((w2.setCell ⟨p,0,none⟩ (.int .i64 (0))).setCell ⟨p,1,none⟩ (.int .i64 (0))).setCell ⟨p,2,none⟩ (.int .i64 (0))).setCell ⟨p,3,none⟩ (.int .i64 (0))).setCell ⟨p,4,none⟩ (.int .i64 (0))).alloc (.cells #[.int .i64 d.cls,.int .i64 d.kind,.slice d.wa d.wn d.wc,.slice d.ba d.bn d.bc] 28))=w5 at *;refine bodyPost_ret (by rw[results_cell_tmp rfl];go_simp;rfl) rfl ?_;refine⟨?_,A7⟩;rw[HV.out];rfl
end
theorem zrc(o:Za)(w:World)(h:o.ok w)(hm:1000<o.wn):Calls prog 77 #[o.val] w λe w'=>e=.returned (.int .i64 2)/\Below w.heap.size w w':=by
 obtain⟨cls,kind,wa,wn,wc,W,ba,bn,bc,B⟩:=o;obtain⟨hc,hk,wl,wm,wr,wi,bl,bm,br,bb⟩:=h;dsimp only at *;unfold Za.val;dsimp only;have HN:=zh (jr cls (w.alloc (.cells #[.int .i64 cls,.int .i64 kind,.slice wa wn wc,.slice ba bn bc] 28)) hc.1 hc.2);clear wr wi br bb wl bl;generalize yb cls=nam at *;generalize Zz cls=nv at *;have HB:=zh (show Below w.heap.size w (w.alloc (.cells #[.int .i64 cls,.int .i64 kind,.slice wa wn wc,.slice ba bn bc] 28)) from(Below.refl _ _).alloc (Nat.le_refl _) _);have A1:((wn:Int)<=1000)=False:=eq_false (by omega);have A2:((wn:Int) == 0)=false:=by simp;omega
 by_cases k1:kind=1
 ·subst k1;by_cases A0:bn=0
  ·subst A0;cases nam
   all_goals
    go_enter func77,ntmps77;go_wp2_with (go_at_call 34;go_call HN as e w' ⟨rfl,rfl⟩);go_ret;exact⟨rfl,HB⟩
  ·have A3:((bn:Int) == 0)=false:=by simp;omega
   cases nam
   all_goals
    go_enter func77,ntmps77;go_wp2_with (go_at_call 34;go_call HN as e w' ⟨rfl,rfl⟩);go_ret;exact⟨rfl,HB⟩
 ·by_cases k2:kind=2
  ·subst k2;cases nam
   all_goals
    go_enter func77,ntmps77;go_wp2_with (go_at_call 34;go_call HN as e w' ⟨rfl,rfl⟩);go_ret;exact⟨rfl,HB⟩
  ·have q1:(kind == 1)=false:=by simp[k1]
   have q2:(kind == 2)=false:=by simp[k2]
   cases nam
   all_goals
    go_enter func77,ntmps77;go_wp2_with (go_at_call 34;go_call HN as e w' ⟨rfl,rfl⟩);go_ret;exact⟨rfl,HB⟩
theorem z2h{o:Za}{w:World}(h:o.ok w)(hm:1000<o.wn):¬xk o.cls o.kind o.W o.B:=λhk=>by
 have:=h.wl;rcases hk.2 with⟨_,_,h3,_⟩|⟨_,h3,_⟩
 ·omega
 ·rw[h3] at this;simp at this;omega
theorem zrd(o:Za)(w:World)(h:o.ok w):Calls prog 77 #[o.val] w λe w'=>e=.returned (.int .i64 (zag o))/\Below w.heap.size w w':=by
 by_cases hm:o.wn<=1000
 ·exact zvh o w h (by omega)
 ·have hv:zag o=2:=by unfold zag;rw[if_neg (z2h h (by omega))]
  rw[hv];exact zrc o w h (by omega)
structure yf(w:World)(a:Option Addr)(n c:Nat)(l:List Za):Prop where
 len:n=l.length
 cap:n<=c/\c<=maxLen
 reads:qr w a 4 kq l
 ok:∀d∈l,d.ok w
theorem yf.below{w w':World}{a:Option Addr}{n c:Nat}{l:List Za}(h:yf w a n c l)(hb:Below w.heap.size w w'):yf w' a n c l:=⟨h.len,h.cap,h.reads.below hb,λd hd=>(h.ok d hd).below hb⟩
theorem yf.get{w:World}{a:Option Addr}{n c:Nat}{l:List Za}(h:yf w a n c l){k:Nat}(hk:k<n):∃b off,a=some ⟨b,off,none⟩/\b<w.heap.size/\(l.getD k Za.nothing).ok w/\l.getD k Za.nothing∈l/\∀j v,(kq (l.getD k Za.nothing))[j]?=some v->w.cell? ⟨b,off+k*4+j,none⟩=some v:=by
 have A0:k<l.length:=by have:=h.len;omega
 have hg:l[k]?=some (l.getD k Za.nothing):=by rw[zg,ze A0];rfl
 obtain⟨b,off,h1,h2,h3⟩:=h.reads k _ hg;have hm:l.getD k Za.nothing∈l:=List.mem_of_getElem? hg;exact⟨b,off,h1,h2,h.ok _ hm,hm,h3⟩
def zg8(l:List Za):Bool:=l.any (λd=>zag d != 0)
theorem zyt{l:List Za}{k:Nat}(hk:k<l.length)(h:(zag (l.getD k Za.nothing) != 0)=true):zg8 l=true:=by
 unfold zg8;rw[List.any_eq_true];refine⟨l.getD k Za.nothing,?_,h⟩;rw[zg,ze hk];exact List.getElem_mem hk
theorem z2j{l:List Za}(h:∀j,j<l.length->(zag (l.getD j Za.nothing) != 0)=false):zg8 l=false:=by
 unfold zg8;rw[List.any_eq_false];intro x hx;obtain⟨j,hj,rfl⟩:=List.getElem_of_mem hx;have:=h j hj;rw[zg,ze hj] at this;simp only[Option.getD_some] at this;rw[this];decide
theorem zb4{l:List Za}:zg8 l=false↔∀d∈l,xk d.cls d.kind d.W d.B:=by
 unfold zg8;rw[List.any_eq_false];refine forall_congr' (λd=>forall_congr' (λhd=>?_));unfold zag;split<;>simp_all
theorem z4v(o:Za)(w:World)(h:o.ok w):Calls prog 76 #[o.val] w λe w'=>e=.returned (.bool (zag o != 0))/\Below w.heap.size w w':=by
 have b1:Below w.heap.size w (w.alloc (.cells #[.int .i64 o.cls,.int .i64 o.kind,.slice o.wa o.wn o.wc,.slice o.ba o.bn o.bc] 28)):=zn (Below.refl _ _);have HC:=zh (zrd o _ (h.below b1));have HB:=zh b1;unfold Za.val at HC ⊢;generalize zag o=x at *;clear h b1;go_enter func76,ntmps76;go_wp2_with fail;go_call HC as e w1 ⟨rfl,A0⟩;have A1:=zh (zy HB A0);clear A0 HC;go_wp2;go_ret;exact⟨rfl,A1⟩
theorem zx8(a:Option Addr)(n c:Nat)(l:List Za)(w:World)(h:yf w a n c l)(hm:n<=1000000000) :
 Calls prog 115 #[.slice a n c,.func (.func 76) #[] #[]] w λe w'=>∃v:Int,e=.returned (.int .i64 v)/\decide (0<=v)=zg8 l/\Below w.heap.size w w':=by
 have HR:=zh h;have HL:=zh h.len;clear h;go_enter func115,ntmps115;go_wp2;go_loopw [8] (λi wr=>∃k:Nat,k<=n/\i=.int .i64 k/\Hid (∀j,j<k->(zag (l.getD j Za.nothing) != 0)=false)/\Hid (Below w.heap.size w wr)) (λi _=>n-(intOf i).toNat)
 case atStart=>exact⟨0,Nat.zero_le _,rfl,λj hj=>by omega,Below.refl _ _⟩
 case round =>
  obtain⟨k,hk,rfl,HZ,HB⟩:=hrel;by_cases A4:k<n
  ·obtain⟨b,off,rfl,A6,A2,-,A0⟩:=(HR.below HB).get A4;obtain⟨d,hd⟩:=zx (l.getD k Za.nothing);rw[<-hd] at A2 A0;unfold kq at A0;have x0:=A0 0 _ rfl;have x1:=A0 1 _ rfl;have x2:=A0 2 _ rfl;have x3:=A0 3 _ rfl;rw[Nat.add_zero] at x0;have HC:=zh (z4v d wr A2);unfold Za.val at HC;have HY:=zh (λh:(zag d != 0)=true=>zyt (l:=l) (k:=k) (by have:=HL.out;omega) (by rw[<-hd];exact h))
   have HN:=zh (λh:(zag d != 0)=false=>(by
    intro j hj;by_cases A5:j=k
    ·subst A5;rw[<-hd];exact h
    ·exact HZ.out j (by omega):∀j,j<k+1->(zag (l.getD j Za.nothing) != 0)=false))
   generalize(zag d != 0)=x at *;clear A0 hd A2 HZ;cases x
   ·have HV:=zh (HN rfl);clear HY HN;go_wp2_with fail;go_call HC as e w1 ⟨rfl,A1⟩;have A3:=zh (zy HB A1);clear A1 HC HB;go_wp2;go_roundw
    case rel=>exact⟨k+1,by omega,by go_num,HV.out,A3.out⟩
    case measure=>simp[intOf];omega
   ·have HV:=zh (HY rfl);clear HY HN;go_wp2_with fail;go_call HC as e w1 ⟨rfl,A1⟩;have A3:=zh (zy HB A1);clear A1 HC HB;go_wp2;go_ret;exact⟨k,rfl,by rw[HV.out];simp,A3.out⟩
  ·have HV:=zh (z2j (l:=l) (λj hj=>HZ.out j (by have:=HL.out;omega)));clear HZ;go_wp2;go_ret;exact⟨-1,rfl,by rw[HV.out];rfl,HB.out⟩
theorem zg3(a:Option Addr)(n c:Nat)(l:List Za)(w:World)(h:yf w a n c l)(hm:n<=1000000000) :
 Calls prog 75 #[.slice a n c,.func (.func 76) #[] #[]] w λe w'=>e=.returned (.bool (zg8 l))/\Below w.heap.size w w':=by
 have HI:=zh (zx8 a n c l w h hm);clear h hm;go_enter func75,ntmps75;go_wp2_with (go_at_call 115;go_call HI as e w' ⟨v,rfl,hv,hb⟩;have HV:=zh hv;have HB:=zh hb;clear hv hb);go_ret;refine⟨?_,HB⟩;rw[<-HV.out];rfl
def nmd(l:List Int)(n:Int):Bool:=l.all (λx=>decide (x<=n))
theorem z1v(x n:Int)(w:World){cb:Nat}(hc:w.cell? ⟨cb,0,none⟩=some (.int .i64 n))(hl:cb<w.heap.size):Calls prog 112 #[.int .i64 x,.pointer (some ⟨cb,0,none⟩)] w λe w'=>e=.returned (.bool (decide (x > n)))/\w=w':=by
 go_enter func112,ntmps112;go_wp2;go_ret;exact⟨rfl,rfl⟩
theorem z3s{l:List Int}{n:Int}{k:Nat}(hk:k<l.length)(h:l.getD k 0 > n):nmd l n=false:=by
 unfold nmd;rw[List.all_eq_false];refine⟨l.getD k 0,?_,by rw[decide_eq_true_eq];omega⟩;rw[zg,ze hk];exact List.getElem_mem hk
theorem z0k{l:List Int}{n:Int}(h:∀j,j<l.length->¬l.getD j 0 > n):nmd l n=true:=by
 unfold nmd;rw[List.all_eq_true];intro x hx;obtain⟨j,hj,rfl⟩:=List.getElem_of_mem hx;have:=h j hj;rw[zg,ze hj] at this;simpa using this
theorem zuy(a:Option Addr)(N c:Nat)(l:List Int)(n:Int)(w:World)(e0:N=l.length)(h:zv w a c (l.map (Value.int .i64)))(hm:N<=1000000000){cb:Nat}(hc:w.cell? ⟨cb,0,none⟩=some (.int .i64 n))(hl:cb<w.heap.size) :
 Calls prog 120 #[.slice a N c,.func (.func 112) #[] #[.pointer (some ⟨cb,0,none⟩)]] w λe w'=>∃v:Int,e=.returned (.int .i64 v)/\decide (0<=v) = !nmd l n/\w=w':=by
 subst e0;have HR:=zh h;have A1:=zh (λx=>z1v x n w hc hl);clear h hc hl;go_enter func120,ntmps120;go_wp2;go_loop [8] (λi=>∃k:Nat,k<=l.length/\i=.int .i64 k/\Hid (∀j,j<k->¬l.getD j 0 > n)) (λi=>l.length-(intOf i).toNat)
 case atStart=>exact⟨0,Nat.zero_le _,rfl,λj hj=>by omega⟩
 case round =>
  obtain⟨k,hk,rfl,hz⟩:=hrel;by_cases A2:k<l.length
  ·obtain⟨b,off,rfl,A5,A3⟩:=HR.out.at (by simp;omega);obtain⟨x,hx⟩:=zx (l.getD k 0);have A4:=A3 k (.int .i64 x) (by rw[hx];exact zr A2);have HY:=zh (λh:x > n=>z3s (l:=l) (k:=k) A2 (by rw[<-hx];exact h))
   have HN:=zh (λh:¬x > n=>(by
    intro j hj;by_cases A6:j=k
    ·subst A6;rw[<-hx];exact h
    ·exact hz.out j (by omega):∀j,j<k+1->¬l.getD j 0 > n))
   have HC:=zh (A1 x);clear A3 hz hx A1;by_cases A0:x > n
   ·have HV:=zh (HY A0);rw[decide_eq_true A0] at HC;clear HY HN A0;go_wp2_with (go_at_call 112;go_call HC as e w' ⟨rfl,rfl⟩);go_ret;exact⟨k,rfl,by rw[HV.out];simp,rfl⟩
   ·have HV:=zh (HN A0);rw[decide_eq_false A0] at HC;clear HY HN A0;go_wp2_with (go_at_call 112;go_call HC as e w' ⟨rfl,rfl⟩);go_round
    case rel=>exact⟨k+1,by omega,by go_num,λj hj=>by have:=HV.out j hj;omega⟩
    case measure=>simp[intOf];omega
  ·have A7:k=l.length:=by omega
   subst A7;have HV:=zh (z0k hz.out);clear hz;go_wp2;go_ret;exact⟨-1,rfl,by rw[HV.out];rfl,rfl⟩
theorem zlw(a:Option Addr)(N c:Nat)(l:List Int)(n:Int)(w:World)(e0:N=l.length)(h:zv w a c (l.map (Value.int .i64)))(hm:N<=1000000000){cb:Nat}(hc:w.cell? ⟨cb,0,none⟩=some (.int .i64 n))(hl:cb<w.heap.size) :
 Calls prog 82 #[.slice a N c,.func (.func 112) #[] #[.pointer (some ⟨cb,0,none⟩)]] w λe w'=>e=.returned (.bool (!nmd l n))/\w=w':=by
 have HI:=zh (zuy a N c l n w e0 h hm hc hl);clear h hm e0 hc hl;go_enter func82,ntmps82;go_wp2_with (go_at_call 120;go_call HI as e w' ⟨v,rfl,hv,rfl⟩;have HV:=zh hv;clear hv);go_ret;refine⟨?_,rfl⟩;rw[<-HV.out];rfl
theorem zye(o:Za)(n:Int)(w:World)(h:o.ok w)(hm:o.wn<=1000000):Calls prog 73 #[o.val,.int .i64 n] w λe w'=>e=.returned (.bool (nmd (Zo (o.cls::o.W)) n))/\Below w.heap.size w w':=by
 obtain⟨W1,A0⟩:=zx ((w.alloc (.cells #[.int .i64 o.cls,.int .i64 o.kind,.slice o.wa o.wn o.wc,.slice o.ba o.bn o.bc] 28)).alloc (.cells #[.int .i64 n] 3));have b1:Below w.heap.size w W1:=by rw[A0];exact zn (zn (Below.refl _ _))
 have r1:Row W1 (w.heap.size+1) 3 [.int .i64 n]:=by
  rw[A0];have:=Row.made (w.alloc (.cells #[.int .i64 o.cls,.int .i64 o.kind,.slice o.wa o.wn o.wc,.slice o.ba o.bn o.bc] 28)) [.int .i64 n] 3;simpa using this
 have A1:=zh (zjp o W1 (h.below b1) hm);have A6:=xq (o.cls::o.W);have B0:=h.wl;have A2:(Zo (o.cls::o.W)).length<=1000001:=by simp at A6;omega
 unfold Za.val at A1 ⊢;obtain⟨R,hR⟩:=zx (Zo (o.cls::o.W));rw[<-hR] at A1 A2 ⊢;have B1:=zh A0;have A7:=zh b1;have A3:=zh r1;obtain⟨q,hq⟩:=zx (w.heap.size+1);rw[<-hq] at A3;have HQ:=zh hq;clear A0 b1 r1 h A6 B0 hR hq;go_enter func73,ntmps73;go_wp2_with fail;rw[<-B1.out];go_call A1 as e w2 ⟨v,rfl,own,A4⟩;obtain⟨a,c,rfl,A8,B3,-⟩:=zk own;have A5:=A3.out.keep (l:=[]) (.of_below A4) (by simp);have A9:=zh (zlw a R.length c R n w2 rfl A8 (by omega) (A5.cell (i:=0) rfl) A5.lt);have B2:=zh (zy A7 A4);clear own A8 A5 A4 A1 A7 A3;rw[<-HQ.out];go_wp2_with fail;go_call A9 as e w3 ⟨rfl,rfl⟩;clear A9;cases hx:nmd R n
 all_goals
  go_wp2;go_ret;refine⟨?_,B2⟩;rw[hx];rfl
noncomputable def z4e(A:Nat->Option Ob)(o:Int):Bool :=
 if (cj A o).2≠0 then true else match qz A (Zz (cj A o).1.code) with|none=>true|some c=>if c.kind≠2 then true else vp c.B
theorem zd7{x:Int}(h:yh x=true):-9223372036854775808<=x/\x<=9223372036854775807:=by
 unfold yh at h;rw[Bool.or_eq_true] at h;rcases h with h|h
 ·have:=of_decide_eq_true h;omega
 ·have:=of_decide_eq_true h;omega
section
variable{w w':World}{base m mp made:Nat}{Y:List FE}
theorem zp3(H:yc w base m mp Y made)(o:Int):-9223372036854775808<=(cj (zt (fTb Y)) o).1.code/\(cj (zt (fTb Y)) o).1.code<=9223372036854775807:=by
 unfold cj;cases hl:qz (zt (fTb Y)) (Zz o) with
 | none=>decide
 | some ob =>
  simp only;split
  ·decide
  ·split
   ·decide
   ·next hk hs =>
    split
    ·decide
    ·obtain⟨k,-,ho⟩:=vn hl;obtain⟨e,he,h1,h2⟩:=xd.1 (Zl ho);have hg:=H.good e he;rw[h2] at hg
     have hw:ob.W.length=ob.size:=by
      rcases hg.kinds with⟨_,_,_,h⟩|⟨h,_⟩
      ·exact h.symm
      ·omega
     have A0:ob.W.getD 1 0∈ob.W:=by
      rw[zg,ze (by omega)];exact List.getElem_mem _
     rcases hg.1.2 with⟨_,_,_,h⟩|⟨h,_⟩
     ·exact zd7 (h _ A0)
     ·omega
theorem zyf(H:yc w base m mp Y made)(hG:Glb w)(o:Int)(b0:-9223372036854775808<=o)(b9:o<=9223372036854775807) :
 Calls prog 74 #[.iface 34 (.pointer (some ⟨m,0,none⟩)),.int .i64 o] w λe w'=>e=.returned (.bool (z4e (zt (fTb Y)) o))/\Below w.heap.size w w':=by
 have A1:=zh (zyc H o b0 b9);have A2:=zp3 H o;obtain⟨A,hA⟩:=zx (zt (fTb Y));have A0:Hid (z4e A o=if (cj A o).2≠0 then true else match qz A (Zz (cj A o).1.code) with|none=>true|some c=>if c.kind≠2 then true else vp c.B):=rfl;rw[<-hA] at A1 A2 ⊢;unfold zvz at A1;obtain⟨q,hq⟩:=zx (cj A o);rw[<-hq] at A1 A2 A0;obtain⟨mt,x⟩:=q;clear hq;simp only at A1 A2 A0;have HH:=zh H;have HA:=zh hA;have HG:=zh hG;have B7:=A2.1;have B8:=A2.2;clear H hA A2 hG;go_enter func74,ntmps74;go_wp2_with fail;go_call A1 as e w1 ⟨rfl,B1⟩;unfold Mt.val;have B2:=zh B1;have B3:=zh (HH.below B1);clear B1 A1 HH;by_cases hx:x=0
 ·subst hx;rw[if_neg (by simp)] at A0;have A3:Below w1.heap.size w1 (w1.alloc (.cells #[.int .i64 mt.args,.int .i64 mt.temps,.int .i64 mt.prim,.int .i64 mt.code,.int .i64 mt.lits] 196)):=zn (Below.refl _ _);cases hl:qz A (Zz mt.code) with
  | none =>
   rw[hl] at A0;have A4:=zh (zpc (B3.out.below A3) mt.code B7 B8 (by rw[<-HA.out];exact hl));have B4:=zh (zy B2 A3);clear A3 hl;go_wp2_with fail;go_call A4 as e w3 ⟨rfl,A5⟩;have A6:=zh (zy B4 A5);clear A5 A4;go_wp2;go_ret;refine⟨?_,zn A6⟩;rw[A0.out];rfl
  | some c =>
   rw[hl] at A0;simp only at A0;obtain⟨i,hi,A8⟩:=vn hl;rw[HA.out] at A8
   have B9:c.good:=by
    obtain⟨e,he,h1,h2⟩:=xd.1 (Zl A8);rw[<-h2];exact B3.good e he
   have A4:=zh (zg6 (B3.below A3) mt.code B7 B8 hi A8);have B4:=zh (zy B2 A3);have C0:=zh B9;clear A3 hl A8 hi B9;go_wp2_with fail;go_call A4 as e w3 ⟨d,rfl,A7,B5,B6,A5⟩;rcases d with⟨dc,dk,wa,wn,wc,W,ba,bn,bc,B⟩;have A6:=zh (zy B4 A5);have C1:dk=c.kind:=B6.kind;have hB:B=c.B:=B6.B;have A9:bn=B.length:=A7.bl
   have C3:bn<=100000:=by
    rcases C0.out.kinds with⟨_,h,_⟩|⟨_,_,h,_⟩
    ·rw[A9,hB,h];simp
    ·rw[A9,hB];omega
   have HJ:=zh (λW' (hW:Below w3.heap.size w3 W')=>z12 ba bn bc B W' (HG.next (zy A6 hW)) A9 (A7.br.below hW) A7.bb A7.bm.1 C3);rw[<-C1,<-hB] at A0;clear A5 A4 A7 B5 B6 C1 hB A9 C0;by_cases B0:dk=2
   ·subst B0;rw[if_neg (by simp)] at A0;go_wp2_with fail;refine(HJ _ (zn (Below.refl _ _))).mono ?_;rintro e w4 ⟨rfl,C2⟩;have C4:=zh (zy (zn A6) C2);clear C2 HJ;go_wp2;go_ret;refine⟨?_,C4⟩;rw[A0.out];rfl
   ·have C5:(dk != 2)=true:=bne_iff_ne.2 B0;rw[if_pos B0] at A0;clear B0 HJ;go_wp2;go_ret;refine⟨?_,zn A6⟩;rw[A0.out];rfl
 ·have C6:(x != 0)=true:=bne_iff_ne.2 hx;rw[if_pos hx] at A0;clear hx;go_wp2;go_ret;refine⟨?_,zn B2⟩;rw[A0.out];rfl
end
end Go.Proofs.YtoeibiahbenpcaaGreatDoor
