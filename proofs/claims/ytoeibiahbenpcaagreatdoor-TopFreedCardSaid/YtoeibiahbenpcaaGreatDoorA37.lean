/- Part. -/
import Derived.Test.YtoeibiahbenpcaaGreatDoorA18
import Derived.WalkMore
namespace Go.Proofs.YtoeibiahbenpcaaGreatDoor
open RowKit Maps Proofs.Tryz
set_option linter.unusedVariables false
set_option maxRecDepth 99999
set_option maxHeartbeats 9000000
structure OpC where
 kind:Int
 n:Int
 m:Int
 len:Int
def OpC.row(o:OpC):List Value:=[.int .i64 o.kind,.int .i64 o.n,.int .i64 o.m,.int .i64 o.len]
def OpC.val(o:OpC):Value:=.agg #[.int .i64 o.kind,.int .i64 o.n,.int .i64 o.m,.int .i64 o.len]
def zy6:List Value:=[.int .i64 0,.int .i64 15,.int .i64 1,.int .i64 16,.int .i64 31,.int .i64 2,.int .i64 32,.int .i64 63,.int .i64 3,.int .i64 64,.int .i64 95,.int .i64 4,.int .i64 96,.int .i64 103,.int .i64 8,.int .i64 104,.int .i64 111,.int .i64 9,.int .i64 176,.int .i64 191,.int .i64 25,.int .i64 192,.int .i64 207,.int .i64 26]
def zr5:List Value:=[.int .i64 1,.int .i64 2,.int .i64 3,.int .i64 4,.int .i64 5,.int .i64 6,.int .i64 0,.int .i64 7,.int .i64 8,.int .i64 9,.int .i64 0,.int .i64 10]
structure Glb(w:World):Prop where
 spans:∃t f,w.heap[0]?=some (.cells zy6.toArray t f)
 stores:∃t f,w.heap[1]?=some (.cells zr5.toArray t f)
theorem Glb.below{w w':World}(h:Glb w){B:Nat}(hb:Below B w w')(hB:2<=B):Glb w':=by
 obtain⟨⟨t,f,h1⟩,t',f',h2⟩:=h;exact⟨⟨t,f,(hb.block 0 (by omega)).trans h1⟩,t',f',(hb.block 1 (by omega)).trans h2⟩
theorem Glb.lt{w:World}(h:Glb w):2<=w.heap.size:=by
 obtain⟨t',f',h2⟩:=h.stores;have:=(Array.getElem?_eq_some_iff.1 h2).1;omega
theorem Glb.next{w w':World}(h:Glb w)(hb:Below w.heap.size w w'):Glb w':=h.below hb h.lt
theorem xz(w:World)(p:Nat)(a b c d:Value):Upd [p] w ((((w.setCell ⟨p,0,none⟩ a).setCell ⟨p,1,none⟩ b).setCell ⟨p,2,none⟩ c).setCell ⟨p,3,none⟩ d):=((((Upd.refl [p] w).setCell (by simp) _).setCell (by simp) _).setCell (by simp) _).setCell (by simp) _
theorem vh{w:World}{p:Nat}{t:TypeId}{x y z u:Value}(h:Row w p t [x,y,z,u])(a b c d:Value):Row ((((w.setCell ⟨p,0,none⟩ a).setCell ⟨p,1,none⟩ b).setCell ⟨p,2,none⟩ c).setCell ⟨p,3,none⟩ d) p t [a,b,c,d]:=(((h.set 0 a).set 1 b).set 2 c).set 3 d
theorem kr{P:Program}{ops:Array Oper}{rest:List Oper}{o:Oper}{a:Act}{w:World}{Q:Exit->Act->World->Prop}(hg:o.guard=none)(T:TypeId)(x i:Operand)(ho:o.op=.index T x i)(cs:Array Value)(hx:a.eval x=.agg cs)(k:Int)(hi:a.eval i=.int .i64 k)(v:Value)
 (A0:∀w,(Instr.index T (.agg cs) (.int .i64 k)).run P w=.ok v w) (h:wpList P ops Q rest (a.put o.dst v) w):wpList P ops Q (o::rest) a w :=
 wpList_plain hg λK hK=>by
  unfold Oper.wp execOp;simp only[ho,hx,hi,Sem.run_bind,A0,Result.andThen_ok,Sem.run_pure];exact hK _ _ h
def yq(k:Int):Int:=if k=1 then 4 else if k=2 then 6 else if k=3 then 2 else 2*(k-5)+1
theorem zq0(k:Int)(w:World)(h0:0<=k)(h1:k<=10):Calls prog 191 #[.int .i64 k] w λe w'=>e=.returned (.int .i64 (yq k))/\w=w':=by
 have hb:k=0\/k=1\/k=2\/k=3\/k=4\/k=5\/k=6\/k=7\/k=8\/k=9\/k=10:=by omega
 rcases hb with rfl|rfl|rfl|rfl|rfl|rfl|rfl|rfl|rfl|rfl|rfl
 all_goals
  go_enter func191,ntmps191;go_wp2;go_ret;exact⟨rfl,rfl⟩
def vw(c:Int):OpC×Bool :=
 if 0<=c/\c<=15 then(⟨1,c,0,1⟩,true) else
 if 16<=c/\c<=31 then(⟨2,c-16,0,1⟩,true) else
 if 32<=c/\c<=63 then(⟨3,c-32,0,1⟩,true) else
 if 64<=c/\c<=95 then(⟨4,c-64,0,1⟩,true) else
 if 96<=c/\c<=103 then(⟨8,c-96,0,1⟩,true) else
 if 104<=c/\c<=111 then(⟨9,c-104,0,1⟩,true) else
 if 176<=c/\c<=191 then(⟨25,c-176,0,1⟩,true) else
 if 192<=c/\c<=207 then(⟨26,c-192,0,1⟩,true) else
 if c=112 then(⟨11,0,0,1⟩,true) else
 if 112<c/\c<120 then(⟨12,yq (c-112),0,1⟩,true) else
 if c=120 then(⟨13,0,0,1⟩,true) else
 if 120<c/\c<124 then(⟨14,yq (c-120),0,1⟩,true) else
 if c=124\/c=125 then(⟨15+c-124,0,0,1⟩,true) else
 if 135<=c/\c<=137 then(⟨19+c-135,0,0,1⟩,true) else
 if 144<=c/\c<152 then(⟨22,c-143,0,1⟩,true) else
 if 152<=c/\c<160 then(⟨24,c-151,0,1⟩,true) else
 if 208<=c then(⟨17,c % 16,(c-208) / 16,1⟩,true) else
 (⟨0,0,0,1⟩,decide (c<128\/175<c\/138<=c/\c<144))
theorem z0r{p:Prop}[Decidable p]{a b:OpC×Bool}(ha:a.1.len=1)(hb:b.1.len=1):(if p then a else b).1.len=1:=by split<;>assumption
theorem zw7(c:Int):(vw c).1.len=1:=by
 unfold vw
 repeat (refine z0r rfl ?_)
 rfl
def zwi(k:Nat)(c:Int):Prop:=(0<k->¬(0<=c/\c<=15))/\(1<k->¬(16<=c/\c<=31))/\(2<k->¬(32<=c/\c<=63))/\(3<k->¬(64<=c/\c<=95))/\(4<k->¬(96<=c/\c<=103))/\(5<k->¬(104<=c/\c<=111))/\(6<k->¬(176<=c/\c<=191))/\(7<k->¬(192<=c/\c<=207))
def qt(w:World)(c:Int)(e:Ending)(w':World):Prop:=e=.returned (.tuple #[(vw c).1.val,.bool (vw c).2])/\Below w.heap.size w w'
theorem qt.is{w w':World}{c k n m l:Int}{b:Bool}(h:vw c=(⟨k,n,m,l⟩,b))(hb:Below w.heap.size w w'):qt w c (.returned (.tuple #[.agg #[.int .i64 k,.int .i64 n,.int .i64 m,.int .i64 l],.bool b])) w':=by
 refine⟨?_,hb⟩;rw[h];rfl
theorem z6f(c:Int)(w:World)(hG:Glb w)(h0:0<=c)(h1:c<=255):Calls prog 184 #[.int .i64 c] w (qt w c):=by
 have hl:=hG.lt;obtain⟨⟨tS,fS,hS⟩,-⟩:=hG;obtain⟨W1,A4⟩:=zx (w.alloc (.cells #[.int .i64 0,.int .i64 0,.int .i64 0,.int .i64 0] 242));have b1:Below w.heap.size w W1:=by rw[A4];exact zn (Below.refl _ _)
 obtain⟨p,hp⟩:=zx (w.heap.size);have r1:Row W1 p 242 [.int .i64 0,.int .i64 0,.int .i64 0,.int .i64 0]:=by rw[A4,hp];exact Row.made _ _ _
 have A7:W1.heap[0]?=some (.cells #[.int .i64 0,.int .i64 15,.int .i64 1,.int .i64 16,.int .i64 31,.int .i64 2,.int .i64 32,.int .i64 63,.int .i64 3,.int .i64 64,.int .i64 95,.int .i64 4,.int .i64 96,.int .i64 103,.int .i64 8,.int .i64 104,.int .i64 111,.int .i64 9,.int .i64 176,.int .i64 191,.int .i64 25,.int .i64 192,.int .i64 207,.int .i64 26] tS fS):=(b1.block 0 (by omega)).trans hS;rw[A4] at A7;have A5:=zh A7;have B0:=zh A4;have A6:=zh b1;have A3:=zh r1;have HP:=zh hp;have HC:=zh (λk h0 h1 z=>zq0 k z h0 h1);clear hS A7 A4 b1 r1;go_enter func184,ntmps184;go_wp2_with (refine wpList_load_row rfl 285 _ rfl 0 rfl tS _ fS _ A5.out underlying285 rfl (by kernel_rfl) ?_);rw[<-B0.out,<-hp];clear hp A5 B0;go_loopw [8] (λi wr=>∃k:Nat,k<=8/\i=.int .i64 k/\Hid (Below W1.heap.size W1 wr)/\Hid (zwi k c)) (λi _=>8-(intOf i).toNat)
 case atStart=>exact⟨0,by decide,rfl,Below.refl _ _,by unfold Hid zwi;omega⟩
 case round =>
  obtain⟨k,hk,rfl,HB,HO⟩:=hrel;by_cases B1:k<8
  ·obtain⟨lo,hi,kk,HA⟩:∃lo hi kk:Int,Hid ((k=0/\lo=0/\hi=15/\kk=1)\/(k=1/\lo=16/\hi=31/\kk=2)\/(k=2/\lo=32/\hi=63/\kk=3)\/(k=3/\lo=64/\hi=95/\kk=4)\/(k=4/\lo=96/\hi=103/\kk=8)\/(k=5/\lo=104/\hi=111/\kk=9)\/(k=6/\lo=176/\hi=191/\kk=25)\/(k=7/\lo=192/\hi=207/\kk=26)):=by
    have:k=0\/k=1\/k=2\/k=3\/k=4\/k=5\/k=6\/k=7:=by omega
    unfold Hid;rcases this with rfl|rfl|rfl|rfl|rfl|rfl|rfl|rfl<;>first|exact⟨0,15,1,by omega⟩|exact⟨16,31,2,by omega⟩|exact⟨32,63,3,by omega⟩|exact⟨64,95,4,by omega⟩|exact⟨96,103,8,by omega⟩|exact⟨104,111,9,by omega⟩|exact⟨176,191,25,by omega⟩|exact⟨192,207,26,by omega⟩
   have B5:(k:Int)<8:=by omega
   have B2:0<=lo:=by rcases HA with h|h|h|h|h|h|h|h<;>omega
   have B3:lo<=192:=by rcases HA with h|h|h|h|h|h|h|h<;>omega
   by_cases B6:c>=lo
   ·by_cases B7:c<=hi
    ·have hr:=A3.out.keep (l:=[]) (.of_below HB.out) (by simp);have f0:=hr.free 0;have f1:=hr.free 1;have f2:=hr.free 2;have f3:=hr.free 3;have pl:=hr.lt;have c0:=hr.cell (i:=0) rfl;have c1:=hr.cell (i:=1) rfl;have c2:=hr.cell (i:=2) rfl;have c3:=hr.cell (i:=3) rfl;have A0:Hid (Row (((((wr.setCell ⟨p,0,none⟩ (.int .i64 kk)).setCell ⟨p,1,none⟩ (.int .i64 (c-lo))).setCell ⟨p,2,none⟩ (.int .i64 0)).setCell ⟨p,3,none⟩ (.int .i64 1)).alloc (.cells #[.int .i64 lo,.int .i64 hi,.int .i64 kk] 284)) p 242 [.int .i64 kk,.int .i64 (c-lo),.int .i64 0,.int .i64 1]):=(vh hr _ _ _ _).keep (l:=[]) ((Upd.refl _ _).alloc _) (by simp)
     have A1:Hid (Below w.heap.size w (((((wr.setCell ⟨p,0,none⟩ (.int .i64 kk)).setCell ⟨p,1,none⟩ (.int .i64 (c-lo))).setCell ⟨p,2,none⟩ (.int .i64 0)).setCell ⟨p,3,none⟩ (.int .i64 1)).alloc (.cells #[.int .i64 lo,.int .i64 hi,.int .i64 kk] 284))) :=
      zn ((zy A6.out HB.out).trans ((xz wr p _ _ _ _).below (zy A6.out HB.out).size (λk hk=>by simp at hk;subst hk;rw[HP.out];exact Nat.le_refl _)))
     have HV:Hid (vw c=(⟨kk,c-lo,0,1⟩,true)):=by
      have:=HO.out;unfold zwi at this;unfold Hid vw;rcases HA.out with⟨rfl,rfl,rfl,rfl⟩|⟨rfl,rfl,rfl,rfl⟩|⟨rfl,rfl,rfl,rfl⟩|⟨rfl,rfl,rfl,rfl⟩|⟨rfl,rfl,rfl,rfl⟩|⟨rfl,rfl,rfl,rfl⟩|⟨rfl,rfl,rfl,rfl⟩|⟨rfl,rfl,rfl,rfl⟩<;>(try rw[Int.sub_zero])<;>repeat (first|rw[if_neg (by omega)]|rw[if_pos (by omega)])
     clear hr A3;go_wp2_with (refine kr rfl 285 _ _ rfl _ rfl k rfl (.agg #[.int .i64 lo,.int .i64 hi,.int .i64 kk]) (λ_=>by rcases HA.out with⟨rfl,rfl,rfl,rfl⟩|⟨rfl,rfl,rfl,rfl⟩|⟨rfl,rfl,rfl,rfl⟩|⟨rfl,rfl,rfl,rfl⟩|⟨rfl,rfl,rfl,rfl⟩|⟨rfl,rfl,rfl,rfl⟩|⟨rfl,rfl,rfl,rfl⟩|⟨rfl,rfl,rfl,rfl⟩<;>kernel_rfl) ?_);have q0:=A0.cell (i:=0) rfl;have q1:=A0.cell (i:=1) rfl;have q2:=A0.cell (i:=2) rfl;have q3:=A0.cell (i:=3) rfl;generalize(((((wr.setCell ⟨p,0,none⟩ (.int .i64 kk)).setCell ⟨p,1,none⟩ (.int .i64 (c-lo))).setCell ⟨p,2,none⟩ (.int .i64 0)).setCell ⟨p,3,none⟩ (.int .i64 1)).alloc (.cells #[.int .i64 lo,.int .i64 hi,.int .i64 kk] 284))=w5 at *;refine bodyPost_ret (by rw[results_cell_tmp rfl];go_simp;rfl) rfl ?_;exact qt.is HV A1
    ·have A8:Hid (zwi (k+1) c):=by have:=HO.out;unfold zwi at this;unfold Hid zwi;rcases HA.out with⟨rfl,rfl,rfl,rfl⟩|⟨rfl,rfl,rfl,rfl⟩|⟨rfl,rfl,rfl,rfl⟩|⟨rfl,rfl,rfl,rfl⟩|⟨rfl,rfl,rfl,rfl⟩|⟨rfl,rfl,rfl,rfl⟩|⟨rfl,rfl,rfl,rfl⟩|⟨rfl,rfl,rfl,rfl⟩<;>omega
     clear A3 HP;go_wp2_with (refine kr rfl 285 _ _ rfl _ rfl k rfl (.agg #[.int .i64 lo,.int .i64 hi,.int .i64 kk]) (λ_=>by rcases HA.out with⟨rfl,rfl,rfl,rfl⟩|⟨rfl,rfl,rfl,rfl⟩|⟨rfl,rfl,rfl,rfl⟩|⟨rfl,rfl,rfl,rfl⟩|⟨rfl,rfl,rfl,rfl⟩|⟨rfl,rfl,rfl,rfl⟩|⟨rfl,rfl,rfl,rfl⟩|⟨rfl,rfl,rfl,rfl⟩<;>kernel_rfl) ?_);go_roundw
     case rel=>exact⟨k+1,by omega,by go_num,zn HB.out,A8.out⟩
     case measure=>simp[intOf];omega
   ·have A8:Hid (zwi (k+1) c):=by have:=HO.out;unfold zwi at this;unfold Hid zwi;rcases HA.out with⟨rfl,rfl,rfl,rfl⟩|⟨rfl,rfl,rfl,rfl⟩|⟨rfl,rfl,rfl,rfl⟩|⟨rfl,rfl,rfl,rfl⟩|⟨rfl,rfl,rfl,rfl⟩|⟨rfl,rfl,rfl,rfl⟩|⟨rfl,rfl,rfl,rfl⟩|⟨rfl,rfl,rfl,rfl⟩<;>omega
    clear A3 HP;go_wp2_with (refine kr rfl 285 _ _ rfl _ rfl k rfl (.agg #[.int .i64 lo,.int .i64 hi,.int .i64 kk]) (λ_=>by rcases HA.out with⟨rfl,rfl,rfl,rfl⟩|⟨rfl,rfl,rfl,rfl⟩|⟨rfl,rfl,rfl,rfl⟩|⟨rfl,rfl,rfl,rfl⟩|⟨rfl,rfl,rfl,rfl⟩|⟨rfl,rfl,rfl,rfl⟩|⟨rfl,rfl,rfl,rfl⟩|⟨rfl,rfl,rfl,rfl⟩<;>kernel_rfl) ?_);go_roundw
    case rel=>exact⟨k+1,by omega,by go_num,zn HB.out,A8.out⟩
    case measure=>simp[intOf];omega
  ·obtain rfl:k=8:=by omega
   have B4:c=112\/(113<=c/\c<=119)\/c=120\/(121<=c/\c<=123)\/c=124\/c=125\/(126<=c/\c<=127)\/(128<=c/\c<=134)\/(135<=c/\c<=137)\/(138<=c/\c<=143)\/(144<=c/\c<=151)\/(152<=c/\c<=159)\/(160<=c/\c<=175)\/(208<=c/\c<=255):=by have:=HO.out;unfold zwi at this;omega
   have hr:=A3.out.keep (l:=[]) (.of_below HB.out) (by simp);have f0:=hr.free 0;have f1:=hr.free 1;have f2:=hr.free 2;have f3:=hr.free 3;have c0:=hr.cell (i:=0) rfl;have c1:=hr.cell (i:=1) rfl;have c2:=hr.cell (i:=2) rfl;have c3:=hr.cell (i:=3) rfl;have pl:=hr.lt;have HR:=zh hr;have A2:=zh (zy A6 HB);clear hr A3 A6 HB HO hk B1;rcases B4 with rfl|⟨g0,g1⟩|rfl|⟨g0,g1⟩|rfl|rfl|⟨g0,g1⟩|⟨g0,g1⟩|⟨g0,g1⟩|⟨g0,g1⟩|⟨g0,g1⟩|⟨g0,g1⟩|⟨g0,g1⟩|⟨g0,g1⟩
   ·have A0:Hid (Row (((((wr.setCell ⟨p,0,none⟩ (.int .i64 (11))).setCell ⟨p,1,none⟩ (.int .i64 (0))).setCell ⟨p,2,none⟩ (.int .i64 (0))).setCell ⟨p,3,none⟩ (.int .i64 1)).alloc (.cells #[.int .i64 (11),.int .i64 (0),.int .i64 (0),.int .i64 1] 242)) p 242 [.int .i64 (11),.int .i64 (0),.int .i64 (0),.int .i64 1]):=(vh HR.out _ _ _ _).keep (l:=[]) ((Upd.refl _ _).alloc _) (by simp);have A1:Hid (Below w.heap.size w (((((wr.setCell ⟨p,0,none⟩ (.int .i64 (11))).setCell ⟨p,1,none⟩ (.int .i64 (0))).setCell ⟨p,2,none⟩ (.int .i64 (0))).setCell ⟨p,3,none⟩ (.int .i64 1)).alloc (.cells #[.int .i64 (11),.int .i64 (0),.int .i64 (0),.int .i64 1] 242))):=zn (A2.out.trans ((xz wr p _ _ _ _).below A2.out.size (λk hk=>by simp at hk;subst hk;rw[HP.out];exact Nat.le_refl _)));have HV:Hid (vw 112=(⟨11,0,0,1⟩,true)):=by unfold Hid vw;rfl
    clear HR HC;go_wp2;have q0:=A0.cell (i:=0) rfl;have q1:=A0.cell (i:=1) rfl;have q2:=A0.cell (i:=2) rfl;have q3:=A0.cell (i:=3) rfl;generalize(((((wr.setCell ⟨p,0,none⟩ (.int .i64 (11))).setCell ⟨p,1,none⟩ (.int .i64 (0))).setCell ⟨p,2,none⟩ (.int .i64 (0))).setCell ⟨p,3,none⟩ (.int .i64 1)).alloc (.cells #[.int .i64 (11),.int .i64 (0),.int .i64 (0),.int .i64 1] 242))=w5 at *;refine bodyPost_ret (by rw[results_cell_tmp rfl];go_simp;rfl) rfl ?_;exact qt.is HV A1
   ·have t0:(c == 112)=false:=by simp;omega
    have t1:c > 112:=by omega
    have t2:c<120:=by omega
    have t3:(c == 120)=false:=by simp;omega
    have t4:¬c > 120:=by omega
    have t5:c<124:=by omega
    have t6:(c == 124)=false:=by simp;omega
    have t7:(c == 125)=false:=by simp;omega
    have t8:¬c>=135:=by omega
    have t9:c<=137:=by omega
    have t10:¬c>=144:=by omega
    have t11:c<152:=by omega
    have t12:¬c>=152:=by omega
    have t13:c<160:=by omega
    have t14:¬c>=208:=by omega
    have t15:c<128:=by omega
    have t16:¬c > 175:=by omega
    have t17:¬c>=138:=by omega
    have t18:c<144:=by omega
    have A0:Hid (Row (((((wr.setCell ⟨p,0,none⟩ (.int .i64 (12))).setCell ⟨p,1,none⟩ (.int .i64 (yq (c-112)))).setCell ⟨p,2,none⟩ (.int .i64 (0))).setCell ⟨p,3,none⟩ (.int .i64 1)).alloc (.cells #[.int .i64 (12),.int .i64 (yq (c-112)),.int .i64 (0),.int .i64 1] 242)) p 242 [.int .i64 (12),.int .i64 (yq (c-112)),.int .i64 (0),.int .i64 1]):=(vh HR.out _ _ _ _).keep (l:=[]) ((Upd.refl _ _).alloc _) (by simp);have A1:Hid (Below w.heap.size w (((((wr.setCell ⟨p,0,none⟩ (.int .i64 (12))).setCell ⟨p,1,none⟩ (.int .i64 (yq (c-112)))).setCell ⟨p,2,none⟩ (.int .i64 (0))).setCell ⟨p,3,none⟩ (.int .i64 1)).alloc (.cells #[.int .i64 (12),.int .i64 (yq (c-112)),.int .i64 (0),.int .i64 1] 242))):=zn (A2.out.trans ((xz wr p _ _ _ _).below A2.out.size (λk hk=>by simp at hk;subst hk;rw[HP.out];exact Nat.le_refl _)))
    have HV:Hid (vw c=(⟨12,yq (c-112),0,1⟩,true)):=by
     unfold Hid vw
     repeat (first|rw[if_neg (by omega)]|rw[if_pos (by omega)])
    have A9:=zh (HC.out (c-112) (by omega) (by omega));clear HR HC g0 g1;go_wp2_with (go_at_call 191;refine(A9 _).mono ?_;rintro e w' ⟨rfl,rfl⟩);have q0:=A0.cell (i:=0) rfl;have q1:=A0.cell (i:=1) rfl;have q2:=A0.cell (i:=2) rfl;have q3:=A0.cell (i:=3) rfl;generalize(((((wr.setCell ⟨p,0,none⟩ (.int .i64 (12))).setCell ⟨p,1,none⟩ (.int .i64 (yq (c-112)))).setCell ⟨p,2,none⟩ (.int .i64 (0))).setCell ⟨p,3,none⟩ (.int .i64 1)).alloc (.cells #[.int .i64 (12),.int .i64 (yq (c-112)),.int .i64 (0),.int .i64 1] 242))=w5 at *;refine bodyPost_ret (by rw[results_cell_tmp rfl];go_simp;rfl) rfl ?_;exact qt.is HV A1
   ·have A0:Hid (Row (((((wr.setCell ⟨p,0,none⟩ (.int .i64 (13))).setCell ⟨p,1,none⟩ (.int .i64 (0))).setCell ⟨p,2,none⟩ (.int .i64 (0))).setCell ⟨p,3,none⟩ (.int .i64 1)).alloc (.cells #[.int .i64 (13),.int .i64 (0),.int .i64 (0),.int .i64 1] 242)) p 242 [.int .i64 (13),.int .i64 (0),.int .i64 (0),.int .i64 1]):=(vh HR.out _ _ _ _).keep (l:=[]) ((Upd.refl _ _).alloc _) (by simp);have A1:Hid (Below w.heap.size w (((((wr.setCell ⟨p,0,none⟩ (.int .i64 (13))).setCell ⟨p,1,none⟩ (.int .i64 (0))).setCell ⟨p,2,none⟩ (.int .i64 (0))).setCell ⟨p,3,none⟩ (.int .i64 1)).alloc (.cells #[.int .i64 (13),.int .i64 (0),.int .i64 (0),.int .i64 1] 242))):=zn (A2.out.trans ((xz wr p _ _ _ _).below A2.out.size (λk hk=>by simp at hk;subst hk;rw[HP.out];exact Nat.le_refl _)));have HV:Hid (vw 120=(⟨13,0,0,1⟩,true)):=by unfold Hid vw;rfl
    clear HR HC;go_wp2;have q0:=A0.cell (i:=0) rfl;have q1:=A0.cell (i:=1) rfl;have q2:=A0.cell (i:=2) rfl;have q3:=A0.cell (i:=3) rfl;generalize(((((wr.setCell ⟨p,0,none⟩ (.int .i64 (13))).setCell ⟨p,1,none⟩ (.int .i64 (0))).setCell ⟨p,2,none⟩ (.int .i64 (0))).setCell ⟨p,3,none⟩ (.int .i64 1)).alloc (.cells #[.int .i64 (13),.int .i64 (0),.int .i64 (0),.int .i64 1] 242))=w5 at *;refine bodyPost_ret (by rw[results_cell_tmp rfl];go_simp;rfl) rfl ?_;exact qt.is HV A1
   ·have t0:(c == 112)=false:=by simp;omega
    have t1:c > 112:=by omega
    have t2:¬c<120:=by omega
    have t3:(c == 120)=false:=by simp;omega
    have t4:c > 120:=by omega
    have t5:c<124:=by omega
    have t6:(c == 124)=false:=by simp;omega
    have t7:(c == 125)=false:=by simp;omega
    have t8:¬c>=135:=by omega
    have t9:c<=137:=by omega
    have t10:¬c>=144:=by omega
    have t11:c<152:=by omega
    have t12:¬c>=152:=by omega
    have t13:c<160:=by omega
    have t14:¬c>=208:=by omega
    have t15:c<128:=by omega
    have t16:¬c > 175:=by omega
    have t17:¬c>=138:=by omega
    have t18:c<144:=by omega
    have A0:Hid (Row (((((wr.setCell ⟨p,0,none⟩ (.int .i64 (14))).setCell ⟨p,1,none⟩ (.int .i64 (yq (c-120)))).setCell ⟨p,2,none⟩ (.int .i64 (0))).setCell ⟨p,3,none⟩ (.int .i64 1)).alloc (.cells #[.int .i64 (14),.int .i64 (yq (c-120)),.int .i64 (0),.int .i64 1] 242)) p 242 [.int .i64 (14),.int .i64 (yq (c-120)),.int .i64 (0),.int .i64 1]):=(vh HR.out _ _ _ _).keep (l:=[]) ((Upd.refl _ _).alloc _) (by simp);have A1:Hid (Below w.heap.size w (((((wr.setCell ⟨p,0,none⟩ (.int .i64 (14))).setCell ⟨p,1,none⟩ (.int .i64 (yq (c-120)))).setCell ⟨p,2,none⟩ (.int .i64 (0))).setCell ⟨p,3,none⟩ (.int .i64 1)).alloc (.cells #[.int .i64 (14),.int .i64 (yq (c-120)),.int .i64 (0),.int .i64 1] 242))):=zn (A2.out.trans ((xz wr p _ _ _ _).below A2.out.size (λk hk=>by simp at hk;subst hk;rw[HP.out];exact Nat.le_refl _)))
    have HV:Hid (vw c=(⟨14,yq (c-120),0,1⟩,true)):=by
     unfold Hid vw
     repeat (first|rw[if_neg (by omega)]|rw[if_pos (by omega)])
    have A9:=zh (HC.out (c-120) (by omega) (by omega));clear HR HC g0 g1;go_wp2_with (go_at_call 191;refine(A9 _).mono ?_;rintro e w' ⟨rfl,rfl⟩);have q0:=A0.cell (i:=0) rfl;have q1:=A0.cell (i:=1) rfl;have q2:=A0.cell (i:=2) rfl;have q3:=A0.cell (i:=3) rfl;generalize(((((wr.setCell ⟨p,0,none⟩ (.int .i64 (14))).setCell ⟨p,1,none⟩ (.int .i64 (yq (c-120)))).setCell ⟨p,2,none⟩ (.int .i64 (0))).setCell ⟨p,3,none⟩ (.int .i64 1)).alloc (.cells #[.int .i64 (14),.int .i64 (yq (c-120)),.int .i64 (0),.int .i64 1] 242))=w5 at *;refine bodyPost_ret (by rw[results_cell_tmp rfl];go_simp;rfl) rfl ?_;exact qt.is HV A1
   ·have A0:Hid (Row (((((wr.setCell ⟨p,0,none⟩ (.int .i64 (15))).setCell ⟨p,1,none⟩ (.int .i64 (0))).setCell ⟨p,2,none⟩ (.int .i64 (0))).setCell ⟨p,3,none⟩ (.int .i64 1)).alloc (.cells #[.int .i64 (15),.int .i64 (0),.int .i64 (0),.int .i64 1] 242)) p 242 [.int .i64 (15),.int .i64 (0),.int .i64 (0),.int .i64 1]):=(vh HR.out _ _ _ _).keep (l:=[]) ((Upd.refl _ _).alloc _) (by simp);have A1:Hid (Below w.heap.size w (((((wr.setCell ⟨p,0,none⟩ (.int .i64 (15))).setCell ⟨p,1,none⟩ (.int .i64 (0))).setCell ⟨p,2,none⟩ (.int .i64 (0))).setCell ⟨p,3,none⟩ (.int .i64 1)).alloc (.cells #[.int .i64 (15),.int .i64 (0),.int .i64 (0),.int .i64 1] 242))):=zn (A2.out.trans ((xz wr p _ _ _ _).below A2.out.size (λk hk=>by simp at hk;subst hk;rw[HP.out];exact Nat.le_refl _)));have HV:Hid (vw 124=(⟨15,0,0,1⟩,true)):=by unfold Hid vw;rfl
    clear HR HC;go_wp2;have q0:=A0.cell (i:=0) rfl;have q1:=A0.cell (i:=1) rfl;have q2:=A0.cell (i:=2) rfl;have q3:=A0.cell (i:=3) rfl;generalize(((((wr.setCell ⟨p,0,none⟩ (.int .i64 (15))).setCell ⟨p,1,none⟩ (.int .i64 (0))).setCell ⟨p,2,none⟩ (.int .i64 (0))).setCell ⟨p,3,none⟩ (.int .i64 1)).alloc (.cells #[.int .i64 (15),.int .i64 (0),.int .i64 (0),.int .i64 1] 242))=w5 at *;refine bodyPost_ret (by rw[results_cell_tmp rfl];go_simp;rfl) rfl ?_;exact qt.is HV A1
   ·have A0:Hid (Row (((((wr.setCell ⟨p,0,none⟩ (.int .i64 (16))).setCell ⟨p,1,none⟩ (.int .i64 (0))).setCell ⟨p,2,none⟩ (.int .i64 (0))).setCell ⟨p,3,none⟩ (.int .i64 1)).alloc (.cells #[.int .i64 (16),.int .i64 (0),.int .i64 (0),.int .i64 1] 242)) p 242 [.int .i64 (16),.int .i64 (0),.int .i64 (0),.int .i64 1]):=(vh HR.out _ _ _ _).keep (l:=[]) ((Upd.refl _ _).alloc _) (by simp);have A1:Hid (Below w.heap.size w (((((wr.setCell ⟨p,0,none⟩ (.int .i64 (16))).setCell ⟨p,1,none⟩ (.int .i64 (0))).setCell ⟨p,2,none⟩ (.int .i64 (0))).setCell ⟨p,3,none⟩ (.int .i64 1)).alloc (.cells #[.int .i64 (16),.int .i64 (0),.int .i64 (0),.int .i64 1] 242))):=zn (A2.out.trans ((xz wr p _ _ _ _).below A2.out.size (λk hk=>by simp at hk;subst hk;rw[HP.out];exact Nat.le_refl _)));have HV:Hid (vw 125=(⟨16,0,0,1⟩,true)):=by unfold Hid vw;rfl
    clear HR HC;go_wp2;have q0:=A0.cell (i:=0) rfl;have q1:=A0.cell (i:=1) rfl;have q2:=A0.cell (i:=2) rfl;have q3:=A0.cell (i:=3) rfl;generalize(((((wr.setCell ⟨p,0,none⟩ (.int .i64 (16))).setCell ⟨p,1,none⟩ (.int .i64 (0))).setCell ⟨p,2,none⟩ (.int .i64 (0))).setCell ⟨p,3,none⟩ (.int .i64 1)).alloc (.cells #[.int .i64 (16),.int .i64 (0),.int .i64 (0),.int .i64 1] 242))=w5 at *;refine bodyPost_ret (by rw[results_cell_tmp rfl];go_simp;rfl) rfl ?_;exact qt.is HV A1
   ·have t0:(c == 112)=false:=by simp;omega
    have t1:c > 112:=by omega
    have t2:¬c<120:=by omega
    have t3:(c == 120)=false:=by simp;omega
    have t4:c > 120:=by omega
    have t5:¬c<124:=by omega
    have t6:(c == 124)=false:=by simp;omega
    have t7:(c == 125)=false:=by simp;omega
    have t8:¬c>=135:=by omega
    have t9:c<=137:=by omega
    have t10:¬c>=144:=by omega
    have t11:c<152:=by omega
    have t12:¬c>=152:=by omega
    have t13:c<160:=by omega
    have t14:¬c>=208:=by omega
    have t15:c<128:=by omega
    have t16:¬c > 175:=by omega
    have t17:¬c>=138:=by omega
    have t18:c<144:=by omega
    have A0:Hid (Row (((((wr.setCell ⟨p,0,none⟩ (.int .i64 (0))).setCell ⟨p,1,none⟩ (.int .i64 (0))).setCell ⟨p,2,none⟩ (.int .i64 (0))).setCell ⟨p,3,none⟩ (.int .i64 1)).alloc (.cells #[.int .i64 (0),.int .i64 (0),.int .i64 (0),.int .i64 1] 242)) p 242 [.int .i64 (0),.int .i64 (0),.int .i64 (0),.int .i64 1]):=(vh HR.out _ _ _ _).keep (l:=[]) ((Upd.refl _ _).alloc _) (by simp);have A1:Hid (Below w.heap.size w (((((wr.setCell ⟨p,0,none⟩ (.int .i64 (0))).setCell ⟨p,1,none⟩ (.int .i64 (0))).setCell ⟨p,2,none⟩ (.int .i64 (0))).setCell ⟨p,3,none⟩ (.int .i64 1)).alloc (.cells #[.int .i64 (0),.int .i64 (0),.int .i64 (0),.int .i64 1] 242))):=zn (A2.out.trans ((xz wr p _ _ _ _).below A2.out.size (λk hk=>by simp at hk;subst hk;rw[HP.out];exact Nat.le_refl _)))
    have HV:Hid (vw c=(⟨0,0,0,1⟩,true)):=by
     unfold Hid vw
     repeat (first|rw[if_neg (by omega)]|rw[if_pos (by omega)])
     simp;omega
    clear HR HC g0 g1;go_wp2;have q0:=A0.cell (i:=0) rfl;have q1:=A0.cell (i:=1) rfl;have q2:=A0.cell (i:=2) rfl;have q3:=A0.cell (i:=3) rfl;generalize(((((wr.setCell ⟨p,0,none⟩ (.int .i64 (0))).setCell ⟨p,1,none⟩ (.int .i64 (0))).setCell ⟨p,2,none⟩ (.int .i64 (0))).setCell ⟨p,3,none⟩ (.int .i64 1)).alloc (.cells #[.int .i64 (0),.int .i64 (0),.int .i64 (0),.int .i64 1] 242))=w5 at *;refine bodyPost_ret (by rw[results_cell_tmp rfl];go_simp;rfl) rfl ?_;exact qt.is HV A1
   ·have t0:(c == 112)=false:=by simp;omega
    have t1:c > 112:=by omega
    have t2:¬c<120:=by omega
    have t3:(c == 120)=false:=by simp;omega
    have t4:c > 120:=by omega
    have t5:¬c<124:=by omega
    have t6:(c == 124)=false:=by simp;omega
    have t7:(c == 125)=false:=by simp;omega
    have t8:¬c>=135:=by omega
    have t9:c<=137:=by omega
    have t10:¬c>=144:=by omega
    have t11:c<152:=by omega
    have t12:¬c>=152:=by omega
    have t13:c<160:=by omega
    have t14:¬c>=208:=by omega
    have t15:¬c<128:=by omega
    have t16:¬c > 175:=by omega
    have t17:¬c>=138:=by omega
    have t18:c<144:=by omega
    have A0:Hid (Row (((((wr.setCell ⟨p,0,none⟩ (.int .i64 (0))).setCell ⟨p,1,none⟩ (.int .i64 (0))).setCell ⟨p,2,none⟩ (.int .i64 (0))).setCell ⟨p,3,none⟩ (.int .i64 1)).alloc (.cells #[.int .i64 (0),.int .i64 (0),.int .i64 (0),.int .i64 1] 242)) p 242 [.int .i64 (0),.int .i64 (0),.int .i64 (0),.int .i64 1]):=(vh HR.out _ _ _ _).keep (l:=[]) ((Upd.refl _ _).alloc _) (by simp);have A1:Hid (Below w.heap.size w (((((wr.setCell ⟨p,0,none⟩ (.int .i64 (0))).setCell ⟨p,1,none⟩ (.int .i64 (0))).setCell ⟨p,2,none⟩ (.int .i64 (0))).setCell ⟨p,3,none⟩ (.int .i64 1)).alloc (.cells #[.int .i64 (0),.int .i64 (0),.int .i64 (0),.int .i64 1] 242))):=zn (A2.out.trans ((xz wr p _ _ _ _).below A2.out.size (λk hk=>by simp at hk;subst hk;rw[HP.out];exact Nat.le_refl _)))
    have HV:Hid (vw c=(⟨0,0,0,1⟩,false)):=by
     unfold Hid vw
     repeat (first|rw[if_neg (by omega)]|rw[if_pos (by omega)])
     simp;omega
    clear HR HC g0 g1;go_wp2;have q0:=A0.cell (i:=0) rfl;have q1:=A0.cell (i:=1) rfl;have q2:=A0.cell (i:=2) rfl;have q3:=A0.cell (i:=3) rfl;generalize(((((wr.setCell ⟨p,0,none⟩ (.int .i64 (0))).setCell ⟨p,1,none⟩ (.int .i64 (0))).setCell ⟨p,2,none⟩ (.int .i64 (0))).setCell ⟨p,3,none⟩ (.int .i64 1)).alloc (.cells #[.int .i64 (0),.int .i64 (0),.int .i64 (0),.int .i64 1] 242))=w5 at *;refine bodyPost_ret (by rw[results_cell_tmp rfl];go_simp;rfl) rfl ?_;exact qt.is HV A1
   ·have t0:(c == 112)=false:=by simp;omega
    have t1:c > 112:=by omega
    have t2:¬c<120:=by omega
    have t3:(c == 120)=false:=by simp;omega
    have t4:c > 120:=by omega
    have t5:¬c<124:=by omega
    have t6:(c == 124)=false:=by simp;omega
    have t7:(c == 125)=false:=by simp;omega
    have t8:c>=135:=by omega
    have t9:c<=137:=by omega
    have t10:¬c>=144:=by omega
    have t11:c<152:=by omega
    have t12:¬c>=152:=by omega
    have t13:c<160:=by omega
    have t14:¬c>=208:=by omega
    have t15:¬c<128:=by omega
    have t16:¬c > 175:=by omega
    have t17:¬c>=138:=by omega
    have t18:c<144:=by omega
    have A0:Hid (Row (((((wr.setCell ⟨p,0,none⟩ (.int .i64 (19+c-135))).setCell ⟨p,1,none⟩ (.int .i64 (0))).setCell ⟨p,2,none⟩ (.int .i64 (0))).setCell ⟨p,3,none⟩ (.int .i64 1)).alloc (.cells #[.int .i64 (19+c-135),.int .i64 (0),.int .i64 (0),.int .i64 1] 242)) p 242 [.int .i64 (19+c-135),.int .i64 (0),.int .i64 (0),.int .i64 1]):=(vh HR.out _ _ _ _).keep (l:=[]) ((Upd.refl _ _).alloc _) (by simp);have A1:Hid (Below w.heap.size w (((((wr.setCell ⟨p,0,none⟩ (.int .i64 (19+c-135))).setCell ⟨p,1,none⟩ (.int .i64 (0))).setCell ⟨p,2,none⟩ (.int .i64 (0))).setCell ⟨p,3,none⟩ (.int .i64 1)).alloc (.cells #[.int .i64 (19+c-135),.int .i64 (0),.int .i64 (0),.int .i64 1] 242))):=zn (A2.out.trans ((xz wr p _ _ _ _).below A2.out.size (λk hk=>by simp at hk;subst hk;rw[HP.out];exact Nat.le_refl _)))
    have HV:Hid (vw c=(⟨19+c-135,0,0,1⟩,true)):=by
     unfold Hid vw
     repeat (first|rw[if_neg (by omega)]|rw[if_pos (by omega)])
    clear HR HC g0 g1;go_wp2;have q0:=A0.cell (i:=0) rfl;have q1:=A0.cell (i:=1) rfl;have q2:=A0.cell (i:=2) rfl;have q3:=A0.cell (i:=3) rfl;generalize(((((wr.setCell ⟨p,0,none⟩ (.int .i64 (19+c-135))).setCell ⟨p,1,none⟩ (.int .i64 (0))).setCell ⟨p,2,none⟩ (.int .i64 (0))).setCell ⟨p,3,none⟩ (.int .i64 1)).alloc (.cells #[.int .i64 (19+c-135),.int .i64 (0),.int .i64 (0),.int .i64 1] 242))=w5 at *;refine bodyPost_ret (by rw[results_cell_tmp rfl];go_simp;rfl) rfl ?_;exact qt.is HV A1
   ·have t0:(c == 112)=false:=by simp;omega
    have t1:c > 112:=by omega
    have t2:¬c<120:=by omega
    have t3:(c == 120)=false:=by simp;omega
    have t4:c > 120:=by omega
    have t5:¬c<124:=by omega
    have t6:(c == 124)=false:=by simp;omega
    have t7:(c == 125)=false:=by simp;omega
    have t8:c>=135:=by omega
    have t9:¬c<=137:=by omega
    have t10:¬c>=144:=by omega
    have t11:c<152:=by omega
    have t12:¬c>=152:=by omega
    have t13:c<160:=by omega
    have t14:¬c>=208:=by omega
    have t15:¬c<128:=by omega
    have t16:¬c > 175:=by omega
    have t17:c>=138:=by omega
    have t18:c<144:=by omega
    have A0:Hid (Row (((((wr.setCell ⟨p,0,none⟩ (.int .i64 (0))).setCell ⟨p,1,none⟩ (.int .i64 (0))).setCell ⟨p,2,none⟩ (.int .i64 (0))).setCell ⟨p,3,none⟩ (.int .i64 1)).alloc (.cells #[.int .i64 (0),.int .i64 (0),.int .i64 (0),.int .i64 1] 242)) p 242 [.int .i64 (0),.int .i64 (0),.int .i64 (0),.int .i64 1]):=(vh HR.out _ _ _ _).keep (l:=[]) ((Upd.refl _ _).alloc _) (by simp);have A1:Hid (Below w.heap.size w (((((wr.setCell ⟨p,0,none⟩ (.int .i64 (0))).setCell ⟨p,1,none⟩ (.int .i64 (0))).setCell ⟨p,2,none⟩ (.int .i64 (0))).setCell ⟨p,3,none⟩ (.int .i64 1)).alloc (.cells #[.int .i64 (0),.int .i64 (0),.int .i64 (0),.int .i64 1] 242))):=zn (A2.out.trans ((xz wr p _ _ _ _).below A2.out.size (λk hk=>by simp at hk;subst hk;rw[HP.out];exact Nat.le_refl _)))
    have HV:Hid (vw c=(⟨0,0,0,1⟩,true)):=by
     unfold Hid vw
     repeat (first|rw[if_neg (by omega)]|rw[if_pos (by omega)])
     simp;omega
    clear HR HC g0 g1;go_wp2;have q0:=A0.cell (i:=0) rfl;have q1:=A0.cell (i:=1) rfl;have q2:=A0.cell (i:=2) rfl;have q3:=A0.cell (i:=3) rfl;generalize(((((wr.setCell ⟨p,0,none⟩ (.int .i64 (0))).setCell ⟨p,1,none⟩ (.int .i64 (0))).setCell ⟨p,2,none⟩ (.int .i64 (0))).setCell ⟨p,3,none⟩ (.int .i64 1)).alloc (.cells #[.int .i64 (0),.int .i64 (0),.int .i64 (0),.int .i64 1] 242))=w5 at *;refine bodyPost_ret (by rw[results_cell_tmp rfl];go_simp;rfl) rfl ?_;exact qt.is HV A1
   ·have t0:(c == 112)=false:=by simp;omega
    have t1:c > 112:=by omega
    have t2:¬c<120:=by omega
    have t3:(c == 120)=false:=by simp;omega
    have t4:c > 120:=by omega
    have t5:¬c<124:=by omega
    have t6:(c == 124)=false:=by simp;omega
    have t7:(c == 125)=false:=by simp;omega
    have t8:c>=135:=by omega
    have t9:¬c<=137:=by omega
    have t10:c>=144:=by omega
    have t11:c<152:=by omega
    have t12:¬c>=152:=by omega
    have t13:c<160:=by omega
    have t14:¬c>=208:=by omega
    have t15:¬c<128:=by omega
    have t16:¬c > 175:=by omega
    have t17:c>=138:=by omega
    have t18:¬c<144:=by omega
    have A0:Hid (Row (((((wr.setCell ⟨p,0,none⟩ (.int .i64 (22))).setCell ⟨p,1,none⟩ (.int .i64 (c-143))).setCell ⟨p,2,none⟩ (.int .i64 (0))).setCell ⟨p,3,none⟩ (.int .i64 1)).alloc (.cells #[.int .i64 (22),.int .i64 (c-143),.int .i64 (0),.int .i64 1] 242)) p 242 [.int .i64 (22),.int .i64 (c-143),.int .i64 (0),.int .i64 1]):=(vh HR.out _ _ _ _).keep (l:=[]) ((Upd.refl _ _).alloc _) (by simp);have A1:Hid (Below w.heap.size w (((((wr.setCell ⟨p,0,none⟩ (.int .i64 (22))).setCell ⟨p,1,none⟩ (.int .i64 (c-143))).setCell ⟨p,2,none⟩ (.int .i64 (0))).setCell ⟨p,3,none⟩ (.int .i64 1)).alloc (.cells #[.int .i64 (22),.int .i64 (c-143),.int .i64 (0),.int .i64 1] 242))):=zn (A2.out.trans ((xz wr p _ _ _ _).below A2.out.size (λk hk=>by simp at hk;subst hk;rw[HP.out];exact Nat.le_refl _)))
    have HV:Hid (vw c=(⟨22,c-143,0,1⟩,true)):=by
     unfold Hid vw
     repeat (first|rw[if_neg (by omega)]|rw[if_pos (by omega)])
    clear HR HC g0 g1;go_wp2;have q0:=A0.cell (i:=0) rfl;have q1:=A0.cell (i:=1) rfl;have q2:=A0.cell (i:=2) rfl;have q3:=A0.cell (i:=3) rfl;generalize(((((wr.setCell ⟨p,0,none⟩ (.int .i64 (22))).setCell ⟨p,1,none⟩ (.int .i64 (c-143))).setCell ⟨p,2,none⟩ (.int .i64 (0))).setCell ⟨p,3,none⟩ (.int .i64 1)).alloc (.cells #[.int .i64 (22),.int .i64 (c-143),.int .i64 (0),.int .i64 1] 242))=w5 at *;refine bodyPost_ret (by rw[results_cell_tmp rfl];go_simp;rfl) rfl ?_;exact qt.is HV A1
   ·have t0:(c == 112)=false:=by simp;omega
    have t1:c > 112:=by omega
    have t2:¬c<120:=by omega
    have t3:(c == 120)=false:=by simp;omega
    have t4:c > 120:=by omega
    have t5:¬c<124:=by omega
    have t6:(c == 124)=false:=by simp;omega
    have t7:(c == 125)=false:=by simp;omega
    have t8:c>=135:=by omega
    have t9:¬c<=137:=by omega
    have t10:c>=144:=by omega
    have t11:¬c<152:=by omega
    have t12:c>=152:=by omega
    have t13:c<160:=by omega
    have t14:¬c>=208:=by omega
    have t15:¬c<128:=by omega
    have t16:¬c > 175:=by omega
    have t17:c>=138:=by omega
    have t18:¬c<144:=by omega
    have A0:Hid (Row (((((wr.setCell ⟨p,0,none⟩ (.int .i64 (24))).setCell ⟨p,1,none⟩ (.int .i64 (c-151))).setCell ⟨p,2,none⟩ (.int .i64 (0))).setCell ⟨p,3,none⟩ (.int .i64 1)).alloc (.cells #[.int .i64 (24),.int .i64 (c-151),.int .i64 (0),.int .i64 1] 242)) p 242 [.int .i64 (24),.int .i64 (c-151),.int .i64 (0),.int .i64 1]):=(vh HR.out _ _ _ _).keep (l:=[]) ((Upd.refl _ _).alloc _) (by simp);have A1:Hid (Below w.heap.size w (((((wr.setCell ⟨p,0,none⟩ (.int .i64 (24))).setCell ⟨p,1,none⟩ (.int .i64 (c-151))).setCell ⟨p,2,none⟩ (.int .i64 (0))).setCell ⟨p,3,none⟩ (.int .i64 1)).alloc (.cells #[.int .i64 (24),.int .i64 (c-151),.int .i64 (0),.int .i64 1] 242))):=zn (A2.out.trans ((xz wr p _ _ _ _).below A2.out.size (λk hk=>by simp at hk;subst hk;rw[HP.out];exact Nat.le_refl _)))
    have HV:Hid (vw c=(⟨24,c-151,0,1⟩,true)):=by
     unfold Hid vw
     repeat (first|rw[if_neg (by omega)]|rw[if_pos (by omega)])
    clear HR HC g0 g1;go_wp2;have q0:=A0.cell (i:=0) rfl;have q1:=A0.cell (i:=1) rfl;have q2:=A0.cell (i:=2) rfl;have q3:=A0.cell (i:=3) rfl;generalize(((((wr.setCell ⟨p,0,none⟩ (.int .i64 (24))).setCell ⟨p,1,none⟩ (.int .i64 (c-151))).setCell ⟨p,2,none⟩ (.int .i64 (0))).setCell ⟨p,3,none⟩ (.int .i64 1)).alloc (.cells #[.int .i64 (24),.int .i64 (c-151),.int .i64 (0),.int .i64 1] 242))=w5 at *;refine bodyPost_ret (by rw[results_cell_tmp rfl];go_simp;rfl) rfl ?_;exact qt.is HV A1
   ·have t0:(c == 112)=false:=by simp;omega
    have t1:c > 112:=by omega
    have t2:¬c<120:=by omega
    have t3:(c == 120)=false:=by simp;omega
    have t4:c > 120:=by omega
    have t5:¬c<124:=by omega
    have t6:(c == 124)=false:=by simp;omega
    have t7:(c == 125)=false:=by simp;omega
    have t8:c>=135:=by omega
    have t9:¬c<=137:=by omega
    have t10:c>=144:=by omega
    have t11:¬c<152:=by omega
    have t12:c>=152:=by omega
    have t13:¬c<160:=by omega
    have t14:¬c>=208:=by omega
    have t15:¬c<128:=by omega
    have t16:¬c > 175:=by omega
    have t17:c>=138:=by omega
    have t18:¬c<144:=by omega
    have A0:Hid (Row (((((wr.setCell ⟨p,0,none⟩ (.int .i64 (0))).setCell ⟨p,1,none⟩ (.int .i64 (0))).setCell ⟨p,2,none⟩ (.int .i64 (0))).setCell ⟨p,3,none⟩ (.int .i64 1)).alloc (.cells #[.int .i64 (0),.int .i64 (0),.int .i64 (0),.int .i64 1] 242)) p 242 [.int .i64 (0),.int .i64 (0),.int .i64 (0),.int .i64 1]):=(vh HR.out _ _ _ _).keep (l:=[]) ((Upd.refl _ _).alloc _) (by simp);have A1:Hid (Below w.heap.size w (((((wr.setCell ⟨p,0,none⟩ (.int .i64 (0))).setCell ⟨p,1,none⟩ (.int .i64 (0))).setCell ⟨p,2,none⟩ (.int .i64 (0))).setCell ⟨p,3,none⟩ (.int .i64 1)).alloc (.cells #[.int .i64 (0),.int .i64 (0),.int .i64 (0),.int .i64 1] 242))):=zn (A2.out.trans ((xz wr p _ _ _ _).below A2.out.size (λk hk=>by simp at hk;subst hk;rw[HP.out];exact Nat.le_refl _)))
    have HV:Hid (vw c=(⟨0,0,0,1⟩,false)):=by
     unfold Hid vw
     repeat (first|rw[if_neg (by omega)]|rw[if_pos (by omega)])
     simp;omega
    clear HR HC g0 g1;go_wp2;have q0:=A0.cell (i:=0) rfl;have q1:=A0.cell (i:=1) rfl;have q2:=A0.cell (i:=2) rfl;have q3:=A0.cell (i:=3) rfl;generalize(((((wr.setCell ⟨p,0,none⟩ (.int .i64 (0))).setCell ⟨p,1,none⟩ (.int .i64 (0))).setCell ⟨p,2,none⟩ (.int .i64 (0))).setCell ⟨p,3,none⟩ (.int .i64 1)).alloc (.cells #[.int .i64 (0),.int .i64 (0),.int .i64 (0),.int .i64 1] 242))=w5 at *;refine bodyPost_ret (by rw[results_cell_tmp rfl];go_simp;rfl) rfl ?_;exact qt.is HV A1
   ·have t0:(c == 112)=false:=by simp;omega
    have t1:c > 112:=by omega
    have t2:¬c<120:=by omega
    have t3:(c == 120)=false:=by simp;omega
    have t4:c > 120:=by omega
    have t5:¬c<124:=by omega
    have t6:(c == 124)=false:=by simp;omega
    have t7:(c == 125)=false:=by simp;omega
    have t8:c>=135:=by omega
    have t9:¬c<=137:=by omega
    have t10:c>=144:=by omega
    have t11:¬c<152:=by omega
    have t12:c>=152:=by omega
    have t13:¬c<160:=by omega
    have t14:c>=208:=by omega
    have t15:¬c<128:=by omega
    have t16:c > 175:=by omega
    have t17:c>=138:=by omega
    have t18:¬c<144:=by omega
    have A0:Hid (Row (((((wr.setCell ⟨p,0,none⟩ (.int .i64 (17))).setCell ⟨p,1,none⟩ (.int .i64 (c % 16))).setCell ⟨p,2,none⟩ (.int .i64 ((c-208) / 16))).setCell ⟨p,3,none⟩ (.int .i64 1)).alloc (.cells #[.int .i64 (17),.int .i64 (c % 16),.int .i64 ((c-208) / 16),.int .i64 1] 242)) p 242 [.int .i64 (17),.int .i64 (c % 16),.int .i64 ((c-208) / 16),.int .i64 1]):=(vh HR.out _ _ _ _).keep (l:=[]) ((Upd.refl _ _).alloc _) (by simp);have A1:Hid (Below w.heap.size w (((((wr.setCell ⟨p,0,none⟩ (.int .i64 (17))).setCell ⟨p,1,none⟩ (.int .i64 (c % 16))).setCell ⟨p,2,none⟩ (.int .i64 ((c-208) / 16))).setCell ⟨p,3,none⟩ (.int .i64 1)).alloc (.cells #[.int .i64 (17),.int .i64 (c % 16),.int .i64 ((c-208) / 16),.int .i64 1] 242))):=zn (A2.out.trans ((xz wr p _ _ _ _).below A2.out.size (λk hk=>by simp at hk;subst hk;rw[HP.out];exact Nat.le_refl _)))
    have HV:Hid (vw c=(⟨17,c % 16,(c-208) / 16,1⟩,true)):=by
     unfold Hid vw
     repeat (first|rw[if_neg (by omega)]|rw[if_pos (by omega)])
    clear HR HC g0 g1;go_wp2;have q0:=A0.cell (i:=0) rfl;have q1:=A0.cell (i:=1) rfl;have q2:=A0.cell (i:=2) rfl;have q3:=A0.cell (i:=3) rfl;generalize(((((wr.setCell ⟨p,0,none⟩ (.int .i64 (17))).setCell ⟨p,1,none⟩ (.int .i64 (c % 16))).setCell ⟨p,2,none⟩ (.int .i64 ((c-208) / 16))).setCell ⟨p,3,none⟩ (.int .i64 1)).alloc (.cells #[.int .i64 (17),.int .i64 (c % 16),.int .i64 ((c-208) / 16),.int .i64 1] 242))=w5 at *;refine bodyPost_ret (by rw[results_cell_tmp rfl];go_simp;rfl) rfl ?_;exact qt.is HV A1
end Go.Proofs.YtoeibiahbenpcaaGreatDoor
