/- Part. -/
import Derived.Test.YtoeibiahbenpcaaGreatDoorA02
import Derived.Test.YtoeibiahbenpcaaGreatDoorA20
import Derived.Test.YtoeibiahbenpcaaGreatDoorA37
namespace Go.Proofs.YtoeibiahbenpcaaGreatDoor
open RowKit Maps Proofs.Tryz
set_option linter.unusedVariables false
set_option maxRecDepth 99999
set_option maxHeartbeats 9000000
theorem z8{fn:Func}{p:Tmp}{ty:TypeId}(h:fn.results=#[.cell p ty])(tmps:Array Value)(P:Program)(w:World) :
 (results fn tmps).run P w=((asAddr (tmps.getD p undef)).run P w).andThen λa w₁=>(loadVar ty a).run P w₁:=by
 simp only[results,h];simp[Sem.run_bind,Result.andThen]
def stO(i:Int):Int:=[1,2,3,4,5,6,0,7,8,9,0,10].getD i.toNat 0
def Zt(c n m:Int):OpC :=
 if c<131 then⟨stO (4*(c-128)+n / 64),if stO (4*(c-128)+n / 64)=0 then 0 else n % 64,0,2⟩ else
 if c=131\/c=133 then⟨17+(c-131) / 2,n % 32,n / 32,2⟩ else
 if c=132\/c=134 then⟨17+(c-132) / 2,m,n,3⟩ else
 if c<168 then⟨22,256*(c-164)+n,0,2⟩ else⟨23+(c-168) / 4,256*(c % 4)+n,0,2⟩
theorem zs5(c n m:Int):(Zt c n m).len=2\/(Zt c n m).len=3:=by
 unfold Zt;split
 ·exact .inl rfl
 ·split
  ·exact .inl rfl
  ·split
   ·exact .inr rfl
   ·split
    ·exact .inl rfl
    ·exact .inl rfl
def Zr(w:World)(o:OpC)(e:Ending)(w':World):Prop:=e=.returned o.val/\Below w.heap.size w w'
theorem Zr.is{w w':World}{o:OpC}{k n m l:Int}(h:o=⟨k,n,m,l⟩)(hb:Below w.heap.size w w'):Zr w o (.returned (.agg #[.int .i64 k,.int .i64 n,.int .i64 m,.int .i64 l])) w':=by
 refine⟨?_,hb⟩;rw[h];rfl
theorem z4l(c n m:Int)(w:World)(hG:Glb w)(h0:(128<=c/\c<=134)\/(160<=c/\c<=175))(n0:0<=n)(n1:n<=255)(m0:0<=m)(m1:m<=255):Calls prog 185 #[.int .i64 c,.int .i64 n,.int .i64 m] w (Zr w (Zt c n m)):=by
 have hl:=hG.lt;obtain⟨-,tS,fS,hS⟩:=hG;have HS:=zh hS;have g1:(1:Nat)<w.heap.size:=by omega
 clear hS;have A0:(c=128/\n / 64=0)\/(c=128/\n / 64=1)\/(c=128/\n / 64=2)\/(c=128/\n / 64=3)\/(c=129/\n / 64=0)\/(c=129/\n / 64=1)\/(c=129/\n / 64=2)\/(c=129/\n / 64=3)\/(c=130/\n / 64=0)\/(c=130/\n / 64=1)\/(c=130/\n / 64=2)\/(c=130/\n / 64=3)\/c=131\/c=133\/c=132\/c=134\/(160<=c/\c<=167)\/(168<=c/\c<=175):=by omega
 rcases A0 with⟨rfl,hj⟩|⟨rfl,hj⟩|⟨rfl,hj⟩|⟨rfl,hj⟩|⟨rfl,hj⟩|⟨rfl,hj⟩|⟨rfl,hj⟩|⟨rfl,hj⟩|⟨rfl,hj⟩|⟨rfl,hj⟩|⟨rfl,hj⟩|⟨rfl,hj⟩|rfl|rfl|rfl|rfl|⟨g0,g2⟩|⟨g0,g2⟩
 ·have cs:w.cell? ⟨1,0,none⟩=some (.int .i64 1):=by rw[cell_of_row _ _ _ _ _ _ HS.out];rfl
  have cs2:((w.alloc (.cells #[.int .i64 0,.int .i64 0,.int .i64 0,.int .i64 0] 242)).alloc (.cells #[.int .i64 0,.int .i64 0,.int .i64 0,.int .i64 2] 242)).cell? ⟨1,0,none⟩=some (.int .i64 1) :=
   ((zn (zn (Below.refl _ w))).cell (p:=⟨1,0,none⟩) g1).trans cs
  have HV:Hid (Zt 128 n m=⟨1,n % 64,0,2⟩):=by
   unfold Hid Zt;rw[if_pos (by decide),hj];rfl
  clear cs;go_enter func185,ntmps185;go_wp2;refine bodyPost_ret (by rw[z8 rfl];go_simp;rfl) rfl ?_;exact Zr.is HV (zn (zn (Below.refl _ _)))
 ·have cs:w.cell? ⟨1,1,none⟩=some (.int .i64 2):=by rw[cell_of_row _ _ _ _ _ _ HS.out];rfl
  have cs2:((w.alloc (.cells #[.int .i64 0,.int .i64 0,.int .i64 0,.int .i64 0] 242)).alloc (.cells #[.int .i64 0,.int .i64 0,.int .i64 0,.int .i64 2] 242)).cell? ⟨1,1,none⟩=some (.int .i64 2) :=
   ((zn (zn (Below.refl _ w))).cell (p:=⟨1,1,none⟩) g1).trans cs
  have HV:Hid (Zt 128 n m=⟨2,n % 64,0,2⟩):=by
   unfold Hid Zt;rw[if_pos (by decide),hj];rfl
  clear cs;go_enter func185,ntmps185;go_wp2;refine bodyPost_ret (by rw[z8 rfl];go_simp;rfl) rfl ?_;exact Zr.is HV (zn (zn (Below.refl _ _)))
 ·have cs:w.cell? ⟨1,2,none⟩=some (.int .i64 3):=by rw[cell_of_row _ _ _ _ _ _ HS.out];rfl
  have cs2:((w.alloc (.cells #[.int .i64 0,.int .i64 0,.int .i64 0,.int .i64 0] 242)).alloc (.cells #[.int .i64 0,.int .i64 0,.int .i64 0,.int .i64 2] 242)).cell? ⟨1,2,none⟩=some (.int .i64 3) :=
   ((zn (zn (Below.refl _ w))).cell (p:=⟨1,2,none⟩) g1).trans cs
  have HV:Hid (Zt 128 n m=⟨3,n % 64,0,2⟩):=by
   unfold Hid Zt;rw[if_pos (by decide),hj];rfl
  clear cs;go_enter func185,ntmps185;go_wp2;refine bodyPost_ret (by rw[z8 rfl];go_simp;rfl) rfl ?_;exact Zr.is HV (zn (zn (Below.refl _ _)))
 ·have cs:w.cell? ⟨1,3,none⟩=some (.int .i64 4):=by rw[cell_of_row _ _ _ _ _ _ HS.out];rfl
  have cs2:((w.alloc (.cells #[.int .i64 0,.int .i64 0,.int .i64 0,.int .i64 0] 242)).alloc (.cells #[.int .i64 0,.int .i64 0,.int .i64 0,.int .i64 2] 242)).cell? ⟨1,3,none⟩=some (.int .i64 4) :=
   ((zn (zn (Below.refl _ w))).cell (p:=⟨1,3,none⟩) g1).trans cs
  have HV:Hid (Zt 128 n m=⟨4,n % 64,0,2⟩):=by
   unfold Hid Zt;rw[if_pos (by decide),hj];rfl
  clear cs;go_enter func185,ntmps185;go_wp2;refine bodyPost_ret (by rw[z8 rfl];go_simp;rfl) rfl ?_;exact Zr.is HV (zn (zn (Below.refl _ _)))
 ·have cs:w.cell? ⟨1,4,none⟩=some (.int .i64 5):=by rw[cell_of_row _ _ _ _ _ _ HS.out];rfl
  have cs2:((w.alloc (.cells #[.int .i64 0,.int .i64 0,.int .i64 0,.int .i64 0] 242)).alloc (.cells #[.int .i64 0,.int .i64 0,.int .i64 0,.int .i64 2] 242)).cell? ⟨1,4,none⟩=some (.int .i64 5) :=
   ((zn (zn (Below.refl _ w))).cell (p:=⟨1,4,none⟩) g1).trans cs
  have HV:Hid (Zt 129 n m=⟨5,n % 64,0,2⟩):=by
   unfold Hid Zt;rw[if_pos (by decide),hj];rfl
  clear cs;go_enter func185,ntmps185;go_wp2;refine bodyPost_ret (by rw[z8 rfl];go_simp;rfl) rfl ?_;exact Zr.is HV (zn (zn (Below.refl _ _)))
 ·have cs:w.cell? ⟨1,5,none⟩=some (.int .i64 6):=by rw[cell_of_row _ _ _ _ _ _ HS.out];rfl
  have cs2:((w.alloc (.cells #[.int .i64 0,.int .i64 0,.int .i64 0,.int .i64 0] 242)).alloc (.cells #[.int .i64 0,.int .i64 0,.int .i64 0,.int .i64 2] 242)).cell? ⟨1,5,none⟩=some (.int .i64 6) :=
   ((zn (zn (Below.refl _ w))).cell (p:=⟨1,5,none⟩) g1).trans cs
  have HV:Hid (Zt 129 n m=⟨6,n % 64,0,2⟩):=by
   unfold Hid Zt;rw[if_pos (by decide),hj];rfl
  clear cs;go_enter func185,ntmps185;go_wp2;refine bodyPost_ret (by rw[z8 rfl];go_simp;rfl) rfl ?_;exact Zr.is HV (zn (zn (Below.refl _ _)))
 ·have cs:w.cell? ⟨1,6,none⟩=some (.int .i64 0):=by rw[cell_of_row _ _ _ _ _ _ HS.out];rfl
  have cs2:((w.alloc (.cells #[.int .i64 0,.int .i64 0,.int .i64 0,.int .i64 0] 242)).alloc (.cells #[.int .i64 0,.int .i64 0,.int .i64 0,.int .i64 2] 242)).cell? ⟨1,6,none⟩=some (.int .i64 0) :=
   ((zn (zn (Below.refl _ w))).cell (p:=⟨1,6,none⟩) g1).trans cs
  have HV:Hid (Zt 129 n m=⟨0,0,0,2⟩):=by
   unfold Hid Zt;rw[if_pos (by decide),hj];rfl
  clear cs;go_enter func185,ntmps185;go_wp2;refine bodyPost_ret (by rw[z8 rfl];go_simp;rfl) rfl ?_;exact Zr.is HV (zn (zn (Below.refl _ _)))
 ·have cs:w.cell? ⟨1,7,none⟩=some (.int .i64 7):=by rw[cell_of_row _ _ _ _ _ _ HS.out];rfl
  have cs2:((w.alloc (.cells #[.int .i64 0,.int .i64 0,.int .i64 0,.int .i64 0] 242)).alloc (.cells #[.int .i64 0,.int .i64 0,.int .i64 0,.int .i64 2] 242)).cell? ⟨1,7,none⟩=some (.int .i64 7) :=
   ((zn (zn (Below.refl _ w))).cell (p:=⟨1,7,none⟩) g1).trans cs
  have HV:Hid (Zt 129 n m=⟨7,n % 64,0,2⟩):=by
   unfold Hid Zt;rw[if_pos (by decide),hj];rfl
  clear cs;go_enter func185,ntmps185;go_wp2;refine bodyPost_ret (by rw[z8 rfl];go_simp;rfl) rfl ?_;exact Zr.is HV (zn (zn (Below.refl _ _)))
 ·have cs:w.cell? ⟨1,8,none⟩=some (.int .i64 8):=by rw[cell_of_row _ _ _ _ _ _ HS.out];rfl
  have cs2:((w.alloc (.cells #[.int .i64 0,.int .i64 0,.int .i64 0,.int .i64 0] 242)).alloc (.cells #[.int .i64 0,.int .i64 0,.int .i64 0,.int .i64 2] 242)).cell? ⟨1,8,none⟩=some (.int .i64 8) :=
   ((zn (zn (Below.refl _ w))).cell (p:=⟨1,8,none⟩) g1).trans cs
  have HV:Hid (Zt 130 n m=⟨8,n % 64,0,2⟩):=by
   unfold Hid Zt;rw[if_pos (by decide),hj];rfl
  clear cs;go_enter func185,ntmps185;go_wp2;refine bodyPost_ret (by rw[z8 rfl];go_simp;rfl) rfl ?_;exact Zr.is HV (zn (zn (Below.refl _ _)))
 ·have cs:w.cell? ⟨1,9,none⟩=some (.int .i64 9):=by rw[cell_of_row _ _ _ _ _ _ HS.out];rfl
  have cs2:((w.alloc (.cells #[.int .i64 0,.int .i64 0,.int .i64 0,.int .i64 0] 242)).alloc (.cells #[.int .i64 0,.int .i64 0,.int .i64 0,.int .i64 2] 242)).cell? ⟨1,9,none⟩=some (.int .i64 9) :=
   ((zn (zn (Below.refl _ w))).cell (p:=⟨1,9,none⟩) g1).trans cs
  have HV:Hid (Zt 130 n m=⟨9,n % 64,0,2⟩):=by
   unfold Hid Zt;rw[if_pos (by decide),hj];rfl
  clear cs;go_enter func185,ntmps185;go_wp2;refine bodyPost_ret (by rw[z8 rfl];go_simp;rfl) rfl ?_;exact Zr.is HV (zn (zn (Below.refl _ _)))
 ·have cs:w.cell? ⟨1,10,none⟩=some (.int .i64 0):=by rw[cell_of_row _ _ _ _ _ _ HS.out];rfl
  have cs2:((w.alloc (.cells #[.int .i64 0,.int .i64 0,.int .i64 0,.int .i64 0] 242)).alloc (.cells #[.int .i64 0,.int .i64 0,.int .i64 0,.int .i64 2] 242)).cell? ⟨1,10,none⟩=some (.int .i64 0) :=
   ((zn (zn (Below.refl _ w))).cell (p:=⟨1,10,none⟩) g1).trans cs
  have HV:Hid (Zt 130 n m=⟨0,0,0,2⟩):=by
   unfold Hid Zt;rw[if_pos (by decide),hj];rfl
  clear cs;go_enter func185,ntmps185;go_wp2;refine bodyPost_ret (by rw[z8 rfl];go_simp;rfl) rfl ?_;exact Zr.is HV (zn (zn (Below.refl _ _)))
 ·have cs:w.cell? ⟨1,11,none⟩=some (.int .i64 10):=by rw[cell_of_row _ _ _ _ _ _ HS.out];rfl
  have cs2:((w.alloc (.cells #[.int .i64 0,.int .i64 0,.int .i64 0,.int .i64 0] 242)).alloc (.cells #[.int .i64 0,.int .i64 0,.int .i64 0,.int .i64 2] 242)).cell? ⟨1,11,none⟩=some (.int .i64 10) :=
   ((zn (zn (Below.refl _ w))).cell (p:=⟨1,11,none⟩) g1).trans cs
  have HV:Hid (Zt 130 n m=⟨10,n % 64,0,2⟩):=by
   unfold Hid Zt;rw[if_pos (by decide),hj];rfl
  clear cs;go_enter func185,ntmps185;go_wp2;refine bodyPost_ret (by rw[z8 rfl];go_simp;rfl) rfl ?_;exact Zr.is HV (zn (zn (Below.refl _ _)))
 ·have HV:Hid (Zt 131 n m=⟨17,n % 32,n / 32,2⟩):=by
   unfold Hid Zt;rfl
  go_enter func185,ntmps185;go_wp2;refine bodyPost_ret (by rw[z8 rfl];go_simp;rfl) rfl ?_;exact Zr.is HV (zn (zn (Below.refl _ _)))
 ·have HV:Hid (Zt 133 n m=⟨18,n % 32,n / 32,2⟩):=by
   unfold Hid Zt;rfl
  go_enter func185,ntmps185;go_wp2;refine bodyPost_ret (by rw[z8 rfl];go_simp;rfl) rfl ?_;exact Zr.is HV (zn (zn (Below.refl _ _)))
 ·have HV:Hid (Zt 132 n m=⟨17,m,n,3⟩):=by
   unfold Hid Zt;rfl
  go_enter func185,ntmps185;go_wp2;refine bodyPost_ret (by rw[z8 rfl];go_simp;rfl) rfl ?_;exact Zr.is HV (zn (zn (Below.refl _ _)))
 ·have HV:Hid (Zt 134 n m=⟨18,m,n,3⟩):=by
   unfold Hid Zt;rfl
  go_enter func185,ntmps185;go_wp2;refine bodyPost_ret (by rw[z8 rfl];go_simp;rfl) rfl ?_;exact Zr.is HV (zn (zn (Below.refl _ _)))
 ·have HV:Hid (Zt c n m=⟨22,256*(c-164)+n,0,2⟩):=by
   unfold Hid Zt;rw[if_neg (by omega),if_neg (by omega),if_neg (by omega),if_pos (by omega)]
  have t0:¬c<131:=by omega
  have t1:(c == 131)=false:=by simp;omega
  have t2:(c == 133)=false:=by simp;omega
  have t3:(c == 132)=false:=by simp;omega
  have t4:(c == 134)=false:=by simp;omega
  have t5:c<168:=by omega
  go_enter func185,ntmps185;go_wp2;refine bodyPost_ret (by rw[z8 rfl];go_simp;rfl) rfl ?_;exact Zr.is HV (zn (zn (Below.refl _ _)))
 ·have HV:Hid (Zt c n m=⟨23+(c-168) / 4,256*(c % 4)+n,0,2⟩):=by
   unfold Hid Zt;rw[if_neg (by omega),if_neg (by omega),if_neg (by omega),if_neg (by omega)]
  have t0:¬c<131:=by omega
  have t1:(c == 131)=false:=by simp;omega
  have t2:(c == 133)=false:=by simp;omega
  have t3:(c == 132)=false:=by simp;omega
  have t4:(c == 134)=false:=by simp;omega
  have t5:¬c<168:=by omega
  go_enter func185,ntmps185;go_wp2;refine bodyPost_ret (by rw[z8 rfl];go_simp;rfl) rfl ?_;exact Zr.is HV (zn (zn (Below.refl _ _)))
def js(b:List Int)(i:Nat):OpC×Int :=
 if (vw (b.getD i 0)).2 then((vw (b.getD i 0)).1,0) else
 if b.length-(i+1)<1\/((b.getD i 0=132\/b.getD i 0=134)/\b.length-(i+1)<2) then(⟨0,0,0,0⟩,5) else
 (Zt (b.getD i 0) (b.getD (i+1) 0) (if b.length-(i+1) > 1 then b.getD (i+2) 0 else 0),0)
theorem zke{b:List Int}{i:Nat}(h:(js b i).2=0):1<=(js b i).1.len/\(js b i).1.len<=3:=by
 unfold js at h ⊢;split at h
 ·next h1=>rw[if_pos h1,zw7];decide
 ·next h1 =>
  rw[if_neg h1];split at h
  ·simp at h
  ·next h2 =>
   rw[if_neg h2];rcases zs5 (b.getD i 0) (b.getD (i+1) 0) (if b.length-(i+1) > 1 then b.getD (i+2) 0 else 0) with h3|h3<;>rw[h3]<;>decide
theorem z0f{c:Int}(h0:0<=c)(h1:c<=255)(h:(vw c).2=false):(128<=c/\c<=134)\/(160<=c/\c<=175):=by
 have key:∀k:Fin 256,(vw (k.val:Int)).2=false->(128<=(k.val:Int)/\(k.val:Int)<=134)\/(160<=(k.val:Int)/\(k.val:Int)<=175):=by decide +kernel
 have:=key ⟨c.toNat,by omega⟩;rw[show((c.toNat:Nat):Int)=c by omega] at this;exact this h
def z5w(w:World)(o:OpC)(x:Int)(e:Ending)(w':World):Prop:=e=.returned (.tuple #[o.val,.int .i64 x])/\Below w.heap.size w w'
theorem z5g(a:Option Addr)(n c:Nat)(bs:List Int)(k:Nat)(w:World)(hG:Glb w)(e0:n=bs.length)(hr:zv w a c (bs.map (Value.int .u8)))(hb:Byt bs)(hc:n<=c)(hn:n<=100000)(hk:k<n) :
 Calls prog 173 #[.slice a n c,.int .i64 k] w (z5w w (js bs k).1 (js bs k).2):=by
 obtain⟨W1,C7⟩:=zx (w.alloc (.cells #[.int .i64 0,.int .i64 0,.int .i64 0,.int .i64 0] 242));have b1:Below w.heap.size w W1:=by rw[C7];exact zn (Below.refl _ _)
 obtain⟨p,hp⟩:=zx (w.heap.size);have r1:Row W1 p 242 [.int .i64 0,.int .i64 0,.int .i64 0,.int .i64 0]:=by rw[C7,hp];exact Row.made _ _ _
 obtain⟨b,off,rfl,C0,D0⟩:=hr.at (by simp;omega);obtain⟨x,hx⟩:=zx (bs.getD k 0);have B6:0<=x/\x<=255:=by rw[hx];exact zah hb k
 have C1:w.cell? ⟨b,off+k,none⟩=some (.int .u8 x):=D0 k _ (by rw[hx];exact zr (by omega));have HC:=zh D0;have C2:=zh (z6f x W1 (hG.next b1) B6.1 B6.2);have D2:=zh (hG.next b1);have D3:=zh C7;have C8:=zh b1;have D7:¬((k:Int)<0):=by omega
 have D4:=zh r1;have HP:=zh hp;have HX:=zh hx;have D5:=zh B6;have E2:=B6.1;have E3:=B6.2;have D1:=zh hb;have C9:=zh e0;have E4:(k:Int)<(n:Int):=by omega
 have E5:¬((k:Int)>=(n:Int)):=by omega
 clear hG hr hb C7 b1 r1 hx B6 e0 D0;go_enter func173,ntmps173;go_wp2_with fail;rw[<-D3.out,<-hp];clear hp D3;go_call C2 as z w2 ⟨rfl,B7⟩;unfold OpC.val;have A8:=D4.out.keep (l:=[]) (.of_below B7) (by simp);have p0:=A8.cell (i:=0) rfl;have p1:=A8.cell (i:=1) rfl;have p2:=A8.cell (i:=2) rfl;have p3:=A8.cell (i:=3) rfl;have f0:=A8.free 0;have f1:=A8.free 1;have f2:=A8.free 2;have f3:=A8.free 3;have pl:=A8.lt;have A4:=zh A8;have A3:=zh (zy C8 B7);obtain⟨o,ho⟩:=zx ((vw x).1);rw[<-ho];have HO:=zh ho;have A9:Hid (∀i u,(bs.map (Value.int .u8))[i]?=some u->w2.cell? ⟨b,off+i,none⟩=some u):=λi u hu=>((zy C8 B7).cell (p:=⟨b,off+i,none⟩) C0).trans (HC i u hu)
 have D8:b<w2.heap.size:=by have:=(zy C8.out B7).size;omega
 have D6:=zh (D2.next B7);clear A8 ho B7 C2 HC D2 D4 C8 C0 C1;cases B0:(vw x).2 with
 | true =>
  have HV:Hid (js bs k=(o,0)):=by unfold Hid js;rw[<-HX.out,if_pos B0,HO.out]
  clear B0;have A1:Hid (Row (((((w2.setCell ⟨p,0,none⟩ (.int .i64 o.kind)).setCell ⟨p,1,none⟩ (.int .i64 o.n)).setCell ⟨p,2,none⟩ (.int .i64 o.m)).setCell ⟨p,3,none⟩ (.int .i64 o.len)).alloc (.cells #[.int .i64 o.kind,.int .i64 o.n,.int .i64 o.m,.int .i64 o.len] 242)) p 242 [.int .i64 o.kind,.int .i64 o.n,.int .i64 o.m,.int .i64 o.len]):=(vh A4.out _ _ _ _).keep (l:=[]) ((Upd.refl _ _).alloc _) (by simp);have A5:Hid (Below w.heap.size w (((((w2.setCell ⟨p,0,none⟩ (.int .i64 o.kind)).setCell ⟨p,1,none⟩ (.int .i64 o.n)).setCell ⟨p,2,none⟩ (.int .i64 o.m)).setCell ⟨p,3,none⟩ (.int .i64 o.len)).alloc (.cells #[.int .i64 o.kind,.int .i64 o.n,.int .i64 o.m,.int .i64 o.len] 242))):=zn (A3.out.trans ((xz w2 p _ _ _ _).below A3.out.size (λk hk=>by simp at hk;subst hk;rw[HP.out];exact Nat.le_refl _)));clear A4 A3 A9;go_wp2;have q0:=A1.cell (i:=0) rfl;have q1:=A1.cell (i:=1) rfl;have q2:=A1.cell (i:=2) rfl;have q3:=A1.cell (i:=3) rfl;generalize(((((w2.setCell ⟨p,0,none⟩ (.int .i64 o.kind)).setCell ⟨p,1,none⟩ (.int .i64 o.n)).setCell ⟨p,2,none⟩ (.int .i64 o.m)).setCell ⟨p,3,none⟩ (.int .i64 o.len)).alloc (.cells #[.int .i64 o.kind,.int .i64 o.n,.int .i64 o.m,.int .i64 o.len] 242))=w5 at *;refine bodyPost_ret (by rw[results_cell_tmp rfl];go_simp;rfl) rfl ?_;refine⟨?_,A5⟩;rw[HV.out];rfl
 | false =>
  have C3:=zh (z0f D5.out.1 D5.out.2 B0)
  have B3:Hid (js bs k=if n-(k+1)<1\/((x=132\/x=134)/\n-(k+1)<2) then(⟨0,0,0,0⟩,5) else(Zt x (bs.getD (k+1) 0) (if n-(k+1) > 1 then bs.getD (k+2) 0 else 0),0)):=by
   unfold Hid js;rw[<-HX.out,if_neg (by rw[B0];decide),<-C9.out]
  clear B0;by_cases C4:n-(k+1)<1
  ·have HV:Hid (js bs k=(⟨0,0,0,0⟩,5)):=by unfold Hid;rw[B3.out,if_pos (.inl C4)]
   have E6:n=k+1:=by omega
   have t0:((k+1-(k+1):Nat):Int)<1:=by omega
   have A1:Hid (Row (((((w2.setCell ⟨p,0,none⟩ (.int .i64 0)).setCell ⟨p,1,none⟩ (.int .i64 0)).setCell ⟨p,2,none⟩ (.int .i64 0)).setCell ⟨p,3,none⟩ (.int .i64 0)).alloc (.cells #[.int .i64 o.kind,.int .i64 o.n,.int .i64 o.m,.int .i64 o.len] 242)) p 242 [.int .i64 0,.int .i64 0,.int .i64 0,.int .i64 0]):=(vh A4.out _ _ _ _).keep (l:=[]) ((Upd.refl _ _).alloc _) (by simp);have A5:Hid (Below w.heap.size w (((((w2.setCell ⟨p,0,none⟩ (.int .i64 0)).setCell ⟨p,1,none⟩ (.int .i64 0)).setCell ⟨p,2,none⟩ (.int .i64 0)).setCell ⟨p,3,none⟩ (.int .i64 0)).alloc (.cells #[.int .i64 o.kind,.int .i64 o.n,.int .i64 o.m,.int .i64 o.len] 242))):=zn (A3.out.trans ((xz w2 p _ _ _ _).below A3.out.size (λk hk=>by simp at hk;subst hk;rw[HP.out];exact Nat.le_refl _)));clear A4 A3 A9;go_wp2
   all_goals
    have q0:=A1.cell (i:=0) rfl;have q1:=A1.cell (i:=1) rfl;have q2:=A1.cell (i:=2) rfl;have q3:=A1.cell (i:=3) rfl;generalize(((((w2.setCell ⟨p,0,none⟩ (.int .i64 0)).setCell ⟨p,1,none⟩ (.int .i64 0)).setCell ⟨p,2,none⟩ (.int .i64 0)).setCell ⟨p,3,none⟩ (.int .i64 0)).alloc (.cells #[.int .i64 o.kind,.int .i64 o.n,.int .i64 o.m,.int .i64 o.len] 242))=w5 at *;refine bodyPost_ret (by rw[results_cell_tmp rfl];go_simp;rfl) rfl ?_;refine⟨?_,A5⟩;rw[HV.out];rfl
  ·obtain⟨y,hy⟩:=zx (bs.getD (k+1) 0);have C5:0<=y/\y<=255:=by rw[hy];exact zah D1 _
   have E7:w2.cell? ⟨b,off+(k+1),none⟩=some (.int .u8 y):=A9.out (k+1) _ (by rw[hy];exact zr (by have:=C9.out;omega));have t0:¬(((n-(k+1):Nat):Int)<1):=by omega
   have B8:=zh (λm (h0:0<=m/\m<=255) (W:World) (hW:Below w2.heap.size w2 W)=>z4l x y m W (D6.next hW) C3 C5.1 C5.2 h0.1 h0.2);have E8:=C5.1;have E9:=C5.2;rw[<-hy] at B3;clear hy C5 D6;by_cases C6:x=132\/x=134
   ·by_cases B9:n-(k+1)<2
    ·have HV:Hid (js bs k=(⟨0,0,0,0⟩,5)):=by unfold Hid;rw[B3.out,if_pos (.inr ⟨C6,B9⟩)]
     have t1:((n-(k+1):Nat):Int)<2:=by omega
     clear C4 B9 C3 B3;rcases C6 with rfl|rfl
     ·have A1:Hid (Row (((((w2.setCell ⟨p,0,none⟩ (.int .i64 0)).setCell ⟨p,1,none⟩ (.int .i64 0)).setCell ⟨p,2,none⟩ (.int .i64 0)).setCell ⟨p,3,none⟩ (.int .i64 0)).alloc (.cells #[.int .i64 o.kind,.int .i64 o.n,.int .i64 o.m,.int .i64 o.len] 242)) p 242 [.int .i64 0,.int .i64 0,.int .i64 0,.int .i64 0]):=(vh A4.out _ _ _ _).keep (l:=[]) ((Upd.refl _ _).alloc _) (by simp);have A5:Hid (Below w.heap.size w (((((w2.setCell ⟨p,0,none⟩ (.int .i64 0)).setCell ⟨p,1,none⟩ (.int .i64 0)).setCell ⟨p,2,none⟩ (.int .i64 0)).setCell ⟨p,3,none⟩ (.int .i64 0)).alloc (.cells #[.int .i64 o.kind,.int .i64 o.n,.int .i64 o.m,.int .i64 o.len] 242))):=zn (A3.out.trans ((xz w2 p _ _ _ _).below A3.out.size (λk hk=>by simp at hk;subst hk;rw[HP.out];exact Nat.le_refl _)));clear A4 A3 A9;go_wp2;have q0:=A1.cell (i:=0) rfl;have q1:=A1.cell (i:=1) rfl;have q2:=A1.cell (i:=2) rfl;have q3:=A1.cell (i:=3) rfl;generalize(((((w2.setCell ⟨p,0,none⟩ (.int .i64 0)).setCell ⟨p,1,none⟩ (.int .i64 0)).setCell ⟨p,2,none⟩ (.int .i64 0)).setCell ⟨p,3,none⟩ (.int .i64 0)).alloc (.cells #[.int .i64 o.kind,.int .i64 o.n,.int .i64 o.m,.int .i64 o.len] 242))=w5 at *;refine bodyPost_ret (by rw[results_cell_tmp rfl];go_simp;rfl) rfl ?_;refine⟨?_,A5⟩;rw[HV.out];rfl
     ·have A1:Hid (Row (((((w2.setCell ⟨p,0,none⟩ (.int .i64 0)).setCell ⟨p,1,none⟩ (.int .i64 0)).setCell ⟨p,2,none⟩ (.int .i64 0)).setCell ⟨p,3,none⟩ (.int .i64 0)).alloc (.cells #[.int .i64 o.kind,.int .i64 o.n,.int .i64 o.m,.int .i64 o.len] 242)) p 242 [.int .i64 0,.int .i64 0,.int .i64 0,.int .i64 0]):=(vh A4.out _ _ _ _).keep (l:=[]) ((Upd.refl _ _).alloc _) (by simp);have A5:Hid (Below w.heap.size w (((((w2.setCell ⟨p,0,none⟩ (.int .i64 0)).setCell ⟨p,1,none⟩ (.int .i64 0)).setCell ⟨p,2,none⟩ (.int .i64 0)).setCell ⟨p,3,none⟩ (.int .i64 0)).alloc (.cells #[.int .i64 o.kind,.int .i64 o.n,.int .i64 o.m,.int .i64 o.len] 242))):=zn (A3.out.trans ((xz w2 p _ _ _ _).below A3.out.size (λk hk=>by simp at hk;subst hk;rw[HP.out];exact Nat.le_refl _)));clear A4 A3 A9;go_wp2;have q0:=A1.cell (i:=0) rfl;have q1:=A1.cell (i:=1) rfl;have q2:=A1.cell (i:=2) rfl;have q3:=A1.cell (i:=3) rfl;generalize(((((w2.setCell ⟨p,0,none⟩ (.int .i64 0)).setCell ⟨p,1,none⟩ (.int .i64 0)).setCell ⟨p,2,none⟩ (.int .i64 0)).setCell ⟨p,3,none⟩ (.int .i64 0)).alloc (.cells #[.int .i64 o.kind,.int .i64 o.n,.int .i64 o.m,.int .i64 o.len] 242))=w5 at *;refine bodyPost_ret (by rw[results_cell_tmp rfl];go_simp;rfl) rfl ?_;refine⟨?_,A5⟩;rw[HV.out];rfl
    ·obtain⟨z,hz⟩:=zx (bs.getD (k+2) 0);have B5:0<=z/\z<=255:=by rw[hz];exact zah D1 _
     have D9:w2.cell? ⟨b,off+(k+1)+1,none⟩=some (.int .u8 z):=A9.out (k+2) _ (by rw[hz];exact zr (by have:=C9.out;omega));have t1:¬(((n-(k+1):Nat):Int)<2):=by omega
     have t2:((n-(k+1):Nat):Int) > 1:=by omega
     have HV:Hid (js bs k=(Zt x y z,0)):=by
      unfold Hid;rw[B3.out,if_neg (by omega),if_pos (by omega),hz]
     have B4:=zh (B8 z B5);have E0:=B5.1;have E1:=B5.2;clear C4 B9 C3 B3 hz B5 B8;rcases C6 with rfl|rfl
     ·go_wp2_with fail;have A6:Below w2.heap.size w2 (w2.alloc (.cells #[.int .i64 o.kind,.int .i64 o.n,.int .i64 o.m,.int .i64 o.len] 242)):=zn (Below.refl _ _);refine(B4 _ A6).mono ?_;rintro e w6 ⟨rfl,B1⟩;unfold OpC.val;have A2:=zy A6 B1;have A0:=A4.out.keep (l:=[]) (.of_below A2) (by simp);have d0:=A0.cell (i:=0) rfl;have d1:=A0.cell (i:=1) rfl;have d2:=A0.cell (i:=2) rfl;have d3:=A0.cell (i:=3) rfl;have e0:=A0.free 0;have e1:=A0.free 1;have e2:=A0.free 2;have e3:=A0.free 3;have el:=A0.lt;have A7:=zh (zy A3 A2);have B2:=zh A0;generalize Zt 132 y z=r at *;have A1:Hid (Row ((((w6.setCell ⟨p,0,none⟩ (.int .i64 r.kind)).setCell ⟨p,1,none⟩ (.int .i64 r.n)).setCell ⟨p,2,none⟩ (.int .i64 r.m)).setCell ⟨p,3,none⟩ (.int .i64 r.len)) p 242 [.int .i64 r.kind,.int .i64 r.n,.int .i64 r.m,.int .i64 r.len]):=vh B2 _ _ _ _;have A5:Hid (Below w.heap.size w ((((w6.setCell ⟨p,0,none⟩ (.int .i64 r.kind)).setCell ⟨p,1,none⟩ (.int .i64 r.n)).setCell ⟨p,2,none⟩ (.int .i64 r.m)).setCell ⟨p,3,none⟩ (.int .i64 r.len))):=A7.out.trans ((xz w6 p _ _ _ _).below A7.out.size (λk hk=>by simp at hk;subst hk;rw[HP.out];exact Nat.le_refl _));clear A6 B1 A2 A0 A4 A3 A9 B4 B2 A7;go_wp2;have q0:=A1.cell (i:=0) rfl;have q1:=A1.cell (i:=1) rfl;have q2:=A1.cell (i:=2) rfl;have q3:=A1.cell (i:=3) rfl;generalize((((w6.setCell ⟨p,0,none⟩ (.int .i64 r.kind)).setCell ⟨p,1,none⟩ (.int .i64 r.n)).setCell ⟨p,2,none⟩ (.int .i64 r.m)).setCell ⟨p,3,none⟩ (.int .i64 r.len))=w5 at *;refine bodyPost_ret (by rw[results_cell_tmp rfl];go_simp;rfl) rfl ?_;refine⟨?_,A5⟩;rw[HV.out];rfl
     ·go_wp2_with fail;have A6:Below w2.heap.size w2 (w2.alloc (.cells #[.int .i64 o.kind,.int .i64 o.n,.int .i64 o.m,.int .i64 o.len] 242)):=zn (Below.refl _ _);refine(B4 _ A6).mono ?_;rintro e w6 ⟨rfl,B1⟩;unfold OpC.val;have A2:=zy A6 B1;have A0:=A4.out.keep (l:=[]) (.of_below A2) (by simp);have d0:=A0.cell (i:=0) rfl;have d1:=A0.cell (i:=1) rfl;have d2:=A0.cell (i:=2) rfl;have d3:=A0.cell (i:=3) rfl;have e0:=A0.free 0;have e1:=A0.free 1;have e2:=A0.free 2;have e3:=A0.free 3;have el:=A0.lt;have A7:=zh (zy A3 A2);have B2:=zh A0;generalize Zt 134 y z=r at *;have A1:Hid (Row ((((w6.setCell ⟨p,0,none⟩ (.int .i64 r.kind)).setCell ⟨p,1,none⟩ (.int .i64 r.n)).setCell ⟨p,2,none⟩ (.int .i64 r.m)).setCell ⟨p,3,none⟩ (.int .i64 r.len)) p 242 [.int .i64 r.kind,.int .i64 r.n,.int .i64 r.m,.int .i64 r.len]):=vh B2 _ _ _ _;have A5:Hid (Below w.heap.size w ((((w6.setCell ⟨p,0,none⟩ (.int .i64 r.kind)).setCell ⟨p,1,none⟩ (.int .i64 r.n)).setCell ⟨p,2,none⟩ (.int .i64 r.m)).setCell ⟨p,3,none⟩ (.int .i64 r.len))):=A7.out.trans ((xz w6 p _ _ _ _).below A7.out.size (λk hk=>by simp at hk;subst hk;rw[HP.out];exact Nat.le_refl _));clear A6 B1 A2 A0 A4 A3 A9 B4 B2 A7;go_wp2;have q0:=A1.cell (i:=0) rfl;have q1:=A1.cell (i:=1) rfl;have q2:=A1.cell (i:=2) rfl;have q3:=A1.cell (i:=3) rfl;generalize((((w6.setCell ⟨p,0,none⟩ (.int .i64 r.kind)).setCell ⟨p,1,none⟩ (.int .i64 r.n)).setCell ⟨p,2,none⟩ (.int .i64 r.m)).setCell ⟨p,3,none⟩ (.int .i64 r.len))=w5 at *;refine bodyPost_ret (by rw[results_cell_tmp rfl];go_simp;rfl) rfl ?_;refine⟨?_,A5⟩;rw[HV.out];rfl
   ·have F0:(x == 132)=false:=by simp;omega
    have F1:(x == 134)=false:=by simp;omega
    by_cases B9:n-(k+1)<2
    ·have t1:¬(((n-(k+1):Nat):Int) > 1):=by omega
     have HV:Hid (js bs k=(Zt x y 0,0)):=by
      unfold Hid;rw[B3.out,if_neg (by omega),if_neg (by omega)]
     have B4:=zh (B8.out 0 (by decide));clear C4 B9 C3 B3 B8 C6;go_wp2_with fail;have A6:Below w2.heap.size w2 (w2.alloc (.cells #[.int .i64 o.kind,.int .i64 o.n,.int .i64 o.m,.int .i64 o.len] 242)):=zn (Below.refl _ _);refine(B4 _ A6).mono ?_;rintro e w6 ⟨rfl,B1⟩;unfold OpC.val;have A2:=zy A6 B1;have A0:=A4.out.keep (l:=[]) (.of_below A2) (by simp);have d0:=A0.cell (i:=0) rfl;have d1:=A0.cell (i:=1) rfl;have d2:=A0.cell (i:=2) rfl;have d3:=A0.cell (i:=3) rfl;have e0:=A0.free 0;have e1:=A0.free 1;have e2:=A0.free 2;have e3:=A0.free 3;have el:=A0.lt;have A7:=zh (zy A3 A2);have B2:=zh A0;generalize Zt x y 0=r at *;have A1:Hid (Row ((((w6.setCell ⟨p,0,none⟩ (.int .i64 r.kind)).setCell ⟨p,1,none⟩ (.int .i64 r.n)).setCell ⟨p,2,none⟩ (.int .i64 r.m)).setCell ⟨p,3,none⟩ (.int .i64 r.len)) p 242 [.int .i64 r.kind,.int .i64 r.n,.int .i64 r.m,.int .i64 r.len]):=vh B2 _ _ _ _;have A5:Hid (Below w.heap.size w ((((w6.setCell ⟨p,0,none⟩ (.int .i64 r.kind)).setCell ⟨p,1,none⟩ (.int .i64 r.n)).setCell ⟨p,2,none⟩ (.int .i64 r.m)).setCell ⟨p,3,none⟩ (.int .i64 r.len))):=A7.out.trans ((xz w6 p _ _ _ _).below A7.out.size (λk hk=>by simp at hk;subst hk;rw[HP.out];exact Nat.le_refl _));clear A6 B1 A2 A0 A4 A3 A9 B4 B2 A7;go_wp2;have q0:=A1.cell (i:=0) rfl;have q1:=A1.cell (i:=1) rfl;have q2:=A1.cell (i:=2) rfl;have q3:=A1.cell (i:=3) rfl;generalize((((w6.setCell ⟨p,0,none⟩ (.int .i64 r.kind)).setCell ⟨p,1,none⟩ (.int .i64 r.n)).setCell ⟨p,2,none⟩ (.int .i64 r.m)).setCell ⟨p,3,none⟩ (.int .i64 r.len))=w5 at *;refine bodyPost_ret (by rw[results_cell_tmp rfl];go_simp;rfl) rfl ?_;refine⟨?_,A5⟩;rw[HV.out];rfl
    ·obtain⟨z,hz⟩:=zx (bs.getD (k+2) 0);have B5:0<=z/\z<=255:=by rw[hz];exact zah D1 _
     have D9:w2.cell? ⟨b,off+(k+1)+1,none⟩=some (.int .u8 z):=A9.out (k+2) _ (by rw[hz];exact zr (by have:=C9.out;omega));have t1:((n-(k+1):Nat):Int) > 1:=by omega
     have HV:Hid (js bs k=(Zt x y z,0)):=by
      unfold Hid;rw[B3.out,if_neg (by omega),if_pos (by omega),hz]
     have B4:=zh (B8 z B5);have E0:=B5.1;have E1:=B5.2;clear C4 B9 C3 B3 B8 hz B5 C6;go_wp2_with fail;have A6:Below w2.heap.size w2 (w2.alloc (.cells #[.int .i64 o.kind,.int .i64 o.n,.int .i64 o.m,.int .i64 o.len] 242)):=zn (Below.refl _ _);refine(B4 _ A6).mono ?_;rintro e w6 ⟨rfl,B1⟩;unfold OpC.val;have A2:=zy A6 B1;have A0:=A4.out.keep (l:=[]) (.of_below A2) (by simp);have d0:=A0.cell (i:=0) rfl;have d1:=A0.cell (i:=1) rfl;have d2:=A0.cell (i:=2) rfl;have d3:=A0.cell (i:=3) rfl;have e0:=A0.free 0;have e1:=A0.free 1;have e2:=A0.free 2;have e3:=A0.free 3;have el:=A0.lt;have A7:=zh (zy A3 A2);have B2:=zh A0;generalize Zt x y z=r at *;have A1:Hid (Row ((((w6.setCell ⟨p,0,none⟩ (.int .i64 r.kind)).setCell ⟨p,1,none⟩ (.int .i64 r.n)).setCell ⟨p,2,none⟩ (.int .i64 r.m)).setCell ⟨p,3,none⟩ (.int .i64 r.len)) p 242 [.int .i64 r.kind,.int .i64 r.n,.int .i64 r.m,.int .i64 r.len]):=vh B2 _ _ _ _;have A5:Hid (Below w.heap.size w ((((w6.setCell ⟨p,0,none⟩ (.int .i64 r.kind)).setCell ⟨p,1,none⟩ (.int .i64 r.n)).setCell ⟨p,2,none⟩ (.int .i64 r.m)).setCell ⟨p,3,none⟩ (.int .i64 r.len))):=A7.out.trans ((xz w6 p _ _ _ _).below A7.out.size (λk hk=>by simp at hk;subst hk;rw[HP.out];exact Nat.le_refl _));clear A6 B1 A2 A0 A4 A3 A9 B4 B2 A7;go_wp2;have q0:=A1.cell (i:=0) rfl;have q1:=A1.cell (i:=1) rfl;have q2:=A1.cell (i:=2) rfl;have q3:=A1.cell (i:=3) rfl;generalize((((w6.setCell ⟨p,0,none⟩ (.int .i64 r.kind)).setCell ⟨p,1,none⟩ (.int .i64 r.n)).setCell ⟨p,2,none⟩ (.int .i64 r.m)).setCell ⟨p,3,none⟩ (.int .i64 r.len))=w5 at *;refine bodyPost_ret (by rw[results_cell_tmp rfl];go_simp;rfl) rfl ?_;refine⟨?_,A5⟩;rw[HV.out];rfl
def zir(b:List Int):Nat->Option (List OpC×Nat)
 | 0=>some ([],0)
 | k+1=>match zir b k with
  | some (l,i)=>if i<b.length/\(js b i).2=0 then some (l++[(js b i).1],i+(js b i).1.len.toNat) else none
  | none=>none
theorem zsq{b:List Int}{k i:Nat}{l:List OpC}(h:zir b k=some (l,i))(hi:i<b.length)(ht:(js b i).2=0):zir b (k+1)=some (l++[(js b i).1],i+(js b i).1.len.toNat):=by
 rw[zir,h];simp only;rw[if_pos ⟨hi,ht⟩]
theorem zn8{b:List Int}{k i:Nat}{l:List OpC}(h:zir b k=some (l,i))(hi:¬(i<b.length/\(js b i).2=0)):∀m,k<m->zir b m=none:=by
 intro m;induction m with
 | zero=>intro h;omega
 | succ m ih =>
  intro hm;by_cases hk:m=k
  ·subst hk;rw[zir,h];simp only;rw[if_neg hi]
  ·rw[zir,ih (by omega)]
theorem zsp{b:List Int}{k k' i i':Nat}{l l':List OpC}(h:zir b k=some (l,i))(hi:¬(i<b.length/\(js b i).2=0))(h':zir b k'=some (l',i'))(A0:¬(i'<b.length/\(js b i').2=0)):l=l'/\i=i':=by
 have h1:¬k<k':=λhk=>by rw[zn8 h hi k' hk] at h';cases h'
 have h2:¬k'<k:=λhk=>by rw[zn8 h' A0 k hk] at h;cases h
 obtain rfl:k=k':=by omega
 rw[h] at h';cases h'
 exact⟨rfl,rfl⟩
def lens(l:List OpC):Nat:=(l.map (λo=>o.len.toNat)).sum
theorem zok(l:List OpC)(o:OpC):lens (l++[o])=lens l+o.len.toNat:=by simp[lens]
structure z6l(b:List Int)(l:List OpC)(i:Nat):Prop where
 sum:lens l=i
 few:l.length<=i
 le:i<=b.length+2
 one:∀o∈l,1<=o.len/\o.len<=3
theorem ziq{b:List Int}:∀ {k i:Nat} {l:List OpC},zir b k=some (l,i)->z6l b l i
 | 0,i,l,h=>by cases h;exact⟨rfl,Nat.le_refl _,Nat.zero_le _,λo ho=>by cases ho⟩
 | k+1,i,l,h=>by
  rw[zir] at h;split at h
  ·next l0 i0 h0 =>
   split at h
   ·next hc =>
    have ih:=ziq h0;have hl:=zke hc.2;cases h
    refine⟨by rw[zok,ih.sum],?_,?_,λo ho=>?_⟩
    ·have:=ih.few;rw[List.length_append,List.length_singleton];omega
    ·have:=hc.1;omega
    ·rcases List.mem_append.1 ho with ho|ho
     ·exact ih.one o ho
     ·simp at ho;subst ho;exact hl
   ·cases h
  ·cases h
theorem z31:(prog.info? 242).map (λi=>(i.zero,i.size,i.bytes))=some (some (.agg #[.int .i64 0,.int .i64 0,.int .i64 0,.int .i64 0]),4,32):=by kernel_rfl
def z20(w:World)(b:List Int)(e:Ending)(w':World):Prop :=
 Below w.heap.size w w'/\∃k l i,zir b k=some (l,i)/\((b.length<=i/\∃v,e=.returned (.tuple #[v,.int .i64 0])/\w'.ownsRow w.heap.size 242 4 v l.length (l.flatMap OpC.row))\/
  (i<b.length/\(js b i).2≠0/\e=.returned (.tuple #[.slice none 0 0,.int .i64 (js b i).2])))
theorem zvd(a:Option Addr)(n c:Nat)(bs:List Int)(w:World)(hG:Glb w)(e0:n=bs.length)(hr:zv w a c (bs.map (Value.int .u8)))(hb:Byt bs)(hc:n<=c)(hn:n<=100000) :
 Calls prog 150 #[.slice a n c] w (z20 w bs):=by
 have HR:=zh hr;have HG:=zh hG;have HB:=zh hb;have HE:=zh e0;clear hr hG hb e0;go_enter func150,ntmps150;go_wp2;go_loopw [4,5] (λv at_ wr=>∃k l i,Hid (zir bs k=some (l,i))/\at_=.int .i64 (i:Nat)/\Hid (wr.ownsRow w.heap.size 242 4 v l.length (l.flatMap OpC.row))/\Hid (Below w.heap.size w wr)) (λ_ at_ _=>n-(intOf at_).toNat)
 case atStart=>exact⟨0,[],0,rfl,rfl,World.ownsRow_nil _ _ _ _,Below.refl _ _⟩
 case round =>
  obtain⟨k,l,i,HP,rfl,HO,A1⟩:=hrel;have A8:=ziq HP;have C1:=A8.few;have B4:=A8.le;rw[<-HE.out] at B4;clear A8;by_cases A9:i<n
  ·have B0:=zh (z5g a n c bs i wr (HG.next A1) HE (HR.below A1) HB hc hn A9);have A4:=zh (λh=>zke (b:=bs) (i:=i) h);have A5:=zh (λh=>zsq HP.out (by rw[<-HE.out];exact A9) h);obtain⟨q,hq⟩:=zx (js bs i);rw[<-hq] at B0 A4 A5;have HQ:=zh hq;obtain⟨o,x⟩:=q;clear hq;have B5:(i:Int)<(n:Int):=by omega
   go_wp2_with fail;go_call B0 as e w1 ⟨rfl,B1⟩;unfold OpC.val;have A6:=zh (A1.trans (B1.mono A1.size));have A2:=zh ((Upd.of_below (l:=[]) B1).ownsAbove HO.out (by simp));have hbs:w.heap.size<=w1.heap.size:=A6.out.size;clear B1 B0 HO A1;by_cases hx:x=0
   ·subst hx;have A7:=A4 rfl;have B3:=zh (A5 rfl);obtain⟨L,hL⟩:∃L:Nat,o.len=L:=⟨o.len.toNat,by have:=A7.1;omega⟩;have C2:1<=L/\L<=3:=by have h1:=A7.1;have h2:=A7.2;omega
    simp only[hL,Int.toNat_natCast] at B3;have A0:∀u∈o.row,u.oneCell'=true:=λu hu=>by simp[OpC.row] at hu;rcases hu with rfl|rfl|rfl|rfl<;>rfl
    have A3:o.row=[.int .i64 o.kind,.int .i64 o.n,.int .i64 o.m,.int .i64 o.len]:=rfl;rw[A3] at A0;clear A7 A5 A4 A3;rw[hL] at A0 ⊢;have B6:l.length<=100000:=by omega
    obtain⟨N,hN⟩:=zx (l.length);rw[<-hN] at A2;have HN:=zh hN;have B7:Hid (o.row=[.int .i64 o.kind,.int .i64 o.n,.int .i64 o.m,.int .i64 L]):=by unfold Hid OpC.row;rw[hL]
    have C3:N<=100000:=by omega
    clear hN hL B6;go_wp2_with (at_builtin;go_loud (refine Zb rfl _ _ 237 rfl w.heap.size 242 (.agg #[.int .i64 0,.int .i64 0,.int .i64 0,.int .i64 0]) 4 32 underlying237 z31 rfl (by decide) _ N _ rfl ((A2.out.alloc _).alloc _) _ 1 1 [.int .i64 o.kind,.int .i64 o.n,.int .i64 o.m,.int .i64 L] rfl rfl (zv.madeAt (by simp)) A0 (by unfold maxLen;omega) (by omega) (Nat.le_trans hbs (by simp<;>omega)) ?_));intro v5 w5 own5 gr5;have B8:=gr5.size
    have B2:Row w5 w1.heap.size 242 [.int .i64 o.kind,.int .i64 o.n,.int .i64 o.m,.int .i64 L]:=by
     refine(gr5.block _ (by simp<;>omega) (λe=>?_)).trans ((Row.made w1 [.int .i64 o.kind,.int .i64 o.n,.int .i64 o.m,.int .i64 L] 242).keep (l:=[]) ((Upd.refl _ _).alloc _) (by simp));have:=A2.out.lt _ e.symm;omega
    have q3:=B2.cell (i:=3) rfl;have ql:=B2.lt;have B9:Hid (Below w.heap.size w w5):=(zn (zn A6.out)).grown gr5 (Nat.le_trans hbs (by simp<;>omega)) (λg hg=>(A2.out.lt g hg).1)
    have C0:Hid (w5.ownsRow w.heap.size 242 4 v5 (l++[o]).length ((l++[o]).flatMap OpC.row)):=by
     unfold Hid;rw[List.length_append,List.length_singleton,<-HN.out,List.flatMap_append];simp only[List.flatMap_cons,List.flatMap_nil,List.append_nil,B7.out];exact own5
    clear own5 gr5 B8 B2 A0 A2 A6;go_wp2;go_roundw
    case rel=>exact⟨k+1,l++[o],i+L,B3,by go_num,C0,B9⟩
    case measure=>simp[intOf];omega
   ·have C4:(x != 0)=true:=bne_iff_ne.2 hx;have HX:=zh hx;clear hx A5 A4 A2;go_wp2;go_ret2;refine⟨zn A6.out,k,l,i,HP.out,.inr ⟨by rw[<-HE.out];exact A9,?_⟩⟩;rw[<-HQ.out];exact⟨HX,rfl⟩
  ·have C5:¬(i:Int)<(n:Int):=by omega
   go_wp2;go_ret2;exact⟨A1.out,k,l,i,HP.out,.inl ⟨by rw[<-HE.out];omega,_,rfl,HO.out⟩⟩
theorem z3r{c:Int}(h0:0<=c)(h1:c<=255):-10000<=(vw c).1.n/\(vw c).1.n<=10000:=by
 have key:∀k:Fin 256,-10000<=(vw (k.val:Int)).1.n/\(vw (k.val:Int)).1.n<=10000:=by decide +kernel
 have:=key ⟨c.toNat,by omega⟩;rw[show((c.toNat:Nat):Int)=c by omega] at this;exact this
theorem z0m{c n m:Int}(h0:0<=c)(h1:c<=255)(n0:0<=n)(n1:n<=255)(m0:0<=m)(m1:m<=255):-100000<=(Zt c n m).n/\(Zt c n m).n<=100000:=by
 unfold Zt;split
 ·simp only;split<;>omega
 ·split
  ·simp only;omega
  ·split
   ·simp only;omega
   ·split<;>simp only<;>omega
theorem zz2{b:List Int}(hb:Byt b)(i:Nat):-100000<=(js b i).1.n/\(js b i).1.n<=100000:=by
 have h:=zah hb;unfold js;split
 ·have:=z3r (h i).1 (h i).2;simp only;omega
 ·split
  ·decide
  ·refine z0m (h i).1 (h i).2 (h _).1 (h _).2 ?_ ?_
   ·split
    ·exact(h _).1
    ·decide
   ·split
    ·exact(h _).2
    ·decide
structure z65(b:List Int)(l:List OpC):Prop where
 n:∀o∈l,-100000<=o.n/\o.n<=100000
 at_:∀j,j<l.length->lens (l.take j)<b.length
theorem zy9{b:List Int}(hb:Byt b):∀ {k i:Nat} {l:List OpC},zir b k=some (l,i)->z65 b l
 | 0,i,l,h=>by cases h;exact⟨λo ho=>(by cases ho),λj hj=>(by simp at hj)⟩
 | k+1,i,l,h=>by
  rw[zir] at h;split at h
  ·next l0 i0 h0 =>
   split at h
   ·next hc =>
    have ih:=zy9 hb h0;have hs:=(ziq h0).sum;cases h
    refine⟨λo ho=>?_,λj hj=>?_⟩
    ·rcases List.mem_append.1 ho with ho|ho
     ·exact ih.n o ho
     ·simp at ho;subst ho;exact zz2 hb _
    ·rw[List.length_append,List.length_singleton] at hj;by_cases A0:j<l0.length
     ·rw[List.take_append_of_le_length (by omega)];exact ih.at_ j A0
     ·obtain rfl:j=l0.length:=by omega
      rw[List.take_append_of_le_length (by omega),List.take_length,hs];exact hc.1
   ·cases h
  ·cases h
def beg(b:List Int)(l:List OpC)(t:Nat):Prop:=t=b.length\/∃j,j<l.length/\t=lens (l.take j)
def zfp:OpC:=⟨0,0,0,0⟩
def zzs(b:List Int)(l:List OpC)(i:Nat):Prop :=
 (l.getD i zfp).kind≠0/\((l.getD i zfp).kind=22\/(l.getD i zfp).kind=23\/(l.getD i zfp).kind=24->∃t:Nat,(lens (l.take (i+1)):Int)+(l.getD i zfp).n=t/\t<=b.length/\beg b l t)
def JOk(b:List Int)(l:List OpC):Prop:=∀i,i<l.length->zzs b l i
def z2t(b:List Int):Prop:=∃k l i,zir b k=some (l,i)/\b.length<=i/\JOk b l
open Classical in
noncomputable def vp(b:List Int):Bool:=decide (z2t b)
theorem zqh{b:List Int}{k i:Nat}{l:List OpC}(h:zir b k=some (l,i))(hi:b.length<=i)(hj:JOk b l):vp b=true:=by
 unfold vp;simp only[decide_eq_true_eq];exact⟨k,l,i,h,hi,hj⟩
theorem zk1{b:List Int}{k i:Nat}{l:List OpC}(h:zir b k=some (l,i))(hi:¬(i<b.length/\(js b i).2=0))(hj:b.length<=i->¬JOk b l):vp b=false:=by
 unfold vp;simp only[decide_eq_false_iff_not];rintro⟨k',l',i',h',A0,A1⟩;obtain⟨rfl,rfl⟩:=zsp h hi h' (by omega);exact hj A0 A1
theorem zou:∀ {l:List OpC} {j:Nat},j<l.length->∀i,i<4->(l.flatMap OpC.row)[j*4+i]?=(OpC.row (l.getD j zfp))[i]?
 | [],j,h,i,_=>by simp at h
 | x::l,0,_,i,hi=>by
  rw[List.flatMap_cons,List.getElem?_append_left (by show _<4;omega)];simp
 | x::l,j+1,h,i,hi=>by
  rw[List.flatMap_cons,List.getElem?_append_right (by show 4<=_;omega)];have:=zou (l:=l) (j:=j) (by simpa using h) i hi;rw[show(j+1)*4+i-(OpC.row x).length=j*4+i by show(j+1)*4+i-4=_;omega,this];simp
theorem zky{l:List OpC}{j:Nat}(h:j<l.length):lens (l.take (j+1))=lens (l.take j)+(l.getD j zfp).len.toNat:=by
 rw[List.take_add_one,ze h,zg,ze h];exact zok _ _
theorem zos{l:List OpC}{j:Nat}(h:j<l.length):l.getD j zfp∈l:=by
 rw[zg,ze h];exact List.getElem_mem h
open Classical in
noncomputable def zcn(f:Nat->Prop)(n:Nat):List Value:=(List.range n).map (λt=>Value.bool (decide (f t)))
theorem yp{f:Nat->Prop}{n t:Nat}(h:t<n)(d:Bool)(hd:d=true↔f t):(zcn f n)[t]?=some (.bool d):=by
 unfold zcn;rw[List.getElem?_map,List.getElem?_range h];simp only[Option.map_some,Option.some.injEq,Value.bool.injEq];by_cases hf:f t
 ·simp[hf,hd.2 hf]
 ·have:d=false:=by cases d<;>simp_all
  simp[hf,this]
theorem zoi{f:Nat->Prop}{n t:Nat}(h:t<n):∃d,(zcn f n)[t]?=some (.bool d):=by
 classical
 exact⟨decide (f t),yp h _ (by simp)⟩
theorem zkx{f g:Nat->Prop}{n t:Nat}(h:t<n)(hg:∀x,g x↔(x=t\/f x)):(zcn f n).set t (.bool true)=zcn g n:=by
 apply List.ext_getElem?;intro i;rw[List.getElem?_set];by_cases hi:i<n
 ·by_cases e:t=i
  ·subst e;rw[if_pos rfl,if_pos (by simp[zcn];exact h)];exact(yp h true (by simp[hg])).symm
  ·rw[if_neg e];by_cases hf:f i
   ·rw[yp hi true (by simp[hf]),yp hi true (by simp[hg,hf])]
   ·rw[yp hi false (by simp[hf]),yp hi false (by simp[hg,hf];exact λh=>e h.symm)]
 ·rw[if_neg (by omega),List.getElem?_eq_none (by simp[zcn];omega),List.getElem?_eq_none (by simp[zcn];omega)]
theorem zqc(n:Nat):List.replicate n (Value.bool false)=zcn (λ_=>False) n:=by
 apply List.ext_getElem?;intro i;by_cases hi:i<n
 ·rw[yp hi false (by simp)];simp[hi]
 ·rw[List.getElem?_eq_none (by simp;omega),List.getElem?_eq_none (by simp[zcn];omega)]
theorem zte:(prog.info? 4).map (λi=>(i.zero,i.size,i.bytes))=some (some (.bool false),1,1):=by kernel_rfl
def zl2(w:World)(B:Nat)(v:Value)(l:List OpC):Prop:=w.ownsRow B 242 4 v l.length (l.flatMap OpC.row)
theorem zl2.cells{w:World}{B:Nat}{v:Value}{l:List OpC}(h:zl2 w B v l){j:Nat}(hj:j<l.length):∃g c,v=.slice (some ⟨g,0,none⟩) l.length c/\g<w.heap.size/\∀i u,(OpC.row (l.getD j zfp))[i]?=some u->w.cell? ⟨g,j*4+i,none⟩=some u:=by
 obtain⟨g,c,cur,hv,hb,hr,ht,hn,hm,hl⟩:=zhs h (by omega);refine⟨g,c,hv,hr.lt,λi u hu=>?_⟩
 have hi:i<4:=by
  have:=(List.getElem?_eq_some_iff.1 hu).1;exact this
 have h1:=zou hj i hi;rw[<-ht,List.getElem?_take,if_pos (by omega)] at h1;exact hr.cell (h1.trans hu)
end Go.Proofs.YtoeibiahbenpcaaGreatDoor
