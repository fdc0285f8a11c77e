/- Part. -/
import Derived.Test.YtoeibiahbenpcaaGreatDoorA01
import Derived.Lib.AppendZeros
namespace Go.Proofs.YtoeibiahbenpcaaGreatDoor
open RowKit Maps Proofs.Tryz
set_option linter.unusedVariables false
set_option maxRecDepth 99999
set_option maxHeartbeats 9000000
def zj9(o:Int):Int:=if o<32768 then o else o-65536
def zdg(o:Int):Bool:=decide (o % 2=1/\-2147483647<=o/\o<=2147483647)
def ziw(o:Int):Int:=if o % 2=1/\-2147483647<=o/\o<=2147483647 then o / 2 else 0
def yb(o:Int):Bool:=decide (o % 2=0/\2<=o/\o<=2147483646)
def Zz(o:Int):Int:=if o % 2=0/\2<=o/\o<=2147483646 then o / 2 else 0
def za1(o:Int):Int:=if 1<=o/\o<=1073741823 then 2*o else 0
def zga(o:Int):Bool:=decide (o % 2=1/\-32767<=o/\o<=32767)
def zhf(o:Int):Int:=if o % 2=1/\-32767<=o/\o<=32767 then o / 2*2 % 65536+1 else 0
def zih(o:Int):Bool:=decide (o % 2=1/\0<=o/\o<=65535)
def zwn(o:Int):Int:=if o % 2=1/\0<=o/\o<=65535 then zj9 o else 0
theorem zku{o:Int}(h:o % 2=1/\-2147483647<=o/\o<=2147483647):zdg o=true:=by unfold zdg;exact decide_eq_true h
theorem zdf{o:Int}(h:¬(o % 2=1/\-2147483647<=o/\o<=2147483647)):zdg o=false:=by unfold zdg;exact decide_eq_false h
theorem zoe{o:Int}(h:o % 2=1/\-2147483647<=o/\o<=2147483647):ziw o=o / 2:=by unfold ziw;rw[if_pos h]
theorem ziv{o:Int}(h:¬(o % 2=1/\-2147483647<=o/\o<=2147483647)):ziw o=0:=by unfold ziw;rw[if_neg h]
theorem zs4{o:Int}(h:o % 2=0/\2<=o/\o<=2147483646):yb o=true:=by unfold yb;exact decide_eq_true h
theorem zdi{o:Int}(h:¬(o % 2=0/\2<=o/\o<=2147483646)):yb o=false:=by unfold yb;exact decide_eq_false h
theorem kh{o:Int}(h:o % 2=0/\2<=o/\o<=2147483646):Zz o=o / 2:=by unfold Zz;rw[if_pos h]
theorem zmy{o:Int}(h:¬(o % 2=0/\2<=o/\o<=2147483646)):Zz o=0:=by unfold Zz;rw[if_neg h]
theorem jm{o:Int}(h:1<=o/\o<=1073741823):za1 o=2*o:=by unfold za1;rw[if_pos h]
theorem zmw{o:Int}(h:¬(1<=o/\o<=1073741823)):za1 o=0:=by unfold za1;rw[if_neg h]
theorem zs3{o:Int}(h:o % 2=1/\-32767<=o/\o<=32767):zga o=true:=by unfold zga;exact decide_eq_true h
theorem zi0{o:Int}(h:¬(o % 2=1/\-32767<=o/\o<=32767)):zga o=false:=by unfold zga;exact decide_eq_false h
theorem ziz{o:Int}(h:o % 2=1/\-32767<=o/\o<=32767):zhf o=o / 2*2 % 65536+1:=by unfold zhf;rw[if_pos h]
theorem zmx{o:Int}(h:¬(o % 2=1/\-32767<=o/\o<=32767)):zhf o=0:=by unfold zhf;rw[if_neg h]
theorem zc3{o:Int}(h:o % 2=1/\0<=o/\o<=65535):zih o=true:=by unfold zih;exact decide_eq_true h
theorem ze3{o:Int}(h:¬(o % 2=1/\0<=o/\o<=65535)):zih o=false:=by unfold zih;exact decide_eq_false h
theorem znx{o:Int}(h:o % 2=1/\0<=o/\o<=65535):zwn o=zj9 o:=by unfold zwn;rw[if_pos h]
theorem zmf{o:Int}(h:¬(o % 2=1/\0<=o/\o<=65535)):zwn o=0:=by unfold zwn;rw[if_neg h]
theorem zb3(o:Int)(w:World)(b0:-9223372036854775808<=o)(b1:o<=9223372036854775807):Calls prog 68 #[.int .i64 o] w λe w'=>e=.returned (.tuple #[.int .i64 (ziw o),.bool (zdg o)])/\w=w':=by
 have ha:=zjb o;by_cases hp:o % 2=0
 ·rw[ziv (by omega),zdf (by omega)];have hb:(o % 2 == 0)=true:=by simp[hp]
  clear hp;go_enter func68,ntmps68;go_wp2;go_ret2;exact⟨rfl,rfl⟩
 ·have hb:(o % 2 == 0)=false:=by simp;omega
  have A0:o % 2=1:=by omega
  by_cases h1:o < -2147483648
  ·rw[ziv (by omega),zdf (by omega)];have h2:o / 2 < -1073741824:=by omega
   clear hp A0 h1;go_enter func68,ntmps68;go_wp2;go_ret2;exact⟨rfl,rfl⟩
  ·have h2:¬o / 2 < -1073741824:=by omega
   by_cases h3:2147483647<o
   ·rw[ziv (by omega),zdf (by omega)];have h4:1073741823<o / 2:=by omega
    clear hp A0 h1 h3;go_enter func68,ntmps68;go_wp2;go_ret2;exact⟨rfl,rfl⟩
   ·rw[zoe (by omega),zku (by omega)];have h4:¬1073741823<o / 2:=by omega
    clear hp A0 h1 h3;go_enter func68,ntmps68;go_wp2;go_ret2;exact⟨rfl,rfl⟩
theorem jr(o:Int)(w:World)(b0:-9223372036854775808<=o)(b1:o<=9223372036854775807):Calls prog 34 #[.int .i64 o] w λe w'=>e=.returned (.tuple #[.int .i64 (Zz o),.bool (yb o)])/\w=w':=by
 have ha:=zjb o;by_cases hp:o % 2=1
 ·rw[zmy (by omega),zdi (by omega)];have hb:(o % 2 == 1)=true:=by simp[hp]
  clear hp;go_enter func34,ntmps34;go_wp2;go_ret2;exact⟨rfl,rfl⟩
 ·have hb:(o % 2 == 1)=false:=by simp;omega
  have A0:o % 2=0:=by omega
  by_cases h1:o<=0
  ·rw[zmy (by omega),zdi (by omega)];clear hp A0;go_enter func34,ntmps34;go_wp2;go_ret2;exact⟨rfl,rfl⟩
  ·by_cases h3:2147483648<=o
   ·rw[zmy (by omega),zdi (by omega)];clear hp A0;go_enter func34,ntmps34;go_wp2;go_ret2;exact⟨rfl,rfl⟩
   ·rw[kh (by omega),zs4 (by omega)];clear hp A0;go_enter func34,ntmps34;go_wp2;go_ret2;exact⟨rfl,rfl⟩
theorem zhi(o:Int)(w:World):Calls prog 66 #[.int .i64 o] w λe w'=>e=.returned (.int .i64 (za1 o))/\w=w':=by
 by_cases h1:o<1
 ·rw[zmw (by omega)];go_enter func66,ntmps66;go_wp2;go_ret;exact⟨rfl,rfl⟩
 ·by_cases h2:1073741823<o
  ·rw[zmw (by omega)];go_enter func66,ntmps66;go_wp2;go_ret;exact⟨rfl,rfl⟩
  ·rw[jm (by omega)];go_enter func66,ntmps66;go_wp2;go_ret;exact⟨rfl,rfl⟩
theorem zo0(o:Int)(w:World)(b0:-9223372036854775808<=o)(b1:o<=9223372036854775807):Calls prog 33 #[.int .i64 o] w λe w'=>e=.returned (.tuple #[.int .i64 (zhf o),.bool (zga o)])/\w=w':=by
 by_cases hn:o % 2=1/\-2147483647<=o/\o<=2147483647
 ·have hc:=zb3 o w b0 b1;rw[zoe hn,zku hn] at hc;have HC:=zh hc;clear hc;obtain⟨hp,hn⟩:=hn;by_cases h1:o < -32768
  ·rw[zmx (by omega),zi0 (by omega)];have h2:o / 2 < -16384:=by omega
   clear hp hn h1;go_enter func33,ntmps33;go_wp2_with (go_at_call 68;go_call HC as e w' ⟨rfl,rfl⟩);go_ret2;exact⟨rfl,rfl⟩
  ·have h2:¬o / 2 < -16384:=by omega
   by_cases h3:32767<o
   ·rw[zmx (by omega),zi0 (by omega)];have h4:16384<=o / 2:=by omega
    clear hp hn h1 h3;go_enter func33,ntmps33;go_wp2_with (go_at_call 68;go_call HC as e w' ⟨rfl,rfl⟩);go_ret2;exact⟨rfl,rfl⟩
   ·have h4:o / 2<16384:=by omega
    rw[ziz (by omega),zs3 (by omega)];have ha:=zk3 (o / 2*2);have A0:=z0z (o / 2*2 % 65536) (by omega) (by omega) (by omega);clear hp hn h1 h3;go_enter func33,ntmps33;go_wp2_with (go_at_call 68;go_call HC as e w' ⟨rfl,rfl⟩);go_ret2;exact⟨rfl,rfl⟩
 ·have hc:=zb3 o w b0 b1;rw[ziv hn,zdf hn] at hc;have HC:=zh hc;clear hc;rw[zmx (by omega),zi0 (by omega)];clear hn;go_enter func33,ntmps33;go_wp2_with (go_at_call 68;go_call HC as e w' ⟨rfl,rfl⟩);go_ret2;exact⟨rfl,rfl⟩
theorem z4n(o:Int)(w:World):Calls prog 134 #[.int .i64 o] w λe w'=>e=.returned (.tuple #[.int .i64 (zwn o),.bool (zih o)])/\w=w':=by
 have ha:=zjb o;by_cases h1:o<0
 ·rw[zmf (by omega),ze3 (by omega)];go_enter func134,ntmps134;go_wp2;go_ret2;exact⟨rfl,rfl⟩
 ·by_cases h2:65535<o
  ·rw[zmf (by omega),ze3 (by omega)];go_enter func134,ntmps134;go_wp2;go_ret2;exact⟨rfl,rfl⟩
  ·by_cases hp:o % 2=0
   ·rw[zmf (by omega),ze3 (by omega)];have hb:(o % 2 == 0)=true:=by simp[hp]
    clear hp;go_enter func134,ntmps134;go_wp2;go_ret2;exact⟨rfl,rfl⟩
   ·rw[znx (by omega),zc3 (by omega)];have hb:(o % 2 == 0)=false:=by simp;omega
    have hw:IntKind.i16.wrap o=zj9 o:=by
     simp only[IntKind.wrap,IntKind.bits,IntKind.signed,zj9];simp;split<;>split<;>omega
    have hl:-32768<=zj9 o/\zj9 o<=32767:=by unfold zj9;split<;>omega
    clear hp;go_enter func134,ntmps134;go_wp2;go_ret2;exact⟨rfl,rfl⟩
def zdz(o:Int):List Int:=[o / 16777216 % 256,o / 65536 % 256,o / 256 % 256,o % 256]
theorem ze9(o:Int):Byt (zdz o):=by
 intro x hx;simp[zdz] at hx;rcases hx with h|h|h|h<;>omega
theorem xj(o:Int):(zdz o).length=4:=rfl
theorem z6h(n:Int)(w:World)(h1:-9223372036854775808<=n)(h2:n<=9223372036854775807) :
 Calls prog 141 #[.int .i64 n] w λe w'=>e=.returned (.slice (some ⟨w.heap.size,0,none⟩) 4 4)/\w.alloc (.cells #[.int .u8 (n / 16777216 % 256),.int .u8 (n / 65536 % 256),.int .u8 (n / 256 % 256),.int .u8 (n % 256)] 5)=w':=by
 have A0:∀w,(Instr.makeSlice 26 (.int .i64 4) (.int .i64 4)).run prog w=.ok (.slice (some ⟨w.heap.size,0,none⟩) 4 4) (w.alloc (.cells #[.int .u8 0,.int .u8 0,.int .u8 0,.int .u8 0] 5)):=λ_=>by kernel_rfl
 go_enter func141,ntmps141;go_wp2;go_rounds 5;go_returns;exact⟨rfl,rfl⟩
theorem zso(w:World)(n:Int)(c:Nat)(t:TypeId):zv (w.alloc (.cells #[.int .u8 (n / 16777216 % 256),.int .u8 (n / 65536 % 256),.int .u8 (n / 256 % 256),.int .u8 (n % 256)] t)) (some ⟨w.heap.size,0,none⟩) c ((zdz n).map (Value.int .u8)) :=
 zv.made w _ t c
theorem z1u(a0 a1:Option Addr)(n0 n1 c0 c1:Nat)(l0 l1:List Int)(w:World)(e0:n0=l0.length)(e1:n1=l1.length)
 (h0:zv w a0 c0 (l0.map (Value.int .u8))) (h1:zv w a1 c1 (l1.map (Value.int .u8))) (b0:Byt l0) (b1:Byt l1) :
 Calls prog 64 #[.slice a0 n0 c0,.slice a1 n1 c1] w λe w'=>e=.returned (.bool (decide (l0=l1)))/\w=w':=by
 have k0:=zsd (P:=prog) w 26 9 5 a0 n0 c0 l0 underlying26 underlying5 underlying9 e0 h0;have k1:=zsd (P:=prog) w 26 9 5 a1 n1 c1 l1 underlying26 underlying5 underlying9 e1 h1;have k2:=z3n b0 b1;rw[<-k2];clear k2 b0 b1 h0 h1 e0 e1;go_enter func64,ntmps64;go_wp2;go_ret;exact⟨rfl,rfl⟩
def z56(n:Nat)(at_:Int):Int:=if 0<=at_/\at_+4<=n then 0 else 2
def be4(b0 b1 b2 b3:Int):Int:=wrap32 (((b0*256+b1)*256+b2)*256+b3)
def zh0(l:List Int)(at_:Int):Int:=if 0<=at_/\at_+4<=l.length then be4 (l.getD at_.toNat 0) (l.getD (at_.toNat+1) 0) (l.getD (at_.toNat+2) 0) (l.getD (at_.toNat+3) 0) else 0
theorem zfd{l:List Int}{i:Nat}(h:i<l.length)(k:IntKind):(l.map (Value.int k))[i]?=some (.int k (l.getD i 0)):=by
 simp[h]
theorem zfn{l:List Int}(h:Byt l)(i:Nat):0<=l.getD i 0/\l.getD i 0<=255:=by
 by_cases hi:i<l.length
 ·rw[zg,ze hi];exact h _ (List.getElem_mem hi)
 ·simp[List.getElem?_eq_none (Nat.le_of_not_lt hi)]
theorem or0(b:Int)(h:0<=b/\b<=255):bits .or .i32 0 b=b:=by
 have:=zm8 0 b h.1 (by omega);rw[IntWalk.wrap32_in _ (by omega),IntWalk.wrap32_in _ (by omega)] at this;simpa using this
theorem or1(x b:Int)(h:0<=b/\b<=255)(hx:0<=x/\x<=65535):bits .or .i32 (x*256) b=x*256+b:=by
 have:=zm8 x b h.1 (by omega);rwa[IntWalk.wrap32_in _ (by omega),IntWalk.wrap32_in _ (by omega)] at this
theorem z16(a:Option Addr)(n c:Nat)(l:List Int)(p:Int)(w:World)(e0:n=l.length)(hc:n<=c)(hm:n<=4611686018427387904)
 (h:zv w a c (l.map (Value.int .u8))) (hb:Byt l) (b0:-9223372036854775808<=p) (b1:p<=9223372036854775807) :
 Calls prog 125 #[.slice a n c,.int .i64 p] w λe w'=>e=.returned (.tuple #[.int .i64 (zh0 l p),.int .i64 (z56 l.length p)])/\w=w':=by
 subst e0;by_cases hp:0<=p/\p+4<=l.length
 ·rw[zh0,z56,if_pos hp,if_pos hp];obtain⟨b,off,rfl,A2,A0⟩:=h.at (by simp;omega);obtain⟨k,rfl⟩:=Int.eq_ofNat_of_zero_le hp.1;have hk:k+4<=l.length:=by omega
  have f0:=A0 k _ (zfd (by omega) .u8);have f1:=A0 (k+1) _ (zfd (by omega) .u8);have f2:=A0 (k+2) _ (zfd (by omega) .u8);have f3:=A0 (k+3) _ (zfd (by omega) .u8);have g0:=zfn hb k;have g1:=zfn hb (k+1);have g2:=zfn hb (k+2);have g3:=zfn hb (k+3);rw[Int.toNat_natCast];generalize l.getD k 0=x0 at *;generalize l.getD (k+1) 0=x1 at *;generalize l.getD (k+2) 0=x2 at *;generalize l.getD (k+3) 0=x3 at *;have o0:=or0 x0 g0;have o1:=or1 x0 x1 g1 (by omega);have o2:=or1 (x0*256+x1) x2 g2 (by omega);have o3:=zm8 ((x0*256+x1)*256+x2) x3 g3.1 (by omega);have A1:-2147483648<=wrap32 (((x0*256+x1)*256+x2)*256+x3)/\wrap32 (((x0*256+x1)*256+x2)*256+x3)<=2147483647:=by unfold wrap32;omega
  obtain⟨l1,l2⟩:=A1;unfold be4;rw[show off+(k+1)=off+k+1 from rfl] at f1;rw[show off+(k+2)=off+k+2 from rfl] at f2;rw[show off+(k+3)=off+k+3 from rfl] at f3;clear A0 h hb hp;go_enter func125,ntmps125;go_wp2;go_rounds 5;go_ret2;exact⟨rfl,rfl⟩
 ·rw[zh0,z56,if_neg hp,if_neg hp];clear h hb;by_cases h0:p<0
  ·clear hp;go_enter func125,ntmps125;go_wp2;go_ret2;exact⟨rfl,rfl⟩
  ·have h1:(l.length:Int)-4<p:=by omega
   clear hp;go_enter func125,ntmps125;go_wp2;go_ret2;exact⟨rfl,rfl⟩
def z3d(l:List Int):Prop:=∀x∈l,-9223372036854775808<=x/\x<=9223372036854775807
def zce(l:List Int):List Int:=l.flatMap zdz
theorem zb5(l:List Int):(zce l).length=4*l.length:=by
 induction l with
 | nil=>rfl
 | cons x l ih=>simp[zce,zdz] at ih ⊢;omega
theorem zyx(l:List Int):Byt (zce l):=by
 intro x hx;simp only[zce,List.mem_flatMap] at hx;obtain⟨o,_,hx⟩:=hx;exact ze9 o x hx
theorem zvw{l:List Int}{k:Nat}{x:Int}(h:l[k]?=some x):zce (l.take (k+1))=zce (l.take k)++zdz x:=by
 rw[List.take_add_one,h];simp[zce]
theorem zgk:(prog.info? 5).map (λi=>(i.zero,i.size,i.bytes))=some (some (.int .u8 0),1,1):=by kernel_rfl
def zb6(w:World)(l:List Int)(e:Ending)(w':World):Prop :=
 ∃v,e=.returned v/\w'.ownsRow w.heap.size 5 1 v l.length (l.map (Value.int .u8))/\Below w.heap.size w w'
theorem z5h(a:Option Addr)(n c:Nat)(l:List Int)(w:World)(e0:n=l.length)(h:zv w a c (l.map (Value.int .i64)))(hb:z3d l)(hm:n<=1000000) :
 Calls prog 103 #[.slice a n c] w (zb6 w (zce l)):=by
 subst e0;have A2:=zgk;go_enter func103,ntmps103;go_wp2;go_loopw [3,8] (λv i wr=>∃k:Nat,k<=l.length/\i=.int .i64 k/\wr.ownsRow w.heap.size 5 1 v (4*k) ((zce (l.take k)).map (Value.int .u8))/\Below w.heap.size w wr) (λ_ i _=>l.length-(intOf i).toNat)
 case atStart=>exact⟨0,Nat.zero_le _,rfl,World.ownsRow_nil _ _ _ _,Below.refl _ _⟩
 case round =>
  obtain⟨k,hk,rfl,A0,A1⟩:=hrel;by_cases A6:k<l.length
  ·obtain⟨b,off,rfl,A7,hc⟩:=h.at (by simp;omega);have hx:l[k]?=some l[k]:=ze A6;have B1:=hb _ (List.getElem_mem A6);have A9:=(A1.cell (p:=⟨b,off+k,none⟩) A7).trans (hc k _ (by simp[A6];rfl));have hs:=zvw hx;have A3:=zb5 (l.take k);generalize l[k]=x at *;obtain⟨B2,B3⟩:=B1;have B4:=A1.size;have HS:=zh hs;have HL:=zh A3;clear hs A3 hx hc h hb A2
   go_wp2_with (first
    | (go_at_call 141;refine(z6h _ _ B2 B3).mono ?_;rintro e w' ⟨rfl,rfl⟩)
    | (at_builtin;refine Zb rfl _ _ 26 rfl w.heap.size 5 (.int .u8 0) 1 1 underlying26 zgk rfl (by decide) _ _ _ rfl (A0.alloc _) _ 4 4 _ rfl rfl (zso _ x 4 _) (jw _ _) ?c1 ?c2 ?c3 ?_))
   case c1=>unfold maxLen;omega
   case c2=>omega
   case c3=>simp;omega
   ·intro v' w1 A4 B0;have A8:=A0.lt;have A5:Below w.heap.size w w1:=(A1.alloc B4 _).grown B0 (by simp;omega) (λk hk=>(A8 k hk).1);clear B0 A0;go_wp2;go_roundw
    case rel=>exact⟨k+1,by omega,by go_num,by rw[HS.out,List.map_append];exact A4,A5⟩
    case measure=>simp[intOf];omega
  ·have B5:k=l.length:=by omega
   subst B5;rw[List.take_of_length_le (Nat.le_refl _)] at A0;rw[<-zb5] at A0;clear A2 hb h;go_wp2;go_ret;exact⟨_,rfl,A0,A1⟩
theorem qq{w:World}{base base':Nat}{e:TypeId}{size:Nat}{v:Value}{n:Nat}{xs:List Value}(h:w.ownsRow base e size v n xs)(hb:base'<=base):w.ownsRow base' e size v n xs:=by
 refine⟨h.1,?_⟩;rcases h.2 with h2|⟨g,cap,cur,rfl,A0,rest⟩
 ·exact .inl h2
 ·exact .inr ⟨g,cap,cur,rfl,by omega,rest⟩
theorem Zx:(prog.info? 3).map (λi=>(i.zero,i.size,i.bytes))=some (some (.int .i64 0),1,8):=by kernel_rfl
theorem zg0(a0 a1:Option Addr)(n0 n1 c0 c1:Nat)(l0 l1:List Int)(w:World)(e0:n0=l0.length)(e1:n1=l1.length)
 (h0:zv w a0 c0 (l0.map (Value.int .i64))) (h1:zv w a1 c1 (l1.map (Value.int .i64))) (hm:n0<=1000000000) (A8:n1<=1000000000) :
 Calls prog 14 #[.slice a0 n0 c0,.slice a1 n1 c1] w λe w'=>e=.returned (.bool (decide (l0=l1)))/\Below w.heap.size w w':=by
 by_cases hl:n0=n1
 ·subst hl;have E0:=zh e0;have E1:=zh e1;have H0:=zh h0;have H1:=zh h1;clear e0 e1 h0 h1;go_enter func14,ntmps14;go_wp2;go_loopw [5] (λi wr=>∃k:Nat,k<=n0/\i=.int .i64 k/\Hid (∀j,j<k->l0.getD j 0=l1.getD j 0)/\Hid (Below w.heap.size w wr)) (λi _=>n0-(intOf i).toNat)
  case atStart=>exact⟨0,Nat.zero_le _,rfl,λj hj=>by omega,Below.refl _ _⟩
  case round =>
   obtain⟨k,hk,rfl,hz,hb⟩:=hrel;by_cases A9:k<n0
   ·have A2:k<l0.length:=by have:=E0.out;omega
    have A3:k<l1.length:=by have:=E1.out;omega
    obtain⟨b0,o0,rfl,_,A0⟩:=(H0.out.below hb.out).at (by simp;omega);obtain⟨b1,o1,rfl,_,A1⟩:=(H1.out.below hb.out).at (by simp;omega);have k0:=A0 k _ (zr A2);have k1:=A1 k _ (zr A3)
    have HN:=zh (λh:l0.getD k 0=l1.getD k 0=>(by
     intro j hj;by_cases A4:j=k
     ·subst A4;exact h
     ·exact hz.out j (by omega):∀j,j<k+1->l0.getD j 0=l1.getD j 0))
    have HF:=zh (λh:l0.getD k 0≠l1.getD k 0=>show l0≠l1 from λe=>h (by rw[e]));clear A0 A1 hz;generalize l0.getD k 0=y0 at *;generalize l1.getD k 0=y1 at *;by_cases hy:y0=y1
    ·subst hy;have A5:=zh (HN rfl);clear HN HF;go_wp2;go_region;go_wp2;go_roundw
     case rel=>exact⟨k+1,by omega,by go_num,A5.out,Zd hb.out⟩
     case measure=>simp[intOf];omega
    ·go_wp2;go_region;go_wp2;go_ret;exact⟨by rw[decide_eq_false (HF.out hy)];rfl,Zd hb.out⟩
   ·have A6:k=n0:=by omega
    subst A6
    have A7:=zh (show l0=l1 from by
     apply List.ext_getElem (by rw[<-E0.out,<-E1.out]);intro i h1 h2;have:=hz.out i (by rw[E0.out];exact h1)
     rwa[zg,ze h1,zg,ze h2] at this)
    go_wp2;go_ret;exact⟨by rw[decide_eq_true A7.out];rfl,hb.out⟩
 ·have HN:=zh (show l0≠l1 from λe=>hl (by rw[e0,e1,e]));clear e0 e1 h0 h1;go_enter func14,ntmps14;go_wp2;go_ret;exact⟨by rw[decide_eq_false HN.out];rfl,Below.refl _ _⟩
theorem zhh(a0 a1:Option Addr)(n c0 c1:Nat)(l:List Int)(w:World)(e0:n=l.length)(h0:zv w a0 c0 (l.map (Value.int .i64)))(h1:zv w a1 c1 (l.map (Value.int .i64)))(hm:n<=1000000000) :
 Calls prog 14 #[.slice a0 n c0,.slice a1 n c1] w λe w'=>e=.returned (.bool true)/\Below w.heap.size w w':=by
 have:=zg0 a0 a1 n n c0 c1 l l w e0 e0 h0 h1 hm hm;rwa[decide_eq_true rfl] at this
def yh(o:Int):Bool:=zdg o || yb o
def xk(cls kind:Int)(W B:List Int):Prop :=
 yb cls=true/\(kind=1/\B=[]/\W.length<=1000/\(∀x∈W,yh x=true)\/kind=2/\W=[]/\B.length<=1000)
instance(cls kind:Int)(W B:List Int):Decidable (xk cls kind W B):=by unfold xk;exact inferInstance
def kt(kind:Int)(W B:List Int):Nat:=if kind=1 then W.length else if kind=2 then B.length else 0
def zfh(cls kind:Int)(W B:List Int):List Int:=zdz cls++(zdz kind++(zdz (kt kind W B)++(zce W++B)))
theorem zn6{o:Int}(h:¬(o % 2=1/\-2147483647<=o/\o<=2147483647\/o % 2=0/\2<=o/\o<=2147483646)):yh o=false:=by
 unfold yh;rw[zdf (λk=>h (.inl k)),zdi (λk=>h (.inr k))];rfl
theorem zat(cls kind:Int)(W B:List Int):(zfh cls kind W B).length=12+4*W.length+B.length:=by
 unfold zfh;simp only[List.length_append,xj,zb5];omega
theorem zxu{cls kind:Int}{W B:List Int}(h:Byt B):Byt (zfh cls kind W B) :=
 (ze9 _).append ((ze9 _).append ((ze9 _).append ((zyx _).append h)))
def za5(b:List Int)(p:Nat):Nat->List Int
 | 0=>[]
 | k+1=>za5 b p k++[zh0 b ((p+4*k:Nat):Int)]
theorem zyq(x:Int):be4 (x / 16777216 % 256) (x / 65536 % 256) (x / 256 % 256) (x % 256)=wrap32 x:=by
 unfold be4 wrap32;omega
theorem zfq{x:Int}(h:-2147483648<=x/\x<=2147483647):wrap32 x=x:=by unfold wrap32;omega
theorem zvn(b0 b1 b2 b3:Int):-2147483648<=be4 b0 b1 b2 b3/\be4 b0 b1 b2 b3<=2147483647:=by unfold be4 wrap32;omega
theorem z06{b:List Int}{p:Nat}(h:p+4<=b.length):(b.drop p).take 4=[b.getD p 0,b.getD (p+1) 0,b.getD (p+2) 0,b.getD (p+3) 0]:=by
 apply List.ext_getElem
 ·simp;omega
 ·intro i h1 h2;simp only[List.length_cons,List.length_nil] at h2;simp only[List.getElem_take,List.getElem_drop,List.getD_eq_getElem?_getD]
  match i,h2 with
  | 0,_=>simp[List.getElem?_eq_getElem (show p<b.length by omega)]
  | 1,_=>simp[List.getElem?_eq_getElem (show p+1<b.length by omega)]
  | 2,_=>simp[List.getElem?_eq_getElem (show p+2<b.length by omega)]
  | 3,_=>simp[List.getElem?_eq_getElem (show p+3<b.length by omega)]
theorem z04{b:List Int}{p:Nat}(h:p+4<=b.length):zh0 b (p:Int)=be4 (b.getD p 0) (b.getD (p+1) 0) (b.getD (p+2) 0) (b.getD (p+3) 0):=by
 unfold zh0;rw[if_pos (by omega),Int.toNat_natCast]
theorem xv{b:List Int}{p:Nat}:-2147483648<=zh0 b (p:Int)/\zh0 b (p:Int)<=2147483647:=by
 unfold zh0;split
 ·exact zvn _ _ _ _
 ·omega
theorem znb{b:List Int}{p:Nat}{x:Int}(h:(b.drop p).take 4=zdz x)(hl:p+4<=b.length):zh0 b (p:Int)=wrap32 x:=by
 rw[z06 hl] at h;unfold zdz at h;simp only[List.cons.injEq,and_true] at h;obtain⟨e0,e1,e2,e3⟩:=h;rw[z04 hl,e0,e1,e2,e3,zyq]
theorem zfv(b:List Int)(p:Nat):∀k,(za5 b p k).length=k
 | 0=>rfl
 | k+1=>by rw[za5,List.length_append,zfv b p k];rfl
theorem zha(a b:List Int):zce (a++b)=zce a++zce b:=by simp[zce]
theorem zyw(x:Int):zce [x]=zdz x:=by simp[zce]
theorem zhm:∀ {W pre rest:List Int},(∀x∈W,-2147483648<=x/\x<=2147483647)->∀k,k<=W.length->za5 (pre++(zce W++rest)) pre.length k=W.take k
 | W,pre,rest,h,0,_=>by simp[za5]
 | W,pre,rest,h,k+1,hk=>by
  rw[za5,zhm h k (by omega)];have A1:k<W.length:=by omega
  have e:W=W.take k++(W[k]::W.drop (k+1)):=by simp
  have hx:=h W[k] (List.getElem_mem A1)
  have hd:((pre++(zce W++rest)).drop (pre.length+4*k)).take 4=zdz W[k]:=by
   have ea:zce W=zce (W.take k)++(zdz W[k]++zce (W.drop (k+1))):=by
    rw[<-zyw,<-zha,<-zha];congr 1
   have hl:(zce (W.take k)).length=4*k:=by rw[zb5,List.length_take,Nat.min_eq_left (by omega)]
   rw[ea,<-List.drop_drop,List.drop_left,List.append_assoc,List.drop_append_of_le_length (by omega),List.drop_of_length_le (by omega),List.nil_append,List.append_assoc,List.take_append_of_le_length (by rw[xj];exact Nat.le_refl _),List.take_of_length_le (by rw[xj];exact Nat.le_refl _)]
  have A0:pre.length+4*k+4<=(pre++(zce W++rest)).length:=by
   simp only[List.length_append,zb5];omega
  rw[znb hd A0,zfq hx,List.take_add_one,ze A1];rfl
theorem zmt{x:Int}(h:yh x=true):-2147483648<=x/\x<=2147483647:=by
 by_cases hc:x % 2=1/\-2147483647<=x/\x<=2147483647\/x % 2=0/\2<=x/\x<=2147483646
 ·omega
 ·rw[zn6 hc] at h;cases h
theorem zgb{x:Int}(h:yb x=true):2<=x/\x<=2147483646:=by
 by_cases hc:x % 2=0/\2<=x/\x<=2147483646
 ·omega
 ·rw[zdi hc] at h;cases h
def zrq(b:List Int):Int:=zh0 b 0
def zhe(b:List Int):Int:=zh0 b 4
def zl6(b:List Int):List Int:=if zhe b=1 then za5 b 12 ((b.length-12) / 4) else []
def zl7(b:List Int):List Int:=if zhe b=2 then b.drop 12 else []
def cr(b:List Int):Prop:=12<=b.length/\xk (zrq b) (zhe b) (zl6 b) (zl7 b)/\zfh (zrq b) (zhe b) (zl6 b) (zl7 b)=b
theorem zt9{cls kind:Int}{W B:List Int}(h:xk cls kind W B):zrq (zfh cls kind W B)=cls/\zhe (zfh cls kind W B)=kind/\zl6 (zfh cls kind W B)=W/\zl7 (zfh cls kind W B)=B:=by
 have A0:=zat cls kind W B;have hc:=zgb h.1
 have h1:zrq (zfh cls kind W B)=cls:=by
  have:=znb (b:=zfh cls kind W B) (p:=0) (x:=cls) (by
   unfold zfh
   rw[List.drop_zero,List.take_append_of_le_length (by rw[xj];exact Nat.le_refl _),List.take_of_length_le (by rw[xj];exact Nat.le_refl _)]) (by omega)
  rw[zfq (by omega)] at this;exact this
 have hk:-2147483648<=kind/\kind<=2147483647:=by rcases h.2 with⟨hk,_⟩|⟨hk,_⟩<;>omega
 have h2:zhe (zfh cls kind W B)=kind:=by
  have:=znb (b:=zfh cls kind W B) (p:=4) (x:=kind) (by
   unfold zfh
   rw[show(4:Nat)=(zdz cls).length from rfl,List.drop_left,List.take_append_of_le_length (by rw[xj];exact Nat.le_refl _),List.take_of_length_le (by rw[xj];exact Nat.le_refl _)]) (by omega)
  rw[zfq hk] at this;exact this
 refine⟨h1,h2,?_,?_⟩
 ·unfold zl6;rw[h2];rcases h.2 with⟨A1,hB,A4,hr⟩|⟨A2,hW,_⟩
  ·rw[if_pos A1]
   have e:zfh cls kind W B=(zdz cls++(zdz kind++zdz (kt kind W B)))++(zce W++B):=by
    unfold zfh;simp only[List.append_assoc]
   have A3:(zdz cls++(zdz kind++zdz (kt kind W B))).length=12:=by simp[xj]
   have:=zhm (W:=W) (pre:=zdz cls++(zdz kind++zdz (kt kind W B))) (rest:=B) (λx hx=>zmt (hr x hx)) W.length (Nat.le_refl _);rw[A3,<-e,List.take_length] at this;have hq:((zfh cls kind W B).length-12) / 4=W.length:=by rw[A0,hB];simp only[List.length_nil];omega
   rw[hq];exact this
  ·rw[if_neg (by omega),hW]
 ·unfold zl7;rw[h2];rcases h.2 with⟨A1,hB,_⟩|⟨A2,hW,_⟩
  ·rw[if_neg (by omega),hB]
  ·rw[if_pos A2,hW];unfold zfh;rw[show zce []=[] from rfl,List.nil_append,<-List.append_assoc,<-List.append_assoc];rw[show(12:Nat)=((zdz cls++zdz kind)++zdz (kt kind [] B)).length from by simp[xj],List.drop_left]
theorem z4f(o:Int)(w:World)(b0:-9223372036854775808<=o)(b1:o<=9223372036854775807):Calls prog 117 #[.int .i64 o] w λe w'=>e=.returned (.bool (yh o))/\w=w':=by
 have H1:=zh (zb3 o w b0 b1);have H2:=zh (jr o w b0 b1);unfold yh;generalize zdg o=x at *;generalize yb o=y at *;generalize ziw o=a at *;generalize Zz o=b at *;cases x<;>cases y
 all_goals
  go_enter func117,ntmps117
  go_wp2_with (first
   | (go_at_call 68;go_call H1 as e w' ⟨rfl,rfl⟩)
   | (go_at_call 34;go_call H2 as e w' ⟨rfl,rfl⟩))
  go_ret;exact⟨rfl,rfl⟩
theorem z6g(o:Int)(w:World)(b0:-9223372036854775808<=o)(b1:o<=9223372036854775807):Calls prog 116 #[.int .i64 o] w λe w'=>e=.returned (.bool (!yh o))/\w=w':=by
 have H:=zh (z4f o w b0 b1);generalize yh o=x at *;go_enter func116,ntmps116;go_wp2_with (go_at_call 117;go_call H as e w' ⟨rfl,rfl⟩);go_ret;exact⟨rfl,rfl⟩
def zvo(l:List Int):Bool:=l.any (λx=>!yh x)
theorem zyr{l:List Int}{k:Nat}(hk:k<l.length)(h:yh (l.getD k 0)=false):zvo l=true:=by
 unfold zvo;rw[List.any_eq_true];refine⟨l.getD k 0,?_,by rw[h];rfl⟩;rw[zg,ze hk];exact List.getElem_mem hk
theorem z2i{l:List Int}(h:∀j,j<l.length->yh (l.getD j 0)=true):zvo l=false:=by
 unfold zvo;rw[List.any_eq_false];intro x hx;obtain⟨j,hj,rfl⟩:=List.getElem_of_mem hx;have:=h j hj;rw[zg,ze hj] at this;simpa using this
theorem zys{l:List Int}:zvo l=false↔∀x∈l,yh x=true:=by
 unfold zvo;rw[List.any_eq_false];simp
theorem zxz(a:Option Addr)(n c:Nat)(l:List Int)(w:World)(e0:n=l.length)(h:zv w a c (l.map (Value.int .i64)))(hb:z3d l)(hm:n<=1000000000) :
 Calls prog 120 #[.slice a n c,.func (.func 116) #[] #[]] w λe w'=>∃v:Int,e=.returned (.int .i64 v)/\decide (0<=v)=zvo l/\w=w':=by
 subst e0;have HR:=zh h;have HB:=zh hb;clear h hb;go_enter func120,ntmps120;go_wp2;go_loop [8] (λi=>∃k:Nat,k<=l.length/\i=.int .i64 k/\Hid (∀j,j<k->yh (l.getD j 0)=true)) (λi=>l.length-(intOf i).toNat)
 case atStart=>exact⟨0,Nat.zero_le _,rfl,λj hj=>by omega⟩
 case round =>
  obtain⟨k,hk,rfl,hz⟩:=hrel;by_cases A1:k<l.length
  ·obtain⟨b,off,rfl,A4,hc⟩:=HR.out.at (by simp;omega);have A3:=hc k _ (by simp[A1];rfl);have A0:=HB _ (List.getElem_mem A1);have A2:l.getD k 0=l[k]:=by rw[zg,ze A1];rfl
   have HC:=zh (z6g l[k] w A0.1 A0.2);have HY:=zh (λh:yh l[k]=false=>zyr (l:=l) (k:=k) A1 (by rw[A2];exact h))
   have HN:=zh (λh:yh l[k]=true=>(by
    intro j hj;by_cases A5:j=k
    ·subst A5;rw[A2];exact h
    ·exact hz.out j (by omega):∀j,j<k+1->yh (l.getD j 0)=true))
   generalize l[k]=x at *;clear hc hz A0 A2;cases hx:yh x
   ·rw[hx] at HC;have HV:=zh (HY hx);clear HY HN hx;go_wp2_with (go_at_call 116;go_call HC as e w' ⟨rfl,rfl⟩);go_ret;exact⟨k,rfl,by rw[HV.out];simp,rfl⟩
   ·rw[hx] at HC;have HV:=zh (HN hx);clear HY HN hx;go_wp2_with (go_at_call 116;go_call HC as e w' ⟨rfl,rfl⟩);go_round
    case rel=>exact⟨k+1,by omega,by go_num,HV.out⟩
    case measure=>simp[intOf];omega
  ·have A6:k=l.length:=by omega
   subst A6;have HV:=zh (z2i hz.out);clear hz;go_wp2;go_ret;exact⟨-1,rfl,by rw[HV.out];rfl,rfl⟩
theorem znm(a:Option Addr)(n c:Nat)(l:List Int)(w:World)(e0:n=l.length)(h:zv w a c (l.map (Value.int .i64)))(hb:z3d l)(hm:n<=1000000000) :
 Calls prog 82 #[.slice a n c,.func (.func 116) #[] #[]] w λe w'=>e=.returned (.bool (zvo l))/\w=w':=by
 have HI:=zh (zxz a n c l w e0 h hb hm);clear h hm e0 hb;go_enter func82,ntmps82;go_wp2_with (go_at_call 120;go_call HI as e w' ⟨v,rfl,hv,rfl⟩;have HV:=zh hv;clear hv);go_ret;refine⟨?_,rfl⟩;rw[<-HV.out];rfl
structure Za where
 cls:Int
 kind:Int
 wa:Option Addr
 wn:Nat
 wc:Nat
 W:List Int
 ba:Option Addr
 bn:Nat
 bc:Nat
 B:List Int
def Za.val(o:Za):Value:=.agg #[.int .i64 o.cls,.int .i64 o.kind,.slice o.wa o.wn o.wc,.slice o.ba o.bn o.bc]
structure Za.ok(w:World)(o:Za):Prop where
 c0:-9223372036854775808<=o.cls/\o.cls<=9223372036854775807
 k0:-9223372036854775808<=o.kind/\o.kind<=9223372036854775807
 wl:o.wn=o.W.length
 wm:o.wn<=o.wc/\o.wc<=9223372036854775807
 wr:zv w o.wa o.wc (o.W.map (Value.int .i64))
 wi:z3d o.W
 bl:o.bn=o.B.length
 bm:o.bn<=o.bc/\o.bc<=9223372036854775807
 br:zv w o.ba o.bc (o.B.map (Value.int .u8))
 bb:Byt o.B
theorem Za.ok.below{w w':World}{o:Za}(h:o.ok w)(b:Below w.heap.size w w'):o.ok w' :=
 ⟨h.c0,h.k0,h.wl,h.wm,h.wr.below b,h.wi,h.bl,h.bm,h.br.below b,h.bb⟩
def zag(o:Za):Int:=if xk o.cls o.kind o.W o.B then 0 else 2
theorem zs1{l:List Int}{n:Nat}(h:n=l.length):l=[]↔n=0:=by rw[h,List.length_eq_zero_iff]
theorem zvh(o:Za)(w:World)(h:o.ok w)(hm:o.wn<=1000000):Calls prog 77 #[o.val] w λe w'=>e=.returned (.int .i64 (zag o))/\Below w.heap.size w w':=by
 obtain⟨cls,kind,wa,wn,wc,W,ba,bn,bc,B⟩:=o;obtain⟨hc,hk,wl,wm,wr,wi,bl,bm,br,bb⟩:=h;dsimp only at *;unfold Za.val;dsimp only;have A3:=zs1 bl;have A4:=zs1 wl;have A0:=zys (l:=W);have HN:=zh (jr cls (w.alloc (.cells #[.int .i64 cls,.int .i64 kind,.slice wa wn wc,.slice ba bn bc] 28)) hc.1 hc.2);have HW:=zh (znm wa wn wc W (w.alloc (.cells #[.int .i64 cls,.int .i64 kind,.slice wa wn wc,.slice ba bn bc] 28)) wl (wr.alloc _) wi (by omega))
 have HE:=zh (show zag ⟨cls,kind,wa,wn,wc,W,ba,bn,bc,B⟩=if yb cls=true/\(kind=1/\bn=0/\wn<=1000/\zvo W=false\/kind=2/\wn=0/\bn<=1000) then 0 else 2 from by
  have A1:xk cls kind W B↔(yb cls=true/\(kind=1/\bn=0/\wn<=1000/\zvo W=false\/kind=2/\wn=0/\bn<=1000)):=by
   unfold xk;rw[A3,A4,<-A0,<-wl,<-bl]
  unfold zag;dsimp only;by_cases hx:xk cls kind W B
  ·rw[if_pos hx,if_pos (A1.1 hx)]
  ·rw[if_neg hx,if_neg (λh=>hx (A1.2 h))])
 rw[HE.out];clear HE A3 A4 A0 wr wi br bb wl bl;generalize zvo W=bad at *;generalize yb cls=nam at *;generalize Zz cls=nv at *;have HB:=zh (show Below w.heap.size w (w.alloc (.cells #[.int .i64 cls,.int .i64 kind,.slice wa wn wc,.slice ba bn bc] 28)) from(Below.refl _ _).alloc (Nat.le_refl _) _);cases nam with
 | false =>
  simp only[Bool.false_eq_true,false_and,if_false];by_cases k1:kind=1
  ·subst k1;go_enter func77,ntmps77;go_wp2_with (go_at_call 34;go_call HN as e w' ⟨rfl,rfl⟩);go_ret;exact⟨rfl,HB⟩
  ·by_cases k2:kind=2
   ·subst k2;go_enter func77,ntmps77;go_wp2_with (go_at_call 34;go_call HN as e w' ⟨rfl,rfl⟩);go_ret;exact⟨rfl,HB⟩
   ·have q1:(kind == 1)=false:=by simp[k1]
    have q2:(kind == 2)=false:=by simp[k2]
    go_enter func77,ntmps77;go_wp2_with (go_at_call 34;go_call HN as e w' ⟨rfl,rfl⟩);go_ret;exact⟨rfl,HB⟩
 | true =>
  simp only[true_and];by_cases k1:kind=1
  ·subst k1;by_cases A6:bn=0
   ·subst A6;by_cases hw:wn<=1000
    ·cases bad with
     | false =>
      rw[if_pos (.inl ⟨rfl,rfl,hw,rfl⟩)];have A2:(wn:Int)<=1000:=by omega
      go_enter func77,ntmps77
      go_wp2_with (first
       | (go_at_call 34;go_call HN as e w' ⟨rfl,rfl⟩)
       | (go_at_call 82;go_call HW as e w' ⟨rfl,rfl⟩))
      go_ret;exact⟨rfl,HB⟩
     | true =>
      rw[if_neg (by simp)];have A2:(wn:Int)<=1000:=by omega
      go_enter func77,ntmps77
      go_wp2_with (first
       | (go_at_call 34;go_call HN as e w' ⟨rfl,rfl⟩)
       | (go_at_call 82;go_call HW as e w' ⟨rfl,rfl⟩))
      go_ret;exact⟨rfl,HB⟩
    ·rw[if_neg (by omega)];have A2:((wn:Int)<=1000)=False:=eq_false (by omega);go_enter func77,ntmps77;go_wp2_with (go_at_call 34;go_call HN as e w' ⟨rfl,rfl⟩);go_ret;exact⟨rfl,HB⟩
   ·rw[if_neg (by omega)];have A5:((bn:Int) == 0)=false:=by simp;omega
    go_enter func77,ntmps77;go_wp2_with (go_at_call 34;go_call HN as e w' ⟨rfl,rfl⟩);go_ret;exact⟨rfl,HB⟩
  ·by_cases k2:kind=2
   ·subst k2;by_cases A7:wn=0
    ·subst A7;by_cases hb:bn<=1000
     ·rw[if_pos (.inr ⟨rfl,rfl,hb⟩)];have A5:(bn:Int)<=1000:=by omega
      go_enter func77,ntmps77;go_wp2_with (go_at_call 34;go_call HN as e w' ⟨rfl,rfl⟩);go_ret;exact⟨rfl,HB⟩
     ·rw[if_neg (by omega)];have A5:((bn:Int)<=1000)=False:=eq_false (by omega);go_enter func77,ntmps77;go_wp2_with (go_at_call 34;go_call HN as e w' ⟨rfl,rfl⟩);go_ret;exact⟨rfl,HB⟩
    ·rw[if_neg (by omega)];have A2:((wn:Int) == 0)=false:=by simp;omega
     go_enter func77,ntmps77;go_wp2_with (go_at_call 34;go_call HN as e w' ⟨rfl,rfl⟩);go_ret;exact⟨rfl,HB⟩
   ·rw[if_neg (by omega)];have q1:(kind == 1)=false:=by simp[k1]
    have q2:(kind == 2)=false:=by simp[k2]
    go_enter func77,ntmps77;go_wp2_with (go_at_call 34;go_call HN as e w' ⟨rfl,rfl⟩);go_ret;exact⟨rfl,HB⟩
theorem zcu(o:Za)(w:World):Calls prog 78 #[o.val] w λe w'=>e=.returned (.int .i64 (if o.kind=1 then o.wn else if o.kind=2 then o.bn else 0:Nat))/\Below w.heap.size w w':=by
 obtain⟨cls,kind,wa,wn,wc,W,ba,bn,bc,B⟩:=o;unfold Za.val;dsimp only;have HB:=zh (show Below w.heap.size w (w.alloc (.cells #[.int .i64 cls,.int .i64 kind,.slice wa wn wc,.slice ba bn bc] 28)) from(Below.refl _ _).alloc (Nat.le_refl _) _);by_cases k1:kind=1
 ·subst k1;rw[if_pos rfl];go_enter func78,ntmps78;go_wp2;go_ret;exact⟨rfl,HB⟩
 ·rw[if_neg k1];by_cases k2:kind=2
  ·subst k2;rw[if_pos rfl];go_enter func78,ntmps78;go_wp2;go_ret;exact⟨rfl,HB⟩
  ·rw[if_neg k2];have q1:(kind == 1)=false:=by simp[k1]
   have q2:(kind == 2)=false:=by simp[k2]
   go_enter func78,ntmps78;go_wp2;go_ret;exact⟨rfl,HB⟩
theorem zb8(z:Value)(n:Nat):(Builtin.zeroCells #[z] n).size=n:=by simp[Builtin.zeroCells]
theorem z40(n:Nat)(w:World)(hn:n<=100000):Calls prog 140 #[.slice none 0 0,.int .i64 n] w λe w'=>∃v,e=.returned v/\w'.ownsRow w.heap.size 5 1 v 0 []/\Below w.heap.size w w':=by
 by_cases h0:n=0
 ·subst h0;go_enter func140,ntmps140;go_wp2;go_ret;exact⟨_,rfl,World.ownsRow_nil _ _ _ _,Below.refl _ _⟩
 ·have A2:0<n:=by omega
  obtain⟨i,hi,hz,hs,hb⟩:=info_parts zgk;have hr:=Lib.run_append_nil_zeros (P:=prog) w 26 3 26 5 i (.int .u8 0) .i64 .i64 underlying26 underlying3 hi hz n A2 (by omega) (by omega) (by rw[hb];omega);have A3:=grownCap_ge w n 0 5;have A0:=grownCap_le_maxLen w n 0 5 (by unfold maxLen;omega);obtain⟨C,hC⟩:=zx (grownCap w n 0 5);rw[<-hC] at hr A3 A0;have HR:=zh hr
  have HO:=zh (show(w.drew.alloc (.cells (Builtin.zeroCells (Value.int .u8 0).cells n++Builtin.zeroCells (Value.int .u8 0).cells (C-n)) 5)).ownsRow w.heap.size 5 1 (.slice (some ⟨w.heap.size,0,none⟩) 0 C) 0 [] from by
   refine⟨rfl,.inr ⟨w.heap.size,C,_,rfl,Nat.le_refl _,heap_alloc_new w.drew _,Nat.zero_le _,A0,?_,by simp⟩⟩;show(Builtin.zeroCells #[Value.int .u8 0] n++Builtin.zeroCells #[Value.int .u8 0] (C-n)).size=C*1
   rw[Array.size_append,zb8,zb8];omega)
  have HB:=zh (show Below w.heap.size w (w.drew.alloc (.cells (Builtin.zeroCells (Value.int .u8 0).cells n++Builtin.zeroCells (Value.int .u8 0).cells (C-n)) 5)) from((Below.refl _ w).drew).alloc (Nat.le_refl _) _);obtain⟨w1,A1⟩:=zx (w.drew.alloc (.cells (Builtin.zeroCells (Value.int .u8 0).cells n++Builtin.zeroCells (Value.int .u8 0).cells (C-n)) 5));rw[<-A1] at HR HO HB;clear hr hC A1 hi hz hs hb;go_enter func140,ntmps140;go_wp2_with (at_builtin;refine Lib.wpList_append_run _ rfl _ _ _ _ rfl _ _ rfl rfl _ _ HR ?_);go_ret;exact⟨_,rfl,HO,HB⟩
structure zrj where
 a:Option Addr
 n:Nat
 c:Nat
 l:List Int
def zrj.val(p:zrj):Value:=.slice p.a p.n p.c
def zrj.ok(w:World)(p:zrj):Prop:=p.n=p.l.length/\zv w p.a p.c (p.l.map (Value.int .u8))
def jq(ps:List zrj):List Int:=ps.flatMap zrj.l
theorem zf9{ps:List zrj}{k:Nat}{p:zrj}(h:ps[k]?=some p):jq (ps.take (k+1))=jq (ps.take k)++p.l:=by
 rw[List.take_add_one,h];simp[jq]
theorem zkt{ps:List zrj}(k:Nat):(jq (ps.take k)).length<=(jq ps).length:=by
 have:jq ps=jq (ps.take k)++jq (ps.drop k):=by
  unfold jq;rw[<-List.flatMap_append,List.take_append_drop]
 rw[this,List.length_append];omega
theorem zyk(a:Option Addr)(n c:Nat)(ps:List zrj)(w:World)(e0:n=ps.length)(h:zv w a c (ps.map zrj.val))(hp:∀p∈ps,p.ok w)(hm:(jq ps).length<=100000)(B4:ps.length<=1000) :
 Calls prog 102 #[.slice a n c] w (zb6 w (jq ps)):=by
 subst e0;have HR:=zh h;have HP:=zh hp;clear h hp;go_enter func102,ntmps102;go_wp2;go_loop [3,11] (λv i=>∃k:Nat,k<=ps.length/\v=.int .i64 ((jq (ps.take k)).length:Nat)/\i=.int .i64 k) (λ_ i=>ps.length-(intOf i).toNat)
 case atStart=>exact⟨0,Nat.zero_le _,rfl,rfl⟩
 case round =>
  obtain⟨k,hk,rfl,rfl⟩:=hrel;by_cases A1:k<ps.length
  ·obtain⟨b,off,rfl,A8,hc⟩:=HR.out.at (by simp;omega);have A0:=hc k ps[k].val (by simp[A1]);have A3:ps[k]?=some ps[k]:=ze A1;have A2:=HP _ (List.getElem_mem A1);have hs:=zf9 A3;have A4:=zkt (ps:=ps) (k+1);rw[hs,List.length_append] at A4;generalize ps[k]=p at *;obtain⟨pa,pn,pc,pl⟩:=p;unfold zrj.val at A0;have A5:pn=pl.length:=A2.1;dsimp only at A0 hs A4;rw[A5] at A0;have HS:=zh (show(jq (ps.take (k+1))).length=(jq (ps.take k)).length+pl.length from by rw[hs,List.length_append]);clear hc A3 A2 hs A5;generalize(jq (ps.take k)).length=S at *;generalize pl.length=T at *;go_wp2;go_round
   case rel=>exact⟨k+1,by omega,by rw[HS.out];go_num,by go_num⟩
   case measure=>simp[intOf];omega
  ·obtain rfl:k=ps.length:=by omega
   rw[List.take_length];have HG:=zh (z40 (jq ps).length w hm);clear A1 hk;go_wp2_with fail;go_call HG as e w1 ⟨v,rfl,own,bel⟩;have HO:=zh own;have HB:=zh bel;clear own bel HG;go_wp2_with fail;go_loopw [6,27] (λv i wr=>∃k:Nat,k<=ps.length/\i=.int .i64 k/\Hid (wr.ownsRow w.heap.size 5 1 v (jq (ps.take k)).length ((jq (ps.take k)).map (Value.int .u8)))/\Hid (Below w.heap.size w wr)) (λ_ i _=>ps.length-(intOf i).toNat)
   case atStart=>exact⟨0,Nat.zero_le _,rfl,HO,HB⟩
   case round =>
    obtain⟨k,hk,rfl,A9,A6⟩:=hrel;by_cases A1:k<ps.length
    ·obtain⟨b,off,rfl,A8,hc⟩:=(HR.out.below A6.out).at (by simp;omega);have A0:=hc k ps[k].val (by simp[A1]);have A3:ps[k]?=some ps[k]:=ze A1;have A2:=HP _ (List.getElem_mem A1);have hs:=zf9 A3;have A4:=zkt (ps:=ps) (k+1);rw[hs,List.length_append] at A4;generalize ps[k]=p at *;obtain⟨pa,pn,pc,pl⟩:=p;unfold zrj.val at A0;have A5:pn=pl.length:=A2.1;have B1:=zh (show zv wr pa pc (pl.map (Value.int .u8)) from A2.2.below A6);dsimp only at A0 hs A4;rw[A5] at A0;have HS:=zh hs;have B0:=A6.out.size;clear hc A3 A2 hs A5;go_wp2_with (at_builtin;refine Zb rfl _ _ 26 rfl w.heap.size 5 (.int .u8 0) 1 1 underlying26 zgk rfl (by decide) _ _ _ rfl A9.out pa pl.length pc _ rfl (by simp) B1.out (jw _ _) (by unfold maxLen;omega) (by omega) B0 ?_);intro v' w2 own2 gr2;have A7:=A9.out.lt;have B2:=zh (A6.grown gr2 B0 (λk hk=>(A7 k hk).1))
     have B3:Hid (w2.ownsRow w.heap.size 5 1 v' (jq (ps.take (k+1))).length ((jq (ps.take (k+1))).map (Value.int .u8))):=by
      rw[HS.out,List.map_append,List.length_append];exact own2
     clear own2 gr2 A7;go_wp2;go_roundw
     case rel=>exact⟨k+1,by omega,by go_num,B3.out,B2.out⟩
     case measure=>simp[intOf];omega
    ·obtain rfl:k=ps.length:=by omega
     go_wp2;go_ret;refine⟨_,rfl,?_,A6⟩;have:=A9.out;rwa[List.take_length] at this
end Go.Proofs.YtoeibiahbenpcaaGreatDoor
