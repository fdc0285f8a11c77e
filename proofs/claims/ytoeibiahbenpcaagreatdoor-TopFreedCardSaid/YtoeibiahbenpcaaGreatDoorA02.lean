/- Part. -/
import Derived.Test.YtoeibiahbenpcaaGreatDoorA01
import Derived.Deep.LoopGhost
namespace Go.Proofs.YtoeibiahbenpcaaGreatDoor
open RowKit Maps Proofs.Tryz
set_option linter.unusedVariables false
set_option maxRecDepth 99999
set_option maxHeartbeats 9000000
def yw(b:Nat->Bool):Nat->Nat
 | 0=>0
 | k+1=>yw b k+(if b k then 2 ^ k else 0)
theorem ze2(b:Nat->Bool):∀k,yw b k<2 ^ k
 | 0=>by simp[yw]
 | k+1=>by
  have:=ze2 b k;rw[yw,Nat.pow_succ];split<;>omega
theorem qj(b:Nat->Bool):∀k i,(yw b k).testBit i=(decide (i<k) && b i)
 | 0,i=>by simp[yw]
 | k+1,i=>by
  have ih:=qj b k i;have A0:=ze2 b k;rw[yw];by_cases hb:b k=true
  ·rw[if_pos hb,Nat.add_comm];rcases Nat.lt_trichotomy i k with h|h|h
   ·rw[Nat.testBit_two_pow_add_gt h,ih];simp[h,Nat.lt_succ_of_lt h]
   ·subst h;rw[Nat.testBit_two_pow_add_eq,ih];simp[hb]
   ·have h2:2 ^ k+yw b k<2 ^ i:=by
     have:2 ^ (k+1)<=2 ^ i:=Nat.pow_le_pow_right (by omega) (by omega);rw[Nat.pow_succ] at this;omega
    rw[Nat.testBit_lt_two_pow h2];have:¬i<k+1:=by omega
    simp[this]
  ·rw[if_neg hb,Nat.add_zero,ih];by_cases h:i=k
   ·subst h;simp at hb;simp[hb]
   ·have:(i<k)=(i<k+1):=by apply propext;omega
    simp[this]
theorem zci{a b:Nat->Bool}{k:Nat}(h:∀i,i<k->a i=b i):yw a k=yw b k:=by
 apply Nat.eq_of_testBit_eq;intro i;rw[qj,qj];by_cases hi:i<k
 ·rw[h i hi]
 ·simp[hi]
theorem zpq(b:Nat->Bool){k s:Nat}(hs:s<k):yw b k ^^^ 2 ^ s=yw (λi=>if i=s then !b i else b i) k:=by
 apply Nat.eq_of_testBit_eq;intro i;rw[Nat.testBit_xor,qj,qj,Nat.testBit_two_pow];by_cases hi:i=s
 ·subst hi;simp[hs]
 ·have:¬s=i:=λh=>hi h.symm
  simp[hi,this]
def ki(b:Nat->Bool):Nat->Nat
 | 0=>0
 | k+1=>ki b k+(if b k then 1 else 0)
theorem zjl(b:Nat->Bool):∀k,ki b k<=k
 | 0=>Nat.le_refl _
 | k+1=>by have:=zjl b k;rw[ki];split<;>omega
theorem gn(b:Nat->Bool)(m:Nat):∀k,ki b (m+k)=ki b m+ki (λi=>b (m+i)) k
 | 0=>rfl
 | k+1=>by rw[<-Nat.add_assoc,ki,gn b m k,ki];omega
theorem zaf{a b:Nat->Bool}:∀ {k:Nat},(∀i,i<k->a i=b i)->ki a k=ki b k
 | 0,_=>rfl
 | k+1,h=>by rw[ki,ki,zaf (λi hi=>h i (by omega)),h k (by omega)]
theorem zj8(b:Nat->Bool)(m:Nat):∀k,yw b (m+k)=yw b m+2 ^ m*yw (λi=>b (m+i)) k
 | 0=>by simp[yw]
 | k+1=>by
  rw[<-Nat.add_assoc,yw,zj8 b m k,yw];split
  ·rw[Nat.pow_add,Nat.mul_add,Nat.add_assoc]
  ·simp
def zaz:List Nat->Nat
 | []=>0
 | b::r=>b+256*zaz r
theorem zbj{a b c d:Nat}(ha:a<256)(hc:c<256):(a+256*b) &&& (c+256*d)=(a &&& c)+256*(b &&& d):=by
 have h1:∀x y:Nat,x<256->x+256*y=2 ^ 8*y ||| x:=λx y hx=>by
  rw[<-Nat.two_pow_add_eq_or_of_lt (i:=8) (by omega) y];omega
 have A0:a &&& c<256:=Nat.lt_of_le_of_lt Nat.and_le_left ha;rw[h1 a b ha,h1 c d hc,h1 _ (b &&& d) A0];apply Nat.eq_of_testBit_eq;intro i;simp only[Nat.testBit_and,Nat.testBit_or,Nat.testBit_two_pow_mul];by_cases hi:8<=i
 ·have h2:∀x:Nat,x<256->x.testBit i=false:=λx hx=>Nat.testBit_lt_two_pow (Nat.lt_of_lt_of_le (show x<2 ^ 8 by omega) (Nat.pow_le_pow_right (by omega) hi))
  rw[h2 a ha,h2 c hc];simp[hi]
 ·simp[hi]
def zn5(m:Nat):Nat->Nat
 | 0=>0
 | n+1=>m+256*zn5 m n
def s1(b:Nat):Nat:=((b / 2) &&& 0x55)+(b &&& 0x55)
def s2(b:Nat):Nat:=((b / 4) &&& 0x33)+(b &&& 0x33)
def s3(b:Nat):Nat:=((b / 16)+b) &&& 0x0f
theorem z6u:∀b:Fin 256,∀c:Fin 2,((b.val / 2+128*c.val) &&& 0x55)=((b.val / 2) &&& 0x55):=by decide +kernel
theorem z6t:∀b:Fin 256,∀c:Fin 4,((b.val / 4+64*c.val) &&& 0x33)=((b.val / 4) &&& 0x33):=by decide +kernel
theorem z3q:∀l:List Nat,(∀b∈l,b<256)->((zaz l / 2) &&& zn5 0x55 l.length)+(zaz l &&& zn5 0x55 l.length)=zaz (l.map s1)
 | [],_=>rfl
 | b::r,h=>by
  have ih:=z3q r (λx hx=>h x (by simp[hx]));have hb:=h b (by simp);have e:(b+256*zaz r) / 2=(b / 2+128*(zaz r % 2))+256*(zaz r / 2):=by omega
  have t:=z6u ⟨b,hb⟩ ⟨zaz r % 2,by omega⟩;simp only at t;show((b+256*zaz r) / 2 &&& (0x55+256*zn5 0x55 r.length))+((b+256*zaz r) &&& (0x55+256*zn5 0x55 r.length))=s1 b+256*zaz (r.map s1)
  rw[e,zbj (by omega) (by omega),zbj hb (by omega),t,<-ih];unfold s1;omega
theorem z3p:∀l:List Nat,(∀b∈l,b<256)->((zaz l / 4) &&& zn5 0x33 l.length)+(zaz l &&& zn5 0x33 l.length)=zaz (l.map s2)
 | [],_=>rfl
 | b::r,h=>by
  have ih:=z3p r (λx hx=>h x (by simp[hx]));have hb:=h b (by simp);have e:(b+256*zaz r) / 4=(b / 4+64*(zaz r % 4))+256*(zaz r / 4):=by omega
  have t:=z6t ⟨b,hb⟩ ⟨zaz r % 4,by omega⟩;simp only at t;show((b+256*zaz r) / 4 &&& (0x33+256*zn5 0x33 r.length))+((b+256*zaz r) &&& (0x33+256*zn5 0x33 r.length))=s2 b+256*zaz (r.map s2)
  rw[e,zbj (by omega) (by omega),zbj hb (by omega),t,<-ih];unfold s2;omega
theorem z5j(x:Nat):x &&& 0x0f=x % 16:=Nat.and_two_pow_sub_one_eq_mod x 4
theorem z3o:∀l:List Nat,(∀b∈l,b % 16<=4/\b / 16<=4)->((zaz l / 16)+zaz l) &&& zn5 0x0f l.length=zaz (l.map s3)
 | [],_=>rfl
 | b::r,h=>by
  have ih:=z3o r (λx hx=>h x (by simp[hx]));have hb:=h b (by simp)
  have hr:zaz r % 16<=4:=by
   cases r with
   | nil=>decide
   | cons c r' =>
    have:=h c (by simp);show(c+256*zaz r') % 16<=4
    omega
  have e:(b+256*zaz r) / 16+(b+256*zaz r)=(b / 16+16*(zaz r % 16)+b)+256*(zaz r / 16+zaz r):=by omega
  show((b+256*zaz r) / 16+(b+256*zaz r) &&& (0x0f+256*zn5 0x0f r.length))=s3 b+256*zaz (r.map s3)
  rw[e,zbj (by omega) (by omega),ih];unfold s3;rw[z5j,z5j];omega
def zel(b:Nat->Bool)(j:Nat):Nat:=yw (λi=>b (8*j+i)) 8
theorem zpe(b:Nat->Bool)(j:Nat):zel b j<256:=ze2 _ 8
def zbi(b:Nat->Bool):List Nat:=[zel b 0,zel b 1,zel b 2,zel b 3,zel b 4,zel b 5,zel b 6,zel b 7]
theorem zmg(b:Nat->Bool):zaz (zbi b)=yw b 64:=by
 have h:∀(j k:Nat),yw (λi=>b (8*j+i)) (8+k)=zel b j+256*yw (λi=>b (8*(j+1)+i)) k:=λj k=>by
  rw[zj8]
  have:(λi=>b (8*j+(8+i)))=(λi=>b (8*(j+1)+i)):=by
   funext i;rw[show 8*j+(8+i)=8*(j+1)+i from by omega]
  rw[this];rfl
 have h0:yw b 64=yw (λi=>b (8*0+i)) (8+56):=zci (λi _=>by simp);rw[h0,h 0 56,show(56:Nat)=8+48 from rfl,h 1 48,show(48:Nat)=8+40 from rfl,h 2 40,show(40:Nat)=8+32 from rfl,h 3 32,show(32:Nat)=8+24 from rfl,h 4 24,show(24:Nat)=8+16 from rfl,h 5 16,show(16:Nat)=8+8 from rfl,h 6 8,show(8:Nat)=8+0 from rfl,h 7 0];rfl
theorem zis:∀b:Fin 256,(s2 (s1 b.val)) % 16<=4/\(s2 (s1 b.val)) / 16<=4/\s1 b.val<256/\s3 (s2 (s1 b.val))<=8:=by decide +kernel
theorem zw5:∀a0 a1 a2 a3 a4 a5 a6 a7:Bool,s3 (s2 (s1 ((if a0 then 1 else 0)+(if a1 then 2 else 0)+(if a2 then 4 else 0)+(if a3 then 8 else 0)+(if a4 then 16 else 0)+(if a5 then 32 else 0)+(if a6 then 64 else 0)+(if a7 then 128 else 0))))=(if a0 then 1 else 0)+(if a1 then 1 else 0)+(if a2 then 1 else 0)+(if a3 then 1 else 0)+(if a4 then 1 else 0)+(if a5 then 1 else 0)+(if a6 then 1 else 0)+(if a7 then 1 else 0):=by decide +kernel
theorem km(b:Nat->Bool)(j:Nat):s3 (s2 (s1 (zel b j)))=ki (λi=>b (8*j+i)) 8:=by
 have:=zw5 (b (8*j+0)) (b (8*j+1)) (b (8*j+2)) (b (8*j+3)) (b (8*j+4)) (b (8*j+5)) (b (8*j+6)) (b (8*j+7));unfold zel;simp only[yw,ki,Nat.zero_add] at this ⊢;exact this
def z29(x:Nat):Nat :=
 let y1:=((x / 2) &&& 0x5555555555555555)+(x &&& 0x5555555555555555)
 let y2:=((y1 / 4) &&& 0x3333333333333333)+(y1 &&& 0x3333333333333333)
 let y3:=((y2 / 16)+y2) &&& 0x0f0f0f0f0f0f0f0f
 let y4:=y3+y3 / 256
 let y5:=y4+y4 / 65536
 let y6:=y5+y5 / 4294967296
 y6 % 128
theorem zuh(b:Nat->Bool):ki b 64=ki (λi=>b (8*0+i)) 8+ki (λi=>b (8*1+i)) 8+ki (λi=>b (8*2+i)) 8+ki (λi=>b (8*3+i)) 8+ki (λi=>b (8*4+i)) 8+ki (λi=>b (8*5+i)) 8+ki (λi=>b (8*6+i)) 8+ki (λi=>b (8*7+i)) 8:=by
 have h:∀(j k:Nat),ki (λi=>b (8*j+i)) (8+k)=ki (λi=>b (8*j+i)) 8+ki (λi=>b (8*(j+1)+i)) k:=λj k=>by
  rw[gn]
  have:(λi=>b (8*j+(8+i)))=(λi=>b (8*(j+1)+i)):=by
   funext i;rw[show 8*j+(8+i)=8*(j+1)+i from by omega]
  rw[this]
 have h0:ki b 64=ki (λi=>b (8*0+i)) (8+56):=zaf (λi _=>by simp);rw[h0,h 0 56,show(56:Nat)=8+48 from rfl,h 1 48,show(48:Nat)=8+40 from rfl,h 2 40,show(40:Nat)=8+32 from rfl,h 3 32,show(32:Nat)=8+24 from rfl,h 4 24,show(24:Nat)=8+16 from rfl,h 5 16,show(16:Nat)=8+8 from rfl,h 6 8];simp only[Nat.reduceAdd];omega
theorem zr0(p0 p1 p2 p3 p4 p5 p6 p7 y:Nat)(h0:p0<=8)(h1:p1<=8)(h2:p2<=8)(h3:p3<=8)(h4:p4<=8)(h5:p5<=8)(h6:p6<=8)(h7:p7<=8)(hy:y=zaz [p0,p1,p2,p3,p4,p5,p6,p7]) :
 (let y4:=y+y / 256;let y5:=y4+y4 / 65536;let y6:=y5+y5 / 4294967296;y6 % 128)=p0+p1+p2+p3+p4+p5+p6+p7/\(let y4:=y+y / 256;let y5:=y4+y4 / 65536;y5+y5 / 4294967296)<18446744073709551616:=by
 simp only[zaz] at hy;have e1:y / 256=p1+256*(p2+256*(p3+256*(p4+256*(p5+256*(p6+256*p7))))):=by omega
 dsimp only;rw[e1];obtain⟨y4,A0⟩:=zx (y+(p1+256*(p2+256*(p3+256*(p4+256*(p5+256*(p6+256*p7)))))));rw[<-A0];have e4:y4=(p0+p1)+256*((p1+p2)+256*((p2+p3)+256*((p3+p4)+256*((p4+p5)+256*((p5+p6)+256*((p6+p7)+256*p7)))))):=by omega
 have e2:y4 / 65536=(p2+p3)+256*((p3+p4)+256*((p4+p5)+256*((p5+p6)+256*((p6+p7)+256*p7)))):=by omega
 rw[e2];obtain⟨y5,A1⟩:=zx (y4+((p2+p3)+256*((p3+p4)+256*((p4+p5)+256*((p5+p6)+256*((p6+p7)+256*p7))))));rw[<-A1];have e5:y5=(p0+p1+p2+p3)+256*((p1+p2+p3+p4)+256*((p2+p3+p4+p5)+256*((p3+p4+p5+p6)+256*((p4+p5+p6+p7)+256*((p5+p6+p7)+256*((p6+p7)+256*p7)))))):=by omega
 have e3:y5 / 4294967296=(p4+p5+p6+p7)+256*((p5+p6+p7)+256*((p6+p7)+256*p7)):=by omega
 rw[e3];clear hy A0 A1 e1 e2 e3 e4;constructor<;>omega
theorem zwt(b:Nat->Bool):z29 (yw b 64)=ki b 64:=by
 unfold z29
 have A0:∀x∈zbi b,x<256:=by
  intro x hx;simp only[zbi,List.mem_cons,List.not_mem_nil,or_false] at hx;rcases hx with rfl|rfl|rfl|rfl|rfl|rfl|rfl|rfl<;>exact zpe _ _
 have m1:zn5 0x55 8=0x5555555555555555:=by decide
 have m2:zn5 0x33 8=0x3333333333333333:=by decide
 have m3:zn5 0x0f 8=0x0f0f0f0f0f0f0f0f:=by decide
 have y1:=z3q (zbi b) A0;rw[show(zbi b).length=8 from rfl,m1,zmg] at y1;dsimp only;rw[y1]
 have h1:∀x∈(zbi b).map s1,x<256:=by
  intro x hx;obtain⟨c,hc,rfl⟩:=List.mem_map.1 hx;exact(zis ⟨c,A0 c hc⟩).2.2.1
 have y2:=z3p ((zbi b).map s1) h1;rw[show((zbi b).map s1).length=8 from rfl,m2] at y2;rw[y2]
 have h2:∀x∈((zbi b).map s1).map s2,x % 16<=4/\x / 16<=4:=by
  intro x hx;obtain⟨d,hd,rfl⟩:=List.mem_map.1 hx;obtain⟨c,hc,rfl⟩:=List.mem_map.1 hd;exact⟨(zis ⟨c,A0 c hc⟩).1,(zis ⟨c,A0 c hc⟩).2.1⟩
 have y3:=z3o (((zbi b).map s1).map s2) h2;rw[show(((zbi b).map s1).map s2).length=8 from rfl,m3] at y3;rw[y3];have h3:∀j,s3 (s2 (s1 (zel b j)))<=8:=λj=>(zis ⟨_,zpe b j⟩).2.2.2
 have:=(zr0 _ _ _ _ _ _ _ _ _ (h3 0) (h3 1) (h3 2) (h3 3) (h3 4) (h3 5) (h3 6) (h3 7) rfl).1;rw[zuh,<-km,<-km,<-km,<-km,<-km,<-km,<-km,<-km];exact this
def wd(b:Nat->Bool)(j:Nat):Nat:=yw (λi=>b (64*j+i)) 64
theorem zzw(b:Nat->Bool)(j:Nat):wd b j<18446744073709551616:=ze2 _ 64
theorem z3k(b:Nat->Bool)(p:Nat):(wd b (p / 64)).testBit (p % 64)=b p:=by
 unfold wd;rw[qj];have h1:p % 64<64:=by omega
 have h2:64*(p / 64)+p % 64=p:=by omega
 simp[h1,h2]
def zrn(b:Nat->Bool)(p:Nat):Nat->Bool:=λi=>if i=p then !b i else b i
theorem zka(b:Nat->Bool)(p:Nat):wd (zrn b p) (p / 64)=wd b (p / 64) ^^^ 2 ^ (p % 64):=by
 unfold wd;rw[zpq _ (show p % 64<64 by omega)];refine zci (λi hi=>?_);unfold zrn;by_cases h:i=p % 64
 ·have:64*(p / 64)+i=p:=by omega
  rw[if_pos this,if_pos h]
 ·have:¬64*(p / 64)+i=p:=by omega
  rw[if_neg this,if_neg h]
theorem zii(b:Nat->Bool){p j:Nat}(h:j≠p / 64):wd (zrn b p) j=wd b j:=by
 unfold wd;refine zci (λi hi=>?_);unfold zrn;have:¬64*j+i=p:=by omega
 rw[if_neg this]
def kj(b:Nat->Bool)(W:Nat):List Int:=(List.range W).map (λj=>((wd b j:Nat):Int))
theorem zd2(b:Nat->Bool)(W:Nat):(kj b W).length=W:=by simp[kj]
theorem zd3{b:Nat->Bool}{W j:Nat}(h:j<W):(kj b W).getD j 0=((wd b j:Nat):Int):=by
 simp[kj,List.getD_eq_getElem?_getD,h]
theorem zmb(b:Nat->Bool)(W p:Nat)(h:p / 64<W):kj (zrn b p) W=(kj b W).set (p / 64) ((wd b (p / 64) ^^^ 2 ^ (p % 64):Nat):Int):=by
 apply List.ext_getElem (by simp[kj]);intro j h1 h2;have hj:j<W:=by simpa[kj] using h1
 by_cases he:p / 64=j
 ·subst he;rw[List.getElem_set_self];simp[kj,zka]
 ·rw[List.getElem_set_ne he];simp[kj,zii b (Ne.symm he)]
def jx(b:Nat->Bool)(f k:Nat)(v:Bool):Nat->Bool:=λi=>if f<=i/\i<f+k then v else b i
theorem z34(b:Nat->Bool)(f:Nat)(v:Bool):jx b f 0 v=b:=by
 funext i;unfold jx;rw[if_neg (by omega)]
theorem z08(b:Nat->Bool)(f k:Nat)(v:Bool):jx b f k v (f+k)=b (f+k):=by unfold jx;rw[if_neg (by omega)]
theorem zt3{b:Nat->Bool}{f k:Nat}{v:Bool}(h:b (f+k) = !v):jx b f (k+1) v=zrn (jx b f k v) (f+k):=by
 funext i;unfold zrn;by_cases hi:i=f+k
 ·subst hi;rw[if_pos rfl,z08,h];unfold jx;rw[if_pos (by omega)];simp
 ·rw[if_neg hi];unfold jx;by_cases h1:f<=i/\i<f+k
  ·rw[if_pos h1,if_pos (by omega)]
  ·rw[if_neg h1,if_neg (by omega)]
def jt(b:Nat->Bool)(f k:Nat)(v:Bool):Prop:=∀i,i<k->b (f+i)=v
theorem zlj{b:Nat->Bool}{f k:Nat}{v:Bool}(h:jt b f k v)(u:Bool):jx (jx b f k u) f k v=b:=by
 funext i;unfold jx;by_cases h1:f<=i/\i<f+k
 ·rw[if_pos h1];have:=h (i-f) (by omega);rw[show f+(i-f)=i from by omega] at this;exact this.symm
 ·rw[if_neg h1,if_neg h1]
theorem zff(b:Nat->Bool)(f k:Nat)(v:Bool):jt (jx b f k v) f k v:=λi hi=>by
 unfold jx;rw[if_pos (by omega)]
theorem zek(v:Bool):∀k,ki (λ_=>v) k=if v then k else 0
 | 0=>by cases v<;>rfl
 | k+1=>by rw[ki,zek v k];cases v<;>simp
theorem zjk{b:Nat->Bool}{f k:Nat}{v:Bool}(h:jt b f k v):ki (λi=>b (f+i)) k=if v then k else 0:=by
 rw[<-zek v k];exact zaf h
theorem zxw{b:Nat->Bool}{n:Nat}(h:∀i,n<=i->b i=false)(k:Nat):ki b (n+k)=ki b n:=by
 rw[gn,zjk (v:=false) (λi _=>h (n+i) (by omega))];rfl
theorem zlq{b:Nat->Bool}{f k n:Nat}{v:Bool}(h:jt b f k (!v))(hn:f+k<=n):ki (jx b f k v) n+(if v then 0 else k)=ki b n+(if v then k else 0):=by
 obtain⟨r,rfl⟩:∃r,n=f+k+r:=⟨n-(f+k),by omega⟩;rw[gn (jx b f k v),gn (jx b f k v),gn b,gn b f k];have e1:ki (jx b f k v) f=ki b f:=zaf (λi hi=>by unfold jx;rw[if_neg (by omega)]);have e3:ki (λi=>jx b f k v (f+k+i)) r=ki (λi=>b (f+k+i)) r:=zaf (λi hi=>by unfold jx;rw[if_neg (by omega)]);rw[e1,e3,zjk (zff b f k v),zjk h];cases v<;>simp<;>omega
def qu(b:Nat->Bool)(N n:Nat):Option Nat->Prop
 | some a=>a+n<=N/\jt b a n false/\∀a',a'<a->¬jt b a' n false
 | none=>∀a',a'+n<=N->¬jt b a' n false
structure zaw(w:World)(m g n:Nat)(b:Nat->Bool):Prop where
 head:Row w m 235 [.int .i64 n,.slice (some ⟨g,0,none⟩) ((n+63) / 64) ((n+63) / 64)]
 data:Row w g 249 ((kj b ((n+63) / 64)).map (Value.int .u64))
 out:∀i,n<=i->b i=false
 small:n<=65536
 ne:m≠g
theorem zaw.keep{w w':World}{m g n:Nat}{b:Nat->Bool}(h:zaw w m g n b){l:List Nat}(u:Upd l w w')(h1:m∉l)(h2:g∉l):zaw w' m g n b :=
 ⟨h.head.keep u h1,h.data.keep u h2,h.out,h.small,h.ne⟩
theorem zd6(x m:Nat)(hx:x<18446744073709551616)(hm:m<18446744073709551616):bits .and .u64 (x:Int) (m:Int)=((x &&& m:Nat):Int):=by
 have ha:(BitVec.ofInt 64 (x:Int)).toNat=x:=by rw[BitVec.toNat_ofInt];omega
 have hb:(BitVec.ofInt 64 (m:Int)).toNat=m:=by rw[BitVec.toNat_ofInt];omega
 have key:(BitVec.ofInt 64 (x:Int) &&& BitVec.ofInt 64 (m:Int)).toNat=x &&& m:=by rw[BitVec.toNat_and,ha,hb]
 have hl:x &&& m<=x:=Nat.and_le_left;show IntKind.u64.wrap ((BitVec.ofInt 64 (x:Int) &&& BitVec.ofInt 64 (m:Int)).toNat:Nat)=((x &&& m:Nat):Int)
 rw[key,IntKind.wrap_u64];omega
theorem zqk(x:Nat)(hx:x<9223372036854775808):bits .and .i64 (x:Int) 127=((x % 128:Nat):Int):=by
 have h1:(BitVec.ofInt 64 127).toNat=2 ^ 7-1:=by decide
 have ha:(BitVec.ofInt 64 (x:Int)).toNat=x:=by rw[BitVec.toNat_ofInt];omega
 have key:(BitVec.ofInt 64 (x:Int) &&& BitVec.ofInt 64 127).toNat=x % 2 ^ 7:=by
  rw[BitVec.toNat_and,ha,h1,Nat.and_two_pow_sub_one_eq_mod]
 show IntKind.i64.wrap ((BitVec.ofInt 64 (x:Int) &&& BitVec.ofInt 64 127).toNat:Nat)=((x % 128:Nat):Int)
 rw[key,IntKind.wrap_i64];omega
theorem z4r(x:Nat)(hx:x<18446744073709551616)(w:World):Calls prog 162 #[.int .u64 x] w λe w'=>e=.returned (.int .i64 (z29 x))/\w=w':=by
 obtain⟨A1,A0⟩:=zx ((x / 2) &&& 0x5555555555555555);obtain⟨A2,A3⟩:=zx (x &&& 0x5555555555555555);obtain⟨Y1,A7⟩:=zx (A1+A2);obtain⟨B1,A4⟩:=zx ((Y1 / 4) &&& 0x3333333333333333);obtain⟨B2,A5⟩:=zx (Y1 &&& 0x3333333333333333);obtain⟨Y2,A8⟩:=zx (B1+B2);obtain⟨Z3,A9⟩:=zx (Y2 / 16+Y2);obtain⟨Y3,A6⟩:=zx (Z3 &&& 0x0f0f0f0f0f0f0f0f);obtain⟨Y4,B0⟩:=zx (Y3+Y3 / 256);obtain⟨Y5,B3⟩:=zx (Y4+Y4 / 65536);obtain⟨Y6,B4⟩:=zx (Y5+Y5 / 4294967296)
 have hS:z29 x=Y6 % 128:=by
  unfold z29;dsimp only;rw[<-A0,<-A3,<-A7,<-A4,<-A5,<-A8,<-A9,<-A6,<-B0,<-B3,<-B4]
 have a1:A1<=0x5555555555555555:=by rw[A0];exact Nat.and_le_right
 have a2:A2<=0x5555555555555555:=by rw[A3];exact Nat.and_le_right
 have c1:B1<=0x3333333333333333:=by rw[A4];exact Nat.and_le_right
 have c2:B2<=0x3333333333333333:=by rw[A5];exact Nat.and_le_right
 have c3:Y3<=0x0f0f0f0f0f0f0f0f:=by rw[A6];exact Nat.and_le_right
 have e1:bits .and .u64 ((x:Int) / 2) 6148914691236517205=(A1:Int):=by
  have:=zd6 (x / 2) 6148914691236517205 (by omega) (by omega);rw[<-A0] at this;exact this
 have e2:bits .and .u64 (x:Int) 6148914691236517205=(A2:Int):=by
  have:=zd6 x 6148914691236517205 (by omega) (by omega);rw[<-A3] at this;exact this
 have e3:IntKind.u64.wrap ((A1:Int)+(A2:Int))=(Y1:Int):=by rw[IntKind.wrap_u64];omega
 have e4:bits .and .u64 ((Y1:Int) / 4) 3689348814741910323=(B1:Int):=by
  have:=zd6 (Y1 / 4) 3689348814741910323 (by omega) (by omega);rw[<-A4] at this;exact this
 have e5:bits .and .u64 (Y1:Int) 3689348814741910323=(B2:Int):=by
  have:=zd6 Y1 3689348814741910323 (by omega) (by omega);rw[<-A5] at this;exact this
 have e6:IntKind.u64.wrap ((B1:Int)+(B2:Int))=(Y2:Int):=by rw[IntKind.wrap_u64];omega
 have e7:IntKind.u64.wrap ((Y2:Int) / 16+(Y2:Int))=(Z3:Int):=by rw[IntKind.wrap_u64];omega
 have e8:bits .and .u64 (Z3:Int) 1085102592571150095=(Y3:Int):=by
  have:=zd6 Z3 1085102592571150095 (by omega) (by omega);rw[<-A6] at this;exact this
 have e9:IntKind.u64.wrap ((Y3:Int)+(Y3:Int) / 256)=(Y4:Int):=by rw[IntKind.wrap_u64];omega
 have e10:IntKind.u64.wrap ((Y4:Int)+(Y4:Int) / 65536)=(Y5:Int):=by rw[IntKind.wrap_u64];omega
 have e11:IntKind.u64.wrap ((Y5:Int)+(Y5:Int) / 4294967296)=(Y6:Int):=by rw[IntKind.wrap_u64];omega
 have e12:bits .and .i64 (Y6:Int) 127=((Y6 % 128:Nat):Int):=zqk Y6 (by omega);have y6:Y6<=9223372036854775807:=by omega
 have y1:Y1<=18446744073709551615:=by omega
 have y2:Y2<=18446744073709551615:=by omega
 have y5:Y5<=18446744073709551615:=by omega
 have y4:Y4<=18446744073709551615:=by omega
 rw[hS];clear A0 A3 A7 A4 A5 A8 A9 A6 B0 B3 B4 hS;obtain⟨R,hR⟩:=zx (Y6 % 128);rw[<-hR] at e12 ⊢;clear hR;go_enter func162,ntmps162;go_wp2;go_ret;exact⟨rfl,rfl⟩
theorem z2g(x i:Nat)(hx:x<18446744073709551616):bits .and .u64 ((x:Int) / 2 ^ i) 1=if x.testBit i then 1 else 0:=by
 have h1:(x:Int) / 2 ^ i=((x / 2 ^ i:Nat):Int):=by simp
 have h2:x / 2 ^ i<=x:=Nat.div_le_self _ _;have:=zd6 (x / 2 ^ i) 1 (by omega) (by omega);rw[h1];rw[show((1:Nat):Int)=1 from rfl] at this;rw[this,Nat.and_one_is_mod,Nat.testBit_eq_decide_div_mod_eq];by_cases h:x / 2 ^ i % 2=1
 ·simp[h]
 ·have h0:x / 2 ^ i % 2=0:=by omega
  simp[h0]
theorem zzl(m g n:Nat)(b:Nat->Bool)(w:World)(h:zaw w m g n b)(p:Nat)(hp:p<n) :
 Calls prog 158 #[.pointer (some ⟨m,0,none⟩),.int .i64 p] w λe w'=>e=.returned (.bool (b p))/\w=w':=by
 have k0:=h.head.cell (i:=0) rfl;have k1:=h.head.cell (i:=1) rfl;have A1:=h.small;have hj:p / 64<(n+63) / 64:=by omega
 have kc:=h.data.cell (zr (k:=.u64) (show p / 64<(kj b ((n+63) / 64)).length from by rw[zd2];exact hj));rw[zd3 hj] at kc;have hb:=z2g (wd b (p / 64)) (p % 64) (zzw _ _);rw[z3k] at hb;clear h;obtain⟨W,hW⟩:=zx ((n+63) / 64);rw[<-hW] at k1 hj;clear hW;cases A0:b p
 all_goals
  rw[A0] at hb;clear A0;go_enter func158,ntmps158;go_wp2;go_ret;exact⟨rfl,rfl⟩
theorem zzv(j:Nat):wd (λ_=>false) j=0:=by
 unfold wd;apply Nat.eq_of_testBit_eq;intro i;rw[qj];simp
theorem zmc(W:Nat):kj (λ_=>false) W=List.replicate W 0:=by
 apply List.ext_getElem (by simp[kj]);intro i h1 h2;simp[kj,zzv]
def zdy(w:World)(k:Int)(e:Ending)(w':World):Prop :=
 if k<0\/65536<k then e=.returned (.tuple #[.pointer none,.int .i64 2])/\w=w'
 else ∃m g,e=.returned (.tuple #[.pointer (some ⟨m,0,none⟩),.int .i64 0])/\w.heap.size<=m/\w.heap.size<=g/\zaw w' m g k.toNat (λ_=>false)/\Upd [] w w'
theorem z5f(k:Int)(w:World)(h0:-9223372036854775808<=k)(h1:k<=9223372036854775807):Calls prog 111 #[.int .i64 k] w (zdy w k):=by
 by_cases h:k<0
 ·go_enter func111,ntmps111;go_wp2;go_ret2;unfold zdy;rw[if_pos (.inl h)];exact⟨rfl,rfl⟩
 ·by_cases h2:65536<k
  ·go_enter func111,ntmps111;go_wp2;go_ret2;unfold zdy;rw[if_pos (.inr h2)];exact⟨rfl,rfl⟩
  ·obtain⟨n,rfl⟩:=Int.eq_ofNat_of_zero_le (show 0<=k from by omega);have hn:n<=65536:=by omega
   go_enter func111,ntmps111;go_wp2_with (at_make;refine qo rfl _ _ 233 rfl 249 (.int .u64 0) 8 underlying233 (by kernel_rfl) rfl .i64 .i64 _ _ ((n+63) / 64) rfl rfl ?c1 ?c2 (by omega) (by unfold maxLen;omega) ?_)
   case c1=>omega
   case c2=>omega
   intro w' row upd;have lt:=row.lt;go_wp2;go_ret2;unfold zdy;rw[if_neg (by omega),Int.toNat_natCast];refine⟨w'.heap.size,w.heap.size,rfl,by omega,Nat.le_refl _,⟨Row.made _ _ _,?_,λ_ _=>rfl,hn,by omega⟩,upd.alloc _⟩;rw[zmc,List.map_replicate];exact row.alloc _
theorem z1q(m g n:Nat)(b:Nat->Bool)(w:World)(h:zaw w m g n b):Calls prog 142 #[.pointer (some ⟨m,0,none⟩)] w λe w'=>e=.returned (.int .i64 (ki b n))/\w=w':=by
 have k1:=h.head.cell (i:=1) rfl;have A2:=h.small;have HD:=zh h.data
 have HE:=zh (show ki b (64*((n+63) / 64))=ki b n from by
  obtain⟨r,hr⟩:∃r,64*((n+63) / 64)=n+r:=⟨64*((n+63) / 64)-n,by omega⟩
  rw[hr];exact zxw h.out r)
 clear h;obtain⟨W,hW⟩:=zx ((n+63) / 64);rw[<-hW] at k1 HD HE;have A3:W<=1024:=by omega
 clear hW;go_enter func142,ntmps142;go_wp2;go_loop [3,13] (λv i=>∃k:Nat,k<=W/\v=.int .i64 (ki b (64*k))/\i=.int .i64 k) (λ_ i=>W-(intOf i).toNat)
 case atStart=>exact⟨0,Nat.zero_le _,rfl,rfl⟩
 case round =>
  obtain⟨k,hk,rfl,rfl⟩:=hrel;by_cases A0:k<W
  ·have kc:=HD.out.cell (zr (k:=.u64) (show k<(kj b W).length from by rw[zd2];exact A0));rw[zd3 A0] at kc;have HO:=zh (z4r (wd b k) (zzw _ _) w);have hs:z29 (wd b k)=ki (λi=>b (64*k+i)) 64:=zwt _;have HA:=zh (gn b (64*k) 64);have A4:=zjl b (64*k);have A1:=zjl (λi=>b (64*k+i)) 64;rw[hs] at HO;clear hs;generalize wd b k=x at *;generalize ki (λi=>b (64*k+i)) 64=y at *;generalize hc:ki b (64*k)=c at *;go_wp2_with (go_at_call 162;go_call HO as e w' ⟨rfl,rfl⟩);go_round
   case rel=>exact⟨k+1,by omega,by rw[show 64*(k+1)=64*k+64 from by omega,HA.out];go_num,by go_num⟩
   case measure=>simp[intOf];omega
  ·obtain rfl:W=k:=by omega
   go_wp2;go_ret;rw[<-HE.out];exact⟨rfl,rfl⟩
def zov(o:Option Nat):Value:=.tuple #[.int .i64 ((o.getD 0:Nat):Int),.bool o.isSome]
def zy3(b:Nat->Bool)(n:Nat)(q:Int)(o:Option Nat):Prop:=(q<1/\o=none)\/(1<=q/\qu b n q.toNat o)
theorem zu9(m g n:Nat)(b:Nat->Bool)(w:World)(h:zaw w m g n b)(q:Int)(h1:q<=9223372036854775807) :
 Calls prog 130 #[.pointer (some ⟨m,0,none⟩),.int .i64 q] w λe w'=>(∃o,zy3 b n q o/\e=.returned (zov o))/\w=w':=by
 by_cases hq:q<1
 ·clear h;go_enter func130,ntmps130;go_wp2;go_step3;go_wp2
  try rw[Exit.noGoto_ret]
  go_ret2;exact⟨⟨none,.inl ⟨hq,rfl⟩,rfl⟩,rfl⟩
 ·obtain⟨a,rfl⟩:=Int.eq_ofNat_of_zero_le (show 0<=q from by omega);have ha:1<=a:=by omega
  have k0:=h.head.cell (i:=0) rfl;have A5:=h.small;have HH:=zh h;clear h;go_enter func130,ntmps130;go_wp2;go_step3;go_wp2;go_step3;go_wp2;go_loopg [6] n (λgg s6 wx=>∃f:Nat,f+gg=n/\s6=.int .i64 f/\Hid (∀a',a'<f->¬jt b a' a false)/\w=wx)
  case atStart=>exact⟨0,by omega,rfl,λa' h=>by omega,rfl⟩
  case round =>
   obtain⟨f,hf,rfl,HF,rfl⟩:=hrel;by_cases A6:(a:Int)<=(n:Int)-(f:Int)
   ·have A0:f+a<=n:=by omega
    have A1:a<=65536:=by omega
    go_wp2;go_loopg [6,7] a (λg2 s6 s7 wy=>∃x:Int,x+1=(g2:Int)/\g2<=a/\s6=.int .i64 f/\s7=.int .i64 x/\Hid (∀i,g2<=i->i<a->b (f+i)=false)/\w=wy)
    case atStart=>exact⟨(a:Int)-1,by omega,Nat.le_refl _,rfl,rfl,λi h1 h2=>by omega,rfl⟩
    case round =>
     obtain⟨x,hx,A7,rfl,rfl,HB,rfl⟩:=hrel;cases gk with
     | zero =>
      obtain rfl:x=-1:=by omega
      clear hx;go_wp2
      try rw[Exit.noGoto_ret]
      go_ret2;exact⟨⟨some f,.inr ⟨by omega,A0,λi hi=>HB.out i (Nat.zero_le _) hi,HF.out⟩,rfl⟩,rfl⟩
     | succ r =>
      obtain rfl:x=(r:Int):=by omega
      have A2:f+r<n:=by omega
      have HC:=zh (zzl m g n b w HH (f+r) A2);rw[show((f+r:Nat):Int)=(f:Int)+(r:Int) from by simp] at HC;have A8:(0:Int)<=(r:Int):=by omega
      clear hx;cases hb:b (f+r)
      ·rw[hb] at HC
       have A3:Hid (∀i,r<=i->i<a->b (f+i)=false):=λi h1 h2=>by
        by_cases hi:i=r
        ·subst hi;exact hb
        ·exact HB.out i (by omega) h2
       clear hb HB;go_wp2_with (go_at_call 158;go_call HC as e w' ⟨rfl,rfl⟩);go_roundg r
       case measure=>omega
       case rel=>exact⟨(r:Int)-1,by omega,by omega,rfl,rfl,A3,rfl⟩
      ·rw[hb] at HC
       have A4:Hid (∀a',a'<f+r+1->¬jt b a' a false):=λa' h1 h2=>by
        by_cases hi:a'<f
        ·exact HF a' hi h2
        ·have:=h2 (f+r-a') (by omega);rw[show a'+(f+r-a')=f+r from by omega,hb] at this;cases this
       clear hb HB;go_wp2_with (go_at_call 158;go_call HC as e w' ⟨rfl,rfl⟩);go_roundg (n-(f+r+1))
       case measure=>omega
       case rel=>exact⟨f+r+1,by omega,by go_num,A4,rfl⟩
   ·go_wp2
    try rw[Exit.noGoto_ret]
    go_ret2;exact⟨⟨none,.inr ⟨by omega,λa' h=>HF.out a' (by rw[Int.toNat_natCast] at h;omega)⟩,rfl⟩,rfl⟩
instance(b:Nat->Bool)(f k:Nat)(v:Bool):Decidable (jt b f k v):=by unfold jt;exact inferInstance
def ze1(n:Nat)(f q:Int):Prop:=1<=q/\0<=f/\f+q<=n
instance(n:Nat)(f q:Int):Decidable (ze1 n f q):=by unfold ze1;exact inferInstance
def zqx(b:Nat->Bool)(n:Nat)(f q:Int)(was:Bool)(no:Int):Int:=if ze1 n f q then(if jt b f.toNat q.toNat was then 0 else no) else 2
def zqy(b:Nat->Bool)(n:Nat)(f q:Int)(was:Bool):Nat->Bool:=if ze1 n f q/\jt b f.toNat q.toNat was then jx b f.toNat q.toNat (!was) else b
def gz(m g n:Nat)(b:Nat->Bool)(f q:Int)(was:Bool)(no:Int)(w:World)(e:Ending)(w':World):Prop :=
 e=.returned (.int .i64 (zqx b n f q was no))/\zaw w' m g n (zqy b n f q was)/\Upd [g] w w'
theorem zzz(x m:Nat)(hx:x<18446744073709551616)(hm:m<18446744073709551616):bits .xor .u64 (x:Int) (m:Int)=((x ^^^ m:Nat):Int):=by
 have ha:(BitVec.ofInt 64 (x:Int)).toNat=x:=by rw[BitVec.toNat_ofInt];omega
 have hb:(BitVec.ofInt 64 (m:Int)).toNat=m:=by rw[BitVec.toNat_ofInt];omega
 have key:(BitVec.ofInt 64 (x:Int) ^^^ BitVec.ofInt 64 (m:Int)).toNat=x ^^^ m:=by rw[BitVec.toNat_xor,ha,hb]
 have hl:x ^^^ m<2 ^ 64:=Nat.xor_lt_two_pow (by omega) (by omega);show IntKind.u64.wrap ((BitVec.ofInt 64 (x:Int) ^^^ BitVec.ofInt 64 (m:Int)).toNat:Nat)=((x ^^^ m:Nat):Int)
 rw[key,IntKind.wrap_u64];omega
theorem zq1(m g n:Nat)(b:Nat->Bool)(w:World)(h:zaw w m g n b)(f q:Int)(was:Bool)(no:Int)(A1:-9223372036854775808<=f)(A2:f<=9223372036854775807)(A3:q<=9223372036854775807)(A0:¬ze1 n f q) :
 Calls prog 157 #[.pointer (some ⟨m,0,none⟩),.int .i64 f,.int .i64 q,.bool was,.int .i64 no] w λe w'=>e=.returned (.int .i64 2)/\w=w':=by
 have k0:=h.head.cell (i:=0) rfl;have A4:=h.small;unfold ze1 at A0;clear h;by_cases h1:q<1
 ·clear A0;go_enter func157,ntmps157;go_wp2;go_ret;exact⟨rfl,rfl⟩
 ·by_cases h2:f<0
  ·clear A0;go_enter func157,ntmps157;go_wp2;go_ret;exact⟨rfl,rfl⟩
  ·obtain⟨F,rfl⟩:=Int.eq_ofNat_of_zero_le (show 0<=f from by omega);by_cases h3:n<F
   ·clear A0;go_enter func157,ntmps157;go_wp2;go_ret;exact⟨rfl,rfl⟩
   ·have h4:(n:Int)-(F:Int)<q:=by omega
    clear A0;go_enter func157,ntmps157;go_wp2;go_ret;exact⟨rfl,rfl⟩
theorem znl(m g n:Nat)(b:Nat->Bool)(w:World)(h:zaw w m g n b)(F Q:Nat)(was:Bool)(no:Int)(h1:1<=Q)(h2:F+Q<=n) :
 Calls prog 157 #[.pointer (some ⟨m,0,none⟩),.int .i64 F,.int .i64 Q,.bool was,.int .i64 no] w λe w'=>(jt b F Q was/\e=.returned (.int .i64 0)/\zaw w' m g n (jx b F Q (!was))/\Upd [g] w w')\/(¬jt b F Q was/\e=.returned (.int .i64 no)/\w=w'):=by
 have k0:=h.head.cell (i:=0) rfl;have B1:=h.small;have HH:=zh h;have h5:¬(n:Int)-(F:Int)<(Q:Int):=by omega
 have h6:(Q:Int)<=(n:Int)-(F:Int):=by omega
 have q1:((Q:Int)<1)=False:=eq_false (by omega);have q2:((F:Int)<0)=False:=eq_false (by omega);clear h;go_enter func157,ntmps157;go_wp2;go_loop [43] (λi=>∃k:Nat,k<=Q/\i=.int .i64 k/\Hid (jt b F k was)) (λi=>Q-(intOf i).toNat)
 case atStart=>exact⟨0,Nat.zero_le _,rfl,λi hi=>by omega⟩
 case round =>
  obtain⟨k,hk,rfl,hr⟩:=hrel;by_cases A2:k<Q
  ·have HC:=zh (zzl m g n b w HH.out (F+k) (by omega));rw[show((F+k:Nat):Int)=(F:Int)+(k:Int) from by simp] at HC;by_cases hb:b (F+k)=was
   ·have B2:Hid (jt b F (k+1) was):=λi hi=>by
     by_cases B3:i=k
     ·subst B3;exact hb
     ·exact hr.out i (by omega)
    rw[hb] at HC;clear hr hb;cases was
    all_goals
     go_wp2_with (go_at_call 158;go_call HC.out as e w' ⟨rfl,rfl⟩);go_round
     case rel=>exact⟨k+1,by omega,by go_num,B2⟩
     case measure=>simp[intOf];omega
   ·have HF:=zh (show ¬jt b F Q was from λh=>hb (h k A2));have A7:b (F+k) = !was:=by cases hx:b (F+k)<;>cases was<;>simp_all
    rw[A7] at HC;clear hr hb A7;cases was
    all_goals
     go_wp2_with (go_at_call 158;go_call HC.out as e w' ⟨rfl,rfl⟩);go_ret;exact .inr ⟨HF.out,rfl,rfl⟩
  ·obtain rfl:k=Q:=by omega
   clear A2 hk;go_wp2;go_loopw [56] (λi wr=>∃j:Nat,j<=k/\i=.int .i64 j/\Hid (zaw wr m g n (jx b F j (!was)))/\Hid (Upd [g] w wr)) (λi _=>k-(intOf i).toNat)
   case atStart=>exact⟨0,Nat.zero_le _,rfl,by rw[z34];exact HH.out,Upd.refl _ _⟩
   case round =>
    obtain⟨j,hj,rfl,HM,HU⟩:=hrel;by_cases A2:j<k
    ·have B4:F+j<n:=by omega
     obtain⟨b',A4⟩:=zx (jx b F j (!was));have A8:=zh (show jx b F (j+1) (!was)=zrn b' (F+j) from by rw[A4];exact zt3 (by rw[hr.out j A2];simp));rw[<-A4] at HM;clear A4;obtain⟨p,hp⟩:=zx (F+j);have B9:(F:Int)+(j:Int)=(p:Int):=by omega
     rw[<-hp] at A8 B4;have A3:p / 64<(n+63) / 64:=by omega
     have A9:p / 64<(kj b' ((n+63) / 64)).length:=by rw[zd2];exact A3
     have kc:=HM.out.data.cell (zr (k:=.u64) A9);rw[zd3 A3] at kc;have kf:=HM.out.data.free (p / 64);have k1:=HM.out.head.cell (i:=1) rfl;have hx:=zzw b' (p / 64);obtain⟨x,A5⟩:=zx (wd b' (p / 64));rw[<-A5] at kc hx;obtain⟨W,hW⟩:=zx ((n+63) / 64);rw[<-hW] at k1 A3;have B0:=zh hW;have B5:=zh A5;clear hW A5 hp A9;have C0:(0:Int)<=(p:Int) / 64:=by omega
     have C1:(p:Int) / 64<(W:Int):=by omega
     have C2:((p:Int) / 64).toNat=p / 64:=by omega
     have A0:(2:Nat) ^ (p % 64)<18446744073709551616:=by
      have:(2:Nat) ^ (p % 64)<2 ^ 64:=Nat.pow_lt_pow_right (by omega) (by omega);omega
     obtain⟨z,hz⟩:=zx (x ^^^ 2 ^ (p % 64))
     have B6:bits .xor .u64 (x:Int) (IntKind.u64.wrap (2 ^ (p % 64)))=(z:Int):=by
      rw[show(2:Int) ^ (p % 64)=((2 ^ (p % 64):Nat):Int) from by simp];generalize(2:Nat) ^ (p % 64)=P2 at *;have h1:IntKind.u64.wrap (P2:Int)=(P2:Int):=by rw[IntKind.wrap_u64];omega
      rw[h1,zzz x _ hx A0,hz]
     have HZ:=zh hz;clear hz A0;go_wp2;refine zm (λy=>y.cell? ⟨m,1,none⟩=some (.slice (some ⟨g,0,none⟩) W W)) (zp [0,1,2,3,4,5,6,8,9,10,1007,11,12,1013]) (by kernel_rfl) (by kernel_rfl) (λ_ _ _ _ _ h=>h) k1 ?_
     (repeat (refine zi rfl (λK hK=>?_);go_simp;(try go_bits);refine hK _ ?_;clear hK K))
     refine zl (.slice (some ⟨g,0,none⟩) W W) rfl rfl (λy hS=>by go_simp) ?_
     (repeat (refine zi rfl (λK hK=>?_);go_simp;(try go_bits);refine hK _ ?_;clear hK K))
     refine zj rfl ?_;go_wp2;refine⟨k1,?_⟩
     (repeat (refine zi rfl (λK hK=>?_);go_simp;(try go_bits);refine hK _ ?_;clear hK K))
     refine zj rfl ?_;go_wp2;obtain⟨w1,A1⟩:=zx ((wr.setCell ⟨g,p / 64,none⟩ (.int .u64 (z:Int))).drew);rw[<-A1];have ne:=HM.out.ne;have A6:Row w1 m 235 [.int .i64 n,.slice (some ⟨g,0,none⟩) ((n+63) / 64) ((n+63) / 64)]:=by rw[A1];exact(HM.out.head.setOther (Ne.symm ne) _).drew
     have M1:zaw w1 m g n (jx b F (j+1) (!was)):=by
      rw[A8.out];refine⟨A6,?_,λi hi=>?_,B1,ne⟩
      ·rw[zmb b' _ p (by rw[<-B0.out];exact A3),<-B5.out,<-HZ.out,List.map_set,A1];exact(HM.out.data.set _ _).drew
      ·unfold zrn;rw[if_neg (by omega)];exact HM.out.out i hi
     have U1:Upd [g] w w1:=by rw[A1];exact(HU.out.setCell (by simp) _).drew
     have k2:=A6.cell (i:=1) rfl;rw[<-B0.out] at k2;have B7:=zh M1;have B8:=zh U1;clear A1 A6 M1 U1 k1 kc kf;refine⟨k2,zo ?_⟩;go_wp2;go_roundw
     case rel=>exact⟨j+1,by omega,by go_num,B7.out,B8.out⟩
     case measure=>simp[intOf];omega
    ·obtain rfl:k=j:=by omega
     go_wp2;go_ret;exact .inl ⟨hr.out,rfl,HM.out,HU.out⟩
theorem zoy(m g n:Nat)(b:Nat->Bool)(w:World)(h:zaw w m g n b)(f q:Int)(was:Bool)(no:Int)(A1:-9223372036854775808<=f)(A2:f<=9223372036854775807)(A3:q<=9223372036854775807) :
 Calls prog 157 #[.pointer (some ⟨m,0,none⟩),.int .i64 f,.int .i64 q,.bool was,.int .i64 no] w (gz m g n b f q was no w):=by
 by_cases A0:ze1 n f q
 ·have hk:=A0;unfold ze1 at hk;obtain⟨F,rfl⟩:=Int.eq_ofNat_of_zero_le hk.2.1;obtain⟨Q,rfl⟩:=Int.eq_ofNat_of_zero_le (show 0<=q from by omega);refine(znl m g n b w h F Q was no (by omega) (by omega)).mono ?_;unfold gz zqx zqy;rw[if_pos A0,Int.toNat_natCast,Int.toNat_natCast];rintro e w' (⟨hr,rfl,h1,h2⟩|⟨hr,rfl,rfl⟩)
  ·rw[if_pos hr,if_pos ⟨A0,hr⟩];exact⟨rfl,h1,h2⟩
  ·rw[if_neg hr,if_neg (λh=>hr h.2)];exact⟨rfl,h,Upd.refl _ _⟩
 ·refine(zq1 m g n b w h f q was no A1 A2 A3 A0).mono ?_;rintro e w' ⟨rfl,rfl⟩;unfold gz zqx zqy;rw[if_neg A0,if_neg (λh=>A0 h.1)];exact⟨rfl,h,Upd.refl _ _⟩
theorem zur(m g n:Nat)(b:Nat->Bool)(w:World)(h:zaw w m g n b)(f q:Int)(A0:-9223372036854775808<=f)(A1:f<=9223372036854775807)(A2:q<=9223372036854775807) :
 Calls prog 131 #[.pointer (some ⟨m,0,none⟩),.int .i64 f,.int .i64 q] w (gz m g n b f q false 3 w):=by
 have HC:=zh (zoy m g n b w h f q false 3 A0 A1 A2);clear h;go_enter func131,ntmps131;go_wp2_with fail;go_call HC.out as e w' ⟨rfl,h1,h2⟩;have H1:=zh h1;have H2:=zh h2;clear h1 h2;go_wp2;go_ret;exact⟨rfl,H1.out,H2.out⟩
theorem zvl(m g n:Nat)(b:Nat->Bool)(w:World)(h:zaw w m g n b)(f q:Int)(A0:-9223372036854775808<=f)(A1:f<=9223372036854775807)(A2:q<=9223372036854775807) :
 Calls prog 129 #[.pointer (some ⟨m,0,none⟩),.int .i64 f,.int .i64 q] w (gz m g n b f q true 4 w):=by
 have HC:=zh (zoy m g n b w h f q true 4 A0 A1 A2);clear h;go_enter func129,ntmps129;go_wp2_with fail;go_call HC.out as e w' ⟨rfl,h1,h2⟩;have H1:=zh h1;have H2:=zh h2;clear h1 h2;go_wp2;go_ret;exact⟨rfl,H1.out,H2.out⟩
theorem zhs{w:World}{base:Nat}{e:TypeId}{size:Nat}{v:Value}{n:Nat}{xs:List Value}(h:w.ownsRow base e size v n xs)(hn:0<n) :
 ∃g c cur,v=.slice (some ⟨g,0,none⟩) n c/\base<=g/\Row w g e cur/\cur.take (n*size)=xs/\n<=c/\c<=maxLen/\cur.length=c*size:=by
 rcases h.2 with⟨_,rfl⟩|⟨g,cap,cur,rfl,hb,hg,A0,hm,hs,ht⟩
 ·omega
 ·exact⟨g,cap,cur.toList,rfl,hb,by unfold Row;simpa using hg,by simpa using ht,A0,hm,by simpa using hs⟩
section
open Go.RowKit Go.ChangeShapes Go.WideShapes Go.ChangeAt
theorem yn{w:World}{base base':Nat}{e:TypeId}{size:Nat}{v:Value}{n:Nat}{xs:List Value}(h:w.ownsRow base e size v n xs)(hb:base'<=base):w.ownsRow base' e size v n xs:=by
 refine⟨h.1,?_⟩;rcases h.2 with h2|⟨g,cap,cur,rfl,A0,rest⟩
 ·exact .inl h2
 ·exact .inr ⟨g,cap,cur,rfl,by omega,rest⟩
instance(b:Nat->Bool)(N n a:Nat):Decidable (qu b N n (some a)):=by unfold qu;exact inferInstance
theorem zvk(n:Nat)(w:World)(hn:n<=65536):Calls prog 111 #[.int .i64 n] w λe w'=>∃m g,e=.returned (.tuple #[.pointer (some ⟨m,0,none⟩),.int .i64 0])/\w.heap.size<=m/\w.heap.size<=g/\zaw w' m g n (λ_=>false)/\Upd [] w w':=by
 refine(z5f n w (by omega) (by omega)).mono ?_;intro e w' h;unfold zdy at h;rw[if_neg (by omega),Int.toNat_natCast] at h;exact h
end
end Go.Proofs.YtoeibiahbenpcaaGreatDoor
