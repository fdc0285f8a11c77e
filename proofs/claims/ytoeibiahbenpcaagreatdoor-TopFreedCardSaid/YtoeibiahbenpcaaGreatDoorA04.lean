/- Part. -/
import Derived.Test.YtoeibiahbenpcaaGreatDoorA03
namespace Go.Proofs.YtoeibiahbenpcaaGreatDoor
open RowKit Maps Proofs.Tryz
set_option linter.unusedVariables false
set_option maxRecDepth 99999
set_option maxHeartbeats 9000000
def z54(b:Bool):Int:=match b with|true=>0|false=>4
theorem z1j{w:World}{I:SpI}{S:SpS}(h:yu w I S)(p n s:Int)(hx:zni (p,n,s)) :
 Calls prog 123 #[.pointer (some ⟨I.m,0,none⟩),.agg #[.int .i64 p,.int .i64 n,.int .i64 s]] w λe w'=>e=.returned (.int .i64 (z54 (S.f (p,n,s))))/\Below w.heap.size w w':=by
 have HH:=zh h;have HX:=zh hx;clear h hx;go_enter func123,ntmps123;obtain⟨X,hX⟩:=zx (w.heap.size);obtain⟨W,hW⟩:=zx (w.alloc (.cells #[.int .i64 p,.int .i64 n,.int .i64 s] 152));have bW:Below w.heap.size w W:=by rw[hW];exact(Below.refl _ _).alloc (Nat.le_refl _) _
 have rX:Row W X 152 [.int .i64 p,.int .i64 n,.int .i64 s]:=by rw[hW,hX];exact Row.made w _ _
 have HS:Hid (yu W I S):=HH.below bW;have A1:=zh hX;have A2:=zh bW;have HW:=zh hW;have k2:=HS.row.cell (i:=2) rfl;have x0:=rX.cell (i:=0) rfl;have x1:=rX.cell (i:=1) rfl;have x2:=rX.cell (i:=2) rfl;clear hX hW bW rX;go_wp2_with fail;rw[<-HW.out,<-A1.out];clear HW;refine zm (λz=>z.cell? ⟨I.m,2,none⟩=some (.map (some I.mp))/\z.cell? ⟨X,0,none⟩=some (.int .i64 p)/\z.cell? ⟨X,1,none⟩=some (.int .i64 n)/\z.cell? ⟨X,2,none⟩=some (.int .i64 s)/\ji z I.mp S.c S.f) (zp [0,1,2,3,4,5,6,7]) (by kernel_rfl) (by kernel_rfl) (λ_ _ _ _ _ h=>h) ⟨k2,x0,x1,x2,HS.out.lv.keep (l:=[]) (Upd.refl _ _).drew (by simp)⟩ ?_;clear k2 x0 x1 x2
 (repeat (refine zi rfl (λK hK=>?_);go_simp;(try go_bits);refine hK _ ?_;clear hK K))
 refine zl (.map (some I.mp)) rfl rfl (λx hS=>by obtain⟨s0,s1,s2,s3,s4⟩:=hS;go_simp) ?_;refine zl (.agg #[.int .i64 p,.int .i64 n,.int .i64 s]) rfl rfl (λx hS=>by obtain⟨s0,s1,s2,s3,s4⟩:=hS;go_simp) ?_
 refine za4 (.bool (S.f (p,n,s))) rfl rfl (λx hS=>by
  obtain⟨s0,s1,s2,s3,s4⟩:=hS;have h5:=s4.look HX;unfold exV at h5
  go_simp) (λK hK=>?_)
 refine hK _ ?_;clear hK K
 (repeat (refine zi rfl (λK hK=>?_);go_simp;(try go_bits);refine hK _ ?_;clear hK K))
 refine zo ?_;obtain⟨v,hv⟩:=zx (S.f (p,n,s));rw[<-hv];have bD:Below w.heap.size w W.drew:=Zd A2;generalize W.drew=wd at *;have A0:=zh bD;have HV:=zh hv;clear hv bD;cases v
 ·go_wp2;go_ret;exact⟨by rw[<-HV.out];rfl,A0.out⟩
 ·go_wp2;go_ret;exact⟨by rw[<-HV.out];rfl,A0.out⟩
theorem z0d(k:Nat):zab (xe [] k)=List.replicate 64 0:=by simp[zab,xe]
def zme(S:SpS)(F n:Nat)(s:Int):SpS:={ S with bs:=splice S.bs (64*F) (zea [] n),f:=vo ((F:Int),(n:Int),s) S.f }
theorem zzh{w:World}{I:SpI}{S:SpS}(h:yu w I S)(F n:Nat)(s:Int)(hF:F+n<=S.N)(hx:zni ((F:Int),(n:Int),s)) :
 Calls prog 132 #[.pointer (some ⟨I.m,0,none⟩),.agg #[.int .i64 F,.int .i64 n,.int .i64 s]] w λe w'=>e=.returned (.tuple #[])/\yu w' I (zme S F n s)/\Upd [I.dg,I.mp] w w':=by
 have hN:=h.dk.small;have HH:=zh h;have C1:=zh hx;have C2:=zh h.lt;clear h hx;go_enter func132,ntmps132;go_wp2;obtain⟨X,hX⟩:=zx (w.heap.size);obtain⟨W,hW⟩:=zx (w.alloc (.cells #[.int .i64 F,.int .i64 n,.int .i64 s] 152));have bW:Below w.heap.size w W:=by rw[hW];exact(Below.refl _ _).alloc (Nat.le_refl _) _
 have rX:Row W X 152 [.int .i64 F,.int .i64 n,.int .i64 s]:=by rw[hW,hX];exact Row.made w _ _
 have B0:∀k∈I.all,k<X:=by rw[hX];exact C2
 rw[<-hW,<-hX];have B1:=zh B0;have HS:Hid (yu W I S):=HH.below bW;have C9:=zh hX;have C3:=zh bW;have A0:=zh rX;clear hX hW bW rX B0;go_loopw [7] (λi wr=>∃k:Nat,k<=n/\i=.int .i64 k/\Hid (yu wr I { S with bs:=splice S.bs (64*F) (zea [] k) })/\Hid (Row wr X 152 [.int .i64 F,.int .i64 n,.int .i64 s])/\Hid (Upd [I.dg] W wr)) (λi _=>n-(intOf i).toNat)
 case atStart=>exact⟨0,Nat.zero_le _,rfl,by unfold Hid;rw[show zea [] 0=[] from rfl,zf2 _ _ (by have:=HS.out.dk.len;omega)];exact HS,A0,Upd.refl _ _⟩
 case round =>
  clear A0;obtain⟨k,hk,rfl,A1,A0,HU⟩:=hrel;have x0:=A0.cell (i:=0) rfl;by_cases C4:k<n
  ·have k0:=A1.row.cell (i:=0) rfl;go_wp2_with fail;refine zm (λz=>z.cell? ⟨I.m,0,none⟩=some (.pointer (some ⟨I.d,0,none⟩))/\z.cell? ⟨X,0,none⟩=some (.int .i64 F)) (zp [0,1,2,3,4,5,6,7,1008,1009]) (by kernel_rfl) (by kernel_rfl) (λ_ _ _ _ _ h=>h) ⟨k0,x0⟩ ?_;have A2:=zh (show wr.drew.cell? ⟨I.m,0,none⟩=some (.pointer (some ⟨I.d,0,none⟩))/\wr.drew.cell? ⟨X,0,none⟩=some (.int .i64 F) from⟨k0,x0⟩);clear k0 x0
   (repeat (refine zi rfl (λK hK=>?_);go_simp;(try go_bits);refine hK _ ?_;clear hK K))
   refine zl (.pointer (some ⟨I.d,0,none⟩)) rfl rfl (λx hS=>by obtain⟨s0,s1⟩:=hS;go_simp) ?_
   (repeat (refine zi rfl (λK hK=>?_);go_simp;(try go_bits);refine hK _ ?_;clear hK K))
   refine zl (.int .i64 F) rfl rfl (λx hS=>by obtain⟨s0,s1⟩:=hS;go_simp) ?_
   (repeat (refine zi rfl (λK hK=>?_);go_simp;(try go_bits);refine hK _ ?_;clear hK K))
   refine zj rfl ?_;obtain⟨vd,A8⟩:=zx (wr.drew);have A3:Upd [] wr vd:=by rw[A8];exact(Upd.refl _ wr).drew
   rw[<-A8] at A2 ⊢;clear A8;go_wp2;have hb:Below vd.heap.size vd (vd.alloc (.cells #[.int .i64 ((F:Int)+k)] 3)):=(Below.refl _ _).alloc (Nat.le_refl _) _;refine⟨⟨zu hb A2.out.1,zu hb A2.out.2⟩,?_⟩;have A4:yu vd I { S with bs:=splice S.bs (64*F) (zea [] k) }:=A1.out.keep A3 (by simp);have B2:=A0.out.keep A3 (by simp);have hC:=z2c _ _ _ _ _ _ _ (A4.dk.keep (l:=[]) (.of_below hb) (by simp) (by simp)) (some ⟨vd.heap.size,0,none⟩) 1 1 [(F:Int)+k] rfl (zv.madeAt rfl) (λx hx=>by cases hx;have:=A4.dk.data.lt;simp;omega) (λx hx=>by simp at hx;subst hx;show 0<=(F:Int)+k/\(F:Int)+k<(S.N:Int);omega) (by omega)
   have B3:gp (splice S.bs (64*F) (zea [] k)) [(F:Int)+k]=splice S.bs (64*F) (zea [] (k+1)):=by
    rw[<-zi3 HH.out.dk.len (by omega),z0d];show splice _ (64*((F:Int)+k).toNat) _=_
    rw[show((F:Int)+k).toNat=F+k by omega]
   have HC:=zh hC;have B4:=zh B3;have C5:=zh A4;have C6:=zh B2;have B5:=zh (A3.trans (.of_below hb));clear hC B3 hb A3 A4 B2;refine zj rfl ?_;go_wp2_with fail;go_call HC as e v ⟨rfl,hd,hu⟩;rw[B4.out] at hd;have A5:Upd [I.dg] wr v:=(B5.out.mono (by simp)).trans hu;have B6:=A1.out.write hd (A5.mono (by simp))
   have B7:X∉[I.dg]:=λhm=>by
    have:=B1.out I.dg (by simp[SpI.all]);simp at hm;omega
   have B8:=zh (A0.keep A5 B7);have B9:Hid (yu v I { S with bs:=splice S.bs (64*F) (zea [] (k+1)) }):=B6;have C7:=zh (HU.trans A5);clear hd hu A5 B6 B7 HC B4 C5 C6 B5 A2;go_wp2;refine⟨⟨B9.row.cell (i:=0) rfl,B8.cell (i:=0) rfl⟩,?_⟩;refine zo ?_;go_wp2;go_roundw
   case rel=>exact⟨k+1,by omega,by go_num,B9.out,B8.out,C7.out⟩
   case measure=>simp[intOf];omega
  ·obtain rfl:n=k:=by omega
   have x1:=A0.cell (i:=1) rfl;have x2:=A0.cell (i:=2) rfl;have k2:=A1.row.cell (i:=2) rfl;clear C4;go_wp2_with fail;refine zm (λz=>z.cell? ⟨I.m,2,none⟩=some (.map (some I.mp))/\z.cell? ⟨X,0,none⟩=some (.int .i64 F)/\z.cell? ⟨X,1,none⟩=some (.int .i64 n)/\z.cell? ⟨X,2,none⟩=some (.int .i64 s)) (zp [0,1,2,3,4,1005]) (by kernel_rfl) (by kernel_rfl) (λ_ _ _ _ _ h=>h) ⟨k2,x0,x1,x2⟩ ?_;clear k2 x0 x1 x2
   (repeat (refine zi rfl (λK hK=>?_);go_simp;(try go_bits);refine hK _ ?_;clear hK K))
   refine zl (.map (some I.mp)) rfl rfl (λx hS=>by obtain⟨s0,s1,s2,s3⟩:=hS;go_simp) ?_
   (repeat (refine zi rfl (λK hK=>?_);go_simp;(try go_bits);refine hK _ ?_;clear hK K))
   refine zl (.agg #[.int .i64 F,.int .i64 n,.int .i64 s]) rfl rfl (λx hS=>by obtain⟨s0,s1,s2,s3⟩:=hS;go_simp) ?_;refine zj rfl ?_;refine zfs rfl _ _ rfl I.mp S.c S.f rfl (A1.out.lv.keep (l:=[]) (Upd.refl _ _).drew (by simp)) ((F:Int),(n:Int),s) C1.out rfl ?_;intro v2 hl hu;have A6:Upd [I.mp] wr v2:=((Upd.refl _ _).drew).trans hu;have A9:=A1.live hl A6
   have C0:X∉[I.mp]:=λhm=>by
    have h1:=B1.out I.mp (by simp[SpI.all]);simp at hm;omega
   have A7:=A0.keep A6 C0;refine⟨⟨A9.row.cell (i:=2) rfl,A7.cell (i:=0) rfl,A7.cell (i:=1) rfl,A7.cell (i:=2) rfl⟩,?_⟩;have A2:Hid (yu v2 I (zme S F n s)):=A9;have C8:=zh A6;clear hl hu A6 A9 C0 A7;refine zo ?_;go_wp2;go_end0;refine⟨rfl,A2,?_⟩;exact((Upd.of_below C3.out).trans (HU.out.mono (by simp))).trans (C8.out.mono (by simp))
theorem zoj{w:World}{I:SpI}{S:SpS}(h:yu w I S)(p n s:Int)(hx:zni (p,n,s))(hf:S.f (p,n,s)=true) :
 Calls prog 123 #[.pointer (some ⟨I.m,0,none⟩),.agg #[.int .i64 p,.int .i64 n,.int .i64 s]] w λe w'=>e=.returned (.int .i64 0)/\Below w.heap.size w w':=by
 have:=z1j h p n s hx;rw[hf] at this;exact this
theorem yu.reading{w w':World}{I:SpI}{S:SpS}(h:yu w I S){r:Nat}(hd:yt w' I.d I.dg S.N r S.q S.bs)(u:Upd [I.d] w w'):yu w' I { S with r:=r }:=by
 have A0:=h.ne;simp[SpI.all] at A0;exact⟨h.row.keep u (by simp;omega),hd,h.bt.keep u (by simp;omega) (by simp;omega),h.lv.keep u (by simp;omega),h.ne⟩
theorem zji{F n s:Nat}(h1:F<=1000000)(h2:n<=1000000)(h3:s<=100000000):zni ((F:Int),(n:Int),(s:Int)) :=
 ⟨zc4 (by show _<=(F:Int);omega) (by show(F:Int)<=_;omega),zc4 (by show _<=(n:Int);omega) (by show(n:Int)<=_;omega),zc4 (by show _<=(s:Int);omega) (by show(s:Int)<=_;omega)⟩
theorem zsj{w:World}{a:Option Addr}{c c':Nat}{xs:List Value}(h:zv w a c xs)(hc:a=none->c'=0):zv w a c' xs:=by
 rcases h with⟨h1,-,h3⟩|h
 ·exact .inl ⟨h1,hc h1,h3⟩
 ·exact .inr h
def z2u(I:SpI)(S:SpS)(F n sz:Nat)(w:World)(e:Ending)(w':World):Prop :=
 ∃a c,e=.returned (.tuple #[.slice a sz c,.int .i64 0])/\zv w' a c (((S.bs.drop (64*F)).take sz).map (Value.int .u8))/\(∀y,a=some y->w.heap.size<=y.block)/\yu w' I { S with r:=S.r+n }/\Upd [I.d] w w'/\sz<=c
theorem zmq(bs:List Int)(F k:Nat):(bs.drop (64*F)).take (64*k)++zcd bs (F+k)=(bs.drop (64*F)).take (64*(k+1)):=by
 unfold zcd;rw[show 64*(k+1)=64*k+64 by omega,List.take_add,List.drop_drop];congr 3;omega
theorem z49{w:World}{I:SpI}{S:SpS}(h:yu w I S)(F n sz:Nat)(hF:F+n<=S.N)(C8:sz<=64*n)(hr:S.r+n<1000000)(hf:S.f ((F:Int),(n:Int),(sz:Int))=true) :
 Calls prog 86 #[.pointer (some ⟨I.m,0,none⟩),.agg #[.int .i64 F,.int .i64 n,.int .i64 sz]] w (z2u I S F n sz w):=by
 have hN:=h.dk.small;have A0:=h.dk.len;have A5:=zh A0;clear A0;obtain⟨X,hX⟩:=zx (w.heap.size);obtain⟨W,hW⟩:=zx (w.alloc (.cells #[.int .i64 F,.int .i64 n,.int .i64 sz] 152));have bW:Below w.heap.size w W:=by rw[hW];exact(Below.refl _ _).alloc (Nat.le_refl _) _
 have rX:Row W X 152 [.int .i64 F,.int .i64 n,.int .i64 sz]:=by rw[hW,hX];exact Row.made w _ _
 have B6:W.heap.size=X+1:=by rw[hW,hX];simp
 have B7:∀k∈I.all,k<X:=by rw[hX];exact h.lt
 have HS:=zh (h.below bW);have B8:=zh hX;have HW:=zh hW;have B9:=zh B6;have A6:=zh B7;have C9:=zh bW;have A1:=zh rX;have HC:=zh (zoj HS.out (F:Int) (n:Int) (sz:Int) (zji (by omega) (by omega) (by omega)) hf);clear h hX hW bW rX B7 B6 hf;go_enter func86,ntmps86;go_wp2_with fail;rw[<-HW.out,<-B8.out];clear HW;go_call HC as e w1 ⟨rfl,hb⟩;have r1:=A1.out.keep (l:=[]) (.of_below hb) (by simp);have x1:=r1.cell (i:=1) rfl;have C0:=zh (HS.below hb);have C1:Hid (Upd [I.d] W w1):=Upd.of_below hb;have C2:=zh r1;clear hb HC r1;go_wp2_with fail;go_loopw [7,19] (λo i wr=>∃k:Nat,k<=n/\i=.int .i64 k/\Hid (yu wr I { S with r:=S.r+k })/\Hid (wr.ownsRow (X+1) 5 1 o (64*k) (((S.bs.drop (64*F)).take (64*k)).map (Value.int .u8)))/\Hid (Row wr X 152 [.int .i64 F,.int .i64 n,.int .i64 sz])/\Hid (Upd [I.d] W wr)) (λ_ i _=>n-(intOf i).toNat)
 case atStart=>exact⟨0,Nat.zero_le _,rfl,C0,by unfold Hid;exact World.ownsRow_nil _ _ _ _,C2,C1⟩
 case round =>
  clear C0 C2 C1 x1;obtain⟨k,hk,rfl,A3,A7,A1,HU⟩:=hrel;by_cases D0:k<n
  ·have x0:=A1.cell (i:=0) rfl;have k0:=A3.row.cell (i:=0) rfl;go_wp2_with fail;refine zm (λz=>z.cell? ⟨I.m,0,none⟩=some (.pointer (some ⟨I.d,0,none⟩))/\z.cell? ⟨X,0,none⟩=some (.int .i64 F)) (zp [0,1,2,3,4,5,6,7,1008,9,10,11,12,13]) (by kernel_rfl) (by kernel_rfl) (λ_ _ _ _ _ h=>h) ⟨k0,x0⟩ ?_;have D1:=zh (show wr.drew.cell? ⟨I.m,0,none⟩=some (.pointer (some ⟨I.d,0,none⟩))/\wr.drew.cell? ⟨X,0,none⟩=some (.int .i64 F) from⟨k0,x0⟩);clear k0 x0
   (repeat (refine zi rfl (λK hK=>?_);go_simp;(try go_bits);refine hK _ ?_;clear hK K))
   refine zl (.pointer (some ⟨I.d,0,none⟩)) rfl rfl (λx hS=>by obtain⟨s0,s1⟩:=hS;go_simp) ?_
   (repeat (refine zi rfl (λK hK=>?_);go_simp;(try go_bits);refine hK _ ?_;clear hK K))
   refine zl (.int .i64 F) rfl rfl (λx hS=>by obtain⟨s0,s1⟩:=hS;go_simp) ?_
   (repeat (refine zi rfl (λK hK=>?_);go_simp;(try go_bits);refine hK _ ?_;clear hK K))
   refine zj rfl ?_;have A8:=z4q _ _ _ _ _ _ wr.drew (A3.out.dk.keep (l:=[]) (Upd.refl _ _).drew (by simp) (by simp)) (by show S.r+k<1000000;omega) (F+k) (by show F+k<S.N;omega);rw[Int.natCast_add] at A8;have C3:=zh A8;clear A8;go_wp2_with fail;go_call C3 as e v ⟨sv,rfl,own,hd,hu⟩;have A2:Upd [I.d] wr v:=((Upd.refl _ _).drew).trans hu
   have C4:X∉[I.d]:=λhm=>by
    have:=A6.out I.d (by simp[SpI.all]);simp at hm;omega
   have A9:Hid (yu v I { S with r:=S.r+(k+1) }):=A3.reading hd A2;have B0:=zh (A1.keep A2 C4)
   have B1:=zh (A2.owns A7 (λj hj hm=>by
    have h1:=(A7.lt j hj).1;have h2:=A6.out I.d (by simp[SpI.all]);simp at hm
    omega))
   obtain⟨sa,sc,rfl,C5,-,-⟩:=zk own;have C6:=zh C5;have B2:=zh (HU.trans A2);have B3:X+1<=v.heap.size:=by have h1:=B2.out.size;have h2:=B9.out;omega
   clear own hd hu A2 C4 C3 D1 C5;go_wp2;refine⟨⟨A9.row.cell (i:=0) rfl,B0.cell (i:=0) rfl⟩,?_⟩
   (repeat (refine zi rfl (λK hK=>?_);go_simp;(try go_bits);refine hK _ ?_;clear hK K))
   refine zo ?_;go_wp2_with (at_builtin;refine Zb rfl _ _ 26 rfl (X+1) 5 (.int .u8 0) 1 1 underlying26 zzd rfl (by decide) _ (64*k) _ rfl B1.out sa 64 sc _ rfl (by have:=A5.out;simp[zcd];omega) C6.out (jw _ _) (by unfold maxLen;omega) (by omega) B3 ?_);intro v' v2 own gr;rw[<-List.map_drop,<-List.map_take,<-List.map_append,zmq] at own;have B4:∀j,u7.ownBlock=some j->X+1<=j:=λj hj=>(B1.lt j hj).1
   have A4:Upd u7.ownBlock.toList v v2:=⟨gr.os,gr.tape,gr.output,gr.size,λj hj hn=>gr.block j hj (λe=>hn (by rw[<-e];simp))⟩
   have B5:∀j,j<=X->j∉u7.ownBlock.toList:=λj hj hm=>by
    have:=B4 j (by simpa using hm);omega
   have D2:=zh (A9.out.keep A4 (λj hj=>B5 j (by have:=A6.out j hj;omega)));have D3:=zh (B0.keep A4 (B5 X (Nat.le_refl _)))
   have D4:Hid (Upd [I.d] W v2):=Upd.new (m:=I.d::u7.ownBlock.toList) ((B2.out.mono (by simp)).trans (A4.mono (λj hj=>List.mem_cons_of_mem _ hj))) (λj hj=>by
    rcases List.mem_cons.1 hj with h1|h1
    ·exact .inl (by simp[h1])
    ·refine .inr ?_;have h2:=B4 j (by simpa using h1);have h3:=B9.out
     omega)
   have D5:Hid (v2.ownsRow (X+1) 5 1 v' (64*(k+1)) (((S.bs.drop (64*F)).take (64*(k+1))).map (Value.int .u8))):=own;clear own gr A4 B5 B4 A9 B0 B1 C6 B2;go_wp2;go_roundw
   case rel=>exact⟨k+1,by omega,by go_num,D2.out,D5.out,D3.out,D4.out⟩
   case measure=>simp[intOf];omega
  ·obtain rfl:n=k:=by omega
   have x2:=A1.cell (i:=2) rfl;obtain⟨oa,oc,rfl,C7,D8,D6⟩:=zk A7;have i1:(sz:Int)<=(oc:Int):=by omega
   clear D0;go_wp2_with fail;go_ret2
   have D7:zv wr oa sz (((S.bs.drop (64*F)).take sz).map (Value.int .u8)):=by
    have h1:=zc9 C7 sz;rw[<-List.map_take,List.take_take,Nat.min_eq_left C8] at h1
    exact zsj h1 (λh0=>by
     rcases C7 with⟨-,h2,-⟩|⟨y,h2,-⟩
     ·omega
     ·rw[h0] at h2;cases h2)
   refine⟨oa,sz,rfl,D7,λy hy=>?_,A3,(Upd.of_below C9).trans HU,Nat.le_refl _⟩;have h1:=(D6 y hy).1;have h2:=B8.out;omega
abbrev Rw4:=Nat×List Int
def rN(x:Rw4):Nat:=jl x.2.length
def rE(x:Rw4):Ext:=((x.1:Int),(rN x:Int),(x.2.length:Int))
theorem zer(x:Rw4):1<=rN x:=yi _
def Cov(L:List Rw4)(i:Nat):Prop:=∃x∈L,x.1<=i/\i<x.1+rN x
def Ap(x y:Rw4):Prop:=x.1+rN x<=y.1\/y.1+rN y<=x.1
def seg(bs:List Int)(F m:Nat):List Int:=(bs.drop (64*F)).take m
theorem zmp(bs:List Int)(F m j:Nat)(hj:j<m):(seg bs F m)[j]?=bs[64*F+j]?:=by
 unfold seg;rw[List.getElem?_take,if_pos hj,List.getElem?_drop]
theorem zmo(bs:List Int)(F m:Nat):(seg bs F m).length<=m:=by simp[seg];omega
theorem zsb{l m:List Int}{k:Nat}(h1:l.length<=k)(h2:m.length<=k)(h:∀j,j<k->l[j]?=m[j]?):l=m:=by
 apply List.ext_getElem?;intro j;by_cases hj:j<k
 ·exact h j hj
 ·rw[List.getElem?_eq_none (by omega),List.getElem?_eq_none (by omega)]
theorem zkn{bs cs:List Int}{F G m:Nat}(hb:64*G+cs.length<=bs.length)(hd:64*F+m<=64*G\/64*G+cs.length<=64*F):seg (splice bs (64*G) cs) F m=seg bs F m:=by
 refine zsb (zmo _ _ _) (zmo _ _ _) (λj hj=>?_);rw[zmp _ _ _ _ hj,zmp _ _ _ _ hj,qe _ _ _ hb];rcases hd with hd|hd
 ·rw[if_pos (by omega)]
 ·rw[if_neg (by omega),if_neg (by omega)]
theorem zwz{bs cs:List Int}{F m:Nat}(hb:64*F+cs.length<=bs.length)(hm:m<=cs.length):seg (splice bs (64*F) cs) F m=cs.take m:=by
 refine zsb (zmo _ _ _) (by simp;omega) (λj hj=>?_);rw[zmp _ _ _ _ hj,qe _ _ _ hb,if_neg (by omega),if_pos (by omega),List.getElem?_take,if_pos hj];congr 1;omega
structure zaj(S:SpS)(L:List Rw4):Prop where
 live:∀e,S.f e=true↔∃x∈L,e=rE x
 fit:∀x∈L,x.1+rN x<=S.N
 bits:∀i,S.b i=true↔Cov L i
 data:∀x∈L,seg S.bs x.1 x.2.length=x.2
 apart:L.Pairwise Ap
 byt:∀x∈L,Byt x.2
 len:S.bs.length=64*S.N
 cnt:ki S.b S.N=(L.map rN).sum
theorem zaj.new(N:Nat):zaj (zzb N) [] :=
 ⟨λe=>by simp[zzb],λx hx=>(by cases hx),λi=>by simp[zzb,Cov],λx hx=>(by cases hx),List.Pairwise.nil,λx hx=>(by cases hx),by simp[zzb],by
  show ki (λ_=>false) N=0
  rw[zek];rfl⟩
theorem zaj.not_cov{S:SpS}{L:List Rw4}(h:zaj S L){F n:Nat}(hr:jt S.b F n false)(hn:1<=n){x:Rw4}(hx:x∈L):x.1+rN x<=F\/F+n<=x.1:=by
 rcases Nat.lt_or_ge F (x.1+rN x) with h1|h1
 ·rcases Nat.lt_or_ge x.1 (F+n) with h2|h2
  ·exfalso;have hp:=zer x
   obtain⟨i,A0,A1,A2,A3⟩:∃i,x.1<=i/\i<x.1+rN x/\F<=i/\i<F+n:=by
    by_cases h3:F<=x.1
    ·exact⟨x.1,by omega,by omega,by omega,by omega⟩
    ·exact⟨F,by omega,by omega,by omega,by omega⟩
   have e1:=(h.bits i).2 ⟨x,hx,A0,A1⟩;have e2:=hr (i-F) (by omega);rw[show F+(i-F)=i by omega,e1] at e2;cases e2
  ·exact .inr h2
 ·exact .inl h1
theorem zy8{x y:Rw4}(h:rE x=rE y):x.1=y.1/\x.2.length=y.2.length:=by
 unfold rE at h;simp only[Prod.mk.injEq] at h;omega
theorem zaj.add{S:SpS}{L:List Rw4}(h:zaj S L){F:Nat}{d:List Int}(hf:F+jl d.length<=S.N)(hr:jt S.b F (jl d.length) false)(hd:Byt d):zaj (zwh S F d) (L++[(F,d)]):=by
 have A0:=wj d (jl d.length);have A1:64*F+(zea d (jl d.length)).length<=S.bs.length:=by rw[A0,h.len];omega
 have A2:=fun {x:Rw4} (hx:x∈L)=>h.not_cov hr (yi _) hx
 refine⟨λe=>?_,λx hx=>?_,λi=>?_,λx hx=>?_,?_,λx hx=>?_,?_,?_⟩
 ·show zhv _ S.f e=true↔_
  unfold zhv;rw[Bool.or_eq_true,decide_eq_true_eq,h.live];constructor
  ·rintro(h1|⟨x,hx,rfl⟩)
   ·exact⟨(F,d),by simp,h1⟩
   ·exact⟨x,by simp[hx],rfl⟩
  ·rintro⟨x,hx,rfl⟩;rcases List.mem_append.1 hx with h1|h1
   ·exact .inr ⟨x,h1,rfl⟩
   ·rw[List.mem_singleton] at h1;subst h1;exact .inl rfl
 ·rcases List.mem_append.1 hx with h1|h1
  ·exact h.fit x h1
  ·rw[List.mem_singleton] at h1;subst h1;exact hf
 ·show jx S.b F (jl d.length) true i=true↔_
  unfold jx;constructor
  ·intro h1;split at h1
   ·rename_i h2
    exact⟨(F,d),by simp,h2.1,h2.2⟩
   ·obtain⟨x,hx,h3⟩:=(h.bits i).1 h1;exact⟨x,by simp[hx],h3⟩
  ·rintro⟨x,hx,h1,h2⟩;split
   ·rfl
   ·rename_i h3
    rcases List.mem_append.1 hx with h4|h4
    ·exact(h.bits i).2 ⟨x,h4,h1,h2⟩
    ·rw[List.mem_singleton] at h4;subst h4;exact absurd ⟨h1,h2⟩ h3
 ·show seg (splice S.bs (64*F) (zea d (jl d.length))) x.1 x.2.length=x.2
  rcases List.mem_append.1 hx with h1|h1
  ·have hr:=ci x.2.length;have hn:rN x=jl x.2.length:=rfl;rw[zkn A1 (by rw[A0];have:=A2 h1;omega)];exact h.data x h1
  ·rw[List.mem_singleton] at h1;subst h1;show seg _ F d.length=d
   rw[zwz A1 (by rw[A0];exact ci _)];exact zsw d (ci _)
 ·refine List.pairwise_append.2 ⟨h.apart,List.pairwise_singleton _ _,λx hx y hy=>?_⟩;rw[List.mem_singleton] at hy;subst hy;exact A2 hx
 ·rcases List.mem_append.1 hx with h1|h1
  ·exact h.byt x h1
  ·rw[List.mem_singleton] at h1;subst h1;exact hd
 ·show(splice S.bs (64*F) (zea d (jl d.length))).length=64*S.N
  rw[length_splice _ _ _ A1];exact h.len
 ·show ki (jx S.b F (jl d.length) true) S.N=_
  have h1:=zlq (v:=true) (b:=S.b) (n:=S.N) hr hf;rw[List.map_append,List.sum_append,<-h.cnt];simp at h1 ⊢;exact h1
theorem zaj.cut{S:SpS}{L:List Rw4}(h:zaj S L){k:Nat}{x:Rw4}(hk:L[k]?=some x){bs:List Int}(hl:bs.length=64*S.N)
 (hb:∀F m,(64*F+m<=64*x.1\/64*x.1+64*rN x<=64*F)->seg bs F m=seg S.bs F m) (c:Nat) (q r:Nat) :
 zaj { S with bs:=bs,b:=jx S.b x.1 (rN x) false,f:=vo (rE x) S.f,c:=c,q:=q,r:=r } (L.eraseIdx k):=by
 have hx:x∈L:=List.mem_of_getElem? hk;obtain⟨A7,A6⟩:=List.getElem?_eq_some_iff.1 hk
 have A0:L=L.take k++x::L.drop (k+1):=by
  rw[<-A6];simp
 have A2:∀y,y∈L.eraseIdx k↔y∈L.take k\/y∈L.drop (k+1):=λy=>by rw[List.eraseIdx_eq_take_drop_succ,List.mem_append]
 have A1:∀y,y∈L.eraseIdx k->y∈L:=λy hy=>List.mem_of_mem_eraseIdx hy
 have A3:∀y,y∈L.eraseIdx k->y.1+rN y<=x.1\/x.1+rN x<=y.1:=λy hy=>by
  have A5:=h.apart;rw[A0] at A5;obtain⟨-,h2,h3⟩:=List.pairwise_append.1 A5;rcases(A2 y).1 hy with h4|h4
  ·exact h3 y h4 x (by simp)
  ·exact((List.pairwise_cons.1 h2).1 y h4).symm
 have A4:jt S.b x.1 (rN x) true:=λi hi=>(h.bits _).2 ⟨x,hx,by omega,by omega⟩
 refine⟨λe=>?_,λy hy=>h.fit y (A1 y hy),λi=>?_,λy hy=>?_,h.apart.sublist (List.eraseIdx_sublist _ _),λy hy=>h.byt y (A1 y hy),hl,?_⟩
 ·show vo _ S.f e=true↔_
  unfold vo;rw[Bool.and_eq_true,Bool.not_eq_true',decide_eq_false_iff_not,h.live];constructor
  ·rintro⟨h1,y,hy,rfl⟩;refine⟨y,(A2 y).2 ?_,rfl⟩;rw[A0] at hy;rcases List.mem_append.1 hy with h2|h2
   ·exact .inl h2
   ·rcases List.mem_cons.1 h2 with rfl|h2
    ·exact absurd rfl h1
    ·exact .inr h2
  ·rintro⟨y,hy,rfl⟩;refine⟨λe=>?_,y,A1 y hy,rfl⟩;have h1:=(zy8 e).1;have h2:=A3 y hy;have h3:=zer x;have h4:=zer y;omega
 ·show jx S.b x.1 (rN x) false i=true↔_
  unfold jx;constructor
  ·intro h1;split at h1
   ·cases h1
   ·rename_i h2
    obtain⟨y,hy,h3⟩:=(h.bits i).1 h1;refine⟨y,(A2 y).2 ?_,h3⟩;rw[A0] at hy;rcases List.mem_append.1 hy with h4|h4
    ·exact .inl h4
    ·rcases List.mem_cons.1 h4 with rfl|h4
     ·exact absurd h3 h2
     ·exact .inr h4
  ·rintro⟨y,hy,h1,h2⟩;have h3:=A3 y hy;rw[if_neg (by omega)];exact(h.bits i).2 ⟨y,A1 y hy,h1,h2⟩
 ·show seg bs y.1 y.2.length=y.2
  have h3:=A3 y hy;have hr:=ci y.2.length;have hn:rN y=jl y.2.length:=rfl;rw[hb _ _ (by omega)];exact h.data y (A1 y hy)
 ·show ki (jx S.b x.1 (rN x) false) S.N=_
  have h1:=zlq (v:=false) (b:=S.b) (n:=S.N) A4 (h.fit x hx);rw[h.cnt] at h1
  have h2:(L.map rN).sum=((L.eraseIdx k).map rN).sum+rN x:=by
   conv=>lhs;rw[A0]
   rw[List.eraseIdx_eq_take_drop_succ];simp;omega
  simp at h1;omega
theorem zaj.wipe{S:SpS}{L:List Rw4}(h:zaj S L){k:Nat}{x:Rw4}(hk:L[k]?=some x) :
 zaj (zme { S with b:=jx S.b x.1 (rN x) false } x.1 (rN x) (x.2.length:Int)) (L.eraseIdx k):=by
 have hf:=h.fit x (List.mem_of_getElem? hk);have A0:=wj [] (rN x);have A1:64*x.1+(zea [] (rN x)).length<=S.bs.length:=by rw[A0,h.len];omega
 exact h.cut hk (bs:=splice S.bs (64*x.1) (zea [] (rN x))) (by rw[length_splice _ _ _ A1];exact h.len) (λF m hd=>zkn A1 (by rw[A0];exact hd)) S.c S.q S.r
end Go.Proofs.YtoeibiahbenpcaaGreatDoor
