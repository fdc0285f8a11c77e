/- Part. -/
import Derived.Test.YtoeibiahbenpcaaGreatDoorA06
import Derived.Test.YtoeibiahbenpcaaGreatDoorA19
import Derived.Test.YtoeibiahbenpcaaGreatDoorA21
namespace Go.Proofs.YtoeibiahbenpcaaGreatDoor
open RowKit Maps Proofs.Tryz
set_option linter.unusedVariables false
set_option maxRecDepth 99999
set_option maxHeartbeats 9000000
def Ob.enc(o:Ob):List Int:=zfh o.cls o.kind o.W o.B
theorem Ob.enc_len(o:Ob):o.enc.length=12+4*o.W.length+o.B.length:=zat _ _ _ _
theorem Ob.good.enc_len{o:Ob}(h:o.good):o.enc.length<=4012:=by
 rw[o.enc_len];rcases h.kinds with⟨_,h2,h3,_⟩|⟨_,h2,h3,_⟩<;>simp[h2]<;>omega
theorem Ob.good.enc_byt{o:Ob}(h:o.good):Byt o.enc:=zxu h.2
def obN(o:Ob):Nat:=jl o.enc.length
def exT(F:Nat->Nat)(i:Nat)(o:Ob):Value:=exA (F i) (obN o) o.enc.length
def kvT(F:Nat->Nat)(T:Tb):List KV:=T.map (λp=>((p.1:Int),exT F p.1 p.2))
def za0(F:Nat->Nat)(T:Tb):List Rw4:=T.map (λp=>(F p.1,p.2.enc))
theorem zi6(F:Nat->Nat)(T:Tb):(kvT F T).length=T.length:=by simp[kvT]
def lookI(T:Tb)(x:Int):Option Ob:=if 0<=x then zt T x.toNat else none
theorem je(T:Tb)(i:Nat):lookI T (i:Int)=zt T i:=by unfold lookI;rw[if_pos (by omega),Int.toNat_natCast]
theorem zbd(F:Nat->Nat)(T:Tb)(x:Int):zw (kvT F T) x=(lookI T x).map (exT F x.toNat):=by
 unfold lookI;induction T with
 | nil=>unfold kvT zw zt;simp
 | cons p T ih =>
  unfold kvT zw zt at ih ⊢;simp only[List.map_cons,List.find?_cons];by_cases h:(p.1:Int)=x
  ·subst h;simp
  ·simp only[h,decide_false];rw[ih];by_cases hx:0<=x
   ·have:¬p.1=x.toNat:=by omega
    simp only[hx,if_true,this,decide_false]
   ·simp only[hx,if_false]
theorem zi5{F:Nat->Nat}{T:Tb}(h:qm T):jh (kvT F T):=by
 unfold jh kvT;rw[List.pairwise_map];exact h.imp (fun {a b} A0=>by simp only;omega)
structure qy where
 s:Nat
 mp:Nat
 E:SpI
def qy.all(I:qy):List Nat:=I.s::I.mp::I.E.all
structure Zn(w:World)(I:qy)(T:Tb)(made U N:Nat)(F:Nat->Nat):Prop where
 row:Row w I.s 125 [.pointer (some ⟨I.E.m,0,none⟩),.map (some I.mp),.int .i64 made]
 map:qi w I.mp (kvT F T)
 sp:SG w I.E (za0 F T) N 0
 rise:qm T
 ids:∀p∈T,1<=p.1/\p.1<=made
 good:∀p∈T,p.2.good
 few:made<=1000000
 ne:I.all.Nodup
 top:∀p∈T,F p.1+obN p.2<=U
theorem Zn.keep{w w':World}{I:qy}{T:Tb}{made U N:Nat}{F:Nat->Nat}(h:Zn w I T made U N F){l:List Nat}(u:Upd l w w')(hl:∀k∈I.all,k∉l):Zn w' I T made U N F :=
 ⟨h.row.keep u (hl _ (by simp[qy.all])),h.map.keep u (hl _ (by simp[qy.all])),h.sp.keep u (λk hk=>hl k (by simp[qy.all,hk])),h.rise,h.ids,h.good,h.few,h.ne,h.top⟩
theorem Zn.below{w w':World}{I:qy}{T:Tb}{made U N:Nat}{F:Nat->Nat}(h:Zn w I T made U N F)(hb:Below w.heap.size w w'):Zn w' I T made U N F:=h.keep (l:=[]) (.of_below hb) (by simp)
theorem Zn.lt{w:World}{I:qy}{T:Tb}{made U N:Nat}{F:Nat->Nat}(h:Zn w I T made U N F):∀k∈I.all,k<w.heap.size:=λk hk=>by
 simp only[qy.all,List.mem_cons] at hk;rcases hk with rfl|rfl|hk
 ·exact h.row.lt
 ·exact h.map.lt
 ·exact h.sp.lt k hk
theorem Zn.len{w:World}{I:qy}{T:Tb}{made U N:Nat}{F:Nat->Nat}(h:Zn w I T made U N F):T.length<=made:=by
 have h1:(T.map (·.1)).Nodup:=by
  rw[List.nodup_iff_pairwise_ne,List.pairwise_map];exact h.rise.imp (fun {a b} A0=>by omega)
 have h2:=Z4 (l:=T.map (·.1)) (m:=(List.range made).map (· + 1)) h1 (λx hx=>by
  rw[List.mem_map] at hx;obtain⟨p,hp,rfl⟩:=hx;have:=h.ids p hp;rw[List.mem_map]
  exact⟨p.1-1,List.mem_range.2 (by omega),by omega⟩)
 simpa using h2
theorem Zn.wf{w:World}{I:qy}{T:Tb}{made U N:Nat}{F:Nat->Nat}(h:Zn w I T made U N F):∀p∈T,wfK (p.1:Int):=λp hp=>by
 have h1:=h.ids p hp;have h2:=h.few;exact zfx (by omega)
theorem znw(w:World):(zeroValue 152).run prog w=.ok (exA 0 0 0) w:=by kernel_rfl
theorem zx2(n:Nat)(w:World)(hn:n<=20000):Calls prog 23 #[.int .i64 n] w λe w'=>∃I,e=.returned (.tuple #[.pointer (some ⟨I.s,0,none⟩),.int .i64 0])/\Zn w' I [] 0 0 n (λ_=>0)/\(∀k∈I.all,w.heap.size<=k)/\Below w.heap.size w w':=by
 have A6:=@run_makeMap prog;have HN:=zh (z6z n w hn);go_enter func23,ntmps23;go_wp2_with fail;go_call HN as e w1 ⟨E,rfl,hg,hb,A1⟩;have HG:=zh hg;have HB:=zh hb;have A2:=zh A1;clear hg hb A1 HN;go_wp2_with fail;obtain⟨w3,A0⟩:=zx (((w1.alloc (.map #[] 0)).alloc (.cells #[.pointer (some ⟨E.m,0,none⟩),.map (some w1.heap.size),.int .i64 0] 125)));rw[<-A0];go_ret2;have A3:Below w1.heap.size w1 w3:=by rw[A0];exact((Below.refl _ _).alloc (Nat.le_refl _) _).alloc (by simp) _
 have A7:=A2.out.size;have A4:=HG.out.lt;refine⟨⟨w1.heap.size+1,w1.heap.size,E⟩,rfl,⟨?_,?_,HG.out.below A3,List.Pairwise.nil,(λp hp=>by cases hp),(λp hp=>by cases hp),by decide,?_,(λp hp=>by cases hp)⟩,?_,zy A2.out A3⟩
 ·rw[A0];have:=Row.made (w1.alloc (.map #[] 0)) [.pointer (some ⟨E.m,0,none⟩),.map (some w1.heap.size),.int .i64 0] 125;simpa using this
 ·rw[A0];exact(qi.made w1).keep (m:=[]) ((Upd.refl _ _).alloc _) (by simp)
 ·have A5:E.all.Nodup:=by obtain⟨S,hs,-⟩:=HG.out;exact hs.ne
  simp only[qy.all,List.nodup_cons,List.mem_cons,not_or];exact⟨⟨by omega,λhm=>by have:=A4 _ hm;omega⟩,λhm=>by have:=A4 _ hm;omega,A5⟩
 ·intro k hk;simp only[qy.all,List.mem_cons] at hk;rcases hk with rfl|rfl|hk
  ·omega
  ·omega
  ·exact HB k hk
section
variable{w:World}{I:qy}{T:Tb}{made U N:Nat}{F:Nat->Nat}
theorem zb2(H:Zn w I T made U N F)(x:Int)(hx:wfK x)(o:Ob)(ho:lookI T x=some o) :
 Calls prog 85 #[.pointer (some ⟨I.s,0,none⟩),.int .i64 x] w λe w'=>e=.returned (.tuple #[exT F x.toNat o,.int .i64 0])/\Below w.heap.size w w':=by
 have hg:=zbd F T x;rw[ho] at hg;have HV:=zh (show(zw (kvT F T) x).getD (exA 0 0 0)=exT F x.toNat o by rw[hg];rfl);have HO:=zh (show(zw (kvT F T) x).isSome=true by rw[hg];rfl);have k1:=H.row.cell (i:=1) rfl;have A0:Hid (qi (w.alloc (.cells #[.int .i64 0,.int .i64 0,.int .i64 0] 152)) I.mp (kvT F T)):=H.map.below ((Below.refl _ _).alloc (Nat.le_refl _) _);have A1:=H.row.lt;unfold exT exA at HV ⊢;clear H hg ho;go_enter func85,ntmps85;go_wp2_with (at_lookup;refine qd A0 hx rfl _ _ 123 rfl 152 underlying123 _ (znw _) rfl rfl _ HV _ HO ?_)
 (try simp only[Exit.inBlock,Exit.then])
 refine bodyPost_ret (by rw[Z2 rfl];go_simp;rfl) rfl ?_;exact⟨rfl,((Below.refl _ w).alloc (Nat.le_refl _) _).alloc (by simp) _⟩
theorem zux(H:Zn w I T made U N F)(x:Int)(hx:wfK x)(ho:lookI T x=none) :
 Calls prog 85 #[.pointer (some ⟨I.s,0,none⟩),.int .i64 x] w λe w'=>e=.returned (.tuple #[exA 0 0 0,.int .i64 4])/\Below w.heap.size w w':=by
 have hg:=zbd F T x;rw[ho] at hg;have HV:=zh (show(zw (kvT F T) x).getD (exA 0 0 0)=exA 0 0 0 by rw[hg];rfl);have HO:=zh (show(zw (kvT F T) x).isSome=false by rw[hg];rfl);have k1:=H.row.cell (i:=1) rfl;have A0:Hid (qi (w.alloc (.cells #[.int .i64 0,.int .i64 0,.int .i64 0] 152)) I.mp (kvT F T)):=H.map.below ((Below.refl _ _).alloc (Nat.le_refl _) _);have A1:=H.row.lt;unfold exA at HV ⊢;clear H hg ho;go_enter func85,ntmps85;go_wp2_with (at_lookup;refine qd A0 hx rfl _ _ 123 rfl 152 underlying123 _ (znw _) rfl rfl _ HV _ HO ?_)
 (try simp only[Exit.inBlock,Exit.then])
 refine bodyPost_ret (by rw[Z2 rfl];go_simp;rfl) rfl ?_;exact⟨rfl,((Below.refl _ w).alloc (Nat.le_refl _) _).alloc (by simp) _⟩
theorem zfj(H:Zn w I T made U N F)(x:Int)(hx:wfK x) :
 Calls prog 54 #[.pointer (some ⟨I.s,0,none⟩),.int .i64 x] w λe w'=>e=.returned (.bool (lookI T x).isSome)/\Below w.heap.size w w':=by
 cases ho:lookI T x with
 | some o =>
  have HC:=zh (zb2 H x hx o ho);unfold exT exA at HC;clear H ho;go_enter func54,ntmps54;go_wp2_with fail;go_call HC as e w' ⟨rfl,hb⟩;have HB:=zh hb;clear hb HC;go_wp2;go_ret;exact⟨rfl,zn HB⟩
 | none =>
  have HC:=zh (zux H x hx ho);unfold exA at HC;clear H ho;go_enter func54,ntmps54;go_wp2_with fail;go_call HC as e w' ⟨rfl,hb⟩;have HB:=zh hb;clear hb HC;go_wp2;go_ret;exact⟨rfl,zn HB⟩
theorem zuv(H:Zn w I T made U N F):Calls prog 29 #[.pointer (some ⟨I.s,0,none⟩)] w λe w'=>e=.returned (.int .i64 made)/\w=w':=by
 have k2:=H.row.cell (i:=2) rfl;clear H;go_enter func29,ntmps29;go_wp2;go_ret;exact⟨rfl,rfl⟩
def zny(T:Tb):Nat:=(T.map (λp=>obN p.2)).sum
theorem zus(H:Zn w I T made U N F):Calls prog 59 #[.pointer (some ⟨I.s,0,none⟩)] w λe w'=>e=.returned (.int .i64 (zny T:Nat))/\w=w':=by
 have k0:=H.row.cell (i:=0) rfl;have hu:=z58 H.sp;have e:((za0 F T).map rN).sum=zny T:=by unfold za0 zny;rw[List.map_map];rfl
 rw[e] at hu;have HU:=zh hu;clear H hu e;go_enter func59,ntmps59;go_wp2_with fail;go_call HU as e w' ⟨rfl,rfl⟩;go_wp2;go_ret;exact⟨rfl,rfl⟩
end
section
variable{w:World}{I:qy}{T:Tb}{made U N:Nat}{F:Nat->Nat}
theorem zn3{i:Nat}{o:Ob}(h:zt T i=some o):(F i,o.enc)∈za0 F T:=by
 unfold za0;rw[List.mem_map];exact⟨(i,o),Zl h,rfl⟩
theorem Ob.good.dec{o:Ob}(h:o.good):cr o.enc/\zrq o.enc=o.cls/\zhe o.enc=o.kind/\zl6 o.enc=o.W/\zl7 o.enc=o.B:=⟨ztb h.1,zt9 h.1⟩
theorem xt(H:Zn w I T made U N F){x:Int}{o:Ob}(ho:lookI T x=some o):o.good/\zt T x.toNat=some o/\(x.toNat:Int)=x:=by
 unfold lookI at ho;split at ho
 ·next hx=>exact⟨H.good _ (Zl ho),ho,by omega⟩
 ·cases ho
def z2v(I:qy)(T:Tb)(made U N:Nat)(F:Nat->Nat)(o:Ob)(w:World)(e:Ending)(w':World):Prop :=
 ∃d:Za,e=.returned (.tuple #[d.val,.int .i64 0])/\d.ok w'/\xn w.heap.size w' d/\d.cls=o.cls/\d.kind=o.kind/\d.W=o.W/\d.B=o.B/\Zn w' I T made U N F/\Upd I.E.all w w'
theorem Zn.sub{w':World}(H:Zn w I T made U N F)(hs:SG w' I.E (za0 F T) N 0)(u:Upd I.E.all w w'):Zn w' I T made U N F:=by
 have A0:=H.ne;simp only[qy.all,List.nodup_cons,List.mem_cons,not_or] at A0;exact⟨H.row.keep u A0.1.2,H.map.keep u A0.2.1,hs,H.rise,H.ids,H.good,H.few,H.ne,H.top⟩
theorem zb1(H:Zn w I T made U N F)(x:Int)(hx:wfK x)(o:Ob)(ho:lookI T x=some o) :
 Calls prog 37 #[.pointer (some ⟨I.s,0,none⟩),.int .i64 x] w (z2v I T made U N F o w):=by
 obtain⟨B5,B6,C7⟩:=xt H ho;obtain⟨X,hX⟩:=zx (w.heap.size);obtain⟨W,hW⟩:=zx (w.alloc (.cells #[.int .i64 0,.int .i64 0,.slice none 0 0,.slice none 0 0] 28));have bW:Below w.heap.size w W:=by rw[hW];exact(Below.refl _ _).alloc (Nat.le_refl _) _
 have rX:Row W X 28 [.int .i64 0,.int .i64 0,.slice none 0 0,.slice none 0 0]:=by rw[hW,hX];exact Row.made w _ _
 have B7:∀k∈I.all,k<X:=by rw[hX];exact H.lt
 have HS:Hid (Zn W I T made U N F):=H.below bW;have HC:=zh (zb2 HS x hx o ho);have HX:=zh hX;have HW:=zh hW;have C8:=zh bW;have C9:=zh rX;have A9:=zh B7;have B0:=zh B5;have B1:=zh (zn3 (F:=F) B6);have E0:X<W.heap.size:=rX.lt;unfold exT exA at HC;clear H hX hW bW rX B7 ho B5 B6 C7;go_enter func37,ntmps37;go_wp2_with fail;rw[<-HW.out,<-HX.out];go_call HC as e w1 ⟨rfl,hb⟩;obtain⟨p,hp⟩:=zx (w1.heap.size);obtain⟨W2,A6⟩:=zx (w1.alloc (.cells #[.int .i64 (F x.toNat),.int .i64 (obN o),.int .i64 o.enc.length] 152));have b2:Below W.heap.size W W2:=by rw[A6];exact zn hb
 have rp:Row W2 p 152 [.int .i64 (F x.toNat),.int .i64 (obN o),.int .i64 o.enc.length]:=by rw[A6,hp];exact Row.made w1 _ _
 have E1:X<p:=by have:=hb.size;omega
 have B2:Hid (Zn W2 I T made U N F):=HS.below b2;have HP:=zh hp;have D0:=zh A6;have B3:=zh b2;have D1:=zh rp;have k0:=B2.row.cell (i:=0) rfl;have x0:=rp.cell (i:=0) rfl;have x1:=rp.cell (i:=1) rfl;have x2:=rp.cell (i:=2) rfl;clear HC hb hp A6 b2 rp HW;go_wp2_with fail;rw[<-D0.out,<-HP.out];refine zm (λz=>z.cell? ⟨I.s,0,none⟩=some (.pointer (some ⟨I.E.m,0,none⟩))/\z.cell? ⟨p,0,none⟩=some (.int .i64 (F x.toNat))/\z.cell? ⟨p,1,none⟩=some (.int .i64 (obN o))/\z.cell? ⟨p,2,none⟩=some (.int .i64 o.enc.length)) (zp [0,1,2,3,4,1005,6,7,8,9,10]) (by kernel_rfl) (by kernel_rfl) (λ_ _ _ _ _ h=>h) ⟨k0,x0,x1,x2⟩ ?_;clear k0 x0 x1 x2
 (repeat (refine zi rfl (λK hK=>?_);go_simp;(try go_bits);refine hK _ ?_;clear hK K))
 refine zl (.pointer (some ⟨I.E.m,0,none⟩)) rfl rfl (λx hS=>by obtain⟨s0,s1,s2,s3⟩:=hS;go_simp) ?_
 (repeat (refine zi rfl (λK hK=>?_);go_simp;(try go_bits);refine hK _ ?_;clear hK K))
 refine zl (.agg #[.int .i64 (F x.toNat),.int .i64 (obN o),.int .i64 o.enc.length]) rfl rfl (λx hS=>by obtain⟨s0,s1,s2,s3⟩:=hS;go_simp) ?_
 (repeat (refine zi rfl (λK hK=>?_);go_simp;(try go_bits);refine hK _ ?_;clear hK K))
 refine zj rfl ?_;have hG:=z60 (B2.sp.below (w':=W2.drew) (Zd (Below.refl _ W2))) B1;have B8:rN (F x.toNat,o.enc)=obN o:=rfl;unfold exA at hG;simp only[B8] at hG;have HG:=zh hG;clear hG B8;go_wp2_with fail;go_call HG as e w3 ⟨a,c,rfl,hr,D2,hs,hu,hc⟩;have A1:Upd I.E.all W2 w3:=(Upd.of_below (Zd (Below.refl _ W2))).trans hu;have B9:Hid (Zn w3 I T made U N F):=B2.sub hs A1;have C0:p∉I.E.all:=λhm=>by have:=A9.out p (by simp[qy.all,hm]);omega
 have C1:X∉I.E.all:=λhm=>by have:=A9.out X (by simp[qy.all,hm]);omega
 have A0:=zh (D1.keep A1 C0);have A2:=zh ((C9.out.keep (l:=[]) (.of_below B3.out) (by simp)).keep A1 C1);have C2:=zh A1;have D3:=zh hr;have D4:=zh hc;clear hr D2 hs hu A1 hc C0 C1 HG;go_wp2;refine⟨⟨B9.row.cell (i:=0) rfl,A0.cell (i:=0) rfl,A0.cell (i:=1) rfl,A0.cell (i:=2) rfl⟩,?_⟩
 (repeat (refine zi rfl (λK hK=>?_);go_simp;(try go_bits);refine hK _ ?_;clear hK K))
 refine zo ?_;have hD:=zyj a o.enc.length c o.enc w3 rfl D3.out B0.out.enc_byt D4.out (by have:=B0.out.enc_len;omega);have HD:=zh hD;clear hD;go_wp2_with fail;go_call HD as e w4 ⟨A7,hd⟩;obtain⟨C3,q1,q2,q3,q4⟩:=B0.out.dec;rcases hd with⟨_,d,rfl,C4,A3,d1,d2,d3,d4⟩|⟨D5,_⟩
 ·rw[q1] at d1;rw[q2] at d2;rw[q3] at d3;rw[q4] at d4;have D6:=zh C4;have C5:=zh A3;have A8:=zh (And.intro d1 (And.intro d2 (And.intro d3 d4)));have D7:=zh A7;have D8:=zh (B9.below A7);have r4:=A2.out.keep (l:=[]) (.of_below A7) (by simp);have D9:=zh r4;have f0:=r4.free 0;have f1:=r4.free 1;have f2:=r4.free 2;have f3:=r4.free 3;have y0:=r4.cell (i:=0) rfl;have y1:=r4.cell (i:=1) rfl;have y2:=r4.cell (i:=2) rfl;have y3:=r4.cell (i:=3) rfl;have E2:X<w3.heap.size:=A2.out.lt;clear C3 q1 q2 q3 q4 C4 A3 d1 d2 d3 d4 A7 r4 HD;have C6:d.val=.agg #[.int .i64 d.cls,.int .i64 d.kind,.slice d.wa d.wn d.wc,.slice d.ba d.bn d.bc]:=rfl;rw[C6];clear C6;go_wp2_with fail;obtain⟨v,hv⟩:=zx ((((w4.setCell ⟨X,0,none⟩ (.int .i64 d.cls)).setCell ⟨X,1,none⟩ (.int .i64 d.kind)).setCell ⟨X,2,none⟩ (.slice d.wa d.wn d.wc)).setCell ⟨X,3,none⟩ (.slice d.ba d.bn d.bc));have A4:Row v X 28 [.int .i64 d.cls,.int .i64 d.kind,.slice d.wa d.wn d.wc,.slice d.ba d.bn d.bc]:=by rw[hv];exact(((D9.set 0 _).set 1 _).set 2 _).set 3 _
  have u5:Upd [X] w4 v:=by rw[hv];exact((((Upd.refl [X] w4).setCell (by simp) _).setCell (by simp) _).setCell (by simp) _).setCell (by simp) _
  rw[<-hv];have A5:=zh u5;clear hv u5 y0 y1 y2 y3 f0 f1 f2 f3;have z0:=A4.cell (i:=0) rfl;have z1:=A4.cell (i:=1) rfl;have z2:=A4.cell (i:=2) rfl;have z3:=A4.cell (i:=3) rfl;clear A4
  (try simp only[Exit.inBlock,Exit.then])
  refine bodyPost_ret (by rw[Z2 rfl];go_simp;rfl) rfl ?_;have hX:=HX.out;have s3:=C2.out.size;have s2:=B3.out.size
  have B4:d.ok v:=by
   have ok:=D6.out;have ow:=C5.out;refine⟨ok.c0,ok.k0,ok.wl,ok.wm,yy ok.wr A5 (λh0 y hy=>?_),ok.wi,ok.bl,ok.bm,yy ok.br A5 (λh0 y hy=>?_),ok.bb⟩
   ·have:=(ow.1.lt y.block (by rw[hy];rfl)).1;simp;omega
   ·have:=(ow.2.lt y.block (by rw[hy];rfl)).1;simp;omega
  refine⟨d,rfl,B4,(C5.out.keep A5.out (λk hk=>by simp at hk;omega)).mono (by omega),A8.out.1,A8.out.2.1,A8.out.2.2.1,A8.out.2.2.2,D8.out.keep A5.out (λk hk hm=>by have:=A9.out k hk;simp at hm;omega),?_⟩;refine Upd.new (m:=X::I.E.all) ((((Upd.of_below (C8.out)).trans (.of_below B3.out)).trans (C2.out.mono (λk hk=>List.mem_cons_of_mem _ hk))).trans ((Upd.of_below D7.out).trans (A5.out.mono (by simp)))) (λk hk=>?_);rcases List.mem_cons.1 hk with h1|h1
  ·exact .inr (by omega)
  ·exact .inl h1
 ·exact absurd C3 D5
end
theorem zaj.perm{S:SpS}{L L':List Rw4}(h:zaj S L)(hp:L.Perm L'):zaj S L':=by
 refine⟨λe=>?_,λx hx=>h.fit x (hp.mem_iff.2 hx),λi=>?_,λx hx=>h.data x (hp.mem_iff.2 hx),?_,λx hx=>h.byt x (hp.mem_iff.2 hx),h.len,?_⟩
 ·rw[h.live];exact⟨λ⟨x,hx,e⟩=>⟨x,hp.mem_iff.1 hx,e⟩,λ⟨x,hx,e⟩=>⟨x,hp.mem_iff.2 hx,e⟩⟩
 ·rw[h.bits];exact⟨λ⟨x,hx,e⟩=>⟨x,hp.mem_iff.1 hx,e⟩,λ⟨x,hx,e⟩=>⟨x,hp.mem_iff.2 hx,e⟩⟩
 ·exact(hp.pairwise_iff (fun {a b} A0=>A0.symm)).1 h.apart
 ·rw[h.cnt];exact(hp.map rN).sum_nat
theorem SG.perm{w:World}{I:SpI}{L L':List Rw4}{N k:Nat}(h:SG w I L N k)(hp:L.Perm L'):SG w I L' N k:=by
 obtain⟨S,h1,h2,h3⟩:=h;exact⟨S,h1,h2.perm hp,h3⟩
theorem zww{α:Type}{l:List α}{j:Nat}(x:α)(hj:j<l.length):(l.eraseIdx j++[x]).Perm (l.set j x):=by
 rw[List.eraseIdx_eq_take_drop_succ,List.set_eq_take_append_cons_drop,if_pos hj,List.append_assoc];refine List.Perm.append_left _ ?_;exact List.perm_append_comm
theorem zz6{T:Tb}(hr:qm T){i j:Nat}{o:Ob}(hj:T[j]?=some (i,o))(o':Ob):zj4 T i o'=T.set j (i,o'):=by
 apply List.ext_getElem?;intro k;have A0:=(List.getElem?_eq_some_iff.1 hj).1;unfold zj4;rw[List.getElem?_map,List.getElem?_set];by_cases hk:j=k
 ·subst hk;rw[hj];simp[A0]
 ·rw[if_neg hk];cases hp:T[k]? with
  | none=>rfl
  | some p =>
   have A1:=(List.getElem?_eq_some_iff.1 hp).1;have e1:=(List.getElem?_eq_some_iff.1 hj).2;have e2:=(List.getElem?_eq_some_iff.1 hp).2
   have A3:p.1≠i:=by
    have A2:=List.pairwise_iff_getElem.1 hr;rcases Nat.lt_or_ge j k with h1|h1
    ·have:=A2 j k A0 A1 h1;rw[e1,e2] at this;simp only at this;omega
    ·have:=A2 k j A1 A0 (by omega);rw[e1,e2] at this;simp only at this;omega
   simp[A3]
theorem zw0(F:Nat->Nat)(T:Tb)(j i:Nat)(o:Ob):za0 F (T.set j (i,o))=(za0 F T).set j (F i,o.enc):=by
 unfold za0;rw[List.map_set]
theorem zim{T:Tb}{i:Nat}{o:Ob}{p:Nat×Ob}(h:p∈zj4 T i o):(p=(i,o)/\∃q∈T,q.1=i)\/p∈T:=by
 unfold zj4 at h;rw[List.mem_map] at h;obtain⟨q,hq,rfl⟩:=h;split
 ·next e=>exact .inl ⟨rfl,q,hq,e⟩
 ·exact .inr hq
section
variable{w w':World}{I:qy}{T:Tb}{made U N:Nat}{F:Nat->Nat}
theorem Zn.set(H:Zn w I T made U N F){i j:Nat}{o o':Ob}(hj:T[j]?=some (i,o))(ho:o'.good)(hl:o'.enc.length=o.enc.length)
 (hr:Row w' I.s 125 [.pointer (some ⟨I.E.m,0,none⟩),.map (some I.mp),.int .i64 made]) {l:List KV} (hm:qi w' I.mp l) (hg:∀y,zw l y=if y=(i:Int) then some (exT F i o') else zw (kvT F T) y)
 (hs:SG w' I.E ((za0 F T).eraseIdx j++[(F i,o'.enc)]) N 0):Zn w' I (zj4 T i o') made U N F:=by
 have A4:=(List.getElem?_eq_some_iff.1 hj).1;have A1:(i,o)∈T:=List.mem_of_getElem? hj;have A3:=zz6 H.rise hj o';have A2:=zkj T i o';have A0:=zko A2 H.rise
 have A5:l=kvT F (zj4 T i o'):=by
  refine zhx hm.srt (zi5 A0) (λx=>?_);rw[hg,zbd,zbd];by_cases hx:x=(i:Int)
  ·subst hx;rw[if_pos rfl,je,co,if_pos ⟨rfl,by rw[qv H.rise A1];rfl⟩,Int.toNat_natCast];rfl
  ·rw[if_neg hx];unfold lookI;split
   ·rw[co,if_neg (λh=>hx (by omega))]
   ·rfl
 refine⟨hr,by rw[<-A5];exact hm,?_,A0,λp hp=>?_,λp hp=>?_,H.few,H.ne,λp hp=>?_⟩
 ·rw[A3,zw0];exact hs.perm (zww _ (by unfold za0;rw[List.length_map];exact A4))
 ·rcases zim hp with⟨rfl,q,hq,e⟩|h
  ·have:=H.ids q hq;rw[e] at this;exact this
  ·exact H.ids p h
 ·rcases zim hp with⟨rfl,_⟩|h
  ·exact ho
  ·exact H.good p h
 ·rcases zim hp with⟨rfl,_⟩|h
  ·have:=H.top _ A1;unfold obN at this ⊢;simp only[hl] at this ⊢;exact this
  ·exact H.top p h
end
structure Is(d:Za)(o:Ob):Prop where
 cls:d.cls=o.cls
 kind:d.kind=o.kind
 W:d.W=o.W
 B:d.B=o.B
theorem Is.enc{d:Za}{o:Ob}(h:Is d o)(g:o.good):zag d=0/\zb0 d=o.enc:=by
 unfold zag zb0;rw[h.cls,h.kind,h.W,h.B,if_pos g.1,if_pos g.1];exact⟨rfl,rfl⟩
section
variable{w:World}{I:qy}{T:Tb}{made U N:Nat}{F:Nat->Nat}
theorem zia(H:Zn w I T made U N F)(x:Int)(hx:wfK x)(o o':Ob)(ho:lookI T x=some o)(d:Za)(hd:d.ok w)(hm:d.wn<=1000000)(hi:Is d o')(hg:o'.good)(hl:o'.enc.length=o.enc.length) :
 Calls prog 38 #[.pointer (some ⟨I.s,0,none⟩),.int .i64 x,d.val] w λe w'=>e=.returned (.int .i64 0)/\Zn w' I (zj4 T x.toNat o') made U N F/\Upd (I.mp::I.E.all) w w':=by
 obtain⟨D9,E0,E1⟩:=xt H ho;have C8:d.val=.agg #[.int .i64 d.cls,.int .i64 d.kind,.slice d.wa d.wn d.wc,.slice d.ba d.bn d.bc]:=rfl;obtain⟨X,hX⟩:=zx (w.heap.size);obtain⟨W,hW⟩:=zx (w.alloc (.cells #[.int .i64 d.cls,.int .i64 d.kind,.slice d.wa d.wn d.wc,.slice d.ba d.bn d.bc] 28));have bW:Below w.heap.size w W:=by rw[hW];exact(Below.refl _ _).alloc (Nat.le_refl _) _
 have rX:Row W X 28 [.int .i64 d.cls,.int .i64 d.kind,.slice d.wa d.wn d.wc,.slice d.ba d.bn d.bc]:=by rw[hW,hX];exact Row.made w _ _
 have E2:∀k∈I.all,k<X:=by rw[hX];exact H.lt
 have HS:Hid (Zn W I T made U N F):=H.below bW;have HC:=zh (zb2 HS x hx o ho);have HX:=zh hX;have HW:=zh hW;have G8:=zh bW;have E3:=zh rX;have A8:=zh E2;have G9:=zh D9;have B8:=zh hg;have HL:=zh hl;have I0:=zh E0;have I1:=zh E1;have HI:=zh hi;have E4:=zh C8;have I2:=zh (hd.below bW);have J5:X<W.heap.size:=rX.lt;rw[C8];unfold exT exA at HC;clear H hX hW bW rX E2 ho D9 E0 E1 C8 hd hi hg hl;go_enter func38,ntmps38;go_wp2_with fail;rw[<-HW.out];go_call HC as e w1 ⟨rfl,hb⟩;obtain⟨p,hp⟩:=zx (w1.heap.size);obtain⟨W2,B9⟩:=zx (w1.alloc (.cells #[.int .i64 (F x.toNat),.int .i64 (obN o),.int .i64 o.enc.length] 152));have b2:Below W.heap.size W W2:=by rw[B9];exact zn hb
 have rp:Row W2 p 152 [.int .i64 (F x.toNat),.int .i64 (obN o),.int .i64 o.enc.length]:=by rw[B9,hp];exact Row.made w1 _ _
 have J6:X<p:=by have:=hb.size;omega
 have I3:Hid (Zn W2 I T made U N F):=HS.below b2;have I4:=zh (E3.out.keep (l:=[]) (.of_below b2) (by simp));have HP:=zh hp;have E5:=zh B9;have E6:=zh b2;have I5:=zh rp;have A6:=zh (zav d W2 (I2.below b2) hm);rw[E4.out] at A6;have r1:=E3.out.keep (l:=[]) (.of_below hb) (by simp);have y0:=r1.cell (i:=0) rfl;have y1:=r1.cell (i:=1) rfl;have y2:=r1.cell (i:=2) rfl;have y3:=r1.cell (i:=3) rfl;have I6:=r1.lt;rw[<-HX.out];clear HC hb hp B9 b2 rp HW E4 r1;go_wp2_with fail;rw[<-E5.out,<-HP.out];clear E5;refine A6.mono ?_;unfold zeo;rintro e w3 ⟨v,he,C9,C0⟩;obtain⟨q1,q2⟩:=HI.enc B8;rw[q1] at he;rw[q2] at C9;subst he;obtain⟨a,c,rfl,E7,E8,E9⟩:=zk C9;have A1:=zh (I3.below C0);have A0:=zh (I5.out.keep (l:=[]) (.of_below C0) (by simp));have D0:=zh E7;have I7:=zh E9;have I8:=zh E8;have C1:=zh C0;have k0:=A1.row.cell (i:=0) rfl;have x0:=A0.cell (i:=0) rfl;have x1:=A0.cell (i:=1) rfl;have x2:=A0.cell (i:=2) rfl;clear q1 q2 C9 E7 E8 E9 C0 y0 y1 y2 y3 A6 I6;go_wp2_with fail
 refine xx (λz:World=>z.cell? ⟨I.s,0,none⟩=some (.pointer (some ⟨I.E.m,0,none⟩))/\z.cell? ⟨p,0,none⟩=some (.int .i64 (F x.toNat))/\z.cell? ⟨p,1,none⟩=some (.int .i64 (obN o))/\z.cell? ⟨p,2,none⟩=some (.int .i64 o.enc.length)) [0,1,2,3,4,5,6,7,8,9,10,11,12]
  (.load 0 (.load 1 (.load 2 (.load 3 (.load 4 (.load 5 (.two 6 10 (.load 7 (.load 8 (.load 9 (.sole 10 (.sole 11 (.load 12 .fin)))))) (.sole 6 (.load 7 (.load 8 (.load 9 (.sole 11 (.load 12 .fin))))))))))))) (by kernel_rfl) (by kernel_rfl) (λ_ _ _ _ _ h=>h) ?_
 have C2:(λz:World=>z.cell? ⟨I.s,0,none⟩=some (.pointer (some ⟨I.E.m,0,none⟩))/\z.cell? ⟨p,0,none⟩=some (.int .i64 (F x.toNat))/\z.cell? ⟨p,1,none⟩=some (.int .i64 (obN o))/\z.cell? ⟨p,2,none⟩=some (.int .i64 o.enc.length)) w3.drew:=⟨k0,x0,x1,x2⟩;clear k0 x0 x1 x2;have C1:=zh C1.drew;have A1:=zh (A1.below (Zd (Below.refl _ w3)));have D0:Hid (zv w3.drew a c (o'.enc.map (Value.int .u8))):=D0.out;have A0:Hid (Row w3.drew p 152 [.int .i64 (F x.toNat),.int .i64 (obN o),.int .i64 o.enc.length]):=A0.out;generalize w3.drew=wd at *;obtain⟨j,hj⟩:∃j,T[j]?=some (x.toNat,o):=List.getElem?_of_mem (Zl I0);have F0:(za0 F T)[j]?=some (F x.toNat,o.enc):=by unfold za0;rw[List.getElem?_map,hj];rfl
 have HJ:=zh hj;have I9:=zh F0;clear hj F0
 (repeat (refine Zj C2 rfl (λK hK=>?_);go_simp;(try go_bits);refine hK _ ?_;clear hK K))
 refine kd (.pointer (some ⟨I.E.m,0,none⟩)) C2 rfl rfl (λx hS=>by obtain⟨s0,s1,s2,s3⟩:=hS;go_simp) (λK hK=>?_);refine hK _ ?_;clear hK K;refine kd (.agg #[.int .i64 (F x.toNat),.int .i64 (obN o),.int .i64 o.enc.length]) C2 rfl rfl (λx hS=>by obtain⟨s0,s1,s2,s3⟩:=hS;go_simp) (λK hK=>?_);refine hK _ ?_;clear hK K
 (repeat (refine Zj C2 rfl (λK hK=>?_);go_simp;(try go_bits);refine hK _ ?_;clear hK K))
 have A9:∀v,Below wd.heap.size wd v->Hid (Calls prog 88 #[.pointer (some ⟨I.E.m,0,none⟩),.agg #[.int .i64 (F x.toNat),.int .i64 (obN o),.int .i64 o.enc.length],.slice a o'.enc.length c] v λe w'=>e=.returned (.tuple #[.agg #[.int .i64 (F x.toNat),.int .i64 (obN o'),.int .i64 o'.enc.length],.int .i64 0])/\SG w' I.E ((za0 F T).eraseIdx j++[(F x.toNat,o'.enc)]) N 0/\Upd I.E.all v w'):=λv hv=>by
  have J7:=G9.out.enc_len;have J0:=B8.out.enc_len
  have h:=z6x (A1.out.sp.below hv) I9.out (by show o.enc.length<=_;omega) o'.enc a o'.enc.length c rfl (by omega) B8.out.enc_byt (D0.out.below hv) I8.out (λh0 y hy hm=>by
   have h1:=(I7 y hy).1;have h2:=A8.out y.block (by simp[qy.all,hm]);have h3:=E6.out.size
   omega)
  have F1:jl o'.enc.length=rN (F x.toNat,o.enc):=by show _=jl o.enc.length;rw[HL.out]
  go_call h as e w' ⟨hu,h1⟩;rcases h1 with⟨_,rfl,hs⟩|⟨A3,_⟩|⟨A3,_⟩
  ·exact⟨rfl,hs,hu⟩
  ·exact absurd F1 A3
  ·exact absurd F1 A3
 have B0:=zh A9;clear A9
 have F2:I.s∉I.E.all/\I.mp∉I.E.all:=by
  have A3:=A1.out.ne;simp only[qy.all,List.nodup_cons,List.mem_cons,not_or] at A3;exact⟨A3.1.2,A3.2.1⟩
 have B1:=zh F2;have F3:p∉I.E.all:=λhm=>by have:=A8.out p (by simp[qy.all,hm]);omega
 have F4:=zh F3;have F5:=zh (show X<wd.heap.size by have h1:=C1.out.size;have h2:=A0.out.lt;omega);clear F2 F3;have A7:Hid (∀z:World,Row z I.s 125 [.pointer (some ⟨I.E.m,0,none⟩),.map (some I.mp),.int .i64 made]->Row z p 152 [.int .i64 (F x.toNat),.int .i64 (obN o),.int .i64 o.enc.length]->(z.cell? ⟨I.s,0,none⟩=some (.pointer (some ⟨I.E.m,0,none⟩))/\z.cell? ⟨p,0,none⟩=some (.int .i64 (F x.toNat))/\z.cell? ⟨p,1,none⟩=some (.int .i64 (obN o))/\z.cell? ⟨p,2,none⟩=some (.int .i64 o.enc.length))):=λz r1 r2=>⟨r1.cell (i:=0) rfl,r2.cell (i:=0) rfl,r2.cell (i:=1) rfl,r2.cell (i:=2) rfl⟩
 refine zfr rfl rfl ?_ ?_;go_wp2_with fail;refine(B0 wd (Below.refl _ _)).out.mono ?_;rintro e w4 ⟨rfl,hs,hu⟩;have D1:=zh hs;have D2:=zh hu;have A4:=zh (A1.row.keep hu B1.out.1);have D3:=zh (A1.map.keep hu B1.out.2);have A5:=zh (A0.keep hu F4);have F6:=zh (show wd.heap.size<=w4.heap.size from hu.size);clear hs hu;go_wp2;refine⟨A7 _ A4 A5,?_⟩;have B2:=zh (A7 _ A4 A5)
 (repeat (refine Zj B2.out rfl (λK hK=>?_);go_simp;(try go_bits);refine hK _ ?_;clear hK K))
 refine Zu rfl ?_;go_wp2_with fail;refine⟨A7 _ (A4.alloc _) (A5.alloc _),?_⟩;refine Zu rfl ?_;go_wp2_with fail;obtain⟨q,hq⟩:=zx (w4.heap.size);obtain⟨w5,A2⟩:=zx (w4.alloc (.cells #[.int .i64 (F x.toNat),.int .i64 (obN o'),.int .i64 o'.enc.length] 152));have C3:Hid (Row w5 I.s 125 [.pointer (some ⟨I.E.m,0,none⟩),.map (some I.mp),.int .i64 made]):=by rw[A2];exact A4.alloc _
 have F7:Hid (Row w5 p 152 [.int .i64 (F x.toNat),.int .i64 (obN o),.int .i64 o.enc.length]):=by rw[A2];exact A5.alloc _
 have F8:Hid (qi w5 I.mp (kvT F T)):=by rw[A2];exact D3.below (zn (Below.refl _ _))
 have F9:Hid (SG w5 I.E ((za0 F T).eraseIdx j++[(F x.toNat,o'.enc)]) N 0):=by rw[A2];exact D1.below (zn (Below.refl _ _))
 have B3:Hid (Row w5 q 152 [.int .i64 (F x.toNat),.int .i64 (obN o'),.int .i64 o'.enc.length]):=by rw[A2,hq];exact Row.made _ _ _
 have G0:Hid (Upd I.E.all wd w5):=by rw[A2];exact D2.alloc _
 have D4:=zh (show X<q by have:=F6.out;have:=F5.out;omega);rw[<-A2,<-hq];clear A2 hq F6 B2
 rotate_left
 go_wp2_with fail;have B4:Below wd.heap.size wd (wd.alloc (.cells #[.int .i64 0,.int .i64 0,.int .i64 0] 152)):=zn (Below.refl _ _);refine⟨A7 _ (A1.row.alloc _) (A0.alloc _),?_⟩;refine Zu rfl ?_;go_wp2_with fail;obtain⟨q,hq⟩:=zx (wd.heap.size);obtain⟨wq,C4⟩:=zx (wd.alloc (.cells #[.int .i64 0,.int .i64 0,.int .i64 0] 152));have rq:Row wq q 152 [.int .i64 0,.int .i64 0,.int .i64 0]:=by rw[C4,hq];exact Row.made _ _ _
 have G1:X<q:=by rw[hq];exact F5
 have G2:q∉I.E.all:=λhm=>by have:=A8.out q (by simp[qy.all,hm]);omega
 rw[<-C4] at B4;rw[<-C4,<-hq];refine(B0 wq B4).out.mono ?_;rintro e w4 ⟨rfl,hs,hu⟩;have D1:=zh hs;have D2:=zh ((Upd.of_below B4).trans hu);have C5:Upd I.E.all wd w4:=(Upd.of_below B4).trans hu;have A4:=zh (A1.row.keep C5 B1.out.1);have D3:=zh (A1.map.keep C5 B1.out.2);have A5:=zh (A0.keep C5 F4);have rq4:=rq.keep hu G2;have G3:=zh rq4;have f0:=rq4.free 0;have f1:=rq4.free 1;have f2:=rq4.free 2;have g0:=rq4.cell (i:=0) rfl;have g1:=rq4.cell (i:=1) rfl;have g2:=rq4.cell (i:=2) rfl;have D4:=zh G1;have D5:=zh hq;clear hs hu C5 B4 rq rq4 C4 G1 G2 hq;go_wp2_with fail;refine⟨A7 _ A4 A5,?_⟩;have B2:=zh (A7 _ A4 A5)
 (repeat (refine Zj B2.out rfl (λK hK=>?_);go_simp;(try go_bits);refine hK _ ?_;clear hK K))
 refine Zu rfl ?_;go_wp2_with fail;obtain⟨w5,A2⟩:=zx (((w4.setCell ⟨q,0,none⟩ (.int .i64 (F x.toNat))).setCell ⟨q,1,none⟩ (.int .i64 (obN o'))).setCell ⟨q,2,none⟩ (.int .i64 o'.enc.length));have u5:Upd [q] w4 w5:=by rw[A2];exact(((Upd.refl [q] w4).setCell (by simp) _).setCell (by simp) _).setCell (by simp) _
 have C6:∀k∈I.all,k∉[q]:=λk hk hm=>by have h1:=A8 k hk;have h2:=D4.out;simp at hm;omega
 have C3:Hid (Row w5 I.s 125 [.pointer (some ⟨I.E.m,0,none⟩),.map (some I.mp),.int .i64 made]):=A4.out.keep u5 (C6 _ (by simp[qy.all]));have F7:Hid (Row w5 p 152 [.int .i64 (F x.toNat),.int .i64 (obN o),.int .i64 o.enc.length]):=A5.out.keep u5 (λhm=>by simp at hm;have h1:=A0.out.lt;have h2:=D5.out;omega);have F8:Hid (qi w5 I.mp (kvT F T)):=D3.out.keep u5 (C6 _ (by simp[qy.all]));have F9:Hid (SG w5 I.E ((za0 F T).eraseIdx j++[(F x.toNat,o'.enc)]) N 0):=D1.out.keep u5 (λk hk=>C6 k (by simp[qy.all,hk]));have B3:Hid (Row w5 q 152 [.int .i64 (F x.toNat),.int .i64 (obN o'),.int .i64 o'.enc.length]):=by rw[A2];exact((G3.set 0 _).set 1 _).set 2 _
 have G0:Hid (Upd I.E.all wd w5):=Upd.new (m:=q::I.E.all) ((D2.out.mono (λk hk=>List.mem_cons_of_mem _ hk)).trans (u5.mono (by simp))) (λk hk=>by
  rcases List.mem_cons.1 hk with h1|h1
  ·have:=D5.out;exact .inr (by omega)
  ·exact .inl h1)
 rw[<-A2];clear A2 u5 C6 f0 f1 f2 g0 g1 g2 B2 G3 D5
 all_goals
  have G4:=zh (A7 _ C3 F7);refine⟨G4,?_⟩
  (repeat (refine Zj G4.out rfl (λK hK=>?_);go_simp;(try go_bits);refine hK _ ?_;clear hK K))
  refine zcg ?_;have k1:=C3.cell (i:=1) rfl;have z0:=B3.cell (i:=0) rfl;have z1:=B3.cell (i:=1) rfl;have z2:=B3.cell (i:=2) rfl;go_wp2_with fail;refine zm (λz=>z.cell? ⟨I.s,1,none⟩=some (.map (some I.mp))/\z.cell? ⟨q,0,none⟩=some (.int .i64 (F x.toNat))/\z.cell? ⟨q,1,none⟩=some (.int .i64 (obN o'))/\z.cell? ⟨q,2,none⟩=some (.int .i64 o'.enc.length)) (zp [0,1,2,3,4,5,1006]) (by kernel_rfl) (by kernel_rfl) (λ_ _ _ _ _ h=>h) ⟨k1,z0,z1,z2⟩ ?_;clear k1 z0 z1 z2
  (repeat (refine zi rfl (λK hK=>?_);go_simp;(try go_bits);refine hK _ ?_;clear hK K))
  refine zl (.map (some I.mp)) rfl rfl (λx hS=>by obtain⟨s0,s1,s2,s3⟩:=hS;go_simp) ?_
  (repeat (refine zi rfl (λK hK=>?_);go_simp;(try go_bits);refine hK _ ?_;clear hK K))
  refine zl (.agg #[.int .i64 (F x.toNat),.int .i64 (obN o'),.int .i64 o'.enc.length]) rfl rfl (λx hS=>by obtain⟨s0,s1,s2,s3⟩:=hS;go_simp) ?_;refine zj rfl ?_;have J1:Hid (qi w5.drew I.mp (kvT F T)):=F8.below (Zd (Below.refl _ _));have J2:=zh (show(kvT F T).length<=1000000 by rw[zi6];exact Nat.le_trans A1.len A1.few);refine jc J1 hx J2 rfl _ _ _ 123 rfl 152 underlying123 rfl rfl (.agg #[.int .i64 (F x.toNat),.int .i64 (obN o'),.int .i64 o'.enc.length]) rfl ?_;intro w6 l' G5 D6 B5
  have B6:I.s∉[I.mp]:=λhm=>by
   have A3:=A1.out.ne;simp only[qy.all,List.nodup_cons,List.mem_cons,not_or] at A3;simp at hm;exact A3.1.1 hm
  have G6:q∉[I.mp]:=λhm=>by simp at hm;have h1:=A8.out I.mp (by simp[qy.all]);have h2:=D4.out;omega
  have D7:=(C3.drew).keep B5 B6;have C7:=(B3.drew).keep B5 G6;have G7:=(F9.out.below (Zd (Below.refl _ _))).keep B5 (λk hk hm=>by simp at hm;subst hm;exact B1.out.2 hk);rw[<-I1.out] at D6;have B7:=A1.set HJ B8 HL D7 G5 D6 G7;have D8:=zh B7
  have J3:Hid (Upd (I.mp::I.E.all) w w6):=by
   refine(((Upd.of_below G8.out).trans (.of_below E6.out)).trans (Upd.of_below C1.out)).trans ((G0.out.mono (λk hk=>List.mem_cons_of_mem _ hk)).trans ((Upd.of_below (Zd (Below.refl _ _))).trans (B5.mono (by simp))))
  have J4:=zh (show w6.cell? ⟨I.s,1,none⟩=some (.map (some I.mp))/\w6.cell? ⟨q,0,none⟩=some (.int .i64 (F x.toNat))/\w6.cell? ⟨q,1,none⟩=some (.int .i64 (obN o'))/\w6.cell? ⟨q,2,none⟩=some (.int .i64 o'.enc.length) from⟨D7.cell (i:=1) rfl,C7.cell (i:=0) rfl,C7.cell (i:=1) rfl,C7.cell (i:=2) rfl⟩);clear G5 D6 B5 B6 G6 D7 C7 G7 B7;go_wp2;refine⟨J4,?_⟩;refine zo ?_;go_wp2;go_ret;exact⟨rfl,D8,J3⟩
end
section
variable{w w':World}{I:qy}{T:Tb}{made U N:Nat}{F:Nat->Nat}
theorem zp1{F G:Nat->Nat}{T:Tb}(h:∀p∈T,F p.1=G p.1):za0 F T=za0 G T:=by
 unfold za0;exact List.map_congr_left (λp hp=>by rw[h p hp])
theorem Zn.make(H:Zn w I T made U N F){o:Ob}{f:Nat}(ho:o.good)(A4:made<1000000)(hf:f<=U)
 (hr:Row w' I.s 125 [.pointer (some ⟨I.E.m,0,none⟩),.map (some I.mp),.int .i64 (made+1:Nat)]) {l:List KV} (hm:qi w' I.mp l) (hg:∀y,zw l y=if y=((made+1:Nat):Int) then some (exA f (obN o) o.enc.length) else zw (kvT F T) y)
 (hs:SG w' I.E (za0 F T++[(f,o.enc)]) N 0):Zn w' I (T++[(made+1,o)]) (made+1) (U+obN o) N (upF F (made+1) f):=by
 have A2:∀p∈T,p.1<=made:=λp hp=>(H.ids p hp).2
 have A3:∀p∈T,upF F (made+1) f p.1=F p.1:=λp hp=>Ze _ _ (by have:=A2 p hp;omega)
 have A0:=zsf A2 H.rise o
 have A5:l=kvT (upF F (made+1) f) (T++[(made+1,o)]):=by
  refine zhx hm.srt (zi5 A0) (λx=>?_);rw[hg,zbd,zbd];by_cases hx:x=((made+1:Nat):Int)
  ·subst hx;rw[if_pos rfl,je,zbt A2,if_pos rfl,Int.toNat_natCast];show some _=some (exT _ _ _)
   unfold exT;rw[Zm]
  ·rw[if_neg hx];unfold lookI;split
   ·next h0 =>
    rw[zbt A2,if_neg (by omega)];cases A6:zt T x.toNat with
    | none=>rfl
    | some o2 =>
     have:=A2 _ (Zl A6);simp only at this;show some _=some _
     unfold exT;rw[Ze _ _ (by omega)]
   ·rfl
 have A1:∀p∈T++[(made+1,o)],p∈T\/p=(made+1,o):=λp hp=>by
  rcases List.mem_append.1 hp with h|h
  ·exact .inl h
  ·exact .inr (List.mem_singleton.1 h)
 refine⟨hr,by rw[<-A5];exact hm,?_,A0,λp hp=>?_,λp hp=>?_,A4,H.ne,λp hp=>?_⟩
 ·have e:za0 (upF F (made+1) f) (T++[(made+1,o)])=za0 F T++[(f,o.enc)]:=by
   rw[<-zp1 (F:=upF F (made+1) f) (G:=F) A3];unfold za0;rw[List.map_append,List.map_singleton,Zm]
  rw[e];exact hs
 ·rcases A1 p hp with h|rfl
  ·have:=H.ids p h;omega
  ·simp only;omega
 ·rcases A1 p hp with h|rfl
  ·exact H.good p h
  ·exact ho
 ·rcases A1 p hp with h|rfl
  ·rw[A3 p h];have:=H.top p h;omega
  ·simp only[Zm];omega
theorem zli{L:List Rw4}{N n U:Nat}(hn:1<=n)(hU:∀x∈L,x.1+rN x<=U)(hN:U+n<=N):∀ {f:Option Nat},zhc L N n f->∃k,f=some k/\k<=U
 | none,h=>by
  obtain⟨x,hx,h1,h2⟩:=h U hN;have:=hU x hx;omega
 | some k,h=>by
  refine⟨k,rfl,?_⟩;rcases Nat.lt_or_ge U k with h1|h1
  ·obtain⟨x,hx,h2,h3⟩:=h.2.2 U h1;have:=hU x hx;omega
  ·exact h1
def zpj(I:qy)(T:Tb)(made U N:Nat)(F:Nat->Nat)(o:Ob)(w:World)(e:Ending)(w':World):Prop :=
 e=.returned (.tuple #[.int .i64 (made+1:Nat),.int .i64 0])/\(∃f,Zn w' I (T++[(made+1,o)]) (made+1) (U+obN o) N (upF F (made+1) f))/\Upd I.all w w'
theorem zuu(H:Zn w I T made U N F)(o:Ob)(d:Za)(hd:d.ok w)(D1:d.wn<=1000000)(hi:Is d o)(ho:o.good)(D2:made<1000000)(hU:U+obN o<=N) :
 Calls prog 218 #[.pointer (some ⟨I.s,0,none⟩),d.val] w (zpj I T made U N F o w):=by
 have B4:d.val=.agg #[.int .i64 d.cls,.int .i64 d.kind,.slice d.wa d.wn d.wc,.slice d.ba d.bn d.bc]:=rfl;obtain⟨X,hX⟩:=zx (w.heap.size);obtain⟨W,hW⟩:=zx (w.alloc (.cells #[.int .i64 d.cls,.int .i64 d.kind,.slice d.wa d.wn d.wc,.slice d.ba d.bn d.bc] 28));have bW:Below w.heap.size w W:=by rw[hW];exact(Below.refl _ _).alloc (Nat.le_refl _) _
 have rX:Row W X 28 [.int .i64 d.cls,.int .i64 d.kind,.slice d.wa d.wn d.wc,.slice d.ba d.bn d.bc]:=by rw[hW,hX];exact Row.made w _ _
 have C0:∀k∈I.all,k<X:=by rw[hX];exact H.lt
 have HS:Hid (Zn W I T made U N F):=H.below bW;have A1:=zh (zav d W (hd.below bW) D1);have HX:=zh hX;have HW:=zh hW;have D3:=zh bW;have C1:=zh rX;have C2:=zh C0;have HO:=zh ho;have HI:=zh hi;have HU:=zh hU;rw[B4];rw[B4] at A1;clear H hX hW bW rX C0 B4 hd hi ho hU;go_enter func218,ntmps218;go_wp2_with fail;rw[<-HW.out];clear HW;refine A1.mono ?_;unfold zeo;rintro e w3 ⟨v,he,B5,A7⟩;obtain⟨q1,q2⟩:=HI.enc HO;rw[q1] at he;rw[q2] at B5;subst he;obtain⟨a,c,rfl,C3,C4,C5⟩:=zk B5;have A0:=zh (HS.below A7);have D4:=zh (zy D3 A7);have k0:=A0.row.cell (i:=0) rfl;have k2:=A0.row.cell (i:=2) rfl;have E7:=A7.size
 have B6:Hid (Calls prog 220 #[.pointer (some ⟨I.E.m,0,none⟩),.slice a o.enc.length c] w3 λe w'=>∃f,f<=U/\e=.returned (.tuple #[.agg #[.int .i64 (f:Nat),.int .i64 (obN o),.int .i64 o.enc.length],.int .i64 0])/\SG w' I.E (za0 F T++[(f,o.enc)]) N 0/\Upd I.E.all w3 w'):=by
  have E8:=HO.out.enc_len
  refine(z6y A0.out.sp o.enc a o.enc.length c rfl (by omega) HO.out.enc_byt C3 C4 (λh0 y hy hm=>by
   have h1:=(C5 y hy).1;have h2:=C2.out y.block (by simp[qy.all,hm]);have h3:=C1.out.lt
   omega)).mono ?_
  have A2:∀x∈za0 F T,x.1+rN x<=U:=λx hx=>by
   unfold za0 at hx;rw[List.mem_map] at hx;obtain⟨p,hp,rfl⟩:=hx;exact A0.top p hp
  rintro e w' (⟨hf,-⟩|⟨f,hf,rfl,hs,hu⟩)
  ·obtain⟨k,hk,_⟩:=zli (yi _) A2 HU hf;cases hk
  ·obtain⟨k,hk,D5⟩:=zli (yi _) A2 HU hf;cases hk
   exact⟨f,D5,rfl,hs,hu⟩
 clear q1 q2 B5 C3 C4 C5 A7 A1;go_wp2_with fail;go_call B6 as e w4 ⟨f,D6,rfl,hs,hu⟩
 have A8:I.s∉I.E.all/\I.mp∉I.E.all/\I.s≠I.mp:=by
  have A9:=A0.out.ne;simp only[qy.all,List.nodup_cons,List.mem_cons,not_or] at A9;exact⟨A9.1.2,A9.2.1,A9.1.1⟩
 have B0:=zh (A0.row.keep hu A8.1);have D7:=zh (A0.map.keep hu A8.2.1);have D8:=zh hs;have C6:=zh hu;have B1:=zh A8;have j2:=B0.cell (i:=2) rfl;have jf:=B0.free 2;have B7:=B0.out.lt;clear hs hu A8 k0 k2;go_wp2_with fail;obtain⟨q,hq⟩:=zx (w4.heap.size);obtain⟨w5,A3⟩:=zx ((w4.setCell ⟨I.s,2,none⟩ (.int .i64 ((made:Nat)+1:Int))).alloc (.cells #[.int .i64 (f:Nat),.int .i64 (obN o),.int .i64 o.enc.length] 152));have u5:Upd [I.s] w4 w5:=by rw[A3];exact((Upd.refl [I.s] w4).setCell (by simp) _).alloc _
 have B8:Hid (Row w5 I.s 125 [.pointer (some ⟨I.E.m,0,none⟩),.map (some I.mp),.int .i64 ((made:Nat)+1:Int)]):=by rw[A3];exact(B0.set 2 _).alloc _
 have D9:Hid (qi w5 I.mp (kvT F T)):=D7.out.keep u5 (by simp;exact Ne.symm B1.out.2.2);have E0:Hid (SG w5 I.E (za0 F T++[(f,o.enc)]) N 0):=D8.out.keep u5 (λk hk hm=>by simp at hm;subst hm;exact B1.out.1 hk)
 have B2:Hid (Row w5 q 152 [.int .i64 (f:Nat),.int .i64 (obN o),.int .i64 o.enc.length]):=by
  rw[A3,hq];unfold Hid;have:=Row.made (w4.setCell ⟨I.s,2,none⟩ (.int .i64 ((made:Nat)+1:Int))) [.int .i64 (f:Nat),.int .i64 (obN o),.int .i64 o.enc.length] 152;simpa using this
 have E1:=zh ((C6.out.mono (m:=I.all) (λk hk=>by simp[qy.all,hk])).trans (u5.mono (m:=I.all) (by simp[qy.all])));have E2:=zh (show X<q by rw[hq];have h1:=C1.out.lt;have h2:=C6.out.size;omega);rw[<-A3,<-hq];clear A3 hq u5 j2 jf B7;have k1:=B8.cell (i:=1) rfl;have k2:=B8.cell (i:=2) rfl;have z0:=B2.cell (i:=0) rfl;have z1:=B2.cell (i:=1) rfl;have z2:=B2.cell (i:=2) rfl;refine zm (λz=>z.cell? ⟨I.s,1,none⟩=some (.map (some I.mp))/\z.cell? ⟨I.s,2,none⟩=some (.int .i64 ((made:Nat)+1:Int))/\z.cell? ⟨q,0,none⟩=some (.int .i64 (f:Nat))/\z.cell? ⟨q,1,none⟩=some (.int .i64 (obN o))/\z.cell? ⟨q,2,none⟩=some (.int .i64 o.enc.length)) (zp [0,1,2,3,4,5,6,7,8,1009]) (by kernel_rfl) (by kernel_rfl) (λ_ _ _ _ _ h=>h) ⟨k1,k2,z0,z1,z2⟩ ?_;clear k1 k2 z0 z1 z2
 (repeat (refine zi rfl (λK hK=>?_);go_simp;(try go_bits);refine hK _ ?_;clear hK K))
 refine zl (.map (some I.mp)) rfl rfl (λx hS=>by obtain⟨s0,s1,s2,s3,s4⟩:=hS;go_simp) ?_
 (repeat (refine zi rfl (λK hK=>?_);go_simp;(try go_bits);refine hK _ ?_;clear hK K))
 refine zl (.int .i64 ((made:Nat)+1:Int)) rfl rfl (λx hS=>by obtain⟨s0,s1,s2,s3,s4⟩:=hS;go_simp) ?_
 (repeat (refine zi rfl (λK hK=>?_);go_simp;(try go_bits);refine hK _ ?_;clear hK K))
 refine zl (.agg #[.int .i64 (f:Nat),.int .i64 (obN o),.int .i64 o.enc.length]) rfl rfl (λx hS=>by obtain⟨s0,s1,s2,s3,s4⟩:=hS;go_simp) ?_;refine zj rfl ?_;have E3:Hid (qi w5.drew I.mp (kvT F T)):=D9.below (Zd (Below.refl _ _));have E4:=zh (show(kvT F T).length<=1000000 by rw[zi6];exact Nat.le_trans A0.len A0.few);refine jc E3.out (x:=((made:Nat)+1:Int)) (za6 (by omega) (by omega)) E4.out rfl _ _ _ 123 rfl 152 underlying123 rfl rfl (.agg #[.int .i64 (f:Nat),.int .i64 (obN o),.int .i64 o.enc.length]) rfl ?_;intro w6 l' C7 C8 A4;have C9:q∉[I.mp]:=λhm=>by simp at hm;have h1:=C2.out I.mp (by simp[qy.all]);have h2:=E2.out;omega
 have A5:=(B8.out.drew).keep A4 (by simp;exact B1.out.2.2);have B3:=(B2.drew).keep A4 C9;have D0:=(E0.out.below (Zd (Below.refl _ _))).keep A4 (λk hk hm=>by simp at hm;subst hm;exact B1.out.2.1 hk);have A6:=A0.make HO D2 D6 A5 C7 C8 D0;have B9:=zh A6;have E5:Hid (Upd I.all w w6):=(Upd.of_below D4.out).trans (E1.out.trans ((Upd.of_below (Zd (Below.refl _ _))).trans (A4.mono (by simp[qy.all]))));have E6:=zh (show w6.cell? ⟨I.s,1,none⟩=some (.map (some I.mp))/\w6.cell? ⟨I.s,2,none⟩=some (.int .i64 ((made:Nat)+1:Int))/\w6.cell? ⟨q,0,none⟩=some (.int .i64 (f:Nat))/\w6.cell? ⟨q,1,none⟩=some (.int .i64 (obN o))/\w6.cell? ⟨q,2,none⟩=some (.int .i64 o.enc.length) from⟨A5.cell (i:=1) rfl,A5.cell (i:=2) rfl,B3.cell (i:=0) rfl,B3.cell (i:=1) rfl,B3.cell (i:=2) rfl⟩);have g2:=A5.cell (i:=2) rfl;clear C7 C8 A4 C9 A5 B3 D0 A6;go_wp2;refine⟨E6,?_⟩;refine zo ?_;go_wp2;go_ret2;exact⟨rfl,⟨f,B9⟩,E5⟩
end
end Go.Proofs.YtoeibiahbenpcaaGreatDoor
