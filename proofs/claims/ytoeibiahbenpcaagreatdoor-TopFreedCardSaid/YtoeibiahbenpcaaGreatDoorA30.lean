/- Part. -/
import Derived.Test.YtoeibiahbenpcaaGreatDoorA29
namespace Go.Proofs.YtoeibiahbenpcaaGreatDoor
open RowKit Maps Proofs.Tryz
set_option linter.unusedVariables false
set_option maxRecDepth 99999
set_option maxHeartbeats 9000000
section
variable{w:World}{J:LmI}{K NW N:Nat}{S:Lm}{A:Nat->Option Ob}{ex:List Int}{pe bl:Nat->Prop}{T:Tb}{made U:Nat}{F:Nat->Nat}{busy:Nat}
theorem Zh.idb(H:Zh w J K NW N S A ex pe bl T made U F busy){i:Nat}{o:Ob}(ho:A i=some o):1<=i/\i<1073741824:=by
 have h1:=H.hasA i;rw[ho] at h1;obtain⟨d,hd⟩:=Option.isSome_iff_exists.1 h1;have h2:=H.P.sec.ids _ (Zl hd);have h3:=H.P.sec.few;simp only at h2;omega
theorem vn{o:Int}{ob:Ob}(h:qz A o=some ob):∃i:Nat,o=i/\A i=some ob:=by
 unfold qz at h;split at h
 ·exact⟨o.toNat,by omega,h⟩
 ·cases h
theorem zjr(H:Zh w J K NW N S A ex pe bl T made U F busy)(o:Int)(b0:-9223372036854775808<=o)(b1:o<=9223372036854775807){i:Nat}{ob:Ob}(hi:Zz o=i)(ho:A i=some ob) :
 Calls prog 60 #[.pointer (some ⟨J.m,0,none⟩),.int .i64 o] w λe w'=>e=.returned (.tuple #[.int .i64 i,.int .i64 0])/\Below w.heap.size w w':=by
 have h1:=z4w H o b0 b1;rw[hi] at h1
 have h2:(qz A (i:Int)).isSome=true:=by
  unfold qz;rw[if_pos (by omega),Int.toNat_natCast,ho];rfl
 rw[if_pos h2] at h1;exact h1
theorem zu4(H:Zh w J K NW N S A ex pe bl T made U F busy)(o:Int)(b0:-9223372036854775808<=o)(b1:o<=9223372036854775807)(hn:qz A (Zz o)=none) :
 Calls prog 60 #[.pointer (some ⟨J.m,0,none⟩),.int .i64 o] w λe w'=>e=.returned (.tuple #[.int .i64 0,.int .i64 4])/\Below w.heap.size w w':=by
 have h1:=z4w H o b0 b1;rw[hn] at h1;simpa using h1
theorem z1y(H:Zh w J K NW N S A [] (λ_=>False) (λ_=>False) T made U F 0)(hk:1<=K)(B1:1000<=NW)(o:Int)(b0:-9223372036854775808<=o)(b1:o<=9223372036854775807){i:Nat}{ob:Ob}(hi:Zz o=i)(ho:A i=some ob){w0:World}(B2:LU J w0 w) :
 Calls prog 80 #[.pointer (some ⟨J.m,0,none⟩),.int .i64 o] w (vu w0 J K NW N S A made U F i):=by
 obtain⟨A7,A8⟩:=H.idb ho;have B3:=zh (zjr H o b0 b1 hi ho);have hK:=H.ks;have HH:=zh H;have B4:=zh B2;have HO:=zh ho;clear H B2 hi ho;go_enter func80,ntmps80;go_wp2_with fail;go_call B3 as e w1 ⟨rfl,hb⟩;have A1:=zh (HH.below hb);have A9:=zh (B4.trans (.of_below hb));have B0:=zh (znn A1 A7 A8);have m2:=A1.P.head.cell (i:=2) rfl;have m3:=A1.P.head.cell (i:=3) rfl;have m4:=A1.P.head.cell (i:=4) rfl;have ml:=A1.P.head.lt;clear hb HH B4 B3;go_wp2_with fail;go_call B0 as e w' ⟨rfl,⟨rfl,B5⟩|⟨s,B7,hs,hid,rfl⟩⟩
 ·have A4:=zh (zo7 A1 hk B1 HO (λs h=>absurd h (B5 s)) A7 A8);clear B5 B0;go_wp2_with fail;go_call A4 as e w2 ⟨A3,s,S2,T2,r,rfl,A2,A5,A0⟩;have HF:Hid (vu w0 J K NW N S A made U F i (.returned (.tuple #[.pointer (some ⟨J.sl,s*3,none⟩),.int .i64 0])) w2):=⟨A9.trans A3,s,S2,T2,r,rfl,A2,A5,A0⟩;clear A3 A2 A5 A0 A4 m2 m3 m4 ml;go_wp2;go_ret2;exact HF
 ·obtain⟨y0,-,-,yl⟩:=A1.slot hs;have B8:(s:Int)<(K:Int)+1:=by omega
  have A6:=zh hid;clear hid B0;cases hr:(S.sl s).res with
  | none =>
   have e0:yx (S.sl s)=.pointer none:=by unfold yx;rw[hr]
   rw[e0] at y0
   have A4:=zh (zo7 A1 hk B1 HO (λt h=>by
    have:=A1.out.inv.uniq t s (by rw[h];omega) (by rw[h,A6.out])
    rw[this];exact hr) A7 A8)
   clear e0 hr;go_wp2_with fail;go_call A4 as e w2 ⟨A3,s',S2,T2,r,rfl,A2,A5,A0⟩;have HF:Hid (vu w0 J K NW N S A made U F i (.returned (.tuple #[.pointer (some ⟨J.sl,s'*3,none⟩),.int .i64 0])) w2):=⟨A9.trans A3,s',S2,T2,r,rfl,A2,A5,A0⟩;clear A3 A2 A5 A0 A4 m2 m3 m4 ml y0 yl;go_wp2;go_ret2;exact HF
  | some r =>
   have e0:yx (S.sl s)=.pointer (some ⟨r.ad,0,none⟩):=by unfold yx;rw[hr]
   rw[e0] at y0;have HR:=zh hr;have B6:=zh (zo2 A1 hr w1.heap.size rfl);clear e0 hr;go_wp2_with fail;go_call B6 as e w2 ⟨rfl,A2,A3⟩;have HF:Hid (vu w0 J K NW N S A made U F i (.returned (.tuple #[.pointer (some ⟨J.sl,s*3,none⟩),.int .i64 0])) w2):=⟨A9.trans A3,s,S,T,r,rfl,A2,HR,A6⟩;have m4:=A2.P.head.cell (i:=4) rfl;have ml:=A2.P.head.lt;clear A3 A2 B6 m2 m3 y0 yl;go_wp2;go_ret2;exact HF
def zvy(w:World)(J:LmI)(K NW N:Nat)(S:Lm)(A:Nat->Option Ob)(T:Tb)(made U:Nat)(F:Nat->Nat)(ob:Ob)(e:Ending)(w':World):Prop :=
 e=.returned (.tuple #[.int .i64 ob.kind,.int .i64 (ob.size:Nat)])/\Zh w' J K NW N S A [] (λ_=>False) (λ_=>False) T made U F 0/\LU J w w'
theorem zlm(d:Za)(o:Ob)(A0:d.ok w)(hi:Is d o)(ho:o.good):∀v,Calls prog 78 #[.agg #[.int .i64 d.cls,.int .i64 d.kind,.slice d.wa d.wn d.wc,.slice d.ba d.bn d.bc]] v λe w'=>e=.returned (.int .i64 (o.size:Nat))/\Below v.heap.size v w':=λv=>by
 have:=zcu d v
 have A1:(if d.kind=1 then d.wn else if d.kind=2 then d.bn else 0)=o.size:=by
  have h1:=A0.wl;have h2:=A0.bl;rw[hi.kind];rcases ho.kinds with⟨a,_,_,b⟩|⟨a,_,_,b⟩
  ·rw[if_pos a,b,h1,hi.W]
  ·rw[if_neg (by omega),if_pos a,b,h2,hi.B]
 rwa[A1] at this
theorem zx5(H:Zh w J K NW N S A [] (λ_=>False) (λ_=>False) T made U F 0){i:Nat}{ob:Ob}(ho:A i=some ob){w0:World}(B1:LU J w0 w) :
 Calls prog 79 #[.pointer (some ⟨J.m,0,none⟩),.int .i64 i] w (zvy w0 J K NW N S A T made U F ob):=by
 obtain⟨C7,B2⟩:=H.idb ho;have hK:=H.ks;have A0:=zh H;have B3:=zh B1;have HO:=zh ho;have B4:=zh (znn H C7 B2);have m0:=H.P.head.cell (i:=0) rfl;have m2:=H.P.head.cell (i:=2) rfl;have m4:=H.P.head.cell (i:=4) rfl;have ml:=H.P.head.lt;have B5:=zh (H.inv.good _ _ ho);clear H B1 ho
 have key:∀s,s<=K->(S.sl s).id=i->∀r,(S.sl s).res=some r->r.kind=ob.kind/\r.size=ob.size:=λs _ hid r hr=>by
  obtain⟨o,d,ws,ok⟩:=A0.inv.res s r hr;have h1:=ok.ob;rw[hid,HO.out] at h1;cases h1
  exact⟨ok.kind.2,ok.size.2.2⟩
 have away:(∀s,(S.sl s).id=i->(S.sl s).res=none)->S.dk i=some ob:=λh=>by rw[A0.out.inv.away i h];exact HO
 have B6:=zh key;have A6:=zh away;clear key away;go_enter func79,ntmps79;go_wp2_with fail;go_call B4 as e w' ⟨rfl,A3⟩
 have A7:(∃s r,s<=K/\e=.returned (.tuple #[.int .i64 (s:Nat),.bool true])/\(S.sl s).id=i/\(S.sl s).res=some r)\/(S.dk i=some ob/\(e=.returned (.tuple #[.int .i64 0,.bool false])\/∃s,s<=K/\(S.sl s).res=none/\e=.returned (.tuple #[.int .i64 (s:Nat),.bool true]))):=by
  rcases A3 with⟨h1,h2⟩|⟨s,D3,hs,hid,h2⟩
  ·exact .inr ⟨A6 (λs h=>absurd h (h2 s)),.inl h1⟩
  ·cases hr:(S.sl s).res with
   | none =>
    refine .inr ⟨A6 (λt h=>?_),.inr ⟨s,hs,hr,h2⟩⟩;have:=A0.out.inv.uniq t s (by rw[h];omega) (by rw[h,hid]);rw[this];exact hr
   | some r=>exact .inl ⟨s,r,hs,h2,hid,hr⟩
 clear A3 B4;rcases A7 with⟨s,r,hs,rfl,hid,hr⟩|⟨C8,A3⟩
 ·obtain⟨y0,-,-,yl⟩:=A0.slot hs;have C9:(s:Int)<(K:Int)+1:=by omega
  have e0:yx (S.sl s)=.pointer (some ⟨r.ad,0,none⟩):=by unfold yx;rw[hr]
  rw[e0] at y0;obtain⟨k1,k2⟩:=B6 s hs hid r hr;have A4:=A0.resrow hr;have z1:=A4.cell (i:=1) rfl;have z2:=A4.cell (i:=2) rfl;rw[k1] at z1;rw[k2] at z2;have zl:=A4.lt;have HF:Hid (∀v,Below w.heap.size w v->zvy w0 J K NW N S A T made U F ob (.returned (.tuple #[.int .i64 ob.kind,.int .i64 (ob.size:Nat)])) v):=λv hb=>⟨rfl,A0.below hb,B3.trans (.of_below hb)⟩
  clear e0 k1 k2 A4 hid hr B6 A6 B5;go_wp2_with fail;go_region;go_wp2;go_ret2;exact HF.out _ (by first|exact Below.refl _ _|exact Zd (Below.refl _ _))
 ·have B7:=zh (zdu A0 i B2 ob C8);rcases A3 with rfl|⟨s,hs,hr,rfl⟩
  case' inr =>
   obtain⟨y0,-,-,yl⟩:=A0.slot hs;have C9:(s:Int)<(K:Int)+1:=by omega
   have e0:yx (S.sl s)=.pointer none:=by unfold yx;rw[hr]
   rw[e0] at y0;clear e0 hr
  all_goals
   go_wp2_with fail;go_call B7 as e w4 ⟨d,rfl,B8,A8,A9,B9,C0⟩;have C1:=zh (zlm d ob B8 A9 B5.out);have D0:=zh A9.kind;have C2:=zh B9;have C3:=zh (B3.trans C0);clear B8 A8 A9 B9 C0 B7;go_wp2_with fail;obtain⟨p,hp⟩:=zx (w4.heap.size);obtain⟨w5,A5⟩:=zx (w4.alloc (.cells #[.int .i64 d.cls,.int .i64 d.kind,.slice d.wa d.wn d.wc,.slice d.ba d.bn d.bc] 28));have B0:Below w4.heap.size w4 w5:=by rw[A5];exact zn (Below.refl _ _)
   have A2:Row w5 p 28 [.int .i64 d.cls,.int .i64 d.kind,.slice d.wa d.wn d.wc,.slice d.ba d.bn d.bc]:=by rw[A5,hp];exact Row.made _ _ _
   rw[<-A5,<-hp];have C4:=zh (C2.below B0);have C5:=zh (C3.trans (.of_below B0))
   have hS:w5.drew.cell? ⟨p,0,none⟩=some (.int .i64 d.cls)/\w5.drew.cell? ⟨p,1,none⟩=some (.int .i64 d.kind)/\w5.drew.cell? ⟨p,2,none⟩=some (.slice d.wa d.wn d.wc)/\w5.drew.cell? ⟨p,3,none⟩=some (.slice d.ba d.bn d.bc) :=
    ⟨A2.drew.cell (i:=0) rfl,A2.drew.cell (i:=1) rfl,A2.drew.cell (i:=2) rfl,A2.drew.cell (i:=3) rfl⟩
   have HS:=zh hS
   have HF:Hid (∀v,Below w5.heap.size w5.drew v->zvy w0 J K NW N S A T made U F ob (.returned (.tuple #[.int .i64 ob.kind,.int .i64 (ob.size:Nat)])) v):=λv hb=>by
    have C6:Below w5.heap.size w5 v:=zy (Zd (Below.refl _ w5)) hb;exact⟨rfl,C4.below C6,C5.trans (.of_below C6)⟩
   clear A5 hp B0 A2 hS C2 C3 C4 C5;refine zm (λz=>z.cell? ⟨p,0,none⟩=some (.int .i64 d.cls)/\z.cell? ⟨p,1,none⟩=some (.int .i64 d.kind)/\z.cell? ⟨p,2,none⟩=some (.slice d.wa d.wn d.wc)/\z.cell? ⟨p,3,none⟩=some (.slice d.ba d.bn d.bc)) (zp [0,1,2,1003,4,5]) (by kernel_rfl) (by kernel_rfl) (λ_ _ _ _ _ h=>h) (HS.out) ?_
   (repeat (refine zi rfl (λK hK=>?_);go_simp;(try go_bits);refine hK _ ?_;clear hK K))
   refine zl (.int .i64 d.kind) rfl rfl (λx hS=>by obtain⟨s0,s1,s2,s3⟩:=hS;go_simp) ?_
   (repeat (refine zi rfl (λK hK=>?_);go_simp;(try go_bits);refine hK _ ?_;clear hK K))
   refine zl (.agg #[.int .i64 d.cls,.int .i64 d.kind,.slice d.wa d.wn d.wc,.slice d.ba d.bn d.bc]) rfl rfl (λx hS=>by obtain⟨s0,s1,s2,s3⟩:=hS;go_simp) ?_;refine zj rfl ?_;go_wp2_with fail;refine(C1 _).mono ?_;rintro e w6 ⟨rfl,A1⟩;have D1:=zh A1;have D2:Hid (w6.cell? ⟨p,0,none⟩=some (.int .i64 d.cls)/\w6.cell? ⟨p,1,none⟩=some (.int .i64 d.kind)/\w6.cell? ⟨p,2,none⟩=some (.slice d.wa d.wn d.wc)/\w6.cell? ⟨p,3,none⟩=some (.slice d.ba d.bn d.bc)):=⟨zu A1 HS.out.1,zu A1 HS.out.2.1,zu A1 HS.out.2.2.1,zu A1 HS.out.2.2.2⟩;clear A1 HS C1;go_wp2_with fail;refine⟨D2,?_⟩
   (repeat (refine zi rfl (λK hK=>?_);go_simp;(try go_bits);refine hK _ ?_;clear hK K))
   refine zo ?_;go_wp2;go_ret2;rw[D0.out];exact HF _ D1
def plE(A:Nat->Option Ob)(o kind i:Int):Int :=
 match qz A (Zz o) with
 | none=>4
 | some ob=>if ob.kind≠kind then 20 else if i<0\/(ob.size:Int)<=i then 21 else 0
def zv0(w:World)(J:LmI)(K NW N:Nat)(S:Lm)(A:Nat->Option Ob)(T:Tb)(made U:Nat)(F:Nat->Nat)(o kind i:Int)(e:Ending)(w':World):Prop :=
 (plE A o kind i=0/\∃k:Nat,Zz o=k/\vu w J K NW N S A made U F k e w')\/
 (plE A o kind i≠0/\e=.returned (.tuple #[.pointer none,.int .i64 (plE A o kind i)])/\Zh w' J K NW N S A [] (λ_=>False) (λ_=>False) T made U F 0/\LU J w w')
theorem zo5(H:Zh w J K NW N S A [] (λ_=>False) (λ_=>False) T made U F 0)(hk:1<=K)(B9:1000<=NW)(o kind i:Int)(b0:-9223372036854775808<=o)(b1:o<=9223372036854775807)(C3:-9223372036854775808<=i/\i<=9223372036854775807) :
 Calls prog 30 #[.pointer (some ⟨J.m,0,none⟩),.int .i64 o,.int .i64 kind,.int .i64 i] w (zv0 w J K NW N S A T made U F o kind i):=by
 have HH:=zh H
 have fin:∀c:Int,plE A o kind i=c->c≠0->∀v,Zh v J K NW N S A [] (λ_=>False) (λ_=>False) T made U F 0->LU J w v->zv0 w J K NW N S A T made U F o kind i (.returned (.tuple #[.pointer none,.int .i64 c])) v:=λc hc h0 v h1 h2=>by
  subst hc;exact .inr ⟨h0,rfl,h1,h2⟩
 have A4:=zh fin;clear fin;cases hl:qz A (Zz o) with
 | none =>
  have A1:Hid (plE A o kind i=4):=by unfold Hid plE;rw[hl]
  have A2:=zh (zu4 H o b0 b1 hl);clear H hl;go_enter func30,ntmps30;go_wp2_with fail;go_call A2 as e w1 ⟨rfl,hb⟩;have HB:=zh hb;clear hb A2;go_wp2;go_ret2;exact A4.out 4 A1.out (by decide) _ (HH.out.below HB.out) (.of_below HB.out)
 | some ob =>
  obtain⟨k,A8,ho⟩:=vn hl;have A2:=zh (zjr H o b0 b1 A8 ho);have C4:=(H.inv.good _ _ ho).size_le;have HO:=zh ho;have B0:=zh A8;have B1:plE A o kind i=if ob.kind≠kind then 20 else if i<0\/(ob.size:Int)<=i then 21 else 0:=by unfold plE;rw[hl]
  have A1:=zh B1;clear H hl ho A8 B1;go_enter func30,ntmps30;go_wp2_with fail;go_call A2 as e w1 ⟨rfl,hb⟩;have C0:=zh (HH.below hb);have C5:=zh (LU.of_below (J:=J) hb);have B2:=zh (zx5 C0 HO (LU.of_below (J:=J) hb));clear hb A2;go_wp2_with fail;go_call B2 as e w2 ⟨rfl,B3,B4⟩;have A5:=zh B3;have A6:=zh B4;clear B3 B4 B2;by_cases A7:ob.kind=kind
  ·subst A7;have C1:(ob.kind != ob.kind)=false:=by simp
   by_cases C2:i<0
   ·have A0:Hid (plE A o ob.kind i=21):=by unfold Hid;rw[A1.out,if_neg (by simp),if_pos (.inl C2)]
    go_wp2;go_ret2;exact A4.out 21 A0.out (by decide) _ A5.out A6.out
   ·by_cases A9:(ob.size:Int)<=i
    ·have A0:Hid (plE A o ob.kind i=21):=by unfold Hid;rw[A1.out,if_neg (by simp),if_pos (.inr A9)]
     go_wp2;go_ret2;exact A4.out 21 A0.out (by decide) _ A5.out A6.out
    ·have A0:Hid (plE A o ob.kind i=0):=by unfold Hid;rw[A1.out,if_neg (by simp),if_neg (by omega)]
     have B5:=zh (z1y A5 hk B9 o b0 b1 B0 HO A6);go_wp2_with fail;go_call B5 as e w3 ⟨B6,s,S3,T3,r,rfl,B7,B8,A3⟩;have HF:Hid (zv0 w J K NW N S A T made U F o ob.kind i (.returned (.tuple #[.pointer (some ⟨J.sl,s*3,none⟩),.int .i64 0])) w3):=.inl ⟨A0,k,B0,B6,s,S3,T3,r,rfl,B7,B8,A3⟩;clear B6 B7 B8 A3 B5;go_wp2;go_ret2;exact HF
  ·have C1:(ob.kind != kind)=true:=bne_iff_ne.2 A7;have A0:Hid (plE A o kind i=20):=by unfold Hid;rw[A1.out,if_pos A7]
   clear A7;go_wp2;go_ret2;exact A4.out 20 A0.out (by decide) _ A5.out A6.out
end
theorem Za.ok.keep{w w':World}{d:Za}{base:Nat}{l:List Nat}(h:d.ok w)(own:xn base w d)(u:Upd l w w')(hl:∀k∈l,k<base):d.ok w' :=
 ⟨h.c0,h.k0,h.wl,h.wm,u.reads h.wr (λx hx hm=>by have:=(own.at.1 x hx).1;have:=hl _ hm;omega),h.wi,h.bl,h.bm,u.reads h.br (λx hx hm=>by have:=(own.at.2 x hx).1;have:=hl _ hm;omega),h.bb⟩
section
variable{w:World}{J:LmI}{K NW N:Nat}{S:Lm}{A:Nat->Option Ob}{ex:List Int}{pe bl:Nat->Prop}{T:Tb}{made U:Nat}{F:Nat->Nat}{busy:Nat}
def z5m(w:World)(J:LmI)(K NW N:Nat)(A:Nat->Option Ob)(made U:Nat)(F:Nat->Nat)(ob:Ob)(e:Ending)(w':World):Prop :=
 LU J w w'/\∃d:Za,e=.returned (.tuple #[.agg #[.int .i64 d.cls,.int .i64 d.kind,.slice d.wa d.wn d.wc,.slice d.ba d.bn d.bc],.int .i64 0])/\d.ok w'/\xn w.heap.size w' d/\Is d ob/\∃S' T',Zh w' J K NW N S' A [] (λ_=>False) (λ_=>False) T' made U F 0
theorem Zh.ownRow{w0 w':World}(H:Zh w J K NW N S A ex pe bl T made U F busy)(hf:∀k∈J.fix,k<w0.heap.size)(hB:J.B<=w0.heap.size){p:Nat}{t:TypeId}{xs:List Value}(hr:Row w p t xs)(hp:w0.heap.size<=p)(ht:¬zid t)(u:Upd [p] w w'):Zh w' J K NW N S A ex pe bl T made U F busy :=
 H.newer hf hB u (λk hk=>by
  simp at hk;subst hk
  exact⟨hp,λcs t' r he=>by rw[show w.heap[k]?=_ from hr] at he;cases he;exact ht⟩)
theorem z21(w:World)(p:Nat)(a b c d:Value):Upd [p] w ((((w.setCell ⟨p,0,none⟩ a).setCell ⟨p,1,none⟩ b).setCell ⟨p,2,none⟩ c).setCell ⟨p,3,none⟩ d):=((((Upd.refl [p] w).setCell (by simp) _).setCell (by simp) _).setCell (by simp) _).setCell (by simp) _
theorem z3b{w:World}{p:Nat}{t:TypeId}{x y z u:Value}(h:Row w p t [x,y,z,u])(a b c d:Value):Row ((((w.setCell ⟨p,0,none⟩ a).setCell ⟨p,1,none⟩ b).setCell ⟨p,2,none⟩ c).setCell ⟨p,3,none⟩ d) p t [a,b,c,d]:=(((h.set 0 a).set 1 b).set 2 c).set 3 d
theorem zx6(H:Zh w J K NW N S A [] (λ_=>False) (λ_=>False) T made U F 0)(o:Int)(b0:-9223372036854775808<=o)(b1:o<=9223372036854775807)(hn:qz A (Zz o)=none) :
 Calls prog 16 #[.pointer (some ⟨J.m,0,none⟩),.int .i64 o] w λe w'=>e=.returned (.tuple #[.agg #[.int .i64 0,.int .i64 0,.slice none 0 0,.slice none 0 0],.int .i64 4])/\Zh w' J K NW N S A [] (λ_=>False) (λ_=>False) T made U F 0/\LU J w w':=by
 obtain⟨w1,A2⟩:=zx (w.alloc (.cells #[.int .i64 0,.int .i64 0,.slice none 0 0,.slice none 0 0] 28));have A3:Below w.heap.size w w1:=by rw[A2];exact zn (Below.refl _ _)
 have A6:Row w1 w.heap.size 28 [.int .i64 0,.int .i64 0,.slice none 0 0,.slice none 0 0]:=by rw[A2];exact Row.made _ _ _
 have A7:=zh (zu4 (H.below A3) o b0 b1 hn);have B1:=zh (H.below A3);have B2:=zh (LU.of_below (J:=J) A3);have B3:=zh H.fixlt;have B4:=zh H.Blt;have A8:=zh A6;have B5:=zh A2;clear H A2 A3 A6;obtain⟨p,hp⟩:=zx (w.heap.size);rw[<-hp] at A8;have A9:Hid (w.heap.size<=p):=by rw[hp];exact Nat.le_refl _
 go_enter func16,ntmps16;go_wp2_with fail;rw[<-B5.out,<-hp];clear hp;go_call A7 as e w2 ⟨rfl,A4⟩;have A0:=A8.out.keep (l:=[]) (.of_below A4) (by simp);have p0:=A0.cell (i:=0) rfl;have p1:=A0.cell (i:=1) rfl;have p2:=A0.cell (i:=2) rfl;have p3:=A0.cell (i:=3) rfl;have f0:=A0.free 0;have f1:=A0.free 1;have f2:=A0.free 2;have f3:=A0.free 3;have pl:=A0.lt;have B0:=zh A0;have B6:=zh (B1.below A4);have B7:=zh (B2.trans (.of_below A4));clear A4 A0 A7;go_wp2;have A1:=z3b B0 (.int .i64 0) (.int .i64 0) (.slice none 0 0) (.slice none 0 0);have A5:=z21 w2 p (.int .i64 0) (.int .i64 0) (.slice none 0 0) (.slice none 0 0);have B8:=zh (B6.out.ownRow B3.out B4.out B0.out A9.out (by decide) A5);have B9:=zh (B7.out.fresh A5 (λx hx=>by simp at hx;subst hx;exact A9));have c0:=A1.cell (i:=0) rfl;have c1:=A1.cell (i:=1) rfl;have c2:=A1.cell (i:=2) rfl;have c3:=A1.cell (i:=3) rfl;clear A5 A1;generalize((((w2.setCell ⟨p,0,none⟩ (.int .i64 0)).setCell ⟨p,1,none⟩ (.int .i64 0)).setCell ⟨p,2,none⟩ (.slice none 0 0)).setCell ⟨p,3,none⟩ (.slice none 0 0))=w3 at *;refine bodyPost_ret (by rw[results_cell_tmp rfl];go_simp;rfl) rfl ?_;exact⟨rfl,B8,B9⟩
theorem zg2(H:Zh w J K NW N S A [] (λ_=>False) (λ_=>False) T made U F 0)(o:Int)(b0:-9223372036854775808<=o)(b1:o<=9223372036854775807){i:Nat}{ob:Ob}(hi:Zz o=i)(ho:A i=some ob) :
 Calls prog 16 #[.pointer (some ⟨J.m,0,none⟩),.int .i64 o] w (z5m w J K NW N A made U F ob):=by
 obtain⟨E0,B1⟩:=H.idb ho;obtain⟨w1,A4⟩:=zx (w.alloc (.cells #[.int .i64 0,.int .i64 0,.slice none 0 0,.slice none 0 0] 28));have A5:Below w.heap.size w w1:=by rw[A4];exact zn (Below.refl _ _)
 have C5:Row w1 w.heap.size 28 [.int .i64 0,.int .i64 0,.slice none 0 0,.slice none 0 0]:=by rw[A4];exact Row.made _ _ _
 have A6:=zh (zjr (H.below A5) o b0 b1 hi ho);have C6:=zh (H.below A5);have C7:=zh (LU.of_below (J:=J) A5);have C8:=zh H.fixlt;have E1:=zh H.Blt;have B2:=zh C5;have C9:=zh A4;have HO:=zh ho;have hK:=H.ks;obtain⟨p,hp⟩:=zx (w.heap.size);rw[<-hp] at B2;have D0:Hid (∀k∈J.fix,k<p):=by rw[hp];exact C8
 have D1:=zh hp;clear H A4 A5 C5 hi ho;go_enter func16,ntmps16;go_wp2_with fail;rw[<-C9.out,<-hp];clear hp;go_call A6 as e w2 ⟨rfl,A7⟩;have B3:=zh (B2.out.keep (l:=[]) (.of_below A7) (by simp));have A0:=zh (C6.below A7);have B4:=zh (C7.trans (.of_below A7));have D2:=zh (znn A0 E0 B1);have m0:=A0.P.head.cell (i:=0) rfl;have m2:=A0.P.head.cell (i:=2) rfl;have m4:=A0.P.head.cell (i:=4) rfl;have ml:=A0.P.head.lt;clear A7 A6 C6 C7 B2 C9;go_wp2_with fail;go_call D2 as e w' ⟨rfl,A8⟩
 have B5:(∃s r,s<=K/\e=.returned (.tuple #[.int .i64 (s:Nat),.bool true])/\(S.sl s).id=i/\(S.sl s).res=some r)\/(S.dk i=some ob/\(e=.returned (.tuple #[.int .i64 0,.bool false])\/∃s,s<=K/\(S.sl s).res=none/\e=.returned (.tuple #[.int .i64 (s:Nat),.bool true]))):=by
  rcases A8 with⟨h1,h2⟩|⟨s,E7,hs,hid,h2⟩
  ·exact .inr ⟨by rw[A0.out.inv.away i (λs h=>absurd h (h2 s))];exact HO,.inl h1⟩
  ·cases hr:(S.sl s).res with
   | none =>
    refine .inr ⟨by
     rw[A0.out.inv.away i (λt h=>?_)];exact HO;have:=A0.out.inv.uniq t s (by rw[h];omega) (by rw[h,hid])
     rw[this];exact hr,.inr ⟨s,hs,hr,h2⟩⟩
   | some r=>exact .inl ⟨s,r,hs,h2,hid,hr⟩
 clear A8 D2;rcases B5 with⟨s,r,hs,rfl,hid,hr⟩|⟨B6,A8⟩
 case' inl =>
  obtain⟨y0,-,-,yl⟩:=A0.slot hs;have E2:(s:Int)<(K:Int)+1:=by omega
  have e0:yx (S.sl s)=.pointer (some ⟨r.ad,0,none⟩):=by unfold yx;rw[hr]
  rw[e0] at y0;have D3:=zh (zno A0 hr);have A6:=zh hid;clear e0 hid hr;go_wp2_with fail;go_call D3 as e w3 ⟨rfl,B7,S3,T3,A9,D4⟩;have E3:=zh A9;have B8:=zh (B4.trans B7);have B9:=zh (B7.rowNew B3.out D0.out (by decide));have B6:S3.dk i=some ob:=by have:=D4.dk;rw[A6.out] at this;rw[this];exact HO
  clear B7 D4 A0 B4 B3 D3 y0 yl m0 m2 m4 ml;have m0:=A9.P.head.cell (i:=0) rfl;have ml:=A9.P.head.lt;clear A9;have C0:=zh (zdu E3 i B1 ob B6)
 case' inr =>
  rcases A8 with rfl|⟨s,hs,hr,rfl⟩
  case' inr =>
   obtain⟨y0,-,-,yl⟩:=A0.slot hs;have E2:(s:Int)<(K:Int)+1:=by omega
   have e0:yx (S.sl s)=.pointer none:=by unfold yx;rw[hr]
   rw[e0] at y0;clear e0 hr
  all_goals
   have C0:=zh (zdu A0 i B1 ob B6);have B8:=B4;have B9:=B3
 all_goals
  go_wp2_with fail;go_call C0 as e w4 ⟨d,rfl,D5,A2,D6,D7,C1⟩;have A1:=C1.rowNew B9.out D0.out (by decide);have p0:=A1.cell (i:=0) rfl;have p1:=A1.cell (i:=1) rfl;have p2:=A1.cell (i:=2) rfl;have p3:=A1.cell (i:=3) rfl;have f0:=A1.free 0;have f1:=A1.free 1;have f2:=A1.free 2;have f3:=A1.free 3;have pl:=A1.lt;have A3:=z21 w4 p (.int .i64 d.cls) (.int .i64 d.kind) (.slice d.wa d.wn d.wc) (.slice d.ba d.bn d.bc);have D8:=z3b A1 (.int .i64 d.cls) (.int .i64 d.kind) (.slice d.wa d.wn d.wc) (.slice d.ba d.bn d.bc);have E4:=zh (D7.ownRow C8.out E1.out A1 (by rw[D1.out];exact Nat.le_refl _) (by decide) A3);have D9:=B8.trans C1;have E5:=zh (D9.fresh A3 (λx hx=>by simp at hx;subst hx;rw[D1.out];exact Nat.le_refl _));have C2:=B9.out.lt;have C3:=zh (D5.keep A2 A3 (λk hk=>by simp at hk;omega));have C4:=zh ((A2.keep A3 (λk hk=>by simp at hk;omega)).mono (base':=w.heap.size) B8.out.size);have E6:=zh D6;have B0:=zh D8;clear D5 A2 D6 D7 C1 A1 A3 D8 D9 C2 C0;go_wp2;have c0:=B0.cell (i:=0) rfl;have c1:=B0.cell (i:=1) rfl;have c2:=B0.cell (i:=2) rfl;have c3:=B0.cell (i:=3) rfl;generalize((((w4.setCell ⟨p,0,none⟩ (.int .i64 d.cls)).setCell ⟨p,1,none⟩ (.int .i64 d.kind)).setCell ⟨p,2,none⟩ (.slice d.wa d.wn d.wc)).setCell ⟨p,3,none⟩ (.slice d.ba d.bn d.bc))=w5 at *;refine bodyPost_ret (by rw[results_cell_tmp rfl];go_simp;rfl) rfl ?_;exact⟨E5,d,rfl,C3,C4,E6,_,_,E4⟩
end
theorem zzn(o:Int)(w:World)(b0:-9223372036854775808<=o)(b1:o<=9223372036854775807):Calls prog 31 #[.int .i64 o] w λe w'=>e=.returned (.bool (yh o))/\w=w':=by
 have H1:=zh (zb3 o w b0 b1);have H2:=zh (jr o w b0 b1);unfold yh;generalize zdg o=x at *;generalize yb o=y at *;generalize ziw o=a at *;generalize Zz o=b at *;cases x<;>cases y
 all_goals
  go_enter func31,ntmps31
  go_wp2_with (first
   | (go_at_call 68;go_call H1 as e w' ⟨rfl,rfl⟩)
   | (go_at_call 34;go_call H2 as e w' ⟨rfl,rfl⟩))
  go_ret;exact⟨rfl,rfl⟩
theorem zpu{ws:List Int}{i:Nat}{x:Int}(h:i<ws.length):splice ws i [x]=ws.set i x:=by
 unfold splice;refine List.ext_getElem? (λj=>?_);rw[List.getElem?_set];have hl:(ws.take i).length=i:=by simp;omega
 by_cases h1:i=j
 ·subst h1;rw[if_pos rfl,if_pos h,List.getElem?_append_right (by omega),hl,Nat.sub_self];rfl
 ·rw[if_neg h1];by_cases h2:j<i
  ·rw[List.getElem?_append_left (by omega),List.getElem?_take,if_pos h2]
  ·rw[List.getElem?_append_right (by omega),List.getElem?_append_right (by simp;omega),hl,List.getElem?_drop];congr 1;show i+1+(j-i-1)=j
   omega
section
variable{w:World}{J:LmI}{K NW N:Nat}{sls:List Sl}{V:Nat->Option (List Int)}{bn:Nat}{ids:List Int}{ins:List Bool}{T:Tb}{made U:Nat}{F:Nat->Nat}{busy:Nat}
theorem zfk(H:LmP w J K NW sls V bn ids ins T made U N F busy){hb:Nat}{ws:List Int}(hV:V hb=some ws){i:Nat}(hi:i<ws.length){x:Int}(hx:0<=x/\x<=65535)(g:Nat)(hg:g=w.heap.size) :
 Calls prog 35 #[.pointer (some ⟨J.h,0,none⟩),.int .i64 hb,.int .i64 i,.slice (some ⟨g,0,none⟩) 1 1] (w.alloc (.cells #[.int .i64 x] 3)) λe w'=>e=.returned (.int .i64 0)/\LmP w' J K NW sls (upF V hb (some (ws.set i x))) bn ids ins T made U N F busy/\LU J w w':=by
 subst hg;have A0:Below w.heap.size w (w.alloc (.cells #[.int .i64 x] 3)):=zn (Below.refl _ _);have HB:=H.below A0;have A1:=Row.made w [.int .i64 x] 3;have hc:=zor HB.heap hV i (some ⟨w.heap.size,0,none⟩) 1 1 [x] rfl (by omega) (zv.madeAt rfl) (λy hy=>by cases hy;exact HB.heap.gne A1 (by decide)) (λy hy=>by simp at hy;subst hy;exact hx);rw[zpu hi] at hc;go_call hc as e w' ⟨rfl,hv,hu⟩;exact⟨rfl,HB.heap' hu hv,(LU.of_below A0).trans (.of_hupd hu)⟩
end
section
variable{w:World}{J:LmI}{K NW N:Nat}{S:Lm}{A:Nat->Option Ob}{ex:List Int}{pe bl:Nat->Prop}{T:Tb}{made U:Nat}{F:Nat->Nat}{busy:Nat}
def zzr(w:World)(J:LmI)(K NW N:Nat)(S:Lm)(A:Nat->Option Ob)(T:Tb)(made U:Nat)(F:Nat->Nat)(r:Rs)(ws:List Int)(i n:Nat)(e:Ending)(w':World):Prop :=
 LU J w w'/\((e=.returned (.bool true)/\∃s x,1<=s/\s<=K/\x = { S.sl s with id:=n,refs:=(S.sl s).refs+1 }/\((S.sl s).id=n\/((S.sl s).id=0/\∀t,(S.sl t).id≠n))/\
  LmP w' J K NW (S.sls.set s x) (upF S.V r.hb (some (ws.set i ((2*s:Nat):Int)))) (K+3) (xa (S.sls.set s x)) (zc0 (S.sls.set s x)) T made U N F 0)\/
  (e=.returned (.bool false)/\Zh w' J K NW N S A [] (λ_=>False) (λ_=>False) T made U F 0))
theorem z1z(H:Zh w J K NW N S A [] (λ_=>False) (λ_=>False) T made U F 0){q:Nat}{r:Rs}(hr:(S.sl q).res=some r){ws:List Int}(hV:S.V r.hb=some ws){i:Nat}(hi:i<ws.length){n:Nat}(hn:1<=n)(C1:n<1073741824) :
 Calls prog 36 #[.pointer (some ⟨J.m,0,none⟩),.pointer (some ⟨J.sl,q*3,none⟩),.int .i64 i,.int .i64 n] w (zzr w J K NW N S A T made U F r ws i n):=by
 obtain⟨A9,C5,B0⟩:=H.inv.res_id hr;have hK:=H.ks;have HB:=zh (zya H hn C1);have HV:=zh hV;have HR:=zh hr;have ml:=H.P.head.lt;have B4:=H.lens;clear H hr hV A9;go_enter func36,ntmps36;go_wp2_with fail;go_call HB as e w1 ⟨A5,⟨s,C2,hs,rfl,A1,hc⟩|⟨rfl,A1⟩⟩
 ·have B5:s<S.sls.length:=by omega
  have A0:=A1.refsLe hs (by simp);have A6:(S.put s { S.sl s with id:=n }).sl s = { S.sl s with id:=n }:=by rw[Lm.sl_put B5,if_pos rfl]
  rw[A6] at A0;simp only at A0;obtain⟨y0,y1,y2,yl⟩:=A1.slot hs;rw[A6] at y2;have C3:w1.frozen? ⟨J.sl,s*3+2,none⟩=false:=A1.P.slots.free _;have m4:=A1.P.head.cell (i:=4) rfl;have ml1:=A1.P.head.lt;have C6:(s:Int)<(K:Int)+1:=by omega
  obtain⟨x,hx⟩:∃x:Sl,x = { S.sl s with id:=n,refs:=(S.sl s).refs+1 }:=⟨_,rfl⟩;obtain⟨rf,B6⟩:=zx ((S.sl s).refs);have A7:=A1.P.setRefs hs ((S.sl s).refs+1)
  have A8:(S.put s { S.sl s with id:=n }).sls.set s { (S.put s { S.sl s with id:=n }).sls.getD s z6 with refs:=(S.sl s).refs+1 } = S.sls.set s x:=by
   have:(S.put s { S.sl s with id:=n }).sls.getD s z6 = { S.sl s with id:=n }:=A6;rw[this,hx];show(S.sls.set s _).set s _=_
   rw[List.set_set]
  rw[A8] at A7
  have e1:xa (S.put s { S.sl s with id:=n }).sls=xa (S.sls.set s x):=by
   rw[<-A8];exact(ko (by rfl)).symm
  have e2:zc0 (S.put s { S.sl s with id:=n }).sls=zc0 (S.sls.set s x):=by
   rw[<-A8];exact(ct (by rfl)).symm
  rw[e1,e2] at A7;have A2:Hid (LmP (w1.setCell ⟨J.sl,s*3+2,none⟩ (.int .i64 ((S.sl s).refs+1:Nat))) J K NW (S.sls.set s x) S.V (K+3) (xa (S.sls.set s x)) (zc0 (S.sls.set s x)) T made U N F 0):=A7;have A3:=zh (A5.trans (LU.setSl J w1 (s*3+2) (.int .i64 ((S.sl s).refs+1:Nat))));rw[<-B6] at y2 A0 A2 A3;have HX:=zh hx;have HC:=zh hc
  have B1:Hid (((S.sls.set s x).getD q z6).res=some r):=by
   unfold Hid;rw[zdm B5];split
   ·next e=>rw[hx];subst e;exact HR
   ·exact HR
  have A4:((rf+1:Nat):Int)=(rf:Int)+1:=by omega
  rw[A4] at A2 A3;clear A4;clear A5 A1 hc A6 y0 y1 A7 A8 e1 e2 hx B6 HB;go_wp2_with fail;obtain⟨w2,B2⟩:=zx (w1.setCell ⟨J.sl,s*3+2,none⟩ (.int .i64 ((rf:Int)+1)));rw[<-B2] at A2 A3;rw[<-B2];clear B2 y2 yl C3 m4 ml1;have B7:=zh (A2.hS B0 B1);have B3:=zh (λv (hv:Below w2.heap.size w2 v)=>zfk (A2.out.below hv) HV.out hi (x:=((2*s:Nat):Int)) (by omega) v.heap.size rfl);have e2s:((2*s:Nat):Int)=2*(s:Int):=by omega
  rw[e2s] at B3;have mlw:=A2.out.head.lt;refine zm (λz=>z.cell? ⟨J.m,1,none⟩=some (.pointer (some ⟨J.h,0,none⟩))/\z.cell? ⟨J.sl,q*3,none⟩=some (.pointer (some ⟨r.ad,0,none⟩))/\z.cell? ⟨r.ad,0,none⟩=some (.int .i64 r.hb)) (zp [0,1,2,3,4,5,6,7,8,9,10,11,12,13,1014,1015]) (by kernel_rfl) (by kernel_rfl) (λ_ _ _ _ _ h=>h) (B7.out) ?_
  (repeat (refine zi rfl (λK hK=>?_);go_simp;(try go_bits);refine hK _ ?_;clear hK K))
  refine zl (.pointer (some ⟨J.h,0,none⟩)) rfl rfl (λx hS=>by obtain⟨s0,s1,s2⟩:=hS;go_simp) ?_
  (repeat (refine zi rfl (λK hK=>?_);go_simp;(try go_bits);refine hK _ ?_;clear hK K))
  refine zl (.pointer (some ⟨r.ad,0,none⟩)) rfl rfl (λx hS=>by obtain⟨s0,s1,s2⟩:=hS;go_simp) ?_
  (repeat (refine zi rfl (λK hK=>?_);go_simp;(try go_bits);refine hK _ ?_;clear hK K))
  refine zl (.int .i64 r.hb) rfl rfl (λx hS=>by obtain⟨s0,s1,s2⟩:=hS;go_simp) ?_
  (repeat (refine zi rfl (λK hK=>?_);go_simp;(try go_bits);refine hK _ ?_;clear hK K))
  refine zj rfl ?_;go_wp2_with fail;refine⟨(A2.below (zn (Zd (Below.refl _ _)))).hS B0 B1,?_⟩;refine zj rfl ?_;go_wp2_with fail;refine(B3 _ (Zd (Below.refl _ _))).mono ?_;rintro e w3 ⟨rfl,B8,B9⟩;have C0:=zh B8;have C4:=zh (A3.trans ((LU.of_below (J:=J) (Zd (Below.refl _ w2))).trans B9));clear B8 B9 B3 B7 A2 A3;go_wp2_with fail;refine⟨C0.hS B0 B1,?_⟩;refine zo ?_;go_wp2;go_ret;refine⟨C4,.inl ⟨rfl,s,x,C2,hs,HX,HC,?_⟩⟩;rw[e2s];exact C0
 ·have HF:Hid (zzr w J K NW N S A T made U F r ws i n (.returned (.bool false)) w1):=⟨A5,.inr ⟨rfl,A1⟩⟩;clear A5 A1 HB;go_wp2;go_ret;exact HF
end
def zj3(o:Ob)(n:Nat)(v:Int):Ob:={ o with W:=o.W.set n v }
theorem zf6{o:Ob}(h:o.good){n:Nat}{v:Int}(hk:o.kind=1)(hv:yh v=true):(zj3 o n v).good:=by
 refine⟨⟨h.1.1,?_⟩,h.2⟩;rcases h.1.2 with⟨h1,h2,h3,h4⟩|⟨h1,h2,h3⟩
 ·refine .inl ⟨h1,h2,by show(o.W.set n v).length<=1000;rw[List.length_set];exact h3,λx hx=>?_⟩;rcases List.mem_or_eq_of_mem_set hx with h5|h5
  ·exact h4 x h5
  ·rw[h5];exact hv
 ·omega
theorem vq{l:List Int}{n:Nat}(h:n<l.length)(v:Int)(j:Nat):(l.set n v).getD j 0=if j=n then v else l.getD j 0:=zdm h v 0 j
section
variable{S:Lm}{A:Nat->Option Ob}{K:Nat}{ex:List Int}{pe bl:Nat->Prop}
theorem qn.setWord{x:Int}(h:qn S A K [x] pe bl){s:Nat}{r:Rs}{o d:Ob}{ws:List Int}(hr:(S.sl s).res=some r)(ok:zhj S A K (S.sl s) r o d ws)(hk:o.kind=1){n:Nat}(hn:n<o.W.length){v:Int}(hv:yh v=true)
 (hx:0<=x/\x<=65535) (A1:vy K x) (d':Ob) (A2:d'.cls=d.cls) (A3:d'.kind=d.kind) (A4:d'.B=d.B) (A5:d'.W.length=d.W.length) (A6:∀j,j≠n->d'.W.getD j 0=d.W.getD j 0)
 (hm:vk (λs=>(S.sl s).id) x (d'.W.getD n 0)=v) (dirty:Bool) (hc:dirty=false->d'=zj3 o n v) :
 qn (Z0 S s r.hb (ws.set n x) dirty d') (upF A (S.sl s).id (some (zj3 o n v))) K [ws.getD n 0] pe bl:=by
 have A0:=h.good _ _ ok.ob
 have A7:ws.length=o.W.length:=by
  rw[ok.len];unfold nWd;rw[if_neg (by omega)];rcases A0.kinds with⟨_,_,_,a⟩|⟨a,_⟩
  ·exact a
  ·omega
 have hB:o.B=[]:=by
  rcases A0.kinds with⟨_,a,_⟩|⟨a,_⟩
  ·exact a
  ·omega
 refine h.change hr ok (zj3 o n v) d' (ws.set n x) dirty (zf6 A0 hk hv) (by rw[A2,ok.cls];rfl) ⟨rfl,by rw[A3];exact ok.kind.1⟩ ⟨by show(o.W.set n v).length=_;rw[List.length_set],rfl,by rw[A5];exact ok.size.1,by rw[A4];exact ok.size.2.1⟩ (by rw[List.length_set]) (λw hw=>?_) (λ_ w hw=>?_) (λ_ i hi=>?_) (λh2=>by omega) hc (λt ht=>?_) (λw hw=>?_)
 ·rcases List.mem_or_eq_of_mem_set hw with h5|h5
  ·exact ok.rng w h5
  ·rw[h5];exact hx
 ·rcases List.mem_or_eq_of_mem_set hw with h5|h5
  ·exact ok.wok hk w h5
  ·rw[h5];exact A1
 ·show vk _ _ _=(o.W.set n v).getD i 0
  rw[vq (by omega),vq hn];by_cases e:i=n
  ·subst e;rw[if_pos rfl,if_pos rfl];exact hm
  ·rw[if_neg e,if_neg e,A6 i e];exact ok.word hk i hi
 ·rw[if_pos hk,if_pos hk];have h1:=zuf ws n x t (by omega);rw[jy,zau,jy,zau];omega
 ·simp at hw;rw[hw,ze (by omega)];exact ok.wok hk _ (List.getElem_mem _)
end
section
variable{w:World}{J:LmI}{K NW N:Nat}{S:Lm}{A:Nat->Option Ob}{ex:List Int}{pe bl:Nat->Prop}{T:Tb}{made U:Nat}{F:Nat->Nat}{busy:Nat}
theorem zdt{s:Nat}{r:Rs}{ws':List Int}{dirty:Bool}{d':Ob}(hP:LmP w J K NW (S.sls.set s { S.sls.getD s z6 with res:=some { r with dirty:=dirty } }) (upF S.V r.hb (some ws')) (K+3) (xa S.sls) (zc0 S.sls) T made U N F busy)(hr:(S.sl s).res=some r)
 (A0:upF S.dk (S.sl s).id (some d')=zt T) (hi:qn (Z0 S s r.hb ws' dirty d') A K ex pe bl) (A1:K<=800):Zh w J K NW N (Z0 S s r.hb ws' dirty d') A ex pe bl T made U F busy:=by
 have e1:(Z0 S s r.hb ws' dirty d').sls=S.sls.set s { S.sls.getD s z6 with res:=some { r with dirty:=dirty } }:=by
  unfold Z0;simp only;rw[hr];rfl
 refine⟨?_,A0,hi,A1⟩;have h1:=ko (l:=S.sls) (s:=s) (x:={ S.sls.getD s z6 with res:=some { r with dirty:=dirty } }) rfl;have h2:=ct (l:=S.sls) (s:=s) (x:={ S.sls.getD s z6 with res:=some { r with dirty:=dirty } }) (by have:(S.sls.getD s z6).res=some r:=hr;rw[this];rfl);rw[e1,h1,h2];exact hP
theorem setSame{s:Nat}{r:Rs}(hs:s<S.sls.length)(hr:(S.sl s).res=some r):S.sls.set s { S.sls.getD s z6 with res:=some { r with dirty:=r.dirty } } = S.sls:=by
 refine zil ?_;have h1:(S.sls.getD s z6).res=some r:=hr
 have e:({ S.sls.getD s z6 with res:=some { r with dirty:=r.dirty } }:Sl)=S.sls.getD s z6:=by
  cases hx:S.sls.getD s z6 with
  | mk a b c=>rw[hx] at h1;simp only at h1 ⊢;rw[h1]
 rw[e,zg,ze hs];rfl
def ze0(A:Nat->Option Ob)(o i v:Int):Int:=if plE A o 1 i≠0 then plE A o 1 i else if yh v then 0 else 2
def zwy(A:Nat->Option Ob)(o i v:Int):Nat->Option Ob :=
 match qz A (Zz o) with
 | some ob=>upF A (Zz o).toNat (some (zj3 ob i.toNat v))
 | none=>A
theorem zfa{o kind i:Int}(h:plE A o kind i=0):∃(k n:Nat) (ob:Ob),Zz o=k/\A k=some ob/\ob.kind=kind/\i=n/\n<ob.size/\qz A (Zz o)=some ob:=by
 unfold plE at h;cases hl:qz A (Zz o) with
 | none=>rw[hl] at h;cases h
 | some ob =>
  rw[hl] at h;simp only at h;obtain⟨k,h1,h2⟩:=vn hl;by_cases h3:ob.kind=kind
  ·rw[if_neg (by simp[h3])] at h;by_cases h4:i<0\/(ob.size:Int)<=i
   ·rw[if_pos h4] at h;cases h
   ·exact⟨k,i.toNat,ob,h1,h2,h3,by omega,by omega,rfl⟩
  ·rw[if_pos h3] at h;cases h
theorem zn9{o kind i:Int}:plE A o kind i≠3:=by
 unfold plE;split
 ·decide
 ·split
  ·decide
  ·split<;>decide
theorem zmn{o i v:Int}{k n:Nat}{ob:Ob}(h1:Zz o=k)(h2:A k=some ob)(h3:i=n):zwy A o i v=upF A k (some (zj3 ob n v)):=by
 unfold zwy qz;rw[h1,h3,if_pos (by omega),Int.toNat_natCast,Int.toNat_natCast,h2]
theorem zxc(h:qn S A K [] (λ_=>False) bl){s n:Nat}{x:Sl}(A1:1<=s)(hs:s<=K)(hn:1<=n)(A2:n<1073741824)(hc:(S.sl s).id=n\/((S.sl s).id=0/\∀t,(S.sl t).id≠n))(hx:x = { S.sl s with id:=n,refs:=(S.sl s).refs+1 }) :
 qn (S.put s x) A K [((2*s:Nat):Int)] (λ_=>False) bl:=by
 have A0:s<S.sls.length:=by rw[h.len];omega
 have h1:=h.bind2 A1 hs hn A2 hc;have e1:(S.put s { S.sl s with id:=n }).sl s = { S.sl s with id:=n }:=by rw[Lm.sl_put A0,if_pos rfl]
 have h2:=h1.ref hs (by rw[e1];simp only;omega);rw[e1] at h2
 have e2:(S.put s { S.sl s with id:=n }).put s { { S.sl s with id:=n } with refs:=({ S.sl s with id:=n }:Sl).refs+1 } = S.put s x:=by
  rw[hx];unfold Lm.put;simp only;rw[List.set_set]
 rw[e2] at h2;refine h2.mono (λt ht _ _ h5=>?_);rcases ht with ht|ht
 ·exact ht
 ·rw[ht,Lm.sl_put A0,if_pos rfl,hx] at h5;simp at h5
end
end Go.Proofs.YtoeibiahbenpcaaGreatDoor
