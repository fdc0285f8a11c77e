/- Part. -/
import Derived.Test.YtoeibiahbenpcaaGreatDoorA27
import Derived.ScopeJumps
namespace Go.Proofs.YtoeibiahbenpcaaGreatDoor
open RowKit Maps Proofs.Tryz
set_option linter.unusedVariables false
set_option maxRecDepth 99999
set_option maxHeartbeats 9000000
section
variable{w:World}{J:LmI}{K NW N:Nat}{S:Lm}{A:Nat->Option Ob}{ex:List Int}{pe bl:Nat->Prop}{T:Tb}{made U:Nat}{F:Nat->Nat}{busy:Nat}
theorem zno(H:Zh w J K NW N S A ex pe bl T made U F busy){s:Nat}{r:Rs}(hr:(S.sl s).res=some r) :
 Calls prog 42 #[.pointer (some ⟨J.m,0,none⟩),.pointer (some ⟨J.sl,s*3,none⟩)] w (zj2 w J K NW N S A ex pe bl made U F busy s r):=by
 cases hd:r.dirty with
 | false=>exact zu5 H hr hd
 | true=>exact zq7 H hr hd
structure z3e(S S':Lm)(A:Nat->Option Ob)(s busy:Nat):Prop where
 dk:∀i,S.dk i=A i->S'.dk i=A i
 out:(S'.sl s).res=none
 ot:∀t,t≠s->(S'.sl t).res=(S.sl t).res
 id:∀t,(S'.sl t).id=(S.sl t).id\/((S'.sl t).id=0/\(S'.sl t).res=none/\t≠busy)
theorem zeb{s t busy:Nat}(hs:s<S.sls.length):((kn S busy s).sl t).res=(S.sl t).res/\(((kn S busy s).sl t).id=(S.sl t).id\/(((kn S busy s).sl t).id=0/\(S.sl t).res=none/\t≠busy)):=by
 unfold kn;split
 ·next h =>
  rw[Lm.sl_put hs];by_cases e:t=s
  ·subst e;rw[if_pos rfl];exact⟨rfl,.inr ⟨rfl,h.1,h.2.2⟩⟩
  ·rw[if_neg e];exact⟨rfl,.inl rfl⟩
 ·exact⟨rfl,.inl rfl⟩
theorem zhn{wv:Int}{t busy:Nat}(hs:S.sls.length=K+1)(hK:K<=800)(A0:vy K wv):((vz S busy wv).sl t).res=(S.sl t).res/\(((vz S busy wv).sl t).id=(S.sl t).id\/(((vz S busy wv).sl t).id=0/\(S.sl t).res=none/\t≠busy)):=by
 unfold vz;by_cases hp:ym wv
 ·rw[if_neg (by rcases hp with h|h<;>omega)];exact⟨rfl,.inl rfl⟩
 ·obtain⟨s,rfl,h1,h2⟩:=A0.slot hp;have e:(((2*s:Nat):Int) / 2).toNat=s:=by omega
  rw[if_pos (by omega),e];have hl:s<S.sls.length:=by omega
  have key:∀t,((S.put s { S.sl s with refs:=(S.sl s).refs-1 }).sl t).res=(S.sl t).res/\((S.put s { S.sl s with refs:=(S.sl s).refs-1 }).sl t).id=(S.sl t).id:=λt=>by
   rw[Lm.sl_put hl];by_cases ht:t=s
   ·subst ht;rw[if_pos rfl];exact⟨rfl,rfl⟩
   ·rw[if_neg ht];exact⟨rfl,rfl⟩
  have h3:=zeb (S:=S.put s { S.sl s with refs:=(S.sl s).refs-1 }) (s:=s) (t:=t) (busy:=busy) (by unfold Lm.put;simp;exact hl);rw[(key t).1,(key t).2] at h3;exact h3
theorem zwp(S:Lm)(busy:Nat)(wv:Int):(vz S busy wv).dk=S.dk:=by
 unfold vz kn Lm.put;split
 ·split<;>rfl
 ·rfl
structure Lft(S S':Lm)(busy:Nat):Prop where
 res:∀t,(S'.sl t).res=(S.sl t).res
 id:∀t,(S'.sl t).id=(S.sl t).id\/((S'.sl t).id=0/\(S.sl t).res=none/\t≠busy)
 dk:S'.dk=S.dk
theorem Lft.refl(S:Lm)(busy:Nat):Lft S S busy:=⟨λ_=>rfl,λ_=>.inl rfl,rfl⟩
theorem Lft.trans{S S' S'':Lm}{busy:Nat}(h:Lft S S' busy)(k:Lft S' S'' busy):Lft S S'' busy :=
 ⟨λt=>(k.res t).trans (h.res t),λt=>by
  rcases k.id t with h1|⟨h1,h2,h3⟩
  ·rw[h1];exact h.id t
  ·exact .inr ⟨h1,(h.res t)▸h2,h3⟩,k.dk.trans h.dk⟩
theorem Lft.unref{wv:Int}{busy:Nat}(hs:S.sls.length=K+1)(hK:K<=800)(A0:vy K wv):Lft S (vz S busy wv) busy :=
 ⟨λt=>(zhn hs hK A0).1,λt=>(zhn hs hK A0).2,zwp _ _ _⟩
theorem Lft.loose{s busy:Nat}(hs:s<S.sls.length):Lft S (kn S busy s) busy :=
 ⟨λt=>(zeb hs).1,λt=>(zeb hs).2,by unfold kn Lm.put;split<;>rfl⟩
theorem LU.owns{w w':World}(u:LU J w w'){B n z:Nat}{e:TypeId}{v:Value}{xs:List Value}(h:w.ownsRow B e z v n xs)(hf:∀k∈J.fix,k<B)(he:¬zid e):w'.ownsRow B e z v n xs:=by
 obtain⟨l,ul,hl⟩:=u.upd;refine ul.owns h (λk hk hm=>?_);obtain⟨h1,ys,h2⟩:=Zg h k hk;rcases hl k hm with h3|⟨_,t,xs,h3,h4⟩|⟨_,cs,t,r,h3,h4⟩
 ·have:=hf k h3;omega
 ·rw[Row,show w.heap[k]?=_ from h2] at h3;cases h3;exact he h4
 ·rw[show w.heap[k]?=_ from h2] at h3;cases h3;exact he h4
theorem LmP.hS{w:World}{sls:List Sl}{V:Nat->Option (List Int)}{bn:Nat}{ids:List Int}{ins:List Bool}(H:LmP w J K NW sls V bn ids ins T made U N F busy){s:Nat}(hs:s<=K){r:Rs}(hr:(sls.getD s z6).res=some r):w.cell? ⟨J.m,1,none⟩=some (.pointer (some ⟨J.h,0,none⟩))/\w.cell? ⟨J.sl,s*3,none⟩=some (.pointer (some ⟨r.ad,0,none⟩))/\w.cell? ⟨r.ad,0,none⟩=some (.int .i64 r.hb):=by
 refine⟨H.head.cell (i:=1) rfl,?_,(H.resid s r hr).2.cell (i:=0) rfl⟩;have y0:=H.slots.cell (Z6 (l:=sls) (s:=s) (by rw[H.len];omega)).1;have e0:yx (sls.getD s z6)=.pointer (some ⟨r.ad,0,none⟩):=by unfold yx;rw[hr]
 rw[e0] at y0;exact y0
structure Mid(S S1:Lm)(A:Nat->Option Ob)(s:Nat)(r1:Rs):Prop where
 sl:(S1.sl s).res=some r1
 id:∀t,(S1.sl t).id=(S.sl t).id
 ot:∀t,t≠s->(S1.sl t).res=(S.sl t).res
 dk:S1.dk (S1.sl s).id=A (S1.sl s).id
 dko:∀i,S.dk i=A i->S1.dk i=A i
theorem zhd.mid{S1:Lm}{s:Nat}{r:Rs}(h:zhd S S1 A s r):Mid S S1 A s { r with dirty:=false }:=by
 have hid:∀t,(S1.sl t).id=(S.sl t).id:=λt=>by
  by_cases e:t=s
  ·subst e;rw[h.sl]
  ·rw[h.ot t e]
 refine⟨by rw[h.sl],hid,λt ht=>by rw[h.ot t ht],by rw[hid];exact h.dk,λi hi=>?_⟩;by_cases e:i=(S.sl s).id
 ·subst e;exact h.dk
 ·rw[h.dko i e];exact hi
end
section
variable{w:World}{J:LmI}{K NW N:Nat}{S:Lm}{A:Nat->Option Ob}{ex:List Int}{pe bl:Nat->Prop}{T:Tb}{made U:Nat}{F:Nat->Nat}{busy:Nat}
def z5t(w:World)(J:LmI)(K NW N:Nat)(S:Lm)(A:Nat->Option Ob)(pe bl:Nat->Prop)(made U:Nat)(F:Nat->Nat)(busy s:Nat)(e:Ending)(w':World):Prop :=
 e=.returned (.tuple #[])/\LU J w w'/\∃S' T',Zh w' J K NW N S' A [] pe bl T' made U F busy/\z3e S S' A s busy
theorem zxb{S1:Lm}{s:Nat}{r1:Rs}(hP:LmP w J K NW (S1.sls.set s { S1.sls.getD s z6 with res:=none }) (upF S1.V r1.hb none) (K+3) (xa S1.sls) ((zc0 S1.sls).set s false) T made U N F busy)(A0:S1.dk=zt T)(hi:qn S1 A K [] pe bl)(A1:K<=800)(hr:(S1.sl s).res=some r1)(hd:S1.dk (S1.sl s).id=A (S1.sl s).id) :
 Zh w J K NW N (zbc S1 s r1.hb) A (Zv S1.V (S1.sl s)) (λt=>pe t\/t=s) bl T made U F busy:=by
 refine⟨?_,A0,hi.leave hr hd,A1⟩;have e1:=ko (l:=S1.sls) (s:=s) (x:={ S1.sls.getD s z6 with res:=none }) rfl;have e2:=zi7 S1.sls s { S1.sls.getD s z6 with res:=none };show LmP w J K NW (S1.sls.set s { S1.sls.getD s z6 with res:=none }) (upF S1.V r1.hb none) (K+3) (xa (S1.sls.set s { S1.sls.getD s z6 with res:=none })) (zc0 (S1.sls.set s { S1.sls.getD s z6 with res:=none })) T made U N F busy
 rw[e1,e2];exact hP
theorem ztr{S1 S2:Lm}{s:Nat}{r1:Rs}{hb:Nat}(hs:s<S1.sls.length)(hm:Mid S S1 A s r1)(hl:Lft (zbc S1 s hb) S2 busy):z3e S S2 A s busy:=by
 have h1:=zol (S:=S1) hs hb;refine⟨λi hi=>by rw[hl.dk];exact hm.dko i hi,by rw[hl.res,h1,if_pos rfl],λt ht=>by rw[hl.res,h1,if_neg ht];exact hm.ot t ht,λt=>?_⟩
 have hid:((zbc S1 s hb).sl t).id=(S.sl t).id:=by
  rw[h1];by_cases e:t=s
  ·subst e;rw[if_pos rfl];exact hm.id t
  ·rw[if_neg e];exact hm.id t
 rcases hl.id t with h2|⟨h2,h3,h4⟩
 ·exact .inl (h2.trans hid)
 ·exact .inr ⟨h2,by rw[hl.res];exact h3,h4⟩
theorem zo8(H:Zh w J K NW N S A [] pe bl T made U F busy){s:Nat}{r:Rs}(hr:(S.sl s).res=some r)(hb:busy≠0->pe busy)(keep:Bool)(E6:keep=false->S.dk (S.sl s).id=A (S.sl s).id){w0:World}(E7:LU J w0 w) :
 Calls prog 47 #[.pointer (some ⟨J.m,0,none⟩),.int .i64 s,.bool keep] w (z5t w0 J K NW N S A pe bl made U F busy s):=by
 obtain⟨hid,J6,B8⟩:=H.inv.res_id hr;have D2:=zh (zno H hr);have k4:=H.P.head.cell (i:=4) rfl;have ml:=H.P.head.lt;have hK:=H.ks;have E8:=zh H;have C4:=zh E7;have E9:=zh hb;have D3:=zh E6;clear E7 hb E6;cases keep
 case' true =>
  clear D3;clear H;go_enter func47,ntmps47;go_wp2_with fail;go_call D2 as e w ⟨rfl,F0,S1,T1,D4,F1⟩;have HU:=zh (C4.trans F0);have A1:=zh D4;obtain⟨r1,A2⟩:∃r1:Rs,r1 = { r with dirty:=false }:=⟨_,rfl⟩;have A9:=F1.mid;rw[<-A2] at A9;have HM:=zh A9;clear F0 D4 F1 D2 k4 A2 A9 E8 C4 hr hid ml
 case' false =>
  obtain⟨S1,B0⟩:=zx (S);obtain⟨r1,A2⟩:=zx (r);obtain⟨T1,F2⟩:=zx (T);have A1:Hid (Zh w J K NW N S1 A [] pe bl T1 made U F busy):=by rw[B0,F2];exact H
  have HM:Hid (Mid S S1 A s r1):=⟨by rw[B0,A2];exact hr,λt=>by rw[B0],λt _=>by rw[B0],by rw[B0];exact D3.out rfl,λi hi=>by rw[B0];exact hi⟩;have HU:=C4;clear B0 A2 F2 E8 C4 D2 D3 hr hid;clear H;go_enter func47,ntmps47;go_wp2_with fail;clear k4 ml
 all_goals
  have A2:(S1.sl s).res=some r1:=HM.out.sl;have B1:=zh A2;obtain⟨o,d,ws,ok⟩:=A1.inv.res s r1 A2
  have B9:ws.length<=1000:=by
   have h3:=(A1.inv.good _ _ ok.ob).size_le;have h4:=ok.len;unfold nWd at h4;split at h4<;>omega
  obtain⟨ex,D5⟩:=zx (Zv S1.V (S1.sl s))
  have B2:ex=if r1.kind=1 then ws else []:=by
   rw[D5,xi A2,ok.V];rfl
  have I1:ex.length<=1000:=by
   rw[B2];split
   ·exact B9
   ·simp
  have A6:=zh ok;have I2:=zh D5;have D6:=zh B2;clear ok D5 B2 A2;go_wp2;go_loopw [7,8] (λu7 i wr=>∃k:Nat,k<=ex.length/\i=.int .i64 k/\Hid (Zh wr J K NW N S1 A [] pe bl T1 made U F busy)/\Hid (wr.ownsRow w.heap.size 3 1 u7 k ((ex.take k).map (Value.int .i64)))/\Hid (LU J w wr)) (λ_ i _=>ex.length-(intOf i).toNat)
  case atStart=>exact⟨0,Nat.zero_le _,rfl,A1,World.ownsRow_nil _ _ _ _,LU.refl _ _⟩
  case round =>
   obtain⟨k,hk,rfl,HL,HO,A4⟩:=hrel;have hS:=HL.hS B1;obtain⟨m1,y0,z0⟩:=hS;have C0:=HL.resrow B1;have z1:=C0.cell (i:=1) rfl;have z2:=C0.cell (i:=2) rfl;have zl:=C0.lt;have yl:=(HL.slot B8).2.2.2;by_cases A3:k<ex.length
   ·have A7:r1.kind=1:=by
     have:=D6.out;by_cases h:r1.kind=1
     ·exact h
     ·rw[if_neg h] at this;rw[this] at A3;simp at A3
    have C5:ex=ws:=by rw[D6.out,if_pos A7]
    have D7:ex.length=r1.size:=by
     rw[C5,A6.out.len];have h5:=A6.out.kind.2;have h6:=A6.out.size.2.2;unfold nWd;rw[if_neg (by omega),h6]
    obtain⟨xw,B3⟩:=zx (ws.getD k 0);have D8:=zh (λv (hv:Below wr.heap.size wr v)=>zed (HL.out.P.heap.below hv) A6.out.V k (by rw[<-C5];exact A3));rw[<-B3] at D8;have I3:=zh B3;have D9:=zh C5;have F3:(k:Int)<(r1.size:Int):=by omega
    have C1:=HL.hS B1;have m1l:=HL.P.head.lt;rw[A7] at z1;clear B3 C5 D7 C0;go_wp2_with fail;refine zm (λz=>z.cell? ⟨J.m,1,none⟩=some (.pointer (some ⟨J.h,0,none⟩))/\z.cell? ⟨J.sl,s*3,none⟩=some (.pointer (some ⟨r1.ad,0,none⟩))/\z.cell? ⟨r1.ad,0,none⟩=some (.int .i64 r1.hb)) (zp [0,1,2,3,4,5,6,7,8,9,10,11,1012,13,14,15,16,17]) (by kernel_rfl) (by kernel_rfl) (λ_ _ _ _ _ h=>h) (C1) ?_;clear C1 m1 y0 z0 z1 z2 zl yl
    (repeat (refine zi rfl (λK hK=>?_);go_simp;(try go_bits);refine hK _ ?_;clear hK K))
    refine zl (.pointer (some ⟨J.h,0,none⟩)) rfl rfl (λx hS=>by obtain⟨s0,s1,s2⟩:=hS;go_simp) ?_
    (repeat (refine zi rfl (λK hK=>?_);go_simp;(try go_bits);refine hK _ ?_;clear hK K))
    refine zl (.pointer (some ⟨r1.ad,0,none⟩)) rfl rfl (λx hS=>by obtain⟨s0,s1,s2⟩:=hS;go_simp) ?_
    (repeat (refine zi rfl (λK hK=>?_);go_simp;(try go_bits);refine hK _ ?_;clear hK K))
    refine zl (.int .i64 r1.hb) rfl rfl (λx hS=>by obtain⟨s0,s1,s2⟩:=hS;go_simp) ?_
    (repeat (refine zi rfl (λK hK=>?_);go_simp;(try go_bits);refine hK _ ?_;clear hK K))
    refine zj rfl ?_;go_wp2_with fail;refine(D8 _ (Zd (Below.refl _ _))).mono ?_;rintro e w2 ⟨rfl,F4⟩;have C6:Below wr.heap.size wr w2:=zy (Zd (Below.refl _ wr)) F4;have E0:=zh (HL.below C6);have B4:=zh ((Upd.of_below (l:=[]) C6).ownsAbove HO.out (by simp));have B5:=zh (A4.trans (.of_below C6));clear F4 C6 D8 HL HO A4;go_wp2_with fail;refine⟨by have:=E0.out.hS B1.out;exact this,?_⟩
    (repeat (refine zi rfl (λK hK=>?_);go_simp;(try go_bits);refine hK _ ?_;clear hK K))
    refine zo ?_;have hbs:w.heap.size<=w2.heap.size:=B5.out.size;have C2:∀u∈[Value.int .i64 xw],u.oneCell'=true:=λu hu=>by simp at hu;subst hu;rfl
    go_wp2_with (at_builtin;refine Zb rfl _ _ 25 rfl w.heap.size 3 (.int .i64 0) 1 8 underlying25 Zx rfl (by decide) _ k _ rfl (B4.out.alloc _) _ 1 1 [.int .i64 xw] rfl rfl (zv.madeAt rfl) C2 (by unfold maxLen;omega) (by omega) (Nat.le_trans hbs (by simp)) ?_);intro v3 w3 own3 gr3;have E1:Below w2.heap.size w2 (w2.alloc (.cells #[.int .i64 xw] 3)):=(Below.refl _ _).alloc (Nat.le_refl _) _;have u3:Upd (u7.ownBlock.toList) (w2.alloc (.cells #[.int .i64 xw] 3)) w3:=⟨gr3.os,gr3.tape,gr3.output,gr3.size,λj hj hn=>gr3.block j hj (λe=>hn (by rw[<-e];simp))⟩;have A0:∀x∈u7.ownBlock.toList,w.heap.size<=x/\∃ys,Row (w2.alloc (.cells #[.int .i64 xw] 3)) x 3 ys:=λx hx=>Zg (B4.out.alloc _) x (by simpa using hx)
    have I4:=zh ((E0.below E1).newer (w0:=w) A1.fixlt A1.Blt u3 (λx hx=>by
     obtain⟨h1,ys,h2⟩:=A0 x hx;refine⟨h1,λcs t rr he=>?_⟩;rw[show(w2.alloc _).heap[x]?=_ from h2] at he;cases he
     decide))
    have C7:=zh ((B5.trans (.of_below E1)).fresh u3 (λx hx=>(A0 x hx).1))
    have C8:Hid (w3.ownsRow w.heap.size 3 1 v3 (k+1) ((ex.take (k+1)).map (Value.int .i64))):=by
     have e1:ex.take (k+1)=ex.take k++[xw]:=by
      rw[List.take_add_one,I3.out,<-D9.out,zg,ze A3];rfl
     rw[e1,List.map_append,List.map_take];exact own3
    clear own3 gr3 E1 u3 A0 C2 hbs E0 B4 B5;go_wp2;go_roundw
    case rel=>exact⟨k+1,by omega,by go_num,I4.out,C8.out,C7.out⟩
    case measure=>simp[intOf];omega
   ·obtain rfl:k=ex.length:=by omega
    have hO:=HO.out;rw[List.take_length] at hO;have B4:=zh hO;have C1:=HL.hS B1;have F5:=zh (λv (hv:Below wr.heap.size wr v)=>z03 (HL.P.heap.below hv) A6.V);clear hO HO C0 A3;by_cases A7:r1.kind=1
    case' pos =>
     have D7:ex.length=r1.size:=by
      rw[D6.out,if_pos A7,A6.out.len];have h5:=A6.out.kind.2;have h6:=A6.out.size.2.2;unfold nWd;rw[if_neg (by omega),h6]
     have F3:¬((ex.length:Int)<(r1.size:Int)):=by omega
     rw[A7] at z1;clear D7 A7;go_wp2_with fail;clear F3
    case' neg =>
     have I5:(r1.kind == 1)=false:=by simpa using A7
     clear A7;go_wp2_with fail;clear I5
    all_goals
     refine zm (λz=>z.cell? ⟨J.m,1,none⟩=some (.pointer (some ⟨J.h,0,none⟩))/\z.cell? ⟨J.sl,s*3,none⟩=some (.pointer (some ⟨r1.ad,0,none⟩))/\z.cell? ⟨r1.ad,0,none⟩=some (.int .i64 r1.hb)) (zp [0,1,2,3,4,5,6,7,8,9,10,1011]) (by kernel_rfl) (by kernel_rfl) (λ_ _ _ _ _ h=>h) (C1) ?_;clear C1 m1 y0 z0 z1 z2 zl yl
     (repeat (refine zi rfl (λK hK=>?_);go_simp;(try go_bits);refine hK _ ?_;clear hK K))
     refine zl (.pointer (some ⟨J.h,0,none⟩)) rfl rfl (λx hS=>by obtain⟨s0,s1,s2⟩:=hS;go_simp) ?_
     (repeat (refine zi rfl (λK hK=>?_);go_simp;(try go_bits);refine hK _ ?_;clear hK K))
     refine zl (.pointer (some ⟨r1.ad,0,none⟩)) rfl rfl (λx hS=>by obtain⟨s0,s1,s2⟩:=hS;go_simp) ?_
     (repeat (refine zi rfl (λK hK=>?_);go_simp;(try go_bits);refine hK _ ?_;clear hK K))
     refine zl (.int .i64 r1.hb) rfl rfl (λx hS=>by obtain⟨s0,s1,s2⟩:=hS;go_simp) ?_
     (repeat (refine zi rfl (λK hK=>?_);go_simp;(try go_bits);refine hK _ ?_;clear hK K))
     refine zj rfl ?_;go_wp2_with fail;refine(F5 _ (Zd (Below.refl _ _))).mono ?_;rintro e w2 ⟨rfl,F6,C9⟩;have E2:=LU.of_below (J:=J) (Zd (Below.refl _ wr));have B6:=zh ((HL.P.below (Zd (Below.refl _ wr))).heap' C9 F6);have B5:=zh (A4.trans (E2.trans (.of_hupd C9)));have C8:=zh ((E2.trans (.of_hupd C9)).owns B4.out A1.out.fixlt (by decide));clear E2 F6 C9 B4 A4 F5;go_wp2_with fail;refine⟨B6.hS B8 B1,?_⟩;refine zo ?_;have m3:=B6.head.cell (i:=3) rfl;have ml:=B6.out.head.lt;have F7:=zh (zve B6.out.clk s (by omega) false);go_wp2_with fail;go_call F7 as e w3 ⟨rfl,F8,F9⟩;have A5:Upd [J.c,J.cp] w2 w3:=F9.mono (λx hx=>by simp at hx;simp[hx]);have B7:=B6.clk' A5 F8;have E3:s<S1.sls.length:=by rw[B7.len];omega
     have C7:=zh (B5.trans (.clock A5));have E4:=zh ((LU.clock (J:=J) A5).owns C8.out A1.out.fixlt (by decide));have J7:w3.frozen? ⟨J.sl,s*3,none⟩=false:=B7.slots.free _;have J8:=B7.slots.cell (Z6 E3).1;have D4:=B7.slots.lt;have G0:=B7.setRes B8 none (λr h=>by cases h);have G1:=zh (zxb G0 HL.dk HL.inv HL.ks B1 HM.dk);rw[<-I2.out] at G1;obtain⟨ua,uc,I6,-,-,-⟩:=zk E4;subst I6;have G2:=zh E3;have I7:=zh (C7.trans (LU.setSl J w3 (s*3) (.pointer none)));have I8:=zh ((LU.setSl J w3 (s*3) (.pointer none)).owns E4.out A1.out.fixlt (by decide));clear B7 G0 A5 F9 F8 F7 B6 C8 E4 B5 C7 m3 HL E3;go_wp2;go_loopw [87] (λi wr2=>∃j:Nat,∃S2,j<=ex.length/\i=.int .i64 j/\Hid (Zh wr2 J K NW N S2 A (ex.drop j) (λt=>pe t\/t=s) bl T1 made U F busy)/\Hid (Lft (zbc S1 s r1.hb) S2 busy)/\Hid (wr2.ownsRow w.heap.size 3 1 (.slice ua ex.length uc) ex.length (ex.map (Value.int .i64)))/\Hid (LU J w wr2)) (λi _=>ex.length-(intOf i).toNat)
     case atStart=>exact⟨0,_,Nat.zero_le _,rfl,G1,Lft.refl _ _,I8,I7⟩
     case round =>
      obtain⟨j,S2,hj,rfl,HL,HF,HO,A4⟩:=hrel;by_cases A3:j<ex.length
      ·obtain⟨_,_,hv,rd,-,-⟩:=zk HO;cases hv
       obtain⟨b,off,rfl,I9,G3⟩:=rd.at (by simp;omega);obtain⟨xw,B3⟩:=zx (ex.getD j 0);have C3:=G3 j (.int .i64 xw) (by rw[B3];exact zr A3)
       have G4:ex.drop j=xw::ex.drop (j+1):=by
        rw[List.drop_eq_getElem_cons A3,B3,zg,ze A3];rfl
       have hL:=HL.out;rw[G4] at hL;have G5:=zh (zfl hL (λh=>.inl (E9.out h)) (by simp;omega));have A8:=hL.inv.len;have J0:=zh (HF.out.trans (Lft.unref (busy:=busy) A8 hL.ks (hL.inv.exok xw (by simp))));clear hL G4 B3 HL HF rd A8 G3;go_wp2_with fail;go_call G5 as e w5 ⟨rfl,G6,E5⟩;have J1:=zh G6;have J2:=zh (A4.trans E5);have J3:=zh (E5.owns HO.out A1.out.fixlt (by decide));clear G6 E5 A4 HO G5 C3;go_wp2;go_roundw
       case rel=>exact⟨j+1,_,by omega,by go_num,J1.out,J0.out,J3.out,J2.out⟩
       case measure=>simp[intOf];omega
      ·obtain rfl:j=ex.length:=by omega
       have hL:=HL.out;rw[List.drop_length] at hL;obtain⟨-,y1,-,yl⟩:=hL.slot B8;have D0:=zh hL;have G7:=zh (zo6 hL B8);have G8:=zh (HU.trans A4);have ml5:=hL.P.head.lt;have J4:Hid (s<S2.sls.length):=by unfold Hid;rw[hL.lens];omega
       clear hL HL A4 HO A3;by_cases hz:(S2.sl s).id=0
       ·rw[hz] at y1;have HZ:=zh hz;clear hz;go_wp2;go_end0;refine⟨rfl,G8,S2,T1,⟨D0.P,D0.dk,D0.inv.mono (λt ht h1 _ _=>?_),D0.ks⟩,ztr G2 HM HF⟩;rcases ht with ht|rfl
        ·exact ht
        ·exact absurd HZ h1
       ·generalize hq:(S2.sl s).id=q at *;have J9:((q:Int) != 0)=true:=by simp;omega
        clear hz;go_wp2_with fail;go_call G7 as e w6 ⟨rfl,G9,I0⟩;have D1:=zh G9;have J5:=zh (G8.trans I0);clear G9 I0 G7 y1 yl;go_wp2;go_end0;refine⟨rfl,J5,kn S2 busy s,T1,⟨D1.P,D1.dk,D1.inv.mono (λt ht h1 _ _=>?_),D1.ks⟩,ztr G2 HM (HF.trans (Lft.loose J4))⟩;obtain⟨h2|h2,h3⟩:=ht
        ·exact h2
        ·have:=h3 h2;rw[this];exact E9.out (by omega)
end
def zxe:Value->Bool | .pointer (some _)=>true|_=>false
def zw2(l:List Sl):Nat:=l.countP (λx=>x.res.isSome)
def inW(w:World)(b:Nat):Nat:=match w.heap[b]? with|some (.cells cs _ _)=>cs.toList.countP zxe|_=>0
theorem zla:∀l:List Sl,(ja l).countP zxe=zw2 l
 | []=>rfl
 | x::l=>by
  have ih:=zla l;show(zik x++ja l).countP zxe=(x::l).countP _
  rw[List.countP_append,ih,List.countP_cons]
  have:(zik x).countP zxe=if x.res.isSome then 1 else 0:=by
   unfold zik yx;cases x.res<;>rfl
  rw[this];unfold zw2;omega
theorem zlp{α:Type}{p q:α->Bool}{d:α}:∀ {l m:List α},l.length=m.length->(∀i,i<l.length->p (l.getD i d)=true->q (m.getD i d)=true)->l.countP p<=m.countP q
 | [],m,_,_=>by simp
 | x::l,[],h,_=>by simp at h
 | x::l,y::m,h,hi=>by
  have ih:=zlp (l:=l) (m:=m) (d:=d) (by simpa using h) (λi h1 h2=>by have:=hi (i+1) (by simp;omega);simp at this ⊢;exact this (by simpa using h2));have h0:=hi 0 (by simp);simp at h0;rw[List.countP_cons,List.countP_cons];cases hp:p x
  ·simp;omega
  ·rw[h0 hp];simp;omega
theorem zlo{α:Type}{p q:α->Bool}{d:α}:∀ {l m:List α} {s:Nat},l.length=m.length->s<l.length->p (l.getD s d)=false->q (m.getD s d)=true->(∀i,i<l.length->p (l.getD i d)=true->q (m.getD i d)=true)->l.countP p<m.countP q
 | [],m,s,_,hs,_,_,_=>by simp at hs
 | x::l,[],s,h,_,_,_,_=>by simp at h
 | x::l,y::m,0,h,_,h1,h2,hi=>by
  have:=zlp (l:=l) (m:=m) (d:=d) (p:=p) (q:=q) (by simpa using h) (λi h1 h2=>by have:=hi (i+1) (by simp;omega);simp at this ⊢;exact this (by simpa using h2));simp at h1 h2;rw[List.countP_cons,List.countP_cons,h1,h2];simp;omega
 | x::l,y::m,s+1,h,hs,h1,h2,hi=>by
  have ih:=zlo (l:=l) (m:=m) (s:=s) (d:=d) (p:=p) (q:=q) (by simpa using h) (by simpa using hs) (by simpa using h1) (by simpa using h2) (λi h1 h2=>by have:=hi (i+1) (by simp;omega);simp at this ⊢;exact this (by simpa using h2));have h0:=hi 0 (by simp);simp at h0;rw[List.countP_cons,List.countP_cons];cases hp:p x
  ·simp;omega
  ·rw[h0 hp];simp;omega
section
variable{w:World}{J:LmI}{K NW N:Nat}{S:Lm}{A:Nat->Option Ob}{ex:List Int}{pe bl:Nat->Prop}{T:Tb}{made U:Nat}{F:Nat->Nat}{busy:Nat}
theorem LmP.inW{sls:List Sl}{V:Nat->Option (List Int)}{bn:Nat}{ids:List Int}{ins:List Bool}(H:LmP w J K NW sls V bn ids ins T made U N F busy):inW w J.sl=zw2 sls:=by
 unfold Go.Proofs.YtoeibiahbenpcaaGreatDoor.inW;rw[show w.heap[J.sl]?=_ from H.slots];show(List.countP _ (Array.toList _))=_
 exact zla sls
structure zl3(S S':Lm)(busy:Nat):Prop where
 res:∀t,(S'.sl t).res≠none->(S'.sl t).res=(S.sl t).res/\(S'.sl t).id=(S.sl t).id
 own:busy≠0->(S'.sl busy).id=(S.sl busy).id
theorem zl3.refl(S:Lm)(busy:Nat):zl3 S S busy:=⟨λ_ _=>⟨rfl,rfl⟩,λ_=>rfl⟩
theorem zl3.trans{S S' S'':Lm}{busy:Nat}(h:zl3 S S' busy)(k:zl3 S' S'' busy):zl3 S S'' busy :=
 ⟨λt ht=>by
  obtain⟨h1,h2⟩:=k.res t ht;obtain⟨h3,h4⟩:=h.res t (by rw[<-h1];exact ht)
  exact⟨h1.trans h3,h2.trans h4⟩,λhb=>(k.own hb).trans (h.own hb)⟩
theorem z3e.fade{S':Lm}{s:Nat}(h:z3e S S' A s busy):zl3 S S' busy:=by
 refine⟨λt ht=>?_,λhb=>?_⟩
 ·have A0:t≠s:=λe=>by subst e;exact ht h.out
  refine⟨h.ot t A0,?_⟩;rcases h.id t with h1|⟨_,h2,_⟩
  ·exact h1
  ·exact absurd h2 ht
 ·rcases h.id busy with h1|⟨_,_,h2⟩
  ·exact h1
  ·exact absurd rfl h2
theorem z3e.less{S':Lm}{s:Nat}{r:Rs}(h:z3e S S' A s busy)(hl:S'.sls.length=S.sls.length)(hs:s<S.sls.length)(hr:(S.sl s).res=some r):zw2 S'.sls<zw2 S.sls:=by
 refine zlo (d:=z6) hl (by omega) (s:=s) ?_ ?_ (λi _ hi=>?_)
 ·have:=h.out;unfold Lm.sl at this;rw[this];rfl
 ·unfold Lm.sl at hr;rw[hr];rfl
 ·show(S.sl i).res.isSome=true
  have hi:(S'.sl i).res.isSome=true:=hi;have A0:i≠s:=λe=>by subst e;rw[h.out] at hi;cases hi
  rw[<-h.ot i A0];exact hi
def zvx(w:World)(J:LmI)(K NW N:Nat)(S:Lm)(A:Nat->Option Ob)(pe bl:Nat->Prop)(T:Tb)(made U:Nat)(F:Nat->Nat)(busy:Nat)(e:Ending)(w':World):Prop :=
 LU J w w'/\((e=.returned (.int .i64 1)/\∃S' T',Zh w' J K NW N S' A [] pe bl T' made U F busy/\zl3 S S' busy/\zw2 S'.sls<zw2 S.sls)\/
  (e=.returned (.int .i64 0)/\Zh w' J K NW N S A [] pe bl T made U F busy/\∀s,(S.sl s).res=none))
theorem zo3(H:Zh w J K NW N S A [] pe bl T made U F busy)(hb:busy≠0->pe busy) :
 Calls prog 122 #[.pointer (some ⟨J.m,0,none⟩),.int .i64 1] w (zvx w J K NW N S A pe bl T made U F busy):=by
 have HV:=zh (zx0 H.P.clk);have k3:=H.P.head.cell (i:=3) rfl;have ml:=H.P.head.lt;have HH:=zh H;have HB:=zh hb;clear H hb;go_enter func122,ntmps122;go_wp2;go_step3;go_wp2;go_step3;go_wp2;refine wp_loop_rounds 2 ?_;rw[rounds_succ];go_wp2_with fail;go_call HV as e w1 ⟨hc,hu,⟨i,hi,A0,rfl⟩|⟨A3,rfl⟩⟩
 ·have hP:=HH.P.clk' hu hc;rw[zdk] at A0;obtain⟨r,hr⟩:=Option.isSome_iff_exists.1 A0;have HL:Hid (Zh w1 J K NW N S A [] pe bl T made U F busy):=⟨hP,HH.dk,HH.inv,HH.ks⟩;have HE:=zh (zo8 HL hr HB true (λh=>by cases h) (w0:=w) (.clock hu));have A1:i<S.sls.length:=by rw[HH.out.lens];exact hi
  have HR:=zh hr;clear hP A0 hu hc k3 ml HV;go_wp2_with fail;go_call HE as e w2 ⟨rfl,A4,S2,T2,A2,hg⟩;have HF:Hid (zvx w J K NW N S A pe bl T made U F busy (.returned (.int .i64 1)) w2):=⟨A4,.inl ⟨rfl,S2,T2,A2,hg.fade,hg.less (by rw[A2.lens,HH.out.lens]) A1 HR.out⟩⟩;clear A4 A2 hg HE HR;go_wp2;rw[rounds_succ];go_wp2
  (try rw[Exit.noGoto_ret])
  go_ret;exact HF
 ·have hP:=HH.P.clk' hu hc
  have HF:Hid (zvx w J K NW N S A pe bl T made U F busy (.returned (.int .i64 0)) w1):=⟨.clock hu,.inr ⟨rfl,⟨hP,HH.dk,HH.inv,HH.ks⟩,λs=>by
   by_cases hs:s<K+1
   ·have:=A3 s hs;rw[zdk] at this;cases h:(S.sl s).res with
    | none=>rfl
    | some r=>unfold Lm.sl at h;rw[h] at this;cases this
   ·rw[Lm.sl_out (by rw[HH.out.lens];omega)];rfl⟩⟩
  clear hP A3 hu hc k3 ml HV;go_wp2
  (try rw[Exit.noGoto_ret])
  go_ret;exact HF
theorem Zh.find(H:Zh w J K NW N S A ex pe bl T made U F busy){i:Nat}(hi:1<=i):(vx (xa S.sls) i=0/\∀s,(S.sl s).id≠i)\/(∃s,1<=s/\s<=K/\vx (xa S.sls) i=s/\(S.sl s).id=i):=by
 unfold vx;rw[if_neg (by omega)];cases h:idx (xa S.sls) i with
 | none =>
  refine .inl ⟨rfl,λs hs=>zm6 h ?_⟩;have h1:=H.inv.in_range (s:=s) (by omega);obtain⟨k,rfl⟩:∃k,s=k+1:=⟨s-1,by omega⟩;have h2:=wz S.sls k;have h3:k<(xa S.sls).length:=by rw[zbw,H.lens];omega
  rw[zg,ze h3] at h2;have h4:(S.sls.getD (k+1) z6).id=i:=hs;rw[h4] at h2;have h5:=List.getElem_mem h3;rw[show(xa S.sls)[k]=(i:Int) from h2] at h5;exact h5
 | some k =>
  obtain⟨h1,h2,-⟩:=zk2 h;rw[wz] at h2;rw[zbw,H.lens] at h1;have h3:(S.sls.getD (k+1) z6).id=i:=by omega
  exact .inr ⟨k+1,by omega,by omega,rfl,h3⟩
theorem znn(H:Zh w J K NW N S A ex pe bl T made U F busy){i:Nat}(hi:1<=i)(A0:i<1073741824) :
 Calls prog 61 #[.pointer (some ⟨J.t,0,none⟩),.int .i64 i] w λe w'=>w=w'/\((e=.returned (.tuple #[.int .i64 0,.bool false])/\∀s,(S.sl s).id≠i)\/(∃s,1<=s/\s<=K/\(S.sl s).id=i/\e=.returned (.tuple #[.int .i64 s,.bool true]))):=by
 refine(z4p J.t J.gi J.gh K (xa S.sls) w H.P.nam i (by omega)).mono ?_;rintro e w' ⟨rfl,rfl⟩;refine⟨rfl,?_⟩;rcases H.find hi with⟨h1,h2⟩|⟨s,h1,h2,h3,h4⟩
 ·rw[h1];exact .inl ⟨rfl,h2⟩
 ·rw[h3];refine .inr ⟨s,h1,h2,h4,?_⟩;have:(s != 0)=true:=by simp;omega
  rw[this]
theorem zo9(H:Zh w J K NW N S A ex pe bl T made U F busy){i:Nat}(hi:1<=i)(A1:i<1073741824) :
 Calls prog 121 #[.pointer (some ⟨J.t,0,none⟩),.int .i64 i] w λe w'=>LU J w w'/\
  (
   (∃s,1<=s/\s<=K/\e=.returned (.tuple #[.int .i64 s,.int .i64 0])/\LmP w' J K NW S.sls S.V (K+3) (xa (S.sls.set s { S.sl s with id:=i })) (zc0 S.sls) T made U N F busy/\((S.sl s).id=i\/((S.sl s).id=0/\∀t,(S.sl t).id≠i)))\/
   (e=.returned (.tuple #[.int .i64 0,.int .i64 3])/\Zh w' J K NW N S A ex pe bl T made U F busy/\∀s,1<=s->s<=K->(S.sl s).id≠0)):=by
 refine(z5e J.t J.gi J.gh K (xa S.sls) w H.P.nam i (by omega)).mono ?_;rintro e w' ⟨rfl,ht,hu⟩;refine⟨.names hu,?_⟩;have hP:=H.P.nam' hu ht;have h0:¬((i:Int)<1):=by omega
 unfold zrh at hP;unfold zrg zri;simp only[if_neg h0] at hP ⊢;rcases H.find hi with⟨h1,h2⟩|⟨s,h1,h2,h3,h4⟩
 ·have hz:¬(vx (xa S.sls) i≠0):=λh=>h h1
  simp only[if_neg hz] at hP ⊢;cases h:idx (xa S.sls) 0 with
  | none =>
   rw[h] at hP;refine .inr ⟨rfl,⟨hP,H.dk,H.inv,H.ks⟩,λs A2 A3 h0=>zm6 h ?_⟩;obtain⟨k,rfl⟩:∃k,s=k+1:=⟨s-1,by omega⟩;have h2:=wz S.sls k;have h3:k<(xa S.sls).length:=by rw[zbw,H.lens];omega
   rw[zg,ze h3] at h2;have h4:(S.sls.getD (k+1) z6).id=0:=h0;rw[h4] at h2;have h5:=List.getElem_mem h3;rw[show(xa S.sls)[k]=(0:Int) from h2] at h5;exact h5
  | some k =>
   rw[h] at hP;obtain⟨h3,h4,-⟩:=zk2 h;rw[wz] at h4;rw[zbw,H.lens] at h3;have h5:(S.sls.getD (k+1) z6).id=0:=by omega
   refine .inl ⟨k+1,by omega,by omega,rfl,?_,.inr ⟨h5,h2⟩⟩;rw[zja];exact hP
 ·have A0:vx (xa S.sls) i≠0:=by omega
  simp only[if_pos A0] at hP ⊢;rw[h3];refine .inl ⟨s,h1,h2,rfl,?_,.inl h4⟩;rw[ko (show({ S.sl s with id:=i }:Sl).id=(S.sls.getD s z6).id from h4.symm)];exact hP
theorem zw3{s:Nat}{i:Nat}(hs:s<S.sls.length)(h:(S.sl s).id=i):S.put s { S.sl s with id:=i } = S:=by
 subst h;have e:({ S.sl s with id:=(S.sl s).id }:Sl)=S.sl s:=rfl;rw[e];unfold Lm.put;have:S.sls.set s (S.sl s)=S.sls:=zil (by unfold Lm.sl;rw[zg,ze hs];rfl);rw[this]
theorem qn.bind2(h:qn S A K ex pe bl){s i:Nat}(A0:1<=s)(hs:s<=K)(hi:1<=i)(A1:i<1073741824)(hc:(S.sl s).id=i\/((S.sl s).id=0/\∀t,(S.sl t).id≠i)) :
 qn (S.put s { S.sl s with id:=i }) A K ex (λt=>pe t\/t=s) bl:=by
 rcases hc with h1|⟨h1,h2⟩
 ·rw[zw3 (by rw[h.len];omega) h1];exact h.mono (λt ht _ _ _=>.inl ht)
 ·exact h.bind A0 hs h1 hi A1 h2
theorem zvm{w':World}{s i:Nat}(hP:LmP w' J K NW S.sls S.V (K+3) (xa (S.sls.set s { S.sl s with id:=i })) (zc0 S.sls) T made U N F busy)(A1:S.dk=zt T)(A0:qn S A K ex pe bl)(A2:K<=800)(A3:1<=s)(hs:s<=K)(hi:1<=i)(A4:i<1073741824)(hc:(S.sl s).id=i\/((S.sl s).id=0/\∀t,(S.sl t).id≠i)) :
 Zh (w'.setCell ⟨J.sl,s*3+1,none⟩ (.int .i64 i)) J K NW N (S.put s { S.sl s with id:=i }) A ex (λt=>pe t\/t=s) bl T made U F busy:=by
 have h1:=hP.setId hs i;have h2:=ct (l:=S.sls) (s:=s) (x:={ S.sl s with id:=i }) rfl;exact⟨by rw[(zd8 S s _).1,(zd8 S s _).2.1,h2];exact h1,A1,A0.bind2 A3 hs hi A4 hc,A2⟩
def zwf(w:World)(J:LmI)(K NW N:Nat)(S:Lm)(A:Nat->Option Ob)(ex:List Int)(pe bl:Nat->Prop)(T:Tb)(made U:Nat)(F:Nat->Nat)(busy i:Nat)(e:Ending)(w':World):Prop :=
 LU J w w'/\((∃s,1<=s/\s<=K/\e=.returned (.tuple #[.int .i64 s,.bool true])/\Zh w' J K NW N (S.put s { S.sl s with id:=i }) A ex (λt=>pe t\/t=s) bl T made U F busy/\((S.sl s).id=i\/((S.sl s).id=0/\∀t,(S.sl t).id≠i)))\/
  (e=.returned (.tuple #[.int .i64 0,.bool false])/\Zh w' J K NW N S A ex pe bl T made U F busy))
theorem zya(H:Zh w J K NW N S A ex pe bl T made U F busy){i:Nat}(hi:1<=i)(A0:i<1073741824) :
 Calls prog 84 #[.pointer (some ⟨J.m,0,none⟩),.int .i64 i,.bool true] w (zwf w J K NW N S A ex pe bl T made U F busy i):=by
 have HB:=zh (zo9 H hi A0);have k2:=H.P.head.cell (i:=2) rfl;have ml:=H.P.head.lt;have HH:=zh H;have hK:=H.ks;clear H;go_enter func84,ntmps84;go_wp2;refine wp_loop_rounds 1 ?_;rw[rounds_succ];go_wp2_with fail;go_call HB as e w1 ⟨hu,⟨s,A1,hs,rfl,hP,hc⟩|⟨rfl,hl,-⟩⟩
 ·have A2:s<S.sls.length:=by rw[hP.len];omega
  have k4:=hP.head.cell (i:=4) rfl;have A3:=hP.slots.cell (Z6 A2).2.1;have A4:w1.frozen? ⟨J.sl,s*3+1,none⟩=false:=hP.slots.free _;have A5:=hP.slots.lt;have ml1:=hP.head.lt
  have HF:Hid (zwf w J K NW N S A ex pe bl T made U F busy i (.returned (.tuple #[.int .i64 s,.bool true])) (w1.setCell ⟨J.sl,s*3+1,none⟩ (.int .i64 i))) :=
   ⟨hu.trans (LU.setSl _ _ _ _),.inl ⟨s,A1,hs,rfl,zvm hP HH.out.dk HH.out.inv HH.out.ks A1 hs hi A0 hc,hc⟩⟩
  clear hP hc hu k2 ml HB A2;go_wp2;go_ret2;exact HF
 ·have HF:Hid (zwf w J K NW N S A ex pe bl T made U F busy i (.returned (.tuple #[.int .i64 0,.bool false])) w1):=⟨hu,.inr ⟨rfl,hl⟩⟩;have ml1:=hl.P.head.lt;clear hl hu k2 ml HB;go_wp2;go_ret2;exact HF
end
section
variable{w:World}{J:LmI}{K NW N:Nat}{S:Lm}{A:Nat->Option Ob}{ex:List Int}{pe bl:Nat->Prop}{T:Tb}{made U:Nat}{F:Nat->Nat}{busy:Nat}
theorem Zh.mono(H:Zh w J K NW N S A ex pe bl T made U F busy){pe':Nat->Prop}(hp:∀s,pe s->(S.sl s).id≠0->(S.sl s).res=none->(S.sl s).refs=0->pe' s):Zh w J K NW N S A ex pe' bl T made U F busy:=⟨H.P,H.dk,H.inv.mono hp,H.ks⟩
theorem Zh.blEq(H:Zh w J K NW N S A ex pe bl T made U F busy){bl':Nat->Prop}(h:∀k,bl k↔bl' k):Zh w J K NW N S A ex pe bl' T made U F busy:=by
 have:bl=bl':=funext λk=>propext (h k)
 rw[<-this];exact H
theorem qn.free1(h:qn S A K [] (λ_=>False) bl)(hn:∀s,(S.sl s).res=none)(hk:1<=K):¬∀s,1<=s->s<=K->(S.sl s).id≠0:=λA0=>by
 have h1:=A0 1 (Nat.le_refl _) hk;have h2:=h.refs 1 hk
 have h3:S.tot 1=0:=zf1 (λx hx=>by
  obtain⟨t,ht,rfl⟩:=zc6 hx
  exact hn t) 1
 rw[h3,zau] at h2;rcases h.live 1 h1 with h4|h4|h4
 ·exact h4 (hn 1)
 ·omega
 ·exact h4
def zwd(w:World)(J:LmI)(K NW N:Nat)(S:Lm)(A:Nat->Option Ob)(bl:Nat->Prop)(made U:Nat)(F:Nat->Nat)(i:Nat)(e:Ending)(w':World):Prop :=
 LU J w w'/\∃s S' T',1<=s/\s<=K/\e=.returned (.tuple #[.int .i64 (s:Nat),.bool true])/\Zh w' J K NW N S' A [] (λt=>t=s) bl T' made U F 0/\(S'.sl s).id=i/\zl3 S S' 0
theorem z11(H:Zh w J K NW N S A [] (λ_=>False) bl T made U F 0)(hk:1<=K){i:Nat}(hi:1<=i)(A3:i<1073741824) :
 Calls prog 84 #[.pointer (some ⟨J.m,0,none⟩),.int .i64 i,.bool false] w (zwd w J K NW N S A bl made U F i):=by
 have HH:=zh H;have hK:=H.ks;clear H;go_enter func84,ntmps84;go_wp2;go_loopw [] (λwr=>∃S1 T1,Hid (Zh wr J K NW N S1 A [] (λ_=>False) bl T1 made U F 0)/\Hid (zl3 S S1 0)/\Hid (LU J w wr)) (λwr=>inW wr J.sl)
 case atStart=>exact⟨S,T,HH,zl3.refl _ _,LU.refl _ _⟩
 case round =>
  obtain⟨S1,T1,HL,HF,HU⟩:=hrel;have HB:=zh (zo9 HL hi A3);have k2:=HL.P.head.cell (i:=2) rfl;have ml:=HL.P.head.lt;go_wp2_with fail;go_call HB as e w1 ⟨hu,⟨s,A4,hs,rfl,hP,hc⟩|⟨rfl,hl,A0⟩⟩
  ·have A1:s<S1.sls.length:=by rw[hP.len];omega
   have k4:=hP.head.cell (i:=4) rfl;have B8:=hP.slots.cell (Z6 A1).2.1;have B9:w1.frozen? ⟨J.sl,s*3+1,none⟩=false:=hP.slots.free _;have C0:=hP.slots.lt;have ml1:=hP.head.lt
   have HX:Hid (zwd w J K NW N S A bl made U F i (.returned (.tuple #[.int .i64 s,.bool true])) (w1.setCell ⟨J.sl,s*3+1,none⟩ (.int .i64 i))):=by
    have h1:=zvm hP HL.dk HL.inv HL.ks A4 hs hi A3 hc;refine⟨HU.out.trans (hu.trans (LU.setSl _ _ _ _)),s,_,T1,A4,hs,rfl,h1.mono (λt ht _ _ _=>ht.elim False.elim id),by rw[Lm.sl_put A1,if_pos rfl],?_⟩;refine HF.trans ⟨λt ht=>?_,λh=>absurd rfl h⟩;rw[Lm.sl_put A1] at ht ⊢;by_cases e:t=s
    ·subst e;rw[if_pos rfl] at ht ⊢;rcases hc with h2|⟨h2,-⟩
     ·exact⟨rfl,h2.symm⟩
     ·exact absurd h2 (HL.inv.used t (.inl ht))
    ·rw[if_neg e];exact⟨rfl,rfl⟩
   clear hP hc hu k2 ml HB A1;go_wp2;go_ret2;exact HX
  ·have A5:=zh (zo3 hl (λh=>absurd rfl h));have B0:=zh A0;have B1:=zh (HU.trans hu);have A6:inW wr J.sl=zw2 S1.sls:=HL.P.inW;have B2:=zh A6;clear hl A0 hu k2 ml HB A6;go_wp2_with fail;go_call A5 as e w2 ⟨A7,⟨rfl,S2,T2,A2,A8,A9⟩|⟨rfl,A2,B3⟩⟩
   ·have B4:=zh A2;have B5:=zh (HF.trans A8);have B6:=zh (B1.trans A7);have B7:Hid (inW w2 J.sl<inW wr J.sl):=by unfold Hid;rw[B2.out,A2.P.inW];exact A9
    clear A2 A8 A7 A9 A5;go_wp2;go_roundw
    case rel=>exact⟨S2,T2,B4,B5,B6⟩
    case measure=>exact B7
   ·exact absurd B0 (HL.inv.free1 B3 hk)
def zwj(l:List Sl):List Nat:=l.filterMap (λx=>x.res.map (·.hb))
theorem qn.hbs_mem(h:qn S A K ex pe (λ_=>False)):∀k,S.V k≠none->k∈zwj S.sls:=λk hk=>by
 rcases(h.heap k).1 hk with⟨s,r,hr,rfl⟩|h1
 ·have hs:s<S.sls.length:=by
   rcases Nat.lt_or_ge s S.sls.length with h1|h1
   ·exact h1
   ·rw[Lm.sl_out h1] at hr;cases hr
  refine List.mem_filterMap.2 ⟨S.sls.getD s z6,?_,?_⟩
  ·rw[zg,ze hs];exact List.getElem_mem hs
  ·have:(S.sls.getD s z6).res=some r:=hr;rw[this];rfl
 ·exact h1.elim
theorem zxm(l:List Sl):(zwj l).length<=l.length:=List.length_filterMap_le _ _
theorem zyb(H:Zh w J K NW N S A ex pe (λ_=>False) T made U F busy)(n:Nat)(hn:n<=1000000) :
 Calls prog 174 #[.pointer (some ⟨J.h,0,none⟩),.int .i64 n] w λe w'=>LU J w w'/\
  (
   (∃k ws,e=.returned (.tuple #[.int .i64 (k:Nat),.int .i64 0])/\ws.length=n/\Zh w' J K NW N { S with V:=upF S.V k (some ws) } A ex pe (λj=>j=k) T made U F busy)\/
   (e=.returned (.tuple #[.int .i64 0,.int .i64 3])/\Zh w' J K NW N S A ex pe (λ_=>False) T made U F busy/\(zdw w J.B J.h J.g->zdw w' J.B J.h J.g)/\¬((∀s,(S.sl s).res=none)/\n<=NW))):=by
 have hK:=H.ks;refine(zxk H.P.heap (zwj S.sls) H.inv.hbs_mem (by have:=zxm S.sls;rw[H.lens] at this;omega) (by omega) n hn).mono ?_;rintro e w' ⟨hu,⟨k,ws,rfl,hk,hl,hv⟩|⟨rfl,hv,hp,A0⟩⟩
 ·have h1:=(H.inv.block (ws:=ws) hk);have h2:Zh w' J K NW N { S with V:=upF S.V k (some ws) } A ex pe (λj=>False\/j=k) T made U F busy:=⟨H.P.heap' hu hv,H.dk,h1,H.ks⟩;exact⟨.of_hupd hu,.inl ⟨k,ws,rfl,hl,h2.blEq (λj=>by simp)⟩⟩
 ·refine⟨.of_hupd hu,.inr ⟨rfl,⟨H.P.heap' hu hv,H.dk,H.inv,H.ks⟩,hp,λh=>A0 ⟨λk=>?_,h.2⟩⟩⟩;cases hk:S.V k with
  | none=>rfl
  | some ws =>
   rcases(H.inv.heap k).1 (by rw[hk];simp) with⟨s,r,hr,-⟩|h1
   ·rw[h.1] at hr;cases hr
   ·exact h1.elim
def zwe(w:World)(J:LmI)(K NW N:Nat)(S:Lm)(A:Nat->Option Ob)(pe:Nat->Prop)(made U:Nat)(F:Nat->Nat)(busy n:Nat)(e:Ending)(w':World):Prop :=
 LU J w w'/\∃k S' T' ws,e=.returned (.tuple #[.int .i64 (k:Nat),.bool true])/\Zh w' J K NW N S' A [] pe (λj=>j=k) T' made U F busy/\S'.V k=some ws/\ws.length=n/\zl3 S S' busy
open Classical in
noncomputable def z2f(J:LmI)(w:World):Nat:=2*inW w J.sl+if zdw w J.B J.h J.g then 0 else 1
theorem zx9{w0:World}(B1:LU J w0 w)(H:Zh w J K NW N S A [] pe (λ_=>False) T made U F busy)(hb:busy≠0->pe busy)(n:Nat)(hn:n<=NW)(C7:n<=1000000) :
 Calls prog 153 #[.pointer (some ⟨J.m,0,none⟩),.int .i64 n] w (zwe w0 J K NW N S A pe made U F busy n):=by
 have HH:=zh H;have C8:=zh hb;have A7:=zh B1;have hK:=H.ks;clear H hb B1;go_enter func153,ntmps153;go_wp2;refine wp_scope_jumps 0 (λa' wr=>∃S1 T1,Hid (Zh wr J K NW N S1 A [] pe (λ_=>False) T1 made U F busy)/\Hid (zl3 S S1 busy)/\Hid (LU J w0 wr)/\∃u6 u7 u8 u9 u10 u11 u12 u13 u14 u15 u16 u17 u18 u19 u20 u21 u22 u23 u24 u25 u26 u27 u28 u29 u30 u31 u32 u33 u34 u35 u36 u37 u38 u39 u40 u41 u42 u43 u44 u45:Value,a' = { tmps:=#[.pointer (some ⟨J.m,0,none⟩),.int .i64 n,undef,undef,.int .i64 0,.bool false,u6,u7,u8,u9,u10,u11,u12,u13,u14,u15,u16,u17,u18,u19,u20,u21,u22,u23,u24,u25,u26,u27,u28,u29,u30,u31,u32,u33,u34,u35,u36,u37,u38,u39,u40,u41,u42,u43,u44,u45],defers:=[] }) (λ_ wr=>z2f J wr) rfl ?_ ?_
 case' refine_1 =>
  obtain⟨S1,A8⟩:=zx (S);obtain⟨T1,B2⟩:=zx (T);have HL:Hid (Zh w J K NW N S1 A [] pe (λ_=>False) T1 made U F busy):=by rw[A8,B2];exact HH
  have HF:Hid (zl3 S S1 busy):=by rw[A8];exact zl3.refl _ _
  have HU:=A7;clear A8 B2 HH A7
 case' refine_2 =>
  clear HH A7;rintro a' w ⟨S1,T1,HL,HF,HU,u6,u7,u8,u9,u10,u11,u12,u13,u14,u15,u16,u17,u18,u19,u20,u21,u22,u23,u24,u25,u26,u27,u28,u29,u30,u31,u32,u33,u34,u35,u36,u37,u38,u39,u40,u41,u42,u43,u44,u45,rfl⟩
 all_goals
  have HA:=zh (zyb HL n C7);have k1:=HL.P.head.cell (i:=1) rfl;have ml:=HL.P.head.lt
  (try go_step3)
  go_wp2_with fail
  (try go_step3)
  (try go_wp2_with fail)
  go_call HA as e w1 ⟨A5,⟨k,ws,rfl,B3,A0⟩|⟨rfl,A0,B4,A6⟩⟩
  ·have HX:Hid (zwe w0 J K NW N S A pe made U F busy n (.returned (.tuple #[.int .i64 (k:Nat),.bool true])) w1) :=
    ⟨HU.out.trans A5,k,_,T1,ws,rfl,A0,Zm _ _ _,B3,⟨λt ht=>HF.out.res t ht,λh=>HF.out.own h⟩⟩
   clear A5 B3 A0 k1 ml HA;go_wp2;go_ret2;exact HX
  ·have B5:=zh (z02 A0.P.heap (by omega));have k1:=A0.P.head.cell (i:=1) rfl;have ml:=A0.P.head.lt;have B6:=zh A0;have B7:=zh (HU.trans A5);have C9:=zh B4;have D0:=zh A6;clear A0 A5 B4 A6 HA;go_wp2_with fail;go_call B5 as e w2 ⟨al,mo,rfl,D6,D7,B8,-,A9⟩;have A1:=zh (B6.below A9);have B9:=zh (B7.trans (.of_below A9));have C0:Hid (inW w J.sl=zw2 S1.sls):=HL.P.inW;have D1:Hid (zdw w J.B J.h J.g->mo=al):=λh=>B8 (C9 h)
   have k1:=A1.P.head.cell (i:=1) rfl;have ml:=A1.P.head.lt;clear A9 B5 B6 B7 B8;by_cases hc:n<=al/\mo<n
   ·obtain⟨D2,D8⟩:=hc;have HC:=zh (zql A1.out.P.heap (by omega));have C1:(n:Int)<=(al:Int):=by omega
    have D3:(mo:Int)<(n:Int):=by omega
    have D4:Hid (¬zdw w J.B J.h J.g):=λh=>by have:=D1.out h;omega
    go_wp2_with fail;go_call HC as e w3 ⟨kk,rfl,C2,C3,A3⟩;have A2:Hid (Zh w3 J K NW N S1 A [] pe (λ_=>False) T1 made U F busy):=⟨A1.P.heap' A3 C2,A1.dk,A1.inv,A1.ks⟩;have A4:=zh (B9.trans (.of_hupd A3))
    have HM:Hid (z2f J w3<z2f J w):=by
     unfold Hid z2f;rw[A2.out.P.inW,C0.out,if_pos C3,if_neg D4.out];omega
    clear C2 C3 A3 HC k1 ml;go_wp2;go_step3
    first
     | exact⟨rfl,S1,T1,A2.out,HF.out,A4.out,_,_,_,_,_,_,_,_,_,_,_,_,_,_,_,_,_,_,_,_,_,_,_,_,_,_,_,_,_,_,_,_,_,_,_,_,_,_,_,_,rfl⟩
     | exact⟨rfl,⟨S1,T1,A2.out,HF.out,A4.out,_,_,_,_,_,_,_,_,_,_,_,_,_,_,_,_,_,_,_,_,_,_,_,_,_,_,_,_,_,_,_,_,_,_,_,_,_,_,_,_,rfl⟩,HM.out⟩
   ·have C4:=zh (zo3 A1 C8);by_cases D2:n<=al
    case' pos =>
     have C1:(n:Int)<=(al:Int):=by omega
     have D3:¬((mo:Int)<(n:Int)):=by omega
     go_wp2_with fail
    case' neg =>
     have C1:¬((n:Int)<=(al:Int)):=by omega
     go_wp2_with fail
    all_goals
     go_call C4 as e w3 ⟨A3,⟨rfl,S2,T2,B0,C5,D5⟩|⟨rfl,B0,A6⟩⟩
     ·have A2:=zh B0;have C6:=zh (HF.trans C5);have A4:=zh (B9.trans A3)
      have HM:Hid (z2f J w3<z2f J w):=by
       unfold Hid z2f;rw[A2.out.P.inW,C0.out];split<;>split<;>omega
      clear B0 C5 A3 D5 C4 k1 ml;go_wp2;go_step3
      first
       | exact⟨rfl,S2,T2,A2.out,C6.out,A4.out,_,_,_,_,_,_,_,_,_,_,_,_,_,_,_,_,_,_,_,_,_,_,_,_,_,_,_,_,_,_,_,_,_,_,_,_,_,_,_,_,rfl⟩
       | exact⟨rfl,⟨S2,T2,A2.out,C6.out,A4.out,_,_,_,_,_,_,_,_,_,_,_,_,_,_,_,_,_,_,_,_,_,_,_,_,_,_,_,_,_,_,_,_,_,_,_,_,_,_,_,_,rfl⟩,HM.out⟩
     ·exact absurd ⟨A6,hn⟩ D0
end
end Go.Proofs.YtoeibiahbenpcaaGreatDoor
