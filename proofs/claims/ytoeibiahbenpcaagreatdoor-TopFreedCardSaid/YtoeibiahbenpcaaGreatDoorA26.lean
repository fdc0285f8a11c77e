/- Part. -/
import Derived.Test.YtoeibiahbenpcaaGreatDoorA25
namespace Go.Proofs.YtoeibiahbenpcaaGreatDoor
open RowKit Maps Proofs.Tryz
set_option linter.unusedVariables false
set_option maxRecDepth 99999
set_option maxHeartbeats 9000000
theorem zxq{l:List Sl}{s:Nat}(h:s<l.length)(i:Nat):ja (l.set s { l.getD s z6 with id:=i })=(ja l).set (s*3+1) (.int .i64 i):=by
 obtain⟨g0,g1,g2⟩:=Z6 h;rw[zbh _ h];have e0:yx { l.getD s z6 with id:=i } = yx (l.getD s z6):=rfl;rw[e0,jk g0];refine jk ?_;rw[List.getElem?_set,if_neg (by omega)];exact g2
theorem zqp{l:List Sl}{s:Nat}(h:s<l.length)(i:Nat):ja (l.set s { l.getD s z6 with refs:=i })=(ja l).set (s*3+2) (.int .i64 i):=by
 obtain⟨g0,g1,g2⟩:=Z6 h;rw[zbh _ h];have e0:yx { l.getD s z6 with refs:=i } = yx (l.getD s z6):=rfl;rw[e0,jk g0,jk g1]
theorem zty{l:List Sl}{s:Nat}(h:s<l.length)(r:Option Rs):ja (l.set s { l.getD s z6 with res:=r })=(ja l).set (s*3) (yx ⟨r,0,0⟩):=by
 obtain⟨g0,g1,g2⟩:=Z6 h;rw[zbh _ h];have e0:yx { l.getD s z6 with res:=r } = yx ⟨r,0,0⟩:=rfl;rw[e0];rw[jk (l:=(ja l).set (s*3) (yx ⟨r,0,0⟩)) (i:=s*3+1) (by rw[List.getElem?_set,if_neg (by omega)];exact g1)];exact jk (by rw[List.getElem?_set,if_neg (by omega)];exact g2)
section
variable{w w':World}{J:LmI}{K NW:Nat}{sls:List Sl}{V:Nat->Option (List Int)}{bn:Nat}{ids:List Int}{ins:List Bool}{T:Tb}{made U N:Nat}{F:Nat->Nat}{busy:Nat}
theorem zdm{α:Type}{l:List α}{s:Nat}(h:s<l.length)(x d:α)(t:Nat):(l.set s x).getD t d=if t=s then x else l.getD t d:=by
 simp only[List.getD_eq_getElem?_getD,List.getElem?_set];by_cases e:s=t
 ·subst e;simp[h]
 ·simp[e,Ne.symm e]
theorem LmP.setId(H:LmP w J K NW sls V bn ids ins T made U N F busy){s:Nat}(hs:s<=K)(i:Nat):LmP (w.setCell ⟨J.sl,s*3+1,none⟩ (.int .i64 i)) J K NW (sls.set s { sls.getD s z6 with id:=i }) V bn ids ins T made U N F busy:=by
 have hl:s<sls.length:=by rw[H.len];omega
 obtain⟨-,h2⟩:=H.fixne;refine H.own' (l:=[J.sl]) ((Upd.refl _ _).setCell (by simp) _) (λk hk=>.inr (by simpa using hk)) (by rw[List.length_set];exact H.len) (H.head.setOther (by simp only[List.nodup_cons,List.mem_cons,not_or] at h2;exact Ne.symm h2.1.1) _) (by rw[zxq hl];exact H.slots.set _ _) (λt r hr=>?_);rw[zdm hl] at hr;split at hr
 ·exact H.resid s r hr
 ·exact H.resid t r hr
theorem LmP.setRefs(H:LmP w J K NW sls V bn ids ins T made U N F busy){s:Nat}(hs:s<=K)(i:Nat):LmP (w.setCell ⟨J.sl,s*3+2,none⟩ (.int .i64 i)) J K NW (sls.set s { sls.getD s z6 with refs:=i }) V bn ids ins T made U N F busy:=by
 have hl:s<sls.length:=by rw[H.len];omega
 obtain⟨-,h2⟩:=H.fixne;refine H.own' (l:=[J.sl]) ((Upd.refl _ _).setCell (by simp) _) (λk hk=>.inr (by simpa using hk)) (by rw[List.length_set];exact H.len) (H.head.setOther (by simp only[List.nodup_cons,List.mem_cons,not_or] at h2;exact Ne.symm h2.1.1) _) (by rw[zqp hl];exact H.slots.set _ _) (λt r hr=>?_);rw[zdm hl] at hr;split at hr
 ·exact H.resid s r hr
 ·exact H.resid t r hr
theorem LmP.setRes(H:LmP w J K NW sls V bn ids ins T made U N F busy){s:Nat}(hs:s<=K)(q:Option Rs)(hq:∀r,q=some r->J.B<=r.ad/\Row w r.ad 86 (zkp r)):LmP (w.setCell ⟨J.sl,s*3,none⟩ (yx ⟨q,0,0⟩)) J K NW (sls.set s { sls.getD s z6 with res:=q }) V bn ids ins T made U N F busy:=by
 have hl:s<sls.length:=by rw[H.len];omega
 obtain⟨-,h2⟩:=H.fixne;refine H.own' (l:=[J.sl]) ((Upd.refl _ _).setCell (by simp) _) (λk hk=>.inr (by simpa using hk)) (by rw[List.length_set];exact H.len) (H.head.setOther (by simp only[List.nodup_cons,List.mem_cons,not_or] at h2;exact Ne.symm h2.1.1) _) (by rw[zty hl];exact H.slots.set _ _) (λt r hr=>?_);rw[zdm hl] at hr;split at hr
 ·exact hq r hr
 ·exact H.resid t r hr
theorem LmP.setBusy(H:LmP w J K NW sls V bn ids ins T made U N F busy)(b:Nat):LmP (w.setCell ⟨J.m,5,none⟩ (.int .i64 b)) J K NW sls V bn ids ins T made U N F b:=by
 obtain⟨-,h2⟩:=H.fixne;exact H.own' (l:=[J.m]) ((Upd.refl _ _).setCell (by simp) _) (λk hk=>.inl (by simpa using hk)) H.len (H.head.set 5 _) (H.slots.setOther (by simp only[List.nodup_cons,List.mem_cons,not_or] at h2;exact h2.1.1) _) H.resid
theorem LU.setSl(J:LmI)(w:World)(o:Nat)(v:Value):LU J w (w.setCell ⟨J.sl,o,none⟩ v) :=
 .of_upd (l:=[J.sl]) ((Upd.refl _ _).setCell (by simp) _) (λk hk=>.inl (by simp at hk;subst hk;simp[LmI.fix]))
theorem LU.setM(J:LmI)(w:World)(o:Nat)(v:Value):LU J w (w.setCell ⟨J.m,o,none⟩ v) :=
 .of_upd (l:=[J.m]) ((Upd.refl _ _).setCell (by simp) _) (λk hk=>.inl (by simp at hk;subst hk;simp[LmI.fix]))
theorem LU.names{J:LmI}{a b:World}(u:Upd [J.t,J.gi,J.gh] a b):LU J a b:=.of_upd u (λk hk=>.inl (by simp at hk;rcases hk with rfl|rfl|rfl<;>simp[LmI.fix]))
theorem LU.clock{J:LmI}{a b:World}(u:Upd [J.c,J.cp] a b):LU J a b:=.of_upd u (λk hk=>.inl (by simp at hk;rcases hk with rfl|rfl<;>simp[LmI.fix]))
theorem LU.disk{J:LmI}{a b:World}{l:List Nat}(u:Upd l a b)(hl:∀k∈l,k∈J.I.all):LU J a b:=.of_upd u (λk hk=>.inl (by simp[LmI.fix,hl k hk]))
end
section
variable{w:World}{J:LmI}{K NW N:Nat}{S:Lm}{A:Nat->Option Ob}{ex:List Int}{pe bl:Nat->Prop}{T:Tb}{made U:Nat}{F:Nat->Nat}{busy:Nat}
theorem zd8(S:Lm)(s:Nat)(x:Sl):(S.put s x).sls=S.sls.set s x/\(S.put s x).V=S.V/\(S.put s x).dk=S.dk:=⟨rfl,rfl,rfl⟩
theorem z10(H:Zh w J K NW N S A ex pe bl T made U F busy){s:Nat}(hs:s<=K)(g:Nat)(cs:List Value)(hg:g=w.heap.size) :
 Calls prog 133 #[.pointer (some ⟨J.t,0,none⟩),.slice (some ⟨g,0,none⟩) 1 1] (w.alloc (.cells #[.int .i64 s] 3)) λe w'=>(∃k:Int,e=.returned (.int .i64 k))/\LmP w' J K NW S.sls S.V (K+3) (xa (S.sls.set s { S.sl s with id:=0 })) (zc0 S.sls) T made U N F busy/\LU J w w':=by
 subst hg;have HP:Hid (LmP (w.alloc (.cells #[.int .i64 s] 3)) J K NW S.sls S.V (K+3) (xa S.sls) (zc0 S.sls) T made U N F busy):=H.P.below ((Below.refl _ _).alloc (Nat.le_refl _) _);have A1:=H.P.nam;have hK:=H.ks;obtain⟨hash,ht⟩:=A1;have l1:=ht.head.lt;have l2:=ht.ri.lt;have l3:=ht.ra.lt;have A3:zv (w.alloc (.cells #[.int .i64 s] 3)) (some ⟨w.heap.size,0,none⟩) 1 ([(s:Int)].map (Value.int .i64)):=zv.madeAt (xs:=[.int .i64 s]) rfl;have hc:=z42 J.t J.gi J.gh K (xa S.sls) _ HP.nam (some ⟨w.heap.size,0,none⟩) 1 1 [(s:Int)] rfl A3 (λx hx=>by cases hx;exact⟨by simp only;omega,by simp only;omega,by simp only;omega⟩) (λx hx=>by simp at hx;subst hx;exact⟨by omega,by omega⟩) (by omega) (by omega);refine hc.mono ?_;have A2:LU J w (w.alloc (.cells #[.int .i64 s] 3)):=.of_below ((Below.refl _ _).alloc (Nat.le_refl _) _);rintro e w' (⟨A4,rfl,A0,hu⟩|⟨A5,rfl,rfl⟩)
 ·refine⟨⟨_,rfl⟩,?_,A2.trans (.names hu)⟩;have h8:=A4.1 (s:Int) (by simp);unfold zje at h8;simp only[Bool.and_eq_true,decide_eq_true_eq] at h8;have A6:1<=s:=by omega
  obtain⟨k,rfl⟩:∃k,s=k+1:=⟨s-1,by omega⟩
  have e1:zdo (xa S.sls) [((k+1:Nat):Int)]=xa (S.sls.set (k+1) { S.sl (k+1) with id:=0 }):=by
   rw[zja];show(xa S.sls).set (((k+1:Nat):Int)-1).toNat 0=_
   congr 1;omega
  rw[e1] at A0;exact HP.nam' hu A0
 ·refine⟨⟨_,rfl⟩,?_,A2⟩
  have hz:(S.sl s).id=0:=by
   cases s with
   | zero=>rw[H.inv.zero];rfl
   | succ k =>
    by_cases h0:(S.sl (k+1)).id=0
    ·exact h0
    ·exfalso;refine A5 ⟨λx hx=>?_,by simp⟩;simp at hx;subst hx;unfold zje;rw[zbw,H.lens];have e2:(((k:Int)+1)-1).toNat=k:=by omega
     rw[e2,wz];simp only[Bool.and_eq_true,decide_eq_true_eq,bne_iff_ne,ne_eq];refine⟨⟨by omega,by omega⟩,?_⟩;have:(S.sls.getD (k+1) z6).id≠0:=h0;omega
  rw[ko (show({ S.sl s with id:=0 }:Sl).id=(S.sls.getD s z6).id from hz.symm)];exact HP
theorem zo6(H:Zh w J K NW N S A ex pe bl T made U F busy){s:Nat}(hs:s<=K) :
 Calls prog 89 #[.pointer (some ⟨J.m,0,none⟩),.int .i64 s] w λe w'=>e=.returned (.tuple #[])/\Zh w' J K NW N (kn S busy s) A ex (λt=>pe t/\(t=s->t=busy)) bl T made U F busy/\LU J w w':=by
 have hL:=H.inv.loose busy hs;obtain⟨y0,y1,y2,yl⟩:=H.slot hs;have k4:=H.P.head.cell (i:=4) rfl;have k5:=H.P.head.cell (i:=5) rfl;have k2:=H.P.head.cell (i:=2) rfl;have hk:=H.ks;have hb:=H.P.head.lt;have HH:=zh H;have HL:=zh hL;have A2:=H.dk;have A4:=zh A2;by_cases hc:(S.sl s).res=none/\(S.sl s).refs=0/\s≠busy
 ·obtain⟨c1,c2,c3⟩:=hc;have A1:kn S busy s=S.put s { S.sl s with id:=0 }:=by unfold kn;rw[if_pos ⟨c1,c2,c3⟩]
  have A5:=zh A1;have e0:yx (S.sl s)=.pointer none:=by unfold yx;rw[c1]
  rw[e0] at y0;rw[c2] at y2;have HC:=zh (z10 H hs w.heap.size [] rfl);have c4:((s:Int) != (busy:Int))=true:=bne_iff_ne.2 (by omega);clear H hL A2 A1 e0 c1 c2 c3;go_enter func89,ntmps89;go_wp2_with fail;go_call HC as e w1 ⟨⟨k,rfl⟩,hp,hu⟩;have A6:w1.frozen? ⟨J.sl,s*3+1,none⟩=false:=hp.slots.free _;have A3:s<S.sls.length:=by rw[hp.len];omega
  have A7:=hp.slots.cell (Z6 A3).2.1;have A8:=hp.slots.lt;have HP:=zh (hp.setId hs 0);have HU:=zh hu;have A9:=zh A3;clear hp hu A3 HC y0 y1 y2 k4 k5 k2 c4;go_wp2;go_end0;refine⟨rfl,?_,HU.trans (LU.setSl _ _ _ _)⟩;have hl:=HL.out;have hi:=ct (l:=S.sls) (s:=s) (x:={ S.sl s with id:=0 }) rfl;rw[A5.out] at hl ⊢;exact⟨by rw[(zd8 S s _).1,(zd8 S s _).2.1,hi];exact HP,A4,hl,HH.ks⟩
 ·have A1:kn S busy s=S:=by unfold kn;rw[if_neg hc]
  rw[A1] at hL ⊢;have A0:Zh w J K NW N S A ex (λt=>pe t/\(t=s->t=busy)) bl T made U F busy:=⟨H.P,H.dk,hL,H.ks⟩;have HR:=zh A0;cases hr:(S.sl s).res with
  | some r =>
   have e0:yx (S.sl s)=.pointer (some ⟨r.ad,0,none⟩):=by unfold yx;rw[hr]
   rw[e0] at y0;clear H hL A2 A1 hc e0 hr A0;go_enter func89,ntmps89;go_wp2;go_end0;exact⟨rfl,HR,LU.refl _ _⟩
  | none =>
   have e0:yx (S.sl s)=.pointer none:=by unfold yx;rw[hr]
   rw[e0] at y0;by_cases h2:(S.sl s).refs=0
   ·have h3:s=busy:=by
     by_cases h:s=busy
     ·exact h
     ·exact absurd ⟨hr,h2,h⟩ hc
    rw[h2] at y2;subst h3;clear H hL A2 A1 hc e0 hr A0 h2;go_enter func89,ntmps89;go_wp2;go_end0;exact⟨rfl,HR,LU.refl _ _⟩
   ·have h3:(((S.sl s).refs:Int) == 0)=false:=by
     have:((S.sl s).refs:Int)≠0:=by omega
     simpa using this
    clear H hL A2 A1 hc e0 hr A0 h2;generalize(S.sl s).refs=q at *;go_enter func89,ntmps89;go_wp2;go_end0;exact⟨rfl,HR,LU.refl _ _⟩
end
section
variable{w:World}{J:LmI}{K NW N:Nat}{S:Lm}{A:Nat->Option Ob}{ex:List Int}{pe bl:Nat->Prop}{T:Tb}{made U:Nat}{F:Nat->Nat}{busy:Nat}
theorem qn.unref1{s:Nat}(h:qn S A K (((2*s:Nat):Int)::ex) pe bl)(A1:1<=s)(A0:s<=K):qn (S.put s { S.sl s with refs:=(S.sl s).refs-1 }) A K ex (λt=>pe t\/t=s) bl/\1<=(S.sl s).refs:=by
 have hk:=h.kle;have hr:=h.refs s A0;rw[jy,if_pos rfl] at hr;refine⟨?_,by omega⟩;have hid:=h.used s (.inr (by omega));refine h.repl A0 { S.sl s with refs:=(S.sl s).refs-1 } rfl (λe=>by omega) (λ_ t ht he=>ht ?_) (h.idlt s) (λ_=>.inr (.inr (.inr rfl))) (λt _ hp=>.inl hp) (λ_=>hid) (λt ht=>?_) (λv hv=>h.exok v (by simp[hv])) (.inl rfl)
 ·exact h.uniq t s (by rw[he];exact hid) he
 ·split
  ·next e=>subst e;simp only;omega
  ·next e =>
   have:=h.refs t ht;rw[jy,if_neg (by omega)] at this;omega
theorem Zh.refsLe(H:Zh w J K NW N S A ex pe bl T made U F busy){s:Nat}(hs:s<=K)(he:ex.length<=100000):(S.sl s).refs<=10000000:=by
 rw[H.inv.refs s hs];have h1:cnt ex s<=ex.length:=by unfold cnt;exact List.countP_le_length
 have h2:S.tot s<=S.sls.length*1000:=by
  unfold Lm.tot zcc
  have key:∀l:List Sl,(∀x∈l,cnt (Zv S.V x) s<=1000)->(l.map (λx=>cnt (Zv S.V x) s)).sum<=l.length*1000:=λl=>by
   induction l with
   | nil=>intro _;simp
   | cons x l ih =>
    intro h;have a:=ih (λy hy=>h y (by simp[hy]));have b:=h x (by simp);simp only[List.map_cons,List.sum_cons,List.length_cons];omega
  refine key _ (λx hx=>?_);obtain⟨t,ht,rfl⟩:=zc6 hx;have hc:cnt (Zv S.V (S.sls.getD t z6)) s<=(Zv S.V (S.sls.getD t z6)).length:=by unfold cnt;exact List.countP_le_length
  refine Nat.le_trans hc ?_;cases hr:(S.sls.getD t z6).res with
  | none=>unfold Zv;rw[hr];simp
  | some r =>
   obtain⟨o,d,ws,ok⟩:=H.inv.res t r hr;rw[xi hr];split
   ·rw[ok.V];have h3:=(H.inv.good _ _ ok.ob).size_le;have h4:=ok.len;unfold nWd at h4;simp only[Option.getD_some];split at h4<;>omega
   ·simp
 rw[H.lens] at h2;have:=H.ks;omega
theorem zfl{wv:Int}(H:Zh w J K NW N S A (wv::ex) pe bl T made U F busy)(hb:busy≠0->pe busy)(hx:ex.length<=90000) :
 Calls prog 39 #[.pointer (some ⟨J.m,0,none⟩),.int .i64 wv] w λe w'=>e=.returned (.tuple #[])/\Zh w' J K NW N (vz S busy wv) A ex pe bl T made U F busy/\LU J w w':=by
 have hu:=H.inv.unref hb;have A2:=H.inv.exok wv (by simp);by_cases hp:ym wv
 ·have A0:¬(wv≠65534/\wv % 2=0):=by rcases hp with h|h<;>omega
  have e:vz S busy wv=S:=by unfold vz;rw[if_neg A0]
  rw[e] at hu ⊢;have HR:Hid (Zh w J K NW N S A ex pe bl T made U F busy):=⟨H.P,H.dk,hu,H.ks⟩;rcases hp with h|h
  ·obtain⟨h1,h2,h3⟩:=h;have h4:(wv == 65534)=false:=by simp;omega
   clear H hu A2 A0 e;go_enter func39,ntmps39;go_wp2;go_end0;exact⟨rfl,HR,LU.refl _ _⟩
  ·subst h;clear H hu A2 A0 e;go_enter func39,ntmps39;go_wp2;go_end0;exact⟨rfl,HR,LU.refl _ _⟩
 ·obtain⟨s,rfl,A5,A1⟩:=A2.slot hp;obtain⟨A3,A8⟩:=H.inv.unref1 A5 A1;have hK:=H.ks;have A9:=H.refsLe A1 (by simp;omega);obtain⟨y0,y1,y2,yl⟩:=H.slot A1;have k4:=H.P.head.cell (i:=4) rfl;have B0:w.frozen? ⟨J.sl,s*3+2,none⟩=false:=H.P.slots.free _;have B1:=H.P.head.lt;have e:(((2*s:Nat):Int) / 2).toNat=s:=by omega
  have A4:vz S busy ((2*s:Nat):Int)=kn (S.put s { S.sl s with refs:=(S.sl s).refs-1 }) busy s:=by
   unfold vz;rw[if_pos (by omega),e]
  have HP:=H.P.setRefs A1 ((S.sl s).refs-1)
  have HM:Zh (w.setCell ⟨J.sl,s*3+2,none⟩ (.int .i64 ((S.sl s).refs-1:Nat))) J K NW N (S.put s { S.sl s with refs:=(S.sl s).refs-1 }) A ex (λt=>pe t\/t=s) bl T made U F busy:=by
   have hi:=ct (l:=S.sls) (s:=s) (x:={ S.sl s with refs:=(S.sl s).refs-1 }) rfl;have hd:=ko (l:=S.sls) (s:=s) (x:={ S.sl s with refs:=(S.sl s).refs-1 }) rfl;exact⟨by rw[(zd8 S s _).1,(zd8 S s _).2.1,hi,hd];exact HP,H.dk,A3,H.ks⟩
  have HC:=zh (zo6 HM A1);have HU:=zh hu;have A6:=zh A4;have e1:(((S.sl s).refs:Int)-1)=(((S.sl s).refs-1:Nat):Int):=by omega
  have E1:=zh e1;have e2:((2*s:Nat):Int)=2*(s:Int):=by omega
  clear hu A2 A4 HP HM A3 e1 e H hp;generalize(S.sl s).refs=q at *;have B2:((q:Int)-1)=((q-1:Nat):Int):=by omega
  go_enter func39,ntmps39;go_wp2_with fail;go_call HC as e w1 ⟨rfl,hm,hu⟩;have HM:=zh hm;have A7:=zh hu;clear hm hu HC y0 y1 y2 k4;go_wp2;go_end0;have h1:=HU.out;rw[A6.out] at h1 ⊢;exact⟨rfl,⟨HM.P,HM.dk,h1,HM.ks⟩,(LU.setSl _ _ _ _).trans A7⟩
theorem zx7(H:Zh w J K NW N S A ex pe bl T made U F busy)(wv there:Int)(A1:vy K wv) :
 Calls prog 90 #[.pointer (some ⟨J.m,0,none⟩),.int .i64 wv,.int .i64 there] w λe w'=>e=.returned (.int .i64 (vk (λs=>(S.sl s).id) wv there))/\w=w':=by
 have HW:=zh (z4n wv w);have hK:=H.ks;have A3:=H.P.head.lt;unfold vk;by_cases h1:zih wv=true
 ·rw[if_pos h1];rw[h1] at HW;clear H h1;generalize zwn wv=z at *;go_enter func90,ntmps90;go_wp2_with (go_at_call 134;go_call HW as e w' ⟨rfl,rfl⟩);go_ret;exact⟨rfl,rfl⟩
 ·rw[if_neg h1];have A0:zih wv=false:=by simpa using h1
  rw[A0] at HW;by_cases h2:wv=65534
  ·rw[if_pos h2];subst h2;clear H h1 A0;generalize zwn 65534=z at *;go_enter func90,ntmps90;go_wp2_with (go_at_call 134;go_call HW as e w' ⟨rfl,rfl⟩);go_ret;exact⟨rfl,rfl⟩
  ·rw[if_neg h2]
   have hp:¬ym wv:=λh=>by
    rcases h with h|h
    ·exact h1 (zc3 h)
    ·exact h2 h
   obtain⟨s,rfl,A4,A2⟩:=A1.slot hp;have e:(((2*s:Nat):Int) / 2).toNat=s:=by omega
   rw[e];obtain⟨y0,y1,y2,yl⟩:=H.slot A2;have k4:=H.P.head.cell (i:=4) rfl;have e2:((2*s:Nat):Int)=2*(s:Int):=by omega
   have h3:(2*(s:Int) == 65534)=false:=by simp;omega
   have HO:=zh (zhi ((S.sl s).id:Int) w);rw[e2] at HW ⊢;show Calls _ _ _ _ λe w'=>e=.returned (.int .i64 (za1 ((S.sl s).id:Int)))/\w=w'
   clear H h1 A0 h2 hp A1 e e2;generalize zwn (2*(s:Int))=z at *;generalize(S.sl s).id=q at *;go_enter func90,ntmps90
   go_wp2_with (first
    | (go_at_call 134;go_call HW as e w' ⟨rfl,rfl⟩)
    | (go_at_call 66;go_call HO as e w' ⟨rfl,rfl⟩))
   go_ret;exact⟨rfl,rfl⟩
end
end Go.Proofs.YtoeibiahbenpcaaGreatDoor
