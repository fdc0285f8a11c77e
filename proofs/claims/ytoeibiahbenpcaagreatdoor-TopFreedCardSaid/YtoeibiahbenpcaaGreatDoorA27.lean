/- Part. -/
import Derived.Test.YtoeibiahbenpcaaGreatDoorA26
namespace Go.Proofs.YtoeibiahbenpcaaGreatDoor
open RowKit Maps Proofs.Tryz
set_option linter.unusedVariables false
set_option maxRecDepth 99999
set_option maxHeartbeats 9000000
section
variable{w:World}{J:LmI}{K NW N:Nat}{S:Lm}{A:Nat->Option Ob}{ex:List Int}{pe bl:Nat->Prop}{T:Tb}{made U:Nat}{F:Nat->Nat}{busy:Nat}
theorem LU.fresh{J:LmI}{a b c:World}{m:List Nat}(h:LU J a b)(k:Upd m b c)(hm:∀x∈m,a.heap.size<=x):LU J a c :=
 ⟨k.os.trans h.os,k.tape.trans h.tape,k.output.trans h.output,Nat.le_trans h.size k.size,λi hi hn ht=>(k.block i (Nat.lt_of_lt_of_le hi h.size) (λhx=>by have:=hm i hx;omega)).trans (h.block i hi hn ht)⟩
theorem Zh.fixlt(H:Zh w J K NW N S A ex pe bl T made U F busy):∀k∈J.fix,k<w.heap.size:=λk hk=>by
 by_cases hI:k∈J.I.all
 ·exact H.P.sec.lt k hI
 ·obtain⟨t,xs,h1,-⟩:=H.P.types k hk hI;exact h1.lt
theorem Zh.Blt(H:Zh w J K NW N S A ex pe bl T made U F busy):J.B<=w.heap.size:=by
 obtain⟨S',⟨⟨vb,hx⟩,-⟩,-⟩:=H.P.heap.at_;have:=hx.lo.1;have:=hx.head.lt;omega
theorem Zh.newer{w0 w':World}(H:Zh w J K NW N S A ex pe bl T made U F busy)(hf:∀k∈J.fix,k<w0.heap.size)(hB:J.B<=w0.heap.size){l:List Nat}(u:Upd l w w')(hl:∀k∈l,w0.heap.size<=k/\∀cs t r,w.heap[k]?=some (.cells cs t r)->¬zid t):Zh w' J K NW N S A ex pe bl T made U F busy :=
 ⟨H.P.keep u (λk hk _=>⟨λhm=>by have:=hf k hm;have:=(hl k hk).1;omega,by have:=(hl k hk).1;omega,(hl k hk).2⟩),H.dk,H.inv,H.ks⟩
def cn(J:LmI)(K busy:Nat):List Value:=[.pointer (some ⟨J.I.s,0,none⟩),.pointer (some ⟨J.h,0,none⟩),.pointer (some ⟨J.t,0,none⟩),.pointer (some ⟨J.c,0,none⟩),.slice (some ⟨J.sl,0,none⟩) (K+1) (K+1),.int .i64 busy]
structure zhd(S S':Lm)(A:Nat->Option Ob)(s:Nat)(r:Rs):Prop where
 V:S'.V=S.V
 dk:S'.dk (S.sl s).id=A (S.sl s).id
 sl:S'.sl s = { S.sl s with res:=some { r with dirty:=false } }
 ot:∀t,t≠s->S'.sl t=S.sl t
 len:S'.sls.length=S.sls.length
 dko:∀i,i≠(S.sl s).id->S'.dk i=S.dk i
def zj2(w:World)(J:LmI)(K NW N:Nat)(S:Lm)(A:Nat->Option Ob)(ex:List Int)(pe bl:Nat->Prop)(made U:Nat)(F:Nat->Nat)(busy s:Nat)(r:Rs)(e:Ending)(w':World):Prop :=
 e=.returned (.tuple #[])/\LU J w w'/\∃S' T',Zh w' J K NW N S' A ex pe bl T' made U F busy/\zhd S S' A s r
theorem Zh.resrow(H:Zh w J K NW N S A ex pe bl T made U F busy){s:Nat}{r:Rs}(hr:(S.sl s).res=some r):Row w r.ad 86 (zkp r):=(H.P.resid s r hr).2
theorem Zh.hS(H:Zh w J K NW N S A ex pe bl T made U F busy){s:Nat}{r:Rs}(hr:(S.sl s).res=some r):w.cell? ⟨J.m,1,none⟩=some (.pointer (some ⟨J.h,0,none⟩))/\w.cell? ⟨J.sl,s*3,none⟩=some (.pointer (some ⟨r.ad,0,none⟩))/\w.cell? ⟨r.ad,0,none⟩=some (.int .i64 r.hb):=by
 refine⟨H.P.head.cell (i:=1) rfl,?_,(H.resrow hr).cell (i:=0) rfl⟩;have y0:=(H.slot (H.inv.res_id hr).2.2).1;have e0:yx (S.sl s)=.pointer (some ⟨r.ad,0,none⟩):=by unfold yx;rw[hr]
 rw[e0] at y0;exact y0
theorem zi1{α:Type}{a b:List α}{k:Nat}(h:a.length=b.length)(hk:k<b.length)(d:α):(a.take k++b.drop k).set k (a.getD k d)=a.take (k+1)++b.drop (k+1):=by
 refine List.ext_getElem? (λi=>?_);have hl:(a.take k).length=k:=by simp;omega
 have A0:(a.take (k+1)).length=k+1:=by simp;omega
 rw[List.getElem?_set];by_cases h1:k=i
 ·subst h1;rw[if_pos rfl,if_pos (by simp;omega),List.getElem?_append_left (by omega),List.getElem?_take,if_pos (by omega),zg,ze (by omega)];rfl
 ·rw[if_neg h1];by_cases h2:i<k
  ·rw[List.getElem?_append_left (by omega),List.getElem?_append_left (by omega),List.getElem?_take,List.getElem?_take,if_pos h2,if_pos (by omega)]
  ·rw[List.getElem?_append_right (by omega),List.getElem?_append_right (by omega),hl,A0,List.getElem?_drop,List.getElem?_drop];congr 1;omega
theorem zm0{α:Type}{a b:List α}{k:Nat}(h:a.length=b.length)(hk:k<b.length)(d:α):(a.take k++b.drop k)[k]?=some (b.getD k d):=by
 have hl:(a.take k).length=k:=by simp;omega
 rw[List.getElem?_append_right (by omega),hl,List.getElem?_drop,Nat.sub_self,Nat.add_zero,zg,ze hk];rfl
theorem zsi{x:Int}(h:yh x=true):-2147483647<=x/\x<=2147483647:=by
 by_cases hc:x % 2=1/\-2147483647<=x/\x<=2147483647\/x % 2=0/\2<=x/\x<=2147483646
 ·omega
 ·rw[zn6 hc] at h;cases h
theorem Ob.good.i64{o:Ob}(h:o.good):I64 o.W:=λx hx=>by
 rcases h.1.2 with⟨_,_,_,h4⟩|⟨_,h3,_⟩
 ·have:=zsi (h4 x hx);omega
 ·rw[h3] at hx;cases hx
theorem zyv{s:Nat}{o:Ob}{w6:World}(hP:LmP w6 J K NW S.sls S.V (K+3) (xa S.sls) (zc0 S.sls) (zj4 T (S.sl s).id o) made U N F busy)(A2:S.dk=zt T)(A0:qn S A K ex pe bl)(A4:K<=800){r:Rs}(hr:(S.sl s).res=some r){d:Ob}{ws:List Int}(ok:zhj S A K (S.sl s) r o d ws) :
 Zh (w6.setCell ⟨r.ad,3,none⟩ (.bool false)) J K NW N (Z0 S s r.hb ws false o) A ex pe bl (zj4 T (S.sl s).id o) made U F busy/\zhd S (Z0 S s r.hb ws false o) A s r:=by
 obtain⟨hid,A6,A7⟩:=A0.res_id hr;have A3:s<S.sls.length:=by rw[A0.len];omega
 obtain⟨hb,A1⟩:=hP.resid s r hr;have A5:=hP.res' (r':={ r with dirty:=false }) (w':=w6.setCell ⟨r.ad,3,none⟩ (.bool false)) (by omega) hr rfl (λt q hq he=>A0.ads t s q r hq hr he) ((Upd.refl _ _).setCell (by simp) _) (A1.set 3 _)
 have e1:(Z0 S s r.hb ws false o).sls=S.sls.set s { S.sls.getD s z6 with res:=some { r with dirty:=false } }:=by
  unfold Z0;simp only;rw[hr];rfl
 have e2:(Z0 S s r.hb ws false o).V=S.V:=zkc ok.V;refine⟨⟨?_,?_,A0.clean hr ok,A4⟩,⟨e2,?_,?_,?_,by rw[e1,List.length_set],λi hi=>Ze _ _ hi⟩⟩
 ·have hi:=ko (l:=S.sls) (s:=s) (x:={ S.sls.getD s z6 with res:=some { r with dirty:=false } }) rfl;have hn:=ct (l:=S.sls) (s:=s) (x:={ S.sls.getD s z6 with res:=some { r with dirty:=false } }) (by have:(S.sls.getD s z6).res=some r:=hr;rw[this];rfl);rw[e1,e2,hi,hn];exact A5
 ·show upF S.dk (S.sl s).id (some o)=_
  funext j;rw[co];unfold upF;have h1:(zt T (S.sl s).id).isSome=true:=by rw[<-A2,ok.dk];rfl
  by_cases hj:j=(S.sl s).id
  ·rw[if_pos hj,if_pos ⟨hj,h1⟩]
  ·rw[if_neg hj,if_neg (λh=>hj h.1),A2]
 ·show upF S.dk (S.sl s).id (some o) (S.sl s).id=_
  rw[Zm,ok.ob]
 ·rw[zgw A3,if_pos rfl,hr];rfl
 ·intro t ht;rw[zgw A3,if_neg ht]
theorem zu5(H:Zh w J K NW N S A ex pe bl T made U F busy){s:Nat}{r:Rs}(hr:(S.sl s).res=some r)(hd:r.dirty=false) :
 Calls prog 42 #[.pointer (some ⟨J.m,0,none⟩),.pointer (some ⟨J.sl,s*3,none⟩)] w (zj2 w J K NW N S A ex pe bl made U F busy s r):=by
 obtain⟨hid,A2,A1⟩:=H.inv.res_id hr;obtain⟨y0,y1,y2,yl⟩:=H.slot A1;have e0:yx (S.sl s)=.pointer (some ⟨r.ad,0,none⟩):=by unfold yx;rw[hr]
 rw[e0] at y0;have A0:=H.resrow hr;have z3:=A0.cell (i:=3) rfl;have zl:=A0.lt;rw[hd] at z3;obtain⟨o,d,ws,ok⟩:=H.inv.res s r hr
 have HB:Hid (zhd S S A s r):=⟨rfl,by rw[ok.ob,ok.dk,ok.clean hd],by
  have e1:({ r with dirty:=false }:Rs)=r:=by rw[<-hd]
  rw[e1];cases hx:S.sl s with
  | mk a b c=>rw[hx] at hr;simp only at hr ⊢;rw[hr],λ_ _=>rfl,rfl,λ_ _=>rfl⟩
 have HH:=zh H;clear H A0 ok e0;go_enter func42,ntmps42;go_wp2;go_end0;exact⟨rfl,LU.refl _ _,S,T,HH,HB⟩
structure z5r(wd w5:World)(q:Nat)(d:Za)(I:qy)(T:Tb)(made U N:Nat)(F:Nat->Nat)(o:Ob):Prop where
 q0:wd.heap.size<=q
 row:Row w5 q 28 [.int .i64 d.cls,.int .i64 d.kind,.slice d.wa d.wn d.wc,.slice d.ba d.bn d.bc]
 ok:d.ok w5
 own:xn wd.heap.size w5 d
 qw:∀x,d.wa=some x->x.block≠q
 qb:∀x,d.ba=some x->x.block≠q
 is_:Is d o
 sec:Zn w5 I T made U N F
 upd:Upd I.E.all wd w5
theorem xn.at{base:Nat}{w:World}{d:Za}(h:xn base w d):(∀x,d.wa=some x->base<=x.block/\x.block<w.heap.size)/\(∀x,d.ba=some x->base<=x.block/\x.block<w.heap.size) :=
 ⟨λx hx=>h.1.lt x.block (by rw[hx];rfl),λx hx=>h.2.lt x.block (by rw[hx];rfl)⟩
theorem zgt{wd w4:World}{I:qy}{N:Nat}{o:Ob}{d:Za}(A0:d.ok w4)(own:xn wd.heap.size w4 d)(hi:Is d o)(hs:Zn w4 I T made U N F)(hu:Upd I.E.all wd w4) :
 z5r wd (w4.alloc (.cells #[.int .i64 d.cls,.int .i64 d.kind,.slice d.wa d.wn d.wc,.slice d.ba d.bn d.bc] 28)) w4.heap.size d I T made U N F o:=by
 have hb:Below w4.heap.size w4 (w4.alloc (.cells #[.int .i64 d.cls,.int .i64 d.kind,.slice d.wa d.wn d.wc,.slice d.ba d.bn d.bc] 28)):=(Below.refl _ _).alloc (Nat.le_refl _) _;exact⟨hu.size,Row.made _ _ _,A0.below hb,own.below hb,λx hx=>by have:=own.at.1 x hx;omega,λx hx=>by have:=own.at.2 x hx;omega,hi,hs.below hb,hu.alloc _⟩
theorem zew{wd wq w4 w5:World}{I:qy}{N:Nat}{o:Ob}{d:Za}{q:Nat}(hq:q=wd.heap.size)(A1:wq=wd.alloc (.cells #[.int .i64 0,.int .i64 0,.slice none 0 0,.slice none 0 0] 28))(hI:∀k∈I.all,k<wd.heap.size)
 (A0:d.ok w4) (own:xn wq.heap.size w4 d) (hi:Is d o) (hs:Zn w4 I T made U N F) (hu:Upd I.E.all wq w4)
 (A2:w5=(((w4.setCell ⟨q,0,none⟩ (.int .i64 d.cls)).setCell ⟨q,1,none⟩ (.int .i64 d.kind)).setCell ⟨q,2,none⟩ (.slice d.wa d.wn d.wc)).setCell ⟨q,3,none⟩ (.slice d.ba d.bn d.bc)) :
 z5r wd w5 q d I T made U N F o:=by
 have A3:Below wd.heap.size wd wq:=by rw[A1];exact(Below.refl _ _).alloc (Nat.le_refl _) _
 have rq:Row wq q 28 [.int .i64 0,.int .i64 0,.slice none 0 0,.slice none 0 0]:=by rw[A1,hq];exact Row.made _ _ _
 have A5:wq.heap.size=wd.heap.size+1:=by rw[A1];simp
 have A4:q∉I.E.all:=λhm=>by have:=hI q (by simp[qy.all,hm]);omega
 have rq4:=rq.keep hu A4;have u5:Upd [q] w4 w5:=by rw[A2];exact((((Upd.refl [q] w4).setCell (by simp) _).setCell (by simp) _).setCell (by simp) _).setCell (by simp) _
 have hw:∀x,d.wa=some x->x.block≠q:=λx hx=>by have:=(own.at.1 x hx).1;omega
 have hb:∀x,d.ba=some x->x.block≠q:=λx hx=>by have:=(own.at.2 x hx).1;omega
 have own5:xn wd.heap.size w5 d:=(own.keep u5 (λk hk=>by simp at hk;omega)).mono (by omega)
 refine⟨by omega,by rw[A2];exact(((rq4.set 0 _).set 1 _).set 2 _).set 3 _,⟨A0.c0,A0.k0,A0.wl,A0.wm,u5.reads A0.wr (λx hx hm=>by simp at hm;exact hw x hx hm),A0.wi,A0.bl,A0.bm,u5.reads A0.br (λx hx hm=>by simp at hm;exact hb x hx hm),A0.bb⟩,own5,hw,hb,hi,
  hs.keep u5 (λk hk hm=>by simp at hm;have:=hI k hk;omega),((Upd.of_below A3).trans hu).fresh u5 (λk hk=>by simp at hk;omega)⟩
theorem zq7(H:Zh w J K NW N S A ex pe bl T made U F busy){s:Nat}{r:Rs}(hr:(S.sl s).res=some r)(hd:r.dirty=true) :
 Calls prog 42 #[.pointer (some ⟨J.m,0,none⟩),.pointer (some ⟨J.sl,s*3,none⟩)] w (zj2 w J K NW N S A ex pe bl made U F busy s r):=by
 obtain⟨hid,N9,K5⟩:=H.inv.res_id hr;obtain⟨y0,y1,y2,yl⟩:=H.slot K5;have e0:yx (S.sl s)=.pointer (some ⟨r.ad,0,none⟩):=by unfold yx;rw[hr]
 rw[e0] at y0;have C8:=H.resrow hr;have z3:=C8.cell (i:=3) rfl;have zl:=C8.lt;rw[hd] at z3;have m0:=H.P.head.cell (i:=0) rfl;have ml:=H.P.head.lt;obtain⟨o,d,ws,ok⟩:=H.inv.res s r hr
 have J2:lookI T ((S.sl s).id:Int)=some d:=by
  rw[je,<-ok.dk,H.dk]
 have K6:wfK ((S.sl s).id:Int):=by have:=H.inv.idlt s;exact zfx (by omega)
 have HH:=zh H;have A0:=zh ok;have O0:=zh hid;have C0:Hid (Row w J.m 69 (cn J K busy)):=H.P.head;have C1:=zh H.P.slots;have K7:=zh J2;have K8:=zh K6;have K9:=(H.P.sec.good _ (Zl (by rw[<-je];exact J2)));have J3:=zh K9;clear H C8 ok e0 J2 hid K6 K9;go_enter func42,ntmps42;go_wp2_with fail
 refine xx (λz:World=>z.cell? ⟨J.m,0,none⟩=some (.pointer (some ⟨J.I.s,0,none⟩))/\z.cell? ⟨J.sl,s*3+1,none⟩=some (.int .i64 (S.sl s).id)) [0,1,2,3,4,5,6,7,8,9,10,11,12,13,14]
  (.load 0 (.load 1 (.load 2 (.load 3 (.load 4 (.load 5 (.load 6 (.load 7 (.two 8 12 (.load 9 (.load 10 (.load 11 (.sole 12 (.sole 13 (.load 14 .fin)))))) (.sole 8 (.load 9 (.load 10 (.load 11 (.sole 13 (.load 14 .fin))))))))))))))) (by kernel_rfl) (by kernel_rfl) (λ_ _ _ _ _ h=>h) ?_
 have D8:(λz:World=>z.cell? ⟨J.m,0,none⟩=some (.pointer (some ⟨J.I.s,0,none⟩))/\z.cell? ⟨J.sl,s*3+1,none⟩=some (.int .i64 (S.sl s).id)) w.drew:=⟨m0,y1⟩;clear m0 y0 y1 y2 z3 zl
 (repeat (refine Zj D8 rfl (λK hK=>?_);go_simp;(try go_bits);refine hK _ ?_;clear hK K))
 refine kd (.pointer (some ⟨J.I.s,0,none⟩)) D8 rfl rfl (λx hS=>by obtain⟨s0,s1⟩:=hS;go_simp) (λK hK=>?_);refine hK _ ?_;clear hK K
 (repeat (refine Zj D8 rfl (λK hK=>?_);go_simp;(try go_bits);refine hK _ ?_;clear hK K))
 refine kd (.int .i64 (S.sl s).id) D8 rfl rfl (λx hS=>by obtain⟨s0,s1⟩:=hS;go_simp) (λK hK=>?_);refine hK _ ?_;clear hK K;have B0:=zh (HH.below (Zd (Below.refl _ w)));have C9:Hid (LU J w w.drew):=LU.of_below (Zd (Below.refl _ w));have I1:Hid (Row w.drew J.m 69 (cn J K busy)):=C0.out.drew;have I2:Hid (Row w.drew J.sl 84 (ja S.sls)):=C1.out.drew;have C2:Hid (∀z:World,Row z J.m 69 (cn J K busy)->Row z J.sl 84 (ja S.sls)->(z.cell? ⟨J.m,0,none⟩=some (.pointer (some ⟨J.I.s,0,none⟩))/\z.cell? ⟨J.sl,s*3+1,none⟩=some (.int .i64 (S.sl s).id))):=λz r1 r2=>⟨r1.cell (i:=0) rfl,r2.cell (Z6 (l:=S.sls) (s:=s) (by rw[HH.out.lens];omega)).2.1⟩
 clear C0 C1;generalize w.drew=wd at *
 have D9:∀v,Below wd.heap.size wd v->Hid (Calls prog 37 #[.pointer (some ⟨J.I.s,0,none⟩),.int .i64 (S.sl s).id] v λe w'=>∃dd:Za,e=.returned (.tuple #[.agg #[.int .i64 dd.cls,.int .i64 dd.kind,.slice dd.wa dd.wn dd.wc,.slice dd.ba dd.bn dd.bc],.int .i64 0])/\dd.ok w'/\xn v.heap.size w' dd/\Is dd d/\Zn w' J.I T made U N F/\Upd J.I.E.all v w'):=λv hv=>by
  refine(zb1 (B0.P.sec.below hv) _ K8 d K7).mono ?_;rintro e w' ⟨dd,rfl,a1,a2,a3,a4,a5,a6,a7,a8⟩;exact⟨dd,rfl,a1,a2,⟨a3,a4,a5,a6⟩,a7,a8⟩
 have E0:=zh D9;have J4:=HH.P.fixne;have I3:Hid (J.m∉J.I.E.all/\J.sl∉J.I.E.all):=⟨λhm=>J4.1 J.m (by simp) (by simp[qy.all,hm]),λhm=>J4.1 J.sl (by simp) (by simp[qy.all,hm])⟩;have L0:=zh B0.P.sec.lt;clear D9 J4;refine zfr rfl rfl ?_ ?_;go_wp2_with fail;refine(E0 wd (Below.refl _ _)).out.mono ?_;rintro e w4 ⟨dd,rfl,E1,B1,hi,hs,hu⟩;have B3:=zh (I1.keep hu I3.out.1);have B4:=zh (I2.keep hu I3.out.2);have A1:=zh (zgt E1 B1 hi hs hu);clear E1 B1 hi hs hu;go_wp2;refine⟨C2 _ B3 B4,?_⟩;have B2:=zh (C2 _ B3 B4)
 (repeat (refine Zj B2.out rfl (λK hK=>?_);go_simp;(try go_bits);refine hK _ ?_;clear hK K))
 refine Zu rfl ?_;go_wp2_with fail;refine⟨C2 _ (B3.alloc _) (B4.alloc _),?_⟩;refine Zu rfl ?_;go_wp2_with fail;obtain⟨q,hq⟩:=zx (w4.heap.size);obtain⟨w5,B5⟩:=zx (w4.alloc (.cells #[.int .i64 dd.cls,.int .i64 dd.kind,.slice dd.wa dd.wn dd.wc,.slice dd.ba dd.bn dd.bc] 28));have I4:Hid (Row w5 J.m 69 (cn J K busy)):=by rw[B5];exact B3.alloc _
 have I5:Hid (Row w5 J.sl 84 (ja S.sls)):=by rw[B5];exact B4.alloc _
 rw[<-B5,<-hq] at A1;rw[<-B5,<-hq];clear B5 hq B3 B4 B2
 rotate_left
 go_wp2_with fail;obtain⟨q,hq⟩:=zx (wd.heap.size);obtain⟨wq,D0⟩:=zx (wd.alloc (.cells #[.int .i64 0,.int .i64 0,.slice none 0 0,.slice none 0 0] 28));have I6:Below wd.heap.size wd wq:=by rw[D0];exact zn (Below.refl _ _)
 refine⟨C2 _ (I1.alloc _) (I2.alloc _),?_⟩;refine Zu rfl ?_;go_wp2_with fail;rw[<-D0,<-hq];have L1:Hid (Row wq J.m 69 (cn J K busy)):=by rw[D0];exact I1.alloc _
 have L2:Hid (Row wq J.sl 84 (ja S.sls)):=by rw[D0];exact I2.alloc _
 refine(E0 wq I6).out.mono ?_;rintro e w4 ⟨dd,rfl,E1,B1,hi,hs,hu⟩;have B3:=zh (L1.keep hu I3.out.1);have B4:=zh (L2.keep hu I3.out.2)
 have rq4:Row w4 q 28 [.int .i64 0,.int .i64 0,.slice none 0 0,.slice none 0 0]:=by
  refine Row.keep ?_ hu (λhm=>by have:=L0.out q (by simp[qy.all,hm]);omega);rw[D0,hq];exact Row.made _ _ _
 have f0:=rq4.free 0;have f1:=rq4.free 1;have f2:=rq4.free 2;have f3:=rq4.free 3;have g0:=rq4.cell (i:=0) rfl;have g1:=rq4.cell (i:=1) rfl;have g2:=rq4.cell (i:=2) rfl;have g3:=rq4.cell (i:=3) rfl;have gl:=rq4.lt;have E2:=zh (λw5=>zew (w5:=w5) hq D0 L0 E1 B1 hi hs hu);have L3:=zh hq;clear E1 B1 hi hs hu I6 D0 hq rq4;go_wp2_with fail;refine⟨C2 _ B3 B4,?_⟩;have B2:=zh (C2 _ B3 B4)
 (repeat (refine Zj B2.out rfl (λK hK=>?_);go_simp;(try go_bits);refine hK _ ?_;clear hK K))
 refine Zu rfl ?_;go_wp2_with fail;obtain⟨w5,B5⟩:=zx ((((w4.setCell ⟨q,0,none⟩ (.int .i64 dd.cls)).setCell ⟨q,1,none⟩ (.int .i64 dd.kind)).setCell ⟨q,2,none⟩ (.slice dd.wa dd.wn dd.wc)).setCell ⟨q,3,none⟩ (.slice dd.ba dd.bn dd.bc));have A1:=zh (E2 w5 B5);have u5:Upd [q] w4 w5:=by rw[B5];exact((((Upd.refl [q] w4).setCell (by simp) _).setCell (by simp) _).setCell (by simp) _).setCell (by simp) _
 have J5:q∉[J.m,J.sl]:=λhm=>by
  have h1:=I1.out.lt;have h2:=I2.out.lt;have h3:=L3.out;simp at hm;omega
 have I4:Hid (Row w5 J.m 69 (cn J K busy)):=B3.out.keep u5 (λhm=>J5 (by simp at hm;simp[hm]));have I5:Hid (Row w5 J.sl 84 (ja S.sls)):=B4.out.keep u5 (λhm=>J5 (by simp at hm;simp[hm]));rw[<-B5];clear B5 u5 J5 f0 f1 f2 f3 g0 g1 g2 g3 gl B3 B4 L1 L2 B2 E2 L3
 all_goals
  refine⟨C2 _ I4 I5,?_⟩;have E3:=zh (C2 _ I4 I5)
  (repeat (refine Zj E3.out rfl (λK hK=>?_);go_simp;(try go_bits);refine hK _ ?_;clear hK K))
  refine zcg ?_;clear E3 D8;have E4:Hid (Zh w5 J K NW N S A ex pe bl T made U F busy):=⟨B0.out.P.sec' A1.out.upd (λk hk=>by simp[qy.all,hk]) A1.out.sec,B0.out.dk,B0.out.inv,B0.out.ks⟩;have E5:Hid (LU J w w5):=C9.out.trans (.disk A1.out.upd (λk hk=>by simp[qy.all,hk]));have D1:=zh A1.row;have L4:Hid (w5.ownsRow wd.heap.size 3 1 (.slice dd.wa dd.wn dd.wc) dd.wn (d.W.map (Value.int .i64))):=by have:=A1.out.own.1;rw[A1.out.is_.W] at this;exact this
  have E6:Hid (w5.ownsRow wd.heap.size 5 1 (.slice dd.ba dd.bn dd.bc) dd.bn (d.B.map (Value.int .u8))):=by have:=A1.out.own.2;rw[A1.out.is_.B] at this;exact this
  have L5:dd.wn=d.W.length:=by rw[A1.out.ok.wl,A1.out.is_.W]
  have L6:dd.bn=d.B.length:=by rw[A1.out.ok.bl,A1.out.is_.B]
  have O1:=A1.out.ok.wm;have O2:=A1.out.ok.bm;have N1:d.W.length<=1000/\d.B.length<=1000:=by rcases J3.kinds with⟨_,a,b,_⟩|⟨_,a,b,_⟩<;>simp[a]<;>omega
  have z2:=D1.cell (i:=2) rfl;have zq:=D1.out.lt;have C3:=zh L5;have D2:=zh L6;have N2:Hid (∀k∈J.fix,k<q):=λk hk=>Nat.lt_of_lt_of_le (B0.fixlt k hk) A1.q0
  obtain⟨J6,J7⟩:=N1;have O3:dd.wn<=1000:=by omega
  have O4:dd.bn<=1000:=by omega
  clear L5 L6 I4 I5 J6 J7;go_wp2;go_loopw [35] (λi wr=>∃k:Nat,k<=dd.wn/\i=.int .i64 k/\Hid (Zh wr J K NW N S A ex pe bl T made U F busy)/\Hid (Row wr q 28 [.int .i64 dd.cls,.int .i64 dd.kind,.slice dd.wa dd.wn dd.wc,.slice dd.ba dd.bn dd.bc])/\Hid (wr.ownsRow wd.heap.size 3 1 (.slice dd.wa dd.wn dd.wc) dd.wn ((o.W.take k++d.W.drop k).map (Value.int .i64)))/\Hid (wr.ownsRow wd.heap.size 5 1 (.slice dd.ba dd.bn dd.bc) dd.bn (d.B.map (Value.int .u8)))/\Hid (LU J w wr)) (λi _=>dd.wn-(intOf i).toNat)
  case atStart=>exact⟨0,Nat.zero_le _,rfl,E4,D1,by unfold Hid;simpa using L4.out,E6.out,E5.out⟩
  case round =>
   obtain⟨k,hk,rfl,HL,HR,HW,HB,HU⟩:=hrel;clear E4 E5 D1 L4 E6 z2 zq;by_cases J8:k<dd.wn
   ·have N3:d.kind=1:=by
     rcases J3.out.kinds with⟨a,_⟩|⟨_,a,_⟩
     ·exact a
     ·have:=C3.out;simp[a] at this;omega
    have hV:=A0.V;have E7:o.kind=1:=by rw[<-A0.out.kind.1];exact N3
    have B6:ws.length=dd.wn:=by
     rw[A0.out.len,C3.out,A0.out.size.1];have C4:=(HH.inv.good _ _ A0.ob).kinds;unfold nWd;rw[if_neg (by omega)];rcases C4 with⟨_,_,_,a⟩|⟨a,_⟩
     ·exact a
     ·omega
    obtain⟨xw,C5⟩:=zx (ws.getD k 0);have D3:=zh (λv (hv:Below wr.heap.size wr v)=>zed (HL.out.P.heap.below hv) hV k (by omega));rw[<-C5] at D3;have I7:=zh C5;clear C5;have E8:=HL.hS hr;have m1l:=HL.P.head.lt;clear hV;go_wp2_with fail;refine zm (λz=>z.cell? ⟨J.m,1,none⟩=some (.pointer (some ⟨J.h,0,none⟩))/\z.cell? ⟨J.sl,s*3,none⟩=some (.pointer (some ⟨r.ad,0,none⟩))/\z.cell? ⟨r.ad,0,none⟩=some (.int .i64 r.hb)) (zp [0,1,2,3,4,5,6,7,8,9,10,11,1012,13,14,15,16,17]) (by kernel_rfl) (by kernel_rfl) (λ_ _ _ _ _ h=>h) E8 ?_;clear E8
    (repeat (refine zi rfl (λK hK=>?_);go_simp;(try go_bits);refine hK _ ?_;clear hK K))
    refine zl (.pointer (some ⟨J.h,0,none⟩)) rfl rfl (λx hS=>by obtain⟨s0,s1,s2⟩:=hS;go_simp) ?_
    (repeat (refine zi rfl (λK hK=>?_);go_simp;(try go_bits);refine hK _ ?_;clear hK K))
    refine zl (.pointer (some ⟨r.ad,0,none⟩)) rfl rfl (λx hS=>by obtain⟨s0,s1,s2⟩:=hS;go_simp) ?_
    (repeat (refine zi rfl (λK hK=>?_);go_simp;(try go_bits);refine hK _ ?_;clear hK K))
    refine zl (.int .i64 r.hb) rfl rfl (λx hS=>by obtain⟨s0,s1,s2⟩:=hS;go_simp) ?_
    (repeat (refine zi rfl (λK hK=>?_);go_simp;(try go_bits);refine hK _ ?_;clear hK K))
    refine zj rfl ?_;go_wp2_with fail;refine(D3 _ (Zd (Below.refl _ _))).mono ?_;rintro e w2 ⟨rfl,E9⟩;have A4:Below wr.heap.size wr w2:=zy (Zd (Below.refl _ wr)) E9;have C6:=zh (HL.below A4);have D4:=zh (HR.out.keep (l:=[]) (.of_below A4) (by simp));have A6:=zh ((Upd.of_below (l:=[]) A4).ownsAbove HW.out (by simp));have A7:=zh ((Upd.of_below (l:=[]) A4).ownsAbove HB.out (by simp));have F0:=zh (HU.trans (.of_below A4));clear E9 A4 D3 HL HR HW HB HU;go_wp2_with fail;refine⟨C6.hS hr,?_⟩
    (repeat (refine zi rfl (λK hK=>?_);go_simp;(try go_bits);refine hK _ ?_;clear hK K))
    refine zo ?_;have D5:0<dd.wn:=by omega
    obtain⟨g,A2⟩:=yo A6 D5;have A8:=A1.qw _ A2;simp only at A8;rw[A2] at A6;have C7:=(A6.lt g rfl).1;obtain⟨-,ys,A5⟩:=Zg A6 g rfl;have A9:o.W.length=d.W.length:=A0.out.size.1.symm
    have F1:w2.cell? ⟨g,k,none⟩=some (.int .i64 (d.W.getD k 0)):=by
     have h1:=A6.out.cellAt k (by omega);rw[h1,List.getElem?_map,zm0 A9 (by have:=C3.out;omega) 0];rfl
    have z2:=D4.cell (i:=2) rfl;rw[A2] at z2;have I8:=A6.frozenAt k;have B7:=zh (λu=>A6.stored k u);have L7:k<ws.length:=by omega
    have F2:vy K xw:=by rw[I7.out];exact A0.out.wok E7 _ (by rw[zg,ze L7];exact List.getElem_mem L7)
    have L8:vk (λs=>(S.sl s).id) xw (d.W.getD k 0)=o.W.getD k 0:=by rw[I7.out];exact A0.out.word E7 k (by have:=C3.out;omega)
    have J9:=zh (zx7 (C6.below (Zd (Below.refl _ w2))) xw (d.W.getD k 0) F2);rw[L8] at J9;have F3:=zh (And.intro A2 (And.intro A8 (And.intro C7 (And.intro (show ∃ys,Row w2 g 3 ys from⟨ys,A5⟩) A9))));clear A2 A8 A5 A9 F2 L8;generalize N4:d.W.getD k 0=x2 at *;generalize F4:o.W.getD k 0=y2 at *;have F5:=zh F4;clear N4 F4;go_wp2_with fail
    refine xx (λz:World=>z.cell? ⟨q,2,none⟩=some (.slice (some ⟨g,0,none⟩) dd.wn dd.wc)/\z.cell? ⟨g,k,none⟩=some (.int .i64 x2)) [0,1,2,3,4,5,6,7,8,9,10,11]
     (.load 0 (.load 1 (.load 2 (.load 3 (.load 4 (.load 5 (.load 6 (.load 7 (.load 8 (.load 9 (.sole 10 (.load 11 (.late 12 .fin))))))))))))) (by kernel_rfl) (by kernel_rfl) (λ_ _ _ _ _ h=>h) ?_
    have B8:(λz:World=>z.cell? ⟨q,2,none⟩=some (.slice (some ⟨g,0,none⟩) dd.wn dd.wc)/\z.cell? ⟨g,k,none⟩=some (.int .i64 x2)) w2.drew:=⟨z2,F1⟩
    (repeat (refine Zj B8 rfl (λK hK=>?_);go_simp;(try go_bits);refine hK _ ?_;clear hK K))
    refine kd (.slice (some ⟨g,0,none⟩) dd.wn dd.wc) B8 rfl rfl (λx hS=>by obtain⟨s0,s1⟩:=hS;go_simp) (λK hK=>?_);refine hK _ ?_;clear hK K
    (repeat (refine Zj B8 rfl (λK hK=>?_);go_simp;(try go_bits);refine hK _ ?_;clear hK K))
    refine kd (.slice (some ⟨g,0,none⟩) dd.wn dd.wc) B8 rfl rfl (λx hS=>by obtain⟨s0,s1⟩:=hS;go_simp) (λK hK=>?_);refine hK _ ?_;clear hK K
    (repeat (refine Zj B8 rfl (λK hK=>?_);go_simp;(try go_bits);refine hK _ ?_;clear hK K))
    refine kd (.int .i64 x2) B8 rfl rfl (λx hS=>by obtain⟨s0,s1⟩:=hS;go_simp) (λK hK=>?_);refine hK _ ?_;clear hK K;refine Zu rfl ?_;go_wp2_with fail;go_call J9 as e w3 ⟨rfl,rfl⟩;go_wp2_with fail;refine⟨B8,?_⟩
    (repeat (refine Zj B8 rfl (λK hK=>?_);go_simp;(try go_bits);refine hK _ ?_;clear hK K))
    refine zwm rfl ?_;clear B8;go_wp2_with fail;obtain⟨A2,A8,C7,⟨ys,A5⟩,A9⟩:=F3.out;obtain⟨w3,A3⟩:=zx ((w2.setCell ⟨g,k,none⟩ (.int .i64 y2)).drew);have u3:Upd [g] w2 w3:=by rw[A3];exact((Upd.refl [g] w2).setCell (by simp) _).drew
    have F6:Hid (w3.ownsRow wd.heap.size 3 1 (.slice dd.wa dd.wn dd.wc) dd.wn ((o.W.take (k+1)++d.W.drop (k+1)).map (Value.int .i64))):=by
     have h1:=(B7 (.int .i64 y2)).1;rw[<-List.map_set,<-F5.out,zi1 A9 (by have:=C3.out;omega)] at h1;rw[A3,A2,<-F5.out];exact h1
    have F7:=zh (C6.newer (w0:=wd) B0.fixlt B0.Blt u3 (λx hx=>by
     simp at hx;subst hx;refine⟨C7,λcs t rr he=>?_⟩;rw[show w2.heap[x]?=_ from A5] at he;cases he
     decide))
    have D6:=zh (D4.out.keep u3 (by simp;exact λe=>A8 e.symm))
    have F8:=zh (u3.owns A7 (λx hx hm=>by
     simp at hm;subst hm;obtain⟨-,ys2,h2⟩:=Zg A7 x hx;rw[Row,show w2.heap[x]?=_ from A5] at h2
     simp at h2))
    have F9:=zh (F0.out.fresh u3 (λx hx=>by simp at hx;subst hx;have:=C9.out.size;omega));rw[<-A3];clear A3 u3 A2 A8 C7 A5 A9 A6 C6 D4 A7 F0 B7 z2 F1 I8 J9;refine zcg ?_;go_wp2_with fail;go_roundw
    case rel=>exact⟨k+1,by omega,by go_num,F7.out,D6.out,F6.out,F8.out,F9.out⟩
    case measure=>simp[intOf];omega
   ·obtain rfl:k=dd.wn:=by omega
    have L9:Hid (wr.ownsRow wd.heap.size 3 1 (.slice dd.wa dd.wn dd.wc) dd.wn (o.W.map (Value.int .i64))):=by
     have h1:=HW.out;have e1:o.W.length=dd.wn:=by rw[C3.out];exact A0.size.1.symm
     rw[List.take_of_length_le (by omega),List.drop_of_length_le (by rw[C3.out];omega),List.append_nil] at h1;exact h1
    have z3:=HR.cell (i:=3) rfl;have zq:=HR.out.lt;have E4:=HL;have D1:=HR;have E6:=HB;have E5:=HU;clear HL HR HW HB HU J8 hk;go_wp2;go_loopw [70] (λi wr=>∃k:Nat,k<=dd.bn/\i=.int .i64 k/\Hid (Zh wr J K NW N S A ex pe bl T made U F busy)/\Hid (Row wr q 28 [.int .i64 dd.cls,.int .i64 dd.kind,.slice dd.wa dd.wn dd.wc,.slice dd.ba dd.bn dd.bc])/\Hid (wr.ownsRow wd.heap.size 3 1 (.slice dd.wa dd.wn dd.wc) dd.wn (o.W.map (Value.int .i64)))/\Hid (wr.ownsRow wd.heap.size 5 1 (.slice dd.ba dd.bn dd.bc) dd.bn ((o.B.take k++d.B.drop k).map (Value.int .u8)))/\Hid (LU J w wr)) (λi _=>dd.bn-(intOf i).toNat)
    case atStart=>exact⟨0,Nat.zero_le _,rfl,E4,D1,L9,by unfold Hid;simpa using E6.out,E5.out⟩
    case round =>
     obtain⟨k,hk,rfl,HL,HR,HW,HB,HU⟩:=hrel;clear E4 E5 D1 L9 E6 z3 zq;by_cases J8:k<dd.bn
     ·have M0:d.kind=2:=by
       rcases J3.out.kinds with⟨_,a,_⟩|⟨a,_⟩
       ·have:=D2.out;simp[a] at this;omega
       ·exact a
      have hV:=A0.V;have G0:o.kind=2:=by rw[<-A0.out.kind.1];exact M0
      have B6:k / 2<ws.length:=by
       rw[A0.out.len];have C4:=(HH.inv.good _ _ A0.ob).kinds;have h5:=A0.out.size.2.1;have h6:=D2.out;unfold nWd;rw[if_pos G0];rcases C4 with⟨a,_⟩|⟨_,_,_,a⟩<;>omega
      obtain⟨xw,C5⟩:=zx (ws.getD (k / 2) 0);have D3:=zh (λv (hv:Below wr.heap.size wr v)=>zed (HL.P.heap.below hv) hV (k / 2) B6);rw[<-C5,show((k / 2:Nat):Int)=(k:Int) / 2 by omega] at D3;have O5:0<=xw/\xw<=65535:=by rw[C5,zg,ze B6];exact A0.rng _ (List.getElem_mem B6)
      have I7:=zh C5;have E8:=HL.hS hr;have m1l:=HL.P.head.lt;clear hV C5 M0;go_wp2_with fail;refine zm (λz=>z.cell? ⟨J.m,1,none⟩=some (.pointer (some ⟨J.h,0,none⟩))/\z.cell? ⟨J.sl,s*3,none⟩=some (.pointer (some ⟨r.ad,0,none⟩))/\z.cell? ⟨r.ad,0,none⟩=some (.int .i64 r.hb)) (zp [0,1,2,3,4,5,6,7,8,9,10,11,12,1013,14,15,16,17,18]) (by kernel_rfl) (by kernel_rfl) (λ_ _ _ _ _ h=>h) E8 ?_;clear E8
      (repeat (refine zi rfl (λK hK=>?_);go_simp;(try go_bits);refine hK _ ?_;clear hK K))
      refine zl (.pointer (some ⟨J.h,0,none⟩)) rfl rfl (λx hS=>by obtain⟨s0,s1,s2⟩:=hS;go_simp) ?_
      (repeat (refine zi rfl (λK hK=>?_);go_simp;(try go_bits);refine hK _ ?_;clear hK K))
      refine zl (.pointer (some ⟨r.ad,0,none⟩)) rfl rfl (λx hS=>by obtain⟨s0,s1,s2⟩:=hS;go_simp) ?_
      (repeat (refine zi rfl (λK hK=>?_);go_simp;(try go_bits);refine hK _ ?_;clear hK K))
      refine zl (.int .i64 r.hb) rfl rfl (λx hS=>by obtain⟨s0,s1,s2⟩:=hS;go_simp) ?_
      (repeat (refine zi rfl (λK hK=>?_);go_simp;(try go_bits);refine hK _ ?_;clear hK K))
      refine zj rfl ?_;go_wp2_with fail;refine(D3 _ (Zd (Below.refl _ _))).mono ?_;rintro e w2 ⟨rfl,E9⟩;have A4:Below wr.heap.size wr w2:=zy (Zd (Below.refl _ wr)) E9;have C6:=zh (HL.below A4);have D4:=zh (HR.out.keep (l:=[]) (.of_below A4) (by simp));have A6:=zh ((Upd.of_below (l:=[]) A4).ownsAbove HW.out (by simp));have A7:=zh ((Upd.of_below (l:=[]) A4).ownsAbove HB.out (by simp));have F0:=zh (HU.trans (.of_below A4));clear E9 A4 D3 HL HR HW HB HU;go_wp2_with fail;refine⟨C6.hS hr,?_⟩
      (repeat (refine zi rfl (λK hK=>?_);go_simp;(try go_bits);refine hK _ ?_;clear hK K))
      refine zo ?_;have D5:0<dd.bn:=by omega
      obtain⟨g,A2⟩:=yo A7 D5;have A8:=A1.qb _ A2;simp only at A8;rw[A2] at A7;have C7:=(A7.lt g rfl).1;obtain⟨-,ys,A5⟩:=Zg A7 g rfl;have A9:o.B.length=d.B.length:=A0.out.size.2.1.symm;have z3:=D4.cell (i:=3) rfl;rw[A2] at z3;have I8:=A7.frozenAt k;have O6:=A5.lt
      have F1:w2.cell? ⟨g,k,none⟩=some (.int .u8 (d.B.getD k 0)):=by
       have h1:=A7.out.cellAt k (by omega);rw[h1,List.getElem?_map,zm0 A9 (by have:=D2.out;omega) 0];rfl
      have B7:=zh (λu=>A7.stored k u);have I9:=A0.out.byte G0 k (by have:=D2.out;omega);unfold zrf at I9;rw[<-I7.out] at I9;have M1:=zh I9;have F3:=zh (And.intro A2 (And.intro A8 (And.intro C7 (And.intro (show ∃ys,Row w2 g 5 ys from⟨ys,A5⟩) A9))));clear A2 A8 A5 A9 I9;generalize F4:o.B.getD k 0=y2 at *;have F5:=zh F4;clear F4
      have B9:Hid (∀w3,w3=(w2.setCell ⟨g,k,none⟩ (.int .u8 y2)).drew->Zh w3 J K NW N S A ex pe bl T made U F busy/\Row w3 q 28 [.int .i64 dd.cls,.int .i64 dd.kind,.slice dd.wa dd.wn dd.wc,.slice dd.ba dd.bn dd.bc]/\w3.ownsRow wd.heap.size 3 1 (.slice dd.wa dd.wn dd.wc) dd.wn (o.W.map (Value.int .i64))/\w3.ownsRow wd.heap.size 5 1 (.slice dd.ba dd.bn dd.bc) dd.bn ((o.B.take (k+1)++d.B.drop (k+1)).map (Value.int .u8))/\LU J w w3):=by
       intro w3 A3;obtain⟨A2,A8,C7,⟨ys,A5⟩,A9⟩:=F3.out;have u3:Upd [g] w2 w3:=by rw[A3];exact((Upd.refl [g] w2).setCell (by simp) _).drew
       refine⟨C6.out.newer (w0:=wd) B0.out.fixlt B0.out.Blt u3 (λx hx=>?_),D4.out.keep u3 (by simp;exact λe=>A8 e.symm),u3.owns A6.out (λx hx hm=>?_),?_,F0.out.fresh u3 (λx hx=>by simp at hx;subst hx;have:=C9.out.size;omega)⟩
       ·simp at hx;subst hx;refine⟨C7,λcs t rr he=>?_⟩;rw[show w2.heap[x]?=_ from A5] at he;cases he
        decide
       ·simp at hm;subst hm;obtain⟨-,ys2,h2⟩:=Zg A6 x hx;rw[Row,show w2.heap[x]?=_ from A5] at h2;simp at h2
       ·have h1:=(B7 (.int .u8 y2)).1;rw[<-List.map_set,<-F5.out,zi1 A9 (by have:=D2.out;omega)] at h1;rw[A3,A2,<-F5.out];exact h1
      clear C6 D4 A7 A6 F0 B7;go_wp2_with fail;refine zm (λz=>z.cell? ⟨q,3,none⟩=some (.slice (some ⟨g,0,none⟩) dd.bn dd.bc)) (zp [0,1,2,3,4,5,6,7,8,9,10,1011]) (by kernel_rfl) (by kernel_rfl) (λ_ _ _ _ _ h=>h) z3 ?_;clear z3;rcases Nat.mod_two_eq_zero_or_one k with hp|hp
      ·have G1:(k:Int) % 2=0:=by omega
       have K0:(k:Int).tmod 2=0:=by rw[Int.tmod_eq_emod_of_nonneg (by omega)];exact G1
       (repeat (refine zi rfl (λK hK=>?_);go_simp;(try go_bits);refine hK _ ?_;clear hK K))
       refine zl (.slice (some ⟨g,0,none⟩) dd.bn dd.bc) rfl rfl (λx hS=>by go_simp) ?_
       (repeat (refine zi rfl (λK hK=>?_);go_simp;(try go_bits);refine hK _ ?_;clear hK K))
       refine zj rfl ?_;go_wp2_with fail;have hv:xw / 256=y2:=by have:=M1.out;rw[if_pos hp] at this;exact this
       rw[hv];obtain⟨w3,A3⟩:=zx ((w2.setCell ⟨g,k,none⟩ (.int .u8 y2)).drew);obtain⟨G2,G3,G4,G5,G6⟩:=B9 w3 A3;have F7:=zh G2;have D6:=zh G3;have F6:=zh G4;have F8:=zh G5;have F9:=zh G6;rw[<-A3];have G7:dd.ba=some ⟨g,0,none⟩:=F3.out.1;have hz:=D6.cell (i:=3) rfl;rw[G7] at hz;refine⟨hz,?_⟩;clear A3 G2 G3 G4 G5 G6 B9 F1 I8 G7 hz hv G1 K0 hp;refine zo ?_;go_wp2_with fail;go_roundw
       case rel=>exact⟨k+1,by omega,by go_num,F7.out,D6.out,F6.out,F8.out,F9.out⟩
       case measure=>simp[intOf];omega
      ·have G1:(k:Int) % 2=1:=by omega
       have K0:(k:Int).tmod 2=1:=by rw[Int.tmod_eq_emod_of_nonneg (by omega)];exact G1
       (repeat (refine zi rfl (λK hK=>?_);go_simp;(try go_bits);refine hK _ ?_;clear hK K))
       refine zl (.slice (some ⟨g,0,none⟩) dd.bn dd.bc) rfl rfl (λx hS=>by go_simp) ?_
       (repeat (refine zi rfl (λK hK=>?_);go_simp;(try go_bits);refine hK _ ?_;clear hK K))
       refine zj rfl ?_;go_wp2_with fail;have hv:xw % 256=y2:=by have:=M1.out;rw[if_neg (by omega)] at this;exact this
       rw[hv];obtain⟨w3,A3⟩:=zx ((w2.setCell ⟨g,k,none⟩ (.int .u8 y2)).drew);obtain⟨G2,G3,G4,G5,G6⟩:=B9 w3 A3;have F7:=zh G2;have D6:=zh G3;have F6:=zh G4;have F8:=zh G5;have F9:=zh G6;rw[<-A3];have G7:dd.ba=some ⟨g,0,none⟩:=F3.out.1;have hz:=D6.cell (i:=3) rfl;rw[G7] at hz;refine⟨hz,?_⟩;clear A3 G2 G3 G4 G5 G6 B9 F1 I8 G7 hz hv G1 K0 hp;refine zo ?_;go_wp2_with fail;go_roundw
       case rel=>exact⟨k+1,by omega,by go_num,F7.out,D6.out,F6.out,F8.out,F9.out⟩
       case measure=>simp[intOf];omega
     ·obtain rfl:k=dd.bn:=by omega
      have C4:=HH.inv.good _ _ A0.ob;have M2:dd.wn=o.W.length:=by rw[C3.out];exact A0.size.1
      have M3:dd.bn=o.B.length:=by rw[D2.out];exact A0.size.2.1
      have K1:=HB.out;rw[List.take_of_length_le (by omega),List.drop_of_length_le (by have:=D2.out;omega),List.append_nil] at K1;obtain⟨D,hD⟩:∃D:Za,D=⟨dd.cls,dd.kind,dd.wa,dd.wn,dd.wc,o.W,dd.ba,dd.bn,dd.bc,o.B⟩:=⟨_,rfl⟩
      have G8:D.ok wr:=by
       rw[hD];have k0:=A1.out.ok;obtain⟨_,_,N5,rw1,-,-⟩:=zk HW.out;cases N5
       obtain⟨_,_,I6,rb1,-,-⟩:=zk K1;cases I6
       exact⟨k0.c0,k0.k0,M2,k0.wm,rw1,C4.i64,M3,k0.bm,rb1,C4.2⟩
      have G9:Is D o:=by
       rw[hD];exact⟨A1.is_.cls.trans A0.cls,A1.is_.kind.trans A0.kind.1,rfl,rfl⟩
      have M4:o.enc.length=d.enc.length:=by rw[o.enc_len,d.enc_len,A0.out.size.1,A0.out.size.2.1]
      have B7:=zh (zia (HL.out.P.sec.below (Zd (Below.refl _ wr))) _ K8.out d o K7.out D (G8.below (Zd (Below.refl _ wr))) (by rw[hD];simp only;omega) G9 C4 M4);have M5:D.val=.agg #[.int .i64 dd.cls,.int .i64 dd.kind,.slice dd.wa dd.wn dd.wc,.slice dd.ba dd.bn dd.bc]:=by rw[hD];rfl
      rw[M5,Int.toNat_natCast] at B7;have m0:=HL.P.head.cell (i:=0) rfl;have y1:=(HL.slot K5).2.1;have q0:=HR.cell (i:=0) rfl;have q1:=HR.cell (i:=1) rfl;have q2:=HR.cell (i:=2) rfl;have q3:=HR.cell (i:=3) rfl;have ml2:=HL.P.head.lt;have N6:Hid (wr.cell? ⟨J.m,0,none⟩=some (.pointer (some ⟨J.I.s,0,none⟩))/\wr.cell? ⟨J.sl,s*3+1,none⟩=some (.int .i64 (S.sl s).id)/\wr.cell? ⟨q,0,none⟩=some (.int .i64 dd.cls)/\wr.cell? ⟨q,1,none⟩=some (.int .i64 dd.kind)/\wr.cell? ⟨q,2,none⟩=some (.slice dd.wa dd.wn dd.wc)/\wr.cell? ⟨q,3,none⟩=some (.slice dd.ba dd.bn dd.bc)):=⟨m0,y1,q0,q1,q2,q3⟩;clear C4 M2 M3 K1 hD G8 G9 M4 M5 m0 y1 q0 q1 q2 q3 J8 hk;go_wp2_with fail;refine zm (λz=>z.cell? ⟨J.m,0,none⟩=some (.pointer (some ⟨J.I.s,0,none⟩))/\z.cell? ⟨J.sl,s*3+1,none⟩=some (.int .i64 (S.sl s).id)/\z.cell? ⟨q,0,none⟩=some (.int .i64 dd.cls)/\z.cell? ⟨q,1,none⟩=some (.int .i64 dd.kind)/\z.cell? ⟨q,2,none⟩=some (.slice dd.wa dd.wn dd.wc)/\z.cell? ⟨q,3,none⟩=some (.slice dd.ba dd.bn dd.bc)) (zp [0,1,2,3,4,5,6,7,8,1009]) (by kernel_rfl) (by kernel_rfl) (λ_ _ _ _ _ h=>h) N6.out ?_
      (repeat (refine zi rfl (λK hK=>?_);go_simp;(try go_bits);refine hK _ ?_;clear hK K))
      refine zl (.pointer (some ⟨J.I.s,0,none⟩)) rfl rfl (λx hS=>by obtain⟨s0,s1,s2,s3,s4,s5⟩:=hS;go_simp) ?_
      (repeat (refine zi rfl (λK hK=>?_);go_simp;(try go_bits);refine hK _ ?_;clear hK K))
      refine zl (.int .i64 (S.sl s).id) rfl rfl (λx hS=>by obtain⟨s0,s1,s2,s3,s4,s5⟩:=hS;go_simp) ?_;refine zl (.agg #[.int .i64 dd.cls,.int .i64 dd.kind,.slice dd.wa dd.wn dd.wc,.slice dd.ba dd.bn dd.bc]) rfl rfl (λx hS=>by obtain⟨s0,s1,s2,s3,s4,s5⟩:=hS;go_simp) ?_;refine zj rfl ?_;go_wp2_with fail;go_call B7 as e w6 ⟨rfl,M6,M7⟩;have J0:Upd (J.I.mp::J.I.E.all) wr w6:=((Upd.refl _ wr).drew).trans M7;have D7:=HL.out.P.sec' J0 (λk hk=>by simp[qy.all] at hk ⊢;rcases hk with rfl|hk<;>simp[*]) M6
      have I0:=HR.keep J0 (λhm=>by
       have h1:q∈J.fix:=by simp only[LmI.fix,qy.all,List.mem_cons] at hm ⊢;rcases hm with rfl|hm<;>simp[*]
       have:=N2.out q h1
       omega)
      have K2:=zh D7;have N7:=zh (HU.out.trans (.disk J0 (λk hk=>by simp[qy.all] at hk ⊢;rcases hk with rfl|hk<;>simp[*])));have K3:=Z6 (l:=S.sls) (s:=s) (by rw[HL.out.lens];omega)
      have M8:w6.cell? ⟨J.m,0,none⟩=some (.pointer (some ⟨J.I.s,0,none⟩))/\w6.cell? ⟨J.sl,s*3+1,none⟩=some (.int .i64 (S.sl s).id)/\w6.cell? ⟨q,0,none⟩=some (.int .i64 dd.cls)/\w6.cell? ⟨q,1,none⟩=some (.int .i64 dd.kind)/\w6.cell? ⟨q,2,none⟩=some (.slice dd.wa dd.wn dd.wc)/\w6.cell? ⟨q,3,none⟩=some (.slice dd.ba dd.bn dd.bc) :=
       ⟨D7.head.cell (i:=0) rfl,D7.slots.cell K3.2.1,I0.cell (i:=0) rfl,I0.cell (i:=1) rfl,I0.cell (i:=2) rfl,I0.cell (i:=3) rfl⟩
      have K4:=zh M8;have N8:=D7.slots.cell K3.1;have O7:=D7.slots.lt;have M9:yx (S.sls.getD s z6)=.pointer (some ⟨r.ad,0,none⟩):=by unfold yx;rw[show(S.sls.getD s z6).res=some r from hr]
      rw[M9] at N8;obtain⟨-,J1⟩:=D7.resid s r hr;have O8:=J1.cell (i:=3) rfl;have O9:=J1.free 3;have P0:=J1.lt;clear J0 D7 I0 K3 M8 M6 M7 M9 J1 B7;go_wp2_with fail;refine⟨K4,?_⟩;refine zo ?_;go_wp2;go_end0;have N0:=zyv K2 HL.dk HL.inv HL.ks hr A0;exact⟨rfl,N7.out.trans (.of_upd (l:=[r.ad]) ((Upd.refl _ _).setCell (by simp) _) (λk hk=>by simp at hk;subst hk;exact .inr ⟨(K2.resid s r hr).1,_,_,(K2.resid s r hr).2,.inr rfl⟩)),_,_,N0.1,N0.2⟩
end
end Go.Proofs.YtoeibiahbenpcaaGreatDoor
