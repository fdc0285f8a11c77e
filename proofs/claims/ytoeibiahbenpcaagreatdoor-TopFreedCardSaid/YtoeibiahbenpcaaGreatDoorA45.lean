/- Part. -/
import Derived.Test.YtoeibiahbenpcaaGreatDoorA44
namespace Go.Proofs.YtoeibiahbenpcaaGreatDoor
open RowKit Maps Proofs.Tryz
set_option linter.unusedVariables false
set_option maxRecDepth 99999
set_option maxHeartbeats 9000000
def z5k(w:World)(J:LmI)(K NW N:Nat)(X:Tb)(made U:Nat)(F:Nat->Nat)(ids:List Int)(e:Ending)(w':World):Prop :=
 ∃(v:Value) (n:Nat) (x fr:Int) (a:Option Addr) (c:Nat),e=.returned (.tuple #[.agg #[.slice a n c,.int .i64 fr],.int .i64 x])/\(x=0->∃R:List Int,R.length=n/\R.Nodup/\∀i,i∈R↔Reach X ids i)/\(∃S T,Zh w' J K NW N S (zt X) [] (λ_=>False) (λ_=>False) T made U F 0)/\LU J w w'
structure SnA(w4 wq:World)(mp cb:Nat)(lk:List KV)(ks:List Int):Prop where
 map:qi wq mp lk
 ints:z5q lk
 row:Row wq cb 118 [.map (some mp)]
 bel:Below w4.heap.size w4 wq
 keys:∀x∈Z1 lk,x∈ks
theorem SnA.few{w4 wq:World}{mp cb:Nat}{lk:List KV}{ks:List Int}(h:SnA w4 wq mp cb lk ks):lk.length<=ks.length:=by
 have:=Z4 (xu h.map.srt) h.keys;simpa[Z1] using this
theorem SnA.put{w4 wq w':World}{mp cb:Nat}{lk l':List KV}{ks:List Int}(h:SnA w4 wq mp cb lk ks){x y:Int}(hm:qi w' mp l')(hg:∀z,zw l' z=if z=x then some (.int .i64 y) else zw lk z)(hu:Upd [mp] wq w')(hl:w4.heap.size<=mp)(hn:cb≠mp)(hy:-9223372036854775808<=y/\y<=9223372036854775807):SnA w4 w' mp cb l' (ks++[x]) :=
 ⟨hm,h.ints.put hm.srt hg hy,h.row.keep hu (by simp;exact hn),h.bel.trans (hu.below h.bel.size (λk hk=>by simp at hk;omega)),λz hz=>by
  rw[jn hm.srt,hg] at hz;split at hz
  ·next e=>simp[e]
  ·rw[<-jn h.map.srt] at hz
   exact List.mem_append_left _ (h.keys z hz)⟩
structure SnB(w wq:World)(J:LmI)(K NW N:Nat)(X:Tb)(made U:Nat)(F:Nat->Nat)(mp cb p q:Nat)(lk:List KV)(R:List Int)(al:Value)(n:Nat)(xs:Value)(fr:Int)(ds:List Za):Prop where
 lm:∃S T,Zh wq J K NW N S (zt X) [] (λ_=>False) (λ_=>False) T made U F 0
 map:qi wq mp lk
 row:Row wq cb 118 [.map (some mp)]
 all:wq.ownsRow w.heap.size 3 1 al n (R.map (Value.int .i64))
 res:Row wq p 24 [.slice none 0 0,.int .i64 0]
 img:Row wq q 24 [xs,.int .i64 fr]
 objs:wq.ownsRow w.heap.size 28 4 xs ds.length (ds.flatMap kq)
 dsa:zwa wq w.heap.size ds
 lu:LU J w wq
theorem LU.rowGe{J:LmI}{w w':World}(u:LU J w w'){g B:Nat}{t:TypeId}{xs:List Value}(h:Row w g t xs)(hf:∀k∈J.fix,k<B)(hg:B<=g)(ht:¬zid t):Row w' g t xs:=u.row h (λhm=>by have:=hf g hm;omega) ht
theorem SnB.step{w wq w':World}{J:LmI}{K NW N:Nat}{X:Tb}{made U:Nat}{F:Nat->Nat}{mp cb p q:Nat}{lk:List KV}{R:List Int}{al xs:Value}{n:Nat}{fr:Int}{ds:List Za}(h:SnB w wq J K NW N X made U F mp cb p q lk R al n xs fr ds)(hf:∀k∈J.fix,k<w.heap.size)(hg:w.heap.size<=mp/\w.heap.size<=cb/\w.heap.size<=p/\w.heap.size<=q)(u:LU J wq w')(hl:∃S T,Zh w' J K NW N S (zt X) [] (λ_=>False) (λ_=>False) T made U F 0):SnB w w' J K NW N X made U F mp cb p q lk R al n xs fr ds :=
 ⟨hl,u.imap h.map (λhm=>by have:=hf _ hm;omega),u.rowGe h.row hf hg.2.1 (by decide),u.owns h.all hf (by decide),u.rowGe h.res hf hg.2.2.1 (by decide),u.rowGe h.img hf hg.2.2.2 (by decide),u.owns h.objs hf (by decide),h.dsa.lux (LUx.of (L:=[]) u) hf (λ_ _ _ _=>by simp),h.lu.trans u⟩
theorem SnB.push{w wq w' w2:World}{J:LmI}{K NW N:Nat}{X:Tb}{made U:Nat}{F:Nat->Nat}{mp cb p q:Nat}{lk:List KV}{R:List Int}{al xs v':Value}{n:Nat}{fr:Int}{ds:List Za}(h:SnB w wq J K NW N X made U F mp cb p q lk R al n xs fr ds)(hf:∀k∈J.fix,k<w.heap.size)(hB:J.B<=w.heap.size)(hg:w.heap.size<=mp/\w.heap.size<=cb/\w.heap.size<=p/\w.heap.size<=q)(A7:p≠q){d:Za}(hd:d.ok wq)(A4:xn w.heap.size wq d){o:Obj}
 (own:w'.ownsRow w.heap.size 28 4 v' (ds.length+1) (ds.flatMap kq++kq d)) (gr:(wq.alloc o).grownBy w' xs.ownBlock) (hw:w2=w'.setCell ⟨q,0,none⟩ v'):SnB w w2 J K NW N X made U F mp cb p q lk R al n v' fr (ds++[d]):=by
 have hb:Below wq.heap.size wq (wq.alloc o):=zn (Below.refl _ _);have hu:Upd xs.ownBlock.toList wq w':=(Upd.of_below hb).trans (zf0 gr);have u2:Upd [q] w' w2:=by rw[hw];exact(Upd.refl [q] w').setCell (by simp) _
 have hk:∀k∈xs.ownBlock.toList,w.heap.size<=k/\∃zs,Row wq k 28 zs:=λk hk=>by
  have A5:xs.ownBlock=some k:=by simpa using hk
  exact⟨(h.objs.lt k A5).1,(Zg h.objs k A5).2⟩
 have A3:∀ {g:Nat} {t:TypeId} {ys:List Value},Row wq g t ys->28≠t->g∉xs.ownBlock.toList:=fun {g t ys} hr ht hm=>by
  obtain⟨-,zs,h2⟩:=hk g hm;rw[Row,show wq.heap[g]?=_ from hr] at h2;simp at h2;exact ht h2.2.symm
 have A6:∀ {e:Za},xn w.heap.size wq e->∀k∈dBl e,k∉xs.ownBlock.toList:=fun {e} ho k hm hx=>by
  obtain⟨-,zs,h2⟩:=hk k hx;exact zua ho h2 (by decide) hm
 have A0:=h.img.keep hu (A3 h.img (by decide))
 have A2:∀ {e:Za},xn w.heap.size w' e->∀k∈dBl e,k∉[q]:=fun {e} ho k hm hx=>by
  simp at hx;subst hx;exact zua ho A0 (by decide) hm
 obtain⟨S,T,hl⟩:=h.lm
 have A8:=hl.newer hf hB hu (λk hm=>by
  obtain⟨h1,zs,h2⟩:=hk k hm;refine⟨h1,λcs t r he=>?_⟩
  rw[show wq.heap[k]?=_ from h2] at he;cases he;decide)
 have A9:=A8.newer hf hB u2 (λk hm=>by
  simp at hm;subst hm;refine⟨hg.2.2.2,λcs t r he=>?_⟩
  rw[show w'.heap[k]?=_ from A0] at he;cases he;decide)
 have B0:mp≠q:=λe=>by
  obtain⟨es,clock,hb,-⟩:=h.map.own;have h2:=h.img;rw[<-e,Row,hb] at h2;cases h2
 have B1:cb≠q:=λe=>by
  have h1:=h.row;rw[e,Row,show wq.heap[q]?=_ from h.img] at h1;simp at h1
 refine⟨⟨S,T,A9⟩,(h.map.keep hu (λhm=>vi h.map h.objs (by simpa using hm))).keep u2 (by simp;exact B0),(h.row.keep hu (A3 h.row (by decide))).keep u2 (by simp;exact B1),u2.owns (hu.owns h.all (λk A1 hm=>?_)) (λk A1 hm=>?_),(h.res.keep hu (A3 h.res (by decide))).keep u2 (by simp;exact A7),?_,?_,?_,?_⟩
 ·obtain⟨-,zs,h2⟩:=hk k hm;exact jd h.all h2 (by decide) A1
 ·simp at hm;subst hm
  exact jd (hu.owns h.all (λk A1 hm=>by
   obtain⟨-,zs,h2⟩:=hk k hm
   exact jd h.all h2 (by decide) A1)) A0 (by decide) A1
 ·rw[hw];exact A0.set 0 v'
 ·rw[List.length_append,List.length_singleton,List.flatMap_append];refine u2.owns (by simpa using own) (λk A1 hm=>?_);simp at hm;subst hm;exact jd own A0 (by decide) A1
 ·intro e he;rcases List.mem_append.1 he with he|he
  ·have h1:=zcl (h.dsa e he).1 (h.dsa e he).2 hu (A6 (h.dsa e he).2);exact zcl h1.1 h1.2 u2 (A2 h1.2)
  ·simp at he;subst he;have h1:=zcl hd A4 hu (A6 A4);exact zcl h1.1 h1.2 u2 (A2 h1.2)
 ·exact(h.lu.fresh hu (λk hm=>(hk k hm).1)).fresh u2 (λk hm=>by simp at hm;subst hm;exact hg.2.2.2)
structure SnQ(wr W:World)(J:LmI)(K NW N:Nat)(X:Tb)(made U:Nat)(F:Nat->Nat)(oq:Nat)(d:Za):Prop where
 lm:∃S T,Zh W J K NW N S (zt X) [] (λ_=>False) (λ_=>False) T made U F 0
 lu:LU J wr W
 row:Row W oq 28 (kq d)
 ok:d.ok W
 own:xn wr.heap.size W d
 ge:wr.heap.size<=oq
theorem zr9{wr w3:World}{J:LmI}{K NW N:Nat}{X:Tb}{made U:Nat}{F:Nat->Nat}{d:Za}{S:Lm}{T:Tb}(hu:LU J wr w3)(ho:d.ok w3)(hw:xn wr.heap.size w3 d)(hl:Zh w3 J K NW N S (zt X) [] (λ_=>False) (λ_=>False) T made U F 0):SnQ wr (w3.alloc (.cells #[.int .i64 d.cls,.int .i64 d.kind,.slice d.wa d.wn d.wc,.slice d.ba d.bn d.bc] 28)) J K NW N X made U F w3.heap.size d:=by
 have hb:Below w3.heap.size w3 (w3.alloc (.cells #[.int .i64 d.cls,.int .i64 d.kind,.slice d.wa d.wn d.wc,.slice d.ba d.bn d.bc] 28)):=zn (Below.refl _ _);exact⟨⟨S,T,hl.below hb⟩,hu.trans (.of_below hb),Row.made w3 _ _,ho.below hb,hw.below hb,hu.size⟩
theorem zki{wr z w3 W:World}{J:LmI}{K NW N:Nat}{X:Tb}{made U:Nat}{F:Nat->Nat}{d:Za}{S:Lm}{T:Tb}{oq:Nat}(hz:Below wr.heap.size wr z)(h1:wr.heap.size<=oq)(h2:oq<z.heap.size)(hf:∀k∈J.fix,k<wr.heap.size)(hB:J.B<=wr.heap.size)(hu:LU J z w3)(ho:d.ok w3)(hw:xn z.heap.size w3 d)(hl:Zh w3 J K NW N S (zt X) [] (λ_=>False) (λ_=>False) T made U F 0)
 (hr:Row w3 oq 28 [.int .i64 0,.int .i64 0,.slice none 0 0,.slice none 0 0]) (hW:W=(((w3.setCell ⟨oq,0,none⟩ (.int .i64 d.cls)).setCell ⟨oq,1,none⟩ (.int .i64 d.kind)).setCell ⟨oq,2,none⟩ (.slice d.wa d.wn d.wc)).setCell ⟨oq,3,none⟩ (.slice d.ba d.bn d.bc)):SnQ wr W J K NW N X made U F oq d:=by
 have u:Upd [oq] w3 W:=by rw[hW];exact z21 w3 oq _ _ _ _
 exact⟨⟨S,T,hl.ownRow hf hB hr h1 (by decide) u⟩,((LU.of_below hz).trans hu).fresh u (λx hx=>by simp at hx;subst hx;exact h1),by rw[hW];exact z3b hr _ _ _ _,ho.keep hw u (λk hk=>by simp at hk;omega),(hw.keep u (λk hk=>by simp at hk;omega)).mono hz.size,h1⟩
theorem z55{Goal:Prop}{P:Za->Nat->World->Prop}{T:Za->Nat->World->Prop}(h1:(∀d oq W,P d oq W->T d oq W)->Goal)(h2:∀d oq W,P d oq W->T d oq W):Goal:=h1 h2
theorem SnQ.cls{wr W W':World}{J:LmI}{K NW N:Nat}{X:Tb}{made U:Nat}{F:Nat->Nat}{d:Za}{oq:Nat}(h:SnQ wr W J K NW N X made U F oq d)(hf:∀k∈J.fix,k<wr.heap.size)(hB:J.B<=wr.heap.size){y:Int}(hy:-9223372036854775808<=y/\y<=9223372036854775807)(hW:W'=W.setCell ⟨oq,0,none⟩ (.int .i64 y)):SnQ wr W' J K NW N X made U F oq { d with cls:=y }:=by
 have u:Upd [oq] W W':=by rw[hW];exact(Upd.refl [oq] W).setCell (by simp) _
 obtain⟨S,T,hl⟩:=h.lm;have hn:∀k∈dBl d,k∉[oq]:=λk hk hm=>by simp at hm;subst hm;exact zua h.own h.row (by decide) hk
 obtain⟨h1,h2⟩:=zcl h.ok h.own u hn;exact⟨⟨S,T,hl.ownRow hf hB h.row h.ge (by decide) u⟩,h.lu.fresh u (λx hx=>by simp at hx;subst hx;exact h.ge),by rw[hW];exact h.row.set 0 _,⟨hy,h1.k0,h1.wl,h1.wm,h1.wr,h1.wi,h1.bl,h1.bm,h1.br,h1.bb⟩,h2,h.ge⟩
theorem SnQ.word{wr W W':World}{J:LmI}{K NW N:Nat}{X:Tb}{made U:Nat}{F:Nat->Nat}{d:Za}{oq:Nat}(h:SnQ wr W J K NW N X made U F oq d)(hf:∀k∈J.fix,k<wr.heap.size)(hB:J.B<=wr.heap.size){y:Int}(hy:-9223372036854775808<=y/\y<=9223372036854775807){g k:Nat}(hg:d.wa=some ⟨g,0,none⟩)(hW:W'=(W.setCell ⟨g,k,none⟩ (.int .i64 y)).drew):SnQ wr W' J K NW N X made U F oq { d with W:=d.W.set k y }:=by
 have u:Upd [g] W W':=by rw[hW];exact((Upd.refl [g] W).setCell (by simp) _).drew
 obtain⟨S,T,hl⟩:=h.lm;have ho:=h.own.1;rw[hg] at ho;have hr:=Zg ho g rfl
 have A2:∀k∈(Value.slice d.ba d.bn d.bc).ownBlock.toList,k∉[g]:=λk hk hm=>by
  simp at hm;subst hm;exact jd h.own.2 hr.2.choose_spec (by decide) (by simpa using hk)
 have A3:oq∉[g]:=λhm=>by
  simp at hm;subst hm;exact jd ho h.row (by decide) rfl
 have A4:=(ho.stored k (.int .i64 y)).1
 have A0:W'.ownsRow wr.heap.size 3 1 (.slice d.wa d.wn d.wc) d.wn ((d.W.set k y).map (Value.int .i64)):=by
  rw[hW,List.map_set,hg];exact((Upd.refl [] _).drew).owns A4 (by simp)
 have A1:W'.ownsRow wr.heap.size 5 1 (.slice d.ba d.bn d.bc) d.bn (d.B.map (Value.int .u8)):=u.owns h.own.2 (λk hk=>A2 k (by simpa using hk));obtain⟨a1,c1,e1,rd1,-,-⟩:=zk A0;cases e1
 obtain⟨a2,c2,e2,rd2,-,-⟩:=zk A1;cases e2
 refine⟨⟨S,T,hl.newer hf hB u (λk hk=>?_)⟩,h.lu.fresh u (λx hx=>?_),h.row.keep u A3,⟨h.ok.c0,h.ok.k0,?_,h.ok.wm,rd1,?_,h.ok.bl,h.ok.bm,rd2,h.ok.bb⟩,⟨A0,A1⟩,h.ge⟩
 ·simp at hk;subst hk;refine⟨hr.1,λcs t r he=>?_⟩;obtain⟨ys,h2⟩:=hr.2;rw[show W.heap[k]?=_ from h2] at he;cases he;decide
 ·simp at hx;subst hx;exact hr.1
 ·simp;exact h.ok.wl
 ·intro x hx;rcases List.mem_or_eq_of_mem_set hx with h1|rfl
  ·exact h.ok.wi x h1
  ·exact hy
theorem SnB.img9{w wq w':World}{J:LmI}{K NW N:Nat}{X:Tb}{made U:Nat}{F:Nat->Nat}{mp cb p q:Nat}{lk:List KV}{R:List Int}{al xs:Value}{n:Nat}{fr:Int}{ds:List Za}(h:SnB w wq J K NW N X made U F mp cb p q lk R al n xs fr ds){o:Obj}(gr:(wq.alloc o).grownBy w' xs.ownBlock):Row w' q 24 [xs,.int .i64 fr]:=by
 have hb:Below wq.heap.size wq (wq.alloc o):=zn (Below.refl _ _);have hu:Upd xs.ownBlock.toList wq w':=(Upd.of_below hb).trans (zf0 gr);refine h.img.keep hu (λhm=>?_);exact jd h.objs h.img (by decide) (by simpa using hm)
theorem ziu(x:Int):-9223372036854775808<=za1 x/\za1 x<=9223372036854775807:=by
 by_cases h:1<=x/\x<=1073741823
 ·rw[jm h];omega
 ·rw[zmw h];decide
section
variable{w:World}{J:LmI}{K NW N:Nat}{S:Lm}{T X:Tb}{made U:Nat}{F:Nat->Nat}
theorem z4o(hX:qm X)(H:Zh w J K NW N S (zt X) [] (λ_=>False) (λ_=>False) T made U F 0)(hm:made<=100000)(hG:Glb w)(L5:(∀k∈J.fix,2<=k)/\2<=J.B)(f:Int)(f0:-9223372036854775808<=f)(f1:f<=9223372036854775807) :
 Calls prog 19 #[.iface 30 (.pointer (some ⟨J.m,0,none⟩)),.int .i64 f,.slice none 0 0] w (z5k w J K NW N X made U F ([2,4,6,8,f].map Zz)):=by
 have P5:=@run_makeMap prog;obtain⟨p,hp⟩:=zx (w.heap.size);obtain⟨W1,B3⟩:=zx (w.alloc (.cells #[.slice none 0 0,.int .i64 0] 24));obtain⟨W2,C1⟩:=zx (W1.alloc (.cells #[.int .i64 2,.int .i64 4,.int .i64 6,.int .i64 8,.int .i64 f] 3));have b1:Below w.heap.size w W1:=by rw[B3];exact zn (Below.refl _ _)
 have b2:Below W1.heap.size W1 W2:=by rw[C1];exact zn (Below.refl _ _)
 have L6:W1.heap.size=w.heap.size+1:=by rw[B3];simp
 have r1:Row W1 p 24 [.slice none 0 0,.int .i64 0]:=by rw[B3,hp];exact Row.made w _ _
 have r2:Row W2 W1.heap.size 3 ([2,4,6,8,f].map (Value.int .i64)):=by rw[C1];exact Row.made W1 _ _
 have o2:W2.ownsRow w.heap.size 3 1 (.slice (some ⟨W1.heap.size,0,none⟩) 5 5) 5 ([2,4,6,8,f].map (Value.int .i64)):=by
  have:=r2.owns (base:=w.heap.size) (n:=5) (c:=5) b1.size rfl (by decide) (by decide);simpa using this
 have HH:=zh H;have HP:=zh hp;have G8:=zh B3;have G9:=zh C1;have I0:=zh (zy b1 b2);have L7:=zh (r1.keep (l:=[]) (.of_below b2) (by simp));have E0:=zh o2;have HG:=zh hG;have P6:=zh L5;have L8:=zh hX;have F4:=zh L6;have B5:=zh H.fixlt;have E1:=zh H.Blt;obtain⟨ids,C5⟩:=zx ([2,4,6,8,f].map Zz);rw[<-C5];have I1:=zh C5;clear C5;clear hp B3 C1 b1 b2 r1 r2 o2 hG L5 hX L6 H;go_enter func19,ntmps19;go_wp2_with (at_builtin;refine Zb rfl _ _ 25 rfl w.heap.size 3 (.int .i64 0) 1 8 underlying25 Zx rfl (by decide) (.slice (some ⟨w.heap.size+1,0,none⟩) 5 5) 5 ([2,4,6,8,f].map (Value.int .i64)) rfl (by rw[<-G8.out,<-G9.out,<-F4.out];exact E0.out) none 0 0 [] rfl rfl (zv.nil _) (by simp) (by decide) (by decide) (by simp<;>omega) ?_);intro v3 w3 own3 gr3;rw[<-F4.out,<-G8.out,<-G9.out] at gr3;have A9:Upd [W1.heap.size] W2 w3:=za7 gr3;have F5:Below w.heap.size w w3:=I0.out.trans (A9.below I0.out.size (λk hk=>by simp at hk;subst hk;have:=F4.out;omega));have A0:=L7.out.keep A9 (by simp;have:=F4.out;have:=HP.out;omega);obtain⟨a3,c3,rfl,-,-,-⟩:=zk own3;have I2:p∉(Value.slice a3 5 c3).ownBlock.toList:=λhm=>jd own3 A0 (by decide) (by simpa using hm)
 have F6:=zh (z4t (w0:=w) L8.out (HH.out.below F5) hm B5.out E1.out F5.size a3 5 c3 [2,4,6,8,f] rfl (by decide) (λx hx=>by simp at hx;rcases hx with rfl|rfl|rfl|rfl|rfl<;>first|exact⟨by decide,by decide⟩|exact⟨f0,f1⟩) own3);have I3:Hid (∀k∈(Value.slice a3 5 c3).ownBlock.toList,w.heap.size<=k):=λk hk=>(own3.lt k (by simpa using hk)).1
 obtain⟨L,hL⟩:=zx ((Value.slice a3 5 c3).ownBlock.toList);rw[<-hL] at F6 I3 I2;rw[<-I1.out] at F6;have L9:=zh I2;have M0:=zh A0;have F7:=zh F5;clear own3 gr3 A9 F5 A0 I2 hL E0 L7 I0 HH G8 G9;go_wp2_with fail;go_call F6 as e w4 ⟨v4,R,rfl,own4,I4,I5,⟨S4,T4,I6⟩,F8⟩;have E2:LU J w w4:=F8.after (.of_below F7) I3;have M1:=F8.row M0.out (λhm=>by have:=B5.out p hm;have:=HP.out;omega) L9.out (by decide);obtain⟨a4,c4,rfl,rd4,-,I7⟩:=zk own4
 have P7:R.length<=100000:=by
  have h1:=I6.lenX L8
  have h2:=Z4 (l:=R) (m:=xh X) (by rw[List.nodup_iff_pairwise_ne];exact I4.imp (fun {a b} h=>by omega)) (λi hi=>by
   have:=((I5 i).1 hi).has;rw[yz] at this;obtain⟨o,ho⟩:=Option.isSome_iff_exists.1 this;unfold lookI at ho;split at ho
   ·exact List.mem_map.2 ⟨_,Zl ho,by simp;omega⟩
   ·cases ho)
  have h3:(xh X).length=X.length:=by simp[xh]
  omega
 obtain⟨n,hn⟩:=zx (R.length);rw[<-hn] at own4 P7 ⊢;have HN:=zh hn;have C6:=zh own4;have P8:=zh I4;have M2:=zh I5;have M3:=zh I6;have E3:=zh E2;have I8:=zh M1;have I9:=zh (Nat.le_trans F7.size F8.size);clear own4 I4 I5 I6 F8 E2 M1 rd4 I7 hn F6 M0 L9 I3;obtain⟨mp,F9⟩:=zx (w4.heap.size);obtain⟨cb,J0⟩:=zx (w4.heap.size+1);obtain⟨W5,E4⟩:=zx ((w4.alloc (.map #[] 0)).alloc (.cells #[.map (some w4.heap.size)] 118));have b5:Below w4.heap.size w4 W5:=by rw[E4];exact zn (zn (Below.refl _ _))
 have m5:qi W5 mp []:=by rw[E4,F9];exact(qi.made w4).keep (m:=[]) ((Upd.refl _ _).alloc _) (by simp)
 have r5:Row W5 cb 118 [.map (some mp)]:=by
  rw[E4,J0,F9];have:=Row.made (w4.alloc (.map #[] 0)) [.map (some w4.heap.size)] 118;simpa using this
 have M4:=zh b5;have M5:=zh m5;have M6:=zh r5;have M7:=zh E4;have J1:=zh F9;have J2:=zh J0;clear F9 J0 E4 b5 m5 r5;go_wp2;have M8:=zh (show SnA w4 W5 mp cb [] ((R.take 0).map za1) from⟨M5,(λp hp=>by cases hp),M6,M4,(λx hx=>by cases hx)⟩);have J3:=zh (show w4.heap.size<=mp/\cb≠mp by have h1:=J1.out;have h2:=J2.out;omega);rw[<-M7.out,<-J2.out,<-J1.out,<-HP.out];clear M5 M6 M4 M7 P5;go_loopw [10,11,31] (λs10 s11 i wq=>∃(k:Nat) (lk:List KV),k<=n/\i=.int .i64 k/\Hid (SnA w4 wq mp cb lk ((R.take k).map za1))) (λ_ _ i _=>n-(intOf i).toNat)
 case atStart=>exact⟨0,[],Nat.zero_le _,rfl,M8⟩
 case round =>
  obtain⟨k,lk,hk,rfl,HA⟩:=hrel;clear M8;by_cases G0:k<n
  ·have C2:k<R.length:=by have:=HN.out;omega
   obtain⟨_,_,hv,rd,-,-⟩:=zk C6;cases hv
   obtain⟨b,off,rfl,J4,E5⟩:=rd.at (by simp;omega);obtain⟨x,hx⟩:=zx (R.getD k 0);have A3:=E5 k (.int .i64 x) (by rw[hx];exact zr C2);have J5:=zu HA.bel A3;have D5:=HA.row.cell (i:=0) rfl
   have J6:(R.take (k+1)).map za1=(R.take k).map za1++[za1 x]:=by
    have h1:R.take (k+1)=R.take k++[x]:=by
     rw[List.take_add_one,ze C2,hx,zg,ze C2];rfl
    rw[h1,List.map_append];rfl
   have P9:=zh (show lk.length<=1000000 by have:=HA.out.few;simp at this;omega);have M9:=zh (λz=>zhi x z);have E0:=zh (λz=>zhi ((k:Int)+1) z);obtain⟨y,hy⟩:=zx (za1 ((k:Int)+1));have J7:=ziu ((k:Int)+1);have J8:=za6 (ziu x).1 (ziu x).2;obtain⟨o,ho⟩:=zx (za1 x);rw[<-hy] at E0 J7;rw[<-ho] at M9 J8 J6;have Q0:=zh J6;have Q1:=zh J7;have G1:=zh J8;have J9:(k:Int)<(n:Int):=by omega
   have C7:=HA.out.row.lt;have Q2:Hid (n=R.length):=HN.out;clear A3 J6 hy J7 ho J8 rd E5 hx C2;go_wp2_with fail;refine zm (λz=>z.cell? ⟨cb,0,none⟩=some (.map (some mp))) (zp [0,1,3,4,1002,1005,1006]) (by kernel_rfl) (by kernel_rfl) (λ_ _ _ _ _ h=>h) (D5) ?_
   (repeat (refine zi rfl (λK hK=>?_);go_simp;(try go_bits);refine hK _ ?_;clear hK K))
   refine zl (.map (some mp)) rfl rfl (λx hS=>by go_simp) ?_
   (repeat (refine zi rfl (λK hK=>?_);go_simp;(try go_bits);refine hK _ ?_;clear hK K))
   refine zj rfl ?_;go_wp2_with fail;refine(M9 _).mono ?_;rintro e w6 ⟨rfl,rfl⟩;go_wp2_with fail;refine⟨D5,?_⟩;refine zj rfl ?_;go_wp2_with fail;refine(E0 _).mono ?_;rintro e w6 ⟨rfl,rfl⟩;go_wp2_with fail;refine⟨D5,?_⟩;have N0:=zh (show qi wr.drew mp lk from HA.out.map.keep (m:=[]) (Upd.refl _ _).drew (by simp));refine zj rfl ?_;refine jc N0 G1 P9 rfl _ _ _ 118 rfl 3 underlying118 rfl rfl (.int .i64 y) rfl ?_;intro w7 l' A4 N1 N2;have K0:=zh (HA.put A4 N1 ((Upd.refl [mp] wr).drew.trans N2) J3.out.1 J3.out.2 Q1);rw[<-Q0.out] at K0;have Q3:=K0.row.cell (i:=0) rfl;clear A4 N1 N2 N0 HA;go_wp2_with fail;refine⟨Q3,?_⟩;refine zo ?_;go_wp2;go_roundw
   case rel=>exact⟨k+1,l',by omega,by go_num,K0.out⟩
   case measure=>simp[intOf];omega
  ·have Q4:n=k:=by omega
   subst Q4;obtain⟨w6,Q5⟩:=zx (wr);subst Q5;obtain⟨q,hq⟩:=zx (w6.heap.size)
   have D6:Hid (w.heap.size<=mp/\w.heap.size<=cb/\w.heap.size<=p/\w.heap.size<=q):=by
    have h1:=J1.out;have h2:=J2.out;have h3:=HP.out;have h4:=I9.out;have h5:=HA.out.bel.size;unfold Hid;omega
   have Q6:Hid (p≠q):=by
    have h1:=HA.out.bel.size;have h2:=I8.out.lt;unfold Hid;omega
   have G2:Hid (∀g:Int,SnB w (w6.alloc (.cells #[.slice none 0 0,.int .i64 g] 24)) J K NW N X made U F mp cb p q lk R (.slice a4 n c4) n (.slice none 0 0) g []):=λg=>by
    have hb:Below w6.heap.size w6 (w6.alloc (.cells #[.slice none 0 0,.int .i64 g] 24)):=zn (Below.refl _ _);have G3:Below w4.heap.size w4 (w6.alloc (.cells #[.slice none 0 0,.int .i64 g] 24)):=zy HA.bel hb;refine⟨⟨_,_,M3.out.below G3⟩,HA.out.map.below hb,HA.out.row.keep (l:=[]) (.of_below hb) (by simp),yn ((Upd.of_below (l:=[]) G3).owns C6.out (by simp)) F7.out.size,I8.out.keep (l:=[]) (.of_below G3) (by simp),?_,World.ownsRow_nil _ _ _ _,(λd hd=>by cases hd),E3.out.trans (.of_below G3)⟩;rw[hq];exact Row.made w6 _ _
   have D5:=HA.row.cell (i:=0) rfl;have C7:=HA.out.row.lt;have C8:=zh (zg1 HA.map HA.ints D5 C7 f f0 f1);have C9:=zh HA.ints;have G1:=zh (za6 f0 f1);have K1:Hid (∀g:Int,qi (w6.alloc (.cells #[.slice none 0 0,.int .i64 g] 24)) mp lk):=λg=>(G2 g).map
   obtain⟨v,b,HV,HC⟩:∃(v:Int) (b:Bool),Hid ((zw lk f).getD (.int .i64 0)=.int .i64 v)/\Hid ((zw lk f).isSome=b):=by
    cases hg:zw lk f with
    | none=>exact⟨0,false,rfl,rfl⟩
    | some u =>
     obtain⟨x,hx,-⟩:=C9 _ (qg hg);simp only at hx;subst hx;exact⟨x,true,rfl,rfl⟩
   have HQ:=zh hq;clear hq HA C6 I8 M3 E3 J3 F7;go_wp2_with fail;go_call C8 as e w7 ⟨fr,rfl,N3,rfl⟩;cases b
   case' false =>
    go_wp2_with (at_lookup;refine qd (K1 fr) G1 rfl _ _ 118 rfl 3 underlying118 _ (zeroValue3 _) rfl rfl _ HV _ HC ?_);have HB:=zh (And.intro (show -9223372036854775808<=(2:Int)/\(2:Int)<=9223372036854775807 by decide) (G2.out 2))
   case' true =>
    go_wp2_with (at_lookup;refine qd (K1 fr) G1 rfl _ _ 118 rfl 3 underlying118 _ (zeroValue3 _) rfl rfl _ HV _ HC ?_);have HB:=zh (And.intro N3 (G2 fr))
   all_goals (
    clear G2 K1 C8 HV HC D5 C7 G0 hk N3;rw[<-HQ.out];go_loopw [59] (λi wq=>∃(j:Nat) (g:Int) (xs:Value) (ds:List Za),j<=n/\i=.int .i64 j/\ds.length=j/\Hid ((-9223372036854775808<=g/\g<=9223372036854775807)/\SnB w wq J K NW N X made U F mp cb p q lk R (.slice a4 n c4) n xs g ds)) (λi _=>n-(intOf i).toNat)
    case atStart=>exact⟨0,_,_,[],Nat.zero_le _,rfl,rfl,HB⟩
    case round =>
     obtain⟨j,g,xs,ds,hj,rfl,K2,HS⟩:=hrel;clear HB;obtain⟨wo,Q7⟩:=zx (wr);subst Q7;by_cases G0:j<n
     ·have C2:j<R.length:=by have:=HN.out;omega
      obtain⟨_,_,hv,rd,-,-⟩:=zk HS.out.2.all;cases hv
      obtain⟨b,off,rfl,J4,E5⟩:=rd.at (by simp;omega);obtain⟨r,hr⟩:=zx (R.getD j 0);have A3:=E5 j (.int .i64 r) (by rw[hr];exact zr C2);have N4:r∈R:=by rw[hr,zg,ze C2];exact List.getElem_mem _
      obtain⟨S2,T2,K3⟩:=HS.out.2.lm
      obtain⟨i,ob,hi,K4⟩:∃(i:Nat) (ob:Ob),r=i/\zt X i=some ob:=by
       have:=((M2.out r).1 N4).has;rw[yz] at this;obtain⟨ob,ho⟩:=Option.isSome_iff_exists.1 this;unfold Go.Proofs.YtoeibiahbenpcaaGreatDoor.lookI at ho;split at ho
       ·exact⟨r.toNat,ob,by omega,ho⟩
       ·cases ho
      obtain⟨Q8,Q9⟩:=K3.idb K4;have G4:=zh (λz=>zhi r z);have N5:za1 r=2*r:=jm (by omega);obtain⟨o,ho⟩:=zx (za1 r);have N6:Zz o=i:=by rw[ho,N5,kh (by omega)];omega
      have D7:-9223372036854775808<=o/\o<=9223372036854775807:=by omega
      rw[<-ho] at G4;have G5:=zh (λz (hb:Below wo.heap.size wo z)=>zg2 (K3.below hb) o D7.1 D7.2 N6 K4);have J9:(j:Int)<(n:Int):=by omega
      clear rd E5 hr N4 K3 hi K4 Q8 Q9 N5 ho N6 D7 C2;go_wp2_with fail;apply z55 (P:=λd oq W=>Hid (SnQ wo W J K NW N X made U F oq d))
      case' h1 =>
       intro key
       refine xx (λ_:World=>True) [0,1,2,3,4,5,6,7,8,9,10,11,12]
        (.load 0 (.load 1 (.load 3 (.load 4 (.load 5 (.two 2 10 (.two 6 10 (.load 7 (.load 8 (.load 9 (.sole 10 (.sole 11 (.load 12 .fin)))))) (.sole 6 (.load 7 (.load 8 (.load 9 (.sole 11 (.load 12 .fin))))))) (.sole 2 (.sole 6 (.load 7 (.load 8 (.load 9 (.sole 11 (.load 12 .fin))))))))))))) (by kernel_rfl) (by kernel_rfl) (λ_ _ _ _ _ h=>h) ?_
       have G6:(λ_:World=>True) wo.drew:=trivial
       (repeat (refine Zj G6 rfl (λK hK=>?_);go_simp;(try go_bits);refine hK _ ?_;clear hK K))
       refine kd (.func (.method "Obj") #[.iface 30 (.pointer (some ⟨J.m,0,none⟩))] #[]) G6 rfl rfl (λx hS=>by kernel_rfl) (λK hK=>?_);refine hK _ ?_;clear hK K
       (repeat (refine Zj G6 rfl (λK hK=>?_);go_simp;(try go_bits);refine hK _ ?_;clear hK K))
       have D0:Hid (Below wo.heap.size wo wo.drew):=Zd (Below.refl _ wo);have D1:Hid (∀k∈J.fix,k<wo.heap.size):=λk hk=>Nat.lt_of_lt_of_le (B5 k hk) HS.out.2.lu.size
       have E6:Hid (J.B<=wo.heap.size):=Nat.le_trans E1 HS.out.2.lu.size;clear G6;generalize wo.drew=wd at *;refine zfr rfl rfl ?_ ?_
       next =>
        go_wp2_with fail;refine(G4 _).mono ?_;rintro e z ⟨rfl,rfl⟩;go_wp2;refine⟨trivial,?_⟩;refine zfr rfl rfl ?_ ?_
        next =>
         go_wp2_with fail;refine(G5 _ D0).mono ?_;rintro e w3 ⟨A9,d,rfl,A5,A1,-,S3,T3,C3⟩;have D8:=zh (zr9 ((LU.of_below D0).trans A9) A5 (A1.mono D0.size) C3);go_wp2;refine⟨trivial,?_⟩
         (repeat (refine Zj (show(λ_:World=>True) w3 from trivial) rfl (λK hK=>?_);go_simp;(try go_bits);refine hK _ ?_;clear hK K))
         refine Zu rfl ?_;go_wp2_with fail;refine⟨trivial,?_⟩;refine Zu rfl ?_;go_wp2_with fail;obtain⟨oq,B0⟩:=zx (w3.heap.size);obtain⟨W,hW⟩:=zx (w3.alloc (.cells #[.int .i64 d.cls,.int .i64 d.kind,.slice d.wa d.wn d.wc,.slice d.ba d.bn d.bc] 28));rw[<-hW,<-B0] at D8;rw[<-hW,<-B0];clear hW B0 A9 A5 A1 C3;refine⟨trivial,?_⟩
         (repeat (refine Zj (show(λ_:World=>True) W from trivial) rfl (λK hK=>?_);go_simp;(try go_bits);refine hK _ ?_;clear hK K))
         refine zcg ?_;exact key _ _ _ D8
        next =>
         obtain⟨oq,B0⟩:=zx (wd.heap.size);obtain⟨zq,B6⟩:=zx (wd.alloc (.cells #[.int .i64 0,.int .i64 0,.slice none 0 0,.slice none 0 0] 28));have E7:Below wo.heap.size wo zq:=by rw[B6];exact zy D0 (zn (Below.refl _ _))
         have B7:Row zq oq 28 [.int .i64 0,.int .i64 0,.slice none 0 0,.slice none 0 0]:=by rw[B6,B0];exact Row.made wd _ _
         have D2:=zh E7;have D3:=zh B7;have D4:Hid (wo.heap.size<=oq):=by rw[B0];exact D0.size
         go_wp2_with fail;rw[<-B6,<-B0];clear E7 B7 B6 B0;refine⟨trivial,?_⟩
         (repeat (refine Zj (show(λ_:World=>True) zq from trivial) rfl (λK hK=>?_);go_simp;(try go_bits);refine hK _ ?_;clear hK K))
         refine Zu rfl ?_;go_wp2_with fail;refine(G5 _ D2).mono ?_;rintro e w3 ⟨A9,d,rfl,A5,A1,-,S3,T3,C3⟩;have A0:=A9.rowGe D3.out D1.out D4.out (by decide);have E8:=zh (λW hW=>zki (W:=W) D2 D4 D3.lt D1 E6 A9 A5 A1 C3 A0 hW);have f0:=A0.free 0;have f1:=A0.free 1;have f2:=A0.free 2;have f3:=A0.free 3;have g0:=A0.cell (i:=0) rfl;have g1:=A0.cell (i:=1) rfl;have g2:=A0.cell (i:=2) rfl;have g3:=A0.cell (i:=3) rfl;have gl:=A0.lt;clear A9 A5 A1 C3 A0 D2 D3 D4;go_wp2;refine⟨trivial,?_⟩
         (repeat (refine Zj (show(λ_:World=>True) w3 from trivial) rfl (λK hK=>?_);go_simp;(try go_bits);refine hK _ ?_;clear hK K))
         refine Zu rfl ?_;go_wp2_with fail;obtain⟨W,hW⟩:=zx ((((w3.setCell ⟨oq,0,none⟩ (.int .i64 d.cls)).setCell ⟨oq,1,none⟩ (.int .i64 d.kind)).setCell ⟨oq,2,none⟩ (.slice d.wa d.wn d.wc)).setCell ⟨oq,3,none⟩ (.slice d.ba d.bn d.bc));have D8:=zh (E8 W hW);rw[<-hW];clear hW E8 f0 f1 f2 f3 g0 g1 g2 g3 gl;refine⟨trivial,?_⟩
         (repeat (refine Zj (show(λ_:World=>True) W from trivial) rfl (λK hK=>?_);go_simp;(try go_bits);refine hK _ ?_;clear hK K))
         refine zcg ?_;exact key _ _ _ D8
       next =>
        obtain⟨oq,B0⟩:=zx (wd.heap.size);obtain⟨zq,B6⟩:=zx (wd.alloc (.cells #[.int .i64 0,.int .i64 0,.slice none 0 0,.slice none 0 0] 28));have E7:Below wo.heap.size wo zq:=by rw[B6];exact zy D0 (zn (Below.refl _ _))
        have B7:Row zq oq 28 [.int .i64 0,.int .i64 0,.slice none 0 0,.slice none 0 0]:=by rw[B6,B0];exact Row.made wd _ _
        have D2:=zh E7;have D3:=zh B7;have D4:Hid (wo.heap.size<=oq):=by rw[B0];exact D0.size
        go_wp2_with fail;rw[<-B6,<-B0];clear E7 B7 B6 B0;refine⟨trivial,?_⟩
        (repeat (refine Zj (show(λ_:World=>True) zq from trivial) rfl (λK hK=>?_);go_simp;(try go_bits);refine hK _ ?_;clear hK K))
        refine Zu rfl ?_;go_wp2_with fail;refine(G4 _).mono ?_;rintro e z ⟨rfl,rfl⟩;go_wp2;refine⟨trivial,?_⟩
        (repeat (refine Zj (show(λ_:World=>True) zq from trivial) rfl (λK hK=>?_);go_simp;(try go_bits);refine hK _ ?_;clear hK K))
        refine Zu rfl ?_;go_wp2_with fail;refine(G5 _ D2).mono ?_;rintro e w3 ⟨A9,d,rfl,A5,A1,-,S3,T3,C3⟩;have A0:=A9.rowGe D3.out D1.out D4.out (by decide);have E8:=zh (λW hW=>zki (W:=W) D2 D4 D3.lt D1 E6 A9 A5 A1 C3 A0 hW);have f0:=A0.free 0;have f1:=A0.free 1;have f2:=A0.free 2;have f3:=A0.free 3;have g0:=A0.cell (i:=0) rfl;have g1:=A0.cell (i:=1) rfl;have g2:=A0.cell (i:=2) rfl;have g3:=A0.cell (i:=3) rfl;have gl:=A0.lt;clear A9 A5 A1 C3 A0 D2 D3 D4;go_wp2;refine⟨trivial,?_⟩
        (repeat (refine Zj (show(λ_:World=>True) w3 from trivial) rfl (λK hK=>?_);go_simp;(try go_bits);refine hK _ ?_;clear hK K))
        refine Zu rfl ?_;go_wp2_with fail;obtain⟨W,hW⟩:=zx ((((w3.setCell ⟨oq,0,none⟩ (.int .i64 d.cls)).setCell ⟨oq,1,none⟩ (.int .i64 d.kind)).setCell ⟨oq,2,none⟩ (.slice d.wa d.wn d.wc)).setCell ⟨oq,3,none⟩ (.slice d.ba d.bn d.bc));have D8:=zh (E8 W hW);rw[<-hW];clear hW E8 f0 f1 f2 f3 g0 g1 g2 g3 gl;refine⟨trivial,?_⟩
        (repeat (refine Zj (show(λ_:World=>True) W from trivial) rfl (λK hK=>?_);go_simp;(try go_bits);refine hK _ ?_;clear hK K))
        refine zcg ?_;exact key _ _ _ D8
      case' h2 =>
       clear G4 G5;intro d oq W B8;have N7:=zh B8.ok.wm;have B9:=B8.out.row;unfold kq at B9;have y0:=B9.cell (i:=0) rfl;have f0:=B9.free 0;have yl:=B9.lt;have B1:=zh (HS.out.2.step B5 D6 B8.lu B8.lm);have C8:=zh (zg1 B1.map C9 (B1.row.cell (i:=0) rfl) B1.row.lt d.cls B8.ok.c0.1 B8.ok.c0.2);clear B9;have D1:Hid (∀k∈J.fix,k<wo.heap.size):=λk hk=>Nat.lt_of_lt_of_le (B5 k hk) HS.out.2.lu.size
       have E6:Hid (J.B<=wo.heap.size):=Nat.le_trans E1 HS.out.2.lu.size;go_wp2_with fail;go_call C8 as e w8 ⟨cls,rfl,E9,rfl⟩;have N8:=zh (λW1 B3=>B8.cls D1 E6 (W':=W1) (y:=cls) E9 B3);have B9:=B8.out.row;unfold kq at B9;have y2:=B9.cell (i:=2) rfl;obtain⟨K5,K6⟩:=N7.out;have R8:d.wn<=9223372036854775807:=by omega
       clear B9 K5 K6 C8 B1 N7;go_wp2;obtain⟨W1,B3⟩:=zx (W.setCell ⟨oq,0,none⟩ (.int .i64 cls));have N9:=zh (N8 W1 B3);rw[<-B3];clear N8 B3 y0 y2 f0 yl E9;go_loopw [81] (λi wq=>∃(k:Nat) (e:Za),k<=d.wn/\i=.int .i64 k/\e.wa=d.wa/\e.wn=d.wn/\e.wc=d.wc/\Hid (SnQ wo wq J K NW N X made U F oq e)) (λi _=>d.wn-(intOf i).toNat)
       case atStart=>exact⟨0,{ d with cls:=cls },Nat.zero_le _,rfl,rfl,rfl,rfl,N9⟩
       case round =>
        obtain⟨k,e,hk,rfl,ha,hn,hc,HE⟩:=hrel;clear N9 B8;by_cases G0:k<d.wn
        ·obtain⟨g2,D9⟩:=yo HE.out.own.1 (by omega);have R0:=HE.out.ok.wl;have K7:k<e.W.length:=by omega
         obtain⟨z,hz⟩:=zx (e.W.getD k 0);have K8:-9223372036854775808<=z/\z<=9223372036854775807:=HE.out.ok.wi z (by rw[hz,zg,ze K7];exact List.getElem_mem _);have h1:=HE.out.own.1;rw[D9] at h1;have R1:=h1.frozenAt k;have R9:g2<wr.heap.size:=(h1.lt g2 rfl).2
         have A3:wr.cell? ⟨g2,k,none⟩=some (.int .i64 z):=by
          obtain⟨_,_,e1,rd,-,-⟩:=zk h1;cases e1
          rcases rd with⟨h,_⟩|⟨x,R2,hr⟩
          ·cases h
          ·cases R2
           have h3:=hr k (.int .i64 z) (by rw[hz];exact zr K7);rw[qk] at h3;simpa using h3
         have B2:=HE.out.row;unfold kq at B2;have y2:=B2.cell (i:=2) rfl;have yl:=B2.lt;have K9:=zh D9;rw[hn,hc,D9] at y2;rw[ha] at D9;rw[D9];have L0:=HS.out.2.step B5 D6 HE.lu HE.lm;have O0:qi wr.drew mp lk:=L0.map.keep (m:=[]) ((Upd.refl _ _).drew) (by simp);have B7:Row wr.drew cb 118 [.map (some mp)]:=L0.row.drew;have C8:=zh (zg1 O0 C9 (B7.cell (i:=0) rfl) B7.lt z K8.1 K8.2);have O1:=zh (λy (hy:-9223372036854775808<=y/\y<=9223372036854775807) W' hW'=>HE.word D1 E6 hy (k:=k) K9 (W':=W') hW');have R3:(k:Int)<(d.wn:Int):=by omega
         clear h1 hz K8 K7 R0 B2 L0 O0 B7 D9;go_wp2_with fail;refine zm (λz=>z.cell? ⟨oq,2,none⟩=some (.slice (some ⟨g2,0,none⟩) d.wn d.wc)) (zp [0,1,2,3,4,1005,6,1007]) (by kernel_rfl) (by kernel_rfl) (λ_ _ _ _ _ h=>h) (y2) ?_
         (repeat (refine zi rfl (λK hK=>?_);go_simp;(try go_bits);refine hK _ ?_;clear hK K))
         refine zl (.slice (some ⟨g2,0,none⟩) d.wn d.wc) rfl rfl (λx hS=>by go_simp) ?_
         (repeat (refine zi rfl (λK hK=>?_);go_simp;(try go_bits);refine hK _ ?_;clear hK K))
         refine zj rfl ?_;go_wp2_with fail;go_call C8 as e8 w8 ⟨y,rfl,hy,rfl⟩;obtain⟨W2,C1⟩:=zx ((wr.setCell ⟨g2,k,none⟩ (.int .i64 y)).drew);have O2:=zh (O1 y hy W2 C1);clear O1;go_wp2_with fail;refine⟨y2,?_⟩
         (repeat (refine zi rfl (λK hK=>?_);go_simp;(try go_bits);refine hK _ ?_;clear hK K))
         refine zj rfl ?_;go_wp2_with fail;rw[<-C1];have A0:=O2.out.row;unfold kq at A0;have z2:=A0.cell (i:=2) rfl;simp only[hn,hc,K9.out] at z2;refine⟨z2,?_⟩;refine zo ?_;clear A0 z2 C1 y2 A3 R1;go_wp2;go_roundw
         case rel=>exact⟨k+1,{ e with W:=e.W.set k y },by omega,by go_num,K9.out,hn,hc,O2.out⟩
         case measure=>simp[intOf];omega
        ·obtain rfl:k=d.wn:=by omega
         have B1:=zh (HS.out.2.step B5 D6 HE.lu HE.lm);have B2:=HE.out.row;unfold kq at B2;have y0:=B2.cell (i:=0) rfl;have y1:=B2.cell (i:=1) rfl;have y2:=B2.cell (i:=2) rfl;have y3:=B2.cell (i:=3) rfl;have yl:=B2.lt;have i0:=B1.img.cell (i:=0) rfl;have il:=B1.out.img.lt;have O3:=zh B1.objs;clear ha hn hc;have F0:∀u∈kq e,u.oneCell'=true:=λu hu=>by unfold kq at hu;simp at hu;rcases hu with rfl|rfl|rfl|rfl<;>rfl
         have hbs:w.heap.size<=wr.heap.size:=B1.out.lu.size;have R4:ds.length<=100000:=by omega
         clear B2;go_wp2_with (at_builtin;refine Zb rfl _ _ 22 rfl w.heap.size 28 (.agg #[.int .i64 0,.int .i64 0,.slice none 0 0,.slice none 0 0]) 4 64 underlying22 z0u rfl (by decide) xs ds.length _ rfl (O3.out.alloc _) _ 1 1 (kq e) rfl rfl (zv.madeAt rfl) F0 (by unfold maxLen;omega) (by omega) (Nat.le_trans hbs (by simp)) ?_);intro v9 w9 own9 gr9;obtain⟨a9,c9,rfl,-,-,-⟩:=zk own9;have R5:=zh (λw2 hw=>B1.out.push B5.out E1.out D6.out Q6.out HE.out.ok (HE.out.own.mono HS.out.2.lu.size) (v':=.slice a9 (j+1) c9) (by rw[K2];exact own9) gr9 (w2:=w2) hw);have A4:=B1.img9 gr9;have q0:=A4.cell (i:=0) rfl;have qf:=A4.free 0;have ql:=A4.lt;clear own9 gr9 A4 B1 HE O3 y0 y1 y2 y3 yl i0 il F0;go_wp2;go_roundw
         case rel=>exact⟨j+1,g,.slice a9 (j+1) c9,ds++[e],by omega,by go_num,by rw[List.length_append,K2];rfl,HS.out.1,R5.out _ rfl⟩
         case measure=>simp[intOf];omega
     ·have R6:n=j:=by omega
      subst R6;have F1:ds.length=n:=K2;obtain⟨hg,O4⟩:=HS.out;have B4:=zh O4;clear HS O4 hj G0;obtain⟨_,_,hv,rd,O5,-⟩:=zk B4.all;cases hv
      have A6:Hid (∀w5:World,Below wo.heap.size wo w5->Row w5 p 24 [.slice none 0 0,.int .i64 0]):=λw5 hb=>B4.out.res.keep (l:=[]) (.of_below hb) (by simp)
      obtain⟨⟨S5,T5,O6⟩,-⟩:(∃S T,Zh wo J K NW N S (zt X) [] (λ_=>False) (λ_=>False) T made U F 0)/\True:=⟨B4.lm,trivial⟩
      have C0:Hid (∀(w5 W9:World) (va vb:Value),Below wo.heap.size wo w5->W9=(w5.setCell ⟨p,0,none⟩ va).setCell ⟨p,1,none⟩ vb->Row W9 p 24 [va,vb]/\(∃S T,Zh W9 J K NW N S (zt X) [] (λ_=>False) (λ_=>False) T made U F 0)/\LU J w W9):=by
       intro w5 W9 va vb hb h9;have u:Upd [p] w5 W9:=by rw[h9];exact((Upd.refl [p] w5).setCell (by simp) _).setCell (by simp) _
       have hr:=B4.out.res.keep (l:=[]) (.of_below hb) (by simp);exact⟨by rw[h9];exact(hr.set 0 va).set 1 vb,⟨S5,T5,(O6.below hb).ownRow B5.out E1.out hr D6.out.2.2.1 (by decide) u⟩,(B4.out.lu.trans (.of_below hb)).fresh u (λk hk=>by simp at hk;subst hk;exact D6.out.2.2.1)⟩
      clear O6;by_cases S0:n<4
      ·have R7:(n:Int)<4:=by omega
       have r0:=(A6 wo (Below.refl _ _)).cell (i:=0) rfl;have r1:=(A6 wo (Below.refl _ _)).cell (i:=1) rfl;have rf0:=(A6 wo (Below.refl _ _)).free 0;have rf1:=(A6 wo (Below.refl _ _)).free 1;have rl:=(A6 wo (Below.refl _ _)).lt;go_wp2;obtain⟨W9,A7⟩:=zx ((wo.setCell ⟨p,0,none⟩ (.slice none 0 0)).setCell ⟨p,1,none⟩ (.int .i64 0));have A2:=zh (C0 wo W9 _ _ (Below.refl _ _) A7);rw[<-A7];have c0:=A2.out.1.cell (i:=0) rfl;have c1:=A2.out.1.cell (i:=1) rfl;have cl:=A2.out.1.lt;clear A7 r0 r1 rf0 rf1 rl;refine bodyPost_ret (by rw[results_cell_tmp rfl];go_simp;rfl) rfl ?_;exact⟨.bool true,0,180,0,none,0,rfl,λh=>absurd h (by decide),A2.out.2.1,A2.out.2.2⟩
      ·obtain⟨We,G7⟩:=zx (wo.alloc (.cells #[.int .i64 1,.int .i64 2,.int .i64 3,.int .i64 4] 3));have L1:Below wo.heap.size wo We:=by rw[G7];exact zn (Below.refl _ _)
       have O7:Row We wo.heap.size 3 ([1,2,3,4].map (Value.int .i64)):=by rw[G7];exact Row.made wo _ _
       have F2:zv We a4 c4 ((R.take 4).map (Value.int .i64)):=by
        rw[List.map_take];exact zc9 (rd.below L1) 4
       have O8:=zh (zyi a4 (some ⟨wo.heap.size,0,none⟩) 4 4 c4 4 (R.take 4) [1,2,3,4] We (by rw[List.length_take];have:=HN.out;omega) rfl F2 (O7.reads (c:=4) (λi u hu=>by rw[Nat.zero_add];exact hu)) (by decide) (by decide));clear F2 O7 rd;go_wp2_with fail;rw[<-G7];go_call O8 as e w5 ⟨rfl,O9⟩;have A8:Below wo.heap.size wo w5:=zy L1 O9;have P0:=zh A8;clear L1 O9 G7 O8;cases decide (R.take 4=[1,2,3,4]) with
       | false =>
        have r0:=(A6 w5 A8).cell (i:=0) rfl;have r1:=(A6 w5 A8).cell (i:=1) rfl;have rf0:=(A6 w5 A8).free 0;have rf1:=(A6 w5 A8).free 1;have rl:=(A6 w5 A8).lt;clear A8;go_wp2;obtain⟨W9,A7⟩:=zx ((w5.setCell ⟨p,0,none⟩ (.slice none 0 0)).setCell ⟨p,1,none⟩ (.int .i64 0));have A2:=zh (C0 w5 W9 _ _ P0 A7);rw[<-A7];have c0:=A2.out.1.cell (i:=0) rfl;have c1:=A2.out.1.cell (i:=1) rfl;have cl:=A2.out.1.lt;clear A7 r0 r1 rf0 rf1 rl;refine bodyPost_ret (by rw[results_cell_tmp rfl];go_simp;rfl) rfl ?_;exact⟨.bool true,0,180,0,none,0,rfl,λh=>absurd h (by decide),A2.out.2.1,A2.out.2.2⟩
       | true =>
        obtain⟨ax,cx,rfl,-,-,-⟩:=zk B4.objs;have P1:=B4.lu.trans (.of_below A8);have P2:=HG.out.lux (LUx.of (L:=[]) P1) P6.out (by simp);have P3:=(Upd.of_below (l:=[]) A8).owns B4.out.objs (by simp);have D7:=zs0 (n:=ds.length) (c:=cx) P3 rfl (B4.dsa.below A8);have L2:=zh (zjt ax ds.length cx ds g w5 P2 D7 hg.1 hg.2);have A4:=B4.out.img.keep (l:=[]) (.of_below A8) (by simp);have i0:=A4.cell (i:=0) rfl;have i1:=A4.cell (i:=1) rfl;have il:=A4.lt;rw[F1] at L2 i0;obtain⟨iE,L3⟩:=zx (gv ds g)
        have L4:iE=0\/iE=180:=by
         rw[L3];by_cases h:zm5 ds g
         ·exact .inl (zon h)
         ·exact .inr (zar h)
        have F3:Hid (Calls prog 27 #[.agg #[.slice ax n cx,.int .i64 g]] w5 λe w'=>e=.returned (.int .i64 iE)/\Below w5.heap.size w5 w'):=by rw[L3];exact L2
        clear P1 P2 P3 D7 A4 L2 L3 A8;go_wp2_with fail;go_call F3 as e w6 ⟨rfl,A8⟩;have C4:Below wo.heap.size wo w6:=zy P0 A8;have P4:=zh C4;have A4:=B4.out.img.keep (l:=[]) (.of_below C4) (by simp);have i0:=A4.cell (i:=0) rfl;have i1:=A4.cell (i:=1) rfl;have il:=A4.lt;rw[F1] at i0;have r0:=(A6 w6 C4).cell (i:=0) rfl;have r1:=(A6 w6 C4).cell (i:=1) rfl;have rf0:=(A6 w6 C4).free 0;have rf1:=(A6 w6 C4).free 1;have rl:=(A6 w6 C4).lt;clear C4 A8 A4 F3;rcases L4 with rfl|rfl
        ·go_wp2;obtain⟨W9,A7⟩:=zx ((w6.setCell ⟨p,0,none⟩ (.slice ax n cx)).setCell ⟨p,1,none⟩ (.int .i64 g));have A2:=zh (C0 w6 W9 _ _ P4 A7);rw[<-A7];have c0:=A2.out.1.cell (i:=0) rfl;have c1:=A2.out.1.cell (i:=1) rfl;have cl:=A2.out.1.lt;clear A7 r0 r1 rf0 rf1 rl;refine bodyPost_ret (by rw[results_cell_tmp rfl];go_simp;rfl) rfl ?_;exact⟨.bool true,n,0,g,ax,cx,rfl,λ_=>⟨R,HN.out.symm,by rw[List.nodup_iff_pairwise_ne];exact P8.out.imp (fun {a b} h=>by omega),M2.out⟩,A2.out.2.1,A2.out.2.2⟩
        ·go_wp2;obtain⟨W9,A7⟩:=zx ((w6.setCell ⟨p,0,none⟩ (.slice none 0 0)).setCell ⟨p,1,none⟩ (.int .i64 0));have A2:=zh (C0 w6 W9 _ _ P4 A7);rw[<-A7];have c0:=A2.out.1.cell (i:=0) rfl;have c1:=A2.out.1.cell (i:=1) rfl;have cl:=A2.out.1.lt;clear A7 r0 r1 rf0 rf1 rl;refine bodyPost_ret (by rw[results_cell_tmp rfl];go_simp;rfl) rfl ?_;exact⟨.bool true,0,180,0,none,0,rfl,λh=>absurd h (by decide),A2.out.2.1,A2.out.2.2⟩
        )
end
end Go.Proofs.YtoeibiahbenpcaaGreatDoor
