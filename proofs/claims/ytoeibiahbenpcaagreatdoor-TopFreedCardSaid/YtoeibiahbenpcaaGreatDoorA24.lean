/- Part. -/
import Derived.Test.YtoeibiahbenpcaaGreatDoorA22
import Derived.Test.YtoeibiahbenpcaaGreatDoorA23
import Derived.WalkSmall
namespace Go.Proofs.YtoeibiahbenpcaaGreatDoor
open RowKit Maps Proofs.Tryz
set_option linter.unusedVariables false
set_option maxRecDepth 99999
set_option maxHeartbeats 9000000
section
variable{w w':World}{I:qy}{T:Tb}{made U N:Nat}{F:Nat->Nat}
def xh(T:Tb):List Int:=T.map (λp=>(p.1:Int))
theorem zta(F:Nat->Nat)(T:Tb):Z1 (kvT F T)=xh T:=by
 unfold Z1 kvT xh;rw[List.map_map];rfl
def zpm(w:World)(l:List Int)(e:Ending)(w':World):Prop :=
 ∃v,e=.returned v/\w'.ownsRow w.heap.size 3 1 v l.length (l.map (Value.int .i64))/\Below w.heap.size w w'
theorem zjq(H:Zn w I T made U N F):Calls prog 44 #[.pointer (some ⟨I.s,0,none⟩)] w (zpm w (xh T)):=by
 have k1:=H.row.cell (i:=1) rfl;have A0:=H.few;have A1:=H.len;have HC:=zh (zuk H.map (by rw[zi6];omega));have HK:=zh (z1l I.mp w);have HE:=zh (zta F T);have HL:=zh (zi6 F T);clear H A0 A1;go_enter func44,ntmps44;go_wp2_with fail;go_call HK as e w1 ⟨rfl,rfl⟩;go_wp2_with fail;go_call HC as e w2 ⟨v,rfl,own,-,hb⟩;have HO:=zh own;have HB:=zh hb;clear own hb HC HK;go_wp2;go_ret;refine⟨v,rfl,?_,?_⟩
 ·have h1:=yn (base':=w.heap.size) HO.out (by simp);rw[HE.out,HL.out] at h1;have e1:(xh T).length=T.length:=by simp[xh]
  rw[e1];exact h1
 ·exact((Below.refl _ w).alloc (Nat.le_refl _) _).trans (HB.out.mono (by simp))
theorem jn{l:List KV}{x:Int}(h:jh l):x∈Z1 l↔(zw l x).isSome=true:=by
 unfold Z1;rw[List.mem_map];constructor
 ·rintro⟨p,hp,rfl⟩;rw[gd h (v:=p.2) hp];rfl
 ·intro hs;obtain⟨v,hv⟩:=Option.isSome_iff_exists.1 hs;exact⟨(x,v),qg hv,rfl⟩
theorem xu{l:List KV}(h:jh l):(Z1 l).Nodup:=by
 rw[List.nodup_iff_pairwise_ne];exact(zbv h).imp (fun {a b} A0=>by omega)
theorem z0c{l l':List KV}{x:Int}{v:Value}(h:jh l)(h':jh l')(hx:zw l x=none)(hg:∀y,zw l' y=if y=x then some v else zw l y):l'.length=l.length+1:=by
 have e1:l'.length=(Z1 l').length:=by simp[Z1]
 have e2:l.length+1=(x::Z1 l).length:=by simp[Z1]
 have A1:x∉Z1 l:=λhm=>by rw[jn h,hx] at hm;cases hm
 have a1:=Z4 (l:=Z1 l') (m:=x::Z1 l) (xu h') (λy hy=>by
  rw[jn h',hg] at hy;by_cases A0:y=x
  ·simp[A0]
  ·rw[if_neg A0] at hy
   exact List.mem_cons_of_mem _ ((jn h).2 hy))
 have a2:=Z4 (l:=x::Z1 l) (m:=Z1 l') (List.nodup_cons.2 ⟨A1,xu h⟩) (λy hy=>by
  rw[jn h',hg];by_cases A0:y=x
  ·simp[A0]
  ·rw[if_neg A0];rcases List.mem_cons.1 hy with h1|h1
   ·exact absurd h1 A0
   ·exact(jn h).1 h1)
 omega
theorem yz(T:Tb)(x:Int):zee T x=(lookI T x).isSome:=by
 unfold zee lookI;by_cases h:0<=x<;>simp[h]
theorem ya(T:Tb)(x:Int):yg T x=match lookI T x with|some o=>Zo (o.cls::o.W)|none=>[]:=by
 unfold yg lookI;by_cases h:0<=x
 ·simp only[h,if_true];cases zt T x.toNat<;>rfl
 ·simp only[h,if_false]
theorem zbo{l:List KV}{T:Tb}(hr:qm T)(h:jh l)(hs:∀i,(zw l i).isSome=true->zee T i=true):l.length<=T.length:=by
 have e1:l.length=(Z1 l).length:=by simp[Z1]
 have e2:T.length=(xh T).length:=by simp[xh]
 rw[e1,e2];refine Z4 (xu h) (λy hy=>?_);have h1:=hs y ((jn h).1 hy);unfold zee at h1;simp only[Bool.and_eq_true,decide_eq_true_eq] at h1;obtain⟨o,ho⟩:=Option.isSome_iff_exists.1 h1.2;exact List.mem_map.2 ⟨(y.toNat,o),Zl ho,by simp;omega⟩
def mapN(w:World)(b:Nat):Nat:=match w.heap[b]? with|some (.map es _)=>es.size|_=>0
theorem qi.mapN{b:Nat}{l:List KV}(h:qi w b l):mapN w b=l.length:=by
 obtain⟨es0,clock,hb,Fo,hs,hD⟩:=h.own;unfold Go.Proofs.YtoeibiahbenpcaaGreatDoor.mapN;rw[hb];have h1:Maps.size (kvD l)=es0.size:=by rw[hD];exact length_read es0
 show es0.size=l.length
 rw[<-h1,zi4]
def zhw:Value->Nat | .slice _ n _=>n|_=>0
theorem zz8(l:List Int):∀x∈Zo l,wfK x:=by
 induction l with
 | nil=>intro x h;cases h
 | cons a l ih =>
  intro x h;rw[Zo] at h;rcases List.mem_append.1 h with h|h
  ·split at h
   ·rw[List.mem_singleton] at h;subst h;unfold Zz;split
    ·exact za6 (by omega) (by omega)
    ·exact za6 (by omega) (by omega)
   ·cases h
  ·exact ih x h
structure zcy(T:Tb)(roots:List Int)(l:List KV)(t:List Int):Prop where
 srt:jh l
 tr:∀p∈l,p.2=.bool true
 wf:∀x∈t,wfK x
 dfs:Dfs T roots (λi=>(zw l i).isSome) t
 few:(T.length-l.length)*1002+t.length<=T.length*1002+roots.length
theorem zcy.start(T:Tb)(roots:List Int)(hw:∀x∈roots,wfK x):zcy T roots [] roots :=
 ⟨List.Pairwise.nil,(λp hp=>by cases hp),hw,Dfs.start T roots,by simp⟩
theorem zcy.skip{roots:List Int}{l:List KV}{t:List Int}{j:Int}(h:zcy T roots l (t++[j]))(hj:zee T j=false\/(zw l j).isSome=true):zcy T roots l t :=
 ⟨h.srt,h.tr,λx hx=>h.wf x (by simp[hx]),h.dfs.skip hj,by have:=h.few;simp at this;omega⟩
theorem zcy.take{roots:List Int}{l l':List KV}{t:List Int}{j:Int}(hr:qm T)(h:zcy T roots l (t++[j]))(hj:zee T j=true)(hn:(zw l j)=none)(hl:(yg T j).length<=1001)
 (h':jh l') (hg:∀y,zw l' y=if y=j then some (.bool true) else zw l y):zcy T roots l' (t++yg T j)/\(T.length-l'.length)*1002+(t++yg T j).length<(T.length-l.length)*1002+(t++[j]).length:=by
 have d:=h.dfs.take hj
 have e1:(λk=>decide (k=j) || (zw l k).isSome)=λk=>(zw l' k).isSome:=by
  funext k;rw[hg];by_cases hk:k=j<;>simp[hk]
 rw[e1] at d;have A0:=z0c h.srt h' hn hg;have hf:=zbo hr h' (λi hi=>(d.sub i hi).has);have h5:=h.few
 have A1:(T.length-l'.length)*1002+1002=(T.length-l.length)*1002:=by
  rw[A0,<-Nat.succ_mul];congr 1;omega
 have hx:(T.length-l'.length)*1002+(t++yg T j).length<(T.length-l.length)*1002+(t++[j]).length:=by
  simp only[List.length_append,List.length_singleton];omega
 refine⟨⟨h',λp hp=>?_,λx hx=>?_,d,by omega⟩,hx⟩
 ·have:=gd h' (x:=p.1) (v:=p.2) hp;rw[hg] at this;split at this
  ·exact(Option.some.inj this).symm
  ·exact h.tr _ (qg this)
 ·rcases List.mem_append.1 hx with h1|h1
  ·exact h.wf x (by simp[h1])
  ·rw[ya] at h1;split at h1
   ·exact zz8 _ x h1
   ·cases h1
theorem yo{B:Nat}{e:TypeId}{s n c:Nat}{a:Option Addr}{xs:List Value}(h:w.ownsRow B e s (.slice a n c) n xs)(hn:0<n):∃g,a=some ⟨g,0,none⟩:=by
 rcases h.2 with⟨h1,h2⟩|⟨g,cap,cur,hv,-⟩
 ·omega
 ·cases hv;exact⟨g,rfl⟩
theorem Upd.fresh{l m:List Nat}{a b c:World}(h:Upd l a b)(k:Upd m b c)(hm:∀x∈m,a.heap.size<=x):Upd l a c :=
 ⟨k.os.trans h.os,k.tape.trans h.tape,k.output.trans h.output,Nat.le_trans h.size k.size,λi hi hn=>(k.block i (Nat.lt_of_lt_of_le hi h.size) (λhx=>by have:=hm i hx;omega)).trans (h.block i hi hn)⟩
structure z5o(w wr:World)(I:qy)(T:Tb)(made U N:Nat)(F:Nat->Nat)(mb B:Nat)(v:Value)(l:List KV)(t:List Int):Prop where
 map:qi wr mb l
 own:wr.ownsRow B 3 1 v t.length (t.map (Value.int .i64))
 sec:Zn wr I T made U N F
 upd:Upd I.E.all w wr
 mbw:w.heap.size<=mb/\mb<B/\B<=wr.heap.size
def zy0(I:qy)(T:Tb)(made U N:Nat)(F:Nat->Nat)(roots:List Int)(w:World)(e:Ending)(w':World):Prop :=
 ∃(v:Value) (R:List Int),e=.returned v/\w'.ownsRow w.heap.size 3 1 v R.length (R.map (Value.int .i64))/\R.Pairwise (λa b=>a<b)/\(∀i,i∈R↔Reach T roots i)/\Zn w' I T made U N F/\Upd I.E.all w w'
theorem Zn.refs(H:Zn w I T made U N F)(j:Int):(yg T j).length<=1001:=by
 rw[ya];cases ho:lookI T j with
 | none=>simp
 | some o =>
  have:=(xt H ho).1;have h2:=xq (o.cls::o.W);rcases this.kinds with⟨_,_,h3,_⟩|⟨_,h3,_⟩
  ·simp at h2 ⊢;omega
  ·simp[h3] at h2 ⊢;omega
theorem zut(H:Zn w I T made U N F)(a:Option Addr)(n c:Nat)(roots:List Int)(e0:n=roots.length)(hr:zv w a c (roots.map (Value.int .i64)))(hm:n<=1000000)(hw:∀x∈roots,wfK x) :
 Calls prog 43 #[.pointer (some ⟨I.s,0,none⟩),.slice a n c] w (zy0 I T made U N F roots w):=by
 have G2:=@run_makeMap prog;obtain⟨W1,A9⟩:=zx (w.alloc (.map #[] 0));have b1:Below w.heap.size w W1:=by rw[A9];exact(Below.refl _ _).alloc (Nat.le_refl _) _
 have m1:qi W1 w.heap.size []:=by rw[A9];exact qi.made w
 have s1:W1.heap.size=w.heap.size+1:=by rw[A9];simp
 have HC:=zh (zly a n c roots W1 e0 (hr.below b1) (by omega));have D3:=zh A9;have D4:=zh b1;have G3:=zh m1;have G4:=zh s1;have HH:=zh H;have G5:=zh hw;have G6:=zh e0;have G7:=zh hm;clear A9 b1 m1 s1 H hr hw e0 hm;go_enter func43,ntmps43;go_wp2;go_step3;go_wp2_with fail;rw[<-D3.out];go_call HC as e w1 ⟨v1,rfl,own1,bel1⟩;have C1:=own1.lt;have G8:=zh own1;have A3:=zh bel1;clear own1 bel1 HC C1 D3;obtain⟨mb,C2⟩:=zx (w.heap.size);have D5:=zh C2;rw[<-C2];clear C2 G2
 have D6:Hid (z5o w w1 I T made U N F mb W1.heap.size v1 [] roots):=by
  have:=A3.out.size;have:=G4.out;have:=D5.out;exact⟨by rw[D5.out];exact G3.out.below A3.out,G8.out,(HH.out.below D4.out).below A3.out,.of_below (zy D4.out A3.out),by omega,by omega,by omega⟩
 have G9:=zh (zcy.start T roots G5)
 have K6:Hid (zhw v1=roots.length):=by
  obtain⟨a1,c1,rfl,-⟩:=zk D6.own;rfl
 have C3:Hid (T.length*1002+roots.length<=1003000000):=by
  have h1:=HH.out.len;have h2:=HH.out.few;have h3:=G7.out;have h4:=G6.out;unfold Hid;omega
 go_wp2;go_step3;go_wp2;go_loopw [6] (λv wr=>∃l t,Hid (z5o w wr I T made U N F mb W1.heap.size v l t)/\Hid (zcy T roots l t)) (λv wr=>(T.length-mapN wr mb)*1002+zhw v)
 case atStart=>exact⟨[],roots,D6,G9⟩
 case round =>
  obtain⟨l,t,HX,A2⟩:=hrel;have A5:t.length<=1003000000:=by have:=A2.out.few;have:=C3.out;omega
  rcases t.eq_nil_or_concat with rfl|⟨t,j,rfl⟩
  ·obtain⟨b0,c0,rfl,-⟩:=zk HX.own;have C4:=zbo HX.sec.rise HX.map.srt (λi hi=>(A2.dfs.sub i hi).has);have HC:=zh (zul HX.out.map (by have:=HX.out.sec.len;have:=HX.out.sec.few;omega));have HK:=zh (z1m mb wr);clear C4;go_wp2_with fail;go_call HK as e w1 ⟨rfl,rfl⟩;go_wp2_with fail;go_call HC as e w2 ⟨v,rfl,own,-,hb⟩;have HO:=zh own;have HB:=zh hb;clear own hb HC HK;go_wp2;go_ret;have K7:=HX.out.upd.size;have D7:Below wr.heap.size wr w2:=((Below.refl _ wr).alloc (Nat.le_refl _) _).trans (HB.out.mono (by simp));refine⟨v,Z1 l,rfl,?_,zbv HX.map.srt,?_,HX.sec.below D7,HX.upd.trans (.of_below D7)⟩
   ·have h1:=yn (base':=w.heap.size) HO.out (by simp;omega);rw[show(Z1 l).length=l.length by simp[Z1]];exact h1
   ·intro i;rw[jn HX.out.map.srt];exact A2.dfs.done i
  ·rw[List.concat_eq_append] at HX A2 A5;have B0:0<(t++[j]).length:=by simp
   have D8:=A2.out.wf j (by simp);have A6:=zh D8;obtain⟨b0,cp,rfl,rd,I0,-⟩:=zk HX.own;obtain⟨g,rfl⟩:=yo HX.own B0
   have A7:Hid (wr.ownsRow W1.heap.size 3 1 (.slice (some ⟨g,0,none⟩) t.length cp) t.length (t.map (Value.int .i64))):=by
    have h1:=HX.out.own;rw[show(t++[j]).length=t.length+1 by simp,List.map_append] at h1;exact ownsRow_pop (by simp) h1
   have D9:wr.cell? ((⟨g,0,none⟩:Addr).add t.length)=some (.int .i64 j):=by
    rcases rd with⟨h,_⟩|⟨x,I1,hr⟩
    ·cases h
    ·cases I1
     exact hr _ _ (by simp)
   rw[qk] at D9;simp only[Nat.zero_add] at D9;have I2:t.length+1<=1003000000:=by simpa using A5
   have I3:Hid ((T.length-mapN wr mb)*1002+zhw (.slice (some ⟨g,0,none⟩) (t++[j]).length cp)=(T.length-l.length)*1002+(t++[j]).length):=by
    rw[HX.out.map.mapN];rfl
   have E0:(t++[j]).length=t.length+1:=by simp
   rw[E0] at I0 I3 ⊢;clear rd B0 A5 D8 E0;rcases Bool.eq_false_or_eq_true (zw l j).isSome with hs|hs
   ·have HV:=zh (show(zw l j).getD (.bool false)=.bool true by
     obtain⟨u,hu⟩:=Option.isSome_iff_exists.1 hs;have:=A2.out.tr _ (qg hu);simp only at this
     rw[hu,this];rfl)
    have C5:=zh (A2.skip (.inr hs));clear hs;go_wp2_with (at_lookup;refine Zw HX.map A6 rfl _ _ 103 rfl 4 underlying103 _ (zeroValue4 _) rfl rfl _ HV ?_);refine⟨⟨l,t,⟨HX.map,A7,HX.sec,HX.upd,HX.mbw⟩,C5⟩,?_⟩;simp only[zhw];omega
   ·have A1:zw l j=none:=by simpa using hs
    have HV:=zh (show(zw l j).getD (.bool false)=.bool false by rw[A1];rfl);cases ho:lookI T j with
    | none =>
     have C5:=zh (A2.out.skip (.inl (by rw[yz,ho];rfl)));have A8:=zh (zfj HX.sec j A6);rw[ho] at A8;clear hs A1 ho
     go_wp2_with (first
      | (at_lookup;refine Zw HX.map A6 rfl _ _ 103 rfl 4 underlying103 _ (zeroValue4 _) rfl rfl _ HV ?_)
      | (go_at_call 54;go_call A8 as e w2 ⟨rfl,hb⟩))
     have h1:=HX.out.map.mapN;have h2:=(HX.map.below hb).mapN;refine⟨⟨l,t,⟨HX.out.map.below hb,(Upd.of_below (l:=[]) hb).ownsAbove A7.out (by simp),HX.out.sec.below hb,HX.out.upd.trans (.of_below hb),⟨HX.out.mbw.1,HX.out.mbw.2.1,by have:=HX.out.mbw.2.2;have:=hb.size;omega⟩⟩,C5.out⟩,?_⟩;rw[h1,h2];simp only[zhw];omega
    | some o =>
     have A8:=zh (zfj HX.sec j A6);rw[ho] at A8;have E1:=zh ho;have HJ:=zh (show zee T j=true by rw[yz,ho];rfl);have I4:=zh A1;have C6:=zh (show yg T j=Zo (o.cls::o.W) by rw[ya,ho])
     have I5:=zh (show l.length<=1000000 by
      have h1:=zbo HX.sec.rise HX.map.srt (λi hi=>(A2.dfs.sub i hi).has);have h2:=HX.out.sec.len;have h3:=HX.out.sec.few
      omega)
     clear hs A1 ho
     go_wp2_with (first
      | (at_lookup;refine Zw HX.map A6 rfl _ _ 103 rfl 4 underlying103 _ (zeroValue4 _) rfl rfl _ HV ?_)
      | (go_at_call 54;go_call A8 as e w2 ⟨rfl,hb⟩;have E2:=zh (HX.map.below hb))
      | (at_mapUpdate;refine jc E2 A6 I5 rfl _ _ _ 103 rfl 4 underlying103 rfl rfl (.bool true) rfl ?_))
     intro w3 l' B7 E3 B1;have C7:=zh (HX.sec.below hb);have E4:=zh ((Upd.of_below (l:=[]) hb).ownsAbove A7.out (by simp));have E5:=zh (HX.upd.trans (.of_below hb));have I6:=hb.size;have C8:=HX.out.mbw;have A0:Hid (w.heap.size<=mb/\mb<W1.heap.size/\W1.heap.size<=w2.heap.size):=⟨C8.1,C8.2.1,by omega⟩;have B8:=zh (HH.lt);have I7:=zh (λl'=>A2.take (l':=l') HX.sec.rise HJ I4 (HX.sec.refs j));have E6:=HX.out.map.mapN;have I8:=zh E6;clear hb I6 C8 A8 HV HX E6;obtain⟨B2,C9⟩:=I7 l' B7.srt E3
     have B3:∀k∈I.all,k∉[mb]:=λk hk hm=>by
      simp at hm;subst hm;have h1:=B8 _ hk;have h2:=A0.out;omega
     have E7:=zh (C7.keep B1 B3);have I9:Hid (Upd I.E.all w w3):=E5.out.fresh B1 (λk hk=>by simp at hk;subst hk;exact A0.out.1);have E8:=zh (B1.ownsAbove E4.out (λk hk=>by simp at hk;subst hk;exact A0.out.2.1));have E9:=zh B7;have HF:=zh (zb1 E7 j A6 o E1);have J0:=zh B7.mapN;have J1:=zh (xt C7 E1).1;have J2:=zh B1.size;clear B7 E3 B1 B3 C7 E4 E5 E2;go_wp2_with fail;go_call HF as e w4 ⟨d,rfl,A4,B4,F0,J3,D0,J4,F1,B5⟩
     have B3:∀k∈I.all,k<W1.heap.size:=λk hk=>by
      have h1:=B8 _ hk;have h2:=A0.out;omega
     have F2:∀k∈I.E.all,k∈I.all:=λk hk=>by simp[qy.all,hk]
     have J5:=zh (B5.ownsAbove E8 (λk hk=>B3 k (F2 k hk)));have J6:=zh (E9.keep B5 (λhm=>by have h1:=B8 _ (F2 _ hm);have h2:=A0.out;omega));have J7:=zh (I9.trans B5);have F3:=zh F1;have K8:=zh A4;have J8:=zh B5.size
     have F4:d.wn<=1000000:=by
      have h1:=A4.wl;rw[D0] at h1;rcases J1.out.kinds with⟨_,_,h3,_⟩|⟨_,h3,_⟩
      ·omega
      ·simp[h3] at h1;omega
     have HD:=zh (And.intro F0 D0);obtain⟨q,hq⟩:=zx (w4.heap.size);obtain⟨W5,B9⟩:=zx (w4.alloc (.cells #[.int .i64 d.cls,.int .i64 d.kind,.slice d.wa d.wn d.wc,.slice d.ba d.bn d.bc] 28));have b5:Below w4.heap.size w4 W5:=by rw[B9];exact(Below.refl _ _).alloc (Nat.le_refl _) _
     have r5:Row W5 q 28 [.int .i64 d.cls,.int .i64 d.kind,.slice d.wa d.wn d.wc,.slice d.ba d.bn d.bc]:=by rw[B9,hq];exact Row.made w4 _ _
     have D1:=zh (zjp d W5 (A4.below b5) F4);have F5:d.val=.agg #[.int .i64 d.cls,.int .i64 d.kind,.slice d.wa d.wn d.wc,.slice d.ba d.bn d.bc]:=rfl;rw[F5] at D1 ⊢;have HQ:=zh hq;have F6:=zh B9;have J9:=zh b5;have K9:=zh r5;have y0:=r5.cell (i:=0) rfl;have y1:=r5.cell (i:=1) rfl;have y2:=r5.cell (i:=2) rfl;have y3:=r5.cell (i:=3) rfl;have yl:=r5.lt;clear A4 B4 F0 J3 D0 J4 F1 B5 B3 hq B9 b5 r5 F5 F4 HF E8 E9 E7;rw[F6.out,HQ.out] at y0 y1 y2 y3 yl;go_wp2_with fail;rw[<-F6.out];go_call D1 as e w6 ⟨v6,rfl,own6,F7⟩;have B6:=zh (zy J9 F7);have F8:=zh ((Upd.of_below (l:=[]) B6.out).ownsAbove J5.out (by simp));obtain⟨a6,c6,rfl,rd6,L0,-⟩:=zk own6;have D2:=zh rd6;have K0:=zh B6.size
     have K1:(Zo (d.cls::d.W)).length<=1001:=by
      rw[HD.out.1,HD.out.2,<-C6.out];exact F3.refs j
     rw[HD.out.1,HD.out.2,<-C6.out] at K1 D2;rw[HD.out.1,HD.out.2,<-C6.out];clear own6 F7 rd6 D1 y0 y1 y2 y3 yl;have K2:W1.heap.size<=w6.heap.size:=by have:=K0.out;have:=J8.out;have:=J2.out;have:=A0.out;omega
     go_wp2_with (at_builtin;refine Zb rfl _ _ 25 rfl W1.heap.size 3 (.int .i64 0) 1 8 underlying25 Zx rfl (by decide) _ t.length (t.map (Value.int .i64)) rfl F8.out a6 (yg T j).length c6 ((yg T j).map (Value.int .i64)) rfl (by simp) D2.out (jw _ _) (by unfold maxLen;omega) (by omega) K2 ?_);intro v7 w7 own7 gr7;have hg:=(F8.lt g rfl).1;have F9:Upd [g] w6 w7:=⟨gr7.os,gr7.tape,gr7.output,gr7.size,λk hk hn=>gr7.block k hk (λe=>hn (by simp[Value.ownBlock] at e;simp[e]))⟩
     have G0:zhw v7=t.length+(yg T j).length:=by
      obtain⟨_,_,rfl,-⟩:=zk own7;rfl
     have K3:=zh own7;have C0:=zh F9;have K4:=zh G0;have HG:=zh hg;clear own7 gr7 F9 G0 hg D2;go_wp2
     have K5:∀k∈I.all,k∉[g]:=λk hk hm=>by
      simp at hm;subst hm;have h1:=B8 _ hk;have h2:=A0.out;have h3:=HG.out;omega
     have G1:=(J6.out.below B6.out).keep C0.out (λhm=>by simp at hm;have h2:=A0.out;have h3:=HG.out;omega);have hf:=B2.few;refine⟨⟨l',t++yg T j,⟨G1,?_,(F3.below B6).keep C0 K5,(J7.trans (.of_below B6)).fresh C0 ?_,⟨A0.out.1,A0.out.2.1,?_⟩⟩,B2⟩,?_⟩
     ·have:=K3.out;rw[List.length_append,List.map_append];exact this
     ·intro k hk;simp at hk;subst hk;have h2:=A0.out;have h3:=HG.out;omega
     ·have:=C0.out.size;omega
     ·rw[G1.mapN,K4.out,I8.out];have h1:zhw (.slice (some ⟨g,0,none⟩) (t.length+1) cp)=(t++[j]).length:=by simp[zhw]
      rw[h1];have h2:=C9;rw[List.length_append] at h2;exact h2
end
def zdq(xs:List Ext):List Value:=xs.flatMap exC
theorem ztz(xs ys:List Ext):zdq (xs++ys)=zdq xs++zdq ys:=by simp[zdq]
theorem zgs:∀xs:List Ext,(zdq xs).length=xs.length*3
 | []=>rfl
 | x::xs=>by
  have:=zgs xs;show(exC x++zdq xs).length=_
  rw[List.length_append,this,List.length_cons];show 3+_=_
  omega
theorem zlb:∀ {xs:List Ext} {k j:Nat} {d:Ext} {v:Value},xs[k]?=some d->(exC d)[j]?=some v->(zdq xs)[k*3+j]?=some v
 | [],k,j,d,v,h,_=>by simp at h
 | x::xs,0,j,d,v,h,hv=>by
  simp at h;subst h;have hj:j<(exC x).length:=(List.getElem?_eq_some_iff.1 hv).1;show(exC x++zdq xs)[0*3+j]?=some v
  rw[Nat.zero_mul,Nat.zero_add,List.getElem?_append_left hj];exact hv
 | x::xs,k+1,j,d,v,h,hv=>by
  have h':xs[k]?=some d:=by simpa using h
  show(exC x++zdq xs)[(k+1)*3+j]?=some v
  rw[List.getElem?_append_right (by show 3<=_;omega),show(k+1)*3+j-(exC x).length=k*3+j by show(k+1)*3+j-3=_;omega];exact zlb h' hv
theorem z0v:(prog.info? 152).map (λi=>(i.zero,i.size,i.bytes))=some (some (.agg #[.int .i64 0,.int .i64 0,.int .i64 0]),3,24):=by kernel_rfl
theorem z07{w:World}{a:Option Addr}{c:Nat}{xs:List Ext}(h:zv w a c (zdq xs)):qr w a 3 exC xs:=λi d hid=>by
 have hi:=(List.getElem?_eq_some_iff.1 hid).1;obtain⟨b,off,rfl,hb,hc⟩:=h.at (by rw[zgs];omega);refine⟨b,off,rfl,hb,λj v hv=>?_⟩;have:=hc (i*3+j) v (zlb hid hv);rw[<-Nat.add_assoc] at this;exact this
theorem zsx{w:World}{base n:Nat}{v:Value}{xs:List Ext}(h:w.ownsRow base 152 3 v n (zdq xs)) :
 ∃a c,v=.slice a n c/\zv w a c (zdq xs)/\qr w a 3 exC xs/\n<=c/\n=xs.length/\∀y,a=some y->base<=y.block:=by
 obtain⟨a,c,rfl,hr,hc,hb⟩:=zk h;have h1:=h.1;rw[zgs] at h1;exact⟨a,c,rfl,hr,z07 hr,hc,by omega,λy hy=>(hb y hy).1⟩
section
variable{w w':World}{I:qy}{T:Tb}{made U N:Nat}{F:Nat->Nat}
theorem zsm{α β:Type}{f:α->β}:∀ {l:List α},l.Pairwise (λa b=>f a≠f b)->∀ {x y:α},x∈l->y∈l->f x=f y->x=y
 | [],_,x,y,hx,_,_=>by cases hx
 | z::l,h,x,y,hx,hy,e=>by
  rw[List.pairwise_cons] at h;rcases List.mem_cons.1 hx with rfl|A1
  ·rcases List.mem_cons.1 hy with rfl|A0
   ·rfl
   ·exact absurd e (h.1 _ A0)
  ·rcases List.mem_cons.1 hy with rfl|A0
   ·exact absurd e.symm (h.1 _ A1)
   ·exact zsm h.2 A1 A0 e
def zds(T:Tb)(ids:List Int):Tb:=T.filter (λp=>!decide ((p.1:Int)∈ids))
def zrp(F:Nat->Nat)(T:Tb)(x:Int):Ext:=match lookI T x with|some o=>rE (F x.toNat,o.enc)|none=>(0,0,0)
theorem zll{x:Int}{o:Ob}(h:lookI T x=some o):zrp F T x=((F x.toNat:Int),(obN o:Int),(o.enc.length:Int)):=by
 unfold zrp;rw[h];rfl
theorem zhp(h:(za0 F T).Pairwise Ap):T.Pairwise (λp q=>rE (F p.1,p.2.enc)≠rE (F q.1,q.2.enc)):=by
 unfold za0 at h;rw[List.pairwise_map] at h;exact h.imp (fun {a b} A0=>z2m A0)
theorem z1c(hr:qm T)(ha:(za0 F T).Pairwise Ap){ids:List Int}(hi:∀x∈ids,(lookI T x).isSome=true){p:Nat×Ob}(hp:p∈T) :
 rE (F p.1,p.2.enc)∈ids.map (zrp F T)↔(p.1:Int)∈ids:=by
 have A1:lookI T (p.1:Int)=some p.2:=by rw[je];exact qv hr hp
 rw[List.mem_map];constructor
 ·rintro⟨x,hx,he⟩;obtain⟨o,ho⟩:=Option.isSome_iff_exists.1 (hi x hx)
  have A0:0<=x/\zt T x.toNat=some o:=by
   unfold lookI at ho;split at ho
   ·exact⟨by assumption,ho⟩
   ·cases ho
  unfold zrp at he;rw[ho] at he;have:=zsm (f:=λp:Nat×Ob=>rE (F p.1,p.2.enc)) (zhp ha) (Zl A0.2) hp he;rw[<-this];simp only;rw[Int.toNat_of_nonneg A0.1];exact hx
 ·intro hx;refine⟨p.1,hx,?_⟩;unfold zrp;rw[A1];rfl
theorem zsh(hr:qm T)(ha:(za0 F T).Pairwise Ap){ids:List Int}(hi:∀x∈ids,(lookI T x).isSome=true):rest (za0 F T) (ids.map (zrp F T))=za0 F (zds T ids):=by
 unfold rest za0 zds;rw[List.filter_map];congr 1;refine List.filter_congr (λp hp=>?_);simp only[Function.comp_apply];congr 1;exact decide_eq_decide.2 (z1c hr ha hi hp)
theorem zba{α β:Type}{f:α->β}:∀ {l:List α},l.Nodup->(∀x∈l,∀y∈l,f x=f y->x=y)->(l.map f).Nodup
 | [],_,_=>List.nodup_nil
 | a::l,h,hi=>by
  rw[List.nodup_cons] at h;rw[List.map_cons,List.nodup_cons];refine⟨λhm=>?_,zba h.2 (λx hx y hy=>hi x (by simp[hx]) y (by simp[hy]))⟩;obtain⟨b,hb,he⟩:=List.mem_map.1 hm;have:=hi b (by simp[hb]) a (by simp) he;subst this;exact h.1 hb
theorem zt1(hr:qm T)(ha:(za0 F T).Pairwise Ap){ids:List Int}(hi:∀x∈ids,(lookI T x).isSome=true)(hn:ids.Nodup):z3f (za0 F T) (ids.map (zrp F T)):=by
 have key:∀x∈ids,∃o,lookI T x=some o/\0<=x/\zt T x.toNat=some o:=λx hx=>by
  obtain⟨o,ho⟩:=Option.isSome_iff_exists.1 (hi x hx);refine⟨o,ho,?_⟩;unfold lookI at ho;split at ho
  ·exact⟨by assumption,ho⟩
  ·cases ho
 refine⟨λy hy=>?_,zba hn (λx hx y hy he=>?_)⟩
 ·obtain⟨x,hx,rfl⟩:=List.mem_map.1 hy;obtain⟨o,ho,h0,hl⟩:=key x hx;refine⟨(F x.toNat,o.enc),List.mem_map.2 ⟨(x.toNat,o),Zl hl,rfl⟩,?_⟩;unfold zrp;rw[ho]
 ·obtain⟨o,ho,h0,hl⟩:=key x hx;obtain⟨o',A0,A2,A1⟩:=key y hy;unfold zrp at he;rw[ho,A0] at he;have:=zsm (f:=λp:Nat×Ob=>rE (F p.1,p.2.enc)) (zhp ha) (Zl hl) (Zl A1) he;have h1:=congrArg (·.1) this;simp only at h1;omega
theorem zge(T:Tb)(ids:List Int)(i:Nat):zt (zds T ids) i=if (i:Int)∈ids then none else zt T i:=by
 have:=zeu T (λi=>!decide ((i:Int)∈ids)) i;unfold zds;rw[this];by_cases h:(i:Int)∈ids<;>simp[h]
theorem zln(hr:qm T)(ids:List Int):qm (zds T ids):=by
 unfold qm zds;exact List.Pairwise.filter _ hr
theorem Zn.drop(H:Zn w I T made U N F){ids:List Int}(hi:∀x∈ids,(lookI T x).isSome=true)
 (hr:Row w' I.s 125 [.pointer (some ⟨I.E.m,0,none⟩),.map (some I.mp),.int .i64 made]) {l:List KV} (hm:qi w' I.mp l) (hg:∀y,zw l y=if y∈ids then none else zw (kvT F T) y)
 (hs:SG w' I.E (rest (za0 F T) (ids.map (zrp F T))) N 0):Zn w' I (zds T ids) made U N F:=by
 have A0:∀p∈zds T ids,p∈T:=λp hp=>(List.mem_filter.1 hp).1
 have hl:l=kvT F (zds T ids):=by
  refine zhx hm.srt (zi5 (zln H.rise ids)) (λy=>?_);rw[hg,zbd,zbd];unfold lookI;by_cases hy:0<=y
  ·simp only[hy,if_true];rw[zge];rw[Int.toNat_of_nonneg hy];by_cases h2:y∈ids<;>simp[h2]
  ·simp[hy]
 rw[zsh H.rise H.sp.apart hi] at hs;exact⟨hr,hl▸hm,hs,zln H.rise ids,λp hp=>H.ids p (A0 p hp),λp hp=>H.good p (A0 p hp),H.few,H.ne,λp hp=>H.top p (A0 p hp)⟩
theorem zuw(H:Zn w I T made U N F)(a:Option Addr)(n c:Nat)(ids:List Int)(e0:n=ids.length)(hr:zv w a c (ids.map (Value.int .i64)))(hc:n<=c)(hm:n<=100000)(ha:∀x,a=some x->x.block∉I.all)
 (hi:∀x∈ids,(lookI T x).isSome=true) (hn:ids.Nodup) :
 Calls prog 48 #[.pointer (some ⟨I.s,0,none⟩),.slice a n c] w λe w'=>e=.returned (.int .i64 0)/\Zn w' I (zds T ids) made U N F/\Upd (I.mp::I.E.all) w w':=by
 subst e0
 have C4:∀x∈ids,wfK x:=λx hx=>by
  obtain⟨o,ho⟩:=Option.isSome_iff_exists.1 (hi x hx);obtain⟨_,h2,h3⟩:=xt H ho;have:=H.wf _ (Zl h2);rwa[h3] at this
 obtain⟨xs,B6⟩:=zx (ids.map (zrp F T));have C5:xs.length=ids.length:=by rw[B6];simp
 have B4:=zh B6;have C6:=zh C5;have HH:=zh H;have C7:=zh C4;have HR:=zh hr;have HA:=zh ha;have HI:=zh hi;have HN:=zh hn;have C8:=zh H.lt;clear C4 B6 C5 H hr ha hi hn;go_enter func48,ntmps48;go_wp2;go_loopw [5,14] (λv i wr=>∃k:Nat,k<=ids.length/\i=.int .i64 k/\Hid (wr.ownsRow w.heap.size 152 3 v k (zdq (xs.take k)))/\Hid (Below w.heap.size w wr)) (λ_ i _=>ids.length-(intOf i).toNat)
 case atStart=>exact⟨0,Nat.zero_le _,rfl,World.ownsRow_nil _ _ _ _,Below.refl _ _⟩
 case round =>
  obtain⟨k,hk,rfl,hO,hB⟩:=hrel;by_cases A2:k<ids.length
  ·obtain⟨b,off,rfl,B7,A5⟩:=(HR.out.below hB.out).at (by simp;omega);have A0:=A5 k _ (zr A2);obtain⟨x,hx⟩:=zx (ids.getD k 0);have A6:x∈ids:=hx▸zdn A2;obtain⟨o,ho⟩:=Option.isSome_iff_exists.1 (HI x A6);have HS:Hid (Zn wr I T made U N F):=HH.below hB.out;have HC:=zh (zb2 HS x (C7 x A6) o ho)
   have C9:=zh (show decide (x∈ids.take k)=false from decide_eq_false (λhm=>by
    have A7:=HN.out;rw[<-List.take_append_drop k ids,List.nodup_append] at A7
    have h2:x∈ids.drop k:=by
     rw[hx,zg,ze A2];rw[List.drop_eq_getElem_cons A2];exact List.mem_cons_self
    exact A7.2.2 x hm x h2 rfl))
   have E6:Hid (xs.take (k+1)=xs.take k++[((F x.toNat:Int),(obN o:Int),(o.enc.length:Int))]):=by
    have h1:xs[k]?=some (zrp F T x):=by
     rw[B4.out,List.getElem?_map,hx,zg,ze A2];rfl
    unfold Hid;rw[List.take_add_one,h1,zll ho];rfl
   rw[<-hx] at A0;have G0:=zh A5;have G1:k<=c:=by omega
   unfold exT exA at HC;clear A5 hx ho A6;go_wp2_with fail;go_call HC as e w1 ⟨rfl,hb⟩;obtain⟨W2,B5⟩:=zx (w1.alloc (.cells #[.int .i64 (F x.toNat),.int .i64 (obN o),.int .i64 o.enc.length] 152));have b2:Below wr.heap.size wr W2:=by rw[B5];exact zn hb
   have D0:=zh (zcv (some ⟨b,off,none⟩) k c (ids.take k) x W2 (by simp;omega) (by rw[List.map_take];exact zc9 ((HR.out.below hB.out).below b2) k) (by omega));rw[C9.out] at D0;have D1:=zh ((Upd.of_below (l:=[]) b2).ownsAbove hO.out (by simp));have D2:=zh (hB.out.trans (b2.mono hB.out.size));have r1:=Row.made w1 [.int .i64 (F x.toNat),.int .i64 (obN o),.int .i64 o.enc.length] 152;have y0:=r1.cell (i:=0) rfl;have y1:=r1.cell (i:=1) rfl;have y2:=r1.cell (i:=2) rfl;have yl:=r1.lt;rw[<-B5] at y0 y1 y2 yl;have E7:=zh B5;clear B5 b2 HC hb C9 r1 A0
   have A9:∀u∈[Value.int .i64 (F x.toNat),.int .i64 (obN o),.int .i64 o.enc.length],u.oneCell'=true:=λu hu=>by
    simp at hu;rcases hu with rfl|rfl|rfl<;>rfl
   have D3:k+1<=maxLen:=by unfold maxLen;omega
   have B0:(k+1)*24<=140737488355328:=by omega
   have hbs:w.heap.size<=W2.heap.size:=D2.out.size
   go_wp2_with (first
    | (go_at_call 46;rw[<-E7.out];go_call D0 as e w2 ⟨rfl,rfl⟩)
    | (at_builtin;refine Zb rfl _ _ 168 rfl w.heap.size 152 (.agg #[.int .i64 0,.int .i64 0,.int .i64 0]) 3 24 underlying168 z0v rfl (by decide) _ k _ rfl (D1.out.alloc _) _ 1 1 [.int .i64 (F x.toNat),.int .i64 (obN o),.int .i64 o.enc.length] rfl rfl (zv.madeAt rfl) A9 D3 B0 (Nat.le_trans hbs (by simp)) ?_))
   intro v5 w5 own5 gr5
   have E8:Hid (w5.ownsRow w.heap.size 152 3 v5 (k+1) (zdq (xs.take (k+1)))):=by
    rw[E6.out,ztz];exact own5
   have E9:Hid (Below w.heap.size w w5):=(zn D2.out).grown gr5 (Nat.le_trans hbs (by simp)) (λg hg=>(D1.out.lt g hg).1);clear own5 gr5 A9 D3 B0;go_wp2;go_roundw
   case rel=>exact⟨k+1,by omega,by go_num,E8.out,E9.out⟩
   case measure=>simp[intOf];omega
  ·obtain rfl:k=ids.length:=by omega
   have B8:=hO.out;rw[show xs.take ids.length=xs by rw[<-C6.out,List.take_length]] at B8;obtain⟨la,lc,rfl,-,B0,D4,F0,D5⟩:=zsx B8;have F1:=zh D4;have F2:=zh B0;have D6:=zh D5;have HW:Hid (Zn wr I T made U N F):=HH.below hB.out;have k1:=HW.row.cell (i:=1) rfl;clear B8 hO B0 D4 F0 D5 A2 hk;go_wp2;go_loopw [46] (λi wq=>∃j:Nat,j<=ids.length/\i=.int .i64 j/\Hid (∃l,qi wq I.mp l/\∀y,zw l y=if y∈ids.take j then none else zw (kvT F T) y)/\Hid (Upd [I.mp] wr wq)) (λi _=>ids.length-(intOf i).toNat)
   case atStart=>exact⟨0,Nat.zero_le _,rfl,⟨_,HW.out.map,λy=>by simp⟩,Upd.refl _ _⟩
   case round =>
    obtain⟨j,hj,rfl,hM,hU⟩:=hrel
    have A3:∀x,a=some x->x.block∉[I.mp]:=λx hx hm=>by
     simp at hm;exact HA.out x hx (by rw[hm];simp[qy.all])
    have D7:I.s∉[I.mp]:=λhm=>by
     have h1:=HH.out.ne;simp only[qy.all,List.nodup_cons,List.mem_cons,not_or] at h1;simp at hm;exact h1.1.1 hm
    have hq:=hU.out.size;have G2:=hB.out.size;by_cases A2:j<ids.length
    ·have D8:=hU.out.reads (HR.below hB.out) A3;obtain⟨b,off,rfl,B7,A5⟩:=D8.at (by simp;omega);have A0:=A5 j _ (zr A2);obtain⟨x,hx⟩:=zx (ids.getD j 0);have A6:x∈ids:=hx▸zdn A2;have F3:=zh (C7 x A6)
     have F4:Hid (ids.take (j+1)=ids.take j++[x]):=by
      unfold Hid;rw[List.take_add_one,hx,zg,ze A2];rfl
     rw[<-hx] at A0;obtain⟨l,B1,A8⟩:=hM.out;have B9:=zh B1;have C0:=zh A8;have q1:=(HW.row.keep hU.out D7).cell (i:=1) rfl;clear A5 hx A6 D8 B1 A8 hM k1 A3;go_wp2_with (at_delete;refine zj6 B9 F3 rfl _ _ 123 rfl 152 underlying123 rfl rfl ?_);intro w6 l6 B2 D9 E0
     have F5:=zh (show ∃l,qi w6 I.mp l/\∀y,zw l y=if y∈ids.take (j+1) then none else zw (kvT F T) y from⟨l6,B2,λy=>by
      rw[D9,C0.out,F4.out];by_cases h1:y=x
      ·simp[h1]
      ·simp[h1]⟩)
     have F6:=zh (hU.out.trans E0);clear B2 D9 E0;go_wp2;go_roundw
     case rel=>exact⟨j+1,by omega,by go_num,F5.out,F6.out⟩
     case measure=>simp[intOf];omega
    ·obtain rfl:j=ids.length:=by omega
     obtain⟨l,B1,A8⟩:=hM.out;rw[List.take_length] at A8;have B9:=zh B1;have C0:=zh A8;have A4:=HW.row.keep hU.out D7
     have C1:∀k∈I.E.all,k∉[I.mp]:=λk hk hm=>by
      have h1:=HH.out.ne;simp only[qy.all,List.nodup_cons,List.mem_cons,not_or] at h1;simp at hm;subst hm;exact h1.2.1 hk
     have F7:=zh (HW.sp.keep hU.out C1)
     have E1:∀y∈xs,zni y:=λy hy=>by
      rw[B4.out] at hy;obtain⟨x,hx,rfl⟩:=List.mem_map.1 hy;obtain⟨o,ho⟩:=Option.isSome_iff_exists.1 (HI x hx);rw[zll ho];obtain⟨h1,h2,h3⟩:=xt HH ho;have h4:=HH.sp.fit _ (zn3 (F:=F) h2);have h5:=HH.out.sp.small;have h6:=h1.enc_len;have h7:rN (F x.toNat,o.enc)=obN o:=rfl;rw[h7] at h4;simp only at h4;exact⟨zc4 (by simp only;omega) (by simp only;omega),zc4 (by simp only;omega) (by simp only;omega),zc4 (by simp only;omega) (by simp only;omega)⟩
     have E2:=C6.out;have HF:=zh (z59 F7.out la ids.length lc xs E2.symm (by omega) F1.out (zow F2.out hU.out (λy hy hm=>by simp at hm;have h1:=D6 y hy;have h2:=C8.out I.mp (by simp[qy.all]);omega)) E1 (λy hy hm=>by have h1:=D6.out y hy;have h2:=C8.out y.block (by simp[qy.all,hm]);omega));have q0:=A4.cell (i:=0) rfl;have C2:=zh A4;have G3:=zh C1;clear E1 E2 B1 A8 hM k1 A3 A4 C1;go_wp2_with fail;go_call HF as e w7 ⟨E3,B3⟩;have C3:=zh E3;have A1:=zt1 HH.rise HH.sp.apart HI HN;rw[<-B4.out] at A1;rcases B3 with⟨F8,-⟩|⟨-,rfl,E4⟩
     ·exact absurd A1 F8
     have F9:=zh E4;clear E3 A1 E4 HF;go_wp2;go_ret;have A7:=HH.out.ne;simp only[qy.all,List.nodup_cons,List.mem_cons,not_or] at A7;have E5:=F9.out;rw[B4.out] at E5;refine⟨rfl,HH.drop HI (C2.keep C3 A7.1.2) (B9.keep C3 A7.2.1) C0 E5,?_⟩;have u1:Upd (I.mp::I.E.all) w _:=Upd.of_below hB.out;exact(u1.trans (hU.out.mono (λk hk=>by simp at hk;simp[hk]))).trans (C3.out.mono (λk hk=>by simp[hk]))
end
end Go.Proofs.YtoeibiahbenpcaaGreatDoor
