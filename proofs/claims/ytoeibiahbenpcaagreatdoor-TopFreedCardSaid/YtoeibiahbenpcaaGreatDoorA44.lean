/- Part. -/
import Derived.Test.YtoeibiahbenpcaaGreatDoorA43
namespace Go.Proofs.YtoeibiahbenpcaaGreatDoor
open RowKit Maps Proofs.Tryz
set_option linter.unusedVariables false
set_option maxRecDepth 99999
set_option maxHeartbeats 9000000
structure LUx(J:LmI)(L:List Nat)(w w':World):Prop where
 os:w'.os=w.os
 tape:w'.tape=w.tape
 output:w'.output=w.output
 size:w.heap.size<=w'.heap.size
 block:∀k,k<w.heap.size->k∉J.fix->k∉L->(k<J.B\/∀cs t r,w.heap[k]?=some (.cells cs t r)->¬zid t)->w'.heap[k]?=w.heap[k]?
section
variable{J:LmI}{L:List Nat}{a b c w w':World}
theorem LUx.of(h:LU J a b):LUx J L a b:=⟨h.os,h.tape,h.output,h.size,λk hk hf _ ht=>h.block k hk hf ht⟩
theorem LUx.refl(J:LmI)(L:List Nat)(w:World):LUx J L w w:=.of (.refl J w)
theorem LUx.trans(h:LUx J L a b)(k:LUx J L b c):LUx J L a c :=
 ⟨k.os.trans h.os,k.tape.trans h.tape,k.output.trans h.output,Nat.le_trans h.size k.size,λi hi hf hl ht=>by
  have e:=h.block i hi hf hl ht
  exact(k.block i (Nat.lt_of_lt_of_le hi h.size) hf hl (by rw[e];exact ht)).trans e⟩
theorem LUx.upd(h:LUx J L a b){m:List Nat}(k:Upd m b c)(hm:∀x∈m,x∈L\/a.heap.size<=x):LUx J L a c :=
 ⟨k.os.trans h.os,k.tape.trans h.tape,k.output.trans h.output,Nat.le_trans h.size k.size,λi hi hf hl ht=>by
  refine(k.block i (Nat.lt_of_lt_of_le hi h.size) (λhx=>?_)).trans (h.block i hi hf hl ht);rcases hm i hx with h1|h1
  ·exact hl h1
  ·omega⟩
theorem LUx.below(h:LUx J L a b)(k:Below b.heap.size b c):LUx J L a c:=h.upd (m:=[]) (.of_below k) (by simp)
theorem LUx.row(u:LUx J L w w'){g:Nat}{t:TypeId}{xs:List Value}(h:Row w g t xs)(hg:g∉J.fix)(hl:g∉L)(ht:¬zid t):Row w' g t xs :=
 (u.block g h.lt hg hl (.inr (λcs t' r h'=>by rw[show w.heap[g]?=_ from h] at h';cases h';exact ht))).trans h
theorem LUx.after{w0:World}(h:LU J w0 w)(u:LUx J L w w')(hL:∀k∈L,w0.heap.size<=k):LU J w0 w' :=
 ⟨u.os.trans h.os,u.tape.trans h.tape,u.output.trans h.output,Nat.le_trans h.size u.size,λi hi hf ht=>by
  have e:=h.block i hi hf ht
  exact(u.block i (Nat.lt_of_lt_of_le hi h.size) hf (λhm=>by have:=hL i hm;omega) (by rw[e];exact ht)).trans e⟩
theorem LUx.imap(u:LUx J L w w'){m:Nat}{l:List KV}(h:qi w m l)(hf:m∉J.fix)(hl:m∉L):qi w' m l:=by
 obtain⟨es,clock,hb,-⟩:=h.own;have hs:w'.heap[m]?=w.heap[m]?:=u.block m h.lt hf hl (.inr (λcs t r h'=>by rw[hb] at h';cases h'))
 have u2:Upd ((List.range w.heap.size).filter (λk=>decide (k≠m))) w w':=⟨u.os,u.tape,u.output,u.size,λk hk hn=>by
  by_cases e:k=m
  ·subst e;exact hs
  ·exact absurd (List.mem_filter.2 ⟨List.mem_range.2 hk,by simpa using e⟩) hn⟩
 exact h.keep u2 (by simp)
theorem LU.imap(u:LU J w w'){m:Nat}{l:List KV}(h:qi w m l)(hf:m∉J.fix):qi w' m l:=(LUx.of (L:=[]) u).imap h hf (by simp)
end
theorem vi{w:World}{m:Nat}{l:List KV}(h:qi w m l){B n z:Nat}{e:TypeId}{v:Value}{xs:List Value}(ho:w.ownsRow B e z v n xs):v.ownBlock≠some m:=λhv=>by
 obtain⟨es,clock,hb,-⟩:=h.own;obtain⟨ys,hr⟩:=(Zg ho m hv).2;rw[Row,hb] at hr;cases hr
section
variable{w w':World}{J:LmI}{K NW N:Nat}{S:Lm}{A:Nat->Option Ob}{ex:List Int}{pe bl:Nat->Prop}{T X:Tb}{made U:Nat}{F:Nat->Nat}{busy:Nat}
theorem Zh.lenX(hX:qm X)(H:Zh w J K NW N S (zt X) ex pe bl T made U F busy):X.length<=made:=by
 have h1:(X.map (·.1)).Nodup:=by
  rw[List.nodup_iff_pairwise_ne,List.pairwise_map];exact hX.imp (fun {a b} A0=>by omega)
 have h2:=Z4 (l:=X.map (·.1)) (m:=T.map (·.1)) h1 (λx hx=>by
  have h3:=vm.2 hx;rw[<-H.hasA] at h3
  exact vm.1 h3)
 simp at h2;have:=H.P.sec.len;omega
theorem Zh.refsX(hX:qm X)(H:Zh w J K NW N S (zt X) ex pe bl T made U F busy)(j:Int):(yg X j).length<=1001:=by
 rw[ya];cases ho:Go.Proofs.YtoeibiahbenpcaaGreatDoor.lookI X j with
 | none=>simp
 | some o =>
  unfold Go.Proofs.YtoeibiahbenpcaaGreatDoor.lookI at ho;split at ho
  ·have hg:=H.inv.good _ _ ho;have h3:=xq (o.cls::o.W);rcases hg.kinds with⟨_,_,h4,_⟩|⟨_,h4,_⟩
   ·simp at h3 ⊢;omega
   ·simp[h4] at h3 ⊢;omega
  ·cases ho
theorem Zh.ints{w0:World}(H:Zh w J K NW N S A ex pe bl T made U F busy)(hf:∀k∈J.fix,k<w0.heap.size)(hB:J.B<=w0.heap.size){v:Value}{n:Nat}{xs:List Value}(ho:w.ownsRow w0.heap.size 3 1 v n xs)(gr:w.grownBy w' v.ownBlock):Zh w' J K NW N S A ex pe bl T made U F busy:=by
 cases hv:v.ownBlock with
 | none=>rw[hv] at gr;exact H.newer hf hB (zd5 gr (l:=[])) (by simp)
 | some k =>
  rw[hv] at gr;obtain⟨ys,hr⟩:=(Zg ho k hv).2;refine H.newer hf hB (za7 gr) (λx hx=>?_);simp at hx;subst hx;exact⟨(ho.lt x hv).1,λcs t r he=>by rw[show w.heap[x]?=_ from hr] at he;cases he;decide⟩
end
theorem zf0{w w':World}{v:Value}(gr:w.grownBy w' v.ownBlock):Upd v.ownBlock.toList w w':=by
 cases hv:v.ownBlock with
 | none=>rw[hv] at gr;exact zd5 gr
 | some k=>rw[hv] at gr;exact za7 gr
structure NrI(w0 w1 wr:World)(J:LmI)(K NW N:Nat)(X:Tb)(made U:Nat)(F:Nat->Nat)(mb:Nat)(L:List Nat)(td out:Value)(ids:List Int)(lk:List KV)(t os:List Int):Prop where
 map:qi wr mb lk
 todo:wr.ownsRow w0.heap.size 3 1 td t.length (t.map (Value.int .i64))
 outs:wr.ownsRow w1.heap.size 3 1 out os.length (os.map (Value.int .i64))
 perm:os.Perm (Z1 lk)
 near:zcy X ids lk (t.map Zz)
 lm:∃S T,Zh wr J K NW N S (zt X) [] (λ_=>False) (λ_=>False) T made U F 0
 fr:LUx J L w1 wr
 i64:I64 t
 apart:∀k,td.ownBlock=some k->out.ownBlock≠some k
 tdl:∀k,td.ownBlock=some k->k∈L\/w1.heap.size<=k
structure Nr2(w0 w1 wr:World)(J:LmI)(K NW N:Nat)(X:Tb)(made U:Nat)(F:Nat->Nat)(mb B:Nat)(L:List Nat)(td out rf:Value)(lk:List KV)(t os R:List Int):Prop where
 map:qi wr mb lk
 todo:wr.ownsRow w0.heap.size 3 1 td t.length (t.map (Value.int .i64))
 outs:wr.ownsRow w1.heap.size 3 1 out os.length (os.map (Value.int .i64))
 refs:wr.ownsRow B 3 1 rf R.length (R.map (Value.int .i64))
 lm:∃S T,Zh wr J K NW N S (zt X) [] (λ_=>False) (λ_=>False) T made U F 0
 fr:LUx J L w1 wr
 apart:∀k,td.ownBlock=some k->out.ownBlock≠some k/\rf.ownBlock≠some k
 tdl:∀k,td.ownBlock=some k->k∈L\/w1.heap.size<=k
theorem Nr2.step{w0 w1 wr w4:World}{J:LmI}{K NW N:Nat}{X:Tb}{made U:Nat}{F:Nat->Nat}{mb B:Nat}{L:List Nat}{td out rf v4:Value}{lk:List KV}{t os R:List Int}(h:Nr2 w0 w1 wr J K NW N X made U F mb B L td out rf lk t os R)(hf:∀k∈J.fix,k<w0.heap.size)(hB:J.B<=w0.heap.size)(A2:w0.heap.size<=w1.heap.size){x:Int}{o:Obj}
 (own:w4.ownsRow w0.heap.size 3 1 v4 (t.length+1) (t.map (Value.int .i64)++[.int .i64 x])) (gr:(wr.alloc o).grownBy w4 td.ownBlock) (nw:∀k,v4.ownBlock=some k->td.ownBlock=some k\/(wr.alloc o).heap.size<=k):Nr2 w0 w1 w4 J K NW N X made U F mb B L v4 out rf lk (t++[x]) os R:=by
 have hb:Below wr.heap.size wr (wr.alloc o):=zn (Below.refl _ _);have hu:Upd td.ownBlock.toList wr w4:=(Upd.of_below hb).trans (zf0 gr);have A0:∀k,out.ownBlock=some k->k<wr.heap.size:=λk hk=>(h.outs.lt k hk).2
 have A1:∀k,rf.ownBlock=some k->k<wr.heap.size:=λk hk=>(h.refs.lt k hk).2
 obtain⟨S,T,hl⟩:=h.lm;refine⟨h.map.keep hu (λhm=>vi h.map h.todo (by simpa using hm)),?_,hu.owns h.outs (λk hk hm=>(h.apart k (by simpa using hm)).1 hk),hu.owns h.refs (λk hk hm=>(h.apart k (by simpa using hm)).2 hk),⟨S,T,(hl.below hb).ints hf hB ((Upd.of_below (l:=[]) hb).ownsAbove h.todo (by simp)) gr⟩,h.fr.upd hu (λk hk=>h.tdl k (by simpa using hk)),λk hk=>?_,λk hk=>?_⟩
 ·rw[List.length_append,List.length_singleton,List.map_append];exact own
 ·rcases nw k hk with h1|h1
  ·exact h.apart k h1
  ·have h2:=hb.size;exact⟨λh3=>by have:=A0 k h3;omega,λh3=>by have:=A1 k h3;omega⟩
 ·rcases nw k hk with h1|h1
  ·exact h.tdl k h1
  ·have h2:=hb.size;have h3:=h.fr.size;exact .inr (by omega)
theorem zxd{l l':List KV}{x:Int}{v:Value}(h:jh l)(h':jh l')(hx:zw l x=none)(hg:∀y,zw l' y=if y=x then some v else zw l y){os:List Int}(hp:os.Perm (Z1 l)):(os++[x]).Perm (Z1 l'):=by
 have A0:x∉Z1 l:=λhm=>by rw[jn h,hx] at hm;cases hm
 have h1:(x::Z1 l).Perm (Z1 l'):=by
  refine(List.perm_ext_iff_of_nodup (List.nodup_cons.2 ⟨A0,xu h⟩) (xu h')).2 (λy=>?_);rw[jn h',hg,List.mem_cons,jn h];by_cases e:y=x
  ·simp[e]
  ·simp[e]
 exact(List.perm_append_comm.trans (hp.cons x)).trans h1
def zzq(w1:World)(J:LmI)(K NW N:Nat)(X:Tb)(made U:Nat)(F:Nat->Nat)(L:List Nat)(ids:List Int)(e:Ending)(w':World):Prop :=
 ∃(v:Value) (R:List Int),e=.returned v/\w'.ownsRow w1.heap.size 3 1 v R.length (R.map (Value.int .i64))/\R.Pairwise (λa b=>a<b)/\(∀i,i∈R↔Reach X ids i)/\(∃S T,Zh w' J K NW N S (zt X) [] (λ_=>False) (λ_=>False) T made U F 0)/\LUx J L w1 w'
theorem zoh{x:Int}{l:List Int}(h:x∈Zo l):Zz (za1 x)=x/\1<=x/\x<=1073741823:=by
 have hb:1<=x/\x<=1073741823:=by
  induction l with
  | nil=>cases h
  | cons a l ih =>
   rw[Zo] at h;rcases List.mem_append.1 h with h|h
   ·split at h
    ·next hn =>
     rw[List.mem_singleton] at h;subst h;have:=of_decide_eq_true hn;rw[kh (by omega)];omega
    ·cases h
   ·exact ih h
 rw[jm (by omega),kh (by omega)];omega
theorem z0n{l m:List Int}(h:∀x∈l,x∈Zo m):(l.map za1).map Zz=l:=by
 rw[List.map_map];conv=>rhs;rw[<-List.map_id l]
 exact List.map_congr_left (λx hx=>(zoh (h x hx)).1)
section
variable{w0 w:World}{J:LmI}{K NW N:Nat}{S:Lm}{T X:Tb}{made U:Nat}{F:Nat->Nat}
theorem z4t(hX:qm X)(H:Zh w J K NW N S (zt X) [] (λ_=>False) (λ_=>False) T made U F 0)(hm:made<=100000)(hf:∀k∈J.fix,k<w0.heap.size)(hB:J.B<=w0.heap.size)(h0:w0.heap.size<=w.heap.size)(a:Option Addr)(n c:Nat)(l:List Int)(hn:n=l.length)(R6:n<=1000)(hl:I64 l)
 (ho:w.ownsRow w0.heap.size 3 1 (.slice a n c) n (l.map (Value.int .i64))) :
 Calls prog 65 #[.iface 30 (.pointer (some ⟨J.m,0,none⟩)),.slice a n c] w (zzq w J K NW N X made U F (Value.slice a n c).ownBlock.toList (l.map Zz)):=by
 have O8:=@run_makeMap prog;obtain⟨L,hL⟩:=zx ((Value.slice a n c).ownBlock.toList);obtain⟨ids,A9⟩:=zx (l.map Zz);obtain⟨mb,I3⟩:=zx (w.heap.size);obtain⟨W1,G1⟩:=zx (w.alloc (.map #[] 0));have b1:Below w.heap.size w W1:=by rw[G1];exact zn (Below.refl _ _)
 have m1:qi W1 mb []:=by rw[G1,I3];exact qi.made w
 have I4:=H.fixlt;have K6:=H.lenX hX;have K7:∀i o,zt X i=some o->o.good:=H.inv.good;have K8:=H.refsX hX
 have K9:NrI w0 w W1 J K NW N X made U F mb L (.slice a n c) (.slice none 0 0) ids [] l []:=by
  refine⟨m1,?_,World.ownsRow_nil _ _ _ _,List.Perm.nil,?_,⟨S,T,H.below b1⟩,(LUx.refl J L w).below b1,hl,λk hk=>(by simp[Value.ownBlock]),λk hk=>.inl (by rw[hL,hk];simp)⟩
  ·rw[<-hn];exact(Upd.of_below (l:=[]) b1).ownsAbove ho (by simp)
  ·rw[A9];exact zcy.start X _ (λx hx=>by obtain⟨y,-,rfl⟩:=List.mem_map.1 hx;exact zcm y)
 have O9:ids.length=n:=by rw[A9,List.length_map];exact hn.symm
 have D4:X.length*1002+ids.length<=1003000000:=by omega
 have L0:mb∉J.fix:=λhm=>by have:=I4 _ hm;omega
 have L1:mb∉L:=λhm=>by
  rw[hL] at hm;have:=(ho.lt mb (by simpa using hm)).2;omega
 have L2:=zh K9;have P0:=zh G1;have L3:=zh I3;have L4:=zh I4;have D0:=zh hf;have G2:=zh hB;have D5:=zh h0;have I5:=zh hX;have L5:=zh K6;have P1:=zh K7;have L6:=zh K8;have I6:=zh D4;have L7:=zh (And.intro L0 L1);rw[<-hL,<-A9];clear hL A9 I3 G1 b1 m1 I4 K6 K7 K8 K9 O9 D4 L0 L1 H hf hB h0 hX ho hl hn;go_enter func65,ntmps65;go_wp2;rw[<-P0.out,<-L3.out];clear O8;go_loopw [1,6] (λtd out wr=>∃lk t os,Hid (NrI w0 w wr J K NW N X made U F mb L td out ids lk t os)) (λtd _ wr=>(X.length-mapN wr mb)*1002+zhw td)
 case atStart=>exact⟨[],l,[],L2⟩
 case round =>
  obtain⟨lk,t,os,HI⟩:=hrel;have B5:t.length<=1003000000:=by have:=HI.out.near.few;simp at this;have:=I6.out;omega
  have D6:os.length<=100000:=by
   have h1:=HI.out.perm.length_eq;have h2:=zbo I5 HI.map.srt (λi hi=>(HI.near.dfs.sub i hi).has);have h3:=L5.out;have h4:(Z1 lk).length=lk.length:=by simp[Z1]
   omega
  clear L2;rcases t.eq_nil_or_concat with rfl|⟨t,o,rfl⟩
  ·obtain⟨b0,c0,rfl,-⟩:=zk HI.todo;obtain⟨oa,oc,rfl,-⟩:=zk HI.outs;have L8:=zh (z1s HI.out.outs rfl (by omega));go_wp2_with fail;go_call L8 as e w2 ⟨rfl,own2,gr2⟩;have L9:=zf5 HI.map.srt HI.perm;rw[L9] at own2;have M0:os.length=(Z1 lk).length:=HI.out.perm.length_eq
   have hF:zzq w J K NW N X made U F L ids (.returned (.slice oa os.length oc)) w2:=by
    obtain⟨S2,T2,D1⟩:=HI.out.lm;refine⟨_,Z1 lk,rfl,by rw[<-M0];exact own2,zbv HI.out.map.srt,λi=>?_,⟨S2,T2,D1.ints D0.out G2.out (yn HI.out.outs D5.out) gr2⟩,HI.out.fr.upd (zf0 gr2) (λx hx=>.inr (HI.out.outs.lt x (by simpa using hx)).1)⟩;rw[jn HI.out.map.srt];have:=HI.out.near.dfs.done i;exact this
   have HF:=zh hF;clear own2 gr2 L9 M0 hF L8 HI;go_wp2;go_ret;exact HF
  ·rw[List.concat_eq_append] at HI B5;have D7:0<(t++[o]).length:=by simp
   obtain⟨b0,cp,rfl,rd,P2,-⟩:=zk HI.todo;obtain⟨g,rfl⟩:=yo HI.todo D7
   have D8:Hid (wr.ownsRow w0.heap.size 3 1 (.slice (some ⟨g,0,none⟩) t.length cp) t.length (t.map (Value.int .i64))):=by
    have h1:=HI.out.todo;rw[show(t++[o]).length=t.length+1 by simp,List.map_append] at h1;exact ownsRow_pop (by simp) h1
   have M1:wr.cell? ((⟨g,0,none⟩:Addr).add t.length)=some (.int .i64 o):=by
    rcases rd with⟨h,_⟩|⟨x,P3,hr⟩
    ·cases h
    ·cases P3
     exact hr _ _ (by simp)
   rw[qk] at M1;simp only[Nat.zero_add] at M1;have P4:t.length+1<=1003000000:=by simpa using B5
   have M2:Hid ((X.length-mapN wr mb)*1002+zhw (.slice (some ⟨g,0,none⟩) (t++[o]).length cp)=(X.length-lk.length)*1002+(t++[o]).length):=by
    rw[HI.out.map.mapN];rfl
   have M3:(t++[o]).length=t.length+1:=by simp
   rw[M3] at P2 M2 ⊢;have B4:=HI.out.i64 o (by simp);have R7:g<wr.heap.size:=(HI.todo.lt g rfl).2;have I7:=zh (λz=>jr o z B4.1 B4.2);have G3:Hid (zcy X ids lk (t.map Zz++[Zz o])):=by have:=HI.out.near;rw[List.map_append] at this;exact this
   have I8:Hid (I64 t):=λx hx=>HI.out.i64 x (by simp[hx])
   have R8:Hid (g∈L\/w.heap.size<=g):=HI.tdl g rfl;have G4:Hid (∀k,(Value.slice (some ⟨g,0,none⟩) t.length cp).ownBlock=some k->u6.ownBlock≠some k):=HI.out.apart;have I9:Hid (∀k,(Value.slice (some ⟨g,0,none⟩) t.length cp).ownBlock=some k->k∈L\/w.heap.size<=k):=HI.out.tdl;have G5:=zh (zcm o);obtain⟨S2,T2,D1⟩:=HI.out.lm;obtain⟨j,hj⟩:=zx (Zz o);rw[<-hj] at I7 G3 G5;clear rd D7 B5 M3;cases B6:qz (zt X) j with
   | none =>
    have D2:=zh (zx6 D1 o B4.1 B4.2 (by rw[<-hj];exact B6))
    have M4:zee X j=false:=by
     unfold qz at B6;unfold zee;by_cases h:0<=j
     ·rw[if_pos h] at B6;simp[B6]
     ·simp[h]
    have J0:=zh (G3.skip (.inl M4));clear D1 hj B6 M4 B4;go_wp2_with (go_at_call 34;refine(I7 _).mono ?_;rintro e w2 ⟨rfl,rfl⟩);go_call D2 as e w3 ⟨rfl,D3,A3⟩;have A0:Below w3.heap.size w3 (w3.alloc (.cells #[.int .i64 0,.int .i64 0,.slice none 0 0,.slice none 0 0] 28)):=zn (Below.refl _ _)
    have D9:Hid (NrI w0 w (w3.alloc (.cells #[.int .i64 0,.int .i64 0,.slice none 0 0,.slice none 0 0] 28)) J K NW N X made U F mb L (.slice (some ⟨g,0,none⟩) t.length cp) u6 ids lk t os):=by
     refine⟨(A3.imap HI.out.map L7.out.1).below A0,(Upd.of_below (l:=[]) A0).ownsAbove (A3.owns D8.out D0.out (by decide)) (by simp),(Upd.of_below (l:=[]) A0).ownsAbove (A3.owns HI.out.outs L4.out (by decide)) (by simp),HI.out.perm,J0.out,⟨S2,T2,D3.below A0⟩,(HI.out.fr.trans (.of A3)).below A0,I8.out,G4.out,I9.out⟩
    have J1:=HI.out.map.mapN;clear D3 A3 A0 D2 HI;go_wp2;refine⟨⟨lk,t,os,D9⟩,?_⟩;rw[D9.out.map.mapN,J1];simp only[zhw];omega
   | some ob =>
    obtain⟨i,hi,G6⟩:=vn B6;have D2:=zh (zg2 D1 o B4.1 B4.2 (by rw[<-hj];exact hi) G6);have M5:=P1 i ob G6;have J2:Go.Proofs.YtoeibiahbenpcaaGreatDoor.lookI X j=some ob:=by unfold Go.Proofs.YtoeibiahbenpcaaGreatDoor.lookI;rw[hi,if_pos (by omega),Int.toNat_natCast];exact G6
    have HJ:=zh (show zee X j=true by rw[yz,J2];rfl);have M6:=zh (show yg X j=Zo (ob.cls::ob.W) by rw[ya,J2]);have P5:=zh M5;clear D1 hj B6 B4 hi G6 M5 J2;go_wp2_with (go_at_call 34;refine(I7 _).mono ?_;rintro e w2 ⟨rfl,rfl⟩);go_call D2 as e w3 ⟨A3,d,rfl,B7,A5,B8,S3,T3,D3⟩;obtain⟨q,hq⟩:=zx (w3.heap.size);obtain⟨W4,B9⟩:=zx (w3.alloc (.cells #[.int .i64 d.cls,.int .i64 d.kind,.slice d.wa d.wn d.wc,.slice d.ba d.bn d.bc] 28));have A0:Below w3.heap.size w3 W4:=by rw[B9];exact zn (Below.refl _ _)
    have J3:Row W4 q 28 (kq d):=by rw[B9,hq];exact Row.made w3 _ _
    have A4:=(A3.imap HI.map L7.out.1).below A0;have B0:=(Upd.of_below (l:=[]) A0).ownsAbove (A3.owns D8.out D0.out (by decide)) (by simp);have B1:=(Upd.of_below (l:=[]) A0).ownsAbove (A3.owns HI.out.outs L4.out (by decide)) (by simp);have B2:=(HI.fr.trans (.of A3)).below A0;have G7:=D3.below A0;have J1:=HI.out.map.mapN;have M7:=zh B9;have HQ:=zh hq;rcases Bool.eq_false_or_eq_true (zw lk j).isSome with hs|hs
    ·have J4:=zh (show(zw lk j).getD (.bool false)=.bool true by
      obtain⟨u,hu⟩:=Option.isSome_iff_exists.1 hs;have:=HI.out.near.tr _ (qg hu);simp only at this
      rw[hu,this];rfl)
     have J0:=zh (G3.skip (.inr hs));have A1:=zh A4
     have D9:Hid (NrI w0 w W4 J K NW N X made U F mb L (.slice (some ⟨g,0,none⟩) t.length cp) u6 ids lk t os) :=
      ⟨A4,B0,B1,HI.out.perm,J0.out,⟨S3,T3,G7⟩,B2,I8.out,G4.out,I9.out⟩
     rw[B9] at A1;clear hs B7 A5 B8 D3 A3 A0 J3 A4 B0 B1 B2 G7 D2 HI B9 hq;go_wp2_with (at_lookup;refine ke A1 G5 rfl _ _ 103 rfl 4 underlying103 _ (zeroValue4 _) rfl rfl _ J4 ?_);rw[<-M7.out];refine⟨⟨lk,t,os,D9⟩,?_⟩;rw[D9.out.map.mapN,J1];simp only[zhw];omega
    ·have A2:zw lk j=none:=by simpa using hs
     have J4:=zh (show(zw lk j).getD (.bool false)=.bool false by rw[A2];rfl)
     have P6:=zh (show lk.length<=1000000 by
      have h1:=zbo I5 HI.map.srt (λi hi=>(HI.near.dfs.sub i hi).has);have h2:=L5.out
      omega)
     have M8:=zh (λl'=>G3.take (l':=l') I5 HJ A2 (L6 j));have P7:=zh (λl' h1 h2=>zxd (l':=l') (v:=.bool true) HI.map.srt h1 A2 h2 HI.perm);have A1:=zh A4;rw[B9] at A1;have M9:=zh J3;have C0:=zh B0;have C1:=zh B1;have E0:=zh B2;have N0:=zh G7;have R9:=zh A0;have G8:=zh A4;have G9:=zh (And.intro (B7.below A0) (A5.below A0));have J5:=zh B8;have N1:=zh A3.size;have E1:os.length<=100000:=D6;clear hs A2 B7 A5 B8 D3 A3 A0 J3 A4 B0 B1 B2 G7 D2 B9 hq
     go_wp2_with (first
      | (at_lookup;refine ke A1 G5 rfl _ _ 103 rfl 4 underlying103 _ (zeroValue4 _) rfl rfl _ J4 ?_)
      | (at_mapUpdate;refine jc A1 G5 P6 rfl _ _ _ 103 rfl 4 underlying103 rfl rfl (.bool true) rfl ?_))
     rw[<-M7.out];intro w5 l' I0 J6 B3;obtain⟨E2,E3⟩:=M8 l' I0.srt J6;have E4:w.heap.size<=mb:=by rw[L3.out];exact Nat.le_refl _
     have P8:mb<wr.heap.size:=HI.out.map.lt;have E5:=B3.owns C0.out (λk hk hm=>by simp at hm;subst hm;exact vi G8 C0 hk);have E6:=B3.owns C1.out (λk hk hm=>by simp at hm;subst hm;exact vi G8 C1 hk)
     have N2:=N0.newer D0 G2 B3 (λk hk=>by
      simp at hk;subst hk;refine⟨Nat.le_trans D5 E4,λcs t r he=>?_⟩;obtain⟨es,clock,hb,-⟩:=G8.out.own
      rw[hb] at he;cases he)
     have C2:=E0.out.upd B3 (λk hk=>by simp at hk;subst hk;exact .inr E4);have P9:q≠mb:=by have:=HQ.out;have:=N1.out;omega
     have N3:=M9.out.keep B3 (by simp;exact P9);have E7:=G9.out.1.keep G9.out.2 B3 (λk hk=>by simp at hk;omega);have E8:=G9.out.2.keep B3 (λk hk=>by simp at hk;omega);have C3:=zh E5;have A6:=zh E6;have N4:=zh N2;have E9:=zh C2;have N5:=zh N3;have C4:=zh (And.intro E7 E8);have J7:=zh I0;have Q0:=zh E2;have Q1:=zh E3;have Q2:=zh (P7 l' I0.srt J6);have Q3:w.heap.size<=w5.heap.size:=C2.size;have A7:∀u∈[Value.int .i64 j],u.oneCell'=true:=λu hu=>by simp at hu;subst hu;rfl
     have J8:=B3.size;have Q4:=zh J8;obtain⟨no,J9⟩:=zx (os.length);rw[<-J9] at A6 E1;have Q5:=zh J9;clear I0 J6 B3 E5 E6 N2 C2 N3 E7 E8 J9 M8 E2 E3 C0 C1 N0 E0 A1 G8 D6;go_wp2_with (at_builtin;refine zft rfl _ _ 25 rfl w.heap.size 3 (.int .i64 0) 1 8 underlying25 Zx rfl (by decide) _ no _ rfl (A6.out.alloc _) _ 1 1 [.int .i64 j] rfl rfl (zv.madeAt rfl) A7 (by unfold maxLen;omega) (by omega) (Nat.le_trans Q3 (by simp)) ?_);intro v6 w6 own6 gr6 nw6;have A8:Below w5.heap.size w5 (w5.alloc (.cells #[.int .i64 j] 3)):=zn (Below.refl _ _);have C5:Upd u6.ownBlock.toList w5 w6:=(Upd.of_below A8).trans (zf0 gr6)
     have I1:∀k∈u6.ownBlock.toList,k<wr.heap.size/\w.heap.size<=k:=λk hk=>by
      have:=HI.out.outs.lt k (by simpa using hk);exact⟨this.2,this.1⟩
     obtain⟨vr,F0⟩:∃vr:List Int,vr=yg X j:=⟨_,rfl⟩
     have F1:w6.ownsRow w.heap.size 3 1 v6 (os++[j]).length ((os++[j]).map (Value.int .i64)):=by
      rw[List.length_append,List.length_singleton,<-Q5.out,List.map_append];exact own6
     have F2:=(N4.out.below A8).ints D0.out G2.out (yn ((Upd.of_below (l:=[]) A8).ownsAbove A6.out (by simp)) D5.out) gr6;have N6:=J7.out.keep C5 (λhm=>vi J7.out A6.out (by simpa using hm));have F3:=C5.owns C3.out (λk hk hm=>G4.out k hk (by simpa using hm));have F4:=E9.upd C5 (λk hk=>.inr (I1 k hk).2);have Q6:wr.heap.size<=q:=by have:=HQ.out;have:=N1.out;omega
     have C6:=N5.out.keep C5 (λhm=>by have:=(I1 q hm).1;omega);have K0:=C4.out.1.keep C4.out.2 C5 (λk hk=>(I1 k hk).1);have Q7:=C5.size
     have F5:∀k,(Value.slice (some ⟨g,0,none⟩) t.length cp).ownBlock=some k->v6.ownBlock≠some k:=λk hk he=>by
      rcases nw6 k he with h1|h1
      ·exact G4 k hk h1
      ·have h2:=(C3.lt k hk).2;have h3:=A8.size;omega
     have N7:d.wn<=1000000:=by
      have h1:=K0.wl;rw[J5.out.W] at h1;rcases P5.out.kinds with⟨_,_,h3,_⟩|⟨_,h3,_⟩
      ·omega
      ·simp[h3] at h1;omega
     have I2:=zh (zjp d w6 K0 N7);rw[show Zo (d.cls::d.W)=vr by rw[F0,M6.out,J5.out.cls,J5.out.W]] at I2;unfold Za.val at I2;have S0:vr.length<=1001:=by rw[F0];exact L6 j
     have C7:Hid (∀x∈vr,x∈Zo (ob.cls::ob.W)):=λx hx=>by rw[F0,M6.out] at hx;exact hx
     have N8:=zh F0;unfold kq at C6;have c0:=C6.cell (i:=0) rfl;have c1:=C6.cell (i:=1) rfl;have c2:=C6.cell (i:=2) rfl;have c3:=C6.cell (i:=3) rfl;have cl:=C6.lt;rw[HQ.out] at c0 c1 c2 c3 cl;have F6:=zh F1;have F7:=zh F2;have N9:=zh N6;have C8:=zh F3;have F8:=zh F4;have K1:=zh F5;clear own6 gr6 nw6 A8 C5 I1 F0 F1 F2 N6 F3 F4 Q6 C6 K0 Q7 F5 N7 A6 N4 J7 C3 E9 N5 C4 G9 M9 A7;go_wp2_with fail;go_call I2 as e w7 ⟨v7,rfl,own7,C9⟩;obtain⟨ra,rc,rfl,-,-,Q8⟩:=zk own7
     have O0:Nr2 w0 w w7 J K NW N X made U F mb w6.heap.size L (.slice (some ⟨g,0,none⟩) t.length cp) v6 (.slice ra vr.length rc) l' t (os++[j]) vr:=by
      refine⟨N9.out.below C9,(Upd.of_below (l:=[]) C9).ownsAbove C8.out (by simp),(Upd.of_below (l:=[]) C9).ownsAbove F6.out (by simp),own7,⟨_,_,F7.out.below C9⟩,F8.out.below C9,λk hk=>⟨K1.out k hk,λhe=>?_⟩,I9.out⟩;have h1:=(own7.lt k he).1;have h2:=(C8.lt k hk).2;omega
     have O1:=zh O0;have Q9:=C9.size;clear own7 C9 Q8 O0 I2 F7 N9 C8 F8 F6 c0 c1 c2 c3 cl;go_wp2;go_loopw [1,56] (λtd i wq=>∃p:Nat,p<=vr.length/\i=.int .i64 p/\Hid (Nr2 w0 w wq J K NW N X made U F mb w6.heap.size L td v6 (.slice ra vr.length rc) l' (t++(vr.take p).map za1) (os++[j]) vr)) (λ_ i _=>vr.length-(intOf i).toNat)
     case atStart=>exact⟨0,Nat.zero_le _,rfl,by unfold Hid;simpa using O1.out⟩
     case round =>
      obtain⟨p,hp,rfl,HN⟩:=hrel;clear O1;by_cases F9:p<vr.length
      ·obtain⟨_,_,hv,rd,-,-⟩:=zk HN.refs;cases hv
       obtain⟨b,off,rfl,R0,O2⟩:=rd.at (by simp;omega);obtain⟨x,hx⟩:=zx (vr.getD p 0);have O3:=O2 p (.int .i64 x) (by rw[hx];exact zr F9);have R1:x∈Zo (ob.cls::ob.W):=C7.out x (by rw[hx,zg,ze F9];exact List.getElem_mem _);have O4:=zh (λz=>zhi x z);obtain⟨y,hy⟩:=zx (za1 x);rw[<-hy] at O4
       have O5:t++(vr.take (p+1)).map za1=t++(vr.take p).map za1++[y]:=by
        have h1:vr.take (p+1)=vr.take p++[x]:=by
         rw[List.take_add_one,ze F9,hx,zg,ze F9];rfl
        rw[h1,List.map_append,hy,List.append_assoc];rfl
       have O6:=zh O5;have A7:∀u∈[Value.int .i64 y],u.oneCell'=true:=λu hu=>by simp at hu;subst hu;rfl
       obtain⟨tl,K2⟩:=zx (t++(vr.take p).map za1);rw[<-K2] at HN O6;have K3:tl.length<=1003010000:=by rw[K2,List.length_append,List.length_map,List.length_take];omega
       obtain⟨nt,K4⟩:=zx (tl.length);have K5:=zh HN.todo;rw[<-K4] at K5 K3;have R2:=zh K4;have hbs:w0.heap.size<=wr.heap.size:=Nat.le_trans D5 HN.fr.size;have R3:(p:Int)<(vr.length:Int):=by omega
       clear rd O2 hx R1 hy O5 K2 K4 HI
       go_wp2_with (first
        | (go_at_call 66;refine(O4 _).mono ?_;rintro e w8 ⟨rfl,rfl⟩)
        | (at_builtin;refine zft rfl _ _ 25 rfl w0.heap.size 3 (.int .i64 0) 1 8 underlying25 Zx rfl (by decide) _ nt _ rfl (K5.out.alloc _) _ 1 1 [.int .i64 y] rfl rfl (zv.madeAt rfl) A7 (by unfold maxLen;omega) (by omega) (Nat.le_trans hbs (by simp)) ?_))
       intro v9 w9 own9 gr9 nw9;rw[R2.out] at own9;have R4:=zh (HN.out.step D0.out G2.out D5.out own9 gr9 (λk hk=>by simpa using nw9 k hk));clear own9 gr9 nw9 HN K5 A7;go_wp2;go_roundw
       case rel=>exact⟨p+1,by omega,by go_num,by unfold Hid;rw[O6.out];exact R4⟩
       case measure=>simp[intOf];omega
      ·obtain rfl:p=vr.length:=by omega
       have hN:=HN.out;rw[List.take_length] at hN;have G0:(t++vr.map za1).map Zz=t.map Zz++yg X j:=by rw[List.map_append,z0n C7.out,<-N8.out]
       have HF:Hid (NrI w0 w wr J K NW N X made U F mb L u1 v6 ids l' (t++vr.map za1) (os++[j])):=by
        refine⟨hN.map,hN.todo,hN.outs,Q2.out,by rw[G0];exact Q0,hN.lm,hN.fr,λx hx=>?_,λk hk=>(hN.apart k hk).1,hN.tdl⟩;rcases List.mem_append.1 hx with h1|h1
        ·exact I8 x h1
        ·obtain⟨z,hz,rfl⟩:=List.mem_map.1 h1;have:=zoh (C7.out z hz);rw[jm (by omega)];constructor<;>omega
       have O7:zhw u1=(t++vr.map za1).length:=by
        obtain⟨_,_,rfl,-⟩:=zk hN.todo;rfl
       have R5:=zh O7;clear hN G0 O7 HN F9;go_wp2;refine⟨⟨l',_,_,HF⟩,?_⟩;have h2:=Q1.out;have h3:=M2.out;have h4:vr.length=(yg X j).length:=by rw[<-N8.out]
       rw[HF.out.map.mapN,R5.out,h3];simp only[List.length_append,List.length_map,List.length_singleton] at h2 ⊢;omega
end
def z5q(l:List KV):Prop:=∀p∈l,∃x:Int,p.2=.int .i64 x/\-9223372036854775808<=x/\x<=9223372036854775807
theorem z5q.put{l l':List KV}{x y:Int}(h:z5q l)(hr:jh l')(hg:∀z,zw l' z=if z=x then some (.int .i64 y) else zw l z)(hy:-9223372036854775808<=y/\y<=9223372036854775807):z5q l':=λp hp=>by
 have h1:=gd hr (x:=p.1) (v:=p.2) hp;rw[hg] at h1;split at h1
 ·exact⟨y,(Option.some.inj h1).symm,hy⟩
 ·exact h _ (qg h1)
theorem zg1{w:World}{mp cb:Nat}{lk:List KV}(HM:qi w mp lk)(hi:z5q lk)(hc:w.cell? ⟨cb,0,none⟩=some (.map (some mp)))(hl:cb<w.heap.size)(o:Int)(b0:-9223372036854775808<=o)(b1:o<=9223372036854775807) :
 Calls prog 67 #[.int .i64 o,.pointer (some ⟨cb,0,none⟩)] w λe w'=>∃x:Int,e=.returned (.int .i64 x)/\(-9223372036854775808<=x/\x<=9223372036854775807)/\w=w':=by
 have A0:=zh (zb3 o w b0 b1);have A1:=zh HM;have HI:=zh hi;have A2:=zh (za6 b0 b1);obtain⟨nb,A3⟩:=zx (zdg o);obtain⟨nv,A4⟩:=zx (ziw o);rw[<-A3,<-A4] at A0;clear HM hi A3 A4;cases nb with
 | true =>
  go_enter func67,ntmps67;go_wp2_with (go_at_call 68;go_call A0 as e w2 ⟨rfl,rfl⟩);go_ret;exact⟨o,rfl,⟨b0,b1⟩,rfl⟩
 | false =>
  cases hg:zw lk o with
  | none =>
   have HV:=zh (show(zw lk o).getD (.int .i64 0)=.int .i64 0 by rw[hg];rfl);have HC:=zh (show(zw lk o).isSome=false by rw[hg];rfl);clear hg;go_enter func67,ntmps67
   go_wp2_with (first
    | (go_at_call 68;go_call A0 as e w2 ⟨rfl,rfl⟩)
    | (at_lookup;refine qd A1 A2 rfl _ _ 118 rfl 3 underlying118 _ (zeroValue3 _) rfl rfl _ HV _ HC ?_))
   go_ret;exact⟨2,rfl,by decide,rfl⟩
  | some v =>
   obtain⟨x,hx,hb⟩:=HI _ (qg hg);simp only at hx;subst hx;have HV:=zh (show(zw lk o).getD (.int .i64 0)=.int .i64 x by rw[hg];rfl);have HC:=zh (show(zw lk o).isSome=true by rw[hg];rfl);clear hg;go_enter func67,ntmps67
   go_wp2_with (first
    | (go_at_call 68;go_call A0 as e w2 ⟨rfl,rfl⟩)
    | (at_lookup;refine qd A1 A2 rfl _ _ 118 rfl 3 underlying118 _ (zeroValue3 _) rfl rfl _ HV _ HC ?_))
   go_ret;exact⟨x,rfl,hb,rfl⟩
def zwa(w:World)(B:Nat)(ds:List Za):Prop:=∀d∈ds,d.ok w/\xn B w d
def dBl(d:Za):List Nat:=(Value.slice d.wa d.wn d.wc).ownBlock.toList++(Value.slice d.ba d.bn d.bc).ownBlock.toList
theorem z6c{d:Za}{x:Addr}(h:d.wa=some x):x.block∈dBl d:=by unfold dBl;rw[h];simp[Value.ownBlock]
theorem z6d{d:Za}{x:Addr}(h:d.ba=some x):x.block∈dBl d:=by unfold dBl;rw[h];simp[Value.ownBlock]
theorem zcl{w w':World}{B:Nat}{d:Za}(h:d.ok w)(ho:xn B w d){l:List Nat}(u:Upd l w w')(hl:∀k∈dBl d,k∉l):d.ok w'/\xn B w' d :=
 ⟨⟨h.c0,h.k0,h.wl,h.wm,u.reads h.wr (λx hx=>hl _ (z6c hx)),h.wi,h.bl,h.bm,u.reads h.br (λx hx=>hl _ (z6d hx)),h.bb⟩,
  ⟨u.owns ho.1 (λk hk=>hl k (by unfold dBl;rw[hk];simp)),u.owns ho.2 (λk hk=>hl k (by unfold dBl;rw[hk];simp))⟩⟩
theorem zzg{w:World}{B:Nat}{d:Za}(ho:xn B w d):∀k∈dBl d,B<=k/\k<w.heap.size:=zsy ho
theorem z0e{w w':World}{B:Nat}{d:Za}{J:LmI}{L:List Nat}(h:d.ok w)(ho:xn B w d)(u:LUx J L w w')(hf:∀k∈J.fix,k<B)(hl:∀k∈dBl d,k∉L):d.ok w'/\xn B w' d:=by
 have hs:∀k∈dBl d,w'.heap[k]?=w.heap[k]?:=λk hk=>by
  refine u.block k (zzg ho k hk).2 (λhm=>by have:=hf k hm;have:=(zzg ho k hk).1;omega) (hl k hk) (.inr (λcs t r he=>?_));unfold dBl at hk;simp only[List.mem_append,Option.mem_toList] at hk;rcases hk with hk|hk
  ·obtain⟨ys,hr⟩:=(Zg ho.1 k hk).2;rw[show w.heap[k]?=_ from hr] at he;cases he;decide
  ·obtain⟨ys,hr⟩:=(Zg ho.2 k hk).2;rw[show w.heap[k]?=_ from hr] at he;cases he;decide
 have u2:Upd ((List.range w.heap.size).filter (λk=>decide (k∉dBl d))) w w':=⟨u.os,u.tape,u.output,u.size,λk hk hn=>by
  by_cases e:k∈dBl d
  ·exact hs k e
  ·exact absurd (List.mem_filter.2 ⟨List.mem_range.2 hk,by simpa using e⟩) hn⟩
 exact zcl h ho u2 (λk hk hm=>by have:=(List.mem_filter.1 hm).2;simp at this;exact this hk)
theorem zwa.lux{w w':World}{B:Nat}{ds:List Za}{J:LmI}{L:List Nat}(h:zwa w B ds)(u:LUx J L w w')(hf:∀k∈J.fix,k<B)(hl:∀d∈ds,∀k∈dBl d,k∉L):zwa w' B ds:=λd hd=>z0e (h d hd).1 (h d hd).2 u hf (hl d hd)
theorem zwa.upd{w w':World}{B:Nat}{ds:List Za}{l:List Nat}(h:zwa w B ds)(u:Upd l w w')(hl:∀d∈ds,∀k∈dBl d,k∉l):zwa w' B ds:=λd hd=>zcl (h d hd).1 (h d hd).2 u (hl d hd)
theorem zwa.below{w w':World}{B:Nat}{ds:List Za}(h:zwa w B ds)(hb:Below w.heap.size w w'):zwa w' B ds:=h.upd (l:=[]) (.of_below hb) (λ_ _ _ _=>by simp)
theorem zua{w:World}{B:Nat}{d:Za}(ho:xn B w d){q:Nat}{t:TypeId}{xs:List Value}(hr:Row w q t xs)(ht:t≠3/\t≠5):q∉dBl d:=λhm=>by
 unfold dBl at hm;simp only[List.mem_append,Option.mem_toList] at hm;rcases hm with hk|hk
 ·obtain⟨ys,h2⟩:=(Zg ho.1 q hk).2;rw[Row,show w.heap[q]?=_ from hr] at h2;simp at h2;exact ht.1 h2.2
 ·obtain⟨ys,h2⟩:=(Zg ho.2 q hk).2;rw[Row,show w.heap[q]?=_ from hr] at h2;simp at h2;exact ht.2 h2.2
theorem jd{w:World}{B n z:Nat}{e t:TypeId}{v:Value}{xs ys:List Value}(ho:w.ownsRow B e z v n xs){q:Nat}(hr:Row w q t ys)(ht:t≠e):v.ownBlock≠some q:=λhk=>by
 obtain⟨zs,h2⟩:=(Zg ho q hk).2;rw[Row,show w.heap[q]?=_ from hr] at h2;simp at h2;exact ht h2.2
theorem Glb.lux{w w':World}(h:Glb w){J:LmI}{L:List Nat}(u:LUx J L w w')(hf:(∀k∈J.fix,2<=k)/\2<=J.B)(hL:∀k∈L,2<=k):Glb w':=by
 have hl:=h.lt;obtain⟨⟨t,f,h1⟩,t',f',h2⟩:=h;exact⟨⟨t,f,(u.block 0 (by omega) (λhm=>by have:=hf.1 0 hm;omega) (λhm=>by have:=hL 0 hm;omega) (.inl (by omega))).trans h1⟩,t',f',(u.block 1 (by omega) (λhm=>by have:=hf.1 1 hm;omega) (λhm=>by have:=hL 1 hm;omega) (.inl (by omega))).trans h2⟩
theorem z0u:(prog.info? 28).map (λi=>(i.zero,i.size,i.bytes))=some (some (.agg #[.int .i64 0,.int .i64 0,.slice none 0 0,.slice none 0 0]),4,64):=by kernel_rfl
theorem zlc:∀ {l:List Za} {j:Nat},j<l.length->∀i,i<4->(l.flatMap kq)[j*4+i]?=(kq (l.getD j Za.nothing))[i]?
 | [],j,h,i,_=>by simp at h
 | x::l,0,_,i,hi=>by
  rw[List.flatMap_cons,List.getElem?_append_left (by show _<4;omega)];simp
 | x::l,j+1,h,i,hi=>by
  rw[List.flatMap_cons,List.getElem?_append_right (by show 4<=_;omega)];have:=zlc (l:=l) (j:=j) (by simpa using h) i hi;rw[show(j+1)*4+i-(kq x).length=j*4+i by show(j+1)*4+i-4=_;omega,this];simp
theorem zs0{w:World}{B:Nat}{a:Option Addr}{n c:Nat}{ds:List Za}(ho:w.ownsRow B 28 4 (.slice a n c) n (ds.flatMap kq))(hn:n=ds.length){B2:Nat}(hd:zwa w B2 ds):yf w a n c ds:=by
 have A0:n<=c/\c<=maxLen:=by
  rcases ho.2 with⟨h1,h2⟩|⟨g,cap,cur,hv,-,-,h1,h2,-⟩
  ·cases h1;exact⟨by omega,by decide⟩
  ·cases hv;exact⟨h1,h2⟩
 refine⟨hn,A0,λi d hi=>?_,λd hm=>(hd d hm).1⟩;have A1:i<ds.length:=(List.getElem?_eq_some_iff.1 hi).1;obtain⟨g,c2,cur,hv,hb,hr,ht,h1,h2,hl⟩:=zhs ho (by omega);cases hv
 refine⟨g,0,rfl,hr.lt,λj v hv=>?_⟩
 have hj:j<4:=by
  have:=(List.getElem?_eq_some_iff.1 hv).1;exact this
 have A2:ds.getD i Za.nothing=d:=by rw[zg,hi];rfl
 have h3:=zlc A1 j hj;rw[A2,hv,<-ht,List.getElem?_take,if_pos (by omega)] at h3;rw[Nat.zero_add];exact hr.cell h3
end Go.Proofs.YtoeibiahbenpcaaGreatDoor
