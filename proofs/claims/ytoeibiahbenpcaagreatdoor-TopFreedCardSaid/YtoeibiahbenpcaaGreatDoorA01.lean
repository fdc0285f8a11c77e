/- Part. -/
import Derived.Test.YtoeibiahbenpcaaGreatDoorA00
import Derived.Laws.CopyOwn
import Derived.Deep.Slices
import Derived.Deep.Fields
import Derived.OpenShut
import Derived.Lib.SlBytesConst
namespace Go.Proofs.YtoeibiahbenpcaaGreatDoor
open RowKit Maps Proofs.Tryz
set_option linter.unusedVariables false
set_option maxRecDepth 99999
set_option maxHeartbeats 9000000
structure Upd(l:List Nat)(w w':World):Prop where
 os:w'.os=w.os
 tape:w'.tape=w.tape
 output:w'.output=w.output
 size:w.heap.size<=w'.heap.size
 block:∀k,k<w.heap.size->k∉l->w'.heap[k]?=w.heap[k]?
theorem Upd.refl(l:List Nat)(w:World):Upd l w w:=⟨rfl,rfl,rfl,Nat.le_refl _,λ_ _ _=>rfl⟩
theorem Upd.trans{l:List Nat}{a b c:World}(h:Upd l a b)(k:Upd l b c):Upd l a c :=
 ⟨k.os.trans h.os,k.tape.trans h.tape,k.output.trans h.output,Nat.le_trans h.size k.size,λi hi hn=>(k.block i (Nat.lt_of_lt_of_le hi h.size) hn).trans (h.block i hi hn)⟩
theorem Upd.mono{l m:List Nat}{a b:World}(h:Upd l a b)(hs:∀k∈l,k∈m):Upd m a b :=
 ⟨h.os,h.tape,h.output,h.size,λi hi hn=>h.block i hi (λhm=>hn (hs i hm))⟩
theorem Upd.of_below{l:List Nat}{a b:World}(h:Below a.heap.size a b):Upd l a b:=⟨h.os,h.tape,h.output,h.size,λi hi _=>h.block i hi⟩
theorem Upd.below{l:List Nat}{a b:World}{B:Nat}(h:Upd l a b)(hB:B<=a.heap.size)(hl:∀k∈l,B<=k):Below B a b :=
 ⟨h.os,h.tape,h.output,h.size,λi hi=>h.block i (by omega) (λhm=>by have:=hl i hm;omega)⟩
theorem Upd.alloc{l:List Nat}{a b:World}(h:Upd l a b)(o:Obj):Upd l a (b.alloc o):=h.trans (.of_below ((Below.refl _ _).alloc (Nat.le_refl _) o))
theorem Upd.drew{l:List Nat}{a b:World}(h:Upd l a b):Upd l a b.drew:=⟨h.os,h.tape,h.output,h.size,h.block⟩
theorem Upd.setCell{l:List Nat}{a b:World}(h:Upd l a b){p:Addr}(hp:p.block∈l)(u:Value):Upd l a (b.setCell p u) :=
 h.trans ⟨rfl,rfl,rfl,by simp[World.setCell],λk hk hn=>Below.heap_setCell _ _ _ _ (λe=>hn (e▸hp))⟩
theorem Upd.setRow{l:List Nat}{a b:World}(h:Upd l a b){g:Nat}(hg:g∈l)(cs:Array Value):Upd l a (b.setRow g cs) :=
 h.trans ⟨rfl,rfl,rfl,by simp,λk hk hn=>setRow_other b g k cs (λe=>hn (e▸hg))⟩
theorem Upd.heap{l:List Nat}{a b:World}(h:Upd l a b){k:Nat}{o:Obj}(hk:a.heap[k]?=some o)(hn:k∉l):b.heap[k]?=some o :=
 (h.block k (Array.getElem?_eq_some_iff.1 hk).1 hn).trans hk
theorem Upd.reads{l:List Nat}{w w':World}{a:Option Addr}{c:Nat}{xs:List Value}(h:Upd l w w')(hr:zv w a c xs)(ha:∀x,a=some x->x.block∉l):zv w' a c xs:=by
 by_cases hl:0<xs.length
 ·obtain⟨b,off,rfl,A0,hc⟩:=hr.at hl;refine .inr ⟨_,rfl,λi u hu=>?_⟩;rw[qk];exact(World.cell?_of_block (w:=w) (h.block b A0 (ha _ rfl))).trans (hc i u hu)
 ·have:xs=[]:=List.eq_nil_of_length_eq_zero (by omega);subst this;rcases hr with h|⟨x,rfl,_⟩
  ·exact .inl h
  ·exact .inr ⟨x,rfl,λi u hu=>by simp at hu⟩
def Row(w:World)(g:Nat)(t:TypeId)(xs:List Value):Prop:=w.heap[g]?=some (.cells xs.toArray t (0,0))
theorem zap{w w':World}{base:Nat}{e:TypeId}{size:Nat}{v:Value}{n:Nat}{xs:List Value}(h:w.ownsRow base e size v n xs)(hb:∀k,v.ownBlock=some k->w'.heap[k]?=w.heap[k]?):w'.ownsRow base e size v n xs:=by
 refine⟨h.1,?_⟩;rcases h.2 with h2|⟨g,cap,cur,rfl,A0,hg,rest⟩
 ·exact .inl h2
 ·exact .inr ⟨g,cap,cur,rfl,A0,(hb g rfl).trans hg,rest⟩
theorem Upd.owns{l:List Nat}{w w':World}{base:Nat}{e:TypeId}{size:Nat}{v:Value}{n:Nat}{xs:List Value}(u:Upd l w w')(h:w.ownsRow base e size v n xs)(hn:∀k,v.ownBlock=some k->k∉l):w'.ownsRow base e size v n xs :=
 zap h (λk hk=>u.block k (h.lt k hk).2 (hn k hk))
theorem Upd.ownsAbove{l:List Nat}{w w':World}{base:Nat}{e:TypeId}{size:Nat}{v:Value}{n:Nat}{xs:List Value}(u:Upd l w w')(h:w.ownsRow base e size v n xs)(hn:∀k∈l,k<base):w'.ownsRow base e size v n xs :=
 u.owns h (λk hk hm=>by have:=(h.lt k hk).1;have:=hn k hm;omega)
theorem Row.lt{w:World}{g:Nat}{t:TypeId}{xs:List Value}(h:Row w g t xs):g<w.heap.size:=(Array.getElem?_eq_some_iff.1 h).1
theorem Row.cell{w:World}{g:Nat}{t:TypeId}{xs:List Value}(h:Row w g t xs){i:Nat}{v:Value}(hv:xs[i]?=some v):w.cell? ⟨g,i,none⟩=some v:=by
 rw[cell_of_row _ _ _ xs.toArray t (0,0) h];simpa using hv
theorem Row.free{w:World}{g:Nat}{t:TypeId}{xs:List Value}(h:Row w g t xs)(i:Nat):w.frozen? ⟨g,i,none⟩=false:=by
 unfold Row at h;simp[World.frozen?,h]
theorem Row.made(w:World)(xs:List Value)(t:TypeId):Row (w.alloc (.cells xs.toArray t)) w.heap.size t xs:=heap_alloc_new w _
theorem Row.keep{w w':World}{g:Nat}{t:TypeId}{xs:List Value}(h:Row w g t xs){l:List Nat}(u:Upd l w w')(hn:g∉l):Row w' g t xs:=u.heap h hn
theorem Row.alloc{w:World}{g:Nat}{t:TypeId}{xs:List Value}(h:Row w g t xs)(o:Obj):Row (w.alloc o) g t xs:=h.keep (l:=[]) ((Upd.refl _ _).alloc o) (by simp)
theorem Row.drew{w:World}{g:Nat}{t:TypeId}{xs:List Value}(h:Row w g t xs):Row w.drew g t xs:=h
theorem Row.set{w:World}{g:Nat}{t:TypeId}{xs:List Value}(h:Row w g t xs)(i:Nat)(v:Value):Row (w.setCell ⟨g,i,none⟩ v) g t (xs.set i v):=by
 unfold Row at h ⊢;simp only[World.setCell,Array.getElem?_modify,h];simp
theorem Row.setOther{w:World}{g:Nat}{t:TypeId}{xs:List Value}(h:Row w g t xs){p:Addr}(hp:p.block≠g)(v:Value):Row (w.setCell p v) g t xs :=
 (Below.heap_setCell _ _ _ _ (Ne.symm hp)).trans h
theorem Row.setRow{w:World}{g:Nat}{t:TypeId}{xs:List Value}(h:Row w g t xs)(ys:List Value):Row (w.setRow g ys.toArray) g t ys:=setRow_heap w g xs.toArray ys.toArray t _ h
theorem Row.reads{w:World}{g:Nat}{t:TypeId}{xs ys:List Value}{off c:Nat}(h:Row w g t xs)(hy:∀i u,ys[i]?=some u->xs[off+i]?=some u):zv w (some ⟨g,off,none⟩) c ys:=by
 refine .inr ⟨_,rfl,λi u hu=>?_⟩;rw[qk];exact h.cell (hy i u hu)
theorem Row.owns{w:World}{g:Nat}{t:TypeId}{xs:List Value}(h:Row w g t xs){base n c:Nat}(hb:base<=g)(hc:c=xs.length)(hn:n<=c)(hm:c<=maxLen):w.ownsRow base t 1 (.slice (some ⟨g,0,none⟩) n c) n (xs.take n):=by
 subst hc;refine⟨by simp;omega,.inr ⟨g,xs.length,xs.toArray,rfl,hb,h,hn,hm,by simp,by simp⟩⟩
theorem zr{l:List Int}{i:Nat}(h:i<l.length){k:IntKind}:(l.map (Value.int k))[i]?=some (.int k (l.getD i 0)):=by
 simp[h]
theorem qe{α:Type}(L:List α)(off:Nat)(cs:List α)(h:off+cs.length<=L.length)(i:Nat) :
 (splice L off cs)[i]?=if i<off then L[i]? else if i<off+cs.length then cs[i-off]? else L[i]?:=by
 unfold splice;by_cases h1:i<off
 ·rw[if_pos h1,List.getElem?_append_left (by simp;omega),List.getElem?_take,if_pos h1]
 ·rw[if_neg h1,List.getElem?_append_right (by simp;omega),List.length_take,Nat.min_eq_left (by omega)];by_cases h2:i<off+cs.length
  ·rw[if_pos h2,List.getElem?_append_left (by omega)]
  ·rw[if_neg h2,List.getElem?_append_right (by omega),List.getElem?_drop];congr 1;omega
theorem zbm{α:Type}(L:List α)(off:Nat):splice L off []=L:=by simp[splice]
theorem cg{α β:Type}(f:α->β)(L:List α)(off:Nat)(cs:List α):splice (L.map f) off (cs.map f)=(splice L off cs).map f:=by
 simp[splice,List.map_take,List.map_drop]
theorem qo{P:Program}{w:World}{ops:Array Oper}{rest:List Oper}{o:Oper}{a:Act}{Q:Exit->Act->World->Prop}(hw:Region.wanted o (yielded ops a.tmps)=true)(l c:Operand)(t:TypeId)(ho:o.op=Op.makeSlice t l c)
 (e:TypeId) (z:Value) (bytes:Nat) (ht:P.underlying t=some (.slice e)) (A0:(P.info? e).map (λi=>(i.zero,i.size,i.bytes))=some (some z,1,bytes)) (hz:z.cells=#[z])
 (kl kc:IntKind) (L C:Int) (n:Nat) (hl:a.eval l=.int kl L) (hc:a.eval c=.int kc C) (hL:L = ↑n) (hC:C = ↑n) (hb:bytes*n<=281474976710656) (hm:n<=maxLen)
 (h:∀w',Row w' w.heap.size e (List.replicate n z)->Upd [] w w'->wpList P ops Q rest (a.put o.dst (.slice (some ⟨w.heap.size,0,none⟩) n n)) w'):wpList P ops Q (o::rest) a w:=by
 obtain⟨i,hi,A3,hs,A4⟩:=info_parts A0;refine BigFrame.wpList_want hw λK hK=>?_
 obtain⟨w',A1,own,gr⟩:=run_make_full (P:=P) w w.heap.size t e i z 1 ht hi A3 hs kl kc n (by rw[A4];exact hb) hm (Nat.le_refl _);subst hL;subst hC;unfold Oper.wp;simp[execOp,ho,hl,hc,A1,Result.andThen];refine hK _ _ (h w' ?_ ⟨gr.os,gr.tape,gr.output,gr.size,λk hk _=>gr.block k hk (by simp)⟩);rcases own.2 with⟨hv,_⟩|⟨g,cap,cur,hv,A6,hh,hn,A7,A5,A2⟩
 ·cases hv
 ·cases hv
  unfold Row;rw[hh];rw[hz,Nat.mul_one,toList_madeCells_one] at A2
  have:cur.toList=List.replicate n z:=by
   rw[<-A2,List.take_of_length_le (by simp[A5])]
  rw[<-this]
theorem xp{P:Program}{w:World}{ops:Array Oper}{rest:List Oper}{o:Oper}{a:Act}{Q:Exit->Act->World->Prop}(A2:o.guard=none)(d s:Operand)(dT sT:TypeId)
 (ho:o.op=.call { callee:=.builtin .copy,args:=#[d,s],argTypes:=#[dT,sT] }) (elem:TypeId) (hu:P.underlying dT=some (.slice elem)) (A3:(P.info? elem).map (·.size)=some 1)
 (dp sp:Option Addr) (dLen dCap sLen sCap:Nat) (hd:a.eval d=.slice dp dLen dCap) (hs:a.eval s=.slice sp sLen sCap)
 (g off:Nat) (cur:List Value) (t:TypeId) (hg:Row w g t cur) (ss:List Value) (hr:zv w sp sCap ss) (hl:ss.length=sLen)
 (A1:0<dLen->dp=some ⟨g,off,none⟩) (A5:off+dLen<=cur.length) (h1:∀v∈ss,v.oneCell'=true) (k:Nat) (hk:k=(ss.take dLen).length)
 (h:∀w',Row w' g t (splice cur off (ss.take dLen))->Upd [g] w w'->wpList P ops Q rest (a.put o.dst (.int .i64 k)) w') :
 wpList P ops Q (o::rest) a w:=by
 subst hk;have A0:(ss.take dLen).length=Nat.min sLen dLen:=by rw[List.length_take,hl,Nat.min_comm]
 by_cases h0:(ss.take dLen).length=0
 ·obtain A4:ss.take dLen=[]:=List.eq_nil_of_length_eq_zero h0;refine wpList_copy_nothing A2 d s dT sT ho elem hu A3 dp sp dLen dCap sLen sCap hd hs (by rw[<-A0];exact h0) ?_;have:=h w (by rw[A4,zbm];exact hg) (Upd.refl _ _);rwa[A4] at this
 ·have A6:0<dLen:=by
   rcases Nat.eq_zero_or_pos dLen with h|h
   ·subst h;simp at h0
   ·exact h
  have A7:0<ss.length:=by
   rcases Nat.eq_zero_or_pos ss.length with h|h
   ·rw[List.length_take,h] at h0;simp at h0
   ·exact h
  have A8:=A1 A6;subst A8;obtain⟨b,o2,rfl,_,hc⟩:=hr.at A7;have A9:(ss.take dLen).length<=dLen:=by simp;omega
  refine wpList_copy_own A2 d s dT sT ho elem hu A3 g off dLen dCap ⟨b,o2,none⟩ sLen sCap hd hs cur.toArray t hg (ss.take dLen) A0 (λj v hv=>?_) (by simp;omega) (λv hv=>h1 v (List.mem_of_mem_take hv)) ?_
  ·rw[qk];refine hc j v ?_;rw[List.getElem?_take] at hv;split at hv
   ·exact hv
   ·cases hv
  ·have e:(cur.toArray.toList.take off++(ss.take dLen++cur.toArray.toList.drop (off+(ss.take dLen).length))).toArray=(splice cur off (ss.take dLen)).toArray:=by simp[splice]
   rw[e];exact h _ (hg.setRow _) ((Upd.refl _ _).setRow (by simp) _)
theorem cf{P:Program}{w:World}{ops:Array Oper}{rest:List Oper}{o:Oper}{a:Act}{Q:Exit->Act->World->Prop}(A4:o.guard=none)(s:Operand)(sT:TypeId)
 (ho:o.op=.call { callee:=.builtin .clear,args:=#[s],argTypes:=#[sT] }) (elem:TypeId) (z:Value) (hu:P.underlying sT=some (.slice elem)) (hz:∀w,(zeroValue elem).run P w=.ok z w) (A5:z.cells=#[z]) (A6:z.oneCell'=true)
 (sp:Option Addr) (n c:Nat) (hs:a.eval s=.slice sp n c)
 (g off:Nat) (cur:List Value) (t:TypeId) (hg:Row w g t cur) (A0:0<n->sp=some ⟨g,off,none⟩) (A1:off+n<=cur.length)
 (h:∀w',Row w' g t (splice cur off (List.replicate n z))->Upd [g] w w'->wpList P ops Q rest (a.put o.dst (.tuple #[])) w') :
 wpList P ops Q (o::rest) a w:=by
 refine wpList_plain A4 λK hK=>?_
 have key:∃w',(Builtin.clear_ #[sT] o.type #[.slice sp n c]).run P w=.ok (.tuple #[]) w'/\Row w' g t (splice cur off (List.replicate n z))/\Upd [g] w w':=by
  by_cases h0:n=0
  ·subst h0;refine⟨w,?_,by rw[List.replicate_zero,zbm];exact hg,Upd.refl _ _⟩;cases sp<;>simp[Builtin.clear_,run_underlying hu]
  ·have A7:=A0 (by omega);subst A7;have A3:=run_storeCells_at P g off t (List.replicate n z) 0 cur.toArray w hg (by simpa using A1) (λv hv=>by rw[List.eq_of_mem_replicate hv];exact A6)
   have A8:(Builtin.zeroCells #[z] n).toList=List.replicate n z:=by
    have h1:=toList_madeCells_one z n;apply List.ext_getElem?;intro i;by_cases hi:i<n
    ·simp[Builtin.zeroCells,hi,Nat.mod_one]
    ·simp[Builtin.zeroCells,hi]
   refine⟨_,?_,hg.setRow _,(Upd.refl _ _).setRow (by simp) _⟩;have e:(cur.toArray.toList.take (off+0)++List.replicate n z++cur.toArray.toList.drop (off+0+(List.replicate n z).length)).toArray=(splice cur off (List.replicate n z)).toArray:=by simp[splice]
   rw[e] at A3;obtain⟨m,rfl⟩:∃m,n=m+1:=⟨n-1,by omega⟩;simp[Builtin.clear_,run_underlying hu,hz,A5,A8,A3]
 obtain⟨w',A2,h2,h3⟩:=key;unfold Oper.wp;simp[execOp,ho,resolve,invoke,builtin,hs,A2,Result.andThen];exact hK _ _ (h w' h2 h3)
section
open Go.RowKit Go.ChangeShapes Go.WideShapes Go.ChangeAt
theorem zs7{α:Type}{P:Nat->α->Prop}:∀ {n:Nat},(∀i,i<n->∃d,P i d)->∃l:List α,l.length=n/\∀i d,l[i]?=some d->P i d
 | 0,_=>⟨[],rfl,λi d h=>by simp at h⟩
 | n+1,h=>by
  obtain⟨l,hl,hp⟩:=zs7 (n:=n) (λi hi=>h i (by omega));obtain⟨d,hd⟩:=h n (by omega);refine⟨l++[d],by simp[hl],λi e he=>?_⟩;by_cases hi:i<n
  ·rw[List.getElem?_append_left (by omega)] at he;exact hp i e he
  ·rw[List.getElem?_append_right (by omega)] at he;by_cases hn:i=n
   ·subst hn;simp[hl] at he;subst he;exact hd
   ·rw[List.getElem?_eq_none (by simp;omega)] at he;cases he
def z66(k:IntKind)(w:World)(a:Option Addr)(n c:Nat)(l:List Int):Prop :=
 n=l.length/\n<=c/\c<=maxLen/\zv w a c (l.map (Value.int k))/\∀x∈l,(Lit.int k x).wf=true
section
variable{H:Type}{enc:TypeId×Value->H}{P:Program}{w:World}{base:Nat}{spare:Nat->Bool}{held:Bool}
theorem zjn{k:IntKind}{t:TypeId}{m:Nat}{v:Value}{y:DataW H×List MemPlace}(ht:P.underlying t=some (.int k))(h:DataW.trod enc P w base spare held m t [v]=some y):∃n,v=.int k n/\(Lit.int k n).wf=true:=by
 obtain⟨n,e0,_,wn⟩:=DataW.trod_int ht h;exact⟨n,by simpa using e0,wn⟩
theorem zgy{k:IntKind}{t e:TypeId}{m:Nat}{v:Value}{y:DataW H×List MemPlace}(ht:P.underlying t=some (.slice e))(he:P.underlying e=some (.int k))(hc:P.cellsOf e=1)(h:DataW.trod enc P w base spare held m t [v]=some y) :
 ∃(a:Option Addr) (n c:Nat) (l:List Int),v=.slice a n c/\z66 k w a n c l:=by
 rcases open_ints ht he hc h with⟨A1,_⟩|⟨x,n,c,zs,A1,_,hl,hm,hz,_,A0,A3⟩
 ·exact⟨none,0,0,[],by simpa using A1,rfl,Nat.le_refl _,Nat.zero_le _,zv.nil w,λx hx=>by simp at hx⟩
 ·have A4:n<=zs.length:=by
   rw[hz];split<;>omega
  refine⟨some x,n,c,zs.take n,by simpa using A1,by simp;omega,hl,hm,.inr ⟨x,rfl,λi u hu=>?_⟩,λy hy=>A3 y (List.mem_of_mem_take hy)⟩;simp only[List.getElem?_map,List.getElem?_take] at hu;split at hu
  ·rename_i hi
   have A2:i<zs.length:=by omega
   rw[ze A2] at hu;simp only[Option.map_some,Option.some.injEq] at hu;rw[A0 i A2,<-hu,zg,ze A2];rfl
  ·simp at hu
end
def qr{α:Type}(w:World)(a:Option Addr)(S:Nat)(f:α->List Value)(l:List α):Prop :=
 ∀i d,l[i]?=some d->∃b off,a=some ⟨b,off,none⟩/\b<w.heap.size/\∀j v,(f d)[j]?=some v->w.cell? ⟨b,off+i*S+j,none⟩=some v
theorem qr.below{α:Type}{w w':World}{a:Option Addr}{S:Nat}{f:α->List Value}{l:List α}(h:qr w a S f l)(hb:Below w.heap.size w w'):qr w' a S f l:=λi d hd=>by
 obtain⟨b,off,rfl,A0,hc⟩:=h i d hd;have:=hb.size;exact⟨b,off,rfl,by omega,λj v hv=>(hb.cell (p:=⟨b,off+i*S+j,none⟩) A0).trans (hc j v hv)⟩
theorem qr.mk{α:Type}{w:World}{a:Option Addr}{S:Nat}{f:α->List Value}{l:List α}(hf:∀d,0<(f d).length)
 (h:∀i d,l[i]?=some d->∃ad,a=some ad/\∀j v,(f d)[j]?=some v->w.cell? (ad.add (i*S+j))=some v):qr w a S f l:=λi d hd=>by
 obtain⟨⟨b,off,s⟩,rfl,hc⟩:=h i d hd;have A0:0<l.length:=by have:=(List.getElem?_eq_some_iff.1 hd).1;omega
 have hs:s=none:=by
  obtain⟨ad,A2,A3⟩:=h 0 _ (ze A0);cases A2
  have A1:=A3 0 _ (ze (hf _));rw[Nat.zero_mul] at A1;exact World.cell?_spot A1
 have h0:=hc 0 _ (ze (hf d));subst hs;refine⟨b,off,rfl,?_,λj v hv=>?_⟩
 ·have:=World.block_lt_of_cell? w _ h0;rwa[qk] at this
 ·have:=hc j v hv;rwa[qk,<-Nat.add_assoc] at this
end
theorem zc9{w:World}{a:Option Addr}{c:Nat}{xs:List Value}(h:zv w a c xs)(k:Nat):zv w a c (xs.take k):=by
 rcases h with⟨rfl,rfl,rfl⟩|⟨x,rfl,h⟩
 ·exact .inl ⟨rfl,rfl,by simp⟩
 ·refine .inr ⟨x,rfl,λi u hu=>h i u ?_⟩;rw[List.getElem?_take] at hu;split at hu
  ·exact hu
  ·cases hu
theorem zgl:(prog.info? 3).map (λi=>(i.zero,i.size,i.bytes))=some (some (.int .i64 0),1,8):=by kernel_rfl
def I64(l:List Int):Prop:=∀x∈l,-9223372036854775808<=x/\x<=9223372036854775807
def idx(l:List Int)(x:Int):Option Nat:=l.findIdx? (λy=>y == x)
theorem zoo{l:List Int}{x:Int}{k:Nat}(hk:k<l.length)(h:l.getD k 0=x)(hb:∀j,j<k->l.getD j 0≠x):idx l x=some k:=by
 unfold idx;rw[List.findIdx?_eq_some_iff_getElem];refine⟨hk,by simpa[List.getD_eq_getElem?_getD,List.getElem?_eq_getElem hk] using h,λj hj=>?_⟩;have:=hb j hj;have A0:j<l.length:=by omega
 simpa[List.getD_eq_getElem?_getD,List.getElem?_eq_getElem A0] using this
theorem zop{l:List Int}{x:Int}(h:∀j,j<l.length->l.getD j 0≠x):idx l x=none:=by
 unfold idx;rw[List.findIdx?_eq_none_iff];intro y hy;obtain⟨j,hj,rfl⟩:=List.getElem_of_mem hy;have:=h j hj;simpa[List.getD_eq_getElem?_getD,List.getElem?_eq_getElem hj] using this
theorem zk2{l:List Int}{x:Int}{k:Nat}(h:idx l x=some k):k<l.length/\l.getD k 0=x/\∀j,j<k->l.getD j 0≠x:=by
 unfold idx at h;rw[List.findIdx?_eq_some_iff_getElem] at h;obtain⟨hk,h1,h2⟩:=h;refine⟨hk,by simpa[List.getD_eq_getElem?_getD,List.getElem?_eq_getElem hk] using h1,λj hj=>?_⟩;have:=h2 j hj;have A0:j<l.length:=by omega
 simpa[List.getD_eq_getElem?_getD,List.getElem?_eq_getElem A0] using this
theorem zm6{l:List Int}{x:Int}(h:idx l x=none):x∉l:=by
 unfold idx at h;rw[List.findIdx?_eq_none_iff] at h;intro hx;have:=h x hx;simp at this
theorem z0w{l:List Int}{x:Int}{k:Nat}(h:idx l x=some k):x∈l:=by
 obtain⟨hk,h1,_⟩:=zk2 h;rw[<-h1,zg,ze hk];exact List.getElem_mem hk
theorem zdn{l:List Int}{k:Nat}(hk:k<l.length):l.getD k 0∈l:=by
 rw[zg,ze hk];exact List.getElem_mem hk
def zoq(l:List Int)(x:Int):Int:=match idx l x with|some k=>k|none=>-1
theorem zjs(a:Option Addr)(n c:Nat)(l:List Int)(x:Int)(w:World)(e0:n=l.length)(h:zv w a c (l.map (Value.int .i64)))(hm:n<=1000000000) :
 Calls prog 97 #[.slice a n c,.int .i64 x] w λe w'=>e=.returned (.int .i64 (zoq l x))/\w=w':=by
 subst e0;have HR:=zh h;clear h;go_enter func97,ntmps97;go_wp2;go_loop [8] (λi=>∃k:Nat,k<=l.length/\i=.int .i64 k/\Hid (∀j,j<k->l.getD j 0≠x)) (λi=>l.length-(intOf i).toNat)
 case atStart=>exact⟨0,Nat.zero_le _,rfl,λj hj=>by omega⟩
 case round =>
  obtain⟨k,hk,rfl,hz⟩:=hrel;by_cases A0:k<l.length
  ·obtain⟨b,off,rfl,A2,hc⟩:=HR.out.at (by simp;omega);have A1:=hc k _ (zr A0);have HY:=zh (λh=>zoo (l:=l) (x:=x) (k:=k) A0 h hz.out)
   have HN:=zh (λh:l.getD k 0≠x=>(by
    intro j hj;by_cases A3:j=k
    ·subst A3;exact h
    ·exact hz.out j (by omega):∀j,j<k+1->l.getD j 0≠x))
   clear hc hz;generalize l.getD k 0=y at *;by_cases hx:x=y
   ·subst hx;have HV:=zh (show zoq l x=k from by unfold zoq;rw[HY.out rfl]);clear HY HN;go_wp2;go_ret;exact⟨by rw[HV.out];rfl,rfl⟩
   ·have A4:=zh (HN (λh=>hx h.symm));clear HY HN;go_wp2;go_round
    case rel=>exact⟨k+1,by omega,by go_num,A4.out⟩
    case measure=>simp[intOf];omega
  ·have A5:k=l.length:=by omega
   subst A5;have HV:=zh (show zoq l x=-1 from by unfold zoq;rw[zop hz.out]);clear hz;go_wp2;go_ret;exact⟨by rw[HV.out];rfl,rfl⟩
theorem zcv(a:Option Addr)(n c:Nat)(l:List Int)(x:Int)(w:World)(e0:n=l.length)(h:zv w a c (l.map (Value.int .i64)))(hm:n<=1000000000) :
 Calls prog 46 #[.slice a n c,.int .i64 x] w λe w'=>e=.returned (.bool (decide (x∈l)))/\w=w':=by
 have HI:=zh (zjs a n c l x w e0 h hm)
 have HV:=zh (show decide (0<=zoq l x)=decide (x∈l) from by
  unfold zoq;cases hi:idx l x with
  | none=>have:=zm6 hi;simp[this]
  | some k=>have:=z0w hi;simp[this])
 clear h hm e0;generalize zoq l x=v at *;go_enter func46,ntmps46;go_wp2_with (go_at_call 97;go_call HI as e w' ⟨rfl,rfl⟩);go_ret;refine⟨?_,rfl⟩;rw[<-HV.out];rfl
def zie(w:World)(d:Nat)(v:Value):Prop:=∃x y:Int,Row w d 232 [.int .i64 x,.int .i64 y,v]
theorem zie.lt{w:World}{d:Nat}{v:Value}(h:zie w d v):d<w.heap.size:=by obtain⟨x,y,h⟩:=h;exact h.lt
theorem zie.keep{w w':World}{d:Nat}{v:Value}(h:zie w d v){l:List Nat}(u:Upd l w w')(hd:d∉l):zie w' d v:=by obtain⟨x,y,h⟩:=h;exact⟨x,y,h.keep u hd⟩
structure yt(w:World)(d g n r q:Nat)(bs:List Int):Prop where
 head:zie w d (.slice (some ⟨g,0,none⟩) (64*n) (64*n))
 data:Row w g 5 (bs.map (Value.int .u8))
 len:bs.length=64*n
 ne:d≠g
 small:n<=20000
 byt:Byt bs
 rs:r<=1000000
 qs:q<=1000000
theorem yt.keep{w w':World}{d g n r q:Nat}{bs:List Int}(h:yt w d g n r q bs){l:List Nat}(u:Upd l w w')(hd:d∉l)(hg:g∉l):yt w' d g n r q bs :=
 ⟨h.head.keep u hd,h.data.keep u hg,h.len,h.ne,h.small,h.byt,h.rs,h.qs⟩
def zcd(bs:List Int)(i:Nat):List Int:=(bs.drop (64*i)).take 64
theorem zpz{bs:List Int}{n i:Nat}(h:bs.length=64*n)(hi:i<n):(zcd bs i).length=64:=by
 simp[zcd];omega
theorem zp0(bs:List Int)(i j:Nat)(hj:j<64):(zcd bs i)[j]?=bs[64*i+j]?:=by
 unfold zcd;rw[List.getElem?_take,if_pos hj,List.getElem?_drop]
def vv(w:World)(k:Int)(e:Ending)(w':World):Prop :=
 if k<0\/20000<k then e=.returned (.tuple #[.pointer none,.int .i64 2])/\w=w'
 else ∃d g,e=.returned (.tuple #[.pointer (some ⟨d,0,none⟩),.int .i64 0])/\w.heap.size<=d/\w.heap.size<=g/\yt w' d g k.toNat 0 0 (List.replicate (64*k.toNat) 0)/\Upd [] w w'
theorem z6i(k:Int)(w:World)(h0:-9223372036854775808<=k)(h1:k<=9223372036854775807):Calls prog 110 #[.int .i64 k] w (vv w k):=by
 by_cases h:k<0
 ·go_enter func110,ntmps110;go_wp2;go_ret2;unfold vv;rw[if_pos (.inl h)];exact⟨rfl,rfl⟩
 ·by_cases h2:20000<k
  ·go_enter func110,ntmps110;go_wp2;go_ret2;unfold vv;rw[if_pos (.inr h2)];exact⟨rfl,rfl⟩
  ·obtain⟨n,rfl⟩:=Int.eq_ofNat_of_zero_le (show 0<=k from by omega);go_enter func110,ntmps110;go_wp2_with (at_make;refine qo rfl _ _ 26 rfl 5 (.int .u8 0) 1 underlying26 (by kernel_rfl) rfl .i64 .i64 _ _ (64*n) rfl rfl ?c1 ?c2 (by omega) (by unfold maxLen;omega) ?_)
   case c1=>omega
   case c2=>omega
   intro w' row upd;have lt:=row.lt;go_wp2;go_ret2;unfold vv;rw[if_neg (by omega),Int.toNat_natCast];refine⟨w'.heap.size,w.heap.size,rfl,by omega,Nat.le_refl _,⟨⟨_,_,Row.made _ _ _⟩,?_,by simp,by omega,by omega,?_,by omega,by omega⟩,upd.alloc _⟩
   ·rw[List.map_replicate];exact row.alloc _
   ·intro x hx;rw[List.eq_of_mem_replicate hx];omega
theorem z6j(d g n r q:Nat)(bs:List Int)(w:World)(h:yt w d g n r q bs):Calls prog 178 #[.pointer (some ⟨d,0,none⟩)] w λe w'=>e=.returned (.int .i64 n)/\w=w':=by
 obtain⟨cx,cy,A0⟩:=h.head;have k1:=A0.cell (i:=2) rfl;clear A0;have hn:=h.small;have h2:((64*n:Nat):Int) / 64=n:=by omega
 clear h;go_enter func178,ntmps178;go_wp2;go_ret;exact⟨rfl,rfl⟩
theorem z5y(d g n r q:Nat)(bs:List Int)(w:World)(h:yt w d g n r q bs)(i:Nat)(hi:i<n):Calls prog 155 #[.pointer (some ⟨d,0,none⟩),.int .i64 i] w λe w'=>e=.returned (.tuple #[.slice (some ⟨g,64*i,none⟩) 64 64,.int .i64 0])/\w=w':=by
 obtain⟨cx,cy,A0⟩:=h.head;have k1:=A0.cell (i:=2) rfl;clear A0;have hn:=h.small;have HH:=zh h;clear h;go_enter func155,ntmps155;go_wp2_with (go_at_call 178;refine(z6j d g n r q bs _ HH.out).mono ?_;rintro e w' ⟨rfl,rfl⟩);go_ret2;have e1:(i+1)*64-i*64=64:=by omega
 rw[Nat.mul_comm 64 i];refine⟨?_,rfl⟩;show Ending.returned (.tuple #[.slice (some ⟨g,i*64,none⟩) ((i+1)*64-i*64) ((i+1)*64-i*64),.int .i64 0])=_
 rw[e1]
theorem zzd:(prog.info? 5).map (λi=>(i.zero,i.size,i.bytes))=some (some (.int .u8 0),1,1):=by kernel_rfl
def zv4(w:World)(l:List Int)(e:Ending)(w':World):Prop :=
 ∃v,e=.returned v/\w'.ownsRow w.heap.size 5 1 v l.length (l.map (Value.int .u8))/\Below w.heap.size w w'
theorem z2a(x:Addr)(n c:Nat)(l:List Int)(w:World)(e0:n=l.length)(h:zv w (some x) c (l.map (Value.int .u8)))(hm:n<=1000000000) :
 Calls prog 106 #[.slice (some x) n c] w (zv4 w l):=by
 subst e0;have hs:=h.alloc (.cells #[] 5);have HS:=zh hs;clear hs;have hn:=λw=>Lib.run_eql_slice_nil (P:=prog) w 26 5 (some x) l.length c 0 0 underlying26
 go_enter func106,ntmps106;go_wp2_with (at_builtin;refine Zb rfl _ _ 26 rfl w.heap.size 5 (.int .u8 0) 1 1 underlying26 zzd rfl (by decide) _ 0 [] rfl (World.ownsRow_made w #[] 0 (Nat.le_refl _) (Nat.zero_le _) rfl) (some x) l.length c _ rfl (by simp) HS.out (jw _ _) (by unfold maxLen;omega) (by omega) (by simp) ?_);intro v1 w1 own1 gr1;have bel1:Below w.heap.size w w1:=((Below.refl _ _).alloc (Nat.le_refl _) _).grown gr1 (by simp) (λk hk=>by simp[Value.ownBlock] at hk;omega);clear gr1;go_wp2;go_ret;exact⟨v1,rfl,own1,bel1⟩
def zyy(d g n r q:Nat)(bs:List Int)(i:Nat)(w:World)(e:Ending)(w':World):Prop :=
 ∃v,e=.returned (.tuple #[v,.int .i64 0])/\w'.ownsRow w.heap.size 5 1 v 64 ((zcd bs i).map (Value.int .u8))/\yt w' d g n (r+1) q bs/\Upd [d] w w'
theorem z4q(d g n r q:Nat)(bs:List Int)(w:World)(h:yt w d g n r q bs)(hr:r<1000000)(i:Nat)(hi:i<n):Calls prog 124 #[.pointer (some ⟨d,0,none⟩),.int .i64 i] w (zyy d g n r q bs i w):=by
 obtain⟨cx,cy,A1⟩:=h.head;have k0:=A1.cell (i:=0) rfl;have f0:=A1.free 0;have HA:=zh (z5y d g n r q bs w h i hi);have hs:=zpz h.len hi
 have A0:zv (w.setCell ⟨d,0,none⟩ (.int .i64 (wrap64 (cx+1)))) (some ⟨g,64*i,none⟩) 64 ((zcd bs i).map (Value.int .u8)):=by
  refine(h.data.setOther (p:=⟨d,0,none⟩) h.ne _).reads (λj u hu=>?_);rw[List.getElem?_map] at hu ⊢;by_cases hj:j<64
  ·rwa[zp0 bs i j hj] at hu
  ·rw[List.getElem?_eq_none (by omega)] at hu;cases hu
 have HR:=zh A0
 have hd:yt (w.setCell ⟨d,0,none⟩ (.int .i64 (wrap64 (cx+1)))) d g n (r+1) q bs :=
  ⟨⟨_,_,A1.set 0 (.int .i64 (wrap64 (cx+1)))⟩,h.data.setOther (p:=⟨d,0,none⟩) h.ne _,h.len,h.ne,h.small,h.byt,hr,h.qs⟩
 have HD:=zh hd;have hl:=h.head.lt;have hg:=h.data.lt;clear A0 hd h A1;go_enter func124,ntmps124
 go_wp2_with (first
  | (go_at_call 155;go_call HA.out as e w' ⟨rfl,rfl⟩)
  | (go_at_call 106;refine(z2a _ 64 64 (zcd bs i) _ hs.symm HR.out (by omega)).mono ?_;rintro e w' ⟨v,rfl,own,bel⟩))
 go_ret2;rw[hs] at own;have hz:(w.setCell ⟨d,0,none⟩ (.int .i64 (wrap64 (cx+1)))).heap.size=w.heap.size:=by simp
 rw[hz] at own bel;refine⟨v,rfl,own,HD.out.keep (l:=[]) (.of_below (by rw[hz];exact bel)) (by simp) (by simp),?_⟩;exact(((Upd.refl [d] w).setCell (p:=⟨d,0,none⟩) (by simp) _).trans (.of_below (by rw[hz];exact bel)))
def zab(b:List Int):List Int:=b++List.replicate (64-b.length) 0
theorem zeh{b:List Int}(h:b.length<=64):(zab b).length=64:=by simp[zab];omega
theorem zqs{b:List Int}(h:Byt b):Byt (zab b):=h.append (λx hx=>by rw[List.eq_of_mem_replicate hx];omega)
theorem zc5{α:Type}(L:List α)(o:Nat)(cs ds:List α)(h:o+cs.length+ds.length<=L.length):splice (splice L o cs) (o+cs.length) ds=splice L o (cs++ds):=by
 apply List.ext_getElem?;intro i;have h1:(splice L o cs).length=L.length:=length_splice L o cs (by omega);rw[qe _ _ _ (by omega),qe _ _ _ (by omega),qe L o (cs++ds) (by simp;omega)];simp only[List.length_append];by_cases h2:i<o
 ·rw[if_pos (by omega),if_pos h2,if_pos h2]
 ·by_cases h3:i<o+cs.length
  ·rw[if_pos h3,if_neg h2,if_pos h3,if_neg h2,if_pos (by omega),List.getElem?_append_left (by omega)]
  ·by_cases h4:i<o+cs.length+ds.length
   ·rw[if_neg h3,if_pos h4,if_neg h2,if_pos (by omega),List.getElem?_append_right (by omega)];congr 1;omega
   ·rw[if_neg h3,if_neg h4,if_neg h2,if_neg h3,if_neg h2,if_neg (by omega)]
def zl0(d g n r q:Nat)(bs b:List Int)(i:Nat)(w:World)(e:Ending)(w':World):Prop :=
 e=.returned (.int .i64 0)/\yt w' d g n r (q+1) (splice bs (64*i) (zab b))/\Upd [d,g] w w'
theorem zl9:∀w,(zeroValue 5).run prog w=.ok (.int .u8 0) w:=λ_=>by kernel_rfl
theorem zup(d g n r q:Nat)(bs:List Int)(w:World)(h:yt w d g n r q bs)(hq:q<1000000)(i:Nat)(hi:i<n)(a:Option Addr)(m c:Nat)(b:List Int)(em:m=b.length)(hb:Byt b)(hr:zv w a c (b.map (Value.int .u8)))(hm:m<=64) :
 Calls prog 156 #[.pointer (some ⟨d,0,none⟩),.int .i64 i,.slice a m c] w (zl0 d g n r q bs b i w):=by
 have HA:=zh (z5y d g n r q bs w h i hi);have HH:=zh h;have A1:=h.len;have A6:=h.small;have HB:=zh hb;have HR:=zh hr;have HL:=zh A1;have HE:=zh em;have HG:=zh h.data;obtain⟨cx,cy,A3⟩:=h.head;have A2:64*i+64<=bs.length:=by omega
 have k0:∀w',Upd [g] w w'->w'.cell? ⟨d,1,none⟩=some (.int .i64 cy)/\w'.frozen? ⟨d,1,none⟩=false:=λw' u=>by
  have:=A3.keep u (by simp;exact h.ne);exact⟨this.cell (i:=1) rfl,this.free 1⟩
 have K0:=zh k0
 have fin:∀w',Row w' g 5 ((splice bs (64*i) (zab b)).map (Value.int .u8))->Upd [g] w w'->zl0 d g n r q bs b i w (.returned (.int .i64 0)) (w'.setCell ⟨d,1,none⟩ (.int .i64 (wrap64 (cy+1)))):=λw' row u=>by
  have hd:=A3.keep u (by simp;exact h.ne);have fl:=zeh (b:=b) (by omega);refine⟨rfl,⟨⟨_,_,hd.set 1 _⟩,row.setOther (p:=⟨d,1,none⟩) h.ne _,?_,h.ne,h.small,?_,h.rs,hq⟩,?_⟩
  ·rw[length_splice _ _ _ (by omega)];exact h.len
  ·unfold splice;exact(h.byt.take _).append ((zqs hb).append (h.byt.drop _))
  ·exact(u.mono (by simp)).trans ((Upd.refl _ _).setCell (p:=⟨d,1,none⟩) (by simp) _)
 have FIN:=zh fin;clear h hb hr A1 em k0 fin A3
 have A0:∀k,k=b.length->splice (splice (bs.map (Value.int .u8)) (64*i) ((b.map (Value.int .u8)).take 64)) (64*i+k) (List.replicate (64-k) (Value.int .u8 0))=(splice bs (64*i) (zab b)).map (Value.int .u8):=λk hk=>by
  subst hk;have e0:(b.map (Value.int .u8)).take 64=b.map (Value.int .u8):=List.take_of_length_le (by simp;have:=HE.out;omega);rw[e0];have e1:=zc5 (bs.map (Value.int .u8)) (64*i) (b.map (Value.int .u8)) (List.replicate (64-b.length) (Value.int .u8 0)) (by simp;have:=HE.out;omega);rw[List.length_map] at e1;rw[e1,<-cg];simp[zab]
 have HC:=zh A0;clear A0;have A4:min 64 b.length=m:=by have:=HE.out;omega
 have HM:=zh A4;clear A4;by_cases A5:m=64
 ·subst A5;go_enter func156,ntmps156
  go_wp2_with (first
   | (go_at_call 155;go_call HA.out as e w' ⟨rfl,rfl⟩)
   | ((with_reducible refine xp rfl (.tmp 24) (.tmp 25) 26 26 rfl 5 underlying26 (by kernel_rfl) _ _ _ _ _ _ rfl rfl g (64*i) _ 5 HG.out _ HR.out (by rw[List.length_map];exact HE.out.symm) (λ_=>rfl) (by rw[List.length_map];exact A2) (jw _ _) 64 (by rw[List.length_take,List.length_map];exact HM.out.symm) ?_)))
  intro w1 row1 upd1;obtain⟨k1,f1⟩:=K0.out w1 upd1;have R1:=zh row1;have U1:=zh upd1;clear row1 upd1;go_wp2_with (with_reducible refine cf rfl (.tmp 27) 26 rfl 5 (.int .u8 0) underlying26 zl9 rfl rfl _ _ _ rfl g (64*i+64) _ 5 R1.out (λh=>absurd h (by decide)) (by rw[length_splice _ _ _ (by simp;omega)];simp;omega) ?_);intro w2 row2 upd2;have U2:=zh (U1.out.trans upd2);have hf:=FIN.out w2 (by rw[<-HC.out 64 HE.out];exact row2) U2.out;obtain⟨k2,f2⟩:=K0.out w2 U2.out;have HF:=zh hf;clear hf row2 upd2 k1 f1;go_wp2;go_ret;exact HF.out
 ·have A7:m<64:=by omega
  have A8:¬64=m:=by omega
  have A9:(m:Int)<=64:=by omega
  clear A5;go_enter func156,ntmps156
  go_wp2_with (first
   | (go_at_call 155;go_call HA.out as e w' ⟨rfl,rfl⟩)
   | ((with_reducible refine xp rfl (.tmp 24) (.tmp 25) 26 26 rfl 5 underlying26 (by kernel_rfl) _ _ _ _ _ _ rfl rfl g (64*i) _ 5 HG.out _ HR.out (by rw[List.length_map];exact HE.out.symm) (λ_=>rfl) (by rw[List.length_map];exact A2) (jw _ _) m (by rw[List.length_take,List.length_map];exact HM.out.symm) ?_)))
  intro w1 row1 upd1;obtain⟨k1,f1⟩:=K0.out w1 upd1;have R1:=zh row1;have U1:=zh upd1;clear row1 upd1;go_wp2_with (with_reducible refine cf rfl (.tmp 27) 26 rfl 5 (.int .u8 0) underlying26 zl9 rfl rfl _ _ _ rfl g (64*i+m) _ 5 R1.out (λ_=>rfl) (by rw[length_splice _ _ _ (by simp;omega)];simp;omega) ?_);intro w2 row2 upd2;have U2:=zh (U1.out.trans upd2);have hf:=FIN.out w2 (by rw[<-HC.out m HE.out];exact row2) U2.out;obtain⟨k2,f2⟩:=K0.out w2 U2.out;have HF:=zh hf;clear hf row2 upd2 k1 f1;go_wp2;go_ret;exact HF.out
def inN(n:Nat)(l:List Int):Prop:=∀x∈l,0<=x/\x<n
def gp(bs:List Int)(l:List Int):List Int:=l.foldl (λb i=>splice b (64*i.toNat) (List.replicate 64 0)) bs
theorem zjm{bs:List Int}{l:List Int}{k:Nat}{x:Int}(h:l[k]?=some x):gp bs (l.take (k+1))=splice (gp bs (l.take k)) (64*x.toNat) (List.replicate 64 0):=by
 rw[List.take_add_one,h];simp[gp]
theorem zpv{bs:List Int}(h:Byt bs){cs:List Int}(k:Byt cs)(o:Nat):Byt (splice bs o cs):=(h.take _).append (k.append (h.drop _))
theorem zey:∀ {l bs:List Int},Byt bs->Byt (gp bs l)
 | [],bs,h=>h
 | x::l,bs,h=>zey (bs:=splice bs (64*x.toNat) (List.replicate 64 0)) (zpv h (λy hy=>by rw[List.eq_of_mem_replicate hy];omega) _)
def zwc(d g n r q:Nat)(bs l:List Int)(w:World)(e:Ending)(w':World):Prop :=
 e=.returned (.int .i64 0)/\yt w' d g n r q (gp bs l)/\Upd [g] w w'
theorem z2c(d g n r q:Nat)(bs:List Int)(w:World)(h:yt w d g n r q bs)(a:Option Addr)(m c:Nat)(l:List Int)(e0:m=l.length)(hr:zv w a c (l.map (Value.int .i64)))(ha:∀x,a=some x->x.block≠g)(hl:inN n l)(hm:m<=1000000) :
 Calls prog 159 #[.pointer (some ⟨d,0,none⟩),.slice a m c] w (zwc d g n r q bs l w):=by
 subst e0;have HH:=zh h;have HR:=zh hr;have HI:=zh hl;have HA:=zh ha;have B2:=h.small;clear h hr hl ha;go_enter func159,ntmps159;go_wp2;go_loop [17] (λi=>∃k:Nat,k<=l.length/\i=.int .i64 k) (λi=>l.length-(intOf i).toNat)
 case atStart=>exact⟨0,Nat.zero_le _,rfl⟩
 case round =>
  obtain⟨k,hk,rfl⟩:=hrel;by_cases A0:k<l.length
  ·obtain⟨b,off,rfl,A1,hc⟩:=HR.out.at (by simp;omega);have A2:=hc k _ (by simp[A0];rfl);have hx:=HI _ (List.getElem_mem A0);generalize l[k]=x at *;obtain⟨i,rfl⟩:=Int.eq_ofNat_of_zero_le hx.1;have HT:=zh (z5y d g n r q bs w HH.out i (by omega));clear hc hx;go_wp2_with (go_at_call 155;go_call HT as e w' ⟨rfl,rfl⟩);go_round
   case rel=>exact⟨k+1,by omega,by go_num⟩
   case measure=>simp[intOf];omega
  ·have A3:k=l.length:=by omega
   subst A3;go_wp2;go_loopw [33] (λi wr=>∃k:Nat,k<=l.length/\i=.int .i64 k/\yt wr d g n r q (gp bs (l.take k))/\Upd [g] w wr) (λi _=>l.length-(intOf i).toNat)
   case atStart=>exact⟨0,Nat.zero_le _,rfl,HH,Upd.refl _ _⟩
   case round =>
    obtain⟨k,hk,rfl,A4,A5⟩:=hrel;have HD:=zh A4;have HU:=zh A5;clear A4 A5;by_cases A0:k<l.length
    ·obtain⟨b,off,rfl,A1,hc⟩:=HR.out.at (by simp;omega);have A2:=(World.cell?_of_block (w:=w) (HU.out.block b A1 (by simp;exact HA.out _ rfl))).trans (hc k _ (by simp[A0];rfl));have hx:=HI _ (List.getElem_mem A0);have A6:l[k]?=some l[k]:=ze A0;have HS:=zh (zjm (bs:=bs) A6);clear A6;generalize l[k]=x at *;obtain⟨i,rfl⟩:=Int.eq_ofNat_of_zero_le hx.1;have A9:i<n:=by omega
     have HT:=zh (z5y d g n r q _ _ HD i A9);have HG:=zh HD.data;have HL:=zh HD.len;clear hc hx;rw[Int.toNat_natCast] at HS
     go_wp2_with (first
      | (go_at_call 155;go_call HT as e w' ⟨rfl,rfl⟩)
      | (with_reducible refine cf rfl (.tmp 43) 26 rfl 5 (.int .u8 0) underlying26 zl9 rfl rfl _ _ _ rfl g (64*i) _ 5 HG.out (λ_=>rfl) (by rw[List.length_map,HL.out];omega) ?_))
     intro w2 row2 upd2
     have A7:yt w2 d g n r q (gp bs (l.take (k+1))):=by
      have h0:=HD.out;refine⟨h0.head.keep upd2 (by simp;exact h0.ne),?_,?_,h0.ne,h0.small,?_,h0.rs,h0.qs⟩
      ·rw[HS.out,<-cg,List.map_replicate];exact row2
      ·rw[HS.out,length_splice _ _ _ (by simp[h0.len];omega)];exact h0.len
      ·exact zey (HH.byt)
     have A8:Upd [g] w w2:=HU.trans upd2;have B0:=zh A7;have B1:=zh A8;clear A7 A8 row2 upd2;go_wp2;go_roundw
     case rel=>exact⟨k+1,by omega,by go_num,B0.out,B1.out⟩
     case measure=>simp[intOf];omega
    ·have A3:k=l.length:=by omega
     subst A3;go_wp2;go_ret;refine⟨rfl,?_,HU⟩;have:=HD.out;rwa[List.take_of_length_le (Nat.le_refl _)] at this
def z5n(n:Nat)(w:World)(e:Ending)(w':World):Prop :=
 ∃d g,e=.returned (.tuple #[.pointer (some ⟨d,0,none⟩),.int .i64 0])/\w.heap.size<=d/\w.heap.size<=g/\yt w' d g n 0 0 (List.replicate (64*n) 0)/\Upd [] w w'
theorem zx4(n:Nat)(w:World)(h:n<=20000):Calls prog 110 #[.int .i64 n] w (z5n n w) :=
 (z6i n w (by omega) (by omega)).mono λe w' h1=>by
  unfold vv at h1;rw[if_neg (by omega),Int.toNat_natCast] at h1;exact h1
end Go.Proofs.YtoeibiahbenpcaaGreatDoor
