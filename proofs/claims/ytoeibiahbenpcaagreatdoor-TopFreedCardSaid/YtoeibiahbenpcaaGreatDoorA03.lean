/- Part. -/
import Derived.Test.YtoeibiahbenpcaaGreatDoorA02
import Derived.Maps.OwnSet
import Derived.DeepKeys4
import Derived.Maps.Range
namespace Go.Proofs.YtoeibiahbenpcaaGreatDoor
open RowKit Maps Proofs.Tryz
set_option linter.unusedVariables false
set_option maxRecDepth 99999
set_option maxHeartbeats 9000000
abbrev Ext:=Int×Int×Int
def exV(x:Ext):Value:=.agg #[.int .i64 x.1,.int .i64 x.2.1,.int .i64 x.2.2]
def zni(x:Ext):Prop:=(Lit.int .i64 x.1).wf=true/\(Lit.int .i64 x.2.1).wf=true/\(Lit.int .i64 x.2.2).wf=true
def exL(x:Ext):Lit:=.string (keyBytes [.int .i64 x.1,.int .i64 x.2.1,.int .i64 x.2.2])
theorem zc4{a:Int}(h0:-9223372036854775808<=a)(h1:a<=9223372036854775807):(Lit.int .i64 a).wf=true:=by
 have h2:IntKind.i64.min=-9223372036854775808:=by decide
 have h3:IntKind.i64.max=9223372036854775807:=by decide
 simp[Lit.wf];omega
theorem zxs:(match (prog).underlying 152 with|some (.array _ _)|some (.struct _)=>true|_=>false)=true:=by rw[underlying152]
theorem z1d:WideMaps.KeyLaw prog 152:=deep_law_laid (show laidOutB prog=true by kernel_rfl) (m:=2) (by omega) (of_decide_eq_true (by kernel_rfl)) (by kernel_rfl) zxs
theorem zac:Keyed prog 152:=Keyed.of_law z1d
theorem zqu(x:Ext):(exV x).formed prog 152=true:=by
 have hc:(prog).cellsOf 152=3:=by kernel_rfl
 simp[Value.formed,exV,underlying152,hc]
theorem zei{x:Ext}(hx:zni x):keyOf prog 152 (exV x)=some (exL x):=by
 have h1:(prog).keyType 152=true:=by kernel_rfl
 have hc:(prog).cellsOf 152=3:=by kernel_rfl
 have hi:(prog).cellsOf 3=1:=by kernel_rfl
 obtain⟨k,hk⟩:∃k,(prog).types.size=k+1:=⟨(prog).types.size-1,by
  have:0<(prog).types.size:=of_decide_eq_true (by kernel_rfl)
  omega⟩
 unfold keyOf;rw[underlying152];simp only[h1,zqu,Bool.and_self,if_true];have A0:(exV x).cells.toList=[.int .i64 x.1,.int .i64 x.2.1,.int .i64 x.2.2]:=by simp[exV,Value.cells]
 rw[A0,hk];obtain⟨w1,w2,w3⟩:=hx;simp[Program.keyLits,underlying152,underlying3,hc,hi,w1,w2,w3,exL]
theorem zzf{x y:Ext}(hx:zni x)(hy:zni y)(h:x≠y):exL x≠exL y:=λe=>h (by
 have h1:=zei hx;rw[e] at h1;have h2:=zac.inj h1 (zei hy);unfold exV at h2;simp at h2
 exact Prod.ext h2.1 (Prod.ext h2.2.1 h2.2.2))
def ji(w:World)(mp c:Nat)(f:Ext->Bool):Prop :=
 ∃D:DataW Unit,w.ownsMap prog 152 (plainElem prog 4) mp c D/\IsMap D/\(∀x,zni x->D.atKey (exL x) (.lit (.bool false))=.lit (.bool (f x)))/\∀kl,Maps.has D kl=true->∃x,zni x/\kl=exL x/\f x=true
theorem ji.made(w:World):ji (w.alloc (.map #[] 0)) w.heap.size 0 (λ_=>false) :=
 ⟨.map [],World.ownsMap_made w _ _ _,isMap_empty,λx _=>rfl,λkl h=>by cases h⟩
theorem ji.lt{w:World}{mp c:Nat}{f:Ext->Bool}(h:ji w mp c f):mp<w.heap.size:=by
 obtain⟨D,h1,-⟩:=h;exact h1.lt
theorem ji.keep{w w':World}{mp c:Nat}{f:Ext->Bool}(h:ji w mp c f){l:List Nat}(u:Upd l w w')(hm:mp∉l):ji w' mp c f:=by
 obtain⟨D,⟨es,clock,hb,F,hs,hD⟩,hi,hf⟩:=h;exact⟨D,⟨es,clock,u.heap hb hm,F,hs,hD⟩,hi,hf⟩
theorem zrr(w:World):(zeroValue 4).run prog w=.ok (.bool false) w:=by kernel_rfl
theorem zjj{v:Value}{b:Bool}{ps:List MemPlace}(h:plainElem (H:=Unit) prog 4 v=some (.lit (.bool b),ps)):v=.bool b:=by
 unfold plainElem at h;rw[underlying4] at h;cases v<;>simp at h
 rw[h.1]
theorem ji.look{w:World}{mp c:Nat}{f:Ext->Bool}(h:ji w mp c f){x:Ext}(hx:zni x):(Instr.lookup 192 (.map (some mp)) (exV x) false).run prog w=.ok (.bool (f x)) w:=by
 obtain⟨D,ho,hi,hf,-⟩:=h;obtain⟨v,ps,hr,hv⟩:=ho.lookup zac underlying192 (zrr w) (plainElem_bool underlying4 false) (zei hx);rw[hf x hx] at hv;rw[hr,zjj hv]
theorem Z4{α:Type}{l m:List α}(h:l.Nodup)(hs:∀x∈l,x∈m):l.length<=m.length:=by
 classical
 induction l generalizing m with
 | nil=>exact Nat.zero_le _
 | cons x l ih =>
  have hx:=hs x (by simp);rw[List.nodup_cons] at h
  have h1:=ih (m:=m.erase x) h.2 (λy hy=>by
   have A0:y≠x:=λe=>h.1 (e▸hy)
   exact(List.mem_erase_of_ne A0).2 (hs y (by simp[hy])))
  rw[List.length_erase_of_mem hx] at h1;have h2:0<m.length:=List.length_pos_of_mem hx;simp only[List.length_cons];omega
theorem ji.tight{w:World}{mp c:Nat}{f:Ext->Bool}(h:ji w mp c f)(xs:List Ext)(hx:∀x,f x=true->x∈xs):ji w mp xs.length f:=by
 obtain⟨D,ho,hi,hf,A0⟩:=h;refine⟨D,?_,hi,hf,A0⟩;obtain⟨es,hD,A2,A3⟩:=ho.entries zac
 have A4:Maps.size D<=xs.length:=by
  rw[hD];show es.length<=_
  have h1:(es.map (·.1)).Nodup:=by
   rw[List.nodup_iff_pairwise_ne,List.pairwise_map];exact A2
  have h2:es.length=(es.map (·.1)).length:=by simp
  have h3:xs.length=(xs.map exL).length:=by simp
  rw[h2,h3];refine Z4 h1 (λkl hm=>?_);rw[List.mem_map] at hm;obtain⟨p,hp,rfl⟩:=hm
  have hh:Maps.has D p.1=true:=by
   rw[hD,Maps.has_eq,List.any_eq_true];exact⟨p,hp,WideAt.sameKey_self (A3 p hp)⟩
  obtain⟨x,h4,h5,h6⟩:=A0 _ hh;rw[h5];exact List.mem_map_of_mem (hx x h6)
 obtain⟨es',clock,hb,F,hs,A1⟩:=ho;refine⟨es',clock,hb,F,?_,A1⟩;have:Maps.size D=es'.size:=by rw[A1];exact length_read es'
 omega
def zhv(x:Ext)(f:Ext->Bool):Ext->Bool:=λy=>decide (y=x) || f y
def vo(x:Ext)(f:Ext->Bool):Ext->Bool:=λy=>!decide (y=x) && f y
theorem zma{w:World}{ops:Array Oper}{rest:List Oper}{o:Oper}{a:Act}{Q:Exit->Act->World->Prop}
 (hg:o.guard=none) (m x v:Operand) (A2:o.op=Op.mapUpdate 192 m x v) (mp c:Nat) (f:Ext->Bool) (hm:a.eval m=.map (some mp)) (h:ji w mp c f) (hc:c<1000000) (y:Ext) (hy:zni y) (hx:a.eval x=exV y) (hv:a.eval v=.bool true)
 (hK:∀w',ji w' mp (c+1) (zhv y f)->Upd [mp] w w'->wpList prog ops Q rest (a.put o.dst undef) w'):wpList prog ops Q (o::rest) a w:=by
 obtain⟨D,ho,hi,hf,A3⟩:=h;refine wpList_mapUpdate_own w hg m x v _ A2 _ 4 zac underlying192 _ mp c D hm ho (by unfold maxLen;omega) _ _ _ hx hv (zei hy) (.lit (.bool true)) [] (plainElem_bool underlying4 true) ?_;intro w' h1 gr;refine hK w' ⟨_,h1,hi.put _ _,λz hz=>?_,λkl A1=>?_⟩ ⟨gr.os,gr.tape,gr.output,gr.size,λk hk hn=>gr.block k hk (λe=>hn (by simp at e;simp[e]))⟩
 rotate_left
 ·unfold zhv;by_cases e:kl=exL y
  ·exact⟨y,hy,e,by simp⟩
  ·rw[has_put_other e] at A1;obtain⟨x,h1,h2,h3⟩:=A3 kl A1;exact⟨x,h1,h2,by simp[h3]⟩
 unfold zhv;by_cases A0:z=y
 ·subst A0;rw[atKey_put_same hi (zac.key (zei hz))];simp
 ·rw[atKey_put_other (zzf hz hy A0),hf z hz];simp[A0]
theorem zfs{w:World}{ops:Array Oper}{rest:List Oper}{o:Oper}{a:Act}{Q:Exit->Act->World->Prop}
 (hg:o.guard=none) (m x:Operand) (A2:o.op=Op.call { callee:=Callee.builtin Builtin.delete,args:=#[m,x],argTypes:=#[192,152] }) (mp c:Nat) (f:Ext->Bool) (hm:a.eval m=.map (some mp)) (h:ji w mp c f) (y:Ext) (hy:zni y) (hx:a.eval x=exV y)
 (hK:∀w',ji w' mp c (vo y f)->Upd [mp] w w'->wpList prog ops Q rest (a.put o.dst (.tuple #[])) w'):wpList prog ops Q (o::rest) a w:=by
 obtain⟨D,ho,hi,hf,A3⟩:=h;refine wpList_delete_own (w:=w) hg m x _ _ A2 4 zac underlying192 _ mp c D hm ho _ _ hx (zei hy) ?_;intro w' h1 tr;have gr:=tr.grown;refine hK w' ⟨_,h1,hi.del _,λz hz=>?_,λkl A0=>?_⟩ ⟨gr.os,gr.tape,gr.output,gr.size,λk hk hn=>gr.block k hk (λe=>hn (by simp at e;simp[e]))⟩
 rotate_left
 ·unfold vo;by_cases e:kl=exL y
  ·subst e;rw[has_del_same] at A0;cases A0
  ·rw[has_del_other e] at A0;obtain⟨x,h1,h2,h3⟩:=A3 kl A0;refine⟨x,h1,h2,?_⟩;by_cases e2:x=y
   ·subst e2;exact absurd h2 e
   ·simp[h3,e2]
 unfold vo;by_cases A1:z=y
 ·subst A1;rw[atKey_del_same];simp
 ·rw[atKey_del_other (zzf hz hy A1),hf z hz];simp[A1]
def jl(n:Nat):Nat:=max ((n+63) / 64) 1
theorem yi(n:Nat):1<=jl n:=Nat.le_max_right _ _
theorem ci(n:Nat):n<=64*jl n:=by unfold jl;omega
theorem zsc(n:Nat):jl n<=n+1:=by unfold jl;omega
theorem zlv(n:Nat)(w:World)(hn:n<=1000000000):Calls prog 127 #[.int .i64 n] w λe w'=>e=.returned (.int .i64 (jl n))/\w=w':=by
 go_enter func127,ntmps127;go_wp2
 ·go_ret;exact⟨congrArg (λz=>Ending.returned (.int .i64 z)) (by unfold jl;omega),rfl⟩
 ·go_ret;exact⟨congrArg (λz=>Ending.returned (.int .i64 z)) (by unfold jl;omega),rfl⟩
structure SpI where
 m:Nat
 d:Nat
 dg:Nat
 bm:Nat
 bg:Nat
 mp:Nat
def SpI.all(I:SpI):List Nat:=[I.m,I.d,I.dg,I.bm,I.bg,I.mp]
structure SpS where
 N:Nat
 r:Nat
 q:Nat
 bs:List Int
 b:Nat->Bool
 c:Nat
 f:Ext->Bool
structure yu(w:World)(I:SpI)(S:SpS):Prop where
 row:Row w I.m 194 [.pointer (some ⟨I.d,0,none⟩),.pointer (some ⟨I.bm,0,none⟩),.map (some I.mp)]
 dk:yt w I.d I.dg S.N S.r S.q S.bs
 bt:zaw w I.bm I.bg S.N S.b
 lv:ji w I.mp S.c S.f
 ne:I.all.Nodup
theorem yu.keep{w w':World}{I:SpI}{S:SpS}(h:yu w I S){l:List Nat}(u:Upd l w w')(hl:∀k∈I.all,k∉l):yu w' I S :=
 ⟨h.row.keep u (hl _ (by simp[SpI.all])),h.dk.keep u (hl _ (by simp[SpI.all])) (hl _ (by simp[SpI.all])),h.bt.keep u (hl _ (by simp[SpI.all])) (hl _ (by simp[SpI.all])),h.lv.keep u (hl _ (by simp[SpI.all])),h.ne⟩
theorem yu.below{w w':World}{I:SpI}{S:SpS}(h:yu w I S)(hb:Below w.heap.size w w'):yu w' I S:=h.keep (l:=[]) (.of_below hb) (by simp)
theorem yu.lt{w:World}{I:SpI}{S:SpS}(h:yu w I S):∀k∈I.all,k<w.heap.size:=λk hk=>by
 simp only[SpI.all,List.mem_cons,List.not_mem_nil,or_false] at hk;rcases hk with rfl|rfl|rfl|rfl|rfl|rfl
 ·exact h.row.lt
 ·exact h.dk.head.lt
 ·exact h.dk.data.lt
 ·exact h.bt.head.lt
 ·exact h.bt.data.lt
 ·exact h.lv.lt
theorem yu.write{w w':World}{I:SpI}{S:SpS}(h:yu w I S){q:Nat}{bs:List Int}(hd:yt w' I.d I.dg S.N S.r q bs)(u:Upd [I.d,I.dg] w w'):yu w' I { S with q:=q,bs:=bs }:=by
 have A0:=h.ne;simp[SpI.all] at A0;exact⟨h.row.keep u (by simp;omega),hd,h.bt.keep u (by simp;omega) (by simp;omega),h.lv.keep u (by simp;omega),h.ne⟩
theorem yu.live{w w':World}{I:SpI}{S:SpS}(h:yu w I S){c:Nat}{f:Ext->Bool}(hd:ji w' I.mp c f)(u:Upd [I.mp] w w'):yu w' I { S with c:=c,f:=f }:=by
 have A0:=h.ne;simp[SpI.all] at A0;exact⟨h.row.keep u (by simp;omega),h.dk.keep u (by simp;omega) (by simp;omega),h.bt.keep u (by simp;omega) (by simp;omega),hd,h.ne⟩
theorem yu.bits{w w':World}{I:SpI}{S:SpS}(h:yu w I S){b:Nat->Bool}(hd:zaw w' I.bm I.bg S.N b)(u:Upd [I.bg] w w'):yu w' I { S with b:=b }:=by
 have A0:=h.ne;simp[SpI.all] at A0;exact⟨h.row.keep u (by simp;omega),h.dk.keep u (by simp;omega) (by simp;omega),hd,h.lv.keep u (by simp;omega),h.ne⟩
theorem Upd.new{l m:List Nat}{w w':World}(h:Upd m w w')(hm:∀k∈m,k∈l\/w.heap.size<=k):Upd l w w' :=
 ⟨h.os,h.tape,h.output,h.size,λi hi hn=>h.block i hi (λh2=>(hm i h2).elim hn (λh3=>by omega))⟩
theorem zio{fn:Func}{p:Tmp}{ty:TypeId}(h:fn.results=#[.cell p ty])(tmps:Array Value)(P:Program)(w:World) :
 (results fn tmps).run P w=((asAddr (tmps.getD p undef)).run P w).andThen λa w₁=>(loadVar ty a).run P w₁:=by
 simp only[results,h];simp[Sem.run_bind,Result.andThen]
theorem yy{w w':World}{a:Option Addr}{c:Nat}{xs:List Value}(h:zv w a c xs){l:List Nat}(u:Upd l w w')(hd:0<xs.length->∀y,a=some y->y.block∉l):zv w' a c xs:=by
 by_cases h0:0<xs.length
 ·exact u.reads h (hd h0)
 ·have:xs=[]:=List.eq_nil_of_length_eq_zero (by omega);subst this;rcases h with⟨h1,h2,-⟩|⟨x,h1,-⟩
  ·exact .inl ⟨h1,h2,rfl⟩
  ·exact .inr ⟨x,h1,λi u hu=>by simp at hu⟩
theorem zkr{w:World}{a:Option Addr}{c:Nat}{xs:List Value}(h:zv w a c xs)(h0:0<xs.length):∀y,a=some y->y.block<w.heap.size:=λy hy=>by
 obtain⟨b,o,rfl,hb,-⟩:=h.at h0;cases hy
 exact hb
theorem zhq{w:World}{a:Option Addr}{cap:Nat}{xs:List Value}(h:zv w a cap xs)(hx:xs.length<=cap)(lo m:Nat)(hl:lo+m<=xs.length):zv w (if cap=lo then a else a.map (λx=>x.add lo)) (cap-lo) ((xs.drop lo).take m):=by
 rcases h with⟨rfl,rfl,rfl⟩|⟨x,rfl,h⟩
 ·simp at hl;obtain⟨rfl,rfl⟩:=hl;exact .inl ⟨rfl,rfl,rfl⟩
 ·by_cases hc:cap=lo
  ·rw[if_pos hc]
   exact .inr ⟨x,rfl,λi u hu=>by
    rw[List.getElem?_take] at hu;split at hu
    ·omega
    ·cases hu⟩
  ·rw[if_neg hc]
   exact .inr ⟨x.add lo,rfl,λi u hu=>by
    rw[List.getElem?_take] at hu;split at hu
    ·rw[List.getElem?_drop] at hu;have:=h _ u hu;rwa[show(x.add lo).add i=x.add (lo+i) by unfold Addr.add;by_cases h1:lo=0<;>by_cases h2:i=0<;>simp[h1,h2,Nat.add_assoc]]
    ·cases hu⟩
def xe(b:List Int)(i:Nat):List Int:=(b.drop (64*i)).take 64
theorem zlr(b:List Int)(i:Nat):(xe b i).length<=64:=by simp[xe];omega
theorem zls{b:List Int}(h:Byt b)(i:Nat):Byt (xe b i):=(h.drop _).take _
def zea(b:List Int):Nat->List Int
 | 0=>[]
 | k+1=>zea b k++zab (xe b k)
theorem wj(b:List Int):∀k,(zea b k).length=64*k
 | 0=>rfl
 | k+1=>by rw[zea,List.length_append,wj b k,zeh (zlr b k)];omega
theorem zui(b:List Int)(i j:Nat)(hj:j<64):(xe b i)[j]?=b[64*i+j]?:=by
 unfold xe;rw[List.getElem?_take,if_pos hj,List.getElem?_drop]
theorem zob(b:List Int):∀(k j:Nat),j<64*k->j<b.length->(zea b k)[j]?=b[j]?
 | 0,j,h,_=>by omega
 | k+1,j,h,hb=>by
  rw[zea];by_cases hj:j<64*k
  ·rw[List.getElem?_append_left (by rw[wj];exact hj)];exact zob b k j hj hb
  ·rw[List.getElem?_append_right (by rw[wj];omega),wj];unfold zab;have hc:(xe b k)[j-64*k]?=b[j]?:=by rw[zui b k _ (by omega)];congr 1;omega
   have A0:j-64*k<(xe b k).length:=by
    rcases Nat.lt_or_ge (j-64*k) (xe b k).length with h1|h1
    ·exact h1
    ·rw[List.getElem?_eq_none h1,ze hb] at hc;cases hc
   rw[List.getElem?_append_left A0,hc]
theorem zsw(b:List Int){k:Nat}(h:b.length<=64*k):(zea b k).take b.length=b:=by
 apply List.ext_getElem?;intro j;rw[List.getElem?_take];by_cases hj:j<b.length
 ·rw[if_pos hj,zob b k j (by omega) hj]
 ·rw[if_neg hj,List.getElem?_eq_none (by omega)]
theorem zi3{bs b:List Int}{N F k:Nat}(hl:bs.length=64*N)(h:F+k+1<=N) :
 splice (splice bs (64*F) (zea b k)) (64*(F+k)) (zab (xe b k))=splice bs (64*F) (zea b (k+1)):=by
 have h1:=zc5 bs (64*F) (zea b k) (zab (xe b k)) (by rw[wj,zeh (zlr b k)];omega);rw[wj] at h1;rw[show 64*(F+k)=64*F+64*k by omega,h1];rfl
theorem zf2(L:List Int)(o:Nat)(h:o<=L.length):splice L o []=L:=zbm _ _
def laid(S:SpS)(F:Nat)(b:List Int):SpS :=
 { S with q:=S.q+jl b.length,bs:=splice S.bs (64*F) (zea b (jl b.length)),c:=S.c+1,f:=zhv ((F:Int),(jl b.length:Int),(b.length:Int)) S.f }
def zv7(I:SpI)(S:SpS)(F:Nat)(b:List Int)(w:World)(e:Ending)(w':World):Prop :=
 e=.returned (exV ((F:Int),(jl b.length:Int),(b.length:Int)))/\yu w' I (laid S F b)/\Upd [I.d,I.dg,I.mp] w w'
theorem z1k{w:World}{I:SpI}{S:SpS}(h:yu w I S)(F:Nat)(b:List Int)(hF:F+jl b.length<=S.N)(s0:Int)(hq:S.q+jl b.length<1000000)(E6:S.c<999999)(a:Option Addr)(len cap:Nat)(e0:len=b.length)
 (hb:Byt b) (hr:zv w a cap (b.map (Value.int .u8))) (D6:len<=cap) (hd:0<len->∀y,a=some y->y.block∉I.all) :
 Calls prog 128 #[.pointer (some ⟨I.m,0,none⟩),.agg #[.int .i64 F,.int .i64 (jl b.length),.int .i64 s0],.slice a len cap] w (zv7 I S F b w):=by
 have D7:=yi b.length;have C8:=ci b.length;have C9:∀k,k<jl b.length->64*k<=b.length:=λk hk=>by unfold jl at hk;omega
 have hN:=h.dk.small;have D0:=zh C9;have HH:=zh h;have HB:=zh hb;have HR:=zh hr;have HD:=zh hd;have HE:=zh e0;obtain⟨n,hn⟩:=zx (jl b.length);rw[<-hn] at hF hq D7 C8 D0 ⊢;have HN:=zh hn;clear h hb hr hd hn C9;rw[<-HE.out] at C8;have A8:=HH.out.lt;have D8:=zh A8;clear A8 e0;go_enter func128,ntmps128;go_wp2;obtain⟨W,hW⟩:=zx ((w.alloc (.cells #[.int .i64 F,.int .i64 n,.int .i64 s0] 152)).alloc (.cells #[.int .i64 0,.int .i64 0,.int .i64 0] 152));obtain⟨X,hX⟩:=zx (w.heap.size);have bW:Below w.heap.size w W:=by rw[hW];exact((Below.refl _ _).alloc (Nat.le_refl _) _).alloc (by simp) _
 have rX:Row W X 152 [.int .i64 F,.int .i64 n,.int .i64 s0]:=by rw[hW,hX];exact(Row.made w _ _).alloc _
 have rR:Row W (X+1) 152 [.int .i64 0,.int .i64 0,.int .i64 0]:=by
  rw[hW,hX];have:=Row.made (w.alloc (.cells #[.int .i64 F,.int .i64 n,.int .i64 s0] 152)) [.int .i64 0,.int .i64 0,.int .i64 0] 152;simpa using this
 have D1:∀k∈I.all,k<X:=by rw[hX];exact D8
 rw[<-hW,<-hX];have HX:=zh hX;have B5:=zh D1;have HS:Hid (yu W I S):=HH.below bW;have C1:=zh bW;have B6:=zh rX;have B7:=zh rR;clear hW hX bW rX rR D1;go_loopw [11] (λi wr=>∃k:Nat,k<=n/\i=.int .i64 k/\Hid (yu wr I { S with q:=S.q+k,bs:=splice S.bs (64*F) (zea b k) })/\Hid (Upd [I.d,I.dg] W wr)) (λi _=>n-(intOf i).toNat)
 case atStart=>exact⟨0,Nat.zero_le _,rfl,by unfold Hid;rw[show zea b 0=[] from rfl,zf2 _ _ (by have:=HS.out.dk.len;omega)];exact HS,Upd.refl _ _⟩
 case round =>
  obtain⟨k,hk,rfl,A3,HU⟩:=hrel
  have A7:∀j,X<=j->j∉[I.d,I.dg]:=λj hj hm=>by
   have h1:=B5.out I.d (by simp[SpI.all]);have h2:=B5.out I.dg (by simp[SpI.all]);simp at hm;omega
  have rX:=B6.keep HU (A7 X (Nat.le_refl _));have rR:=B7.out.keep HU.out (A7 (X+1) (by omega));have k0:=A3.row.cell (i:=0) rfl;have k2:=A3.row.cell (i:=2) rfl;have x0:=rX.cell (i:=0) rfl;have x1:=rX.cell (i:=1) rfl;have x2:=rX.cell (i:=2) rfl;have A2:=zh rX;have A9:=zh rR;clear rX rR;by_cases A8:k<n
  ·have E7:64*k<=len:=by rw[HE.out];exact D0 k A8
   have i1:¬((len:Int)<(k:Int)*64):=by omega
   have i2:(k:Int)*64<=(len:Int):=by omega
   by_cases D2:(k:Int)*64+64<=(len:Int)
   ·have i3:¬((len:Int)<(k:Int)*64+64):=by omega
    go_wp2_with fail;refine zm (λz=>z.cell? ⟨I.m,0,none⟩=some (.pointer (some ⟨I.d,0,none⟩))/\z.cell? ⟨X,0,none⟩=some (.int .i64 F)) (zp [0,1,2,3,4,5,6,7,8,9,10,11,12,13,1014,15,1016]) (by kernel_rfl) (by kernel_rfl) (λ_ _ _ _ _ h=>h) ⟨k0,x0⟩ ?_;have A5:=zh (show wr.drew.cell? ⟨I.m,0,none⟩=some (.pointer (some ⟨I.d,0,none⟩))/\wr.drew.cell? ⟨X,0,none⟩=some (.int .i64 F) from⟨k0,x0⟩);clear k0 k2 x0 x1 x2
    (repeat (refine zi rfl (λK hK=>?_);go_simp;(try go_bits);refine hK _ ?_;clear hK K))
    refine zl (.pointer (some ⟨I.d,0,none⟩)) rfl rfl (λx hS=>by obtain⟨s0,s1⟩:=hS;go_simp) ?_
    (repeat (refine zi rfl (λK hK=>?_);go_simp;(try go_bits);refine hK _ ?_;clear hK K))
    refine zl (.int .i64 F) rfl rfl (λx hS=>by obtain⟨s0,s1⟩:=hS;go_simp) ?_
    (repeat (refine zi rfl (λK hK=>?_);go_simp;(try go_bits);refine hK _ ?_;clear hK K))
    refine zj rfl ?_;go_wp2_with fail;refine⟨A5,?_⟩;refine zi rfl (λK hK=>?_);go_simp;obtain⟨A,hA⟩:=zx ((if cap=((k:Int)*64).toNat then a else Option.map (λx=>x.add ((k:Int)*64).toNat) a));obtain⟨C,hC⟩:=zx (cap-((k:Int)*64).toNat);have B0:((k:Int)*64+64).toNat-((k:Int)*64).toNat=64:=by omega
    rw[<-hA,<-hC,B0];refine⟨.slice A 64 C,λz=>?_,?_⟩
    ·rw[if_pos (by omega),if_pos (by omega)]
    refine hK _ ?_;clear hK K B0
    have B1:Hid (zv wr.drew A C ((xe b k).map (Value.int .u8))):=by
     have h0:zv wr a cap (b.map (Value.int .u8)):=yy (HR.out.below C1.out) HU.out (λh0 y hy hm=>HD.out (by have:=HE.out;simp at h0;omega) y hy (by simp[SpI.all];simp at hm;omega));have h1:=zhq h0 (by have:=HE.out;simp;omega) (64*k) 64 (by have:=HE.out;simp;omega);rw[show((k:Int)*64).toNat=64*k by omega] at hA hC;rw[<-hA,<-hC] at h1
     have h2:((b.map (Value.int .u8)).drop (64*k)).take 64=(xe b k).map (Value.int .u8):=by
      unfold xe;rw[<-List.map_drop,<-List.map_take]
     rw[h2] at h1;exact h1
    have B2:Hid (64=(xe b k).length):=by unfold Hid xe;have:=HE.out;simp;omega
    clear hA hC;have A6:=zup _ _ _ _ _ _ wr.drew (A3.out.dk.keep (l:=[]) (Upd.refl _ _).drew (by simp) (by simp)) (by show S.q+k<1000000;omega) (F+k) (by show F+k<S.N;omega) A 64 C (xe b k) B2.out (zls HB.out k) B1.out (by omega);rw[Int.natCast_add] at A6;have B3:=zh A6;clear A6 B1 B2 i1 i2 i3;refine zj rfl ?_;go_wp2_with fail;go_call B3 as e v ⟨rfl,hd,hu⟩;rw[zi3 HH.out.dk.len (by omega)] at hd;have A0:Upd [I.d,I.dg] wr v:=(Upd.drew (Upd.refl _ _)).trans hu;have B4:Hid (yu v I { S with q:=S.q+(k+1),bs:=splice S.bs (64*F) (zea b (k+1)) }):=A3.write hd A0;have C2:=zh (A2.keep A0 (A7 X (Nat.le_refl _)));have C3:=zh (HU.trans A0);clear hd hu A0 B3 A5;go_wp2;refine⟨⟨B4.row.cell (i:=0) rfl,C2.cell (i:=0) rfl⟩,?_⟩;refine zo ?_;go_wp2;go_roundw
    case rel=>exact⟨k+1,by omega,by go_num,B4.out,C3.out⟩
    case measure=>simp[intOf];omega
   ·have i3:(len:Int)<(k:Int)*64+64:=by omega
    go_wp2_with fail;refine zm (λz=>z.cell? ⟨I.m,0,none⟩=some (.pointer (some ⟨I.d,0,none⟩))/\z.cell? ⟨X,0,none⟩=some (.int .i64 F)) (zp [0,1,2,3,4,5,6,7,8,9,10,11,12,13,1014,15,1016]) (by kernel_rfl) (by kernel_rfl) (λ_ _ _ _ _ h=>h) ⟨k0,x0⟩ ?_;have A5:=zh (show wr.drew.cell? ⟨I.m,0,none⟩=some (.pointer (some ⟨I.d,0,none⟩))/\wr.drew.cell? ⟨X,0,none⟩=some (.int .i64 F) from⟨k0,x0⟩);clear k0 k2 x0 x1 x2
    (repeat (refine zi rfl (λK hK=>?_);go_simp;(try go_bits);refine hK _ ?_;clear hK K))
    refine zl (.pointer (some ⟨I.d,0,none⟩)) rfl rfl (λx hS=>by obtain⟨s0,s1⟩:=hS;go_simp) ?_
    (repeat (refine zi rfl (λK hK=>?_);go_simp;(try go_bits);refine hK _ ?_;clear hK K))
    refine zl (.int .i64 F) rfl rfl (λx hS=>by obtain⟨s0,s1⟩:=hS;go_simp) ?_
    (repeat (refine zi rfl (λK hK=>?_);go_simp;(try go_bits);refine hK _ ?_;clear hK K))
    refine zj rfl ?_;go_wp2_with fail;refine⟨A5,?_⟩;refine zi rfl (λK hK=>?_);go_simp;obtain⟨A,hA⟩:=zx ((if cap=((k:Int)*64).toNat then a else Option.map (λx=>x.add ((k:Int)*64).toNat) a));obtain⟨C,hC⟩:=zx (cap-((k:Int)*64).toNat);have B0:len-((k:Int)*64).toNat=(len-64*k):=by omega
    rw[<-hA,<-hC,B0];refine⟨.slice A (len-64*k) C,λz=>?_,?_⟩
    ·rw[if_pos (by omega)]
    refine hK _ ?_;clear hK K B0
    have B1:Hid (zv wr.drew A C ((xe b k).map (Value.int .u8))):=by
     have h0:zv wr a cap (b.map (Value.int .u8)):=yy (HR.out.below C1.out) HU.out (λh0 y hy hm=>HD.out (by have:=HE.out;simp at h0;omega) y hy (by simp[SpI.all];simp at hm;omega));have h1:=zhq h0 (by have:=HE.out;simp;omega) (64*k) (len-64*k) (by have:=HE.out;simp;omega);rw[show((k:Int)*64).toNat=64*k by omega] at hA hC;rw[<-hA,<-hC] at h1
     have h2:((b.map (Value.int .u8)).drop (64*k)).take (len-64*k)=(xe b k).map (Value.int .u8):=by
      unfold xe;rw[<-List.map_drop,<-List.map_take];congr 1;rw[List.take_of_length_le (by have:=HE.out;simp;omega),List.take_of_length_le (by have:=HE.out;simp;omega)]
     rw[h2] at h1;exact h1
    have B2:Hid ((len-64*k)=(xe b k).length):=by unfold Hid xe;have:=HE.out;simp;omega
    clear hA hC;have A6:=zup _ _ _ _ _ _ wr.drew (A3.out.dk.keep (l:=[]) (Upd.refl _ _).drew (by simp) (by simp)) (by show S.q+k<1000000;omega) (F+k) (by show F+k<S.N;omega) A (len-64*k) C (xe b k) B2.out (zls HB.out k) B1.out (by omega);rw[Int.natCast_add] at A6;have B3:=zh A6;clear A6 B1 B2 i1 i2 i3;refine zj rfl ?_;go_wp2_with fail;go_call B3 as e v ⟨rfl,hd,hu⟩;rw[zi3 HH.out.dk.len (by omega)] at hd;have A0:Upd [I.d,I.dg] wr v:=(Upd.drew (Upd.refl _ _)).trans hu;have B4:Hid (yu v I { S with q:=S.q+(k+1),bs:=splice S.bs (64*F) (zea b (k+1)) }):=A3.write hd A0;have C2:=zh (A2.keep A0 (A7 X (Nat.le_refl _)));have C3:=zh (HU.trans A0);clear hd hu A0 B3 A5;go_wp2;refine⟨⟨B4.row.cell (i:=0) rfl,C2.cell (i:=0) rfl⟩,?_⟩;refine zo ?_;go_wp2;go_roundw
    case rel=>exact⟨k+1,by omega,by go_num,B4.out,C3.out⟩
    case measure=>simp[intOf];omega
  ·obtain rfl:n=k:=by omega
   have D9:Hid (yu wr I { S with q:=S.q+n,bs:=splice S.bs (64*F) (zea b n) }):=A3.out;have E8:=zh A7;have f2:=A2.free 2;have A1:=A2.set 2 (.int .i64 (len:Int));have uX:Upd [X,X+1] wr (wr.setCell ⟨X,2,none⟩ (.int .i64 len)):=(Upd.refl _ _).setCell (by simp) _
   have C4:∀k∈I.all,k∉[X,X+1]:=λk hk hm=>by
    have:=B5.out k hk;simp at hm;omega
   have B8:=D9.keep uX C4;have C5:=A9.out.setOther (p:=⟨X,2,none⟩) (by simp) (.int .i64 (len:Int));have E0:=zh (HU.out.mono (m:=[I.d,I.dg,I.mp]) (by simp));have E1:=zh C4;clear A3 A8 x0 x1 k0 k2 HU C4 A2 A9 B6 B7 A7;go_wp2_with fail;obtain⟨v,hv⟩:=zx (wr.setCell ⟨X,2,none⟩ (.int .i64 len));rw[<-hv] at uX B8 A1 C5 ⊢;have D3:zni ((F:Int),(n:Int),(len:Int)):=⟨zc4 (by show _<=(F:Int);omega) (by show(F:Int)<=_;omega),zc4 (by show _<=(n:Int);omega) (by show(n:Int)<=_;omega),zc4 (by show _<=(len:Int);omega) (by show(len:Int)<=_;omega)⟩;have k2:=B8.row.cell (i:=2) rfl;have x0:=A1.cell (i:=0) rfl;have x1:=A1.cell (i:=1) rfl;have x2:=A1.cell (i:=2) rfl;have E2:=zh uX;have D4:=zh B8;have B6:=zh A1;have B7:=zh C5;have E3:=zh D3;clear hv uX B8 A1 C5 D3 f2;refine zm (λz=>z.cell? ⟨I.m,2,none⟩=some (.map (some I.mp))/\z.cell? ⟨X,0,none⟩=some (.int .i64 F)/\z.cell? ⟨X,1,none⟩=some (.int .i64 n)/\z.cell? ⟨X,2,none⟩=some (.int .i64 len)) (zp [0,1,2,3,4,1005]) (by kernel_rfl) (by kernel_rfl) (λ_ _ _ _ _ h=>h) ⟨k2,x0,x1,x2⟩ ?_;clear k2 x0 x1 x2
   (repeat (refine zi rfl (λK hK=>?_);go_simp;(try go_bits);refine hK _ ?_;clear hK K))
   refine zl (.map (some I.mp)) rfl rfl (λx hS=>by obtain⟨s0,s1,s2,s3⟩:=hS;go_simp) ?_
   (repeat (refine zi rfl (λK hK=>?_);go_simp;(try go_bits);refine hK _ ?_;clear hK K))
   refine zl (.agg #[.int .i64 F,.int .i64 n,.int .i64 len]) rfl rfl (λx hS=>by obtain⟨s0,s1,s2,s3⟩:=hS;go_simp) ?_;refine zj rfl ?_;refine zma rfl _ _ _ rfl I.mp S.c S.f rfl (D4.out.lv.keep (l:=[]) (Upd.refl _ _).drew (by simp)) (by omega) ((F:Int),(n:Int),(len:Int)) E3.out rfl rfl ?_;intro v2 hl hu;have A0:Upd [I.mp] v v2:=((Upd.refl _ _).drew).trans hu;have C6:=D4.live hl A0
   have C7:∀j,X<=j->j∉[I.mp]:=λj hj hm=>by
    have h1:=B5.out I.mp (by simp[SpI.all]);simp at hm;omega
   have A1:=B6.keep A0 (C7 X (Nat.le_refl _));have A4:=B7.out.keep A0 (C7 (X+1) (by omega));have x0:=A1.cell (i:=0) rfl;have x1:=A1.cell (i:=1) rfl;have x2:=A1.cell (i:=2) rfl;have y0:=A4.cell (i:=0) rfl;have y1:=A4.cell (i:=1) rfl;have y2:=A4.cell (i:=2) rfl;have g0:=A4.free 0;have g1:=A4.free 1;have g2:=A4.free 2;have A5:=zh C6;have E4:=zh A0;have E9:=zh A1;have E5:=zh A4;refine⟨⟨C6.row.cell (i:=2) rfl,x0,x1,x2⟩,?_⟩;clear hl hu A0 C6 C7 A1 A4;refine zo ?_;go_wp2;obtain⟨v3,B9⟩:=zx (((v2.setCell ⟨X+1,0,none⟩ (.int .i64 F)).setCell ⟨X+1,1,none⟩ (.int .i64 n)).setCell ⟨X+1,2,none⟩ (.int .i64 len));have C0:Row v3 (X+1) 152 [.int .i64 F,.int .i64 n,.int .i64 len]:=by rw[B9];exact((E5.set 0 _).set 1 _).set 2 _
   have u3:Upd [X,X+1] v2 v3:=by rw[B9];exact(((Upd.refl [X,X+1] v2).setCell (by simp) _).setCell (by simp) _).setCell (by simp) _
   rw[<-B9];have D5:=zh u3;clear B9 u3 y0 y1 y2 g0 g1 g2 x0 x1 x2;have z0:=C0.cell (i:=0) rfl;have z1:=C0.cell (i:=1) rfl;have z2:=C0.cell (i:=2) rfl;clear C0
   (try simp only[Exit.inBlock,Exit.then])
   refine bodyPost_ret (by rw[zio rfl];go_simp;rfl) rfl ?_;unfold zv7 laid;rw[<-HN.out,<-HE.out];refine⟨rfl,A5.keep D5 E1,?_⟩;refine Upd.new (m:=[I.d,I.dg,I.mp,X,X+1]) ((((Upd.of_below C1.out).trans (E0.out.mono (by simp))).trans (E2.out.mono (by simp))).trans ((E4.out.mono (by simp)).trans (D5.out.mono (by simp)))) (λj hj=>?_);have:=HX.out;simp at hj ⊢;omega
theorem Z2{fn:Func}{p q:Tmp}{ty:TypeId}(h:fn.results=#[.cell p ty,.tmp q])(tmps:Array Value)(P:Program)(w:World) :
 (results fn tmps).run P w=((asAddr (tmps.getD p undef)).run P w).andThen λad w₁=>((loadVar ty ad).run P w₁).andThen λv w₂=>.ok (.tuple #[v,tmps.getD q undef]) w₂:=by
 simp only[results,h];simp[Sem.run_bind,Result.andThen]
def zwh(S:SpS)(F:Nat)(b:List Int):SpS:=laid { S with b:=jx S.b F (jl b.length) true } F b
def z2r(I:SpI)(S:SpS)(b:List Int)(w:World)(e:Ending)(w':World):Prop :=
 (qu S.b S.N (jl b.length) none/\e=.returned (.tuple #[exV (0,0,0),.int .i64 3])/\yu w' I S/\Upd [] w w')\/
 ∃F:Nat,qu S.b S.N (jl b.length) (some F)/\e=.returned (.tuple #[exV ((F:Int),(jl b.length:Int),(b.length:Int)),.int .i64 0])/\yu w' I (zwh S F b)/\Upd [I.d,I.dg,I.mp,I.bg] w w'
theorem z47{w:World}{I:SpI}{S:SpS}(h:yu w I S)(b:List Int)(hq:S.q+jl b.length<1000000)(C2:S.c<999999)(a:Option Addr)(len cap:Nat)(e0:len=b.length)(hl:len<=1000000)
 (hb:Byt b) (hr:zv w a cap (b.map (Value.int .u8))) (B1:len<=cap) (hd:0<len->∀y,a=some y->y.block∉I.all) :
 Calls prog 220 #[.pointer (some ⟨I.m,0,none⟩),.slice a len cap] w (z2r I S b w):=by
 have hN:=h.dk.small;have HH:=zh h;have HB:=zh hb;have HR:=zh hr;have HD:=zh hd;have HE:=zh e0;have C3:=zh h.lt;have B2:=yi b.length;have C4:=zsc b.length;clear h hb hr hd;go_enter func220,ntmps220;obtain⟨X,hX⟩:=zx (w.heap.size);obtain⟨W,hW⟩:=zx (w.alloc (.cells #[.int .i64 0,.int .i64 0,.int .i64 0] 152));have bW:Below w.heap.size w W:=by rw[hW];exact(Below.refl _ _).alloc (Nat.le_refl _) _
 have rX:Row W X 152 [.int .i64 0,.int .i64 0,.int .i64 0]:=by rw[hW,hX];exact Row.made w _ _
 have B8:∀k∈I.all,k<X:=by rw[hX];exact C3
 have HS:Hid (yu W I S):=HH.below bW;have k1:=HS.row.cell (i:=1) rfl;have HX:=zh hX;have A7:=zh B8;have B3:=zh bW;have A0:=zh rX;have HW:=zh hW;have h0:(len:Int)=(b.length:Int):=by rw[HE.out]
 have A5:=zlv b.length W (by omega);rw[<-h0] at A5;have A6:=zh A5;obtain⟨n,hn⟩:=zx (jl b.length);rw[<-hn] at hq B2 C4 A6;have A4:=zh hn;clear hW hX bW rX B8 e0 A5 hn h0;go_wp2_with fail;rw[<-HW.out,<-HX.out];clear HW;go_call A6 as e w' ⟨rfl,rfl⟩;clear A6;have HF:=zh (zu9 _ _ _ _ W HS.out.bt (n:Int) (by omega));go_wp2_with fail;go_call HF as e w' ⟨⟨o,ho,rfl⟩,rfl⟩;clear HF
 have B9:qu S.b S.N n o:=by
  rcases ho with⟨h1,-⟩|⟨-,h1⟩
  ·omega
  ·rwa[Int.toNat_natCast] at h1
 have HO:=zh B9;clear ho B9;cases o with
 | none =>
  have x0:=A0.free 0;have x1:=A0.free 1;have x2:=A0.free 2;have y0:=A0.cell (i:=0) rfl;have y1:=A0.cell (i:=1) rfl;have y2:=A0.cell (i:=2) rfl;unfold zov;go_wp2_with fail;obtain⟨v3,A2⟩:=zx (((W.setCell ⟨X,0,none⟩ (.int .i64 0)).setCell ⟨X,1,none⟩ (.int .i64 0)).setCell ⟨X,2,none⟩ (.int .i64 0));have A3:Row v3 X 152 [.int .i64 0,.int .i64 0,.int .i64 0]:=by rw[A2];exact((A0.set 0 _).set 1 _).set 2 _
  have u3:Upd [X] W v3:=by rw[A2];exact(((Upd.refl [X] W).setCell (by simp) _).setCell (by simp) _).setCell (by simp) _
  rw[<-A2];have A8:=zh u3;clear A2 u3 y0 y1 y2 x0 x1 x2;have z0:=A3.cell (i:=0) rfl;have z1:=A3.cell (i:=1) rfl;have z2:=A3.cell (i:=2) rfl;clear A3
  (try simp only[Exit.inBlock,Exit.then])
  refine bodyPost_ret (by rw[Z2 rfl];go_simp;rfl) rfl ?_
  have B4:∀k∈I.all,k∉[X]:=λk hk hm=>by
   have:=A7.out k hk;simp at hm;omega
  refine .inl ⟨by rw[<-A4.out];exact HO,rfl,HS.keep A8 B4,?_⟩;refine Upd.new (m:=[X]) ((Upd.of_below B3).trans A8) (λj hj=>?_);have:=HX.out;simp at hj;omega
 | some F =>
  have B5:F+n<=S.N:=HO.out.1;have A9:jt S.b F n false:=HO.out.2.1;have B6:ze1 S.N (F:Int) (n:Int):=⟨by omega,by omega,by omega⟩;have A1:jt S.b (F:Int).toNat (n:Int).toNat false:=by rw[Int.toNat_natCast,Int.toNat_natCast];exact A9
  have hE:zqx S.b S.N (F:Int) (n:Int) false 3=0:=by unfold zqx;rw[if_pos B6,if_pos A1]
  have C0:zqy S.b S.N (F:Int) (n:Int) false=jx S.b F n true:=by unfold zqy;rw[if_pos ⟨B6,A1⟩,Int.toNat_natCast,Int.toNat_natCast];rfl
  have hT:=zur _ _ _ _ W HS.out.bt (F:Int) (n:Int) (by omega) (by omega) (by omega);unfold gz at hT;rw[hE,C0] at hT;have HT:=zh hT;clear B6 A9 A1 hE C0 hT;unfold zov;go_wp2_with fail;go_call HT as e wt ⟨rfl,hm,hu⟩;have C5:Hid (yu wt I { S with b:=jx S.b F n true }):=HS.bits hm hu;have C1:=zh hu
  have B0:X∉[I.bg]:=λhm=>by
   have:=A7.out I.bg (by simp[SpI.all]);simp at hm;omega
  have B7:=zh (A0.keep hu B0);clear hm hu B0 HT k1;have hL:=z1k C5.out F b (by rw[<-A4.out];exact B5) 0 (by rw[<-A4.out];exact hq) C2 a len cap HE.out HB.out (yy (HR.out.below B3.out) C1.out (λh0 y hy hm=>HD.out (by have:=HE.out;simp at h0;omega) y hy (by simp[SpI.all];simp at hm;omega))) B1 HD.out;rw[<-A4.out] at hL;have HL:=zh hL;clear hL;go_wp2_with fail;go_call HL as e wl ⟨rfl,hs,hu⟩;unfold exV;rw[<-A4.out,<-HE.out]
  have B0:X∉[I.d,I.dg,I.mp]:=λhm=>by
   have h1:=A7.out I.d (by simp[SpI.all]);have h2:=A7.out I.dg (by simp[SpI.all]);have h3:=A7.out I.mp (by simp[SpI.all]);simp at hm;omega
  have A0:=zh (B7.keep hu B0);have C6:=zh hs;have C7:=zh hu;clear hs hu B0 HL;have x0:=A0.free 0;have x1:=A0.free 1;have x2:=A0.free 2;have y0:=A0.cell (i:=0) rfl;have y1:=A0.cell (i:=1) rfl;have y2:=A0.cell (i:=2) rfl;go_wp2;obtain⟨v3,A2⟩:=zx (((wl.setCell ⟨X,0,none⟩ (.int .i64 F)).setCell ⟨X,1,none⟩ (.int .i64 n)).setCell ⟨X,2,none⟩ (.int .i64 len));have A3:Row v3 X 152 [.int .i64 F,.int .i64 n,.int .i64 len]:=by rw[A2];exact((A0.set 0 _).set 1 _).set 2 _
  have u3:Upd [X] wl v3:=by rw[A2];exact(((Upd.refl [X] wl).setCell (by simp) _).setCell (by simp) _).setCell (by simp) _
  rw[<-A2];have A8:=zh u3;clear A2 u3 y0 y1 y2 x0 x1 x2;have z0:=A3.cell (i:=0) rfl;have z1:=A3.cell (i:=1) rfl;have z2:=A3.cell (i:=2) rfl;clear A3
  (try simp only[Exit.inBlock,Exit.then])
  refine bodyPost_ret (by rw[Z2 rfl];go_simp;rfl) rfl ?_
  have B4:∀k∈I.all,k∉[X]:=λk hk hm=>by
   have:=A7.out k hk;simp at hm;omega
  refine .inr ⟨F,by rw[<-A4.out];exact HO.out,by rw[<-A4.out,<-HE.out];rfl,?_,?_⟩
  ·have:=C6.out.keep A8.out B4;unfold zwh;rw[<-A4.out];exact this
  ·refine Upd.new (m:=[I.d,I.dg,I.mp,I.bg,X]) ((((Upd.of_below B3.out).trans (C1.out.mono (by simp))).trans (C7.out.mono (by simp))).trans (A8.out.mono (by simp))) (λj hj=>?_);have:=HX.out;simp at hj ⊢;omega
def zzb(n:Nat):SpS:=⟨n,0,0,List.replicate (64*n) 0,λ_=>false,0,λ_=>false⟩
theorem z48(n:Nat)(w:World)(hn:n<=20000):Calls prog 72 #[.int .i64 n] w λe w'=>∃I,e=.returned (.tuple #[.pointer (some ⟨I.m,0,none⟩),.int .i64 0])/\yu w' I (zzb n)/\(∀k∈I.all,w.heap.size<=k)/\Upd [] w w':=by
 have A4:=@run_makeMap prog;have HN:=zh (zx4 n w hn);go_enter func72,ntmps72;go_wp2_with fail;go_call HN as e w1 ⟨d,dg,rfl,h1,h2,hd,hu⟩;have HD:=zh hd;have HU:=zh hu;have HG:=zh (And.intro h1 h2);clear HN hd hu h1 h2;have HB:=zh (zvk n w1 (by omega));go_wp2_with fail;go_call HB as e w2 ⟨bm,bg,rfl,h1,h2,hm,hu⟩;have HM:=zh hm;have A1:=zh hu;have A2:=zh (And.intro h1 h2);clear HB hm hu h1 h2;go_wp2_with fail;obtain⟨w4,A0⟩:=zx (((w2.alloc (.map #[] 0)).alloc (.cells #[.pointer (some ⟨d,0,none⟩),.pointer (some ⟨bm,0,none⟩),.map (some w2.heap.size)] 194)));rw[<-A0];go_ret2;have hb:Below w2.heap.size w2 w4:=by rw[A0];exact((Below.refl _ _).alloc (Nat.le_refl _) _).alloc (by simp) _
 have A3:=HD.out.keep A1.out (by simp) (by simp);have l1:=HD.out.head.lt;have l2:=HD.out.data.lt;have l3:=HM.out.head.lt;have l4:=HM.out.data.lt;have g1:=HG.out;have g2:=A2.out;have s1:=HU.out.size;have s2:=A1.out.size;have n1:=HD.out.ne;have n2:=HM.out.ne;refine⟨⟨w2.heap.size+1,d,dg,bm,bg,w2.heap.size⟩,rfl,⟨?_,A3.keep (l:=[]) (.of_below hb) (by simp) (by simp),HM.out.keep (l:=[]) (.of_below hb) (by simp) (by simp),?_,?_⟩,?_,(HU.out.trans A1.out).trans (.of_below hb)⟩
 ·rw[A0];have:=Row.made (w2.alloc (.map #[] 0)) [.pointer (some ⟨d,0,none⟩),.pointer (some ⟨bm,0,none⟩),.map (some w2.heap.size)] 194;simpa using this
 ·rw[A0];exact(ji.made w2).keep (l:=[]) ((Upd.refl _ _).alloc _) (by simp)
 ·simp[SpI.all];omega
 ·intro k hk;simp[SpI.all] at hk;omega
theorem z19{w:World}{I:SpI}{S:SpS}(h:yu w I S):Calls prog 104 #[.pointer (some ⟨I.m,0,none⟩)] w λe w'=>e=.returned (.int .i64 (ki S.b S.N))/\w=w':=by
 have k1:=h.row.cell (i:=1) rfl;have HT:=zh (z1q _ _ _ _ w h.bt);clear h;go_enter func104,ntmps104;go_wp2_with fail;go_call HT as e w' ⟨rfl,rfl⟩;go_wp2;go_ret;exact⟨rfl,rfl⟩
def kb1:Nat->Bool:=jx (λ_=>false) 0 2 true
def kb2:Nat->Bool:=jx kb1 2 1 true
def z6w:List Int:=List.replicate 65 0
def ks1:SpS:=zwh (zzb 3) 0 z6w
def ks2:SpS:=zwh ks1 2 []
theorem kf1:qu (zzb 3).b (zzb 3).N 2 (some 0):=by show qu (λ_=>false) 3 2 (some 0);decide
theorem kf2:qu ks1.b ks1.N 1 (some 2):=by show qu kb1 3 1 (some 2);decide
theorem kf3:qu ks2.b ks2.N 1 none:=by
 show qu kb2 3 1 none
 intro a h;have:a=0\/a=1\/a=2:=by omega
 rcases this with rfl|rfl|rfl<;>decide
theorem kf4:ki ks2.b ks2.N=3:=by show ki kb2 3=3;decide
end Go.Proofs.YtoeibiahbenpcaaGreatDoor
