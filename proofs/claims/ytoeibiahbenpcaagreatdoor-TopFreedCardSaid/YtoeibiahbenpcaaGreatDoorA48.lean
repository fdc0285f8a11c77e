/- The statement TopFreedCardSaid of the law webstertop.TopFreed: for every input the call returns true and each argument reads as before; the two package-level tables are tied to the program's text. -/
import Derived.Test.YtoeibiahbenpcaaGreatDoorA47
import Derived.Test.YtoeibiahbenpcaaGreatDoorCards
import Derived.Test.YtoeibiahbenpcaaGreatDoorTie
import Derived.Lib.SmallJoins
import Derived.Lib.LaidTab
import Derived.WalkKit
import Derived.ProofKit
import Derived.ShutString
import Derived.ChangeOld
import Derived.Below
import Derived.Deep.DeepHandedRow
namespace Go.Proofs.YtoeibiahbenpcaaGreatDoor.topFreed
open RowKit Maps Proofs.Tryz
set_option linter.unusedVariables false
set_option maxRecDepth 99999
set_option maxHeartbeats 9000000
section
open Go.ChangeShapes Go.WideShapes Go.ChangeAt Go.RowKit
theorem own:ownKnob prog.godebug=none:=by kernel_rfl
theorem laidOut:laidOutB prog=true:=by kernel_rfl
theorem gSpans:prog.globalNamed "webster/code.spans" = some 0:=by kernel_rfl
theorem gStores:prog.globalNamed "webster/code.stores" = some 1:=by kernel_rfl
theorem tSpans:(prog.globals[0]?).map (·.type)=some 285:=by kernel_rfl
theorem tStores:(prog.globals[1]?).map (·.type)=some 287:=by kernel_rfl
theorem lots{α:Type}{k:Nat}(R:α->List Value):∀(zs:List α) (cs:List Value),cs.length=zs.length*k->(∀i z,zs[i]?=some z->(cs.drop (i*k)).take k=R z)->cs=zs.flatMap R
 | [],cs,hl,_=>by
  have:cs.length=0:=by simpa using hl
  simp[List.length_eq_zero_iff.1 this]
 | z::zs,cs,hl,h=>by
  have h0:=h 0 z rfl;simp only[Nat.zero_mul,List.drop_zero] at h0
  have ih:=lots (k:=k) R zs (cs.drop k) (by rw[List.length_drop,hl,List.length_cons,Nat.succ_mul];omega) (λi y hy=>by
   have:=h (i+1) y (by simpa using hy);rw[List.drop_drop];rw[Nat.succ_mul,Nat.add_comm] at this
   exact this)
  rw[List.flatMap_cons,<-ih,<-h0,List.take_append_drop]
theorem arr_cells{H:Type}{enc:TypeId×Value->H}{P:Program}{w:World}{base:Nat}{sp:Nat->Bool}{held:Bool}{fuel n k:Nat}{t e:TypeId}{cs:List Value}{α:Type}(ht:P.underlying t=some (.array n e))(hk:P.cellsOf e=k)(A1:P.cellsOf t=n*k)
 (E:α->DataW H) (R:α->List Value) (A2:∀m vs z p,DataW.trod enc P w base sp held m e vs=some (E z,p)->vs=R z) (zs:List α) {p:List MemPlace} (h:DataW.trod enc P w base sp held fuel t cs=some (.agg (zs.map E),p)):cs=zs.flatMap R:=by
 obtain⟨xs,m,-,hx,hl,hn,hi⟩:=DataW.trod_array ht h
 have hm:zs.map E=xs.map (·.1):=by
  have:=(Prod.mk.inj hx).1;injection this
 have A0:zs.length=n:=by rw[<-hn,<-List.length_map (f:=E),hm,List.length_map]
 refine lots (k:=k) R zs cs (by rw[hl,A1,A0]) (λi z hz=>?_);have A3:i<n:=by rw[<-A0];exact(List.getElem?_eq_some_iff.1 hz).1
 have h1:=hi i A3;rw[hk] at h1;have h2:(xs.map (·.1))[i]?=some (E z):=by rw[<-hm,List.getElem?_map,hz];rfl
 rw[List.getElem?_map] at h2;obtain⟨⟨d,q⟩,hd,he⟩:=Option.map_eq_some_iff.1 h2;rw[hd] at h1;simp only at he;subst he;exact A2 m _ z q h1
theorem span_cells{H:Type}{enc:TypeId×Value->H}{w:World}{base:Nat}{sp:Nat->Bool}{held:Bool}(m:Nat)(vs:List Value)(z:Int×Int×Int)(p:List MemPlace)
 (h:DataW.trod enc prog w base sp held m 284 vs=some (.agg [.lit (.int .i64 z.1),.lit (.int .i64 z.2.1),.lit (.int .i64 z.2.2)],p)):vs=[.int .i64 z.1,.int .i64 z.2.1,.int .i64 z.2.2]:=by
 obtain⟨ys,n3,_,A3,A2,A4,hf⟩:=DataW.trod_struct underlying284 h;have A5:(prog).cellsOf 284=3:=by kernel_rfl
 rw[A5] at A2
 obtain⟨v0,v1,v2,rfl⟩:∃a b c,vs=[a,b,c]:=by
  match vs,A2 with
  | [a,b,c],_=>exact⟨a,b,c,rfl⟩
 have A0:ys.length=3:=by rw[A4];rfl
 obtain⟨y0,y1,y2,rfl⟩:∃a b c,ys=[a,b,c]:=by
  match ys,A0 with
  | [a,b,c],_=>exact⟨a,b,c,rfl⟩
 have A1:(prog).cellsOf 3=1:=by kernel_rfl
 have t0:DataW.trod enc prog w base sp held n3 3 [v0]=some y0:=by
  have:=show DataW.trod enc prog w base sp held n3 3 (([v0,v1,v2].drop 0).take ((prog).cellsOf 3))=some y0 from hf 0 _ rfl
  rw[A1] at this;exact this
 have t1:DataW.trod enc prog w base sp held n3 3 [v1]=some y1:=by
  have:=show DataW.trod enc prog w base sp held n3 3 (([v0,v1,v2].drop 1).take ((prog).cellsOf 3))=some y1 from hf 1 _ rfl
  rw[A1] at this;exact this
 have t2:DataW.trod enc prog w base sp held n3 3 [v2]=some y2:=by
  have:=show DataW.trod enc prog w base sp held n3 3 (([v0,v1,v2].drop 2).take ((prog).cellsOf 3))=some y2 from hf 2 _ rfl
  rw[A1] at this;exact this
 obtain⟨a,e0,rfl,-⟩:=DataW.trod_int underlying3 t0;obtain⟨b,e1,rfl,-⟩:=DataW.trod_int underlying3 t1;obtain⟨c,e2,rfl,-⟩:=DataW.trod_int underlying3 t2;have:=(Prod.mk.inj A3).1;simp only[List.map_cons,List.map_nil,DataW.agg.injEq,List.cons.injEq,DataW.lit.injEq,Lit.int.injEq,true_and,and_true] at this;simp only[List.cons.injEq,and_true] at e0 e1 e2;rw[e0,e1,e2,this.1,this.2.1,this.2.2]
def spansZ:List (Int×Int×Int):=[(0,15,1),(16,31,2),(32,63,3),(64,95,4),(96,103,8),(104,111,9),(176,191,25),(192,207,26)]
def storesZ:List (List Int):=[[1,2,3,4],[5,6,0,7],[8,9,0,10]]
theorem var_heap{P:Program}{w:World}{n:String}{g:Nat}{cs:Array Value}(hg:P.globalNamed n=some g)(h:w.var? P n=some cs):∃t f,w.heap[g]?=some (.cells cs t f):=by
 simp only[World.var?,hg,Option.bind_some] at h;split at h
 ·next cs' t f he=>cases h;exact⟨t,f,he⟩
 ·cases h
theorem glb_of_laid{W:World}(h:laidMetH prog Rows.topFreedRow.laid W):Glb W:=by
 rw[MakeChecks.laidMetH_plain _ _ _ (by kernel_rfl)] at h;obtain⟨ps,⟨g0,t0,cs0,f0,p0,q0,A0,A2,A3,A4,⟨g1,t1,cs1,f1,p1,q1,A1,A5,A6,A7,_,_⟩,_⟩,_,_⟩:=h;obtain rfl:=Option.some.inj (gSpans.symm.trans A0);obtain rfl:=Option.some.inj (gStores.symm.trans A1);obtain rfl:=Option.some.inj (tSpans.symm.trans A2);obtain rfl:=Option.some.inj (tStores.symm.trans A5);have c0:=arr_cells (k:=3) underlying285 (by kernel_rfl) (by kernel_rfl) (λz:Int×Int×Int=>.agg [.lit (.int .i64 z.1),.lit (.int .i64 z.2.1),.lit (.int .i64 z.2.2)]) _ (λm vs z p=>span_cells m vs z p) spansZ A4;have c1:=arr_cells (k:=4) underlying287 (by kernel_rfl) (by kernel_rfl) (Lib.tabData .i64) (λz:List Int=>z.map (Value.int .i64)) (λm vs z p hh=>Lib.cells_of_tab underlying286 underlying3 (by kernel_rfl) (by kernel_rfl) hh) storesZ A7;obtain⟨t,f,e0⟩:=var_heap A0 A3;obtain⟨t',f',e1⟩:=var_heap A1 A6;refine⟨⟨t,f,?_⟩,t',f',?_⟩
 ·rw[e0,<-Array.toArray_toList (xs:=cs0),c0];rfl
 ·rw[e1,<-Array.toArray_toList (xs:=cs1),c1];rfl
theorem open_objs{H:Type}{enc:TypeId×Value->H}{w:World}{base:Nat}{spare:Nat->Bool}{held:Bool}{fuel:Nat}{cs:List Value}{x:DataW H×List MemPlace}
 (h:DataW.trod enc prog w base spare held fuel 22 cs=some x):∃(a:Option Addr) (n c:Nat) (ds:List Za),cs=[.slice a n c]/\yf w a n c ds:=by
 rcases Go.Deep.open_slice underlying22 h with⟨rfl,_⟩|⟨ad,n,c,m,n2,D,Pl,rfl,_,hn,hc,A5,hx,hi⟩
 ·exact⟨none,0,0,[],rfl,rfl,⟨Nat.le_refl _,Nat.zero_le _⟩,λi d h=>by simp at h,λd hd=>by cases hd⟩
 have hd:∀i,i<n->∃d:Za,(∃ad',some ad=some ad'/\∀j v,(kq d)[j]?=some v->w.cell? (ad'.add (i*4+j))=some v)/\d.ok w:=λi B4=>by
  have A6:i<m:=by rw[A5];split<;>omega
  obtain⟨vs,A7,A8⟩:=hi i A6;obtain⟨_,A2,A3⟩:=World.cells?_some A7;have A9:(prog).cellsOf 28=4:=by kernel_rfl
  rw[A9] at A2 A3;obtain⟨ys,n3,_,B5,_,B0,hf⟩:=DataW.trod_struct underlying28 A8
  obtain⟨v0,v1,v2,v3,rfl⟩:∃a b c d,vs=[a,b,c,d]:=by
   match vs,A2 with
   | [a,b,c,d],_=>exact⟨a,b,c,d,rfl⟩
  have A1:ys.length=4:=by rw[B0];rfl
  obtain⟨y0,y1,y2,y3,rfl⟩:∃a b c d,ys=[a,b,c,d]:=by
   match ys,A1 with
   | [a,b,c,d],_=>exact⟨a,b,c,d,rfl⟩
  have A4:(prog).cellsOf 3=1:=by kernel_rfl
  have B1:(prog).cellsOf 25=1:=by kernel_rfl
  have B2:(prog).cellsOf 26=1:=by kernel_rfl
  have t0:DataW.trod enc prog w base spare held n3 3 [v0]=some y0:=by
   have:=show DataW.trod enc prog w base spare held n3 3 (([v0,v1,v2,v3].drop 0).take ((prog).cellsOf 3))=some y0 from hf 0 _ rfl
   rw[A4] at this;exact this
  have t1:DataW.trod enc prog w base spare held n3 3 [v1]=some y1:=by
   have:=show DataW.trod enc prog w base spare held n3 3 (([v0,v1,v2,v3].drop 1).take ((prog).cellsOf 3))=some y1 from hf 1 _ rfl
   rw[A4] at this;exact this
  have t2:DataW.trod enc prog w base spare held n3 25 [v2]=some y2:=by
   have:=show DataW.trod enc prog w base spare held n3 25 (([v0,v1,v2,v3].drop 2).take ((prog).cellsOf 25))=some y2 from hf 2 _ rfl
   rw[B1] at this;exact this
  have t3:DataW.trod enc prog w base spare held n3 26 [v3]=some y3:=by
   have:=show DataW.trod enc prog w base spare held n3 26 (([v0,v1,v2,v3].drop 3).take ((prog).cellsOf 26))=some y3 from hf 3 _ rfl
   rw[B2] at this;exact this
  obtain⟨cls,rfl,wc⟩:=zjn underlying3 t0;obtain⟨kind,rfl,wk⟩:=zjn underlying3 t1;obtain⟨a,an,ac,W,rfl,h1,h2,h3,h4,h5⟩:=zgy underlying25 underlying3 (by kernel_rfl) t2;obtain⟨b,bn,bc,B,rfl,g1,g2,g3,g4,g5⟩:=zgy underlying26 underlying5 (by kernel_rfl) t3;unfold maxLen at h3 g3
  have A0:∀j,j<4->w.cell? (ad.add (i*4+j))=[Value.int .i64 cls,.int .i64 kind,.slice a an ac,.slice b bn bc][j]?:=λj hj=>by
   have:=A3 j hj;rw[Go.Deep.add_add] at this;exact this
  refine⟨⟨cls,kind,a,an,ac,W,b,bn,bc,B⟩,⟨ad,rfl,λj v hv=>?_⟩,⟨bounds_i64 wc,bounds_i64 wk,h1,⟨h2,h3⟩,h4,λx hx=>bounds_i64 (h5 x hx),g1,⟨g2,g3⟩,g4,λx hx=>bounds_u8 (g5 x hx)⟩⟩;have hj:j<4:=(List.getElem?_eq_some_iff.1 hv).1;rw[A0 j hj];exact hv
 obtain⟨ds,hl,hp⟩:=zs7 hd;refine⟨some ad,n,c,ds,rfl,hl.symm,⟨hn,hc⟩,qr.mk (λd=>by simp[kq]) (λi d hid=>(hp i d hid).1),λd B3=>?_⟩;obtain⟨i,hi,rfl⟩:=List.getElem_of_mem B3;exact(hp i _ (ze hi)).2
theorem open_img{H:Type}{enc:TypeId×Value->H}{w:World}{base:Nat}{spare:Nat->Bool}{held:Bool}{r:_root_.Go.Reach}{b0:Nat}{v:Value}{d:DataW H}{p:List MemPlace}
 (hv:Value.okWide prog w r b0 24 v) (h:DataW.Trod enc prog w base spare held 24 v d p):∃(a:Option Addr) (n c:Nat) (l:List Za) (fr:Int),v=.agg #[.slice a n c,.int .i64 fr]/\yf w a n c l/\-9223372036854775808<=fr/\fr<=9223372036854775807:=by
 obtain⟨v0,v1,y0,y1,n,rfl,-,-,t0,t1⟩:=Go.Joins.open_agg2 underlying24 (by kernel_rfl) (by kernel_rfl) hv h;obtain⟨fr,rfl,wf⟩:=zjn underlying3 t1;obtain⟨a,k,c,l,e,ho⟩:=open_objs t0;simp only[List.cons.injEq,and_true] at e;subst e;exact⟨a,k,c,l,fr,rfl,ho,bounds_i64 wf⟩
theorem contract(H:Type)(enc:TypeId×Value->H)(W:World)(base:Nat)(args:Array Value)(ds gs:List (DataW H))(before:List MemPlace)
 (A0:∀(j:Nat) t v,Tryz.f3.params[j]?=some t->args[j]?=some v->Value.okWide prog W .any base t v)
 (hW:DataW.Whole enc prog Tryz.f3.params.toList Rows.topFreedSpec.vars false W args.toList ds gs before) (hL:laidMetH prog Rows.topFreedRow.laid W) :
 Calls prog 3 args W λe W'=>∃v,e=.returned v/\Rows.topFreedSpec.post enc prog Tryz.f3 false true false false W args v W':=by
 have A3:=hW;obtain⟨p,q,A1,hV,rfl,A4,A5⟩:=hW;have hA:DataW.TrodAll enc prog W 0 (λ_=>true) true Tryz.f3.params.toList args.toList ds p:=A1;rw[params3] at hA A0;obtain⟨v0,vs0,d0,ds0,p0,q0,A2,rfl,rfl,h0,r0⟩:=trodAll_cons hA;obtain⟨v1,vs1,d1,ds1,p1,q1,rfl,rfl,rfl,h1,r1⟩:=trodAll_cons r0;obtain⟨v2,vs2,d2,ds2,p2,q2,rfl,rfl,rfl,h2,r2⟩:=trodAll_cons r1;obtain⟨v3,vs3,d3,ds3,p3,q3,rfl,rfl,rfl,h3,r3⟩:=trodAll_cons r2;obtain⟨rfl,rfl,rfl⟩:=trodAll_nil r3;obtain rfl:args=#[v0,v1,v2,v3]:=by cases args;simp_all
 obtain⟨rfl,rfl⟩:=trodVars_none hV;have k0:=h0;have k1:=h1;have lt0:∀x∈p0,x.block<W.heap.size:=by obtain⟨m,hm⟩:=k0;exact DataW.trod_lt m _ _ _ hm
 have lt1:∀x∈p1,x.block<W.heap.size:=by obtain⟨m,hm⟩:=k1;exact DataW.trod_lt m _ _ _ hm
 obtain⟨a,n,c,l,fr,rfl,ho,f0,f1⟩:=open_img (A0 0 24 v0 rfl rfl) h0;obtain⟨la,ln,lc,rfl⟩:=okWide_slice underlying25 (A0 1 25 v1 rfl rfl)
 obtain⟨ls,g1,g2,g3,g4,g5⟩:∃ls:List Int,ln=ls.length/\ln<=lc/\lc<=maxLen/\zv W la lc (ls.map (Value.int .i64))/\∀x∈ls,(Lit.int .i64 x).wf=true:=by
  obtain⟨m,hm⟩:=h1;obtain⟨a',n',c',l',e,i1,i2,i3,i4,i5⟩:=zgy underlying25 underlying3 (by kernel_rfl) hm;simp only[Value.slice.injEq] at e;obtain⟨rfl,rfl,rfl⟩:=e;exact⟨l',i1,i2,i3,i4,i5⟩
 obtain⟨wd,rfl,e2,e2',ww⟩:=open_int underlying5 (A0 2 5 v2 rfl rfl) h2;obtain⟨sl,rfl,e3,e3',ws⟩:=open_int underlying5 (A0 3 5 v3 rfl rfl) h3;have b2:=bounds_u8 ww;have b3:=bounds_u8 ws;clear A1;unfold maxLen at g3;refine(zq3 W (glb_of_laid hL) a n c l fr ho f0 f1 la ln lc ls g1 g2 (by omega) g4 (λx hx=>bounds_i64 (g5 x hx)) wd sl b2.1 b2.2 b3.1 b3.2).mono λe W' ⟨he,bel⟩=>?_
 subst he
 exact⟨_,rfl,_,_,_,[],_,[],A3,trodAll_mk1 (shut_bool underlying4 _),
  (trodAll_cons_mk (Below.trod laidOut (by kernel_rfl) (of_decide_eq_true (by kernel_rfl)) k0 bel lt0) (trodAll_cons_mk (Below.trod laidOut (by kernel_rfl) (of_decide_eq_true (by kernel_rfl)) k1 bel lt1) (trodAll_cons_mk (by rw[e2];exact shut_int underlying5 ww) (trodAll_cons_mk (by rw[e3];exact shut_int underlying5 ws) trodAll_mk0)))),rfl,bel.frame _,λh=>by cases h⟩
def layC(cs:Array Value):Obj->Obj
 | .cells _ t frozen=>.cells cs t frozen
 | o=>o
noncomputable def laidWorld(os:Os):World :=
 { World.holding prog os ⟨#[],#[],[]⟩ with heap:=((World.holding prog os ⟨#[],#[],[]⟩).heap.modify 0 (layC zy6.toArray)).modify 1 (layC zr5.toArray) }
def wArgs:Array Value:=#[.agg #[.slice none 0 0,.int .i64 0],.slice none 0 0,.int .u8 0,.int .u8 0]
theorem laid_met(os:Os):laidMet prog Rows.topFreedRow.laid ((laidWorld os).forCall (λ_ _=>0) ⟨#[],wArgs,[]⟩).memory :=
 laidMet_of_run' 8 (by kernel_rfl) (by kernel_rfl)
theorem reads(os:Os){H:Type}(enc:TypeId×Value->H):∃places,DataW.whole enc prog ((laidWorld os).forCall (λ_ _=>0) ⟨#[],wArgs,[]⟩).memory Tryz.f3.params.toList Rows.topFreedSpec.vars false wArgs.toList 8=some ([.agg [.nil,.lit (.int .i64 0)],.nil,.lit (.int .u8 0),.lit (.int .u8 0)],[],places) :=
 ⟨[],by kernel_rfl⟩
theorem lifted(os:Os)(started:os.Started)(H:Type)(enc:TypeId×Value->H)(F:Stop.Interp) :
 ReturnsInHanded {} checked os 3 .any ((OpenSpec.ofChange Rows.topFreedSpec).preRow enc prog Tryz.f3 Rows.topFreedRow.domain false Rows.topFreedRow.laid) (((OpenSpec.ofChange Rows.topFreedSpec).at F).post enc prog Tryz.f3 false true false false):=by
 obtain⟨places,hx⟩:=reads os enc
 refine returnsInHanded_of_row (C:=checked) (s:=OpenSpec.ofChange Rows.topFreedSpec) own started (by kernel_rfl) func3
  (witness_row_at (enc:=enc) (C:=checked) false (laidWorld os) wArgs rfl (by kernel_rfl) (by kernel_rfl) (by kernel_rfl)
   (OpenSpec.preRow_of_cond 8 hx (by kernel_rfl) (λk hk=>by cases hk) (by kernel_rfl) (laid_met os))) ?_
 intro W base args ds gs before A0 hW _ _ _ hL _ _;exact contract H enc W base args ds gs before A0 hW hL
theorem said:Rows.TopFreedSaid :=
 OpenClaim.holds_of_cond 3 Tryz.f3 rfl rfl rfl rfl rfl rfl rfl ⟨rfl,rfl,rfl,rfl,rfl⟩ rfl rfl rfl rfl rfl (by kernel_rfl) func3 (by kernel_rfl)
  (of_decide_eq_true (by kernel_rfl)) (by unfold Func.isWrapper;first|(rw[if_pos (by decide +kernel)];kernel_rfl)|(rw[if_neg (by decide +kernel)];exact⟨rfl,rfl⟩))
  (λos started H enc _ F=>by rw[OpenClaim.pre_eq_preRow];exact lifted os started H enc F)
theorem plain(f:FuncId)(fn:Func)(hf:Tryz.pinned.checked.prog.funcNamed "webster/webstertop.TopFreed" = some f)(A0:Tryz.pinned.checked.prog.funcs[f]?=some fn) :
 false=Tryz.pinned.checked.prog.looks []/\∀(j:Nat) t,fn.params[j]?=some t->Tryz.pinned.checked.prog.wantsStandIn t=false:=by
 obtain rfl:f=3:=Option.some.inj ((show prog.funcNamed "webster/webstertop.TopFreed" = some 3 by kernel_rfl).symm.trans hf) |>.symm
 obtain rfl:fn=Tryz.f3:=(Option.some.inj (func3.symm.trans A0)).symm;refine⟨by kernel_rfl,λj t ht=>?_⟩;rw[params3] at ht;have hm:=Array.mem_of_getElem? ht;simp only[List.mem_toArray,List.mem_cons,List.not_mem_nil,or_false] at hm;rcases hm with rfl|rfl|rfl|rfl
 ·exact(show prog.wantsStandIn 24=false by kernel_rfl)
 ·exact(show prog.wantsStandIn 25=false by kernel_rfl)
 ·exact(show prog.wantsStandIn 5=false by kernel_rfl)
 ·exact(show prog.wantsStandIn 5=false by kernel_rfl)
theorem proved:Rows.TopFreedCardSaid :=
 Claim7.holds_tied_plain_at .later [] _ _ _ _ said (λ_ h=>by cases h) (by kernel_rfl) (λ_ h=>by cases h) topFreed_row_tie rfl ⟨rfl,rfl⟩ (by kernel_rfl) rfl plain (by kernel_rfl)
#print axioms proved
end
end Go.Proofs.YtoeibiahbenpcaaGreatDoor.topFreed
