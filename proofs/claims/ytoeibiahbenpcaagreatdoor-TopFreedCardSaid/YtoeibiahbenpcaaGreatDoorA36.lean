/- Part. -/
import Derived.Test.YtoeibiahbenpcaaGreatDoorA35
namespace Go.Proofs.YtoeibiahbenpcaaGreatDoor
open RowKit Maps Proofs.Tryz
set_option linter.unusedVariables false
set_option maxRecDepth 99999
set_option maxHeartbeats 9000000
theorem za7{w w':World}{b:Nat}(gr:w.grownBy w' (some b)):Upd [b] w w':=⟨gr.os,gr.tape,gr.output,gr.size,λk hk hn=>gr.block k hk (λe=>hn (by simp at e;simp[e]))⟩
theorem zd5{w w':World}(gr:w.grownBy w' none){l:List Nat}:Upd l w w':=⟨gr.os,gr.tape,gr.output,gr.size,λk hk _=>gr.block k hk (by simp)⟩
def zv8(w:World)(b r:Nat)(l:List KV)(L:Int->Bool)(cnt:Nat):Prop :=
 ∃left n,w.ranges prog 3 zn7 b r n (kvD l) left cnt/\∀x,wfK x->left (.int .i64 x)=L x
section
variable{w w':World}{b r:Nat}{l:List KV}{L:Int->Bool}{cnt:Nat}
theorem zv8.left_eq(h:zv8 w b r l L cnt):w.rangeLeft b r=cnt:=by
 obtain⟨left,n,h1,-⟩:=h;exact h1.left_eq
theorem zca{ops:Array Oper}{rest:List Oper}{o:Oper}{a:Act}{Q:Exit->Act->World->Prop}(h:qi w b l)(hg:o.guard=none)(m:Operand)(T:TypeId)(A0:o.op=Op.range T m)(E:TypeId)(ht:(prog).underlying T=some (.map 3 E))(hm:a.eval m=.map (some b))
 (hK:∀w',zv8 w' b w.heap.size l (λx=>(zw l x).isSome) l.length->Below w.heap.size w w'->wpList prog ops Q rest (a.put o.dst (.pointer (some ⟨w.heap.size,0,none⟩))) w'):wpList prog ops Q (o::rest) a w:=by
 refine wpList_range_own w hg m T A0 3 E zbe ht zn7 b l.length (kvD l) hm h.own ?_;intro w' h1 h2 h3;refine hK w' ⟨_,_,by rw[<-zi4];exact h1,λx _=>zgg l x⟩ ((zd5 h2 (l:=[])).below (Nat.le_refl _) (by simp))
theorem zc1{ops:Array Oper}{rest:List Oper}{o:Oper}{a:Act}{Q:Exit->Act->World->Prop}(h:zv8 w b r l L cnt)(hg:o.guard=none)(it:Operand)(A5:o.op=Op.next it false)(A6:a.eval it=.pointer (some ⟨r,0,none⟩))
 (A0:(∀x,wfK x->L x=false)->wpList prog ops Q rest (a.put o.dst (.tuple #[.bool false])) w)
 (A1:∀x v w' cnt',wfK x->L x=true->zw l x=some v->zv8 w' b r l (λz=>L z && !decide (z=x)) cnt'->cnt'<cnt->Upd [r] w w'->w'.heap.size=w.heap.size->(Instr.entry (.pointer (some ⟨r,0,none⟩))).run prog w'=.ok (.tuple #[.int .i64 x,v]) w'->wpList prog ops Q rest (a.put o.dst (.tuple #[.bool true,.int .i64 x,v])) w'):wpList prog ops Q (o::rest) a w:=by
 obtain⟨left,n,h1,h2⟩:=h;refine wpList_next_ranges w hg it A5 3 zbe zn7 id id (λkey _ _=>⟨key,rfl⟩) (λv _ _=>⟨v,rfl⟩) b r n (kvD l) left cnt A6 h1 ?_ ?_
 ·intro _ hl;exact A0 (λx hx=>by rw[<-h2 x hx];exact hl _)
 ·intro key v kl y w' cnt' A2 A4 hv A7 A8 A9 B0 B1 B2;obtain⟨x,rfl,rfl,B3⟩:=Maps.keyOf_int_inv underlying3 A2;have hx:wfK x:=B3
  have B4:zw l x=some v:=by
   refine zdl ?_ (λz=>?_)
   ·have A3:Maps.has (kvD l) (.int .i64 x)=true:=by
     obtain⟨es,clock,since,seen,c0,hb,F,hs,hD,hr,_,_,_,B5,_⟩:=h1;obtain⟨e,he,B6⟩:=B5 _ A4;rw[hD];exact List.any_eq_true.2 ⟨_,mem_sorted.2 (List.mem_map.2 ⟨e,he,rfl⟩),by rw[B6];simp[Lit.sameKey]⟩
    rw[A3];rfl
   ·rw[A7 (.held z)];unfold zn7 at hv;simp at hv;rw[<-hv];rfl
  refine A1 x v w' cnt' hx (by rw[<-h2 x hx];exact A4) B4 ⟨_,n,A8,λz hz=>?_⟩ A9 (za7 B0) B1 B2;rw[h2 z hz,ze8]
end
theorem zjg{w:World}{base m mp made:Nat}{Y:List FE}(H:yc w base m mp Y made)(i:Nat):(zw (fKV Y) i).isSome=(zt (fTb Y) i).isSome:=by
 cases h:zt (fTb Y) i with
 | none =>
  rw[H.none_ (x:=i) (by unfold qz;rw[if_pos (by omega),Int.toNat_natCast];exact h)];rfl
 | some o =>
  obtain⟨e,he,h1,h2,h3⟩:=H.find h;rw[h3];rfl
theorem zng{Y:List FE}{x:Int}{v:Value}(h:zw (fKV Y) x=some v):∃e∈Y,x=e.id:=by
 have:=qg h;unfold fKV at this;obtain⟨e,he,h1⟩:=List.mem_map.1 this;cases h1
 exact⟨e,he,rfl⟩
structure NxW(l:List KV)(L:Int->Bool)(x le:Int):Prop where
 some_:∀k,(zw l k).isSome=true->L k=false->x<k->le≠0/\le<=k
 is_:le≠0->x<le/\(zw l le).isSome=true
section
variable{w w':World}{base m mp made:Nat}{Y:List FE}
theorem NxW.end_(H:yc w base m mp Y made){L:Int->Bool}{x le:Int}(h:NxW (fKV Y) L x le)(hl:∀z,wfK z->L z=false):nxV (nxA (zt (fTb Y)) made x)=.tuple #[.int .i64 (za1 le),.bool (decide (le > 0))]:=by
 have wf:∀k,(zw (fKV Y) k).isSome=true->∃e∈Y,k=e.id/\wfK k:=λk hk=>by
  obtain⟨v,hv⟩:=Option.isSome_iff_exists.1 hk;obtain⟨e,he,h1⟩:=zng hv;have:=H.ids e he;have:=H.few;exact⟨e,he,h1,za6 (by omega) (by omega)⟩
 by_cases h0:le=0
 ·subst h0;rw[zod (λk hk hx=>?_)]
  ·simp[nxV];decide
  ·cases ha:zt (fTb Y) k with
   | none=>rfl
   | some o =>
    have h1:(zw (fKV Y) k).isSome=true:=by rw[zjg H,ha];rfl
    obtain⟨e,he,h3,h4⟩:=wf _ h1;exact absurd rfl (h.some_ k h1 (hl _ h4) hx).1
 ·obtain⟨h1,h2⟩:=h.is_ h0;obtain⟨e,he,h3,h4⟩:=wf _ h2;subst h3;have hi:=H.ids e he;rw[zjg H] at h2;rw[zoc hi.2 h1 h2 (λj hj hx=>?_)]
  ·simp[nxV];omega
  ·cases ha:zt (fTb Y) j with
   | none=>rfl
   | some o =>
    have h5:(zw (fKV Y) j).isSome=true:=by rw[zjg H,ha];rfl
    obtain⟨e2,A0,h6,h7⟩:=wf _ h5;have:=(h.some_ j h5 (hl _ h7) hx).2;omega
theorem z17(H:yc w base m mp Y made)(o:Int)(b0:-9223372036854775808<=o)(b1:o<=9223372036854775807) :
 Calls prog 226 #[.pointer (some ⟨m,0,none⟩),.int .i64 o] w λe w'=>e=.returned (nxV (nxA (zt (fTb Y)) made (Zz o)))/\Below w.heap.size w w':=by
 have B0:=zh (λz=>jr o z b0 b1);have C1:=zh (λx z=>zhi x z);have A7:=zh (λL le (h:NxW (fKV Y) L (Zz o) le) hl=>NxW.end_ H h hl);have k0:=H.head.cell (i:=0) rfl;have ml:=H.head.lt
 have B1:Hid (∀k,(zw (fKV Y) k).isSome=true->0<k):=λk hk=>by
  obtain⟨v,hv⟩:=Option.isSome_iff_exists.1 hk;obtain⟨e,he,h1⟩:=zng hv;have:=H.ids e he;omega
 have HM:=zh H.map;have C4:=zh H.map.lt;obtain⟨l,hl⟩:=zx (fKV Y);rw[<-hl] at HM A7 B1;obtain⟨x,hx⟩:=zx (Zz o);rw[<-hx] at B0 A7 ⊢;clear H hl hx;go_enter func226,ntmps226;go_wp2_with fail;refine(B0 _).mono ?_;rintro e w' ⟨rfl,rfl⟩
 go_wp2_with (first
  | (at_range;refine zca HM rfl _ 70 rfl 93 underlying70 rfl ?_;intro w0 A2 B2)
  | go_in)
 go_frame;have B3:=zh A2;have B4:=zh B2;clear A2 B2;go_loopw [8,9] (λu _ wr=>∃L cnt le,u=.int .i64 le/\Hid (zv8 wr mp w.heap.size l L cnt)/\Hid (Below w.heap.size w wr)/\Hid (NxW l L x le)) (λ_ _ wr=>wr.rangeLeft mp w.heap.size)
 case atStart=>exact⟨_,_,0,rfl,B3.out,B4.out,⟨λk h1 h2=>(by rw[h1] at h2;cases h2),λh=>absurd rfl h⟩⟩
 case round =>
  obtain⟨L,cnt,le,rfl,HR,HB,HX⟩:=hrel;clear B3 B4 k0 ml
  go_wp2_with (first
   | (at_next;refine zc1 HR rfl _ rfl rfl ?_ ?_)
   | go_in)
  ·intro C2;have HV:=zh (A7 L le HX C2);go_wp2_with fail;refine(C1 _ _).mono ?_;rintro e w' ⟨rfl,rfl⟩;go_wp2;go_ret2;exact⟨by rw[HV.out];rfl,HB.out⟩
  ·intro k v w1 cnt1 C5 C6 B5 A1 A3 B6 C7 C8;have B7:Below w.heap.size w w1:=HB.out.trans (B6.below HB.out.size (by simp));have A4:=zh B7;have A5:=zh A1;have A6:wr.rangeLeft mp w.heap.size=cnt:=HR.out.left_eq;have A0:=A1.left_eq;have A8:(zw l k).isSome=true:=by rw[B5];rfl
   have stay:(x<k->le≠0/\le<=k)->NxW l (λz=>L z && !decide (z=k)) x le:=λh=>⟨λz h1 h2 h3=>by
    by_cases hz:z=k
    ·subst hz;exact h h3
    ·simp[hz] at h2;exact HX.some_ z h1 h2 h3,HX.is_⟩
   have zrn:x<k->(le=0\/k<le)->0<k->NxW l (λz=>L z && !decide (z=k)) x k:=λh0 h5 h6=>⟨λz h1 h2 h3=>by
    by_cases hz:z=k
    ·subst hz;omega
    ·simp[hz] at h2;have:=HX.out.some_ z h1 h2 h3
     omega,λ_=>⟨h0,A8⟩⟩
   have B8:=B1 k A8;have B9:=zh stay;have C0:=zh zrn;clear stay zrn B7 A1 B6 HR HB B5 A8 HX;by_cases A9:k > x
   ·by_cases h0:le=0
    ·have C3:(le == 0)=true:=by simp[h0]
     have HN:=zh (C0 A9 (.inl h0) B8);go_wp2;go_roundw
     case rel=>exact⟨_,cnt1,k,rfl,A5,A4,HN⟩
     case measure=>rw[A0,A6];exact A3
    ·have C3:(le == 0)=false:=by simp[h0]
     by_cases h2:k<le
     ·have HN:=zh (C0 A9 (.inr h2) B8);go_wp2;go_roundw
      case rel=>exact⟨_,cnt1,k,rfl,A5,A4,HN⟩
      case measure=>rw[A0,A6];exact A3
     ·have HN:=zh (B9.out (λ_=>by omega));go_wp2;go_roundw
      case rel=>exact⟨_,cnt1,le,rfl,A5,A4,HN⟩
      case measure=>rw[A0,A6];exact A3
   ·have HN:=zh (B9 (λh=>absurd h A9));go_wp2;go_roundw
    case rel=>exact⟨_,cnt1,le,rfl,A5,A4,HN⟩
    case measure=>rw[A0,A6];exact A3
end
section
variable{w w':World}{b r:Nat}{l:List KV}{L:Int->Bool}{cnt:Nat}
theorem zif{ops:Array Oper}{rest:List Oper}{o:Oper}{a:Act}{Q:Exit->Act->World->Prop}(h:zv8 w b r l L cnt){x:Int}(hx:wfK x)(hg:o.guard=none)(m k:Operand)(T:TypeId)(A1:o.op=Op.call { callee:=Callee.builtin Builtin.delete,args:=#[m,k],argTypes:=#[T,3] })(E:TypeId)(ht:(prog).underlying T=some (.map 3 E))
 (hm:a.eval m=.map (some b)) (hk:a.eval k=.int .i64 x)
 (hK:∀w' l' cnt',zv8 w' b r l' (λz=>L z && !decide (z=x)) cnt'->cnt'<=cnt->(∀y,zw l' y=if y=x then none else zw l y)->Upd [b] w w'->wpList prog ops Q rest (a.put o.dst (.tuple #[])) w'):wpList prog ops Q (o::rest) a w:=by
 obtain⟨left,n,h1,h2⟩:=h;refine wpList_delete_ranges w hg m k T 3 A1 E zbe ht zn7 b r n (kvD l) left cnt hm h1 _ _ hk (zhy hx) ?_;intro w' cnt' h3 A2 tr;have gr:=tr.grown;obtain⟨l',A0,A3⟩:=zi8 h3.owns;refine hK w' l' cnt' ⟨_,n,by rw[<-A0];exact h3,λz hz=>by rw[h2 z hz,ze8]⟩ A2 (λy=>zdl ?_ (λz=>?_)) (za7 gr)
 ·rw[<-A0];by_cases hy:y=x
  ·subst hy;rw[has_del_same,if_pos rfl];rfl
  ·rw[has_del_other (by simp[hy]),if_neg hy,zgg]
 ·rw[<-A0];by_cases hy:y=x
  ·subst hy;rw[atKey_del_same,if_pos rfl];rfl
  ·rw[atKey_del_other (by simp[hy]),if_neg hy,zm4]
theorem zv8.imap(h:zv8 w b r l L cnt):∃l',qi w b l'/\∀x,zw l' x=zw l x:=by
 obtain⟨left,n,h1,-⟩:=h;obtain⟨l',A0,A1⟩:=zi8 h1.owns;refine⟨l',A1,λx=>zdl ?_ (λz=>?_)⟩
 ·rw[<-A0,zgg]
 ·rw[<-A0,zm4]
theorem ztg{l:List KV}(h:qi w b l){x:Int}(hx:¬wfK x):zw l x=none:=by
 cases hg:zw l x with
 | none=>rfl
 | some v=>exact absurd (h.wf _ (qg hg)) hx
end
theorem zyl{w:World}{sb cb:Nat}{sn:List KV}(HS:qi w sb sn)(A0:∀p∈sn,p.2=.bool true)(hc:w.cell? ⟨cb,0,none⟩=some (.map (some sb)))(hl:cb<w.heap.size)(x:Int)(hx:wfK x)(v:Value) :
 Calls prog 51 #[.int .i64 x,v,.pointer (some ⟨cb,0,none⟩)] w λe w'=>e=.returned (.bool (!(zw sn x).isSome))/\w=w':=by
 have HM:=zh HS;have HW:=zh hx
 have hv:(zw sn x).getD (.bool false)=.bool (zw sn x).isSome:=by
  cases hg:zw sn x with
  | none=>rfl
  | some u =>
   have:=A0 _ (qg hg);simp only at this;rw[this];rfl
 have HV:=zh hv;obtain⟨c,A1⟩:=zx ((zw sn x).isSome);rw[<-A1] at HV ⊢;clear HS A0 hx hv A1;go_enter func51,ntmps51;go_wp2_with (at_lookup;refine Zw HM HW rfl _ _ 103 rfl 4 underlying103 _ (zeroValue4 _) rfl rfl _ HV ?_);go_ret;exact⟨rfl,rfl⟩
theorem z5a{w:World}{mp sb cb:Nat}{l sn:List KV}(HM:qi w mp l)(HS:qi w sb sn)(A9:∀p∈sn,p.2=.bool true){t:TypeId}(hc:Row w cb t [.map (some sb)])(h1:sb≠mp)(h2:cb≠mp) :
 Calls prog 50 #[.map (some mp),.func (.func 51) #[] #[.pointer (some ⟨cb,0,none⟩)]] w λe w' =>
  e=.returned (.tuple #[])/\Upd [mp] w w'/\∃l',qi w' mp l'/\∀y,zw l' y=if (zw sn y).isSome then zw l y else none:=by
 have B0:=zh HM;have C0:=zh HS;have C1:=zh A9;have HC:=zh hc;have C9:=HM.lt;have D0:=hc.lt;clear HM HS A9 hc;go_enter func50,ntmps50
 go_wp2_with (first
  | (at_range;refine zca B0 rfl _ 70 rfl 93 underlying70 rfl ?_;intro w0 A1 B1)
  | go_in)
 go_frame;have B2:=zh A1;have B3:=zh B1;clear A1 B1;go_loopw [4] (λ_ wr=>∃L cnt l',Hid (zv8 wr mp w.heap.size l' L cnt)/\Hid (Upd [mp] w wr)/\Hid (∀y,zw l' y=if (zw sn y).isSome\/L y=true then zw l y else none)) (λ_ wr=>wr.rangeLeft mp w.heap.size)
 case atStart =>
  refine⟨_,_,l,B2,.of_below B3,λy=>?_⟩;cases hg:zw l y with
  | none=>simp
  | some v=>simp
 case round =>
  obtain⟨L,cnt,l',HR,HU,HX⟩:=hrel;clear B2 B3
  go_wp2_with (first
   | (at_next;refine zc1 HR rfl _ rfl rfl ?_ ?_)
   | go_in)
  ·intro C2;obtain⟨l2,A3,B4⟩:=HR.out.imap
   have HF:Hid (∃l',qi wr mp l'/\∀y,zw l' y=if (zw sn y).isSome then zw l y else none):=by
    refine⟨l2,A3,λy=>?_⟩;by_cases hy:wfK y
    ·rw[B4,HX.out y,C2 y hy];simp
    ·rw[ztg A3 hy,ztg B0.out hy];simp
   clear A3 B4;go_wp2;go_end0;exact⟨rfl,HU,HF⟩
  ·intro k v w1 cnt1 A4 B5 C3 A0 C4 B6 D1 D2;have hu:Upd [mp] w w1:=HU.out.fresh B6 (by simp);have A5:=zh (zyl (C0.out.keep hu (by simp;exact h1)) C1.out ((HC.out.keep hu (by simp;exact h2)).cell (i:=0) rfl) (by have:=hu.size;omega) k A4 v);have C5:=zh A4;have B7:=zh A0;have B8:=zh hu;have B9:=HR.out.left_eq;have A6:=A0.left_eq;have D3:=zh B5;clear B6 hu A0 A4 B5 C3;cases hs:(zw sn k).isSome<;>rw[hs] at A5
   ·have A7:Hid (∀lx,(∀y,zw lx y=if y=k then none else zw l' y)->∀y,zw lx y=if (zw sn y).isSome\/(L y && !decide (y=k))=true then zw l y else none):=λlx C6 y=>by
     rw[C6 y];by_cases hy:y=k
     ·subst hy;simp[hs]
     ·rw[if_neg hy,HX.out y];simp[hy]
    clear hs HX
    go_wp2_with (first
     | (go_at_call 51;go_call A5 as e w2 ⟨rfl,rfl⟩)
     | (at_delete;refine zif B7 C5 rfl _ _ 70 rfl 93 underlying70 rfl rfl ?_;intro w3 lx cnt3 A2 D4 C7 C8;go_frame)
     | go_in)
    have A8:=A2.left_eq;go_roundw
    case rel =>
     refine⟨_,cnt3,lx,?_,B8.trans C8,A7 lx C7⟩;obtain⟨left,n,q1,q2⟩:=A2;exact⟨left,n,q1,λz hz=>by rw[q2 z hz];simp⟩
    case measure=>rw[A8,B9];omega
   ·have A7:Hid (∀y,zw l' y=if (zw sn y).isSome\/(L y && !decide (y=k))=true then zw l y else none):=λy=>by
     rw[HX.out y];by_cases hy:y=k
     ·subst hy;simp[hs]
     ·simp[hy]
    clear hs HX
    go_wp2_with (first
     | (go_at_call 51;go_call A5 as e w2 ⟨rfl,rfl⟩)
     | go_in)
    go_roundw
    case rel=>exact⟨_,cnt1,l',B7,B8,A7⟩
    case measure=>rw[A6,B9];exact C4
section
variable{w w':World}{base m mp made:Nat}{Y:List FE}
theorem yc.refs(H:yc w base m mp Y made)(j:Int):(yg (fTb Y) j).length<=1001:=by
 rw[ya];cases ho:lookI (fTb Y) j with
 | none=>simp
 | some o =>
  unfold lookI at ho;split at ho
  ·obtain⟨e,he,h1,h2⟩:=xd.1 (Zl ho);have hg:=H.good e he;rw[h2] at hg;have h3:=xq (o.cls::o.W);rcases hg.kinds with⟨_,_,h4,_⟩|⟨_,h4,_⟩
   ·simp at h3 ⊢;omega
   ·simp[h4] at h3 ⊢;omega
  ·cases ho
theorem ke{b:Nat}{l:List KV}{x:Int}{ops:Array Oper}{rest:List Oper}{o:Oper}{a:Act}{Q:Exit->Act->World->Prop}(h:qi w b l)(hx:wfK x)(hg:Region.wanted o (yielded ops a.tmps)=true)(m k:Operand)(T:TypeId)(A0:o.op=Op.lookup T m k false)(E:TypeId)(ht:(prog).underlying T=some (.map 3 E))(z:Value)(hz:(zeroValue E).run prog w=.ok z w)
 (hm:a.eval m=.map (some b)) (hk:a.eval k=.int .i64 x) (v:Value) (hv:(zw l x).getD z=v) (hK:wpList prog ops Q rest (a.put o.dst v) w):wpList prog ops Q (o::rest) a w:=by
 subst hv;refine wpList_step λK' A1=>?_
 rw[if_pos hg];unfold Oper.wp;simp[execOp,A0,hm,hk,h.look ht hz hx,Result.andThen];exact A1 _ _ hK
structure z5s(w wr:World)(sb cb B:Nat)(v:Value)(l:List KV)(t:List Int):Prop where
 map:qi wr sb l
 own:wr.ownsRow B 3 1 v t.length (t.map (Value.int .i64))
 row:Row wr cb 103 [.map (some sb)]
 bel:Below w.heap.size w wr
def zpn(w:World)(base m mp made:Nat)(Y:List FE)(rs:List Int)(z:Ending)(w':World):Prop :=
 z=.returned (.tuple #[.int .i64 (zcp (fTb Y) rs).length,.int .i64 0])/\∃Y',yc w' base m mp Y' made/\fTb Y'=zfi (fTb Y) rs/\(∀k∈fBl m mp Y',k∈fBl m mp Y)/\Upd (fBl m mp Y) w w'
theorem zk6(l:List KV)(q:Int->Bool)(x:Int):zw (l.filter (λp=>q p.1)) x=if q x then zw l x else none:=by
 unfold zw;induction l with
 | nil=>simp
 | cons p l ih =>
  rw[List.filter_cons];by_cases hq:q p.1
  ·rw[if_pos hq,List.find?_cons,List.find?_cons];by_cases hx:p.1=x
   ·subst hx;simp[hq]
   ·simp[hx];simpa using ih
  ·rw[if_neg hq,ih,List.find?_cons];by_cases hx:p.1=x
   ·subst hx;simp[hq]
   ·simp[hx]
theorem zcs{α:Type}{f:α->List Nat}{q:α->Bool}:∀l:List α,((l.filter q).flatMap f).Sublist (l.flatMap f)
 | []=>.slnil
 | a::l=>by
  rw[List.filter_cons];split
  ·rw[List.flatMap_cons,List.flatMap_cons];exact(List.Sublist.refl _).append (zcs l)
  ·rw[List.flatMap_cons];exact(zcs l).trans (List.sublist_append_right _ _)
theorem yc.sub(h:yc w base m mp Y made)(q:FE->Bool){W:World}(u:Upd [mp] w W)(hm:qi W mp (fKV (Y.filter q))):yc W base m mp (Y.filter q) made/\(∀k∈fBl m mp (Y.filter q),k∈fBl m mp Y):=by
 have hs:(fBl m mp (Y.filter q)).Sublist (fBl m mp Y):=((zcs Y).cons_cons _).cons_cons _;have A0:=h.ne;unfold fBl at A0;simp only[List.nodup_cons,List.mem_cons,not_or] at A0;refine⟨⟨h.head.keep u (by simp;exact A0.1.1),hm,λe he=>?_,?_,λe he=>h.ids e (List.mem_filter.1 he).1,λe he=>h.good e (List.mem_filter.1 he).1,h.few,h.ne.sublist hs,λk hk=>h.lo k (hs.subset hk)⟩,λk hk=>hs.subset hk⟩
 ·have he:=(List.mem_filter.1 he).1;refine(h.obj e he).keep u (λk hk A1=>?_);simp at A1;subst A1;exact A0.2.1 (List.mem_flatMap.2 ⟨e,he,hk⟩)
 ·have h1:=h.rise;unfold qm fTb at h1 ⊢;exact h1.sublist (List.filter_sublist.map _)
theorem z1e(X:Tb)(q:Int->Bool):((X.map (λp=>(p.1:Int))).filter (λi=>!q i)).length+(X.filter (λp=>q (p.1:Int))).length=X.length:=by
 induction X with
 | nil=>rfl
 | cons p X ih =>
  rw[List.map_cons,List.filter_cons,List.filter_cons];cases hq:q (p.1:Int)<;>simp at ih ⊢<;>omega
theorem zhz(X:Tb)(rs:List Int):(zcp X rs).length+(zfi X rs).length=X.length:=z1e X (zcz X rs)
theorem zq9(H:yc w base m mp Y made)(a:Option Addr)(n c:Nat)(l:List Int)(hn:n=l.length)(hr:zv w a c (l.map (Value.int .i64)))(M2:n<=1000)(hl:I64 l) :
 Calls prog 12 #[.pointer (some ⟨m,0,none⟩),.slice a n c] w (zpn w base m mp made Y (l.map Zz)):=by
 have J5:=@run_makeMap prog;obtain⟨W1,B9⟩:=zx ((w.alloc (.map #[] 0)).alloc (.cells #[.map (some w.heap.size)] 103));have b1:Below w.heap.size w W1:=by rw[B9];exact zn (zn (Below.refl _ _))
 have m1:qi W1 w.heap.size []:=by rw[B9];exact(qi.made w).keep (m:=[]) ((Upd.refl _ _).alloc _) (by simp)
 have r1:Row W1 (w.heap.size+1) 103 [.map (some w.heap.size)]:=by
  rw[B9];have:=Row.made (w.alloc (.map #[] 0)) [.map (some w.heap.size)] 103;simpa using this
 have s1:W1.heap.size=w.heap.size+2:=by rw[B9];simp
 have J6:=zh B9;have E3:=zh b1;have G0:=zh m1;have G1:=zh r1;have J7:=zh s1;have HH:=zh H;have HR:=zh hr;have HI:=zh hl;have HN:=zh hn;obtain⟨ids,A2⟩:=zx (l.map Zz);have E4:=zh A2;have J8:ids.length=n:=by rw[A2,List.length_map];exact hn.symm
 rw[<-A2];clear B9 b1 m1 r1 s1 H hr hl hn A2;go_enter func12,ntmps12;go_wp2;go_step3;go_wp2;rw[<-J6.out];obtain⟨sb,E5⟩:=zx (w.heap.size);have D3:=zh E5;obtain⟨cb,E6⟩:=zx (w.heap.size+1);have E7:=zh E6;rw[<-E6,<-E5];clear E5 E6 J5;go_loopw [7,20] (λv i wr=>∃k:Nat,k<=n/\i=.int .i64 k/\Hid (wr.ownsRow W1.heap.size 3 1 v k ((ids.take k).map (Value.int .i64)))/\Hid (Below W1.heap.size W1 wr)) (λ_ i _=>n-(intOf i).toNat)
 case atStart=>exact⟨0,Nat.zero_le _,rfl,World.ownsRow_nil _ _ _ _,Below.refl _ _⟩
 case round =>
  obtain⟨k,hk,rfl,HO,HB⟩:=hrel;by_cases J9:k<n
  ·obtain⟨b,off,rfl,K0,G2⟩:=((HR.out.below E3.out).below HB.out).at (by simp;have:=HN.out;omega);obtain⟨x,hx⟩:=zx (l.getD k 0);have B1:k<l.length:=by have:=HN.out;omega
   have C2:=G2 k (.int .i64 x) (by rw[hx];exact zr B1);have E8:=HI.out x (by rw[hx,zg,ze B1];exact List.getElem_mem _);have E9:=zh (λz=>jr x z E8.1 E8.2)
   have C3:ids.take (k+1)=ids.take k++[Zz x]:=by
    rw[List.take_add_one,E4.out,List.getElem?_map,ze B1,hx,zg,ze B1];rfl
   have B2:=zh C3;have hbs:W1.heap.size<=wr.heap.size:=HB.out.size;obtain⟨y,hy⟩:=zx (Zz x);rw[<-hy] at E9 B2;have C4:∀u∈[Value.int .i64 y],u.oneCell'=true:=λu hu=>by simp at hu;subst hu;rfl
   clear G2 hx E8 C3 hy;go_wp2_with fail;refine(E9 _).mono ?_;rintro e w' ⟨rfl,rfl⟩;go_wp2_with (at_builtin;refine Zb rfl _ _ 25 rfl W1.heap.size 3 (.int .i64 0) 1 8 underlying25 Zx rfl (by decide) _ k _ rfl (HO.out.alloc _) _ 1 1 [.int .i64 y] rfl rfl (zv.madeAt rfl) C4 (by unfold maxLen;omega) (by omega) (Nat.le_trans hbs (by simp)) ?_);intro v4 w4 own4 gr4;have K1:Hid (Below W1.heap.size W1 w4):=(zn HB.out).grown gr4 (Nat.le_trans hbs (by simp)) (λg hg=>(HO.out.lt g hg).1)
   have K2:Hid (w4.ownsRow W1.heap.size 3 1 v4 (k+1) ((ids.take (k+1)).map (Value.int .i64))):=by
    unfold Hid;rw[B2.out,List.map_append,List.map_take];exact own4
   clear own4 gr4 C4 hbs B2 HO HB E9 C2;go_wp2;go_roundw
   case rel=>exact⟨k+1,by omega,by go_num,K2.out,K1.out⟩
   case measure=>simp[intOf];omega
  ·obtain rfl:k=n:=by omega
   have hO:=HO.out;rw[List.take_of_length_le (by omega)] at hO
   have G3:z5s w wr sb cb W1.heap.size u7 [] ids:=by
    refine⟨?_,by rw[J8];exact hO,?_,zy E3 HB⟩
    ·rw[D3.out];exact G0.below HB
    ·rw[E7.out,D3.out];exact G1.out.keep (l:=[]) (.of_below HB.out) (by simp)
   have F0:=zh G3
   have G4:∀x∈ids,wfK x:=λx hx=>by
    rw[E4.out] at hx;obtain⟨y,-,rfl⟩:=List.mem_map.1 hx;exact zcm y
   have F1:=zh (zcy.start (fTb Y) ids G4)
   have C5:Hid ((fTb Y).length*1002+ids.length<=1003000000):=by
    have h1:=HH.out.len;have h2:=HH.out.few;have h3:(fTb Y).length=Y.length:=by simp[fTb]
    unfold Hid;omega
   clear hO HO HB J9 HR HN HI G3 G4 E4 G0 G1;go_wp2;go_step3;go_wp2;go_loopw [7] (λv wr=>∃lk t,Hid (z5s w wr sb cb W1.heap.size v lk t)/\Hid (zcy (fTb Y) ids lk t)) (λv wr=>((fTb Y).length-mapN wr sb)*1002+zhw v)
   case atStart=>exact⟨[],ids,F0,F1⟩
   case round =>
    obtain⟨lk,t,HX,A0⟩:=hrel;have A3:t.length<=1003000000:=by have:=A0.out.few;have:=C5.out;omega
    have HF:=zh (HH.below HX.bel);have k0:=HF.head.cell (i:=0) rfl;have ml:=HF.out.head.lt;have cbc:=HX.row.cell (i:=0) rfl;have cbl:=HX.out.row.lt
    have B1:(fKV Y).length<=100000:=by
     have:=HH.out.len;have:=HH.out.few;unfold fKV;rw[List.length_map];omega
    rcases t.eq_nil_or_concat with rfl|⟨t,j,rfl⟩
    ·obtain⟨b0,c0,rfl,-⟩:=zk HX.own;have C6:=HH.out.lt;have K3:mp<w.heap.size:=C6 mp (by simp[fBl]);have HD:=zh (z5a HF.out.map HX.out.map A0.out.tr HX.out.row (by have:=D3.out;omega) (by have:=E7.out;omega));have B3:=zh HF.map;have G5:Upd (fBl m mp Y) w wr:=.of_below HX.bel
     have G6:∀y,(zw lk y).isSome=zcz (fTb Y) ids y:=λy=>by
      rw[Bool.eq_iff_iff,zda];exact A0.dfs.done y
     have C7:∀w2 l2,qi w2 mp l2->(∀y,zw l2 y=if (zw lk y).isSome then zw (fKV Y) y else none)->Upd [mp] wr w2->∃N1 N2:Nat,(fKV Y).length=N1/\l2.length=N2/\N2<=N1/\N1<=100000/\zpn w base m mp made Y ids (.returned (.tuple #[.int .i64 ((N1:Int)-N2),.int .i64 0])) w2:=λw2 l2 A7 D4 hu=>by
      obtain⟨q,hq⟩:∃q:FE->Bool,q=λe=>zcz (fTb Y) ids (e.id:Int):=⟨_,rfl⟩
      have G7:l2=fKV (Y.filter q):=by
       have e1:fKV (Y.filter q)=(fKV Y).filter (λp=>zcz (fTb Y) ids p.1):=by
        unfold fKV;rw[List.filter_map,hq];rfl
       have K4:jh (fKV (Y.filter q)):=by
        rw[e1];exact HF.map.srt.sublist List.filter_sublist
       refine zhx A7.srt K4 (λx=>?_);rw[D4 x,G6 x,e1,zk6]
      rw[G7] at A7;obtain⟨f1,f2⟩:=HF.sub q hu A7
      have e2:fTb (Y.filter q)=zfi (fTb Y) ids:=by
       unfold zfi fTb;rw[List.filter_map,hq];rfl
      have e3:=zhz (fTb Y) ids;rw[<-e2] at e3;have e4:(fTb Y).length=(fKV Y).length:=by simp[fTb,fKV]
      have e5:(fTb (Y.filter q)).length=l2.length:=by rw[G7];simp[fTb,fKV]
      refine⟨_,_,rfl,rfl,by omega,B1,?_,_,f1,e2,f2,G5.trans (hu.mono (by simp[fBl]))⟩;have e6:((zcp (fTb Y) ids).length:Int)=((fKV Y).length:Int)-l2.length:=by omega
      rw[e6]
     have K5:Hid (∀w2,Upd [mp] wr w2->w2.cell? ⟨m,0,none⟩=some (.map (some mp))):=λw2 A8=>by
      have F2:=HH.out.ne;unfold fBl at F2;simp only[List.nodup_cons,List.mem_cons,not_or] at F2;exact(HF.out.head.keep A8 (by simp;exact F2.1.1)).cell (i:=0) rfl
     have F3:Hid (∀w2,Upd [mp] wr w2->m<w2.heap.size):=λw2 A8=>by have:=A8.size;omega
     have G8:=zh C7;clear C7 G6 G5 K3 C6 A3 A0 C5 F0 F1
     go_wp2_with (first
      | (at_len;refine zep B3 rfl _ 70 rfl 93 underlying70 rfl ?_)
      | (
       go_at_call 50;go_call HD as z w2 ⟨rfl,A8,l2,B4,C8⟩;obtain⟨N1,N2,e1,e2,e3,e4,hP⟩:=G8 w2 l2 B4 C8 A8;have HP:=zh hP;have K6:=zh B4;have k2:=K5 w2 A8;have ml2:=F3 w2 A8;have E1:=zh e1;have E2:=zh e2
       clear hP B4 C8 A8 G8 e1 e2 HD B3)
      | (at_len;refine zep K6 rfl _ 70 rfl 93 underlying70 rfl ?_;rw[E1.out,E2.out]))
     rw[Exit.noGoto_ret];go_ret2;exact HP
    ·rw[List.concat_eq_append] at HX A0 A3;have C9:0<(t++[j]).length:=by simp
     have G9:=A0.out.wf j (by simp);have C0:=zh G9;have D0:w.heap.size<=sb/\w.heap.size<=cb/\sb<W1.heap.size/\cb<W1.heap.size/\sb≠cb:=by have:=D3.out;have:=E7.out;have:=J7.out;omega
     have B5:=zh D0;obtain⟨b0,cp,rfl,rd,K7,-⟩:=zk HX.own;obtain⟨g,rfl⟩:=yo HX.own C9
     have A4:Hid (wr.ownsRow W1.heap.size 3 1 (.slice (some ⟨g,0,none⟩) t.length cp) t.length (t.map (Value.int .i64))):=by
      have h1:=HX.out.own;rw[show(t++[j]).length=t.length+1 by simp,List.map_append] at h1;exact ownsRow_pop (by simp) h1
     have I0:wr.cell? ((⟨g,0,none⟩:Addr).add t.length)=some (.int .i64 j):=by
      rcases rd with⟨h,_⟩|⟨x,K8,hr⟩
      ·cases h
      ·cases K8
       exact hr _ _ (by simp)
     rw[qk] at I0;simp only[Nat.zero_add] at I0;have K9:t.length+1<=1003000000:=by simpa using A3
     have L0:Hid (((fTb Y).length-mapN wr sb)*1002+zhw (.slice (some ⟨g,0,none⟩) (t++[j]).length cp)=((fTb Y).length-lk.length)*1002+(t++[j]).length):=by
      rw[HX.out.map.mapN];rfl
     have I1:(t++[j]).length=t.length+1:=by simp
     rw[I1] at K7 L0 ⊢;have A9:=zh HX.map;have D5:=zh HX.row;have D1:=zh HX.bel;have B3:=zh HF.map;clear rd C9 A3 G9 I1 D0 F0 F1 B1;cases B0:zw (fKV Y) j with
     | none =>
      have I2:zee (fTb Y) j=false:=by
       rw[yz];cases ho:lookI (fTb Y) j with
       | none=>rfl
       | some o =>
        exfalso;unfold lookI at ho;split at ho
        ·obtain⟨e,he,h1,h2,h3⟩:=HF.find ho;rw[show((j.toNat:Nat):Int)=j by omega,B0] at h3;cases h3
        ·cases ho
      have HV:=zh (show(zw (fKV Y) j).getD (.pointer none)=.pointer none by rw[B0];rfl);have F4:=zh (A0.skip (.inl I2));clear I2 B0;go_wp2_with (at_lookup;refine Zw B3 C0 rfl _ _ 70 rfl 93 underlying70 (.pointer none) (za3 _) rfl rfl _ HV ?_);refine⟨⟨lk,t,⟨A9,A4,D5,D1⟩,F4⟩,?_⟩;simp only[zhw];omega
     | some pv =>
      obtain⟨e,he,D6⟩:=zng B0;have D7:zt (fTb Y) e.id=some e.ob:=qv HF.rise (xd.2 ⟨e,he,rfl,rfl⟩);have A5:lookI (fTb Y) j=some e.ob:=by rw[D6,je];exact D7
      have L1:pv=.pointer (some ⟨e.ad,0,none⟩):=by
       obtain⟨e',h1,h2,h3,h4⟩:=HF.find D7;have:=HF.out.uniq h1 he h2;subst this;rw[<-D6,B0] at h4;exact Option.some.inj h4
      subst L1;have HV:=zh (show(zw (fKV Y) j).getD (.pointer none)=.pointer (some ⟨e.ad,0,none⟩) by rw[B0];rfl);rcases Bool.eq_false_or_eq_true (zw lk j).isSome with hs|hs
      ·have F5:=zh (show(zw lk j).getD (.bool false)=.bool true by
        obtain⟨u,hu⟩:=Option.isSome_iff_exists.1 hs;have:=A0.out.tr _ (qg hu);simp only at this
        rw[hu,this];rfl)
       have F4:=zh (A0.skip (.inr hs));clear hs B0 A5 D7 D6
       go_wp2_with (first
        | (at_lookup;refine Zw B3 C0 rfl _ _ 70 rfl 93 underlying70 (.pointer none) (za3 _) rfl rfl _ HV ?_)
        | (at_lookup;refine ke A9 C0 rfl _ _ 103 rfl 4 underlying103 _ (zeroValue4 _) rfl rfl _ F5 ?_))
       refine⟨⟨lk,t,⟨A9,A4,D5,D1⟩,F4⟩,?_⟩;simp only[zhw];omega
      ·have A1:zw lk j=none:=by simpa using hs
       have F5:=zh (show(zw lk j).getD (.bool false)=.bool false by rw[A1];rfl);have HJ:=zh (show zee (fTb Y) j=true by rw[yz,A5];rfl);have L2:=zh A1;have I3:=zh (show yg (fTb Y) j=Zo (e.ob.cls::e.ob.W) by rw[ya,A5])
       have L3:=zh (show lk.length<=1000000 by
        have h1:=zbo HF.rise A9.srt (λi hi=>(A0.dfs.sub i hi).has);have h2:=HF.out.len;have h3:=HF.out.few;have h4:(fTb Y).length=Y.length:=by simp[fTb]
        omega)
       have I4:=zh (λl'=>A0.take (l':=l') HF.rise HJ L2 (HF.refs j));have A6:=HF.obj e he;have D8:=HF.good e he;have L4:=zh A9.mapN;have F6:Hid (e.ad<w.heap.size/\∀k∈fBl m mp Y,k<w.heap.size):=⟨HH.lt _ (znh he e.bl_ad),HH.lt⟩;have I5:=zh he;clear hs A1 B0 A5 D7 D6 A6 D8
       go_wp2_with (first
        | (at_lookup;refine Zw B3 C0 rfl _ _ 70 rfl 93 underlying70 (.pointer none) (za3 _) rfl rfl _ HV ?_)
        | (at_lookup;refine ke A9 C0 rfl _ _ 103 rfl 4 underlying103 _ (zeroValue4 _) rfl rfl _ F5 ?_)
        | (at_mapUpdate;go_loud (refine jc A9.out C0.out L3.out rfl _ _ _ 103 rfl 4 underlying103 rfl rfl (.bool true) rfl ?_)))
       intro w3 l' A7 D4 C1;obtain⟨B6,B7⟩:=I4 l' A7.srt D4
       have D2:yc w3 base m mp Y made:=HF.keep C1 (λk hk hm=>by
        simp at hm;subst hm;have h1:=F6.out.2 _ hk;have h2:=B5.out
        omega)
       have M3:=zh D2;have I6:Below w.heap.size w w3:=D1.out.trans (C1.below D1.out.size (λk hk=>by simp at hk;subst hk;exact B5.out.1));have I7:=zh I6;have F7:=zh (C1.ownsAbove A4.out (λk hk=>by simp at hk;subst hk;exact B5.out.2.2.1));have L5:=zh (D5.out.keep C1 (by simp;exact λh=>B5.out.2.2.2.2 h.symm));have L6:=zh A7;have A6:=D2.obj e I5;have D8:=D2.good e I5;have B8:=A6.row;unfold kq at B8;have c0:=B8.cell (i:=0) rfl;have c1:=B8.cell (i:=1) rfl;have c2:=B8.cell (i:=2) rfl;have c3:=B8.cell (i:=3) rfl;have cl:=B8.lt
       have I8:e.d.wn<=1000000:=by
        have h1:=A6.ok.wl;rw[A6.is_.W] at h1;rcases D8.kinds with⟨_,_,h3,_⟩|⟨_,h3,_⟩
        ·omega
        ·simp[h3] at h1;omega
       have hD:e.d.cls=e.ob.cls/\e.d.W=e.ob.W:=⟨A6.is_.cls,A6.is_.W⟩;have HD:=zh hD;have F8:=zh (zjp e.d w3 A6.ok I8);have I9:e.d.val=.agg #[.int .i64 e.d.cls,.int .i64 e.d.kind,.slice e.d.wa e.d.wn e.d.wc,.slice e.d.ba e.d.bn e.d.bc]:=rfl;rw[I9] at F8;have L7:=zh C1.size;have B6:=zh B6;have B7:=zh B7;have M4:=D2.refs j;have L8:=zh A7.mapN;clear A7 D4 C1 D2 I6 A6 D8 B8 I8 I9 hD A9 D1 D5 B3 HF A4 I4;go_wp2_with fail;go_call F8 as z w6 ⟨v6,rfl,own6,D9⟩;obtain⟨a6,c6,rfl,rd6,M5,-⟩:=zk own6;rw[HD.out.1,HD.out.2,<-I3.out] at rd6;rw[HD.out.1,HD.out.2,<-I3.out];have J0:=zh rd6;have J1:=zh ((Upd.of_below (l:=[]) D9).ownsAbove F7.out (by simp));have E0:=zh D9;have hbs:W1.heap.size<=w6.heap.size:=by have:=D9.size;have h1:=E3.out.size;have h2:=L7.out;have h4:=(F7.lt g rfl);omega
       clear own6 D9 rd6 F8 F7;go_wp2_with (at_builtin;refine Zb rfl _ _ 25 rfl W1.heap.size 3 (.int .i64 0) 1 8 underlying25 Zx rfl (by decide) _ t.length (t.map (Value.int .i64)) rfl J1.out a6 (yg (fTb Y) j).length c6 ((yg (fTb Y) j).map (Value.int .i64)) rfl (by simp) J0.out (jw _ _) (by unfold maxLen;omega) (by omega) hbs ?_);intro v7 w7 own7 gr7;have hg:=(J1.lt g rfl).1;have J2:Upd [g] w6 w7:=⟨gr7.os,gr7.tape,gr7.output,gr7.size,λk hk hn=>gr7.block k hk (λe=>hn (by simp[Value.ownBlock] at e;simp[e]))⟩
       have J3:zhw v7=t.length+(yg (fTb Y) j).length:=by
        obtain⟨_,_,rfl,-⟩:=zk own7;rfl
       have L9:=zh own7;have F9:=zh J2;have M0:=zh J3;have HG:=zh hg;clear own7 gr7 J2 J3 hg J0;go_wp2;have J4:=(L6.out.below E0.out).keep F9.out (λhm=>by simp at hm;have h2:=B5.out;have h3:=HG.out;omega);have M1:Below w.heap.size w w7:=(zy I7.out E0.out).trans (F9.out.below (zy I7.out E0.out).size (λk hk=>by simp at hk;subst hk;have h2:=B5.out;have h3:=HG.out;omega));refine⟨⟨l',t++yg (fTb Y) j,⟨J4,?_,?_,M1⟩,B6⟩,?_⟩
       ·have:=L9.out;rw[List.length_append,List.map_append];exact this
       ·exact(L5.out.keep (l:=[]) (.of_below E0.out) (by simp)).keep F9.out (by simp;have h2:=B5.out;have h3:=HG.out;omega)
       ·rw[J4.mapN,M0.out,L4.out];have h1:zhw (.slice (some ⟨g,0,none⟩) (t.length+1) cp)=(t++[j]).length:=by simp[zhw]
        rw[h1];have h2:=B7.out;rw[List.length_append] at h2;exact h2
end
end Go.Proofs.YtoeibiahbenpcaaGreatDoor
