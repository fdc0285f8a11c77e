/- Part. -/
import Derived.Test.YtoeibiahbenpcaaGreatDoorA10
namespace Go.Proofs.YtoeibiahbenpcaaGreatDoor
open RowKit Maps Proofs.Tryz
set_option linter.unusedVariables false
set_option maxRecDepth 99999
set_option maxHeartbeats 9000000
def zb7(S:HpS)(k p:Nat):HpS:=if hk:k<S.bl.length then { S with bl:=S.bl.set k { S.bl[k] with at_:=p } } else S
def zgv(a:HpS×Nat×Nat)(k:Nat):HpS×Nat×Nat :=
 if nOf a.1 k=0 then a
 else if z7 a.1 k=a.2.2 then(a.1,a.2.1,a.2.2+nOf a.1 k)
 else(zb7 (wsS a.1 a.2.2 ((a.1.ws.drop (z7 a.1 k)).take (nOf a.1 k))) k a.2.2,a.2.1+1,a.2.2+nOf a.1 k)
def Zp(S:HpS)(L:List Nat):HpS×Nat×Nat:=L.foldl zgv (S,0,0)
theorem zgu(S:HpS){l:List Nat}{j:Nat}(h:j<l.length):Zp S (l.take (j+1))=zgv (Zp S (l.take j)) l[j]:=by
 unfold Zp;rw[List.take_add_one,ze h,Option.toList_some,List.foldl_append];rfl
theorem zc7(S:HpS)(k p:Nat):(zb7 S k p).bl.length=S.bl.length/\(zb7 S k p).N=S.N:=by
 unfold zb7;split<;>simp
theorem zud(a:HpS×Nat×Nat)(k:Nat):(zgv a k).1.bl.length=a.1.bl.length/\(zgv a k).1.N=a.1.N/\(zgv a k).2.1<=a.2.1+1:=by
 unfold zgv;split
 ·exact⟨rfl,rfl,by omega⟩
 ·split
  ·exact⟨rfl,rfl,by simp⟩
  ·exact⟨(zc7 _ _ _).1,(zc7 _ _ _).2,by simp⟩
theorem zh7(S:HpS)(l:List Nat):∀j,j<=l.length->(Zp S (l.take j)).1.bl.length=S.bl.length/\(Zp S (l.take j)).1.N=S.N/\(Zp S (l.take j)).2.1<=j
 | 0,_=>by simp[Zp]
 | j+1,h=>by
  rw[zgu S (by omega)];have h1:=zh7 S l j (by omega);have h2:=zud (Zp S (l.take j)) (l[j]'(by omega));omega
def zzu(S:HpS)(L:List Nat):Prop:=∀j (hj:j<L.length),L[j]<S.bl.length/\z7 (Zp S (L.take j)).1 L[j]+nOf (Zp S (L.take j)).1 L[j]<=S.N/\
 (0<nOf (Zp S (L.take j)).1 L[j]->(Zp S (L.take j)).2.2<=z7 (Zp S (L.take j)).1 L[j])/\(Zp S (L.take j)).2.2<=S.N
theorem zvc{w:World}{B h g:Nat}{vb:Value}{S:HpS}(H:ca w B h g vb S){Q:List Nat->Prop}(hQ:∀L,Q L->L.length<=1000/\zzu S L)(hO:z2s Q w h) :
 Calls prog 176 #[.pointer (some ⟨h,0,none⟩)] w λe w'=>∃L,Q L/\e=.returned (.int .i64 ((Zp S L).2.1:Nat))/\ca w' B h g vb (Zp S L).1/\zai B w w':=by
 have HO:=zh hO;have HH:=zh H;have HF:=zh hQ;have F4:=H.small;clear H hO hQ;go_enter func176,ntmps176;go_wp2_with fail;refine HO.mono ?_;clear HO;rintro e w1 ⟨v,L,hq,rfl,ho,hb⟩;have D3:=zh hb;obtain⟨F5,C1⟩:=HF L hq;have D4:=zh C1;have D5:=zh hq;obtain⟨va,vc,rfl,-,-,-⟩:=zk ho;have D6:=zh ho;have D7:=zh (HH.below hb);clear ho hb hq HF C1 HH;go_wp2;go_loopw [3,4,14] (λx y i wr=>∃j:Nat,j<=L.length/\i=.int .i64 j/\x=.int .i64 ((Zp S (L.take j)).2.1:Nat)/\y=.int .i64 ((Zp S (L.take j)).2.2:Nat)/\Hid (ca wr B h g vb (Zp S (L.take j)).1)/\Hid (zai B w1 wr)) (λ_ _ i _=>L.length-(intOf i).toNat)
 case atStart=>exact⟨0,Nat.zero_le _,rfl,rfl,rfl,D7,zai.refl _ _⟩
 case round =>
  obtain⟨j,hj,rfl,rfl,rfl,HA,HB⟩:=hrel;obtain⟨C2,B0,C3⟩:=zh7 S L j hj;by_cases B4:j<L.length
  ·have A0:=zh (zgu S B4);obtain⟨hk,A6,A2,D8⟩:=D4 j B4;obtain⟨la,lc,hv,hr,-,-⟩:=zk (HB.out.owns D6.out (by decide));cases hv
   obtain⟨rb,ro,rfl,D9,hc⟩:=hr.at (by simp;omega);have kc:=hc j (.int .i64 (L[j]:Nat)) (by simp[B4]);have k0:=HA.head.cell (i:=0) rfl;have k1:=HA.head.cell (i:=1) rfl;rw[<-C2] at hk;obtain⟨b,cb,hv,c0,c1,c2⟩:=yr HA.own hk;rw[(gq hk).1] at c0;rw[(gq hk).2] at c1;rw[hv] at k1;generalize E0:L[j]=k at *;clear hc hr D9 E0;generalize hA:Zp S (L.take j)=A at *;obtain⟨A,mv,en⟩:=A;simp only at A6 A2 D8 C2 B0 C3 hk k0 k1 HA c0 c1 c2 hv;unfold zgv at A0;simp only at A0;rw[B0] at k0;clear hA;by_cases B5:nOf A k=0
   ·rw[if_pos B5] at A0;rw[B5] at c1 A6 A2;generalize z7 A k=p at *;go_wp2;exact⟨⟨j+1,by omega,by go_num,by rw[A0.out],by rw[A0.out],by rw[A0.out];exact HA.out,HB.out⟩,by simp[intOf];omega⟩
   ·rw[if_neg B5] at A0;have F6:=A2 (by omega);clear A2;have hd:=HA.out.data;have C4:=HA.out.len;have C5:=HA.out.word;have B1:=zh (show Row wr g 147 (A.ws.map (Value.int .u16)) from hd);have B2:=zh (C4.trans B0);obtain⟨b',cb',cur,C6,C7,A1,B6,E1,B7,B8⟩:=zbf HA.out.own (by omega);rw[hv] at C6;cases C6
    have A7:=(gq hk).1;have A4:=zxr hk en;generalize hp:z7 A k=p at *;generalize hq:nOf A k=q at *;have F7:¬((q:Int)=0):=by omega
    clear hd C4;by_cases C8:p=en
    ·subst C8;rw[if_pos rfl] at A0;clear C5 A1 B6 B7 B8 A4 A7 hp hq;go_wp2;exact⟨⟨j+1,by omega,by go_num,by rw[A0.out],by rw[A0.out];exact congrArg (Value.int .i64) (show(p:Int)+(q:Int)=((p+q:Nat):Int) by omega),by rw[A0.out];exact HA.out,HB.out⟩,by simp[intOf];omega⟩
    ·rw[if_neg C8] at A0;have E2:¬((p:Int)=(en:Int)):=by omega
     have A3:¬b=g:=qh A1 B1.out (by decide);have B9:¬b=h:=qh A1 HA.out.head (by decide);have A8:¬h=g:=qh HA.out.head B1.out (by decide);have C9:=zh A1;have E3:=zh B6;have E4:=zh B8;have E5:=zh B7;have E6:=zh A4;clear A1 B6 B7 B8 A4 A7 hp hq C5;have E7:¬S.N=en:=by omega
     have E8:¬S.N=p:=by omega
     have B3:=zh (show((A.ws.drop p).take q).length=q by rw[List.length_take,List.length_drop,B2.out];omega);go_wp2_with fail;refine zm (λz=>z.cell? ⟨h,0,none⟩=some (.slice (some ⟨g,0,none⟩) S.N S.N)/\z.cell? ⟨b,k*3,none⟩=some (.int .i64 p)/\z.cell? ⟨b,k*3+1,none⟩=some (.int .i64 q)) (zp [0,1,2,3,4,5,6,7,8,9,10,11,12,13,14,15,16,17,18,19,20,21,22,23,1024]) (by kernel_rfl) (by kernel_rfl) (λ_ _ _ _ _ h=>h) ⟨k0,c0,c1⟩ ?_
     (repeat (refine zi rfl (λK hK=>?_);go_simp;(try go_bits);refine hK _ ?_;clear hK K))
     refine zl (.slice (some ⟨g,0,none⟩) S.N S.N) rfl rfl (λx hS=>by obtain⟨s0,s1,s2⟩:=hS;go_simp) ?_
     (repeat (refine zi rfl (λK hK=>?_);go_simp;(try go_bits);refine hK _ ?_;clear hK K))
     refine zl (.slice (some ⟨g,0,none⟩) S.N S.N) rfl rfl (λx hS=>by obtain⟨s0,s1,s2⟩:=hS;go_simp) ?_
     (repeat (refine zi rfl (λK hK=>?_);go_simp;(try go_bits);refine hK _ ?_;clear hK K))
     refine zl (.int .i64 p) rfl rfl (λx hS=>by obtain⟨s0,s1,s2⟩:=hS;go_simp) ?_
     (repeat (refine zi rfl (λK hK=>?_);go_simp;(try go_bits);refine hK _ ?_;clear hK K))
     refine zl (.int .i64 p) rfl rfl (λx hS=>by obtain⟨s0,s1,s2⟩:=hS;go_simp) ?_
     (repeat (refine zi rfl (λK hK=>?_);go_simp;(try go_bits);refine hK _ ?_;clear hK K))
     refine zl (.int .i64 q) rfl rfl (λx hS=>by obtain⟨s0,s1,s2⟩:=hS;go_simp) ?_
     (repeat (refine zi rfl (λK hK=>?_);go_simp;(try go_bits);refine hK _ ?_;clear hK K))
     have E9:(p:Int)+(q:Int)<=(S.N:Int):=by omega
     have F0:((p:Int)+(q:Int)).toNat=p+q:=by omega
     have F1:(0:Int)<=(p:Int)+(q:Int):=by omega
     (repeat (refine zi rfl (λK hK=>?_);go_simp;(try go_bits);refine hK _ ?_;clear hK K))
     refine zj rfl ?_;have C0:=B1.out.drew;refine xp rfl (.tmp 45) (.tmp 63) 126 126 rfl 147 underlying126 (by kernel_rfl) _ _ _ _ _ _ rfl rfl g en _ 147 C0 (((A.ws.drop p).take q).map (Value.int .u16)) ?hr ?hl (λ_=>rfl) ?hf (jw _ _) q ?hk ?_
     case hr =>
      refine C0.reads (λi u hu=>?_);rw[List.getElem?_map] at hu ⊢;rw[List.getElem?_take] at hu;split at hu
      ·rw[List.getElem?_drop] at hu;exact hu
      ·cases hu
     case hl=>rw[List.length_map];have:=B3.out;omega
     case hf=>rw[List.length_map,B2.out];omega
     case hk=>rw[List.length_take,List.length_map,B3.out];omega
     intro w2 D0 D1
     have D2:Row w2 g 147 ((splice A.ws en ((A.ws.drop p).take q)).map (Value.int .u16)):=by
      rw[<-cg,<-List.take_of_length_le (l:=((A.ws.drop p).take q).map (Value.int .u16)) (i:=S.N-en) (by rw[List.length_map,B3.out];omega)];exact D0
     have F2:=zh D2;have A5:=zh ((Upd.refl [g] wr).drew.trans D1);have d0:=A5.out.cell k0 (by simp;exact A8);have d1:=A5.out.cell c0 (by simp;exact A3);have d2:=A5.out.cell c1 (by simp;exact A3);have A9:=zh (C9.out.keep A5.out (by simp;exact A3));have df:=A9.free (k*3);clear D0 D1 D2 C0 k0 k1 c0 c1 c2 kc;go_wp2;refine⟨⟨d0,d1,d2⟩,?_⟩;refine zo ?_;go_wp2;refine⟨⟨j+1,by omega,by go_num,by rw[A0.out];exact congrArg (Value.int .i64) (show(mv:Int)+1=((mv+1:Nat):Int) by omega),by rw[A0.out];exact congrArg (Value.int .i64) (show(en:Int)+(q:Int)=((en+q:Nat):Int) by omega),?_,?_⟩,by simp[intOf];omega⟩
     ·show ca _ _ _ _ _ _
      rw[A0.out]
      have F3:zb7 (wsS A en ((A.ws.drop p).take q)) k en = { wsS A en ((A.ws.drop p).take q) with bl:=A.bl.set k { A.bl[k] with at_:=en } }:=by
       unfold zb7;rw[dif_pos (show k<(wsS A en ((A.ws.drop p).take q)).bl.length from hk)];rfl
      show ca _ _ _ _ _ (zb7 _ _ _)
      rw[F3];refine⟨(HA.out.head.keep A5.out (by simp;exact A8)).setOther B9 _,F2.setOther A3 _,?_,?_,HA.small,by show(A.bl.set _ _).length<=_;rw[List.length_set];exact HA.few,HA.lo,?_⟩
      ·show World.ownsRow _ _ _ _ _ (A.bl.set k { A.bl[k] with at_:=en }).length (Z8 (A.bl.set k { A.bl[k] with at_:=en }))
       rw[E6.out,List.length_set,hv];exact zcw C7 (A9.out.set _ _) (by rw[List.take_set,E3.out]) E1 E5.out (by rw[List.length_set];exact E4)
      ·show(splice A.ws en _).length=A.N
       rw[ye _ _ _ (by rw[B3.out,B2.out];omega),B2.out,B0]
      ·exact zbn HA.word (λx hx=>HA.word x (List.mem_of_mem_drop (List.mem_of_mem_take hx)))
     ·refine HB.out.trans (.of_upd (l:=[g,b]) ((A5.out.mono (by simp)).setCell (by simp) _) (λm hm=>?_));simp at hm;rcases hm with rfl|rfl
      ·exact⟨HA.lo.2,_,_,B1,by decide⟩
      ·exact⟨C7,_,_,C9,by decide⟩
  ·obtain rfl:j=L.length:=by omega
   rw[List.take_length] at HA C3 ⊢;go_wp2;go_ret;exact⟨L,D5,rfl,HA,(zai.of_below D3).trans HB⟩
def qp(S:HpS):List Nat:=yd S.bl S.bl.length
def HX(w:World)(B h g:Nat)(S:HpS):Prop:=∃vb,ca w B h g vb S
theorem HX.below{w w':World}{B h g:Nat}{S:HpS}(H:HX w B h g S)(hb:Below w.heap.size w w'):HX w' B h g S:=by
 obtain⟨vb,H⟩:=H;exact⟨vb,H.below hb⟩
section
variable{w:World}{B h g:Nat}{vb:Value}{S:HpS}
theorem z50(N:Nat)(w:World)(hN:N<=32768):Calls prog 24 #[.int .i64 N] w λe w'=>∃h g,e=.returned (.tuple #[.pointer (some ⟨h,0,none⟩),.int .i64 0])/\HX w' w.heap.size h g (zzc N)/\zai w.heap.size w w' :=
 (z4z N w hN).mono (λe w' ⟨h,g,h1,h2,_,h4⟩=>⟨h,g,h1,⟨_,h2⟩,.of_below h4⟩)
end
theorem zai.belowB{B:Nat}{a b:World}(h:zai B a b)(hB:B<=a.heap.size):Below B a b:=by
 rcases h.below with h|h
 ·exact h
 ·omega
end Go.Proofs.YtoeibiahbenpcaaGreatDoor
