/- Part. -/
import Derived.Test.YtoeibiahbenpcaaGreatDoorA12
namespace Go.Proofs.YtoeibiahbenpcaaGreatDoor
open RowKit Maps Proofs.Tryz
set_option linter.unusedVariables false
set_option maxRecDepth 99999
set_option maxHeartbeats 9000000
def z2p(B h g:Nat)(vb:Value)(S:HpS)(b n c:Nat)(rest:List Value)(k:Nat):Prop:=∀(w:World) (X P Q Z:List Nat),P.length+Q.length<=k->0<P.length->0<Q.length->ca w B h g vb S->Dat w b (X++(P++(Q++Z))) rest->n=(X++(P++(Q++Z))).length->zrk S (P++Q)->Srt S P->Srt S Q->
 ∀a m b2:Nat,a=X.length->m=X.length+P.length->b2=X.length+P.length+Q.length->
 Calls prog 196 #[.slice (some ⟨b,0,none⟩) n c,.int .i64 a,.int .i64 m,.int .i64 b2,.func (.func 193) #[.pointer (some ⟨h,0,none⟩)] #[]] w λe w'=>e=.returned (.tuple #[])/\(∃M:List Nat,M.Perm (P++Q)/\Srt S M/\Dat w' b (X++(M++Z)) rest)/\Upd [b] w w'
theorem zz5{S:HpS}{M1 M2 L1 L2:List Nat}(h1:Srt S M1)(h2:Srt S M2)(p1:M1.Perm L1)(p2:M2.Perm L2)(hc:∀x∈L1,∀y∈L2,z7 S x<=z7 S y):Srt S (M1++M2):=by
 refine List.pairwise_append.2 ⟨h1,h2,λx hx y hy=>hc x (p1.mem_iff.1 hx) y (p2.mem_iff.1 hy)⟩
theorem zsr(P1 P2 Q1 Q2 M1 M2:List Nat)(p1:M1.Perm (P1++Q1))(p2:M2.Perm (P2++Q2)):(M1++M2).Perm ((P1++P2)++(Q1++Q2)):=by
 refine(p1.append p2).trans ?_;rw[List.append_assoc,List.append_assoc];refine List.Perm.append_left _ ?_;rw[<-List.append_assoc,<-List.append_assoc];exact List.Perm.append_right _ List.perm_append_comm
theorem Srt.take{S:HpS}{L:List Nat}(h:Srt S L)(k:Nat):Srt S (L.take k):=List.Pairwise.sublist (List.take_sublist _ _) h
theorem Srt.drop{S:HpS}{L:List Nat}(h:Srt S L)(k:Nat):Srt S (L.drop k):=List.Pairwise.sublist (List.drop_sublist _ _) h
theorem zmj{S:HpS}{L:List Nat}(h:Srt S L){k:Nat}(hk:k<L.length):∀x∈L.take (k+1),z7 S x<=z7 S (L.getD k 0):=by
 intro x hx;obtain⟨t,ht,rfl⟩:=List.getElem_of_mem hx;rw[List.length_take] at ht;have:=h.at (i:=t) (j:=k) (by omega) hk;rw[zg,ze (show t<L.length by omega)] at this;simpa using this
theorem znj{S:HpS}{L:List Nat}(h:Srt S L){k:Nat}(hk:k<L.length):∀x∈L.drop k,z7 S (L.getD k 0)<=z7 S x:=by
 intro x hx;obtain⟨t,ht,rfl⟩:=List.getElem_of_mem hx;rw[List.length_drop] at ht;have:=h.at (i:=k) (j:=k+t) (by omega) (by omega);rw[zg (i:=k+t),ze (show k+t<L.length by omega)] at this;simpa using this
theorem z4g{w:World}{B h g:Nat}{vb:Value}{S:HpS}(b n c:Nat)(rest:List Value)(J5:n<=1000000)(X P Q Z:List Nat)(hI:z2p B h g vb S b n c rest (P.length+Q.length-1))(H:ca w B h g vb S)(hD:Dat w b (X++(P++(Q++Z))) rest)(hn:n=(X++(P++(Q++Z))).length)(hN:zrk S (P++Q))(hP:Srt S P)(hQ:Srt S Q)(L6:1<P.length)(L7:1<Q.length)(a m b2:Nat)(ha:a=X.length)(hm:m=X.length+P.length)(B4:b2=X.length+P.length+Q.length) :
 Calls prog 196 #[.slice (some ⟨b,0,none⟩) n c,.int .i64 a,.int .i64 m,.int .i64 b2,.func (.func 193) #[.pointer (some ⟨h,0,none⟩)] #[]] w λe w'=>e=.returned (.tuple #[])/\(∃M:List Nat,M.Perm (P++Q)/\Srt S M/\Dat w' b (X++(M++Z)) rest)/\Upd [b] w w':=by
 have HH:=zh H;have HD:=zh hD;have HN:=zh hN;have HP:=zh hP;have HQ:=zh hQ;have F7:=zh hI;have F8:=zh hn;have F9:X.length+P.length+Q.length+Z.length=n:=by rw[hn];simp only[List.length_append];omega
 have HA:=zh ha;have J6:=zh F9;have A9:=zh (show m=a+P.length by omega);have B0:=zh (show b2=m+Q.length by omega);have L8:b2<=n:=by omega
 have J7:¬((m:Int)-(a:Int)=1):=by omega
 have L9:((m:Int)-(a:Int) == 1)=false:=beq_false_of_ne J7;have J8:¬((b2:Int)-(m:Int)=1):=by omega
 have M0:((b2:Int)-(m:Int) == 1)=false:=beq_false_of_ne J8;have M3:a<m:=by omega
 have M4:m<b2:=by omega
 obtain⟨mid,D4⟩:=zx ((a+b2) / 2);have J9:((a:Int)+(b2:Int)) / 2=(mid:Int):=by omega
 obtain⟨nn,G0⟩:=zx (mid+m);have K0:(mid:Int)+(m:Int)=(nn:Int):=by omega
 have G1:a<mid:=by omega
 have G2:mid<b2:=by omega
 have B7:=zh (show a+b2<=2*mid+1/\2*mid<=a+b2 by omega);have D5:=zh G0;have D6:1<=nn:=by omega
 have M5:nn<=2*n:=by omega
 clear H hD hN hP hQ hI hn F9 ha hm B4 D4 G0;by_cases M6:mid<m
 case' pos =>
  have D7:(mid:Int)<(m:Int):=by omega
  obtain⟨s0,G3⟩:=zx (nn-b2);have K1:(nn:Int)-(b2:Int)=(s0:Int):=by have:=D5.out;have:=B7.out;omega
  obtain⟨S0,C7⟩:=zx (s0);obtain⟨R0,D8⟩:=zx (mid)
 case' neg =>
  have D7:¬(mid:Int)<(m:Int):=by omega
  obtain⟨S0,C7⟩:=zx (a);obtain⟨R0,D8⟩:=zx (m);have G3:=C7
 all_goals (
  have A8:Hid (a<=S0/\S0<=R0/\R0<=m/\nn<=S0+b2/\R0+m<=nn/\(S0+b2=nn\/S0=a)/\(R0+m=nn\/R0=m)):=by unfold Hid;have:=D5.out;have:=B7.out;omega
  have D9:=zh C7;have E0:=zh D8;clear G3 C7 D8;go_enter func196,ntmps196;go_wp2;go_loopw [20,21,23] (λiv jv x wr=>∃s r:Nat,s<=r/\S0<=s/\r<=R0/\iv=.int .i64 (s:Int)/\jv=.int .i64 (r:Int)/\Hid (s=S0\/(S0<s/\z7 S (P.getD (s-1-a) 0)<=z7 S (Q.getD (nn-s-m) 0)))/\Hid (r=R0\/(r<R0/\z7 S (Q.getD (nn-1-r-m) 0)<=z7 S (P.getD (r-a) 0)))/\Hid (Below w.heap.size w wr)) (λi j _ _=>(intOf j).toNat-(intOf i).toNat)
  case atStart=>exact⟨_,_,by have:=A8.out;have:=D9.out;have:=E0.out;omega,by have:=D9.out;omega,by have:=E0.out;omega,rfl,rfl,.inl D9.out.symm,.inl E0.out.symm,Below.refl _ _⟩
  case round =>
   obtain⟨s,r,K2,E1,K3,rfl,rfl,H1,H2,HB⟩:=hrel;by_cases K4:s<r
   ·have K5:(s:Int)<(r:Int):=by omega
    obtain⟨D,hD⟩:=zx ((s+r) / 2);have G4:s<=D/\D<r:=by omega
    have M7:((s:Int)+(r:Int)) / 2=(D:Int):=by omega
    have K6:D<m/\a<=D:=by have:=A8.out;omega
    have K7:m+D+1<=nn/\nn<=D+b2:=by have:=A8.out;omega
    obtain⟨E,hE⟩:=zx (nn-1-D);have M8:(nn:Int)-1-(D:Int)=(E:Int):=by omega
    have M9:E<n:=by omega
    have N0:D<n:=by omega
    have E2:=HD.keep HB;have E3:D-a<P.length:=by have:=A9.out;omega
    have E4:E-m<Q.length:=by have:=B0.out;omega
    have ky:=E2.cell (i:=E) (by rw[<-F8.out];omega);have kp:=E2.cell (i:=D) (by rw[<-F8.out];omega)
    have ey:(X++(P++(Q++Z))).getD E 0=Q.getD (E-m) 0:=by
     have:=zgn (X:=X++P) (Y:=Q) (Z:=Z) E4;rw[List.append_assoc,List.length_append] at this;rw[<-this];congr 1;have:=HA.out;have:=A9.out;omega
    have ep:(X++(P++(Q++Z))).getD D 0=P.getD (D-a) 0:=by
     have:=zgn (X:=X) (Y:=P) (Z:=Q++Z) E3;rw[<-this];congr 1;have:=HA.out;omega
    rw[ey] at ky;rw[ep] at kp;have E5:=HN (Q.getD (E-m) 0) (List.mem_append_right _ (zdj E4));have E6:=HN (P.getD (D-a) 0) (List.mem_append_left _ (zdj E3));have K8:=zh (show Q.getD (nn-1-D-m) 0=Q.getD (E-m) 0 by rw[hE]);have E7:=zh (show Q.getD (nn-(D+1)-m) 0=Q.getD (E-m) 0 by rw[hE,show nn-(D+1)=nn-1-D by omega]);have E8:=zh (show P.getD (D+1-1-a) 0=P.getD (D-a) 0 by rw[Nat.add_sub_cancel]);have K9:=zh (rfl:P.getD (D-a) 0=P.getD (D-a) 0);generalize G5:Q.getD (E-m) 0=y at *;generalize G6:P.getD (D-a) 0=x at *;have L0:=zh G6;have N1:=zh G5;have HM:=zh (zun (HH.below HB.drew) y x E5.1 E6.1 E5.2 E6.2);have G7:=zh (show Below w.heap.size w wr.drew from HB.drew);obtain⟨G4,N2⟩:=G4;clear ey ep E2 E5 E6 hE E3 E4 G5 G6 K6 K7 hD K9;go_wp2_with fail;refine zm (λz=>z.cell? ⟨b,E,none⟩=some (.int .i64 (y:Int))/\z.cell? ⟨b,D,none⟩=some (.int .i64 (x:Int))) (zp [0,1,2,3,4,5,6,7,8,9,10,1011,12,13]) (by kernel_rfl) (by kernel_rfl) (λ_ _ _ _ _ h=>h) ⟨ky,kp⟩ ?_;have HS:Hid (wr.drew.cell? ⟨b,E,none⟩=some (.int .i64 (y:Int))/\wr.drew.cell? ⟨b,D,none⟩=some (.int .i64 (x:Int))):=⟨ky,kp⟩;clear ky kp;generalize wr.drew=wd at *
    (repeat (refine zi rfl (λK hK=>?_);go_simp;(try go_bits);refine hK _ ?_;clear hK K))
    refine zl (.int .i64 (y:Int)) rfl rfl (λx hS=>by obtain⟨s0,s1⟩:=hS;go_simp) ?_
    (repeat (refine zi rfl (λK hK=>?_);go_simp;(try go_bits);refine hK _ ?_;clear hK K))
    refine zl (.int .i64 (x:Int)) rfl rfl (λx hS=>by obtain⟨s0,s1⟩:=hS;go_simp) ?_;refine zj rfl ?_;go_wp2_with fail;go_call HM as e w' ⟨rfl,B4⟩;have G8:=zh (G7.trans (B4.mono G7.size));have B8:=zh (And.intro (zu B4 HS.out.1) (zu B4 HS.out.2));clear B4 HM HS;by_cases C8:z7 S y<z7 S x
    ·have e2:((z7 S y:Int)-(z7 S x:Int)<0)=True:=eq_true (by omega);have E9:=zh C8;clear C8;generalize(z7 S y:Int)-(z7 S x:Int)=z at *;go_wp2;refine⟨B8,?_⟩
     (repeat (refine zi rfl (λK hK=>?_);go_simp;(try go_bits);refine hK _ ?_;clear hK K))
     refine zo ?_;go_wp2;go_roundw
     case rel=>exact⟨s,D,by omega,by omega,by omega,rfl,rfl,H1.out,.inr ⟨by omega,by rw[K8.out,L0.out];exact Nat.le_of_lt E9⟩,G8⟩
     case measure=>simp[intOf];omega
    ·have e2:((z7 S y:Int)-(z7 S x:Int)<0)=False:=eq_false (by omega);have E9:=zh C8;clear C8;generalize(z7 S y:Int)-(z7 S x:Int)=z at *;go_wp2;refine⟨B8,?_⟩
     (repeat (refine zi rfl (λK hK=>?_);go_simp;(try go_bits);refine hK _ ?_;clear hK K))
     refine zo ?_;go_wp2;go_roundw
     case rel=>exact⟨D+1,r,by omega,by omega,by omega,by go_num,rfl,.inr ⟨by omega,by rw[E8.out,E7.out];have:=E9.out;omega⟩,H2.out,G8.out⟩
     case measure=>simp[intOf];omega
   ·obtain rfl:s=r:=by omega
    clear K4 K2;obtain⟨e,he⟩:=zx (nn-s);have N3:(nn:Int)-(s:Int)=(e:Int):=by have:=A8.out;omega
    have hs:a<=s/\s<=m/\m<=e/\e<=b2:=by have:=A8.out;omega
    have G9:e+s=mid+m:=by have:=D5.out;omega
    obtain⟨N4,N5,N6,N7⟩:=hs
    have HC:Hid (∀x∈P.take (s-a)++Q.take (e-m),∀y∈P.drop (s-a)++Q.drop (e-m),z7 S x<=z7 S y):=by
     unfold Hid;have N8:=A9.out;have N9:=B0.out;have O0:=A8.out
     have c1:∀x∈P.take (s-a),∀y∈P.drop (s-a),z7 S x<=z7 S y:=by
      have:=HP.out;rw[<-List.take_append_drop (s-a) P] at this;exact(List.pairwise_append.1 this).2.2
     have c2:∀x∈Q.take (e-m),∀y∈Q.drop (e-m),z7 S x<=z7 S y:=by
      have:=HQ.out;rw[<-List.take_append_drop (e-m) Q] at this;exact(List.pairwise_append.1 this).2.2
     have c3:∀x∈P.take (s-a),∀y∈Q.drop (e-m),z7 S x<=z7 S y:=by
      intro x hx y hy;rcases H1.out with h1|⟨h1,h2⟩
      ·rcases A8.out.2.2.2.2.2.1 with h3|h3
       ·rw[List.drop_of_length_le (by omega)] at hy;simp at hy
       ·rw[show s-a=0 by omega] at hx;simp at hx
      ·have h4:=zmj HP.out (k:=s-1-a) (by omega) x (by rw[show s-1-a+1=s-a by omega];exact hx);rw[<-he] at h2;by_cases h5:e-m<Q.length
       ·have h6:=znj HQ h5 y hy;omega
       ·rw[List.drop_of_length_le (by omega)] at hy;simp at hy
     have c4:∀x∈Q.take (e-m),∀y∈P.drop (s-a),z7 S x<=z7 S y:=by
      intro x hx y hy;rcases H2.out with h1|⟨h1,h2⟩
      ·rcases A8.out.2.2.2.2.2.2 with h3|h3
       ·rw[show e-m=0 by omega] at hx;simp at hx
       ·rw[List.drop_of_length_le (by omega)] at hy;simp at hy
      ·by_cases h7:e-m=0
       ·rw[h7] at hx;simp at hx
       ·have h4:=zmj HQ.out (k:=nn-1-s-m) (by omega) x (by rw[show nn-1-s-m+1=e-m by omega];exact hx);by_cases h5:s-a<P.length
        ·have h6:=znj HP h5 y hy;omega
        ·rw[List.drop_of_length_le (by omega)] at hy;simp at hy
     intro x hx y hy;rcases List.mem_append.1 hx with hx|hx
     ·rcases List.mem_append.1 hy with hy|hy
      ·exact c1 x hx y hy
      ·exact c3 x hx y hy
     ·rcases List.mem_append.1 hy with hy|hy
      ·exact c4 x hx y hy
      ·exact c2 x hx y hy
    have A5:=zh (show a+(P.take (s-a)).length=s by have:=A9.out;rw[List.length_take];omega);have A0:=zh (show s+(P.drop (s-a)).length=m by have:=A9.out;rw[List.length_drop];omega);have A6:=zh (show m+(Q.take (e-m)).length=e by have:=B0.out;rw[List.length_take];omega);have B1:=zh (show e+(Q.drop (e-m)).length=b2 by have:=B0.out;rw[List.length_drop];omega);have F0:=zh (List.take_append_drop (s-a) P);have F1:=zh (List.take_append_drop (e-m) Q);have I0:=zh (HP.take (s-a));have B8:=zh (HP.drop (s-a));have I1:=zh (HQ.take (e-m));have I2:=zh (HQ.drop (e-m))
    have B9:=zh (show Dat wr b (X++(P.take (s-a)++(P.drop (s-a)++(Q.take (e-m)++(Q.drop (e-m)++Z))))) rest by
     rw[<-List.append_assoc (Q.take _),List.take_append_drop,<-List.append_assoc (P.take _),List.take_append_drop];exact HD.keep HB)
    generalize P.take (s-a)=P1 at *;generalize P.drop (s-a)=P2 at *;generalize Q.take (e-m)=Q1 at *;generalize Q.drop (e-m)=Q2 at *;have A7:=zh G9;have F2:=zh (show b2+Z.length=n by have:=J6.out;have:=HA.out;have:=A9.out;have:=B0.out;omega);have C9:=zh (HH.below HB);have D0:=zh (show Upd [b] w wr from .of_below HB);have L1:=zh (show zrk S (P1++Q1) from λk hk=>HN.out k (by rw[<-F0.out,<-F1.out];rcases List.mem_append.1 hk with h|h<;>simp[h]));have L2:=zh (show zrk S (P2++Q2) from λk hk=>HN.out k (by rw[<-F0.out,<-F1.out];rcases List.mem_append.1 hk with h|h<;>simp[h]));clear H1 H2 he G9 HD HN HP HQ A8 E1 K3;have B2:mid<e↔s<m:=by omega
    have B3:m<e↔s<mid:=by omega
    by_cases A3:s<mid
    case' neg=>have A4:e<b2:=by have:=B0.out;have:=A7.out;omega
    case' pos=>by_cases A4:e<b2
    all_goals (
     have B2:=B2
     by_cases A2:s<m<;>by_cases A1:a<s)
    all_goals (
     first|have A2I:=Int.ofNat_lt.2 A2|have A2I:=mt Int.ofNat_lt.1 A2
     first|have A3I:=Int.ofNat_lt.2 A3|have A3I:=mt Int.ofNat_lt.1 A3
     first|have A1I:=Int.ofNat_lt.2 A1|have A1I:=mt Int.ofNat_lt.1 A1
     first|have A4I:=Int.ofNat_lt.2 A4|have A4I:=mt Int.ofNat_lt.1 A4
     first|have B2I:=Int.ofNat_lt.2 (B2.2 A2)|have B2I:=mt (λh=>B2.1 (Int.ofNat_lt.1 h)) A2
     first|have B3I:=Int.ofNat_lt.2 (B3.2 A3)|have B3I:=mt (λh=>B3.1 (Int.ofNat_lt.1 h)) A3
     first
     | (
      have O1:s<m/\m<e:=⟨A2,B3.2 A3⟩;clear B2 B3
      have I3:Hid (Calls prog 197 #[.slice (some ⟨b,0,none⟩) n c,.int .i64 s,.int .i64 m,.int .i64 e,.func (.func 193) #[.pointer (some ⟨h,0,none⟩)] #[]] wr λe w'=>e=.returned (.tuple #[])/\Dat w' b (X++(P1++(Q1++(P2++(Q2++Z))))) rest/\Upd [b] wr w'):=by
       have h0:Dat wr b ((X++P1)++(P2++(Q1++(Q2++Z)))) rest:=by rw[List.append_assoc];exact B9
       have:=zxy wr b n c (X++P1) P2 Q1 (Q2++Z) rest h0 (by have:=A5.out;have:=A0.out;have:=A6.out;have:=B1.out;have:=F2.out;have:=HA.out;simp only[List.length_append];omega) J5 (by have:=A0.out;omega) (by have:=A6.out;omega) s m e (by have:=A5.out;have:=HA.out;rw[List.length_append];omega) (by have:=A5.out;have:=A0.out;have:=HA.out;rw[List.length_append];omega) (by have:=A5.out;have:=A0.out;have:=A6.out;have:=HA.out;rw[List.length_append];omega) (.func (.func 193) #[.pointer (some ⟨h,0,none⟩)] #[]);rw[List.append_assoc] at this;exact this
      go_wp2_with fail;go_call I3 as e' wA ⟨rfl,I4,F3⟩;have B5:=zh I4;have C0:=zh (D0.trans F3);have B6:=zh (C9.upd F3 B9.row)
      clear I4 F3 I3 B9 D0 C9)
     | (
      clear B2 B3;obtain⟨wA,L3⟩:=zx (wr);subst L3
      have B5:Hid (Dat wA b (X++(P1++(Q1++(P2++(Q2++Z))))) rest):=by
       unfold Hid;have:=B9.out;rcases(show P2.length=0\/Q1.length=0 by have:=A0.out;have:=A6.out;omega) with h|h<;>rw[List.eq_nil_of_length_eq_zero h] at this ⊢<;>exact this
      have C0:=D0;have B6:=C9
      clear B9 D0 C9)
     first
     | (
      have O2:a<s/\s<mid:=⟨A1,A3⟩;have I5:=zh (F7.out wA X P1 Q1 (P2++(Q2++Z)) (by have:=A5.out;have:=A0.out;have:=A6.out;have:=B1.out;have:=A9.out;have:=B0.out;have:=A7.out;omega) (by have:=A5.out;omega) (by have:=A6.out;have:=A7.out;omega) B6.out B5.out (by have:=A5.out;have:=A0.out;have:=A6.out;have:=B1.out;have:=F2.out;have:=HA.out;simp only[List.length_append];omega) L1.out I0.out I1.out a s mid HA.out (by have:=A5.out;have:=HA.out;omega) (by have:=A5.out;have:=A6.out;have:=HA.out;have:=A7.out;omega));go_wp2_with fail;go_call I5 as e' wB ⟨rfl,⟨M1,D6,C1,I6⟩,F4⟩;have D1:=zh D6;have I7:=zh C1;have C2:=zh (show Dat wB b (X++(M1++(P2++(Q2++Z)))) rest from I6);have C3:=zh (C0.trans F4);have D2:=zh (B6.upd F4 B5.row)
      clear D6 C1 I6 F4 I5 B5 C0 B6)
     | (
      obtain⟨wB,L4⟩:=zx (wA);subst L4
      have C4:Srt S (P1++Q1):=by
       rcases(show P1.length=0\/Q1.length=0 by have:=A5.out;have:=A6.out;have:=A7.out;omega) with h|h<;>rw[List.eq_nil_of_length_eq_zero h]
       ·exact I1
       ·rw[List.append_nil];exact I0
      obtain⟨M1,D1,I7,C2⟩:∃M1:List Nat,Hid (M1.Perm (P1++Q1))/\Hid (Srt S M1)/\Hid (Dat wB b (X++(M1++(P2++(Q2++Z)))) rest):=⟨P1++Q1,List.Perm.refl _,C4,by unfold Hid;rw[List.append_assoc];exact B5⟩;have C3:=C0;have D2:=B6
      clear B5 C0 B6 C4)
     first
     | (
      have O3:s<m/\e<b2:=⟨A2,A4⟩;have I8:X.length+M1.length=mid:=by have h1:=D1.out.length_eq;rw[List.length_append] at h1;have:=A5.out;have:=A6.out;have:=A7.out;have:=HA.out;omega
      have D3:=zh I8;clear I8;have I9:=zh (F7.out wB (X++M1) P2 Q2 Z (by have:=A5.out;have:=A0.out;have:=A6.out;have:=B1.out;have:=A9.out;have:=B0.out;have:=A7.out;omega) (by have:=A0.out;omega) (by have:=B1.out;omega) D2.out (by rw[List.append_assoc];exact C2.out) (by have:=D3.out;have:=A0.out;have:=A6.out;have:=B1.out;have:=F2.out;have:=A7.out;simp only[List.length_append];omega) L2.out B8.out I2.out mid e b2 (by rw[List.length_append];exact D3.out.symm) (by rw[List.length_append];have:=D3.out;have:=A0.out;have:=A7.out;omega) (by rw[List.length_append];have:=D3.out;have:=A0.out;have:=B1.out;have:=A7.out;omega));go_wp2_with fail;go_call I9 as e' wC ⟨rfl,⟨M2,J0,C5,F5⟩,J1⟩;have F6:=zh J0;have J2:=zh C5;have J3:=zh (show Dat wC b (X++(M1++(M2++Z))) rest by rw[List.append_assoc] at F5;exact F5);have J4:=zh (C3.trans J1)
      clear J0 C5 F5 J1 I9 C2 C3 D2)
     | (
      obtain⟨wC,L5⟩:=zx (wB);subst L5
      have C6:Srt S (P2++Q2):=by
       rcases(show P2.length=0\/Q2.length=0 by have:=A0.out;have:=B1.out;have:=A7.out;omega) with h|h<;>rw[List.eq_nil_of_length_eq_zero h]
       ·exact I2
       ·rw[List.append_nil];exact B8
      obtain⟨M2,F6,J2,J3⟩:∃M2:List Nat,Hid (M2.Perm (P2++Q2))/\Hid (Srt S M2)/\Hid (Dat wC b (X++(M1++(M2++Z))) rest):=⟨P2++Q2,List.Perm.refl _,C6,by unfold Hid;rw[List.append_assoc];exact C2⟩;have J4:=C3
      clear C2 C3 D2 C6)
     go_wp2;go_end0;refine⟨rfl,⟨M1++M2,?_,zz5 I7.out J2.out D1.out F6.out HC.out,by rw[List.append_assoc];exact J3⟩,J4⟩;rw[<-F0.out,<-F1.out]
     exact zsr P1 P2 Q1 Q2 M1 M2 D1 F6))
theorem zrx{B h g:Nat}{vb:Value}{S:HpS}(b n c:Nat)(rest:List Value)(A0:n<=1000000):∀k,z2p B h g vb S b n c rest k
 | 0=>λw X P Q Z hk hP hQ=>by omega
 | k+1=>λw X P Q Z hk A3 A2 H hD hn hN hP hQ a m b2 ha hm A1=>by
  by_cases h1:P.length=1
  ·obtain⟨p,rfl⟩:=List.length_eq_one_iff.1 h1;refine(z4i H b n c X p Q Z rest hD hn A0 hN hQ A2 a m b2 ha hm A1).mono ?_;rintro e w' ⟨rfl,⟨Q1,Q2,rfl,h2,h3,hd⟩,hu⟩;refine⟨rfl,⟨Q1++p::Q2,?_,?_,by rw[List.append_assoc];exact hd⟩,hu⟩
   ·exact List.perm_middle
   ·obtain⟨s1,s2,s3⟩:=List.pairwise_append.1 hQ;refine List.pairwise_append.2 ⟨s1,List.pairwise_cons.2 ⟨h3,s2⟩,λx hx y hy=>?_⟩;rcases List.mem_cons.1 hy with rfl|hy
    ·exact h2 x hx
    ·exact s3 x hx y hy
  ·by_cases h2:Q.length=1
   ·obtain⟨q,rfl⟩:=List.length_eq_one_iff.1 h2;refine(z4h H b n c X P q Z rest hD hn A0 (λx hx=>hN x (by rcases List.mem_cons.1 hx with rfl|hx<;>simp_all)) hP (by omega) a m b2 ha hm A1).mono ?_;rintro e w' ⟨rfl,⟨P1,P2,rfl,h2,h3,hd⟩,hu⟩;refine⟨rfl,⟨P1++q::P2,?_,?_,by rw[List.append_assoc];exact hd⟩,hu⟩
    ·rw[List.append_assoc];exact List.Perm.append_left _ (List.perm_append_comm (l₁:=[q]) (l₂:=P2))
    ·obtain⟨s1,s2,s3⟩:=List.pairwise_append.1 hP;refine List.pairwise_append.2 ⟨s1,List.pairwise_cons.2 ⟨h3,s2⟩,λx hx y hy=>?_⟩;rcases List.mem_cons.1 hy with rfl|hy
     ·exact h2 x hx
     ·exact s3 x hx y hy
   ·have hI:z2p B h g vb S b n c rest (P.length+Q.length-1):=λw X P' Q' Z A4=>zrx b n c rest A0 k w X P' Q' Z (by omega)
    exact z4g b n c rest A0 X P Q Z hI H hD hn hN hP hQ (by omega) (by omega) a m b2 ha hm A1
theorem ztc{S:HpS}{M:List Nat}(h:Srt S M)(y u:Nat)(h1:∀z∈M.take u,z7 S z<=z7 S y)(h2:∀z∈M.drop u,z7 S y<=z7 S z):Srt S (M.take u++y::M.drop u):=by
 have h3:=h;rw[<-List.take_append_drop u M] at h3;obtain⟨s1,s2,s3⟩:=List.pairwise_append.1 h3;refine List.pairwise_append.2 ⟨s1,List.pairwise_cons.2 ⟨h2,s2⟩,λx hx z hz=>?_⟩;rcases List.mem_cons.1 hz with rfl|hz
 ·exact h1 x hx
 ·exact s3 x hx z hz
theorem zom{M Y:List Nat}{t:Nat}(y u:Nat)(h:M.Perm (Y.take t))(hy:Y.take (t+1)=Y.take t++[y]):(M.take u++y::M.drop u).Perm (Y.take (t+1)):=by
 refine List.perm_middle.trans ?_;rw[List.take_append_drop,hy];exact(h.cons y).trans (List.perm_append_comm (l₁:=[y]))
section
variable{w:World}{B h g:Nat}{vb:Value}{S:HpS}
theorem zzi(H:ca w B h g vb S)(b n c:Nat)(X Y Z:List Nat)(rest:List Value)(hD:Dat w b (X++(Y++Z)) rest)(hn:n=(X++(Y++Z)).length)(D7:n<=1000000)(hN:zrk S Y)(a b2:Nat)(ha:a=X.length)(A1:b2=X.length+Y.length) :
 Calls prog 195 #[.slice (some ⟨b,0,none⟩) n c,.int .i64 a,.int .i64 b2,.func (.func 193) #[.pointer (some ⟨h,0,none⟩)] #[]] w λe w'=>e=.returned (.tuple #[])/\(∃M:List Nat,M.Perm Y/\Srt S M/\Dat w' b (X++(M++Z)) rest)/\Upd [b] w w':=by
 have HH:=zh H;have HD:=zh hD;have HN:=zh hN;have C8:=zh hD.row;have HA:=zh ha;have A6:=zh (show X.length+Y.length+Z.length=n by rw[hn];simp only[List.length_append];omega);have B5:=zh (show b2=a+Y.length by omega);have D8:b2<=n:=by have:=A6.out;omega
 have D9:a<=n:=by have:=A6.out;omega
 clear H hD hN hn ha A1;go_enter func195,ntmps195;go_wp2;go_loopw [8] (λiv wr=>∃i t:Nat,∃M:List Nat,iv=.int .i64 (i:Int)/\a<i/\i<=n+1/\Hid (i=a+t)/\Hid (M.Perm (Y.take t))/\Hid (Srt S M)/\Hid (Dat wr b (X++(M++(Y.drop t++Z))) rest)/\Hid (Upd [b] w wr)) (λiv _=>n+1-(intOf iv).toNat)
 case atStart =>
  refine⟨a+1,1,Y.take 1,by go_num,by omega,by omega,rfl,List.Perm.refl _,?_,?_,Upd.refl _ _⟩
  ·unfold Hid;cases Y with
   | nil=>exact List.Pairwise.nil
   | cons y Y=>exact List.pairwise_singleton _ _
  ·unfold Hid;rw[<-List.append_assoc (Y.take 1),List.take_append_drop];exact HD
 case round =>
  clear HD;obtain⟨i,t,M,rfl,E0,E1,HI,A2,A3,HD,HU⟩:=hrel;by_cases E2:i<b2
  ·have B0:(i:Int)<(b2:Int):=by omega
   have A0:t<Y.length:=by have:=HI.out;have:=B5.out;omega
   have B6:=zh A0;have B7:M.length=t:=by have:=A2.out.length_eq;rw[List.length_take] at this;omega
   have A4:=zh B7;have B8:=HN Y[t] (List.getElem_mem A0);have B9:=zh (List.take_succ_eq_append_getElem A0);have C9:=zh (List.drop_eq_getElem_cons A0);have D0:=zh (show zrk S M from λk hk=>HN k (List.mem_of_mem_take (A2.mem_iff.1 hk)));generalize Y[t]=y at *
   have C0:=zh (show Dat wr b (X++(M.take t++(y::(M.drop t++(Y.drop (t+1)++Z))))) rest by
    rw[<-A4.out,List.take_length,List.drop_length,A4.out];have:=HD.out;rw[C9.out] at this
    exact this)
   clear A0 B7 HD;go_wp2;go_loopw [9] (λjv w2=>∃j u:Nat,jv=.int .i64 (j:Int)/\a<=j/\j<=i/\Hid (j=a+u)/\Hid (∀x∈M.drop u,z7 S y<=z7 S x)/\Hid (Dat w2 b (X++(M.take u++(y::(M.drop u++(Y.drop (t+1)++Z))))) rest)/\Hid (Upd [b] wr w2)) (λjv _=>(intOf jv).toNat)
   case atStart=>exact⟨i,t,rfl,by omega,Nat.le_refl _,HI.out,by unfold Hid;rw[<-A4.out,List.drop_length];simp,C0.out,Upd.refl _ _⟩
   case round =>
    clear C0;obtain⟨j,u,rfl,E3,E4,HJ,C1,HD,HV⟩:=hrel;have C2:Hid (u<=t):=by unfold Hid;have:=HI.out;have:=HJ.out;omega
    have hL:Hid ((X++(M.take u++(y::(M.drop u++(Y.drop (t+1)++Z))))).length=n):=by
     unfold Hid;have:=A6.out;have:=A4.out;have:=B6.out;have:=C2.out;simp only[List.length_append,List.length_take,List.length_drop,List.length_cons];omega
    by_cases E5:a<j
    ·obtain⟨j',rfl⟩:∃j',j=j'+1:=⟨j-1,by omega⟩;obtain⟨u',rfl⟩:∃u',u=u'+1:=⟨u-1,by have:=HJ.out;omega⟩;have e1:decide ((a:Int)<(j':Int)+1)=true:=decide_eq_true (by omega);have E6:j'+1<n:=by have:=A6.out;have:=HI.out;have:=B6.out;have:=HA.out;omega
     have A5:u'<M.length:=by have:=A4.out;have:=C2.out;omega
     have ky:=HD.out.cell (i:=j'+1) (by rw[hL.out];omega);have kx:=HD.out.cell (i:=j') (by rw[hL.out];omega)
     have ey:(X++(M.take (u'+1)++(y::(M.drop (u'+1)++(Y.drop (t+1)++Z))))).getD (j'+1) 0=y:=by
      have h1:j'+1=(X++M.take (u'+1)).length:=by rw[List.length_append,List.length_take];have:=HJ.out;have:=HA.out;omega
      rw[<-List.append_assoc,h1,zg,List.getElem?_append_right (Nat.le_refl _),Nat.sub_self];rfl
     have ex:(X++(M.take (u'+1)++(y::(M.drop (u'+1)++(Y.drop (t+1)++Z))))).getD j' 0=M.getD u' 0:=by
      have h1:=zgn (X:=X) (Y:=M.take (u'+1)) (Z:=y::(M.drop (u'+1)++(Y.drop (t+1)++Z))) (i:=u') (by rw[List.length_take];omega);rw[show j'=X.length+u' by have:=HJ.out;have:=HA.out;omega,h1,zg,List.getElem?_take,if_pos (by omega),zg]
     rw[ey] at ky;rw[ex] at kx;have B1:=D0 (M.getD u' 0) (zdj A5);have D1:=zh (zmj A3 A5);have C3:=zh (λD2:z7 S y<=z7 S (M.getD u' 0)=>(show ∀z∈M.drop u',z7 S y<=z7 S z from λz hz=>Nat.le_trans D2 (znj A3 A5 z hz)))
     have D3:=zh (show swp (X++(M.take (u'+1)++(y::(M.drop (u'+1)++(Y.drop (t+1)++Z))))) (j'+1) j'=X++(M.take u'++(y::(M.drop u'++(Y.drop (t+1)++Z)))) by
      have:=zh9 X M (Y.drop (t+1)++Z) y A5;rw[show j'=X.length+u' by have:=HJ.out;have:=HA.out;omega]
      exact this)
     have D4:M.getD u' 0=M.getD u' 0:=rfl;generalize M.getD u' 0=x at *;have HM:=zh (zun ((HH.upd (HU.trans HV) C8).below (Below.refl _ wr).drew) y x B8.1 B1.1 B8.2 B1.2);have C4:=zh (show Dat wr.drew b (X++(M.take (u'+1)++(y::(M.drop (u'+1)++(Y.drop (t+1)++Z))))) rest from HD.drew);have C5:=zh (HV.drew);clear A5 D4;have EY:=zh ey;have EX:=zh ex;have E7:(0:Int)<=(j':Int):=by omega
     have E8:(0:Int)<=(j':Int)+1:=by omega
     have E9:(j':Int)+1<(n:Int):=by omega
     have D5:j'<n:=by omega
     clear ey ex B1 HD HV;go_wp2_with fail;refine zm (λz=>z.cell? ⟨b,j'+1,none⟩=some (.int .i64 (y:Int))/\z.cell? ⟨b,j',none⟩=some (.int .i64 (x:Int))) (zp [0,1,2,3,4,5,6,7,8,9,10,11,12,13,1014,15,16]) (by kernel_rfl) (by kernel_rfl) (λ_ _ _ _ _ h=>h) ⟨ky,kx⟩ ?_;have HS:Hid (wr.drew.cell? ⟨b,j'+1,none⟩=some (.int .i64 (y:Int))/\wr.drew.cell? ⟨b,j',none⟩=some (.int .i64 (x:Int))):=⟨ky,kx⟩;clear ky kx;generalize wr.drew=wd at *
     (repeat (refine zi rfl (λK hK=>?_);go_simp;(try go_bits);refine hK _ ?_;clear hK K))
     refine zl (.int .i64 (y:Int)) rfl rfl (λx hS=>by obtain⟨s0,s1⟩:=hS;go_simp) ?_
     (repeat (refine zi rfl (λK hK=>?_);go_simp;(try go_bits);refine hK _ ?_;clear hK K))
     refine zl (.int .i64 (x:Int)) rfl rfl (λx hS=>by obtain⟨s0,s1⟩:=hS;go_simp) ?_;refine zj rfl ?_;go_wp2_with fail;go_call HM as e w' ⟨rfl,A1⟩;have A7:=zh (And.intro (zu A1 HS.out.1) (zu A1 HS.out.2));have A8:=zh (C4.keep A1);have C6:=zh (C5.trans (.of_below A1));clear A1 HM HS C4 C5;by_cases A9:z7 S y<z7 S x
     ·have e2:decide ((z7 S y:Int)-(z7 S x:Int)<0)=true:=decide_eq_true (by omega);have B2:=zh A9;clear A9;generalize(z7 S y:Int)-(z7 S x:Int)=z at *;go_wp2;refine⟨A7,?_⟩
      (repeat (refine zi rfl (λK hK=>?_);go_simp;(try go_bits);refine hK _ ?_;clear hK K))
      refine zo ?_;have k1:=A7.out.1;have k2:=A7.out.2;have f1:=A8.free (j'+1);have f2:=A8.free j';have B3:=zh (A8.out.drew.swap (i:=j'+1) (j:=j') (by rw[hL.out];omega) (by rw[hL.out];omega) (x:=y) (y:=x) EY.out EX.out);have C7:=C3 (Nat.le_of_lt B2);have B4:=zh C7;clear C3 C7;go_wp2_with fail;go_region;go_wp2;refine⟨⟨j',u',rfl,by omega,by omega,by unfold Hid;have:=HJ.out;omega,B4.out,?_,((C6.out.setCell (by simp) _).setCell (by simp) _).drew⟩,by simp[intOf]⟩;show Dat _ _ _ _
      rw[<-D3.out];exact B3
     ·have e2:decide ((z7 S y:Int)-(z7 S x:Int)<0)=false:=decide_eq_false (by omega);have B2:=zh A9;clear A9;generalize(z7 S y:Int)-(z7 S x:Int)=z at *;go_wp2;refine⟨A7,?_⟩
      (repeat (refine zi rfl (λK hK=>?_);go_simp;(try go_bits);refine hK _ ?_;clear hK K))
      refine zo ?_;go_wp2;refine⟨⟨i+1,t+1,M.take (u'+1)++y::M.drop (u'+1),by go_num,by omega,by omega,by unfold Hid;have:=HI.out;omega,zom y (u'+1) A2.out B9.out,ztc A3.out y (u'+1) (λz hz=>Nat.le_trans (D1.out z hz) (by have:=B2.out;omega)) C1.out,?_,HU.out.trans C6.out⟩,by simp[intOf];omega⟩;show Dat _ _ _ _
      rw[List.append_assoc];exact A8
    ·have e1:decide ((a:Int)<(j:Int))=false:=decide_eq_false (by omega);go_wp2_with fail;have D6:u=0:=by have:=HJ.out;omega
     subst D6;go_region;go_wp2;refine⟨⟨i+1,t+1,M.take 0++y::M.drop 0,by go_num,by omega,by omega,by unfold Hid;have:=HI.out;omega,zom y 0 A2.out B9.out,ztc A3.out y 0 (λz hz=>by simp at hz) C1.out,?_,HU.out.trans HV.out.drew⟩,by simp[intOf];omega⟩;show Dat _ _ _ _
     rw[List.append_assoc];exact HD.drew
  ·have B0:¬(i:Int)<(b2:Int):=by omega
   have A0:Y.length<=t:=by have:=HI.out;have:=B5.out;omega
   go_wp2;go_end0;refine⟨rfl,⟨M,?_,A3,?_⟩,HU⟩
   ·have:=A2.out;rwa[List.take_of_length_le A0] at this
   ·have:=HD.out;rwa[List.drop_of_length_le A0,List.nil_append] at this
end
end Go.Proofs.YtoeibiahbenpcaaGreatDoor
