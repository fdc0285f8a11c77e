/- Part. -/
import Derived.Test.YtoeibiahbenpcaaGreatDoorA11
namespace Go.Proofs.YtoeibiahbenpcaaGreatDoor
open RowKit Maps Proofs.Tryz
set_option linter.unusedVariables false
set_option maxRecDepth 99999
set_option maxHeartbeats 9000000
def z5x(k:Nat):Value:=.int .i64 (k:Int)
structure Dat(w:World)(b:Nat)(L:List Nat)(rest:List Value):Prop where
 row:Row w b 3 (L.map z5x++rest)
theorem Dat.cell{w:World}{b:Nat}{L:List Nat}{rest:List Value}(h:Dat w b L rest){i:Nat}(hi:i<L.length):w.cell? ⟨b,i,none⟩=some (.int .i64 ((L.getD i 0:Nat):Int)):=by
 refine h.row.cell ?_;rw[List.getElem?_append_left (by simpa using hi),List.getElem?_map,ze hi,zg,ze hi];rfl
theorem Dat.free{w:World}{b:Nat}{L:List Nat}{rest:List Value}(h:Dat w b L rest)(i:Nat):w.frozen? ⟨b,i,none⟩=false:=h.row.free i
theorem Dat.set{w:World}{b:Nat}{L:List Nat}{rest:List Value}(h:Dat w b L rest){i:Nat}(hi:i<L.length)(x:Nat):Dat (w.setCell ⟨b,i,none⟩ (.int .i64 (x:Int))) b (L.set i x) rest:=by
 refine⟨?_⟩;have:=h.row.set i (.int .i64 (x:Int));rw[List.set_append_left (h:=by simpa using hi)] at this;rw[List.map_set];exact this
theorem Dat.drew{w:World}{b:Nat}{L:List Nat}{rest:List Value}(h:Dat w b L rest):Dat w.drew b L rest:=⟨h.row.drew⟩
theorem Dat.keep{w w':World}{b:Nat}{L:List Nat}{rest:List Value}(h:Dat w b L rest)(hb:Below w.heap.size w w'):Dat w' b L rest:=⟨h.row.keep (l:=[]) (.of_below hb) (by simp)⟩
def swp(L:List Nat)(i j:Nat):List Nat:=(L.set i (L.getD j 0)).set j (L.getD i 0)
theorem Dat.swap{w:World}{b:Nat}{L:List Nat}{rest:List Value}(h:Dat w b L rest){i j:Nat}(hi:i<L.length)(hj:j<L.length){x y:Nat}(hx:L.getD i 0=x)(hy:L.getD j 0=y) :
 Dat ((w.setCell ⟨b,i,none⟩ (.int .i64 (y:Int))).setCell ⟨b,j,none⟩ (.int .i64 (x:Int))) b (swp L i j) rest:=by
 subst hx;subst hy;exact(h.set hi _).set (by simpa using hj) _
theorem zry(L:List Nat){i j:Nat}(hi:i<L.length)(hj:j<L.length)(t:Nat):(swp L i j)[t]?=if t=j then L[i]? else if t=i then L[j]? else L[t]?:=by
 unfold swp;rw[List.getElem?_set,List.getElem?_set,List.length_set];by_cases h1:t=j
 ·subst h1;rw[if_pos rfl,if_pos hj,if_pos rfl,zg,ze hi];rfl
 ·rw[if_neg (Ne.symm h1),if_neg h1];by_cases h2:t=i
  ·subst h2;rw[if_pos rfl,if_pos hi,if_pos rfl,zg,ze hj];rfl
  ·rw[if_neg (Ne.symm h2),if_neg h2]
theorem zmk(X Y Z:List Nat)(x y:Nat):swp (X++x::(Y++y::Z)) X.length (X.length+1+Y.length)=X++y::(Y++x::Z):=by
 have e0:(X++x::(Y++y::Z)).getD X.length 0=x:=by rw[zg];simp
 have e1:(X++x::(Y++y::Z)).getD (X.length+1+Y.length) 0=y:=by
  rw[zg,List.getElem?_append_right (by omega),show X.length+1+Y.length-X.length=Y.length+1 by omega];simp
 unfold swp;rw[e0,e1,List.set_append_right (h:=Nat.le_refl _),Nat.sub_self,List.set_cons_zero,List.set_append_right (h:=by omega),show X.length+1+Y.length-X.length=Y.length+1 by omega,List.set_cons_succ,List.set_append_right (h:=Nat.le_refl _),Nat.sub_self,List.set_cons_zero]
theorem zwr(X P Y Q Z:List Nat)(A1:P.length=Q.length){j:Nat}(hj:j<P.length) :
 swp (X++(Q.take j++(P.drop j++(Y++(P.take j++(Q.drop j++Z)))))) (X.length+j) (X.length+P.length+Y.length+j)=X++(Q.take (j+1)++(P.drop (j+1)++(Y++(P.take (j+1)++(Q.drop (j+1)++Z))))):=by
 have A0:j<Q.length:=by omega
 have e:=zmk (X++Q.take j) (P.drop (j+1)++(Y++P.take j)) (Q.drop (j+1)++Z) P[j] Q[j];have e1:(X++Q.take j).length=X.length+j:=by simp;omega
 have e2:X.length+j+1+(P.drop (j+1)++(Y++P.take j)).length=X.length+P.length+Y.length+j:=by simp;omega
 rw[e1,e2] at e;rw[List.drop_eq_getElem_cons hj,List.drop_eq_getElem_cons A0,List.take_succ_eq_append_getElem hj,List.take_succ_eq_append_getElem A0];simp only[List.append_assoc,List.cons_append,List.nil_append] at e ⊢;exact e
theorem zct(w:World)(b n c:Nat)(X P Y Q Z:List Nat)(rest:List Value)(hD:Dat w b (X++(P++(Y++(Q++Z)))) rest)(hn:n=(X++(P++(Y++(Q++Z)))).length)(A8:n<=1000000)(a b2 m:Nat)(ha:a=X.length)(A0:b2=X.length+P.length+Y.length)(hm:m=P.length)(A3:P.length=Q.length)(f:Value) :
 Calls prog 198 #[.slice (some ⟨b,0,none⟩) n c,.int .i64 a,.int .i64 b2,.int .i64 m,f] w λe w'=>e=.returned (.tuple #[])/\Dat w' b (X++(Q++(Y++(P++Z)))) rest/\Upd [b] w w':=by
 have HD:=zh hD;have HN:=zh hn;have HA:=zh ha;have A5:=zh A0;have HM:=zh hm;have A1:=zh A3;have A9:b2+m<=n:=by rw[A0,hm,hn];simp only[List.length_append];omega
 have B0:a+m<=b2:=by omega
 clear hD hn ha A0 hm A3;go_enter func198,ntmps198;go_wp2;go_loopw [10] (λi wr=>∃j:Nat,j<=m/\i=.int .i64 j/\Hid (Dat wr b (X++(Q.take j++(P.drop j++(Y++(P.take j++(Q.drop j++Z)))))) rest)/\Hid (Upd [b] w wr)) (λi _=>m-(intOf i).toNat)
 case atStart=>exact⟨0,Nat.zero_le _,rfl,by unfold Hid;simpa using HD.out,Upd.refl _ _⟩
 case round =>
  clear HD;obtain⟨j,hj,rfl,HD,HU⟩:=hrel;by_cases A6:j<m
  ·have hL:Hid ((X++(Q.take j++(P.drop j++(Y++(P.take j++(Q.drop j++Z)))))).length=n):=by
    unfold Hid;rw[HN.out];simp only[List.length_append,List.length_take,List.length_drop];have:=HM.out;have:=A1.out;omega
   have k1:=HD.out.cell (i:=a+j) (by rw[hL.out];omega);have k2:=HD.out.cell (i:=b2+j) (by rw[hL.out];omega);have f1:=HD.free (a+j);have f2:=HD.free (b2+j);have A4:=zh (λx y hx hy=>HD.out.drew.swap (i:=a+j) (j:=b2+j) (by rw[hL.out];omega) (by rw[hL.out];omega) (x:=x) (y:=y) hx hy);have B1:=zh (show ¬a+j=b2+j by omega);have A7:=zh (show swp (X++(Q.take j++(P.drop j++(Y++(P.take j++(Q.drop j++Z)))))) (a+j) (b2+j)=X++(Q.take (j+1)++(P.drop (j+1)++(Y++(P.take (j+1)++(Q.drop (j+1)++Z))))) by rw[HA.out,A5.out];exact zwr X P Y Q Z A1.out (by rw[<-HM.out];exact A6));generalize hx:(X++(Q.take j++(P.drop j++(Y++(P.take j++(Q.drop j++Z)))))).getD (a+j) 0=x at *;generalize hy:(X++(Q.take j++(P.drop j++(Y++(P.take j++(Q.drop j++Z)))))).getD (b2+j) 0=y at *;have A2:=zh (A4.out x y (by first|exact hx|rfl) (by first|exact hy|rfl));clear hx hy A4;go_wp2_with fail;go_region;go_wp2;refine⟨⟨j+1,by omega,by go_num,?_,((HU.out.setCell (by simp) _).setCell (by simp) _).drew⟩,by simp[intOf];omega⟩;show Dat _ _ _ _
   rw[<-A7.out];exact A2
  ·obtain rfl:m=j:=by omega
   go_wp2;go_end0;refine⟨rfl,?_,HU⟩;have:=HD.out;rw[HM.out,List.take_length,List.drop_length,A1.out,List.take_length,List.drop_length] at this;simpa using this
theorem zxy(w:World)(b n c:Nat)(X P Q Z:List Nat)(rest:List Value)(hD:Dat w b (X++(P++(Q++Z))) rest)(hn:n=(X++(P++(Q++Z))).length)(A6:n<=1000000)(hP:0<P.length)(hQ:0<Q.length)(a m b2:Nat)(ha:a=X.length)(hm:m=X.length+P.length)(B1:b2=X.length+P.length+Q.length)(f:Value) :
 Calls prog 197 #[.slice (some ⟨b,0,none⟩) n c,.int .i64 a,.int .i64 m,.int .i64 b2,f] w λe w'=>e=.returned (.tuple #[])/\Dat w' b (X++(Q++(P++Z))) rest/\Upd [b] w w':=by
 have HD:=zh hD;have HN:=zh hn;have B2:X.length+P.length+Q.length+Z.length=n:=by rw[hn];simp only[List.length_append];omega
 have B7:b2<=n:=by omega
 have B3:a+P.length=m:=by omega
 have B5:m+Q.length=b2:=by omega
 have HA:=zh ha;have HM:=zh hm;have B8:=zh B1;clear hD hn ha hm B1;have A7:(m:Int)-(a:Int)=((P.length:Nat):Int):=by omega
 have A8:(b2:Int)-(m:Int)=((Q.length:Nat):Int):=by omega
 have B6:=zh B2;have HX:=zh (show a+P.length=m by exact B3);clear B2 B3 B5;go_enter func197,ntmps197;go_wp2;clear A7 A8;go_loopw [10,11] (λi j wr=>∃A P' Q' C:List Nat,i=.int .i64 (P'.length:Nat)/\j=.int .i64 (Q'.length:Nat)/\0<P'.length/\0<Q'.length/\Hid (X.length+A.length+P'.length=m)/\Hid (A++(Q'++(P'++C))=Q++P)/\Hid (Dat wr b (X++(A++(P'++(Q'++(C++Z))))) rest)/\Hid (Upd [b] w wr)) (λi j _=>(intOf i).toNat+(intOf j).toNat)
 case atStart=>exact⟨[],P,Q,[],rfl,rfl,hP,hQ,by unfold Hid;rw[HM.out];simp,by unfold Hid;simp,by unfold Hid;simpa using HD.out,Upd.refl _ _⟩
 case round =>
  clear HD hP hQ;obtain⟨A,P',Q',C,rfl,rfl,hP,hQ,HE,A5,HD,HU⟩:=hrel
  have B4:Hid (X.length+A.length+P'.length+Q'.length+C.length+Z.length=n):=by
   unfold Hid;have h1:=congrArg List.length A5;simp only[List.length_append] at h1;have:=B6.out;omega
  have A0:Hid (n=(X++(A++(P'++(Q'++(C++Z))))).length):=by unfold Hid;simp only[List.length_append];have:=B4.out;omega
  have B9:P'.length<=m:=by have:=HE.out;omega
  have C0:m+Q'.length<=n:=by have:=HE.out;have:=B4.out;omega
  by_cases A9:P'.length=Q'.length
  ·have A2:((P'.length:Nat):Int)=((Q'.length:Nat):Int):=by omega
   have A1:Hid (Calls prog 198 #[.slice (some ⟨b,0,none⟩) n c,.int .i64 ((m:Int)-(P'.length:Nat)),.int .i64 m,.int .i64 (P'.length:Nat),f] wr λe w'=>e=.returned (.tuple #[])/\Dat w' b (X++(Q++(P++Z))) rest/\Upd [b] wr w'):=by
    have h0:Dat wr b ((X++A)++(P'++([]++(Q'++(C++Z))))) rest:=by simpa[List.append_assoc] using HD.out
    have:=zct wr b n c (X++A) P' [] Q' (C++Z) rest h0 (by rw[A0.out];simp) A6 (X.length+A.length) m P'.length (by simp) (by have:=HE.out;simp;omega) rfl A9 f;rw[show(((X.length+A.length:Nat)):Int)=(m:Int)-(P'.length:Nat) by have:=HE.out;omega] at this
    have e:(X++A)++(Q'++([]++(P'++(C++Z))))=X++(Q++(P++Z)):=by
     have h1:=congrArg (·++Z) A5;simp only[List.append_assoc] at h1;simp only[List.append_assoc,List.nil_append];rw[h1]
    rw[e] at this;exact this
   rw[A2] at A1;have C1:=zh A9;clear A9;go_wp2_with fail;go_call A1 as e w2 ⟨rfl,hd,hu⟩;have A3:=zh hd;have A4:=zh (HU.trans hu);clear hd hu;go_wp2;go_end0;exact⟨rfl,A3,A4⟩
  ·have A2:¬((P'.length:Nat):Int)=((Q'.length:Nat):Int):=by omega
   by_cases C2:Q'.length<P'.length
   ·have B0:((Q'.length:Nat):Int)<((P'.length:Nat):Int):=by omega
    have A1:Hid (Calls prog 198 #[.slice (some ⟨b,0,none⟩) n c,.int .i64 ((m:Int)-(P'.length:Nat)),.int .i64 m,.int .i64 (Q'.length:Nat),f] wr λe w'=>e=.returned (.tuple #[])/\Dat w' b (X++((A++Q')++(P'.drop Q'.length++(P'.take Q'.length++(C++Z))))) rest/\Upd [b] wr w'):=by
     have h0:Dat wr b ((X++A)++(P'.take Q'.length++(P'.drop Q'.length++(Q'++(C++Z))))) rest:=by
      rw[<-List.append_assoc (P'.take Q'.length),List.take_append_drop];simpa[List.append_assoc] using HD.out
     have:=zct wr b n c (X++A) (P'.take Q'.length) (P'.drop Q'.length) Q' (C++Z) rest h0 (by rw[A0.out];simp;omega) A6 (X.length+A.length) m Q'.length (by simp) (by have:=HE.out;simp;omega) (by simp;omega) (by simp;omega) f;rw[show(((X.length+A.length:Nat)):Int)=(m:Int)-(P'.length:Nat) by have:=HE.out;omega] at this;simp only[List.append_assoc] at this ⊢;exact this
    go_wp2_with fail;go_call A1 as e w2 ⟨rfl,hd,hu⟩;have A3:=zh hd;have A4:=zh (HU.trans hu);clear hd hu;go_wp2;go_roundw
    case rel =>
     refine⟨A++Q',P'.drop Q'.length,P'.take Q'.length,C,?_,?_,?_,?_,?_,?_,A3,A4⟩
     ·rw[List.length_drop];exact congrArg (Value.int .i64) (by omega)
     ·rw[List.length_take];exact congrArg (Value.int .i64) (by omega)
     ·rw[List.length_drop];omega
     ·rw[List.length_take];omega
     ·unfold Hid;have:=HE.out;simp;omega
     ·unfold Hid;rw[<-List.append_assoc (P'.take Q'.length),List.take_append_drop,List.append_assoc];exact A5
    case measure=>simp[intOf];omega
   ·have B0:¬((Q'.length:Nat):Int)<((P'.length:Nat):Int):=by omega
    have A1:Hid (Calls prog 198 #[.slice (some ⟨b,0,none⟩) n c,.int .i64 ((m:Int)-(P'.length:Nat)),.int .i64 ((m:Int)+(Q'.length:Nat)-(P'.length:Nat)),.int .i64 (P'.length:Nat),f] wr λe w'=>e=.returned (.tuple #[])/\Dat w' b (X++(A++(Q'.drop (Q'.length-P'.length)++(Q'.take (Q'.length-P'.length)++((P'++C)++Z))))) rest/\Upd [b] wr w'):=by
     have h0:Dat wr b ((X++A)++(P'++(Q'.take (Q'.length-P'.length)++(Q'.drop (Q'.length-P'.length)++(C++Z))))) rest:=by
      rw[<-List.append_assoc (Q'.take (Q'.length-P'.length)),List.take_append_drop];simpa[List.append_assoc] using HD.out
     have:=zct wr b n c (X++A) P' (Q'.take (Q'.length-P'.length)) (Q'.drop (Q'.length-P'.length)) (C++Z) rest h0 (by rw[A0.out];simp;omega) A6 (X.length+A.length) (m+Q'.length-P'.length) P'.length (by simp) (by have:=HE.out;simp;omega) rfl (by simp;omega) f;rw[show(((X.length+A.length:Nat)):Int)=(m:Int)-(P'.length:Nat) by have:=HE.out;omega,show((m+Q'.length-P'.length:Nat):Int)=(m:Int)+(Q'.length:Nat)-(P'.length:Nat) by omega] at this;simp only[List.append_assoc] at this ⊢;exact this
    go_wp2_with fail;go_call A1 as e w2 ⟨rfl,hd,hu⟩;have A3:=zh hd;have A4:=zh (HU.trans hu);clear hd hu;go_wp2;go_roundw
    case rel =>
     refine⟨A,Q'.drop (Q'.length-P'.length),Q'.take (Q'.length-P'.length),P'++C,?_,?_,?_,?_,?_,?_,A3,A4⟩
     ·rw[List.length_drop];exact congrArg (Value.int .i64) (by omega)
     ·rw[List.length_take];exact congrArg (Value.int .i64) (by omega)
     ·rw[List.length_drop];omega
     ·rw[List.length_take];omega
     ·unfold Hid;have:=HE.out;simp;omega
     ·unfold Hid;rw[<-List.append_assoc (Q'.take _),List.take_append_drop];exact A5
    case measure=>simp[intOf];omega
theorem ca.upd{w w':World}{B h g b:Nat}{vb:Value}{S:HpS}(H:ca w B h g vb S)(u:Upd [b] w w'){ys:List Value}(hb:Row w b 3 ys):ca w' B h g vb S :=
 ⟨H.head.keep u (by simp;exact qh H.head hb (by decide)),H.data.keep u (by simp;exact qh H.data hb (by decide)),u.owns H.own (λk hk=>by
  obtain⟨_,zs,hz⟩:=Zg H.own k hk;simp
  exact qh hz hb (by decide)),H.len,H.small,H.few,H.lo,H.word⟩
def zrk(S:HpS)(L:List Nat):Prop:=∀k∈L,k<S.bl.length/\z7 S k<=32768
def Srt(S:HpS)(L:List Nat):Prop:=L.Pairwise (λx y=>z7 S x<=z7 S y)
theorem Srt.at{S:HpS}{L:List Nat}(h:Srt S L){i j:Nat}(A0:i<=j)(hj:j<L.length):z7 S (L.getD i 0)<=z7 S (L.getD j 0):=by
 rcases Nat.lt_or_eq_of_le A0 with A1|rfl
 ·have:=List.pairwise_iff_getElem.1 h i j (by omega) hj A1;rw[zg,zg,ze hj,ze (show i<L.length by omega)];exact this
 ·exact Nat.le_refl _
theorem zdj{L:List Nat}{i:Nat}(h:i<L.length):L.getD i 0∈L:=by
 rw[zg,ze h];exact List.getElem_mem h
theorem zgn{X Y Z:List Nat}{i:Nat}(h:i<Y.length):(X++(Y++Z)).getD (X.length+i) 0=Y.getD i 0:=by
 rw[zg,List.getElem?_append_right (by omega),show X.length+i-X.length=i by omega,List.getElem?_append_left h,zg]
theorem zqz(X Q R:List Nat)(p:Nat){t:Nat}(ht:t<Q.length):swp (X++(Q.take t++(p::(Q.drop t++R)))) (X.length+t) (X.length+t+1)=X++(Q.take (t+1)++(p::(Q.drop (t+1)++R))):=by
 have e:=zmk (X++Q.take t) [] (Q.drop (t+1)++R) p Q[t];have e1:(X++Q.take t).length=X.length+t:=by simp;omega
 rw[e1,List.length_nil,Nat.add_zero] at e;rw[List.drop_eq_getElem_cons ht,List.take_succ_eq_append_getElem ht];simp only[List.append_assoc,List.cons_append,List.nil_append] at e ⊢;exact e
section
variable{w:World}{B h g:Nat}{vb:Value}{S:HpS}
theorem z4i(H:ca w B h g vb S)(b n c:Nat)(X:List Nat)(p:Nat)(Q Z:List Nat)(rest:List Value)(hD:Dat w b (X++(p::(Q++Z))) rest)(hn:n=(X++(p::(Q++Z))).length)(E0:n<=1000000)(hN:zrk S (p::Q))(hQ:Srt S Q)(E1:0<Q.length)(a m b2:Nat)(ha:a=X.length)(hm:m=X.length+1)(A1:b2=X.length+1+Q.length) :
 Calls prog 196 #[.slice (some ⟨b,0,none⟩) n c,.int .i64 a,.int .i64 m,.int .i64 b2,.func (.func 193) #[.pointer (some ⟨h,0,none⟩)] #[]] w λe w'=>e=.returned (.tuple #[])/\(∃Q1 Q2,Q=Q1++Q2/\(∀q∈Q1,z7 S q<=z7 S p)/\(∀q∈Q2,z7 S p<=z7 S q)/\Dat w' b (X++(Q1++(p::(Q2++Z)))) rest)/\Upd [b] w w':=by
 have HH:=zh H;have HD:=zh hD;have HN:=zh hN;have HQ:=zh hQ;have B3:=zh hn;have B4:X.length+1+Q.length+Z.length=n:=by rw[hn];simp only[List.length_append,List.length_cons];omega
 have HA:=zh ha;have C3:=zh B4;have A6:=zh (show m=a+1 by omega);have A2:=zh (show b2=a+1+Q.length by omega);have E2:b2<=n:=by omega
 have E3:(m:Int)-(a:Int)=1:=by omega
 obtain⟨C4,C5⟩:=hN p (by simp);clear H hD hN hQ hn B4 ha hm A1;go_enter func196,ntmps196;go_wp2;go_loopw [10,11,12] (λiv jv x wr=>∃i j s r:Nat,i<=j/\j<=b2/\iv=.int .i64 (i:Int)/\jv=.int .i64 (j:Int)/\Hid (i=a+1+s)/\Hid (j=a+1+r)/\Hid (∀t,t<s->z7 S (Q.getD t 0)<=z7 S p)/\Hid (∀t,r<=t->t<Q.length->z7 S p<=z7 S (Q.getD t 0))/\Hid (Below w.heap.size w wr)) (λi j _ _=>(intOf j).toNat-(intOf i).toNat)
 case atStart=>exact⟨m,b2,0,Q.length,by have:=A6.out;have:=A2.out;omega,Nat.le_refl _,rfl,rfl,A6.out,A2.out,λt ht=>by omega,λt h1 h2=>by omega,Below.refl _ _⟩
 case round =>
  obtain⟨i,j,s,r,C6,C7,rfl,rfl,HI,HJ,H1,H2,HB⟩:=hrel;by_cases B5:i<j
  ·have C8:(i:Int)<(j:Int):=by omega
   obtain⟨D,hD⟩:=zx ((i+j) / 2);have E4:i<=D/\D<j:=by omega
   obtain⟨d,hd⟩:∃d,D=a+1+d:=⟨D-(a+1),by have:=HI.out;omega⟩;go_wp2_with fail;rw[show((i:Int)+(j:Int)) / 2=(D:Int) by omega];clear hD;have A7:=HD.keep HB;have A4:d<Q.length:=by have:=A2.out;omega
   have ky:=A7.cell (i:=a+1+d) (by rw[<-B3.out];omega);have kp:=A7.cell (i:=a) (by rw[<-B3.out];omega)
   have ey:(X++p::(Q++Z)).getD (a+1+d) 0=Q.getD d 0:=by
    have:=zgn (X:=X++[p]) (Y:=Q) (Z:=Z) A4;rw[List.length_append,List.append_assoc] at this;rw[HA.out];exact this
   have ep:(X++p::(Q++Z)).getD a 0=p:=by rw[HA.out,zg];simp
   rw[ey,<-hd] at ky;rw[ep] at kp;have A0:=HN (Q.getD d 0) (List.mem_cons_of_mem _ (zdj A4));have B6:=zh hd;have C9:=zh A4;clear hd A4;have D0:=zh (λt ht=>HQ.at (i:=t) (j:=d) ht C9);have A8:=zh (λt ht D1=>HQ.at (i:=d) (j:=t) ht D1);generalize Q.getD d 0=y at *;have HM:=zh (zun (HH.below HB.drew) y p A0.1 C4 A0.2 C5);have B7:=zh (show Below w.heap.size w wr.drew from HB.drew);have E5:D<n:=by omega
   have E6:a<n:=by have:=A6.out;have:=A2.out;omega
   clear ey ep A7 A0;refine zm (λz=>z.cell? ⟨b,D,none⟩=some (.int .i64 (y:Int))/\z.cell? ⟨b,a,none⟩=some (.int .i64 (p:Int))) (zp [0,1,2,3,4,5,6,7,8,1009,10]) (by kernel_rfl) (by kernel_rfl) (λ_ _ _ _ _ h=>h) ⟨ky,kp⟩ ?_;have HS:Hid (wr.drew.cell? ⟨b,D,none⟩=some (.int .i64 (y:Int))/\wr.drew.cell? ⟨b,a,none⟩=some (.int .i64 (p:Int))):=⟨ky,kp⟩;clear ky kp;generalize wr.drew=wd at *
   (repeat (refine zi rfl (λK hK=>?_);go_simp;(try go_bits);refine hK _ ?_;clear hK K))
   refine zl (.int .i64 (y:Int)) rfl rfl (λx hS=>by obtain⟨s0,s1⟩:=hS;go_simp) ?_
   (repeat (refine zi rfl (λK hK=>?_);go_simp;(try go_bits);refine hK _ ?_;clear hK K))
   refine zl (.int .i64 (p:Int)) rfl rfl (λx hS=>by obtain⟨s0,s1⟩:=hS;go_simp) ?_;refine zj rfl ?_;go_wp2_with fail;go_call HM as e w' ⟨rfl,A1⟩;have B8:=zh (B7.trans (A1.mono B7.size));have B9:=zh (And.intro (zu A1 HS.out.1) (zu A1 HS.out.2));clear A1 HM HS;by_cases A5:z7 S y<z7 S p
   ·have e2:decide ((z7 S y:Int)-(z7 S p:Int)<0)=true:=decide_eq_true (by omega);have A9:=zh A5;clear A5;generalize(z7 S y:Int)-(z7 S p:Int)=z at *;go_wp2;refine⟨B9,?_⟩
    (repeat (refine zi rfl (λK hK=>?_);go_simp;(try go_bits);refine hK _ ?_;clear hK K))
    refine zo ?_;go_wp2;go_roundw
    case rel=>exact⟨D+1,j,d+1,r,by omega,C7,by go_num,rfl,by unfold Hid;have:=B6.out;omega,HJ.out,λt ht=>Nat.le_trans (D0.out t (by omega)) (Nat.le_of_lt A9.out),H2.out,B8.out⟩
    case measure=>simp[intOf];omega
   ·have e2:decide ((z7 S y:Int)-(z7 S p:Int)<0)=false:=decide_eq_false (by omega);have A9:=zh A5;clear A5;generalize(z7 S y:Int)-(z7 S p:Int)=z at *;go_wp2;refine⟨B9,?_⟩
    (repeat (refine zi rfl (λK hK=>?_);go_simp;(try go_bits);refine hK _ ?_;clear hK K))
    refine zo ?_;go_wp2;go_roundw
    case rel=>exact⟨i,D,s,d,by omega,by omega,rfl,rfl,HI.out,B6.out,H1.out,λt h1 h2=>Nat.le_trans (by have:=A9.out;omega) (A8.out t h1 h2),B8.out⟩
    case measure=>simp[intOf];omega
  ·obtain rfl:i=j:=by omega
   obtain rfl:s=r:=by have:=HI.out;have:=HJ.out;omega
   have hs:s<=Q.length:=by have:=HI.out;have:=A2.out;omega
   have B0:(Q.take s).length=s:=by rw[List.length_take];omega
   have D2:=zh (show ∀q∈Q.take s,z7 S q<=z7 S p from λq hq=>by
    obtain⟨t,ht,rfl⟩:=List.getElem_of_mem hq;rw[B0] at ht;have:=H1.out t ht;rw[zg,ze (show t<Q.length by omega)] at this
    simpa using this)
   have D3:=zh (show ∀q∈Q.drop s,z7 S p<=z7 S q from λq hq=>by
    obtain⟨t,ht,rfl⟩:=List.getElem_of_mem hq;rw[List.length_drop] at ht;have:=H2.out (s+t) (by omega) (by omega);rw[zg,ze (show s+t<Q.length by omega)] at this
    simpa using this)
   have D4:=zh (List.take_append_drop s Q);have C0:=zh (show Dat wr b (X++(p::(Q.take s++(Q.drop s++Z)))) rest by rw[<-List.append_assoc (Q.take s),List.take_append_drop];exact HD.keep HB);have C1:s+(Q.drop s++Z).length+1+a=n:=by have:=C3.out;have:=HA.out;simp;omega
   have B1:=zh B0;generalize Q.take s=Q1 at *;generalize Q.drop s=Q2 at *;have D5:=zh C1;clear H1 H2 B5 hs C6 B0 HD C1;go_wp2;go_loopw [13] (λkv w2=>∃k t:Nat,k<i/\kv=.int .i64 (k:Int)/\Hid (k=a+t)/\Hid (Dat w2 b (X++(Q1.take t++(p::(Q1.drop t++(Q2++Z))))) rest)/\Hid (Upd [b] wr w2)) (λkv _=>i-(intOf kv).toNat)
   case atStart=>exact⟨a,0,by have:=HI.out;omega,rfl,rfl,C0.out,Upd.refl _ _⟩
   case round =>
    clear C0;obtain⟨k,t,E7,rfl,HK,HD,HU⟩:=hrel;by_cases B5:k+1<i
    ·have D6:((k:Nat):Int)<(i:Int)-1:=by omega
     have D7:(1:Int)<=(i:Int):=by omega
     have E8:i<=n:=by omega
     have hL:Hid ((X++(Q1.take t++(p::(Q1.drop t++(Q2++Z))))).length=n):=by
      unfold Hid;have:=D5.out;have:=HA.out;have:=B1.out;simp only[List.length_append,List.length_take,List.length_drop,List.length_cons] at *;omega
     have A3:t<Q1.length:=by have:=HI.out;have:=HK.out;have:=B1.out;omega
     have D8:=zh (show swp (X++(Q1.take t++(p::(Q1.drop t++(Q2++Z))))) k (k+1)=X++(Q1.take (t+1)++(p::(Q1.drop (t+1)++(Q2++Z)))) by rw[HK.out,HA.out];exact zqz X Q1 (Q2++Z) p A3);have k1:=HD.out.cell (i:=k) (by rw[hL.out];omega);have k2:=HD.out.cell (i:=k+1) (by rw[hL.out];omega);have f1:=HD.free k;have f2:=HD.free (k+1);have C2:=zh (λx y hx hy=>HD.out.drew.swap (i:=k) (j:=k+1) (by rw[hL.out];omega) (by rw[hL.out];omega) (x:=x) (y:=y) hx hy);generalize hx:(X++(Q1.take t++(p::(Q1.drop t++(Q2++Z))))).getD k 0=x at *;generalize hy:(X++(Q1.take t++(p::(Q1.drop t++(Q2++Z))))).getD (k+1) 0=y at *;have B2:=zh (C2.out x y (by first|exact hx|rfl) (by first|exact hy|rfl));clear hx hy C2 A3;go_wp2_with fail;go_region;go_wp2;refine⟨⟨k+1,t+1,by omega,by go_num,by unfold Hid;have:=HK.out;omega,?_,((HU.out.setCell (by simp) _).setCell (by simp) _).drew⟩,by simp[intOf];omega⟩;show Dat _ _ _ _
     rw[<-D8.out];exact B2
    ·have D6:¬((k:Nat):Int)<(i:Int)-1:=by omega
     have D7:(1:Int)<=(i:Int):=by omega
     have A3:t=Q1.length:=by have:=HI.out;have:=HK.out;have:=B1.out;omega
     have D9:=zh A3;clear A3;go_wp2;refine bodyPost_ret (results_none rfl _ _ _) rfl ?_;refine⟨rfl,⟨Q1,Q2,D4.symm,D2,D3,?_⟩,(Upd.of_below HB).trans HU⟩;have:=HD.out;rw[D9.out,List.take_length,List.drop_length] at this;exact this
end
theorem zws(L:List Nat){i j:Nat}(hi:i<L.length)(hj:j<L.length):swp L i j=swp L j i:=by
 apply List.ext_getElem?;intro t;rw[zry L hi hj,zry L hj hi];by_cases h1:t=j
 ·subst h1;rw[if_pos rfl];by_cases h2:t=i
  ·subst h2;rw[if_pos rfl]
  ·rw[if_neg h2,if_pos rfl]
 ·rw[if_neg h1];by_cases h2:t=i
  ·subst h2;rw[if_pos rfl,if_pos rfl]
  ·rw[if_neg h2,if_neg h2,if_neg h1]
theorem zh9(X Q R:List Nat)(p:Nat){u:Nat}(hu:u<Q.length):swp (X++(Q.take (u+1)++(p::(Q.drop (u+1)++R)))) (X.length+u+1) (X.length+u)=X++(Q.take u++(p::(Q.drop u++R))):=by
 have e:=zmk (X++Q.take u) [] (Q.drop (u+1)++R) Q[u] p;have e1:(X++Q.take u).length=X.length+u:=by simp;omega
 rw[e1,List.length_nil,Nat.add_zero] at e;rw[zws _ (by simp;omega) (by simp;omega)];rw[List.drop_eq_getElem_cons hu,List.take_succ_eq_append_getElem hu];simp only[List.append_assoc,List.cons_append,List.nil_append] at e ⊢;exact e
section
variable{w:World}{B h g:Nat}{vb:Value}{S:HpS}
theorem z4h(H:ca w B h g vb S)(b n c:Nat)(X P:List Nat)(q:Nat)(Z:List Nat)(rest:List Value)(hD:Dat w b (X++(P++(q::Z))) rest)(hn:n=(X++(P++(q::Z))).length)(E3:n<=1000000)(hN:zrk S (q::P))(hP:Srt S P)(E4:1<P.length)(a m b2:Nat)(ha:a=X.length)(hm:m=X.length+P.length)(A1:b2=X.length+P.length+1) :
 Calls prog 196 #[.slice (some ⟨b,0,none⟩) n c,.int .i64 a,.int .i64 m,.int .i64 b2,.func (.func 193) #[.pointer (some ⟨h,0,none⟩)] #[]] w λe w'=>e=.returned (.tuple #[])/\(∃P1 P2,P=P1++P2/\(∀y∈P1,z7 S y<=z7 S q)/\(∀y∈P2,z7 S q<=z7 S y)/\Dat w' b (X++(P1++(q::(P2++Z)))) rest)/\Upd [b] w w':=by
 have HH:=zh H;have HD:=zh hD;have HN:=zh hN;have HP:=zh hP;have B2:=zh hn;have B3:X.length+P.length+1+Z.length=n:=by rw[hn];simp only[List.length_append,List.length_cons];omega
 have HA:=zh ha;have C5:=zh B3;have A2:=zh (show m=a+P.length by omega);have E5:b2<=n:=by omega
 have C6:¬((m:Int)-(a:Int)=1):=by omega
 have E6:((m:Int)-(a:Int) == 1)=false:=beq_false_of_ne C6;have E7:(b2:Int)-(m:Int)=1:=by omega
 have C7:a<=m:=by omega
 have E8:m<n:=by omega
 obtain⟨C8,C9⟩:=hN q (by simp);clear H hD hN hP hn B3 ha hm A1;go_enter func196,ntmps196;go_wp2;go_loopw [14,15,16] (λiv jv x wr=>∃i j s r:Nat,i<=j/\j<=m/\iv=.int .i64 (i:Int)/\jv=.int .i64 (j:Int)/\Hid (i=a+s)/\Hid (j=a+r)/\Hid (∀t,t<s->z7 S (P.getD t 0)<=z7 S q)/\Hid (∀t,r<=t->t<P.length->z7 S q<=z7 S (P.getD t 0))/\Hid (Below w.heap.size w wr)) (λi j _ _=>(intOf j).toNat-(intOf i).toNat)
 case atStart=>exact⟨a,m,0,P.length,C7,Nat.le_refl _,rfl,rfl,rfl,A2.out,λt ht=>by omega,λt h1 h2=>by omega,Below.refl _ _⟩
 case round =>
  obtain⟨i,j,s,r,D0,B4,rfl,rfl,HI,HJ,H1,H2,HB⟩:=hrel;by_cases B5:i<j
  ·have D1:(i:Int)<(j:Int):=by omega
   obtain⟨D,hD⟩:=zx ((i+j) / 2);have E9:i<=D/\D<j:=by omega
   obtain⟨d,hd⟩:∃d,D=a+d:=⟨D-a,by have:=HI.out;omega⟩;go_wp2_with fail;rw[show((i:Int)+(j:Int)) / 2=(D:Int) by omega];clear hD;have A5:=HD.keep HB;have A3:d<P.length:=by have:=A2.out;omega
   have ky:=A5.cell (i:=a+d) (by rw[<-B2.out];omega);have kp:=A5.cell (i:=m) (by rw[<-B2.out];omega)
   have ey:(X++(P++(q::Z))).getD (a+d) 0=P.getD d 0:=by
    have:=zgn (X:=X) (Y:=P) (Z:=q::Z) A3;rw[HA.out];exact this
   have ep:(X++(P++(q::Z))).getD m 0=q:=by
    rw[A2.out,HA.out,<-List.append_assoc,<-List.length_append,zg,List.getElem?_append_right (Nat.le_refl _),Nat.sub_self];rfl
   rw[ey,<-hd] at ky;rw[ep] at kp;have A0:=HN (P.getD d 0) (List.mem_cons_of_mem _ (zdj A3));have B6:=zh hd;have D2:=zh A3;clear hd A3;have D3:=zh (λt ht=>HP.at (i:=t) (j:=d) ht D2);have A6:=zh (λt ht D4=>HP.at (i:=d) (j:=t) ht D4);generalize P.getD d 0=y at *;have HM:=zh (zun (HH.below HB.drew) q y C8 A0.1 C9 A0.2);have B7:=zh (show Below w.heap.size w wr.drew from HB.drew);have F0:D<n:=by omega
   clear ey ep A5 A0;refine zm (λz=>z.cell? ⟨b,m,none⟩=some (.int .i64 (q:Int))/\z.cell? ⟨b,D,none⟩=some (.int .i64 (y:Int))) (zp [0,1,2,3,4,5,6,7,8,1009,10,11]) (by kernel_rfl) (by kernel_rfl) (λ_ _ _ _ _ h=>h) ⟨kp,ky⟩ ?_;have HS:Hid (wr.drew.cell? ⟨b,m,none⟩=some (.int .i64 (q:Int))/\wr.drew.cell? ⟨b,D,none⟩=some (.int .i64 (y:Int))):=⟨kp,ky⟩;clear ky kp;generalize wr.drew=wd at *
   (repeat (refine zi rfl (λK hK=>?_);go_simp;(try go_bits);refine hK _ ?_;clear hK K))
   refine zl (.int .i64 (q:Int)) rfl rfl (λx hS=>by obtain⟨s0,s1⟩:=hS;go_simp) ?_
   (repeat (refine zi rfl (λK hK=>?_);go_simp;(try go_bits);refine hK _ ?_;clear hK K))
   refine zl (.int .i64 (y:Int)) rfl rfl (λx hS=>by obtain⟨s0,s1⟩:=hS;go_simp) ?_;refine zj rfl ?_;go_wp2_with fail;go_call HM as e w' ⟨rfl,A1⟩;have B8:=zh (B7.trans (A1.mono B7.size));have B9:=zh (And.intro (zu A1 HS.out.1) (zu A1 HS.out.2));clear A1 HM HS;by_cases A4:z7 S q<z7 S y
   ·have e2:((z7 S q:Int)-(z7 S y:Int)<0)=True:=eq_true (by omega);have A7:=zh A4;clear A4;generalize(z7 S q:Int)-(z7 S y:Int)=z at *;go_wp2;refine⟨B9,?_⟩
    (repeat (refine zi rfl (λK hK=>?_);go_simp;(try go_bits);refine hK _ ?_;clear hK K))
    refine zo ?_;go_wp2;go_roundw
    case rel=>exact⟨i,D,s,d,by omega,by omega,rfl,rfl,HI.out,B6.out,H1.out,λt h1 h2=>Nat.le_trans (by have:=A7.out;omega) (A6.out t h1 h2),B8.out⟩
    case measure=>simp[intOf];omega
   ·have e2:((z7 S q:Int)-(z7 S y:Int)<0)=False:=eq_false (by omega);have A7:=zh A4;clear A4;generalize(z7 S q:Int)-(z7 S y:Int)=z at *;go_wp2;refine⟨B9,?_⟩
    (repeat (refine zi rfl (λK hK=>?_);go_simp;(try go_bits);refine hK _ ?_;clear hK K))
    refine zo ?_;go_wp2;go_roundw
    case rel=>exact⟨D+1,j,d+1,r,by omega,B4,by go_num,rfl,by unfold Hid;have:=B6.out;omega,HJ.out,λt ht=>Nat.le_trans (D3.out t (by omega)) (by have:=A7.out;omega),H2.out,B8.out⟩
    case measure=>simp[intOf];omega
  ·obtain rfl:i=j:=by omega
   obtain rfl:s=r:=by have:=HI.out;have:=HJ.out;omega
   have hs:s<=P.length:=by have:=HI.out;have:=A2.out;omega
   have A8:(P.take s).length=s:=by rw[List.length_take];omega
   have D5:(P.drop s).length+s=P.length:=by rw[List.length_drop];omega
   have D6:=zh (show ∀y∈P.take s,z7 S y<=z7 S q from λy hy=>by
    obtain⟨t,ht,rfl⟩:=List.getElem_of_mem hy;rw[A8] at ht;have:=H1.out t ht;rw[zg,ze (show t<P.length by omega)] at this
    simpa using this)
   have D7:=zh (show ∀y∈P.drop s,z7 S q<=z7 S y from λy hy=>by
    obtain⟨t,ht,rfl⟩:=List.getElem_of_mem hy;rw[List.length_drop] at ht;have:=H2.out (s+t) (by omega) (by omega);rw[zg,ze (show s+t<P.length by omega)] at this
    simpa using this)
   have D8:=zh (List.take_append_drop s P);have C0:=zh (show Dat wr b ((X++P.take s)++(P.drop s++(q::Z))) rest by rw[List.append_assoc X,<-List.append_assoc (P.take s),List.take_append_drop];exact HD.keep HB);have C1:i+(P.drop s).length=m:=by have:=HI.out;have:=A2.out;omega
   have C2:(X++P.take s).length=i:=by have:=HI.out;have:=HA.out;rw[List.length_append,A8];omega
   generalize P.take s=P1 at *;generalize P.drop s=P2 at *;have A9:=zh C1;have B0:=zh C2;have D9:=zh (show m+1+Z.length=n by have:=C5.out;have:=HA.out;have:=A2.out;omega);clear H1 H2 B5 hs D0 A8 D5 HD C1 C2;go_wp2;go_loopw [17] (λkv w2=>∃k u:Nat,i<=k/\k<=m/\kv=.int .i64 (k:Int)/\Hid (k=i+u)/\Hid (Dat w2 b ((X++P1)++(P2.take u++(q::(P2.drop u++Z)))) rest)/\Hid (Upd [b] wr w2)) (λkv _=>(intOf kv).toNat)
   case atStart=>exact⟨m,P2.length,B4,Nat.le_refl _,rfl,A9.symm,by unfold Hid;rw[List.take_length,List.drop_length];exact C0,Upd.refl _ _⟩
   case round =>
    clear C0;obtain⟨k,u,F1,F2,rfl,HK,HD,HU⟩:=hrel;by_cases B5:i<k
    ·obtain⟨k',rfl⟩:∃k',k=k'+1:=⟨k-1,by omega⟩;obtain⟨u',rfl⟩:∃u',u=u'+1:=⟨u-1,by have:=HK.out;omega⟩;have E0:(i:Int)<((k':Nat):Int)+1:=by omega
     have F3:k'+1<n:=by omega
     have C3:u'<P2.length:=by have:=A9.out;have:=HK.out;omega
     have hL:Hid (((X++P1)++(P2.take (u'+1)++(q::(P2.drop (u'+1)++Z)))).length=n):=by
      unfold Hid;have:=B0.out;have:=D9.out;have:=A9.out;rw[List.length_append,B0.out];simp only[List.length_append,List.length_take,List.length_drop,List.length_cons];omega
     have E1:=zh (show swp ((X++P1)++(P2.take (u'+1)++(q::(P2.drop (u'+1)++Z)))) (k'+1) k'=(X++P1)++(P2.take u'++(q::(P2.drop u'++Z))) by
      have:=zh9 (X++P1) P2 Z q C3;rw[B0.out] at this;rw[show k'=i+u' by have:=HK.out;omega]
      exact this)
     have k1:=HD.out.cell (i:=k') (by rw[hL.out];omega);have k2:=HD.out.cell (i:=k'+1) (by rw[hL.out];omega);have f1:=HD.free k';have f2:=HD.free (k'+1);have C4:=zh (λx y hx hy=>HD.out.drew.swap (i:=k'+1) (j:=k') (by rw[hL.out];omega) (by rw[hL.out];omega) (x:=x) (y:=y) hx hy);generalize hy:((X++P1)++(P2.take (u'+1)++(q::(P2.drop (u'+1)++Z)))).getD k' 0=y at *;generalize hx:((X++P1)++(P2.take (u'+1)++(q::(P2.drop (u'+1)++Z)))).getD (k'+1) 0=x at *;have B1:=zh (C4.out x y (by first|exact hx|rfl) (by first|exact hy|rfl));clear hx hy C4 C3;go_wp2_with fail;go_region;go_wp2;refine⟨⟨k',u',by omega,by omega,rfl,by unfold Hid;have:=HK.out;omega,?_,((HU.out.setCell (by simp) _).setCell (by simp) _).drew⟩,by simp[intOf]⟩;show Dat _ _ _ _
     rw[<-E1.out];exact B1
    ·have E0:¬(i:Int)<(k:Int):=by omega
     have E2:u=0:=by have:=HK.out;omega
     subst E2;go_wp2;refine bodyPost_ret (results_none rfl _ _ _) rfl ?_;refine⟨rfl,⟨P1,P2,D8.symm,D6,D7,?_⟩,(Upd.of_below HB).trans HU⟩;have:=HD.out;rw[List.take_zero,List.drop_zero,List.nil_append,List.append_assoc] at this;exact this
end
end Go.Proofs.YtoeibiahbenpcaaGreatDoor
