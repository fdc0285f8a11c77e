/- Part. -/
import Derived.Test.YtoeibiahbenpcaaGreatDoorA13
namespace Go.Proofs.YtoeibiahbenpcaaGreatDoor
open RowKit Maps Proofs.Tryz
set_option linter.unusedVariables false
set_option maxRecDepth 99999
set_option maxHeartbeats 9000000
def zj1(S:HpS)(k:Nat)(A:List Nat):Prop:=∀j,Srt S ((A.drop (j*k)).take k)
theorem zj1.nil(S:HpS)(k:Nat):zj1 S k []:=λj=>by simp[Srt]
theorem zj1.app{S:HpS}{k q:Nat}{A M:List Nat}(h:zj1 S k A)(hA:A.length=q*k)(hM:Srt S M)(hl:M.length<=k):zj1 S k (A++M):=by
 intro j;by_cases h1:j<q
 ·have h2:(j+1)*k<=q*k:=Nat.mul_le_mul_right _ h1;rw[Nat.succ_mul] at h2;rw[List.drop_append_of_le_length (by omega),List.take_append_of_le_length (by rw[List.length_drop];omega)];exact h j
 ·have h2:q*k<=j*k:=Nat.mul_le_mul_right _ (by omega);rw[List.drop_append,List.drop_of_length_le (by omega),List.nil_append];exact((hM.drop _).take _)
theorem zj1.shift{S:HpS}{k:Nat}{R:List Nat}(h:zj1 S k R):zj1 S k (R.drop (2*k)):=by
 intro j;rw[List.drop_drop,show 2*k+j*k=(j+2)*k by rw[Nat.add_mul];omega];exact h (j+2)
theorem zj1.b0{S:HpS}{k:Nat}{R:List Nat}(h:zj1 S k R):Srt S (R.take k):=by
 have:=h 0;rwa[Nat.zero_mul,List.drop_zero] at this
theorem zj1.b1{S:HpS}{k:Nat}{R:List Nat}(h:zj1 S k R):Srt S ((R.drop k).take k):=by
 have:=h 1;rwa[Nat.one_mul] at this
section
variable{w:World}{B h g:Nat}{vb:Value}{S:HpS}
theorem zuj(H:ca w B h g vb S)(b n c:Nat)(L:List Nat)(rest:List Value)(hD:Dat w b L rest)(hn:n=L.length)(C7:n<=1000000)(hN:zrk S L) :
 Calls prog 194 #[.slice (some ⟨b,0,none⟩) n c,.int .i64 n,.func (.func 193) #[.pointer (some ⟨h,0,none⟩)] #[]] w λe w'=>e=.returned (.tuple #[])/\(∃M:List Nat,M.Perm L/\Srt S M/\Dat w' b M rest)/\Upd [b] w w':=by
 have HH:=zh H;have HD:=zh hD;have HN:=zh hN;have D5:=zh hD.row;have C9:=zh hn;clear H hD hN hn;go_enter func194,ntmps194;go_wp2;go_loopw [7,8] (λav bv wr=>∃a b' k:Nat,∃A R:List Nat,av=.int .i64 (a:Int)/\bv=.int .i64 (b':Int)/\a<=n/\a<b'/\Hid (b'=a+20)/\Hid (a=A.length)/\Hid (A.length=k*20)/\Hid ((A++R).Perm L)/\Hid (zj1 S 20 A)/\Hid (Dat wr b (A++R) rest)/\Hid (Upd [b] w wr)) (λ_ bv _=>n+20-(intOf bv).toNat)
 case atStart=>exact⟨0,20,0,[],L,rfl,rfl,Nat.zero_le _,by decide,rfl,rfl,rfl,List.Perm.refl _,zj1.nil _ _,HD,Upd.refl _ _⟩
 case round =>
  clear HD;obtain⟨a,b',k,A,R,rfl,rfl,D6,D7,A4,HA,HK,A0,B1,HD,HU⟩:=hrel;have A2:=zh (show A.length+R.length=n by have:=A0.out.length_eq;rw[List.length_append] at this;have:=C9.out;omega);have B3:=zh (HH.upd HU D5);have B4:=zh (show zrk S (A++R) from λk hk=>HN k (A0.mem_iff.1 hk));by_cases D0:b'<=n
  ·have A8:(b':Int)<=(n:Int):=by omega
   have B7:=zzi B3.out b n c A (R.take 20) (R.drop 20) rest (by rw[List.take_append_drop];exact HD.out) (by rw[List.take_append_drop,List.length_append];exact A2.out.symm) C7 (λk hk=>B4.out k (List.mem_append_right _ (List.mem_of_mem_take hk))) a b' HA.out (by have:=A4.out;have:=HA.out;have:=A2.out;rw[List.length_take];omega);have B8:=zh B7;clear B7;go_wp2_with fail;go_call B8 as e w2 ⟨rfl,⟨M,A1,A5,A3⟩,hu⟩;have B9:=zh A1;have C0:=zh A5;have C1:=zh A3;have C8:=zh (HU.trans hu);have A9:=zh (show M.length=20 by have:=A1.length_eq;rw[List.length_take] at this;have:=A2.out;have:=HA.out;have:=A4.out;omega);clear A1 A5 A3 hu B8;go_wp2;go_roundw
   case rel =>
    refine⟨b',b'+20,k+1,A++M,R.drop 20,rfl,by go_num,D0,by omega,rfl,?_,?_,?_,?_,?_,C8.out⟩
    ·unfold Hid;rw[List.length_append,A9.out];have:=HA.out;have:=A4.out;omega
    ·unfold Hid;rw[List.length_append,A9.out,HK.out,Nat.succ_mul]
    ·unfold Hid;rw[List.append_assoc];refine List.Perm.trans ?_ A0;refine List.Perm.append_left _ ?_;refine(List.Perm.append_right _ B9).trans ?_;rw[List.take_append_drop]
    ·exact B1.out.app HK.out C0.out (by rw[A9.out];exact Nat.le_refl _)
    ·unfold Hid;rw[List.append_assoc];exact C1
   case measure=>simp[intOf];omega
  ·have A8:¬(b':Int)<=(n:Int):=by omega
   have B7:=zzi B3.out b n c A R [] rest (by rw[List.append_nil];exact HD.out) (by rw[List.append_nil,List.length_append];exact A2.symm) C7 (λk hk=>B4 k (List.mem_append_right _ hk)) a n HA (A2.symm);have B8:=zh B7;have A6:R.length<=20:=by have:=A2.out;have:=HA.out;have:=A4.out;omega
   have B5:=zh A6;clear B7 A6;go_wp2_with fail;go_call B8 as e w2 ⟨rfl,⟨M,A1,A5,A3⟩,hu⟩;have C2:Hid ((A++M).Perm L):=(List.Perm.append_left _ A1).trans A0;have D8:Hid (zj1 S 20 (A++M)):=B1.out.app HK.out A5 (by rw[A1.length_eq];exact B5);have D9:Hid (Dat w2 b (A++M) rest):=by unfold Hid;rw[List.append_nil] at A3;exact A3
   have C8:=zh (HU.trans hu);clear A1 A5 A3 hu B8 B3 B4 B1 HD HU A0 B5 A2 HK HA;generalize A++M=L1 at *;clear D6 D7 A4 D0 A8;go_wp2;go_loopw [6,7,8,9] (λsv av bv mv w3=>∃bs:Nat,∃L2:List Nat,sv=.int .i64 (bs:Int)/\0<bs/\bs<=2*n+20/\Hid (L2.Perm L)/\Hid (zj1 S bs L2)/\Hid (Dat w3 b L2 rest)/\Hid (Upd [b] w w3)) (λsv _ _ _ _=>n-(intOf sv).toNat)
   case atStart=>exact⟨20,L1,rfl,by decide,by omega,C2.out,D8.out,D9.out,C8.out⟩
   case round =>
    clear C2 D8 D9 C8;obtain⟨bs,L2,rfl,hbs,E6,A0,B1,HD,HU⟩:=hrel;have C2:=zh (show L2.length=n by rw[A0.out.length_eq];exact C9.symm);by_cases D0:bs<n
    ·have A8:(bs:Int)<(n:Int):=by omega
     have D1:bs<=n:=by omega
     have E1:=zh (show bs<=n from D1);go_wp2;go_loopw [7,8] (λav bv w4=>∃a b' k:Nat,∃A R:List Nat,av=.int .i64 (a:Int)/\bv=.int .i64 (b':Int)/\a<=n/\a+bs<b'/\b'<=n+2*bs/\Hid (b'=a+2*bs)/\Hid (a=A.length)/\Hid (A.length=k*(2*bs))/\Hid ((A++R).Perm L)/\Hid (zj1 S (2*bs) A)/\Hid (zj1 S bs R)/\Hid (Dat w4 b (A++R) rest)/\Hid (Upd [b] w w4)) (λ_ bv _=>n+2*bs+1-(intOf bv).toNat)
     case atStart=>exact⟨0,2*bs,0,[],L2,rfl,congrArg (Value.int .i64) (by omega),Nat.zero_le _,by omega,by omega,by unfold Hid;omega,rfl,by unfold Hid;simp,A0.out,zj1.nil _ _,B1.out,HD.out,HU.out⟩
     case round =>
      clear A0 B1 HD HU C2;obtain⟨a,b',k,A,R,rfl,rfl,D6,D7,E2,A4,HA,HK,A0,D2,B6,HD,HU⟩:=hrel;have A2:=zh (show A.length+R.length=n by have:=A0.out.length_eq;rw[List.length_append] at this;have:=C9.out;omega);have B3:=zh (HH.upd HU D5);have B4:=zh (show zrk S (A++R) from λk hk=>HN k (A0.mem_iff.1 hk));by_cases D3:b'<=n
      ·have C3:(b':Int)<=(n:Int):=by omega
       have A6:2*bs<=R.length:=by have:=A2.out;have:=HA.out;have:=A4.out;omega
       have B0:R.take bs++((R.drop bs).take bs++R.drop (2*bs))=R:=by
        rw[show R.drop (2*bs)=(R.drop bs).drop bs by rw[List.drop_drop];congr 1;omega,List.take_append_drop,List.take_append_drop]
       have A7:(R.take bs).length=bs:=by rw[List.length_take];omega
       have B2:((R.drop bs).take bs).length=bs:=by rw[List.length_take,List.length_drop];omega
       have E3:=zh B0
       have C4:Calls prog 196 #[.slice (some ⟨b,0,none⟩) n c,.int .i64 a,.int .i64 ((a:Int)+(bs:Int)),.int .i64 b',.func (.func 193) #[.pointer (some ⟨h,0,none⟩)] #[]] _ _ :=
        zrx b n c rest C7 (bs+bs) _ A (R.take bs) ((R.drop bs).take bs) (R.drop (2*bs)) (by rw[A7,B2];exact Nat.le_refl _) (by rw[A7];exact hbs) (by rw[B2];exact hbs) B3.out (by rw[B0];exact HD.out) (by rw[B0,List.length_append];exact A2.symm)
         (λk hk=>B4.out k (List.mem_append_right _ (by rw[<-B0];rcases List.mem_append.1 hk with h|h<;>simp only[List.mem_append]<;>simp[h])))
         B6.out.b0 B6.out.b1 a (a+bs) b' HA.out (by rw[A7];have:=HA.out;omega) (by rw[A7,B2];have:=HA.out;have:=A4.out;omega)
       have C5:=zh C4;have C6:=zh (And.intro A7 B2);clear C4 A7 B2 B0 A6;go_wp2_with fail;go_call C5 as e w5 ⟨rfl,⟨M,A1,A5,A3⟩,hu⟩;have B9:=zh A1;have C0:=zh A5;have C1:=zh A3;have D4:=zh (HU.trans hu);have A9:=zh (show M.length=2*bs by have:=A1.length_eq;rw[List.length_append,C6.out.1,C6.out.2] at this;omega);clear A1 A5 A3 hu C5;go_wp2;go_roundw
       case rel =>
        refine⟨b',b'+2*bs,k+1,A++M,R.drop (2*bs),rfl,congrArg (Value.int .i64) (by omega),D3,by omega,by omega,rfl,?_,?_,?_,?_,B6.out.shift,?_,D4.out⟩
        ·unfold Hid;rw[List.length_append,A9.out];have:=HA.out;have:=A4.out;omega
        ·unfold Hid;rw[List.length_append,A9.out,HK.out];exact(Nat.succ_mul k (2*bs)).symm
        ·unfold Hid;rw[List.append_assoc];refine List.Perm.trans ?_ A0;refine List.Perm.append_left _ ?_;refine(List.Perm.append_right _ B9).trans ?_;rw[List.append_assoc,E3.out]
        ·exact D2.out.app HK.out C0.out (by rw[A9.out];exact Nat.le_refl _)
        ·unfold Hid;rw[List.append_assoc];exact C1
       case measure=>simp[intOf];omega
      ·have C3:¬(b':Int)<=(n:Int):=by omega
       by_cases hm:a+bs<n
       ·have E4:(a:Int)+(bs:Int)<(n:Int):=by omega
        have A6:bs<R.length/\R.length<2*bs:=by have:=A2.out;have:=HA.out;have:=A4.out;omega
        have B0:R.take bs++(R.drop bs++[])=R:=by rw[List.append_nil,List.take_append_drop]
        have A7:(R.take bs).length=bs:=by rw[List.length_take];omega
        have B2:(R.drop bs).length+bs=R.length:=by rw[List.length_drop];omega
        have E0:Srt S (R.drop bs):=by
         have:=B6.out.b1;rwa[List.take_of_length_le (by omega)] at this
        have C4:Calls prog 196 #[.slice (some ⟨b,0,none⟩) n c,.int .i64 a,.int .i64 ((a:Int)+(bs:Int)),.int .i64 n,.func (.func 193) #[.pointer (some ⟨h,0,none⟩)] #[]] _ _ :=
         zrx b n c rest C7 (bs+bs) _ A (R.take bs) (R.drop bs) [] (by omega) (by rw[A7];exact hbs) (by omega) B3.out (by rw[B0];exact HD.out) (by rw[B0,List.length_append];exact A2.symm)
          (λk hk=>B4.out k (List.mem_append_right _ (by rwa[List.take_append_drop] at hk)))
          B6.out.b0 E0 a (a+bs) n HA.out (by rw[A7];have:=HA.out;omega) (by have:=HA.out;have:=A2.out;omega)
        have C5:=zh C4;have B5:=zh A6;clear C4 A7 B2 B0 A6 E0;go_wp2_with fail;go_call C5 as e w5 ⟨rfl,⟨M,A1,A5,A3⟩,hu⟩;rw[List.take_append_drop] at A1;have B9:=zh A1;have C0:=zh A5;have C1:=zh A3;have D4:=zh (HU.trans hu);have A9:=zh (show M.length<=2*bs by rw[A1.length_eq];have:=B5.out;omega);clear A1 A5 A3 hu C5;go_wp2;go_roundw
        case rel =>
         refine⟨2*bs,A++M,congrArg (Value.int .i64) (by omega),by omega,by omega,(List.Perm.append_left _ B9.out).trans A0.out,D2.out.app HK.out C0.out A9.out,?_,D4.out⟩;unfold Hid;have:=C1.out;rwa[List.append_nil] at this
        case measure=>simp[intOf];omega
       ·have E4:¬(a:Int)+(bs:Int)<(n:Int):=by omega
        have A6:R.length<=bs:=by have:=A2.out;have:=HA.out;have:=A4.out;omega
        have E5:Hid (Srt S R):=by
         unfold Hid;have:=B6.out.b0;rwa[List.take_of_length_le A6] at this
        have B5:=zh A6;clear A6;go_wp2;go_roundw
        case rel=>exact⟨2*bs,A++R,congrArg (Value.int .i64) (by omega),by omega,by omega,A0.out,D2.out.app HK.out E5.out (by have:=B5.out;omega),HD.out,HU.out⟩
        case measure=>simp[intOf];omega
    ·have A8:¬(bs:Int)<(n:Int):=by omega
     go_wp2;go_end0;refine⟨rfl,⟨L2,A0,?_,HD⟩,HU⟩;have:=B1.out.b0;rwa[List.take_of_length_le (by have:=C2.out;omega)] at this
theorem z1t(H:ca w B h g vb S)(b n c:Nat)(L:List Nat)(rest:List Value)(hD:Dat w b L rest)(hn:n=L.length)(A0:n<=1000000)(hN:zrk S L) :
 Calls prog 192 #[.slice (some ⟨b,0,none⟩) n c,.func (.func 193) #[.pointer (some ⟨h,0,none⟩)] #[]] w λe w'=>e=.returned (.tuple #[])/\(∃M:List Nat,M.Perm L/\Srt S M/\Dat w' b M rest)/\Upd [b] w w':=by
 have HI:=zh (zuj H b n c L rest hD hn A0 hN);clear H hD hn hN;go_enter func192,ntmps192;go_wp2_with fail;go_call HI as e w' ⟨rfl,hm,hu⟩;have HM:=zh hm;have HU:=zh hu;clear hm hu;go_wp2;go_end0;exact⟨rfl,HM,HU⟩
theorem ze6(bl:List Blk):∀k,∀x∈yd bl k,x<k
 | 0,x,hx=>by simp[yd] at hx
 | k+1,x,hx=>by
  unfold yd at hx;split at hx
  ·rcases List.mem_append.1 hx with hx|hx
   ·have:=ze6 bl k x hx;omega
   ·simp at hx;omega
  ·have:=ze6 bl k x hx;omega
theorem zkb(bl:List Blk)(k:Nat):(yd bl k).length<=k:=by
 have:=zd4 bl k;rwa[ze5,List.length_map] at this
def zl1(S:HpS)(L:List Nat):Prop:=L.Perm (qp S)/\Srt S L
theorem zw6(H:ca w B h g vb S)(A6:∀k∈qp S,z7 S k<=32768):z2s (zl1 S) w h:=by
 have hN:zrk S (qp S):=λk hk=>⟨ze6 S.bl S.bl.length k hk,A6 k hk⟩
 have A2:(qp S).length<=1000000:=Nat.le_trans (zkb _ _) H.few;have hb:=zlx H;rw[ze5,List.length_map] at hb;have A7:Hid (Calls prog 58 #[.pointer (some ⟨h,0,none⟩)] w λe w'=>∃v,e=.returned v/\w'.ownsRow w.heap.size 3 1 v (qp S).length (((qp S).map (λk:Nat=>(k:Int))).map (Value.int .i64))/\Below w.heap.size w w'):=hb;have HH:=zh H;have HN:=zh hN;have HE:=zh (rfl:qp S=qp S);have HQ:Hid (∀L,L.Perm (qp S)->Srt S L->zl1 S L):=λL h1 h2=>⟨h1,h2⟩
 unfold z2s;generalize hU:qp S=U at *;clear H hb hN A6 hU HE;generalize zl1 S=G at *;go_enter func189,ntmps189;go_wp2_with fail;refine A7.mono ?_;clear A7;rintro e w1 ⟨v,rfl,ho,hb⟩;have HB:=zh hb;by_cases hz:U.length=0
 ·obtain⟨a,c,rfl,hr,-,-⟩:=zk ho;have A8:U=[]:=List.eq_nil_of_length_eq_zero hz;have HS:=zh (zlu (HH.out.below hb) [] ⟨by simp,by simp,by simp⟩ (by simp) a 0 c rfl (by rw[A8] at hr;exact hr));subst A8;have HO:=zh ho;clear ho hb hr hz;go_wp2_with fail;refine HS.mono ?_;clear HS;rintro e w2 ⟨rfl,A3⟩;have B6:=zh ((Upd.of_below (l:=[]) A3).ownsAbove HO.out (by simp));have A4:=zh (zy HB A3);clear A3 HO HB;go_wp2;go_ret;exact⟨_,[],HQ.out [] (List.Perm.refl _) List.Pairwise.nil,rfl,B6.out,A4.out⟩
 ·obtain⟨b,c,cur,rfl,A9,A0,B0,B7,B1,B2⟩:=zbf ho (by omega)
  have hD:Dat w1 b U (cur.drop U.length):=by
   refine⟨?_⟩;have e1:U.map z5x=cur.take (U.length*1):=by rw[B0,List.map_map];rfl
   rw[e1,Nat.mul_one,List.take_append_drop];exact A0
  have HS:=zh (z1t (HH.below hb) b U.length c U _ hD rfl A2 HN);have B3:=zh B2;have B8:=zh B1;clear ho hb A0 B0 B2 B1 hD hz;go_wp2_with fail;refine HS.mono ?_;clear HS;rintro e w2 ⟨rfl,⟨M,A5,B4,B5⟩,hu⟩;have HG:=zh (HQ M A5 B4);have A1:=zh A5.length_eq;have B9:=zh B5;have A4:=zh (HB.out.trans (hu.below HB.out.size (by intro k hk;simp at hk;subst hk;exact A9)));clear A5 B4 B5 hu HB;go_wp2;go_ret;refine⟨_,M,HG,rfl,?_,A4⟩;rw[A1.out];refine zcw A9 B9.row ?_ B7 B8 ?_
  ·rw[Nat.mul_one,List.take_append_of_le_length (by rw[List.length_map,A1.out];exact Nat.le_refl _),List.take_of_length_le (by rw[List.length_map,A1.out];exact Nat.le_refl _),List.map_map];rfl
  ·rw[List.length_append,List.length_map,A1.out,List.length_drop,<-B3.out];have:=B3.out;omega
end
theorem zgd(bl:List Blk):∀k x,x∈yd bl k↔x<k/\((bl[x]?).map Blk.used).getD false=true
 | 0,x=>by simp[yd]
 | k+1,x=>by
  unfold yd;split
  ·next h =>
   rw[List.mem_append,zgd bl k x,List.mem_singleton];constructor
   ·rintro(⟨h1,h2⟩|rfl)
    ·exact⟨by omega,h2⟩
    ·exact⟨by omega,h⟩
   ·rintro⟨h1,h2⟩;by_cases hx:x=k
    ·exact .inr hx
    ·exact .inl ⟨by omega,h2⟩
  ·next h =>
   rw[zgd bl k x];constructor
   ·rintro⟨h1,h2⟩;exact⟨by omega,h2⟩
   ·rintro⟨h1,h2⟩;refine⟨?_,h2⟩;by_cases hx:x=k
    ·subst hx;exact absurd h2 h
    ·omega
theorem vj(bl:List Blk):∀k,(yd bl k).Nodup
 | 0=>by simp[yd]
 | k+1=>by
  unfold yd;split
  ·rw[List.nodup_append];exact⟨vj bl k,by simp,λa ha b hb=>by have:=ze6 bl k a ha;simp at hb;omega⟩
  ·exact vj bl k
def usd(S:HpS)(k:Nat):Bool:=((S.bl[k]?).map Blk.used).getD false
theorem Zf{S:HpS}{k:Nat}:k∈qp S↔usd S k=true:=by
 unfold qp usd;rw[zgd];constructor
 ·exact λh=>h.2
 ·intro h;refine⟨?_,h⟩;by_cases hk:k<S.bl.length
  ·exact hk
  ·rw[List.getElem?_eq_none (by omega)] at h;cases h
theorem zfz{S:HpS}{k:Nat}(h:usd S k=true):∃hk:k<S.bl.length,S.bl[k].used=true:=by
 unfold usd at h;by_cases hk:k<S.bl.length
 ·rw[ze hk] at h;exact⟨hk,h⟩
 ·rw[List.getElem?_eq_none (by omega)] at h;cases h
structure Inv(S:HpS):Prop where
 fit:∀k∈qp S,z7 S k+nOf S k<=S.N
 apart:∀k∈qp S,∀j∈qp S,k≠j->0<nOf S k->0<nOf S j->z7 S k+nOf S k<=z7 S j\/z7 S j+nOf S j<=z7 S k
def zrl(S:HpS)(L:List Nat):Prop:=L.Pairwise (λi j=>0<nOf S i->0<nOf S j->z7 S i+nOf S i<=z7 S j)
theorem zl1.nodup{S:HpS}{L:List Nat}(h:zl1 S L):L.Nodup:=h.1.nodup_iff.2 (vj _ _)
theorem zbu{S:HpS}{L:List Nat}(hI:Inv S)(h:zl1 S L):zrl S L:=by
 have h1:L.Pairwise (λi j=>z7 S i<=z7 S j/\i≠j):=List.pairwise_and_iff.2 ⟨h.2,h.nodup⟩;refine List.Pairwise.imp_of_mem ?_ h1;intro i j hi hj ⟨h2,h3⟩ h4 h5;rcases hI.apart i (h.1.mem_iff.1 hi) j (h.1.mem_iff.1 hj) h3 h4 h5 with h6|h6<;>omega
def zck(S:HpS)(L:List Nat):Nat:=(L.map (nOf S)).sum
theorem zbl(S:HpS)(L M:List Nat):zck S (L++M)=zck S L+zck S M:=by simp[zck]
theorem zg9(g:List (Nat×Nat))(x:Nat×Nat):gx (g++[x])=gx g+x.2:=by simp[gx]
structure z6n(S:HpS)(l:List Nat)(a:List (Nat×Nat)×Nat):Prop where
 le:∀j∈l,0<nOf S j->z7 S j+nOf S j<=a.2
 least:∀x,(∀j∈l,0<nOf S j->z7 S j+nOf S j<=x)->a.2<=x
 free:∀g∈a.1,0<g.2/\g.1+g.2<=a.2/\∀j∈l,0<nOf S j->z7 S j+nOf S j<=g.1\/g.1+g.2<=z7 S j
 sum:gx a.1+zck S l=a.2
theorem zxn{S:HpS}{l:List Nat}{a:List (Nat×Nat)×Nat}{k:Nat}(h:z6n S l a)(hk:∀j∈l,0<nOf S j->0<nOf S k->z7 S j+nOf S j<=z7 S k):z6n S (l++[k]) (zot S a k):=by
 unfold zot;by_cases h0:0<nOf S k
 ·rw[if_pos h0];have he:a.2<=z7 S k:=h.least _ (λj hj hn=>hk j hj hn h0);have A0:=h.sum;by_cases h1:a.2<z7 S k
  ·rw[if_pos h1];refine⟨?_,?_,?_,?_⟩
   ·intro j hj hn;rcases List.mem_append.1 hj with hj|hj
    ·have:=h.le j hj hn;simp only;omega
    ·simp at hj;subst hj;exact Nat.le_refl _
   ·intro x hx;exact hx k (by simp) h0
   ·intro g hg;rcases List.mem_append.1 hg with hg|hg
    ·obtain⟨g1,g2,g3⟩:=h.free g hg;refine⟨g1,by simp only;omega,λj hj hn=>?_⟩;rcases List.mem_append.1 hj with hj|hj
     ·exact g3 j hj hn
     ·simp at hj;subst hj;exact .inr (by omega)
    ·simp at hg;subst hg;refine⟨by simp only;omega,by simp only;omega,λj hj hn=>?_⟩;rcases List.mem_append.1 hj with hj|hj
     ·exact .inl (h.le j hj hn)
     ·simp at hj;subst hj;exact .inr (by simp only;omega)
   ·rw[zg9,zbl];simp[zck] at A0 ⊢;omega
  ·rw[if_neg h1];refine⟨?_,?_,?_,?_⟩
   ·intro j hj hn;rcases List.mem_append.1 hj with hj|hj
    ·have:=h.le j hj hn;simp only;omega
    ·simp at hj;subst hj;exact Nat.le_refl _
   ·intro x hx;exact hx k (by simp) h0
   ·intro g hg;obtain⟨g1,g2,g3⟩:=h.free g hg;refine⟨g1,by simp only;omega,λj hj hn=>?_⟩;rcases List.mem_append.1 hj with hj|hj
    ·exact g3 j hj hn
    ·simp at hj;subst hj;exact .inr (by omega)
   ·rw[zbl];simp[zck] at A0 ⊢;omega
 ·rw[if_neg h0];have hz:nOf S k=0:=by omega
  refine⟨?_,?_,?_,?_⟩
  ·intro j hj hn;rcases List.mem_append.1 hj with hj|hj
   ·exact h.le j hj hn
   ·simp at hj;subst hj;omega
  ·intro x hx;exact h.least x (λj hj hn=>hx j (List.mem_append_left _ hj) hn)
  ·intro g hg;obtain⟨g1,g2,g3⟩:=h.free g hg;refine⟨g1,g2,λj hj hn=>?_⟩;rcases List.mem_append.1 hj with hj|hj
   ·exact g3 j hj hn
   ·simp at hj;subst hj;omega
  ·rw[zbl,<-h.sum];simp[zck,hz]
theorem ze7{α:Type}{P:List α->Prop}(h0:P [])(h1:∀l k,P l->P (l++[k]))(l:List α):P l:=by
 rw[<-List.reverse_reverse l];generalize l.reverse=r;induction r with
 | nil=>exact h0
 | cons x xs ih=>rw[List.reverse_cons];exact h1 _ _ ih
theorem zh1(S:HpS)(l:List Nat)(k:Nat):Zk S (l++[k])=zot S (Zk S l) k:=by
 unfold Zk;rw[List.foldl_append];rfl
theorem znd{S:HpS}(l:List Nat):zrl S l->z6n S l (Zk S l):=by
 induction l using ze7 with
 | h0=>exact λ_=>⟨λj hj=>by simp at hj,λx _=>Nat.zero_le _,λg hg=>by simp[Zk] at hg,rfl⟩
 | h1 l k ih =>
  intro h;obtain⟨h1,_,h2⟩:=List.pairwise_append.1 h;rw[zh1];exact zxn (ih h1) (λj hj hn hk=>h2 j hj k (by simp) hn hk)
theorem zne{S:HpS}{L:List Nat}(h:zrl S L)(hf:∀k∈L,z7 S k+nOf S k<=S.N) :
 (∀g∈Zs S L,0<g.2/\g.1+g.2<=S.N/\∀j∈L,0<nOf S j->z7 S j+nOf S j<=g.1\/g.1+g.2<=z7 S j)/\gx (Zs S L)+zck S L=S.N:=by
 have hG:=znd L h;have he:(Zk S L).2<=S.N:=hG.least _ (λj hj _=>hf j hj);have A0:=hG.sum;unfold Zs;by_cases h1:(Zk S L).2<S.N
 ·rw[if_pos h1];refine⟨λg hg=>?_,?_⟩
  ·rcases List.mem_append.1 hg with hg|hg
   ·obtain⟨g1,g2,g3⟩:=hG.free g hg;exact⟨g1,by omega,g3⟩
   ·simp at hg;subst hg;exact⟨by simp only;omega,by simp only;omega,λj hj hn=>.inl (hG.le j hj hn)⟩
  ·rw[zg9];simp only;omega
 ·rw[if_neg h1];refine⟨λg hg=>?_,by omega⟩;obtain⟨g1,g2,g3⟩:=hG.free g hg;exact⟨g1,by omega,g3⟩
theorem z0s(N:Nat):Inv (zzc N):=⟨λk hk=>by simp[qp,zzc,yd] at hk,λk hk=>by simp[qp,zzc,yd] at hk⟩
theorem zk9(S:HpS):zz S<=S.bl.length:=List.findIdx_le_length
theorem zgr(S:HpS):usd S (zz S)=false:=by
 unfold usd;by_cases h:zz S<S.bl.length
 ·rw[ze h];have h2:(!(S.bl[zz S]'h).used)=true:=List.findIdx_getElem (w:=h) (p:=λb:Blk=>!b.used) (xs:=S.bl);show(S.bl[zz S]'h).used=false
  cases hu:(S.bl[zz S]'h).used
  ·rfl
  ·rw[hu] at h2;cases h2
 ·rw[List.getElem?_eq_none (by omega)];rfl
theorem zem(S:HpS)(p m k:Nat):(yv S p m).bl[k]?=if k=zz S then some ⟨p,m,true⟩ else S.bl[k]?:=by
 unfold yv;have A1:=zk9 S;by_cases h:zz S<S.bl.length
 ·simp only[if_pos h];rw[List.getElem?_set];by_cases hk:k=zz S
  ·subst hk;rw[if_pos rfl,if_pos h,if_pos rfl]
  ·rw[if_neg (Ne.symm hk),if_neg hk]
 ·simp only[if_neg h];have he:zz S=S.bl.length:=by omega
  by_cases hk:k=zz S
  ·rw[if_pos hk,hk,he,List.getElem?_append_right (Nat.le_refl _),Nat.sub_self];rfl
  ·rw[if_neg hk];by_cases A0:k<S.bl.length
   ·rw[List.getElem?_append_left A0]
   ·rw[List.getElem?_eq_none (by rw[List.length_append];simp;omega),List.getElem?_eq_none (by omega)]
theorem kb(S:HpS)(p m k:Nat):usd (yv S p m) k=(decide (k=zz S) || usd S k):=by
 unfold usd;rw[zem];by_cases hk:k=zz S
 ·rw[if_pos hk];simp[hk]
 ·rw[if_neg hk];simp[hk]
theorem vt(S:HpS)(p m k:Nat):z7 (yv S p m) k=if k=zz S then p else z7 S k:=by
 unfold z7;rw[zem];split<;>rfl
theorem gu(S:HpS)(p m k:Nat):nOf (yv S p m) k=if k=zz S then m else nOf S k:=by
 unfold nOf;rw[zem];split<;>rfl
theorem zp5{gs:List (Nat×Nat)}{m p:Nat}(h:Zy gs m=(p:Nat))(hm:0<m):∃c,(p,c)∈gs/\m<=c:=by
 unfold Zy at h;rw[if_neg (by omega)] at h;cases hf:gs.find? (λg=>decide (m<=g.2)) with
 | none=>rw[hf] at h;simp at h
 | some g =>
  rw[hf] at h;have h1:=List.find?_some hf;have h2:=List.mem_of_find?_eq_some hf;simp only[decide_eq_true_eq] at h1;obtain⟨s,c⟩:=g;have:s=p:=by simp at h;omega
  subst this;exact⟨c,h2,h1⟩
theorem zgi{S:HpS}{L:List Nat}{p m:Nat}(hI:Inv S)(hL:zl1 S L)(hp:Zy (Zs S L) m=(p:Nat)):Inv (yv S p m):=by
 have A3:=zbu hI hL;have A6:∀k∈L,z7 S k+nOf S k<=S.N:=λk hk=>hI.fit k (hL.1.mem_iff.1 hk)
 obtain⟨hg,_⟩:=zne A3 A6;have A4:=zgr S
 have A2:p+m<=S.N/\(0<m->∀j∈qp S,0<nOf S j->z7 S j+nOf S j<=p\/p+m<=z7 S j):=by
  by_cases h0:0<m
  ·obtain⟨c,hc,A8⟩:=zp5 hp h0;obtain⟨_,g2,g3⟩:=hg _ hc;simp only at g2 g3;refine⟨by omega,λ_ j hj hn=>?_⟩;rcases g3 j (hL.1.mem_iff.2 hj) hn with h|h
   ·exact .inl h
   ·exact .inr (by omega)
  ·have A7:m=0:=by omega
   subst A7;have:p=0:=by unfold Zy at hp;simp at hp;omega
   subst this;exact⟨Nat.zero_le _,λh=>absurd h (by decide)⟩
 refine⟨λk hk=>?_,λk hk j hj A5=>?_⟩
 ·rw[vt,gu];by_cases A0:k=zz S
  ·rw[if_pos A0,if_pos A0];exact A2.1
  ·rw[if_neg A0,if_neg A0];rw[Zf,kb] at hk;simp only[decide_eq_false A0,Bool.false_or] at hk;exact hI.fit k (Zf.2 hk)
 ·rw[vt,gu,vt,gu];rw[Zf,kb] at hk hj;by_cases A0:k=zz S
  ·have A1:¬j=zz S:=λh=>A5 (A0.trans h.symm)
   rw[if_pos A0,if_pos A0,if_neg A1,if_neg A1];simp only[decide_eq_false A1,Bool.false_or] at hj;intro h1 h2;exact(A2.2 h1 j (Zf.2 hj) h2).symm
  ·rw[if_neg A0,if_neg A0];simp only[decide_eq_false A0,Bool.false_or] at hk;by_cases A1:j=zz S
   ·rw[if_pos A1,if_pos A1];intro h1 h2;exact A2.2 h2 k (Zf.2 hk) h1
   ·rw[if_neg A1,if_neg A1];simp only[decide_eq_false A1,Bool.false_or] at hj;exact hI.apart k (Zf.2 hk) j (Zf.2 hj) A5
theorem zgp(S:HpS)(m k:Nat):(zcr S m).bl[k]?=if k=m then(S.bl[k]?).map (λb=>{ b with used:=false }) else S.bl[k]?:=by
 unfold zcr;by_cases hm:m<S.bl.length
 ·rw[dif_pos hm];simp only;rw[List.getElem?_set];by_cases hk:k=m
  ·subst hk;rw[if_pos rfl,if_pos hm,if_pos rfl,ze hm];rfl
  ·rw[if_neg (Ne.symm hk),if_neg hk]
 ·rw[dif_neg hm];by_cases hk:k=m
  ·subst hk;rw[if_pos rfl,List.getElem?_eq_none (by omega)];rfl
  ·rw[if_neg hk]
theorem zfe(S:HpS)(m k:Nat):z7 (zcr S m) k=z7 S k/\nOf (zcr S m) k=nOf S k/\(usd (zcr S m) k=true->usd S k=true):=by
 unfold z7 nOf usd;rw[zgp];split
 ·cases S.bl[k]?<;>simp
 ·exact⟨rfl,rfl,λh=>h⟩
theorem znf(S:HpS)(m:Nat):(zcr S m).N=S.N/\(zcr S m).bl.length=S.bl.length:=by
 unfold zcr;split<;>simp
theorem zxf{S:HpS}(hI:Inv S)(m:Nat):Inv (zcr S m):=by
 refine⟨λk hk=>?_,λk hk j hj A0=>?_⟩
 ·obtain⟨h1,h2,h3⟩:=zfe S m k;rw[h1,h2,(znf S m).1];exact hI.fit k (Zf.2 (h3 (Zf.1 hk)))
 ·obtain⟨h1,h2,h3⟩:=zfe S m k;obtain⟨h4,h5,h6⟩:=zfe S m j;rw[h1,h2,h4,h5];exact hI.apart k (Zf.2 (h3 (Zf.1 hk))) j (Zf.2 (h6 (Zf.1 hj))) A0
theorem z30{S:HpS}(hI:Inv S)(p:Nat)(l:List Int):Inv (wsS S p l):=⟨hI.fit,hI.apart⟩
theorem zkm(S:HpS)(k p j:Nat):(zb7 S k p).bl[j]?=if j=k then(S.bl[j]?).map (λb=>{ b with at_:=p }) else S.bl[j]?:=by
 unfold zb7;by_cases hm:k<S.bl.length
 ·rw[dif_pos hm];simp only;rw[List.getElem?_set];by_cases hk:j=k
  ·subst hk;rw[if_pos rfl,if_pos hm,if_pos rfl,ze hm];rfl
  ·rw[if_neg (Ne.symm hk),if_neg hk]
 ·rw[dif_neg hm];by_cases hk:j=k
  ·subst hk;rw[if_pos rfl,List.getElem?_eq_none (by omega)];rfl
  ·rw[if_neg hk]
theorem zwx{S:HpS}{k:Nat}(hk:k<S.bl.length)(p j:Nat):z7 (zb7 S k p) j=if j=k then p else z7 S j:=by
 unfold z7;rw[zkm];by_cases h:j=k
 ·subst h;rw[if_pos rfl,if_pos rfl,ze hk];rfl
 ·rw[if_neg h,if_neg h]
theorem zz7(S:HpS)(k p j:Nat):nOf (zb7 S k p) j=nOf S j/\usd (zb7 S k p) j=usd S j:=by
 unfold nOf usd;rw[zkm];split
 ·cases S.bl[j]?<;>simp
 ·exact⟨rfl,rfl⟩
theorem zn2(S:HpS)(k p:Nat):(zb7 S k p).ws=S.ws:=by unfold zb7;split<;>rfl
def word(S:HpS)(k i:Nat):Int:=S.ws.getD (z7 S k+i) 0
structure z2z(S:HpS)(l:List Nat)(A:HpS×Nat×Nat):Prop where
 N:A.1.N=S.N
 bl:A.1.bl.length=S.bl.length
 ws:A.1.ws.length=S.ws.length
 n:∀k,nOf A.1 k=nOf S k/\usd A.1 k=usd S k
 out:∀k,k∉l->z7 A.1 k=z7 S k
 nil:∀k∈l,nOf S k=0->z7 A.1 k=z7 S k
 sum:A.2.2=zck S l
 le:∀k∈l,0<nOf S k->z7 A.1 k+nOf S k<=A.2.2/\z7 A.1 k<=z7 S k
 lined:l.Pairwise (λi j=>0<nOf S i->0<nOf S j->z7 A.1 i+nOf S i<=z7 A.1 j)
 word:∀k∈l,∀i,i<nOf S k->word A.1 k i=word S k i
 beyond:∀p,(∀j∈l,0<nOf S j->z7 S j+nOf S j<=p)->A.2.2<=p/\∀i,p<=i->A.1.ws.getD i 0=S.ws.getD i 0
 moved:A.2.1<=l.length
theorem znc{L cs:List Int}{off:Nat}(h:off+cs.length<=L.length)(i:Nat):(splice L off cs).getD i 0=if i<off then L.getD i 0 else if i<off+cs.length then cs.getD (i-off) 0 else L.getD i 0:=by
 simp only[List.getD_eq_getElem?_getD];rw[qe _ _ _ h];split
 ·rfl
 ·split<;>rfl
theorem zuc{S:HpS}{l:List Nat}{A:HpS×Nat×Nat}{k:Nat}(h:z2z S l A)(A9:k∉l)(B7:k<S.bl.length)(B4:z7 S k+nOf S k<=S.ws.length)(hk:∀j∈l,0<nOf S j->0<nOf S k->z7 S j+nOf S j<=z7 S k):z2z S (l++[k]) (zgv A k):=by
 obtain⟨A,mv,en⟩:=A;have B0:=(h.n k).1;have A4:=h.out k A9;simp only at B0 A4
 have A0:∀ {P:Nat->Prop},(∀j∈l,P j)->P k->∀j∈l++[k],P j:=λh1 h2 j hj=>by
  rcases List.mem_append.1 hj with hj|hj
  ·exact h1 j hj
  ·simp at hj;subst hj;exact h2
 unfold zgv;simp only;rw[B0];by_cases h0:nOf S k=0
 ·rw[if_pos h0];refine⟨h.N,h.bl,h.ws,h.n,λj hj=>h.out j (λhm=>hj (List.mem_append_left _ hm)),A0 h.nil (λ_=>A4),?_,A0 h.le (λhn=>by omega),?_,A0 h.word (λi hi=>by omega),λp hp=>h.beyond p (λj hj hn=>hp j (List.mem_append_left _ hj) hn),?_⟩
  ·rw[zbl,<-h.sum];simp[zck,h0]
  ·refine List.pairwise_append.2 ⟨h.lined,by simp,λi hi j hj hn A6=>?_⟩;simp at hj;subst hj;omega
  ·rw[List.length_append];exact Nat.le_trans h.moved (Nat.le_add_right _ _)
 ·rw[if_neg h0];have h1:0<nOf S k:=by omega
  obtain⟨B5,A7⟩:=h.beyond (z7 S k) (λj hj hn=>hk j hj hn h1);have B1:=h.ws;have A3:=h.sum;simp only at B5 A7 B1 A3;rw[A4];by_cases h2:z7 S k=en
  ·rw[if_pos h2];refine⟨h.N,h.bl,h.ws,h.n,λj hj=>h.out j (λhm=>hj (List.mem_append_left _ hm)),A0 h.nil (λh=>absurd h h0),?_,A0 (λj hj hn=>by have:=h.le j hj hn;simp only at this ⊢;omega) (λ_=>by simp only;rw[A4];omega),?_,A0 h.word (λi hi=>?_),λp hp=>?_,?_⟩
   ·rw[zbl];simp only;rw[A3];simp[zck]
   ·refine List.pairwise_append.2 ⟨h.lined,by simp,λi hi j hj hn A6=>?_⟩;simp at hj;subst hj;have:=h.le i hi hn;simp only at this ⊢;rw[A4];omega
   ·unfold Go.Proofs.YtoeibiahbenpcaaGreatDoor.word;simp only;rw[A4];exact A7 _ (by omega)
   ·obtain⟨b1,b2⟩:=h.beyond p (λj hj hn=>hp j (List.mem_append_left _ hj) hn);have:=hp k (by simp) h1;exact⟨by simp only;omega,b2⟩
   ·rw[List.length_append];exact Nat.le_trans h.moved (Nat.le_add_right _ _)
  ·rw[if_neg h2];have B2:((A.ws.drop (z7 S k)).take (nOf S k)).length=nOf S k:=by rw[List.length_take,List.length_drop];omega
   have B3:en+((A.ws.drop (z7 S k)).take (nOf S k)).length<=A.ws.length:=by rw[B2];omega
   have A8:k<(wsS A en ((A.ws.drop (z7 S k)).take (nOf S k))).bl.length:=by show k<A.bl.length;have:=h.bl;simp only at this;omega
   have A2:∀j,z7 (zb7 (wsS A en ((A.ws.drop (z7 S k)).take (nOf S k))) k en) j=if j=k then en else z7 A j:=λj=>zwx A8 en j
   have A1:∀i,(zb7 (wsS A en ((A.ws.drop (z7 S k)).take (nOf S k))) k en).ws.getD i 0=if i<en then A.ws.getD i 0 else if i<en+nOf S k then A.ws.getD (z7 S k+(i-en)) 0 else A.ws.getD i 0:=λi=>by
    rw[zn2];show(splice A.ws en _).getD i 0=_
    rw[znc B3,B2];split
    ·rfl
    ·split
     ·next h3 =>
      simp only[List.getD_eq_getElem?_getD];rw[List.getElem?_take,if_pos (by omega),List.getElem?_drop]
     ·rfl
   have A5:∀j∈l,¬j=k:=λj hj e=>A9 (e▸hj)
   refine⟨(zc7 _ _ _).2.trans h.N,(zc7 _ _ _).1.trans h.bl,?_,λj=>?_,λj hj=>?_,A0 (λj hj hn=>?_) (λhn=>absurd hn h0),?_,A0 (λj hj hn=>?_) (λ_=>?_),?_,A0 (λj hj i hi=>?_) (λi hi=>?_),λp hp=>?_,?_⟩
   ·simp only;rw[zn2];exact(ye _ _ _ B3).trans B1
   ·obtain⟨n1,n2⟩:=zz7 (wsS A en ((A.ws.drop (z7 S k)).take (nOf S k))) k en j;exact⟨n1.trans (h.n j).1,n2.trans (h.n j).2⟩
   ·simp only;rw[A2,if_neg (λe=>hj (by simp[e]))];exact h.out j (λhm=>hj (List.mem_append_left _ hm))
   ·simp only;rw[A2,if_neg (A5 j hj)];exact h.nil j hj hn
   ·rw[zbl];simp only;rw[A3];simp[zck]
   ·have:=h.le j hj hn;simp only at this ⊢;rw[A2,if_neg (A5 j hj)];omega
   ·simp only;rw[A2,if_pos rfl];omega
   ·refine List.pairwise_append.2 ⟨?_,by simp,λi hi j hj hn A6=>?_⟩
    ·refine List.Pairwise.imp_of_mem ?_ h.lined;intro i j hi hj B6 hn A6;have:=B6 hn A6;simp only at this ⊢;rw[A2,A2,if_neg (A5 i hi),if_neg (A5 j hj)];exact this
    ·simp at hj;subst hj;have:=h.le i hi hn;simp only at this ⊢;rw[A2,A2,if_neg (A5 i hi),if_pos rfl];exact this.1
   ·have h3:=h.le j hj (by omega);have h4:=h.word j hj i hi;unfold Go.Proofs.YtoeibiahbenpcaaGreatDoor.word at h4 ⊢;simp only at h3 h4 ⊢;rw[A1,A2,if_neg (A5 j hj),if_pos (by omega)];exact h4
   ·unfold Go.Proofs.YtoeibiahbenpcaaGreatDoor.word;simp only;rw[A1,A2,if_pos rfl,if_neg (by omega),if_pos (by omega),show z7 S k+(en+i-en)=z7 S k+i by omega];exact A7 _ (by omega)
   ·obtain⟨b1,b2⟩:=h.beyond p (λj hj hn=>hp j (List.mem_append_left _ hj) hn);have:=hp k (by simp) h1;refine⟨by simp only;omega,λi hi=>?_⟩;simp only;rw[A1,if_neg (by omega),if_neg (by omega)];exact b2 i hi
   ·rw[List.length_append];have:=h.moved;simp only at this ⊢;simp;omega
theorem zh8(S:HpS)(l:List Nat)(k:Nat):Zp S (l++[k])=zgv (Zp S l) k:=by
 unfold Zp;rw[List.foldl_append];rfl
theorem zub{S:HpS}(l:List Nat):zrl S l->l.Nodup->(∀k∈l,k<S.bl.length/\z7 S k+nOf S k<=S.ws.length)->z2z S l (Zp S l):=by
 induction l using ze7 with
 | h0=>exact λ_ _ _=>⟨rfl,rfl,rfl,λk=>⟨rfl,rfl⟩,λk _=>rfl,λk hk=>by simp at hk,rfl,λk hk=>by simp at hk,List.Pairwise.nil,λk hk=>by simp at hk,λp _=>⟨Nat.zero_le _,λi _=>rfl⟩,Nat.le_refl _⟩
 | h1 l k ih =>
  intro h hd hf;obtain⟨h1,_,h2⟩:=List.pairwise_append.1 h;obtain⟨d1,_,d2⟩:=List.nodup_append.1 hd;rw[zh8];refine zuc (ih h1 d1 (λj hj=>hf j (List.mem_append_left _ hj))) (λhk=>d2 k hk k (by simp) rfl) (hf k (by simp)).1 (hf k (by simp)).2 (λj hj hn hk=>h2 j hj k (by simp) hn hk)
theorem zue{S:HpS}{L:List Nat}(hI:Inv S)(hL:zl1 S L)(A6:S.ws.length=S.N):zzu S L:=by
 have A1:=zbu hI hL;have A4:=hL.nodup
 have A2:∀k∈L,k<S.bl.length/\z7 S k+nOf S k<=S.ws.length:=λk hk=>by
  have:=hL.1.mem_iff.1 hk;obtain⟨h1,_⟩:=zfz (Zf.1 this);exact⟨h1,by rw[A6];exact hI.fit k this⟩
 intro j hj;have A0:(L.take j).Sublist L:=List.take_sublist _ _;have hC:=zub (L.take j) (List.Pairwise.sublist A0 A1) (List.Nodup.sublist A0 A4) (λk hk=>A2 k (A0.mem hk))
 have A3:L[j]∉L.take j:=by
  have h1:(L.take (j+1)).Nodup:=List.Nodup.sublist (List.take_sublist _ _) A4;rw[List.take_succ_eq_append_getElem hj] at h1;obtain⟨_,_,d2⟩:=List.nodup_append.1 h1;exact λh=>d2 _ h _ (by simp) rfl
 obtain⟨f1,f2⟩:=A2 _ (List.getElem_mem hj);rw[hC.out _ A3,(hC.n _).1];refine⟨f1,by omega,λhn=>?_,?_⟩
 ·refine(hC.beyond _ (λi hi A5=>?_)).1;have h1:zrl S (L.take (j+1)):=List.Pairwise.sublist (List.take_sublist _ _) A1;rw[List.take_succ_eq_append_getElem hj] at h1;exact(List.pairwise_append.1 h1).2.2 i hi _ (by simp) A5 hn
 ·refine(hC.beyond S.N (λi hi A5=>?_)).1;have:=(A2 i (A0.mem hi)).2;omega
theorem zsn{α:Type}{R:α->α->Prop}{L:List α}(h:L.Pairwise R){x y:α}(hx:x∈L)(hy:y∈L)(A2:x≠y):R x y\/R y x:=by
 induction h with
 | nil=>cases hx
 | cons h1 h2 ih =>
  rcases List.mem_cons.1 hx with ex|A1
  ·rcases List.mem_cons.1 hy with ey|A0
   ·exact absurd (ex.trans ey.symm) A2
   ·rw[ex];exact .inl (h1 y A0)
  ·rcases List.mem_cons.1 hy with ey|A0
   ·rw[ey];exact .inr (h1 x A1)
   ·exact ih A1 A0
theorem zfy{b1 b2:List Blk}(h:∀k:Nat,((b1[k]?).map Blk.used).getD false=((b2[k]?).map Blk.used).getD false):∀k,yd b1 k=yd b2 k
 | 0=>rfl
 | k+1=>by unfold yd;rw[h k,zfy h k]
theorem zvv{g:List (Nat×Nat)}:∀x∈g,x.2<=gx g:=by
 induction g using ze7 with
 | h0=>intro x hx;cases hx
 | h1 g y ih =>
  intro x hx;rw[zg9];rcases List.mem_append.1 hx with hx|hx
  ·have:=ih x hx;omega
  ·simp at hx;subst hx;omega
theorem zr2{S:HpS}{L M:List Nat}(h:L.Perm M):zck S L=zck S M:=by
 unfold zck;induction h with
 | nil=>rfl
 | cons x _ ih=>simp[ih]
 | swap x y l=>simp;omega
 | trans _ _ ih1 ih2=>exact ih1.trans ih2
structure zy1(S C:HpS)(L:List Nat):Prop where
 inv:Inv C
 used:qp C=qp S
 N:C.N=S.N
 ws:C.ws.length=S.ws.length
 bl:C.bl.length=S.bl.length
 n:∀k,nOf C k=nOf S k
 at_:∀k∈L,z7 C k<=z7 S k
 word:∀k∈L,∀i,i<nOf S k->word C k i=word S k i
 order:∀x∈L,∀y∈L,x≠y->0<nOf S x->0<nOf S y->(z7 C x<z7 C y↔z7 S x<z7 S y)
 end_:∀k∈L,0<nOf S k->z7 C k+nOf C k<=zck S L
theorem zw9{S:HpS}{L:List Nat}(hI:Inv S)(hL:zl1 S L)(A5:S.ws.length=S.N):zy1 S (Zp S L).1 L/\(Zp S L).2.1<=L.length:=by
 have A0:=zbu hI hL
 have A3:∀k∈L,k<S.bl.length/\z7 S k+nOf S k<=S.ws.length:=λk hk=>by
  have:=hL.1.mem_iff.1 hk;obtain⟨h1,_⟩:=zfz (Zf.1 this);exact⟨h1,by rw[A5];exact hI.fit k this⟩
 have hC:=zub L A0 hL.nodup A3;generalize Zp S L=A at *;obtain⟨C,mv,en⟩:=A;have A9:en<=S.N:=(hC.beyond S.N (λj hj _=>by have:=(A3 j hj).2;omega)).1
 have A1:qp C=qp S:=by
  unfold qp;rw[show C.bl.length=S.bl.length from hC.bl];exact zfy (λk=>(hC.n k).2) _
 have hn:∀k,nOf C k=nOf S k:=λk=>(hC.n k).1
 have A2:=hC.sum;simp only at A2
 have A6:∀k∈L,z7 C k<=z7 S k:=λk hk=>by
  by_cases h0:nOf S k=0
  ·exact Nat.le_of_eq (hC.nil k hk h0)
  ·exact(hC.le k hk (by omega)).2
 show zy1 S C L/\mv<=L.length
 refine⟨⟨⟨λk hk=>?_,λk hk j hj A7 h1 h2=>?_⟩,A1,hC.N,hC.ws,hC.bl,hn,A6,hC.word,λx hx y hy A8 h1 h2=>?_,λk hk h0=>?_⟩,hC.moved⟩
 ·rw[A1] at hk;have A4:=hL.1.mem_iff.2 hk;rw[hn,show C.N=S.N from hC.N];by_cases h0:nOf S k=0
  ·have:=hC.nil k A4 h0;simp only at this;rw[this];exact hI.fit k hk
  ·have:=(hC.le k A4 (by omega)).1;simp only at this;omega
 ·rw[A1] at hk hj;rw[hn] at h1 h2;rw[hn,hn];rcases zsn hC.lined (hL.1.mem_iff.2 hk) (hL.1.mem_iff.2 hj) A7 with h|h
  ·exact .inl (h h1 h2)
  ·exact .inr (h h2 h1)
 ·have hp:=List.pairwise_and_iff.2 ⟨hC.lined,A0⟩;rcases zsn hp hx hy A8 with⟨h3,h4⟩|⟨h3,h4⟩
  ·have:=h3 h1 h2;have:=h4 h1 h2;simp only at *;omega
  ·have:=h3 h2 h1;have:=h4 h2 h1;simp only at *;omega
 ·have:=(hC.le k hk h0).1;simp only at this;rw[hn];omega
theorem zmz{S C:HpS}{L L':List Nat}(h:zy1 S C L)(hI:Inv S)(hL:zl1 S L)(A4:zl1 C L') :
 gx (Zs C L')=S.N-zck S L/\cm (Zs C L')=S.N-zck S L/\(Zp C L').2.1=0/\(Zp C L').1=C/\gx (Zs S L)=S.N-zck S L:=by
 have A2:=zbu h.inv A4;have hG:=znd L' A2;have A5:∀j,j∈L'↔j∈L:=λj=>by rw[A4.1.mem_iff,hL.1.mem_iff,h.used]
 have hs:zck C L'=zck S L:=by
  have h1:zck C L'=zck S L':=by unfold zck;congr 1;exact List.map_congr_left (λk _=>h.n k)
  rw[h1];exact zr2 (A4.1.trans (by rw[h.used];exact hL.1.symm))
 have B3:(Zk C L').2<=zck S L:=hG.least _ (λj hj hn=>h.end_ j ((A5 j).1 hj) (by rw[<-h.n];exact hn));have A0:=hG.sum;rw[hs] at A0
 have A1:(Zk C L').1=[]:=by
  cases hg:(Zk C L').1 with
  | nil=>rfl
  | cons x r =>
   have h1:=zvv (g:=(Zk C L').1) x (by rw[hg];simp);have h2:=(hG.free x (by rw[hg];simp)).1;omega
 have A6:(Zk C L').2=zck S L:=by rw[A1] at A0;simp[gx] at A0;omega
 have A8:∀k∈L,z7 S k+nOf S k<=S.N:=λk hk=>hI.fit k (hL.1.mem_iff.1 hk)
 obtain⟨_,hS⟩:=zne (zbu hI hL) A8
 have A7:Zs C L'=if zck S L<S.N then [(zck S L,S.N-zck S L)] else []:=by
  unfold Zs;rw[A1,A6,h.N];rfl
 have A9:∀l:List Nat,zrl C l->(Zk C l).1=[]->Zp C l=(C,0,(Zk C l).2):=by
  intro l;induction l using ze7 with
  | h0=>exact λ_ _=>rfl
  | h1 l k ih =>
   intro hl hz;obtain⟨h1,_,h2⟩:=List.pairwise_append.1 hl;have B0:=znd l h1;rw[zh1] at hz ⊢;rw[zh8]
   have B1:(Zk C l).1=[]:=by
    unfold zot at hz;split at hz
    ·split at hz
     ·simp at hz
     ·exact hz
    ·exact hz
   rw[ih h1 B1];unfold zot at hz ⊢;unfold zgv;simp only;by_cases h0:nOf C k=0
   ·rw[if_pos h0,if_neg (by omega)]
   ·rw[if_neg h0];rw[if_pos (show 0<nOf C k by omega)] at hz ⊢;have B2:(Zk C l).2<=z7 C k:=B0.least _ (λj hj hn=>h2 j hj k (by simp) hn (by omega));by_cases h3:(Zk C l).2<z7 C k
    ·rw[if_pos h3] at hz;simp at hz
    ·have h4:z7 C k=(Zk C l).2:=by omega
     rw[if_pos h4];simp only;rw[h4]
 have A3:=A9 L' A2 A1;refine⟨?_,?_,by rw[A3],by rw[A3],by omega⟩
 ·rw[A7];split
  ·simp[gx]
  ·simp[gx];omega
 ·rw[A7];split
  ·simp[cm]
  ·simp[cm];omega
end Go.Proofs.YtoeibiahbenpcaaGreatDoor
