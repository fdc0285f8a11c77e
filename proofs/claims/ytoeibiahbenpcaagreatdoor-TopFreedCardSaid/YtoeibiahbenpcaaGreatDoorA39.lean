/- Part. -/
import Derived.Test.YtoeibiahbenpcaaGreatDoorA38
namespace Go.Proofs.YtoeibiahbenpcaaGreatDoor
open RowKit Maps Proofs.Tryz
set_option linter.unusedVariables false
set_option maxRecDepth 99999
set_option maxHeartbeats 9000000
theorem z12(a:Option Addr)(n c:Nat)(bs:List Int)(w:World)(hG:Glb w)(e0:n=bs.length)(hr:zv w a c (bs.map (Value.int .u8)))(hb:Byt bs)(hc:n<=c)(hn:n<=100000) :
 Calls prog 114 #[.slice a n c] w λe w'=>e=.returned (.bool (vp bs))/\Below w.heap.size w w':=by
 have D7:=zh (zvd a n c bs w hG e0 hr hb hc hn);have HB:=zh hb;have HE:=zh e0;clear hr hG hb e0;go_enter func114,ntmps114;go_wp2;go_step3;go_wp2_with fail;go_call D7 as e w1 ⟨D8,k,l,i,hp,D9⟩
 have hx:∃v x,e=.returned (.tuple #[v,.int .i64 x])/\zl2 w1 w.heap.size v (if x=0 then l else [])/\(x=0->bs.length<=i)/\(x≠0->i<bs.length/\(js bs i).2≠0):=by
  rcases D9 with⟨h1,v,h2,h3⟩|⟨h1,h2,h3⟩
  ·exact⟨v,0,h2,h3,λ_=>h1,λh=>absurd rfl h⟩
  ·exact⟨_,_,h3,by rw[if_neg h2];exact World.ownsRow_nil _ _ _ _,λh=>absurd h h2,λ_=>⟨h1,h2⟩⟩
 obtain⟨v,x,rfl,A8,E0,E1⟩:=hx;have C0:=zh (ziq hp);have E2:=zh (zy9 HB hp);have HP:=zh hp;have G2:=zh E0;have E3:=zh E1;obtain⟨L,hL⟩:∃L:List OpC,L=if x=0 then l else []:=⟨_,rfl⟩
 rw[<-hL] at A8;have HL:=zh hL;have B7:∀o∈L,o∈l:=λo ho=>by rw[hL] at ho;split at ho;exact ho;cases ho
 have E4:∀j,j<L.length->lens (L.take j)<bs.length:=λj hj=>by
  rw[hL] at hj ⊢;split at hj
  ·next h=>rw[if_pos h];exact E2.at_ j hj
  ·simp at hj
 have G3:L.length<=n+2:=by
  have h1:=C0.out.few;have h2:=C0.out.le;have h3:=HE.out;rw[hL];split
  ·omega
  ·simp
 have E5:=zh E4;have E6:=zh B7;have C1:=zh A8;have C2:=zh D8;clear hp D9 E0 E1 hL B7 E4 A8 D8 D7;obtain⟨va,vc,rfl,-,-,-⟩:=zk C1;obtain⟨N,hN⟩:=zx (L.length);have HN:=zh hN;rw[<-hN] at G3 ⊢;clear hN;go_wp2_with (at_make;refine qo rfl _ _ 240 rfl 4 (.bool false) 1 underlying240 zte rfl .i64 .i64 _ _ (n+1) rfl rfl (by simp) (by simp) (by omega) (by unfold maxLen;omega) ?_);intro w2 C3 C9;obtain⟨g,hg⟩:=zx (w1.heap.size);rw[<-hg] at C3 ⊢;rw[zqc] at C3;have HG:=zh hg;have E7:=zh C3;have B8:=zh (C9.ownsAbove C1.out (by simp));have E8:=zh (C2.out.trans (C9.below C2.out.size (by simp)));have E9:w.heap.size<=g:=by have:=C2.out.size;omega
 have F0:=zh E9
 have F1:Hid (∀k,(Value.slice va N vc).ownBlock=some k->k≠g):=λk hk=>by
  have:=C1.out.lt k (by rw[HN.out] at hk;exact hk);rw[HG.out];omega
 clear C3 hg C9 E9 C1 C2;go_wp2;go_loopw [6,24] (λat_ i wr=>∃j:Nat,j<=N/\at_=.int .i64 (lens (L.take j):Nat)/\i=.int .i64 j/\Hid (Row wr g 4 (zcn (λt=>∃i,i<j/\t=lens (L.take i)) (n+1)))/\Hid (zl2 wr w.heap.size (.slice va L.length vc) L)/\Hid (Below w.heap.size w wr)) (λ_ i _=>N-(intOf i).toNat)
 case atStart=>exact⟨0,Nat.zero_le _,rfl,rfl,by unfold Hid;simpa using E7.out,B8.out,E8.out⟩
 case round =>
  obtain⟨j,hj,rfl,rfl,HR,HO,A3⟩:=hrel;by_cases B1:j<N
  ·have A4:j<L.length:=by rw[<-HN.out];exact B1
   obtain⟨g2,c2,hv,D0,A1⟩:=HO.cells A4;cases hv
   obtain⟨o,ho⟩:=zx (L.getD j zfp);rw[<-ho] at A1;have x0:=A1 0 _ rfl;have x1:=A1 1 _ rfl;have x2:=A1 2 _ rfl;have x3:=A1 3 _ rfl;rw[Nat.add_zero] at x0;have D1:=C0.out.one o (by rw[ho];exact E6 _ (zos A4));obtain⟨Z,hZ⟩:∃Z:Nat,o.len=Z:=⟨o.len.toNat,by omega⟩;rw[hZ] at x3;obtain⟨A,hA⟩:=zx (lens (L.take j));have G4:A<n:=by have:=E5.out j A4;have:=HE.out;omega
   have B2:lens (L.take (j+1))=A+Z:=by rw[zky A4,<-ho,<-hA,hZ];omega
   rw[<-hA];obtain⟨d,hd⟩:=zoi (f:=λt=>∃i,i<j/\t=lens (L.take i)) (n:=n+1) (t:=A) (by omega);have C4:=HR.cell hd;have F2:=HR.free A;have D2:=HR.out.lt;have A9:Upd [g] wr (wr.setCell ⟨g,A,none⟩ (.bool true)):=(Upd.refl _ _).setCell (by simp) _
   have C5:Hid (Row (wr.setCell ⟨g,A,none⟩ (.bool true)) g 4 (zcn (λt=>∃i,i<j+1/\t=lens (L.take i)) (n+1))):=by
    have:=HR.out.set A (.bool true);rw[zkx (g:=λt=>∃i,i<j+1/\t=lens (L.take i)) (by omega) (λy=>?_)] at this
    ·exact this
    ·constructor
     ·rintro⟨i,hi,rfl⟩;by_cases e:i=j
      ·subst e;exact .inl hA.symm
      ·exact .inr ⟨i,by omega,rfl⟩
     ·rintro(rfl|⟨i,hi,rfl⟩)
      ·exact⟨j,by omega,hA⟩
      ·exact⟨i,by omega,rfl⟩
   have C6:Hid (zl2 (wr.setCell ⟨g,A,none⟩ (.bool true)) w.heap.size (.slice (some ⟨g2,0,none⟩) L.length vc) L):=A9.owns HO (λk hk hm=>by
    simp at hm;subst hm;rw[<-HN.out] at hk
    exact F1 k hk rfl)
   have B9:Hid (Below w.heap.size w (wr.setCell ⟨g,A,none⟩ (.bool true))):=A3.out.trans (A9.below A3.out.size (λk hk=>by simp at hk;subst hk;exact F0));have C7:=zh B2;have D3:(j:Int)<(N:Int):=by omega
   have G9:(A:Int)<(n:Int)+1:=by omega
   have G5:Z<=3:=by omega
   clear A1 ho D1 hZ hA B2 hd A9 HR HO A3 A4;go_wp2;go_roundw
   case rel=>exact⟨j+1,by omega,by rw[C7.out];go_num,by go_num,C5.out.alloc _,(Upd.refl [] _ |>.alloc _).ownsAbove C6.out (by simp),zn B9.out⟩
   case measure=>simp[intOf];omega
  ·obtain rfl:j=N:=by omega
   have F3:n=bs.length:=HE.out;obtain⟨d,hd⟩:=zoi (f:=λt=>∃i,i<j/\t=lens (L.take i)) (n:=n+1) (t:=n) (by omega);have C4:=HR.cell hd;have F2:=HR.free n;have D2:=HR.out.lt;have A9:Upd [g] wr (wr.setCell ⟨g,n,none⟩ (.bool true)):=(Upd.refl _ _).setCell (by simp) _
   have F4:Row (wr.setCell ⟨g,n,none⟩ (.bool true)) g 4 (zcn (beg bs L) (n+1)):=by
    have:=HR.out.set n (.bool true);rw[zkx (g:=beg bs L) (by omega) (λy=>?_)] at this
    ·exact this
    ·unfold beg;rw[F3,HN.out]
   have F5:zl2 (wr.setCell ⟨g,n,none⟩ (.bool true)) w.heap.size (.slice va L.length vc) L:=A9.owns HO (λk hk hm=>by
    simp at hm;subst hm;rw[<-HN.out] at hk
    exact F1 k hk rfl)
   have F6:Below w.heap.size w (wr.setCell ⟨g,n,none⟩ (.bool true)):=A3.out.trans (A9.below A3.out.size (λk hk=>by simp at hk;subst hk;exact F0));have C5:=zh F4;have C6:=zh F5;have B9:=zh F6;have I0:(n:Int)<(n:Int)+1:=by omega
   clear F3 hd A9 F4 F5 F6 HR HO A3 E7 B8 E8 B1;go_wp2_with fail;obtain⟨W3,F7⟩:=zx (wr.setCell ⟨g,n,none⟩ (.bool true));rw[<-F7] at C5 C6 B9 ⊢;clear F7 C4 F2 D2;by_cases hx:x=0
   ·subst hx;have B0:L=l:=by rw[HL.out];rfl
    have F8:=G2 rfl;have D4:Hid ((∀i,i<j->zzs bs L i)->vp bs=true):=λh=>zqh HP.out F8 (by rw[<-B0];intro i hi;exact h i (by rw[HN.out];exact hi))
    have F9:Hid (∀q,q<j->¬zzs bs L q->vp bs=false):=λq hq hn=>zk1 HP.out (by omega) (λ_ hj=>hn (by rw[<-B0] at hj;exact hj q (by rw[<-HN.out];exact hq)))
    clear F8 B0;go_step3;go_wp2;go_loopw [6,9,44] (λat_ ok i wr=>∃q:Nat,q<=j/\at_=.int .i64 (lens (L.take q):Nat)/\ok=.bool true/\i=.int .i64 q/\Hid (Row wr g 4 (zcn (beg bs L) (n+1)))/\Hid (zl2 wr w.heap.size (.slice va L.length vc) L)/\Hid (Below w.heap.size w wr)/\Hid (∀i,i<q->zzs bs L i)) (λ_ _ i _=>j-(intOf i).toNat)
    case atStart=>exact⟨0,Nat.zero_le _,rfl,rfl,rfl,C5.out,C6.out,B9.out,λi hi=>by omega⟩
    case round =>
     obtain⟨q,hq,rfl,rfl,rfl,HR,HO,A3,HJ⟩:=hrel;by_cases B1:q<j
     ·have A4:q<L.length:=by rw[<-HN.out];exact B1
      obtain⟨g2,c2,hv,D0,A1⟩:=HO.cells A4;cases hv
      obtain⟨o,ho⟩:=zx (L.getD q zfp);rw[<-ho] at A1;have x0:=A1 0 _ rfl;have x1:=A1 1 _ rfl;have x2:=A1 2 _ rfl;have x3:=A1 3 _ rfl;rw[Nat.add_zero] at x0;have D5:o∈l:=by rw[ho];exact E6 _ (zos A4)
      have D1:=C0.one o D5;have C8:=E2.n o D5;obtain⟨Z,hZ⟩:∃Z:Nat,o.len=Z:=⟨o.len.toNat,by omega⟩;rw[hZ] at x3;obtain⟨A,hA⟩:=zx (lens (L.take q));have G4:A<n:=by have:=E5.out q A4;have:=HE.out;omega
      have B2:lens (L.take (q+1))=A+Z:=by rw[zky A4,<-ho,<-hA,hZ];omega
      rw[<-hA];have G5:Z<=3:=by omega
      have C7:=zh B2;have D3:(q:Int)<(j:Int):=by omega
      have G0:zzs bs L q↔(o.kind≠0/\(o.kind=22\/o.kind=23\/o.kind=24->∃t:Nat,((A+Z:Nat):Int)+o.n=t/\t<=bs.length/\beg bs L t)):=by
       unfold zzs;rw[<-ho,B2]
      have A2:=zh G0;have A0:=zh (F9 q B1)
      have A6:Hid (zzs bs L q->∀i,i<q+1->zzs bs L i):=λh i hi=>by
       by_cases e:i=q
       ·subst e;exact h
       ·exact HJ.out i (by omega)
      have B3:Hid (∀ob,Below w.heap.size w (wr.alloc ob)):=λob=>zn A3
      have B4:Hid (∀ob,Row (wr.alloc ob) g 4 (zcn (beg bs L) (n+1))):=λob=>HR.alloc ob
      have B5:Hid (∀ob,zl2 (wr.alloc ob) w.heap.size (.slice (some ⟨g2,0,none⟩) L.length vc) L):=λob=>((Upd.refl [] wr).alloc ob).ownsAbove HO.out (by simp)
      obtain⟨K,hK⟩:=zx (o.kind);obtain⟨M,hM⟩:=zx (o.n);rw[<-hK] at x0;rw[<-hM] at x1 C8;rw[<-hK,<-hM] at A2;have I1:=C8.1;have I2:=C8.2;clear A1 ho D5 D1 C8 hZ hA B2 G0 A4 HO HJ F9 hK hM;by_cases A7:K=0
      ·subst A7;have HF:Hid (vp bs=false):=A0 (λh=>(A2.out.1 h).1 rfl);clear A2 A0 A6 B4 B5 HR;go_wp2
       (try rw[Exit.noGoto_ret])
       go_ret;exact⟨by rw[HF.out];rfl,B3.out _⟩
      ·by_cases A5:K=22\/K=23\/K=24
       ·by_cases h0:(A:Int)+Z+M<0
        ·have HF:Hid (vp bs=false):=A0 (λh=>by
          obtain⟨t,ht,-⟩:=(A2.out.1 h).2 A5
          omega)
         have t0:¬((A:Int)+Z+M>=0):=by omega
         clear A2 A0 A6 B4 B5 HR h0 A7;rcases A5 with rfl|rfl|rfl
         all_goals
          go_wp2
          (try rw[Exit.noGoto_ret])
          go_ret;exact⟨by rw[HF.out];rfl,B3.out _⟩
        ·have t0:(A:Int)+Z+M>=0:=by omega
         by_cases h1:(n:Int)<(A:Int)+Z+M
         ·have HF:Hid (vp bs=false):=A0 (λh=>by
           obtain⟨t,ht,hl,-⟩:=(A2.out.1 h).2 A5;have:=HE.out
           omega)
          have t1:¬((A:Int)+Z+M<=(n:Int)):=by omega
          clear A2 A0 A6 B4 B5 HR h0 h1 A7;rcases A5 with rfl|rfl|rfl
          all_goals
           go_wp2
           (try rw[Exit.noGoto_ret])
           go_ret;exact⟨by rw[HF.out];rfl,B3.out _⟩
         ·obtain⟨T,hT⟩:∃T:Nat,(A:Int)+Z+M=T:=⟨((A:Int)+Z+M).toNat,by omega⟩;have G1:T<=n:=by omega
          have I3:(T:Int)<=(n:Int):=by omega
          have I4:(T:Int)<(n:Int)+1:=by omega
          have D2:=HR.out.lt;by_cases B6:beg bs L T
          ·have C4:=HR.out.cell (yp (f:=beg bs L) (n:=n+1) (t:=T) (by omega) true (by simp[B6]));have D6:=zh (A6.out (A2.out.2 ⟨A7,λ_=>⟨T,by omega,by have:=HE.out;omega,B6⟩⟩));clear A2 A0 A6 HR h0 h1 A7 B6 t0 G1;rcases A5 with rfl|rfl|rfl
           all_goals
            go_wp2;go_roundw
            case rel=>exact⟨q+1,by omega,by rw[C7.out];go_num,rfl,by go_num,B4.out _,B5.out _,B3.out _,D6.out⟩
            case measure=>simp[intOf];omega
          ·have C4:=HR.out.cell (yp (f:=beg bs L) (n:=n+1) (t:=T) (by omega) false (by simp[B6]))
           have HF:Hid (vp bs=false):=A0 (λh=>by
            obtain⟨t,ht,_,h2⟩:=(A2.out.1 h).2 A5;obtain rfl:t=T:=by omega
            exact B6 h2)
           clear A2 A0 A6 B4 B5 HR h0 h1 A7 B6 t0 G1;rcases A5 with rfl|rfl|rfl
           all_goals
            go_wp2
            (try rw[Exit.noGoto_ret])
            go_ret;exact⟨by rw[HF.out];rfl,B3.out _⟩
       ·have k0:(K == 0)=false:=by simp;omega
        have k1:(K == 22)=false:=by simp;omega
        have k2:(K == 23)=false:=by simp;omega
        have k3:(K == 24)=false:=by simp;omega
        have D6:=zh (A6 (A2.out.2 ⟨A7,λh=>absurd h A5⟩));clear A2 A0 A6 A7 A5 HR;go_wp2;go_roundw
        case rel=>exact⟨q+1,by omega,by rw[C7.out];go_num,rfl,by go_num,B4.out _,B5.out _,B3.out _,D6.out⟩
        case measure=>simp[intOf];omega
     ·obtain rfl:q=j:=by omega
      have HF:Hid (vp bs=true):=D4 HJ;clear B1 HJ HR HO;go_wp2
      (try rw[Exit.noGoto_ret])
      go_ret;exact⟨by rw[HF.out];rfl,A3.out⟩
   ·have G6:j=0:=by rw[HN.out,HL.out,if_neg hx];rfl
    subst G6;have HF:Hid (vp bs=false):=zk1 HP.out (λh=>absurd h.2 (E3.out hx).2) (λh=>by have:=(E3.out hx).1;omega);have G7:(x == 0)=false:=by simpa using hx
    have G8:=zh B9;clear hx;rw[G7];go_step3;go_wp2;go_loopw [9,44] (λok i wr=>ok=.bool false/\i=.int .i64 0/\Hid (Below w.heap.size w wr)) (λ_ _ _=>0)
    case atStart=>exact⟨rfl,rfl,G8⟩
    case round =>
     obtain⟨rfl,rfl,A3⟩:=hrel;go_wp2
     (try rw[Exit.noGoto_ret])
     go_ret;exact⟨by rw[HF.out];rfl,A3.out⟩
end Go.Proofs.YtoeibiahbenpcaaGreatDoor
