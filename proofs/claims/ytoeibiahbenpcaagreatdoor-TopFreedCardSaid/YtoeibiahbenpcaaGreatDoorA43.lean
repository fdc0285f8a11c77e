/- Part. -/
import Derived.Test.YtoeibiahbenpcaaGreatDoorA42
namespace Go.Proofs.YtoeibiahbenpcaaGreatDoor
open RowKit Maps Proofs.Tryz
set_option linter.unusedVariables false
set_option maxRecDepth 99999
set_option maxHeartbeats 9000000
def zev(l:List Za)(i:Nat):Prop:=nmd (Zo ((l.getD i Za.nothing).cls::(l.getD i Za.nothing).W)) l.length=true/\z4e (zay l l.length) (2*((i:Int)+1))=true
def zm5(l:List Za)(fr:Int):Prop :=
 4<=l.length/\l.length<=2000/\(l.getD 3 Za.nothing).kind=1/\12<=(l.getD 3 Za.nothing).W.length/\yb fr=true/\Zz fr<=l.length/\zg8 l=false/\∀i,i<l.length->zev l i
open Classical in
noncomputable def gv(l:List Za)(fr:Int):Int:=if zm5 l fr then 0 else 180
theorem zon{l:List Za}{fr:Int}(h:zm5 l fr):gv l fr=0:=if_pos h
theorem zar{l:List Za}{fr:Int}(h:¬zm5 l fr):gv l fr=180:=if_neg h
def xf(w:World)(l:List Za)(fr:Int)(e:Ending)(w':World):Prop:=e=.returned (.int .i64 (gv l fr))/\Below w.heap.size w w'
theorem xf.no{w w':World}{l:List Za}{fr:Int}(h:Hid (gv l fr=180))(hb:Below w.heap.size w w'):xf w l fr (.returned (.int .i64 180)) w':=by
 refine⟨?_,hb⟩;rw[h.out]
theorem zjt(a:Option Addr)(n c:Nat)(l:List Za)(fr:Int)(w:World)(hG:Glb w)(h:yf w a n c l)(f0:-9223372036854775808<=fr)(f1:fr<=9223372036854775807) :
 Calls prog 27 #[.agg #[.slice a n c,.int .i64 fr]] w (xf w l fr):=by
 have D7:=h.len;obtain⟨q,hq⟩:=zx (w.heap.size);obtain⟨W1,B7⟩:=zx (w.alloc (.cells #[.slice a n c,.int .i64 fr] 24));have b1:Below w.heap.size w W1:=by rw[B7];exact zn (Below.refl _ _)
 have r1:Row W1 q 24 [.slice a n c,.int .i64 fr]:=by rw[B7,hq];exact Row.made w _ _
 have C7:=zh (λz=>jr fr z f0 f1);have HH:=zh h;have HG:=zh hG;have A9:=zh D7;have HQ:=zh hq;have B1:=zh B7;have A4:=zh b1;have B8:=zh r1;have A6:=h.cap;have I2:=A6.1;have I3:n<=9223372036854775807:=by have:=A6.2;unfold maxLen at this;omega
 clear h hG D7 hq B7 b1 r1 A6;by_cases h4:n<4
 ·have HE:Hid (gv l fr=180):=zar (λh=>by have:=h.1;have:=A9.out;omega);have t0:(n:Int)<4:=by omega
  clear h4;go_enter func27,ntmps27;go_wp2;go_step3;go_wp2
  (try rw[Exit.noGoto_ret])
  go_ret;refine xf.no HE ?_;rw[<-B1.out];exact A4
 ·by_cases D8:2000<n
  ·have HE:Hid (gv l fr=180):=zar (λh=>by have:=h.2.1;have:=A9.out;omega);have t0:¬((n:Int)<4):=by omega
   have t1:(n:Int) > 2000:=by omega
   clear h4 D8;go_enter func27,ntmps27;go_wp2;go_step3;go_wp2
   (try rw[Exit.noGoto_ret])
   go_ret;refine xf.no HE ?_;rw[<-B1.out];exact A4
  ·have t0:¬((n:Int)<4):=by omega
   have t1:¬((n:Int) > 2000):=by omega
   obtain⟨b,off,rfl,I4,A7,D9,A1⟩:=HH.out.get (k:=3) (by omega);obtain⟨d,hd⟩:=zx (l.getD 3 Za.nothing);rw[<-hd] at A7 D9 A1;unfold kq at A1;have x1:=A1 1 _ rfl;have x2:=A1 2 _ rfl;have E0:=A7.wl;have HD:=zh hd;have E1:=zh E0;have I5:n<=2000:=by omega
   have I6:4<=n:=by omega
   have I7:(3:Int)<(n:Int):=by omega
   clear A1 A7 D9 hd E0 h4 D8;by_cases A5:d.kind=1
   ·by_cases A8:d.wn<12
    ·have HE:Hid (gv l fr=180):=zar (λh=>by have:=h.2.2.2.1;rw[<-HD.out,<-E1.out] at this;omega);have t2:(d.wn:Int)<12:=by omega
     have t3:(d.kind != 1)=false:=by simp[A5]
     clear A8 A5;go_enter func27,ntmps27;go_wp2;go_step3;go_wp2
     (try rw[Exit.noGoto_ret])
     go_ret;refine xf.no HE ?_;rw[<-B1.out];exact A4
    ·have t2:¬((d.wn:Int)<12):=by omega
     have t3:(d.kind != 1)=false:=by simp[A5]
     have E2:=zh (And.intro A5 A8);clear A8 A5;go_enter func27,ntmps27;go_wp2;go_step3;go_wp2_with fail;rw[<-B1.out,<-HQ.out];obtain⟨nb,C8⟩:=zx (yb fr);obtain⟨nv,B0⟩:=zx (Zz fr);rw[<-C8,<-B0] at C7;have C9:=zh (And.intro C8 B0);clear C8 B0;refine(C7 _).mono ?_;rintro e w1 ⟨rfl,rfl⟩;have rq:=B8.cell (i:=0) rfl;have rq1:=B8.cell (i:=1) rfl;have rl:=B8.out.lt;clear x1 x2 t2 t3 C7;cases nb with
     | false =>
      have HE:Hid (gv l fr=180):=zar (λh=>by have:=h.2.2.2.2.1;rw[<-C9.out.1] at this;cases this);go_wp2
      (try rw[Exit.noGoto_ret])
      go_ret;exact xf.no HE A4
     | true =>
      by_cases B0:nv > (n:Int)
      ·have HE:Hid (gv l fr=180):=zar (λh=>by have h1:=h.2.2.2.2.2.1;rw[<-C9.out.2] at h1;have h2:=A9.out;omega);go_wp2
       (try rw[Exit.noGoto_ret])
       go_ret;exact xf.no HE A4
      ·have F6:=zh B0;have E3:=zh (zg5 W1);go_wp2_with fail;go_call E3 as e w2 ⟨m,mp,rfl,D0,B9⟩;have D1:=D0.lo;have F7:W1.heap.size<=m/\W1.heap.size<=mp:=⟨D1 m (by simp[fBl]),D1 mp (by simp[fBl])⟩;have E4:q∉[m,mp]:=λhm=>by simp at hm;omega
       have E5:LdF w w2 W1.heap.size m mp w2 (λ_=>none) 0 0:=by
        refine⟨⟨[],D0,rfl,λk hk=>.inl (by simpa[fBl] using hk)⟩,.of_below (Below.refl _ _),zy A4.out B9,B9.size,A4.out.size⟩
       have E6:=zh (zs9 (N:=Z5 l l.length) E5 (some ⟨b,off,none⟩) n c l HH.out (by omega) (Nat.le_refl _));have C0:=B8.out.keep (l:=[]) (.of_below B9) (by simp);have F8:=zh C0;have F9:=zh E4;clear rq rq1 rl;have rq:=C0.cell (i:=0) rfl;have rl:=C0.lt;clear D0 B9 D1 F7 E4 E5 C0 E3 B0;go_wp2_with fail;go_call E6 as e w4 G0;clear E6 rq rl;rcases G0 with⟨hb,rfl,hl⟩|⟨hb,rfl,hl⟩
       ·have HE:Hid (gv l fr=180):=zar (λh=>by have:=h.2.2.2.2.2.2.1;rw[hb] at this;cases this);have A2:=zh hl.args;clear hl hb;go_wp2
        (try rw[Exit.noGoto_ret])
        go_ret;exact xf.no HE A2
       ·obtain⟨Y,E7,E8,-⟩:=hl.mem;have D2:=F8.keep hl.upd F9;have rq:=D2.cell (i:=0) rfl;have rl:=D2.lt;have G1:=zh E7;have G2:=zh E8;have A2:=zh hl.args;have G3:=zh hb;have G4:=zh (zb4.1 hb)
        have G5:Hid ((∀i,i<n->zev l i)->gv l fr=0):=λh1=>zon (by
         have e1:=A9.out;have e2:=F6.out;have e3:=C9.out;refine⟨by omega,by omega,by rw[<-HD.out];exact E2.out.1,?_,e3.1.symm,by omega,G3.out,λi hi=>h1 i (by omega)⟩;have e4:=E2.out.2
         rw[<-HD.out,<-E1.out];omega)
        have G6:Hid (∀i,i<n->¬zev l i->gv l fr=180):=λi hi h1=>zar (λh=>h1 (h.2.2.2.2.2.2.2 i (by have:=A9.out;omega)))
        clear hl hb E7 E8 D2;go_wp2;go_step3;go_wp2;go_loopw [7,59] (λok i wr=>∃k:Nat,k<=n/\ok=.bool true/\i=.int .i64 k/\Hid (Below w4.heap.size w4 wr)/\Hid (∀i,i<k->zev l i)) (λ_ i _=>n-(intOf i).toNat)
        case atStart=>exact⟨0,Nat.zero_le _,rfl,rfl,Below.refl _ _,λi hi=>by omega⟩
        case round =>
         obtain⟨k,hk,rfl,rfl,B2,C1⟩:=hrel;clear rq rl;by_cases D3:k<n
         ·have E9:Below w.heap.size w wr:=A2.trans (B2.mono A2.size);obtain⟨b2,off2,hv,G7,C2,B3,A1⟩:=(HH.below E9).get D3;cases hv
          have B4:(l.getD k Za.nothing).wn<=1000:=by
           rw[C2.wl];rcases(G4.out _ B3).2 with⟨_,_,h2,_⟩|⟨_,h2,_⟩
           ·exact h2
           ·rw[h2];simp
          obtain⟨d2,D4⟩:=zx (l.getD k Za.nothing);rw[<-D4] at C2 A1 B4;unfold kq at A1;have x0:=A1 0 _ rfl;have x1:=A1 1 _ rfl;have x2:=A1 2 _ rfl;have x3:=A1 3 _ rfl;rw[Nat.add_zero] at x0;obtain⟨W5,D5⟩:=zx (wr.alloc (.cells #[.int .i64 d2.cls,.int .i64 d2.kind,.slice d2.wa d2.wn d2.wc,.slice d2.ba d2.bn d2.bc] 28));have b5:Below wr.heap.size wr W5:=by rw[D5];exact zn (Below.refl _ _)
          have C3:=zh (zye d2 n W5 (C2.below b5) (by omega));unfold Za.val at C3;have B5:=zh (λW (hW:Below w4.heap.size w4 W)=>zyf (G1.out.below hW) (HG.out.next (A2.out.trans (hW.mono A2.out.size))) (2*((k:Int)+1)) (by omega) (by omega));rw[G2.out] at B5
          have B6:zev l k↔(nmd (Zo (d2.cls::d2.W)) n=true/\z4e (zay l n) (2*((k:Int)+1))=true):=by
           unfold zev;rw[<-D4,<-A9.out]
          have A0:=zh B6;obtain⟨nm,F0⟩:=zx (nmd (Zo (d2.cls::d2.W)) n);obtain⟨cd,F1⟩:=zx (z4e (zay l n) (2*((k:Int)+1)));rw[<-F0] at C3 A0;rw[<-F1] at B5 A0;have F2:=zh (zy B2 b5);have G8:=zh D5;have G9:(k:Int)<(n:Int):=by omega
          have F3:za1 ((k:Int)+1)=2*((k:Int)+1):=jm (by omega);have C4:=zh (λz=>zhi ((k:Int)+1) z);rw[F3] at C4;clear E9 C2 B3 A1 B4 D4 D5 b5 B6 F0 F1 F3 B2
          have C5:Hid (zev l k->∀i,i<k+1->zev l i):=λh i hi=>by
           by_cases e:i=k
           ·subst e;exact h
           ·exact C1.out i (by omega)
          have A3:=zh (G6 k D3);clear C1;go_wp2_with fail;rw[<-G8.out];go_call C3 as e w6 ⟨rfl,F4⟩;have C6:=zh (zy F2 F4);clear F4 C3 F2 x0 x1 x2 x3;cases nm with
          | false =>
           have HE:Hid (gv l fr=180):=A3.out (λh=>by have:=(A0.out.1 h).1;cases this);clear A0 C5 A3 B5 C4;go_wp2
           (try rw[Exit.noGoto_ret])
           go_ret;exact xf.no HE (A2.trans (C6.mono A2.size))
          | true =>
           have F5:=zh (B5 w6 C6);clear B5;cases cd with
           | false =>
            have HE:Hid (gv l fr=180):=A3.out (λh=>by have:=(A0.out.1 h).2;cases this);clear A0 C5 A3
            go_wp2_with (first
             | (go_at_call 66;refine(C4 _).mono ?_;rintro e w7 ⟨rfl,rfl⟩)
             | (go_at_call 74;go_call F5 as e w8 ⟨rfl,D6⟩))
            (try rw[Exit.noGoto_ret])
            go_ret;exact xf.no HE (A2.trans ((zy C6 D6).mono A2.size))
           | true =>
            have I0:=zh (C5 (A0.out.2 ⟨rfl,rfl⟩));clear A0 C5 A3
            go_wp2_with (first
             | (go_at_call 66;refine(C4 _).mono ?_;rintro e w7 ⟨rfl,rfl⟩)
             | (go_at_call 74;go_call F5 as e w8 ⟨rfl,D6⟩))
            go_roundw
            case rel=>exact⟨k+1,by omega,rfl,by go_num,zy C6.out D6,I0.out⟩
            case measure=>simp[intOf];omega
         ·obtain rfl:k=n:=by omega
          have HE:=zh (G5 C1);have I1:=zh (A2.trans (B2.mono A2.size));clear D3 C1 B2;go_wp2
          (try rw[Exit.noGoto_ret])
          go_ret;exact⟨by rw[HE.out];rfl,I1.out⟩
   ·have HE:Hid (gv l fr=180):=zar (λh=>by have:=h.2.2.1;rw[<-HD.out] at this;exact A5 this);have t3:(d.kind != 1)=true:=by simp[A5]
    clear A5;go_enter func27,ntmps27;go_wp2;go_step3;go_wp2
    (try rw[Exit.noGoto_ret])
    go_ret;refine xf.no HE ?_;rw[<-B1.out];exact A4
theorem z1s{w:World}{base n:Nat}{v:Value}{l:List Int}(h:w.ownsRow base 3 1 v n (l.map (Value.int .i64)))(hn:n=l.length)(hm:n<=1000000) :
 Calls prog 107 #[v] w λe w'=>e=.returned (.tuple #[])/\w'.ownsRow base 3 1 v n ((l.mergeSort (λx y=>decide (x<=y))).map (Value.int .i64))/\w.grownBy w' v.ownBlock:=by
 subst hn;rcases h.2 with⟨rfl,hz⟩|⟨gb,cap,cur,rfl,A0,A1,r1,r2,r3,r4⟩
 ·have A2:l=[]:=List.eq_nil_of_length_eq_zero hz;subst A2;refine(AnyM.slices_Sort_int_none zwv none 0 w).mono ?_;rintro e w' ⟨rfl,rfl⟩;exact⟨rfl,by simpa using h,.refl _ _⟩
 ·have A3:gb<w.heap.size:=(Array.getElem?_eq_some_iff.1 A1).1;refine(AnyM.slices_Sort_int zwv gb 0 cap l w (holds_of_block_i A1 (by simpa using r4)) A3 (by omega)).mono ?_;rintro e w' ⟨rfl,nn,os,rfl⟩;exact⟨rfl,ownsRow_sorted_i (by simp) A0 A1 r1 r2 r3,grownBy_sorted_i _⟩
def yk(A:Nat->Option Ob)(x:Nat):List Int:=((List.range (x+1)).filter (λk=>decide (0<k) && (A k).isSome)).map (λ(k:Nat)=>2*(k:Int))
theorem zdb(A:Nat->Option Ob):yk A 0=[]:=by
 unfold yk;simp
theorem zks(A:Nat->Option Ob)(x:Nat):yk A (x+1)=yk A x++if (A (x+1)).isSome then [2*(((x+1:Nat)):Int)] else []:=by
 unfold yk;rw[List.range_succ,List.filter_append,List.map_append];congr 1;by_cases h:(A (x+1)).isSome<;>simp[h]
theorem zdd(A:Nat->Option Ob){x y:Nat}(A0:x<=y)(h:∀j,x<j->j<=y->A j=none):yk A y=yk A x:=by
 induction y with
 | zero =>
  obtain rfl:x=0:=by omega
  rfl
 | succ y ih =>
  by_cases e:x=y+1
  ·subst e;rfl
  ·rw[zks,h (y+1) (by omega) (by omega),ih (by omega) (λj h1 h2=>h j h1 (by omega))];simp
theorem zdc(A:Nat->Option Ob){x k:Nat}(hx:x<k)(hk:(A k).isSome=true)(h:∀j,x<j->j<k->A j=none):yk A k=yk A x++[2*(k:Int)]:=by
 cases k with
 | zero=>omega
 | succ k =>
  rw[zks,if_pos hk,zdd A (x:=x) (by omega) (λj h1 h2=>h j h1 (by omega))]
theorem zip(A:Nat->Option Ob)(x:Nat):(yk A x).length<=x+1:=by
 unfold yk;rw[List.length_map];have:=List.length_filter_le (λk=>decide (0<k) && (A k).isSome) (List.range (x+1));simpa using this
theorem zfb(A:Nat->Option Ob)(made x:Nat):(∃k,nxA A made x=some k/\x<k/\k<=made/\(A k).isSome=true/\∀j,x<j->j<k->A j=none)\/(nxA A made x=none/\∀j,x<j->j<=made->A j=none):=by
 cases hn:nxA A made x with
 | some k =>
  unfold nxA at hn;rw[List.find?_range_eq_some] at hn;obtain⟨h1,h2,h3⟩:=hn;simp only[Bool.and_eq_true,decide_eq_true_eq] at h1;refine .inl ⟨k,rfl,by omega,by have:=List.mem_range.1 h2;omega,h1.2,λj A1 A0=>?_⟩;have:=h3 j A0;simp only[Bool.not_eq_true',Bool.and_eq_false_iff,decide_eq_false_iff_not] at this;rcases this with h4|h4
  ·omega
  ·cases ha:A j with
   | none=>rfl
   | some o=>rw[ha] at h4;cases h4
 | none =>
  unfold nxA at hn;rw[List.find?_eq_none] at hn;refine .inr ⟨rfl,λj A1 A0=>?_⟩;have:=hn j (List.mem_range.2 (by omega));cases ha:A j with
  | none=>rfl
  | some o=>rw[ha] at this;simp at this;omega
def z3c:Value->Bool | .bool b=>b|_=>false
def zpp(w:World)(l:List Int)(e:Ending)(w':World):Prop:=∃v,e=.returned v/\w'.ownsRow w.heap.size 3 1 v l.length (l.map (Value.int .i64))/\Below w.heap.size w w'
section
variable{wA w0 w w':World}{base m mp made U N:Nat}{Y:List FE}
theorem z43(H:yc w base m mp Y made):Calls prog 13 #[.iface 34 (.pointer (some ⟨m,0,none⟩))] w (zpp w (yk (zt (fTb Y)) made)):=by
 have C6:=H.few;have A7:=zh (λW (hW:Below w.heap.size w W) o b0 b1=>z17 (H.below hW) o b0 b1);obtain⟨A,hA⟩:=zx (zt (fTb Y));rw[<-hA] at A7 ⊢;clear H hA;have A8:=zh (A7.out w (Below.refl _ _) 0 (by decide) (by decide));rw[show Zz 0=((0:Nat):Int) from rfl] at A8;go_enter func13,ntmps13;go_wp2_with fail;go_call A8 as e w1 ⟨rfl,B6⟩;have B7:=zh B6;have A9:=zh (zfb A made 0);clear B6 A8;rcases A9.out with⟨k0,A2,B8,C4,B9,A3⟩|⟨A2,A3⟩
 ·have A4:za1 (k0:Int)=2*(k0:Int):=jm (by omega);rw[A2];simp only[nxV];rw[A4];have A6:Hid (yk A k0=yk A 0++[2*(k0:Int)]):=zdc A B8 B9 A3;clear A2 B9 A3 A4 A9;go_wp2;go_loopw [3,4,5] (λv o ok wr=>∃(x:Nat) (b:Bool),x<=made/\ok=.bool b/\Hid (wr.ownsRow w.heap.size 3 1 v (yk A x).length ((yk A x).map (Value.int .i64)))/\Hid (Below w.heap.size w wr)/\((b=true/\∃k:Nat,o=.int .i64 (2*(k:Int))/\x<k/\k<=made/\Hid (yk A k=yk A x++[2*(k:Int)]))\/(b=false/\Hid (yk A made=yk A x)))) (λ_ o ok _=>if z3c ok then made+1-(intOf o).toNat / 2 else 0)
  case atStart=>exact⟨0,true,Nat.zero_le _,rfl,by rw[zdb];exact World.ownsRow_nil _ _ _ _,B7,.inl ⟨rfl,k0,rfl,B8,C4,A6⟩⟩
  case round =>
   obtain⟨x,b,hx,rfl,HO,HB,C5⟩:=hrel;rcases C5 with⟨rfl,k,rfl,C7,B0,HP⟩|⟨rfl,HP⟩
   ·have A5:∀u∈[Value.int .i64 (2*(k:Int))],u.oneCell'=true:=λu hu=>by simp at hu;subst hu;rfl
    have C0:=zip A x;have hbs:w.heap.size<=wr.heap.size:=HB.out.size;obtain⟨n,hn⟩:=zx ((yk A x).length);rw[<-hn] at HO C0;have HN:=zh hn;have C8:n<=200000:=by omega
    have C1:Zz (2*(k:Int))=(k:Int):=by rw[kh (by omega)];omega
    have C2:=zh C1;clear hn C0 C1 A6;go_wp2_with (at_builtin;refine Zb rfl _ _ 25 rfl w.heap.size 3 (.int .i64 0) 1 8 underlying25 Zx rfl (by decide) _ n _ rfl (HO.out.alloc _) _ 1 1 [.int .i64 (2*(k:Int))] rfl rfl (zv.madeAt rfl) A5 (by unfold maxLen;omega) (by omega) (Nat.le_trans hbs (by simp)) ?_);intro v4 w4 own4 gr4;have B1:Hid (Below w.heap.size w w4):=(zn HB.out).grown gr4 (Nat.le_trans hbs (by simp)) (λg hg=>(HO.out.lt g hg).1)
    have C3:Hid (w4.ownsRow w.heap.size 3 1 v4 (yk A k).length ((yk A k).map (Value.int .i64))):=by
     unfold Hid;rw[HP.out,List.length_append,List.length_singleton,<-HN.out,List.map_append];exact own4
    have A0:=zh (A7.out w4 B1.out (2*(k:Int)) (by omega) (by omega));rw[C2.out] at A0;have B2:=zh (zfb A made k);clear own4 gr4 A5 hbs HO HB C2;rcases B2.out with⟨k2,e0,e1,e2,e3,e4⟩|⟨e0,e4⟩
    ·have A4:za1 (k2:Int)=2*(k2:Int):=jm (by omega);rw[e0] at A0;simp only[nxV] at A0;rw[A4] at A0;have B3:Hid (yk A k2=yk A k++[2*(k2:Int)]):=zdc A e1 e3 e4;clear e0 e3 e4 A4 B2;go_wp2_with fail;go_call A0 as e w5 ⟨rfl,A1⟩;have B4:=zh (zy B1 A1);have B5:=zh ((Upd.of_below (l:=[]) A1).ownsAbove C3.out (by simp));clear A1;go_wp2;go_roundw
     case rel=>exact⟨k,true,B0,rfl,B5,B4,.inl ⟨rfl,k2,rfl,e1,e2,B3⟩⟩
     case measure=>simp[intOf,z3c];omega
    ·rw[e0] at A0;simp only[nxV] at A0;have B3:Hid (yk A made=yk A k):=zdd A B0 e4;clear e0 e4 B2;go_wp2_with fail;go_call A0 as e w5 ⟨rfl,A1⟩;have B4:=zh (zy B1 A1);have B5:=zh ((Upd.of_below (l:=[]) A1).ownsAbove C3.out (by simp));clear A1;go_wp2;go_roundw
     case rel=>exact⟨k,false,B0,rfl,B5,B4,.inr ⟨rfl,B3⟩⟩
     case measure=>simp[intOf,z3c];omega
   ·go_wp2;go_ret;exact⟨_,rfl,by rw[HP.out];exact HO,HB⟩
 ·rw[A2];simp only[nxV];have A6:Hid (yk A made=[]):=by unfold Hid;rw[zdd A (Nat.zero_le _) A3,zdb]
  clear A2 A3 A9;go_wp2;go_loopw [3,5] (λv ok wr=>v=.slice none 0 0/\ok=.bool false/\Hid (Below w.heap.size w wr)) (λ_ _ _=>0)
  case atStart=>exact⟨rfl,rfl,B7⟩
  case round =>
   obtain⟨rfl,rfl,HB⟩:=hrel;go_wp2;go_ret;exact⟨_,rfl,by rw[A6.out];exact World.ownsRow_nil _ _ _ _,HB⟩
theorem zqg(H:LdF wA w0 base m mp w (λ_=>none) 0 0)(hG:Glb w)(a:Option Addr)(n c:Nat)(l:List Za)(fr:Int)(HA:yf wA a n c l)(f0:-9223372036854775808<=fr)(f1:fr<=9223372036854775807)(hU:gv l fr=0->Z5 l l.length<=N) :
 Calls prog 7 #[.iface 34 (.pointer (some ⟨m,0,none⟩)),.agg #[.slice a n c,.int .i64 fr]] w λe w'=>(gv l fr≠0/\zpl wA w0 base m mp (λ_=>none) 0 0 (.int .i64 (gv l fr)) e w')\/(gv l fr=0/\zpl wA w0 base m mp (zay l n) n (Z5 l n) (.int .i64 0) e w'):=by
 obtain⟨q,hq⟩:=zx (w.heap.size);obtain⟨W1,A0⟩:=zx (w.alloc (.cells #[.slice a n c,.int .i64 fr] 24));have b1:Below w.heap.size w W1:=by rw[A0];exact zn (Below.refl _ _)
 have r1:Row W1 q 24 [.slice a n c,.int .i64 fr]:=by rw[A0,hq];exact Row.made w _ _
 have A3:=zh (zjt a n c l fr W1 (hG.next b1) ((HA.below H.args).below b1) f0 f1);have H1:=zh (H.below b1);have A4:=zh r1;have A5:=zh A0;have HQ:=zh hq;have A8:=zh HA;have A9:=zh HA.len;clear hq A0 r1 b1 H HA hG;go_enter func7,ntmps7;go_wp2_with fail;rw[<-A5.out,<-HQ.out];go_call A3 as e w2 ⟨rfl,A1⟩;have A6:=zh (A4.out.keep (l:=[]) (.of_below A1) (by simp));have H2:=zh (H1.below A1);have rq:=A6.cell (i:=0) rfl;have rl:=A6.out.lt;clear A1 A3 A4 H1 A5;by_cases he:gv l fr=0
 ·have A2:zm5 l fr:=by
   unfold gv at he;split at he
   ·assumption
   ·cases he
  have B0:=zh (zs9 (N:=N) H2.out a n c l A8.out (by have:=A2.2.1;have:=A9.out;omega) (hU he));have B1:zg8 l=false:=A2.2.2.2.2.2.2.1;rw[he];have HE:=zh he;clear he A2;go_wp2_with fail;go_call B0 as e w3 B2;rcases B2 with⟨hb,-⟩|⟨-,rfl,hl⟩
  ·rw[B1] at hb;cases hb
  ·go_wp2;go_ret;exact .inr ⟨HE,rfl,hl⟩
 ·obtain⟨x,hx⟩:=zx (gv l fr);rw[<-hx] at he ⊢;have B3:(x != 0)=true:=bne_iff_ne.2 he;have HX:=zh he;have A7:=zh hx;clear hx he;go_wp2;go_ret;exact .inl ⟨by rw[<-A7.out];exact HX.out,by rw[<-A7.out];rfl,H2.out⟩
end
section
variable{wA w0 w w':World}{J:LmI}{K NW N made U:Nat}{S:Lm}{A:Nat->Option Ob}{T:Tb}{F:Nat->Nat}
theorem z4y(H:Zh w J K NW N S A [] (λ_=>False) (λ_=>False) T made U F 0)(C6:made<=100000):Calls prog 13 #[.iface 30 (.pointer (some ⟨J.m,0,none⟩))] w (zpp w (yk A made)):=by
 have B5:=zh (λW (hW:Below w.heap.size w W) o b0 b1=>z1x (H.below hW) o b0 b1);clear H;have A7:=zh (B5.out w (Below.refl _ _) 0 (by decide) (by decide));rw[show Zz 0=((0:Nat):Int) from rfl] at A7;go_enter func13,ntmps13;go_wp2_with fail;go_call A7 as e w1 ⟨rfl,B6⟩;have B7:=zh B6;have A8:=zh (zfb A made 0);clear B6 A7;rcases A8.out with⟨k0,A2,B8,C4,B9,A3⟩|⟨A2,A3⟩
 ·have A4:za1 (k0:Int)=2*(k0:Int):=jm (by omega);rw[A2];simp only[nxV];rw[A4];have A6:Hid (yk A k0=yk A 0++[2*(k0:Int)]):=zdc A B8 B9 A3;clear A2 B9 A3 A4 A8;go_wp2;go_loopw [3,4,5] (λv o ok wr=>∃(x:Nat) (b:Bool),x<=made/\ok=.bool b/\Hid (wr.ownsRow w.heap.size 3 1 v (yk A x).length ((yk A x).map (Value.int .i64)))/\Hid (Below w.heap.size w wr)/\((b=true/\∃k:Nat,o=.int .i64 (2*(k:Int))/\x<k/\k<=made/\Hid (yk A k=yk A x++[2*(k:Int)]))\/(b=false/\Hid (yk A made=yk A x)))) (λ_ o ok _=>if z3c ok then made+1-(intOf o).toNat / 2 else 0)
  case atStart=>exact⟨0,true,Nat.zero_le _,rfl,by rw[zdb];exact World.ownsRow_nil _ _ _ _,B7,.inl ⟨rfl,k0,rfl,B8,C4,A6⟩⟩
  case round =>
   obtain⟨x,b,hx,rfl,HO,HB,C5⟩:=hrel;rcases C5 with⟨rfl,k,rfl,C7,A9,HP⟩|⟨rfl,HP⟩
   ·have A5:∀u∈[Value.int .i64 (2*(k:Int))],u.oneCell'=true:=λu hu=>by simp at hu;subst hu;rfl
    have C0:=zip A x;have hbs:w.heap.size<=wr.heap.size:=HB.out.size;obtain⟨n,hn⟩:=zx ((yk A x).length);rw[<-hn] at HO C0;have HN:=zh hn;have C8:n<=200000:=by omega
    have C1:Zz (2*(k:Int))=(k:Int):=by rw[kh (by omega)];omega
    have C2:=zh C1;clear hn C0 C1 A6;go_wp2_with (at_builtin;refine Zb rfl _ _ 25 rfl w.heap.size 3 (.int .i64 0) 1 8 underlying25 Zx rfl (by decide) _ n _ rfl (HO.out.alloc _) _ 1 1 [.int .i64 (2*(k:Int))] rfl rfl (zv.madeAt rfl) A5 (by unfold maxLen;omega) (by omega) (Nat.le_trans hbs (by simp)) ?_);intro v4 w4 own4 gr4;have B0:Hid (Below w.heap.size w w4):=(zn HB.out).grown gr4 (Nat.le_trans hbs (by simp)) (λg hg=>(HO.out.lt g hg).1)
    have C3:Hid (w4.ownsRow w.heap.size 3 1 v4 (yk A k).length ((yk A k).map (Value.int .i64))):=by
     unfold Hid;rw[HP.out,List.length_append,List.length_singleton,<-HN.out,List.map_append];exact own4
    have A0:=zh (B5.out w4 B0.out (2*(k:Int)) (by omega) (by omega));rw[C2.out] at A0;have B1:=zh (zfb A made k);clear own4 gr4 A5 hbs HO HB C2;rcases B1.out with⟨k2,e0,e1,e2,e3,e4⟩|⟨e0,e4⟩
    ·have A4:za1 (k2:Int)=2*(k2:Int):=jm (by omega);rw[e0] at A0;simp only[nxV] at A0;rw[A4] at A0;have B2:Hid (yk A k2=yk A k++[2*(k2:Int)]):=zdc A e1 e3 e4;clear e0 e3 e4 A4 B1;go_wp2_with fail;go_call A0 as e w5 ⟨rfl,A1⟩;have B3:=zh (zy B0 A1);have B4:=zh ((Upd.of_below (l:=[]) A1).ownsAbove C3.out (by simp));clear A1;go_wp2;go_roundw
     case rel=>exact⟨k,true,A9,rfl,B4,B3,.inl ⟨rfl,k2,rfl,e1,e2,B2⟩⟩
     case measure=>simp[intOf,z3c];omega
    ·rw[e0] at A0;simp only[nxV] at A0;have B2:Hid (yk A made=yk A k):=zdd A A9 e4;clear e0 e4 B1;go_wp2_with fail;go_call A0 as e w5 ⟨rfl,A1⟩;have B3:=zh (zy B0 A1);have B4:=zh ((Upd.of_below (l:=[]) A1).ownsAbove C3.out (by simp));clear A1;go_wp2;go_roundw
     case rel=>exact⟨k,false,A9,rfl,B4,B3,.inr ⟨rfl,B2⟩⟩
     case measure=>simp[intOf,z3c];omega
   ·go_wp2;go_ret;exact⟨_,rfl,by rw[HP.out];exact HO,HB⟩
 ·rw[A2];simp only[nxV];have A6:Hid (yk A made=[]):=by unfold Hid;rw[zdd A (Nat.zero_le _) A3,zdb]
  clear A2 A3 A8;go_wp2;go_loopw [3,5] (λv ok wr=>v=.slice none 0 0/\ok=.bool false/\Hid (Below w.heap.size w wr)) (λ_ _ _=>0)
  case atStart=>exact⟨rfl,rfl,B7⟩
  case round =>
   obtain⟨rfl,rfl,HB⟩:=hrel;go_wp2;go_ret;exact⟨_,rfl,by rw[A6.out];exact World.ownsRow_nil _ _ _ _,HB⟩
theorem zqe(H:LdL wA w0 J K NW N w (λ_=>none) 0 0)(hG:Glb w)(a:Option Addr)(n c:Nat)(l:List Za)(fr:Int)(HA:yf wA a n c l)(f0:-9223372036854775808<=fr)(f1:fr<=9223372036854775807)(hU:gv l fr=0->Z5 l l.length<=N) :
 Calls prog 7 #[.iface 30 (.pointer (some ⟨J.m,0,none⟩)),.agg #[.slice a n c,.int .i64 fr]] w λe w'=>(gv l fr≠0/\zpk wA w0 J K NW N (λ_=>none) 0 0 (.int .i64 (gv l fr)) e w')\/(gv l fr=0/\zpk wA w0 J K NW N (zay l n) n (Z5 l n) (.int .i64 0) e w'):=by
 obtain⟨q,hq⟩:=zx (w.heap.size);obtain⟨W1,A0⟩:=zx (w.alloc (.cells #[.slice a n c,.int .i64 fr] 24));have b1:Below w.heap.size w W1:=by rw[A0];exact zn (Below.refl _ _)
 have r1:Row W1 q 24 [.slice a n c,.int .i64 fr]:=by rw[A0,hq];exact Row.made w _ _
 have A3:=zh (zjt a n c l fr W1 (hG.next b1) ((HA.below H.args).below b1) f0 f1);have H1:=zh (H.below b1);have A4:=zh r1;have A5:=zh A0;have HQ:=zh hq;have A8:=zh HA;have A9:=zh HA.len;clear hq A0 r1 b1 H HA hG;go_enter func7,ntmps7;go_wp2_with fail;rw[<-A5.out,<-HQ.out];go_call A3 as e w2 ⟨rfl,A1⟩;have A6:=zh (A4.out.keep (l:=[]) (.of_below A1) (by simp));have H2:=zh (H1.below A1);have rq:=A6.cell (i:=0) rfl;have rl:=A6.out.lt;clear A1 A3 A4 H1 A5;by_cases he:gv l fr=0
 ·have A2:zm5 l fr:=by
   unfold gv at he;split at he
   ·assumption
   ·cases he
  have B0:=zh (z0p H2.out a n c l A8.out (by have:=A2.2.1;have:=A9.out;omega) (hU he));have B1:zg8 l=false:=A2.2.2.2.2.2.2.1;rw[he];have HE:=zh he;clear he A2;go_wp2_with fail;go_call B0 as e w3 B2;rcases B2 with⟨hb,-⟩|⟨-,rfl,hl⟩
  ·rw[B1] at hb;cases hb
  ·go_wp2;go_ret;exact .inr ⟨HE,rfl,hl⟩
 ·obtain⟨x,hx⟩:=zx (gv l fr);rw[<-hx] at he ⊢;have B3:(x != 0)=true:=bne_iff_ne.2 he;have HX:=zh he;have A7:=zh hx;clear hx he;go_wp2;go_ret;exact .inl ⟨by rw[<-A7.out];exact HX.out,by rw[<-A7.out];rfl,H2.out⟩
end
end Go.Proofs.YtoeibiahbenpcaaGreatDoor
