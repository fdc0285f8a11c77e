/- Part. -/
import Derived.Test.YtoeibiahbenpcaaGreatDoorA32
namespace Go.Proofs.YtoeibiahbenpcaaGreatDoor
open RowKit Maps Proofs.Tryz
set_option linter.unusedVariables false
set_option maxRecDepth 99999
set_option maxHeartbeats 9000000
theorem z4m(x:Int)(w:World):Calls prog 138 #[.int .i64 x] w λe w'=>e=.returned (.bool false)/\w=w':=by
 have h:(x != x)=false:=by simp
 go_enter func138,ntmps138;go_wp2;go_ret;exact⟨by simp,rfl⟩
theorem z4j(x:Int)(w:World):Calls prog 96 #[.int .i64 x] w λe w'=>e=.returned (.bool false)/\w=w':=by
 have h:(x != x)=false:=by simp
 go_enter func96,ntmps96;go_wp2;go_ret;exact⟨by simp,rfl⟩
theorem z1n(x y:Int)(w:World):Calls prog 95 #[.int .i64 x,.int .i64 y] w λe w'=>e=.returned (.bool (decide (x<y)))/\w=w':=by
 have H1:=zh (z4m x w);go_enter func95,ntmps95;go_wp2_with fail;go_call H1 as e w' ⟨rfl,rfl⟩;go_wp2;go_ret;exact⟨by simp,rfl⟩
theorem zns(a:Option Addr)(n c:Nat)(xs:List Int)(x:Int)(w:World)(hn:n=xs.length)(hr:zv w a c (xs.map (Value.int .i64)))(hm:n<=1000000)(hp:xs.Pairwise (λa b=>a<b)) :
 Calls prog 45 #[.slice a n c,.int .i64 x] w λe w'=>∃k:Int,e=.returned (.tuple #[.int .i64 k,.bool (decide (x∈xs))])/\w=w':=by
 have HL:=zh (λy=>z1n y x w);have HN:=zh (λy=>z4j y w);have HR:=zh hr
 have HP:Hid (∀i j,i<j->j<n->xs.getD i 0<xs.getD j 0):=λi j A9 hj=>by
  have:=List.pairwise_iff_getElem.1 hp i j (by omega) (by omega) A9;simp only[List.getD_eq_getElem?_getD];rw[ze (by omega),ze (by omega)];exact this
 have A3:=zh hn;clear hr hp hn;go_enter func45,ntmps45;go_wp2;go_loopw [7,8] (λu v wr=>∃i j:Nat,u=.int .i64 i/\v=.int .i64 j/\i<=j/\j<=n/\wr=w/\Hid (∀t,t<i->xs.getD t 0<x)/\Hid (∀t,j<=t->t<n->x<=xs.getD t 0)) (λu v _=>(intOf v).toNat-(intOf u).toNat)
 case atStart=>exact⟨0,n,rfl,rfl,Nat.zero_le _,Nat.le_refl _,rfl,λt ht=>by omega,λt h1 h2=>by omega⟩
 case round =>
  obtain⟨i,j,rfl,rfl,A9,hj,rfl,HA,HB⟩:=hrel;by_cases B4:i<j
  ·have A6:(i:Int)<(j:Int):=by omega
   obtain⟨b,off,rfl,A7,A4⟩:=HR.out.at (by simp;have:=A3.out;omega);obtain⟨h,hh⟩:=zx ((i+j) / 2);have B5:((i:Int)+(j:Int)) / 2=(h:Int):=by omega
   have B1:h<n:=by omega
   obtain⟨y,hy⟩:=zx (xs.getD h 0);have A5:=A4 h (.int .i64 y) (by rw[hy];exact zr (by have:=A3.out;omega));have HY:=zh hy;have HH:=zh hh;clear A4 hy hh;go_wp2_with fail;refine(HL _).mono ?_;rintro e w' ⟨rfl,rfl⟩;by_cases A0:y<x
   ·have hd:decide (y<x)=true:=decide_eq_true A0;rw[hd];clear hd;go_wp2;go_roundw
    case rel=>exact⟨h+1,j,by go_num,rfl,by have:=HH.out;omega,hj,by first|rfl|trivial,λt ht=>by
     by_cases e:t=h
     ·subst e;rw[<-HY.out];exact A0
     ·have:=HP.out t h (by omega) B1
      rw[<-HY.out] at this;omega,HB.out⟩
    case measure=>simp[intOf];have:=HH.out;omega
   ·have hd:decide (y<x)=false:=decide_eq_false A0;rw[hd];clear hd;go_wp2;go_roundw
    case rel=>exact⟨i,h,rfl,rfl,by have:=HH.out;omega,by omega,by first|rfl|trivial,HA.out,λt h1 h2=>by
     by_cases e:t=h
     ·subst e;rw[<-HY.out];omega
     ·have:=HP.out h t (by omega) h2
      rw[<-HY.out] at this;omega⟩
    case measure=>simp[intOf];have:=HH.out;omega
  ·obtain rfl:i=j:=by omega
   have A6:¬((i:Int)<(i:Int)):=by omega
   by_cases B0:i<n
   ·have B2:(i:Int)<(n:Int):=by omega
    obtain⟨b,off,rfl,A7,A4⟩:=HR.out.at (by simp;have:=A3.out;omega);obtain⟨y,hy⟩:=zx (xs.getD i 0);have A5:=A4 i (.int .i64 y) (by rw[hy];exact zr (by have:=A3.out;omega));have A8:=HB i (Nat.le_refl _) B0;rw[<-hy] at A8;by_cases A0:y=x
    ·have A1:decide (x∈xs)=true:=decide_eq_true (by
      rw[<-A0,hy,zg,ze (by have:=A3.out;omega)]
      exact List.getElem_mem _)
     have A2:=zh A1;have B3:(y == x)=true:=by simpa using A0
     clear A4 hy A8 A1 A0;go_wp2;go_ret2
     first|exact⟨_,by rw[A2.out];rfl,rfl⟩|exact⟨⟨_,by rw[A2.out];rfl⟩,rfl⟩
    ·have A1:decide (x∈xs)=false:=decide_eq_false (λhm=>by
      obtain⟨t,ht,he⟩:=List.getElem_of_mem hm;have hg:xs.getD t 0=x:=by rw[zg,ze ht];exact he
      by_cases h1:t<i
      ·have:=HA.out t h1;omega
      ·by_cases h2:t=i
       ·subst h2;rw[<-hy] at hg;exact A0 hg
       ·have:=HP.out i t (by omega) (by have:=A3.out;omega)
        rw[<-hy] at this;omega)
     have A2:=zh A1;have B3:(y == x)=false:=by simpa using A0
     clear A4 hy A8 A1 A0;go_wp2_with fail;refine(HN _).mono ?_;rintro e w' ⟨rfl,rfl⟩;go_wp2;go_ret2
     first|exact⟨_,by rw[A2.out];rfl,rfl⟩|exact⟨⟨_,by rw[A2.out];rfl⟩,rfl⟩
   ·obtain rfl:i=n:=by omega
    have A1:decide (x∈xs)=false:=decide_eq_false (λhm=>by
     obtain⟨t,ht,he⟩:=List.getElem_of_mem hm;have hg:xs.getD t 0=x:=by rw[zg,ze ht];exact he
     have:=HA.out t (by have:=A3.out;omega)
     omega)
    have A2:=zh A1;clear B0 A1;go_wp2;go_ret2
    first|exact⟨_,by rw[A2.out];rfl,rfl⟩|exact⟨⟨_,by rw[A2.out];rfl⟩,rfl⟩
open Classical in
noncomputable def zcz(X:Tb)(roots:List Int)(i:Int):Bool:=decide (Reach X roots i)
theorem zda{X:Tb}{roots:List Int}{i:Int}:zcz X roots i=true↔Reach X roots i:=by unfold zcz;simp
noncomputable def zfi(X:Tb)(roots:List Int):Tb:=X.filter (λp=>zcz X roots (p.1:Int))
noncomputable def zcp(X:Tb)(roots:List Int):List Int:=(xh X).filter (λi=>!zcz X roots i)
theorem zgm{X:Tb}{roots:List Int}{x:Int}:x∈zcp X roots↔x∈xh X/\zcz X roots x=false:=by
 unfold zcp;rw[List.mem_filter];simp
theorem zi9{X:Tb}{x:Int}:x∈xh X↔∃p∈X,(p.1:Int)=x:=by
 unfold xh;rw[List.mem_map]
theorem zqj{X:Tb}(hr:qm X):(xh X).Nodup:=by
 unfold xh;refine List.Pairwise.map _ ?_ hr;intro p q h;omega
theorem zt8{X:Tb}{roots:List Int}:zds X (zcp X roots)=zfi X roots:=by
 unfold zds zfi;refine List.filter_congr (λp hp=>?_);have h1:(p.1:Int)∈xh X:=zi9.2 ⟨p,hp,rfl⟩;cases hb:zcz X roots (p.1:Int) with
 | true =>
  have:¬(p.1:Int)∈zcp X roots:=λh=>by have:=(zgm.1 h).2;rw[hb] at this;cases this
  simp[this]
 | false =>
  have:(p.1:Int)∈zcp X roots:=zgm.2 ⟨h1,hb⟩;simp[this]
theorem ztq{X:Tb}{roots:List Int}{k:Nat}(hk:k<(xh X).length):((xh X).take (k+1)).filter (λi=>!zcz X roots i)=((xh X).take k).filter (λi=>!zcz X roots i)++if zcz X roots ((xh X).getD k 0) then [] else [(xh X).getD k 0]:=by
 rw[List.take_add_one,ze hk,List.filter_append];congr 1;rw[zg,ze hk];show List.filter _ [_]=_
 by_cases h:zcz X roots (xh X)[k]=true
 ·simp[h]
 ·simp[h]
section
variable{w:World}{J:LmI}{K NW N:Nat}{S:Lm}{A:Nat->Option Ob}{ex:List Int}{pe bl:Nat->Prop}{T:Tb}{made U:Nat}{F:Nat->Nat}{busy:Nat}
structure Bkd(S S':Lm)(A:Nat->Option Ob):Prop where
 id:∀t,(S'.sl t).id=(S.sl t).id
 res:∀t,(S'.sl t).res.isSome=(S.sl t).res.isSome
 dk:∀i,S.dk i=A i->S'.dk i=A i
theorem zhd.bkd{S1:Lm}{s:Nat}{r:Rs}(h:zhd S S1 A s r)(hr:(S.sl s).res=some r):Bkd S S1 A:=by
 have m:=h.mid;refine⟨m.id,λt=>?_,m.dko⟩;by_cases e:t=s
 ·subst e;rw[m.sl,hr];rfl
 ·rw[m.ot t e]
def zwb(w:World)(J:LmI)(K NW N:Nat)(X:Tb)(made U:Nat)(F:Nat->Nat)(rs:List Int)(e:Ending)(w':World):Prop :=
 LU J w w'/\e=.returned (.tuple #[.int .i64 (zcp X rs).length,.int .i64 0])/\∃S' T',Zh w' J K NW N S' (zt (zfi X rs)) [] (λ_=>False) (λ_=>False) T' made U F 0
theorem zib{X:Tb}(hX:qm X)(H:Zh w J K NW N S (zt X) [] (λ_=>False) (λ_=>False) T made U F 0)(hm:made<=100000)(a:Option Addr)(n c:Nat)(l:List Int)(hn:n=l.length)(hr:zv w a c (l.map (Value.int .i64)))(Q0:n<=1000)(hl:I64 l) :
 Calls prog 11 #[.pointer (some ⟨J.m,0,none⟩),.slice a n c] w (zwb w J K NW N X made U F (l.map Zz)):=by
 have HH:=zh H;have HR:=zh hr;have HI:=zh hl;have HN:=zh hn;have E3:=zh hX;have ml:=H.P.head.lt;have hK:=H.ks;obtain⟨ids,B0⟩:=zx (l.map Zz);have J8:=zh B0;have Q1:ids.length=n:=by rw[B0,List.length_map];exact hn.symm
 rw[<-B0];clear H hr hl hn hX B0;go_enter func11,ntmps11;go_wp2;go_loopw [6,25] (λv i wr=>∃k:Nat,k<=n/\i=.int .i64 k/\Hid (wr.ownsRow w.heap.size 3 1 v k ((ids.take k).map (Value.int .i64)))/\Hid (Below w.heap.size w wr)) (λ_ i _=>n-(intOf i).toNat)
 case atStart=>exact⟨0,Nat.zero_le _,rfl,World.ownsRow_nil _ _ _ _,Below.refl _ _⟩
 case round =>
  obtain⟨k,hk,rfl,HO,HB⟩:=hrel;by_cases A2:k<n
  ·obtain⟨b,off,rfl,B6,A5⟩:=(HR.out.below HB.out).at (by simp;have:=HN.out;omega);obtain⟨x,hx⟩:=zx (l.getD k 0);have E4:k<l.length:=by have:=HN.out;omega
   have A0:=A5 k (.int .i64 x) (by rw[hx];exact zr E4);have F9:=HI.out x (by rw[hx,zg,ze E4];exact List.getElem_mem _);have G0:=zh (λz=>jr x z F9.1 F9.2)
   have D0:ids.take (k+1)=ids.take k++[Zz x]:=by
    rw[List.take_add_one,J8.out,List.getElem?_map,ze E4,hx,zg,ze E4];rfl
   have B7:=zh D0;have hbs:w.heap.size<=wr.heap.size:=HB.out.size;obtain⟨y,hy⟩:=zx (Zz x);rw[<-hy] at G0 B7;have A6:∀u∈[Value.int .i64 y],u.oneCell'=true:=λu hu=>by simp at hu;subst hu;rfl
   clear A5 hx F9 D0 hy;go_wp2_with fail;refine(G0 _).mono ?_;rintro e w' ⟨rfl,rfl⟩;go_wp2_with (at_builtin;refine Zb rfl _ _ 25 rfl w.heap.size 3 (.int .i64 0) 1 8 underlying25 Zx rfl (by decide) _ k _ rfl (HO.out.alloc _) _ 1 1 [.int .i64 y] rfl rfl (zv.madeAt rfl) A6 (by unfold maxLen;omega) (by omega) (Nat.le_trans hbs (by simp)) ?_);intro v4 w4 own4 gr4;have D1:Hid (Below w.heap.size w w4):=(zn HB.out).grown gr4 (Nat.le_trans hbs (by simp)) (λg hg=>(HO.out.lt g hg).1)
   have B8:Hid (w4.ownsRow w.heap.size 3 1 v4 (k+1) ((ids.take (k+1)).map (Value.int .i64))):=by
    unfold Hid;rw[B7.out,List.map_append,List.map_take];exact own4
   clear own4 gr4 A6 hbs B7 HO HB G0 A0;go_wp2;go_roundw
   case rel=>exact⟨k+1,by omega,by go_num,B8.out,D1.out⟩
   case measure=>simp[intOf];omega
  ·obtain rfl:k=n:=by omega
   have hO:=HO.out;rw[List.take_of_length_le (by omega)] at hO;have J9:=zh hO;have E5:=zh (HH.below HB);have G1:=zh (LU.of_below (J:=J) HB);have E6:=zh HH.fixlt;have D2:=zh (zfm E5);have mlr:=E5.P.head.lt;clear hO HO HB A2 ml HR HN HI HH;go_wp2_with fail;go_call D2 as e w2 ⟨v40,rfl,own2,E7⟩;obtain⟨ha,hc,rfl,-,-,-⟩:=zk own2;obtain⟨hl,D3⟩:=zx (qx S.sls (K+1));have K0:∀x∈hl,∃s:Nat,x=s/\s<K+1/\(S.sl s).res.isSome=true:=λx hx=>by rw[D3] at hx;exact cu.1 hx
   have K1:∀s,s<K+1->(S.sl s).res.isSome=true->(s:Int)∈hl:=λs h1 h2=>by rw[D3];exact cu.2 ⟨s,rfl,h1,h2⟩
   have Q2:hl.length<=K+1:=by rw[D3];exact zbx _ _
   rw[<-D3] at own2 ⊢;have K2:=zh (E5.below E7);have K3:=zh ((Upd.of_below (l:=[]) E7).ownsAbove J9.out (by simp));have K4:=zh (yn (base':=w.heap.size) own2 G1.size);have K5:=zh (G1.trans (.of_below E7));have K6:=zh K0;have K7:=zh K1;clear own2 E7 D3 K0 K1 E5 J9 G1 D2;go_wp2;go_loopw [42] (λi wr=>∃j S' T',j<=hl.length/\i=.int .i64 (j:Nat)/\Hid (Zh wr J K NW N S' (zt X) [] (λ_=>False) (λ_=>False) T' made U F 0)/\Hid (Bkd S S' (zt X))/\Hid (∀t s:Nat,t<j->hl.getD t 0=(s:Int)->S'.dk (S.sl s).id=zt X (S.sl s).id)/\Hid (wr.ownsRow w.heap.size 3 1 u6 k (ids.map (Value.int .i64)))/\Hid (wr.ownsRow w.heap.size 3 1 (.slice ha hl.length hc) hl.length (hl.map (Value.int .i64)))/\Hid (LU J w wr)) (λi _=>hl.length-(intOf i).toNat)
   case atStart=>exact⟨0,S,T,Nat.zero_le _,rfl,K2.out,⟨λ_=>rfl,λ_=>rfl,λ_ h=>h⟩,λt s ht=>by omega,K3.out,K4.out,K5.out⟩
   case round =>
    obtain⟨j,S3,T3,hj,rfl,HL,B1,E8,HO,HW,HU⟩:=hrel;by_cases A2:j<hl.length
    ·obtain⟨_,_,hv,rd,-,-⟩:=zk HW;cases hv
     obtain⟨b,off,rfl,B6,A5⟩:=rd.at (by simp;omega);obtain⟨s,B2,N7,C7⟩:=K6.out (hl.getD j 0) (by rw[zg,ze A2];exact List.getElem_mem _);have A0:=A5 j (.int .i64 (s:Int)) (by rw[<-B2];exact zr A2);have D4:(S3.sl s).res.isSome=true:=by rw[B1.out.res];exact C7
     obtain⟨r,hr⟩:=Option.isSome_iff_exists.1 D4;have K8:=zh (zno HL hr);have m4:=HL.P.head.cell (i:=4) rfl;have mlw:=HL.P.head.lt;have N8:(s:Int)<(K:Int)+1:=by omega
     have D5:=zh B2;have N9:=zh hr;clear A5 rd B2 C7 D4 hr mlr;go_wp2_with fail;go_call K8 as e w4 ⟨rfl,B3,S4,T4,K9,B9⟩;have C0:=zh K9;have D6:=B9.bkd N9;have D1:Hid (Bkd S S4 (zt X)):=⟨λt=>(D6.id t).trans (B1.id t),λt=>(D6.res t).trans (B1.res t),λi hi=>D6.dk i (B1.dk i hi)⟩
     have O0:Hid (∀t s:Nat,t<j+1->hl.getD t 0=(s:Int)->S4.dk (S.sl s).id=zt X (S.sl s).id):=λt s' ht A4=>by
      by_cases e:t=j
      ·subst e;have:s'=s:=by have:=D5.out;omega
       subst this;have h1:=B9.dk;rw[B1.out.id] at h1;exact h1
      ·exact D6.dk _ (E8.out t s' (by omega) A4)
     have B8:=zh (B3.owns HO.out E6.out (by decide));have O1:=zh (B3.owns HW.out E6.out (by decide));have D7:=zh (HU.trans B3);clear K9 B9 D6 B3 K8 HL B1 E8 HO HW HU A0 m4 mlw;go_wp2;go_roundw
     case rel=>exact⟨j+1,S4,T4,by omega,by go_num,C0.out,D1.out,O0.out,B8.out,O1.out,D7.out⟩
     case measure=>simp[intOf];omega
    ·obtain rfl:j=hl.length:=by omega
     have C1:∀i,S3.dk i=zt X i:=λi=>by
      by_cases h:∀t,(S3.sl t).id=i->(S3.sl t).res=none
      ·exact HL.inv.away i h
      ·obtain⟨t,G2,A9⟩:∃t,(S3.sl t).id=i/\(S3.sl t).res≠none:=by
        rcases Classical.em (∃t,(S3.sl t).id=i/\(S3.sl t).res≠none) with h2|h2
        ·exact h2
        ·exact absurd (λt h3=>Classical.byContradiction λh4=>h2 ⟨t,h3,h4⟩) h
       have O2:(S.sl t).res.isSome=true:=by
        rw[<-B1.out.res];cases h5:(S3.sl t).res with
        | none=>exact absurd h5 A9
        | some q=>rfl
       have G3:t<K+1:=by
        rcases Nat.lt_or_ge t (K+1) with h5|h5
        ·exact h5
        ·rw[Lm.sl_out (by rw[HL.out.lens];exact h5)] at A9;exact absurd rfl A9
       obtain⟨p,hp,G4⟩:=List.getElem_of_mem (K7 t G3 O2);have:=E8.out p t hp (by rw[zg,ze hp];exact G4);rw[<-B1.out.id,G2] at this;exact this
     have O3:T3=X:=by
      refine zrv HL.P.sec.rise E3 (λi=>?_);have:=C1 i;rw[HL.out.dk] at this;exact this
     subst O3;have O4:=zh C1;obtain⟨ia,ic,O5,rdi,-,O6⟩:=zk HO;subst O5;have m0:=HL.P.head.cell (i:=0) rfl;have mlw:=HL.P.head.lt;have L0:=zh (zut HL.out.P.sec ia k ic ids (by omega) rdi (by omega) (λx hx=>by rw[J8.out] at hx;obtain⟨y,_,rfl⟩:=List.mem_map.1 hx;exact zcm y));clear C1 rdi O6 A2 E8 HW HO K2 K3 K4 K5 K6 K7 mlr;go_wp2_with fail;go_call L0 as e w4 ⟨vr,R,rfl,own4,G5,G6,C2,B3⟩;have G7:∀x∈J.I.E.all,x∈J.I.all:=λx hx=>by simp[qy.all,hx]
     have C0:Hid (Zh w4 J K NW N S3 (zt T3) [] (λ_=>False) (λ_=>False) T3 made U F 0):=⟨HL.P.sec' B3 G7 C2,HL.dk,HL.inv,HL.ks⟩;have D7:=zh (HU.trans (.disk B3 G7));have E9:=zh (yn (base':=w.heap.size) own4 HU.size);have L1:=zh G5
     have L2:Hid (∀i,decide (i∈R)=zcz T3 ids i):=λi=>by
      unfold zcz;congr 1;exact propext (G6 i)
     have L3:=zh (show R.length<=1000000 from by
      have O7:R.Nodup:=G5.imp (λh=>by omega)
      have G8:∀x∈R,x∈xh T3:=λx hx=>by
       have:=((G6 x).1 hx).has;unfold zee at this;simp only[Bool.and_eq_true,decide_eq_true_eq] at this;obtain⟨y,hy⟩:=Option.isSome_iff_exists.1 this.2;exact zi9.2 ⟨_,Zl hy,by simp only;omega⟩
      have h1:=Z4 O7 G8;have h2:(xh T3).length=T3.length:=by simp[xh]
      have h3:=C2.len
      omega)
     have D8:=zh (zjq C2);clear own4 G5 G6 C2 B3 G7 HL HU L0 m0 mlw;have m0:=C0.P.head.cell (i:=0) rfl;have mlw:=C0.P.head.lt;go_wp2_with fail;go_call D8 as e w5 ⟨v65,rfl,own5,F0⟩;obtain⟨ra,rc,O8,-,-,-⟩:=zk E9;subst O8;obtain⟨da,dc,G9,-,-,-⟩:=zk own5;subst G9;obtain⟨dl,F1⟩:=zx (xh T3);have L4:=zh (C0.below F0);have I0:=zh (D7.trans (.of_below F0));have L5:=zh ((Upd.of_below (l:=[]) F0).ownsAbove E9.out (by simp));have I1:=zh (yn (base':=w.heap.size) own5 D7.size)
     have I2:dl.length<=100000:=by
      rw[F1];unfold xh;rw[List.length_map];have:=C0.out.P.sec.len;omega
     rw[<-F1] at I1 ⊢;have F2:=zh F1;have O9:w.heap.size<=w5.heap.size:=I0.out.size;clear own5 F0 F1 C0 D7 E9 D8 m0 mlw;go_wp2;go_loopw [14,67] (λv i wr2=>∃j,j<=dl.length/\i=.int .i64 (j:Nat)/\Hid (wr2.ownsRow w5.heap.size 3 1 v ((dl.take j).filter (λi=>!zcz T3 ids i)).length (((dl.take j).filter (λi=>!zcz T3 ids i)).map (Value.int .i64)))/\Hid (Below w5.heap.size w5 wr2)) (λ_ i _=>dl.length-(intOf i).toNat)
     case atStart=>exact⟨0,Nat.zero_le _,rfl,World.ownsRow_nil _ _ _ _,Below.refl _ _⟩
     case round =>
      obtain⟨j,Q3,rfl,HO,HB⟩:=hrel;by_cases A2:j<dl.length
      ·have I3:=zh ((Upd.of_below (l:=[]) HB.out).ownsAbove L5.out (by simp));have I4:=zh ((Upd.of_below (l:=[]) HB.out).ownsAbove I1.out (by simp));obtain⟨_,_,hv,rd,-,-⟩:=zk I4;cases hv
       obtain⟨b,off,rfl,B6,A5⟩:=rd.at (by simp;omega);obtain⟨x,hx⟩:=zx (dl.getD j 0);have A0:=A5 j (.int .i64 x) (by rw[hx];exact zr A2);obtain⟨_,_,hv,rdr,-,-⟩:=zk I3;cases hv
       have I5:=zh (zns ra R.length rc R x wr rfl rdr L3 L1);have A1:=zh (ztq (X:=T3) (roots:=ids) (k:=j) (by rw[<-F2.out];exact A2));rw[<-F2.out,<-hx,<-L2.out] at A1
       have L6:((dl.take j).filter (λi=>!zcz T3 ids i)).length<=100000:=by
        have h1:=List.length_filter_le (λi=>!zcz T3 ids i) (dl.take j);rw[List.length_take] at h1;omega
       obtain⟨gl,A3⟩:=zx ((dl.take j).filter (λi=>!zcz T3 ids i));rw[<-A3] at HO L6 A1;have hbs:w5.heap.size<=wr.heap.size:=HB.out.size;clear A5 rd rdr hx A3;go_wp2_with fail;go_call I5 as e w' ⟨kk,rfl,rfl⟩;by_cases F3:x∈R
       ·have hd:decide (x∈R)=true:=decide_eq_true F3;rw[hd] at A1 ⊢;simp only[if_true,List.append_nil] at A1
        have B8:Hid (wr.ownsRow w5.heap.size 3 1 u14 ((dl.take (j+1)).filter (λi=>!zcz T3 ids i)).length (((dl.take (j+1)).filter (λi=>!zcz T3 ids i)).map (Value.int .i64))):=by
         unfold Hid;rw[A1.out];exact HO
        clear hd F3 A1 HO I5 A0 I3 I4;go_wp2;go_roundw
        case rel=>exact⟨j+1,by omega,by go_num,B8.out,HB.out⟩
        case measure=>simp[intOf];omega
       ·have hd:decide (x∈R)=false:=decide_eq_false F3;rw[hd] at A1 ⊢;simp only[Bool.false_eq_true,if_false] at A1;have A6:∀u∈[Value.int .i64 x],u.oneCell'=true:=λu hu=>by simp at hu;subst hu;rfl
        clear hd F3 I5 A0 I3 I4;go_wp2_with (at_builtin;refine Zb rfl _ _ 25 rfl w5.heap.size 3 (.int .i64 0) 1 8 underlying25 Zx rfl (by decide) _ gl.length _ rfl (HO.out.alloc _) _ 1 1 [.int .i64 x] rfl rfl (zv.madeAt rfl) A6 (by unfold maxLen;omega) (by omega) (Nat.le_trans hbs (by simp)) ?_);intro v6 w6 own6 gr6;have D1:Hid (Below w5.heap.size w5 w6):=(zn HB.out).grown gr6 (Nat.le_trans hbs (by simp)) (λg hg=>(HO.out.lt g hg).1)
        have B8:Hid (w6.ownsRow w5.heap.size 3 1 v6 ((dl.take (j+1)).filter (λi=>!zcz T3 ids i)).length (((dl.take (j+1)).filter (λi=>!zcz T3 ids i)).map (Value.int .i64))):=by
         unfold Hid;rw[A1.out,List.length_append,List.map_append];exact own6
        clear own6 gr6 A6 hbs A1 HO HB;go_wp2;go_roundw
        case rel=>exact⟨j+1,by omega,by go_num,B8.out,D1.out⟩
        case measure=>simp[intOf];omega
      ·obtain rfl:j=dl.length:=by omega
       have hO:=HO.out;rw[List.take_length] at hO;obtain⟨gl,A3⟩:=zx (zcp T3 ids);have A7:dl.filter (λi=>!zcz T3 ids i)=gl:=by rw[A3,F2.out];rfl
       rw[A7] at hO
       have L6:gl.length<=100000:=by
        rw[<-A7];have:=List.length_filter_le (λi=>!zcz T3 ids i) dl;omega
       obtain⟨ga,gc,I6,-,-,-⟩:=zk hO;subst I6;have L7:=zh hO;have F4:=zh A3;have F5:=zh (L4.below HB);have I7:=zh (I0.trans (.of_below HB));have D2:=zh (zfm F5);have mlw:=F5.P.head.lt;clear hO A3 A7 HO HB A2 L4 I0 L5 I1 I2 F2 L1 L2 L3;go_wp2_with fail;go_call D2 as e w7 ⟨v85,rfl,own7,F6⟩;obtain⟨qa,qc,I8,-,-,-⟩:=zk own7;subst I8;obtain⟨ql,C8⟩:=zx (qx S3.sls (K+1));have L8:∀x∈ql,∃s:Nat,x=s/\s<K+1/\(S3.sl s).res.isSome=true:=λx hx=>by rw[C8] at hx;exact cu.1 hx
       have L9:∀s,s<K+1->(S3.sl s).res.isSome=true->(s:Int)∈ql:=λs h1 h2=>by rw[C8];exact cu.2 ⟨s,rfl,h1,h2⟩
       have M0:ql.Nodup:=by rw[C8];exact zk5 _ _
       have P0:ql.length<=K+1:=by rw[C8];exact zbx _ _
       rw[<-C8] at own7 ⊢;have M1:=zh (F5.below F6);have M2:=zh ((Upd.of_below (l:=[]) F6).ownsAbove L7.out (by simp));have M3:=zh (yn (base':=w.heap.size) own7 I7.size);have M4:=zh (I7.trans (.of_below F6));have I9:=zh L8;have M5:=zh L9;have M6:=zh M0;have M7:Hid (∀k∈J.fix,k<w5.heap.size):=λk hk=>Nat.lt_of_lt_of_le (E6 k hk) O9
       clear own7 F6 C8 L8 L9 M0 F5 L7 I7 D2 mlw;go_wp2;go_loopw [87] (λi wr2=>∃j S4,j<=ql.length/\i=.int .i64 (j:Nat)/\Hid (Zh wr2 J K NW N S4 (zt T3) [] (λ_=>False) (λ_=>False) T3 made U F 0)/\Hid (∀i,S4.dk i=zt T3 i)/\Hid (zl3 S3 S4 0)/\Hid (∀t s:Nat,j<=t->t<ql.length->ql.getD t 0=(s:Int)->(S4.sl s).res=(S3.sl s).res/\(S4.sl s).id=(S3.sl s).id)/\Hid (∀t s:Nat,t<j->ql.getD t 0=(s:Int)->(S4.sl s).res≠none->¬((S3.sl s).id:Int)∈gl)/\Hid (wr2.ownsRow w5.heap.size 3 1 (.slice ga gl.length gc) gl.length (gl.map (Value.int .i64)))/\Hid (wr2.ownsRow w.heap.size 3 1 (.slice qa ql.length qc) ql.length (ql.map (Value.int .i64)))/\Hid (LU J w wr2)) (λi _=>ql.length-(intOf i).toNat)
       case atStart=>exact⟨0,S3,Nat.zero_le _,rfl,M1.out,O4.out,zl3.refl _ _,λt s _ _ _=>⟨rfl,rfl⟩,λt s ht=>by omega,M2.out,M3.out,M4.out⟩
       case round =>
        obtain⟨j,S4,Q4,rfl,HL,D9,E0,E1,E2,HG,HQ,HU⟩:=hrel;by_cases A2:j<ql.length
        ·obtain⟨_,_,hv,rd,-,-⟩:=zk HQ;cases hv
         obtain⟨b,off,rfl,B6,A5⟩:=rd.at (by simp;omega);obtain⟨s,B2,N7,C7⟩:=I9.out (ql.getD j 0) (by rw[zg,ze A2];exact List.getElem_mem _);have A0:=A5 j (.int .i64 (s:Int)) (by rw[<-B2];exact zr A2);obtain⟨C2,C3⟩:=E1 j s (Nat.le_refl _) A2 B2;rw[<-C2] at C7;obtain⟨r,hr⟩:=Option.isSome_iff_exists.1 C7;have J0:s<=K:=by omega
         obtain⟨-,y1,-,yl⟩:=HL.slot J0;have m4:=HL.P.head.cell (i:=4) rfl;have mlw:=HL.P.head.lt;have N8:(s:Int)<(K:Int)+1:=by omega
         obtain⟨_,_,hv,rdg,-,-⟩:=zk HG;cases hv
         obtain⟨z,hz⟩:=zx ((S4.sl s).id);rw[<-hz] at y1 C3;have J1:=zh (zcv ga gl.length gc gl (z:Int) wr rfl rdg (by omega));have J2:=zh (zo8 HL hr (λh=>absurd rfl h) false (λ_=>D9 _) (w0:=wr) (LU.refl _ _));have D5:=zh B2;have E9:=zh hr;have P1:=zh C3;clear A5 rd rdg B2 C7 C2 hr hz C3;go_wp2_with fail;go_call J1 as e w' ⟨rfl,rfl⟩;by_cases C9:(z:Int)∈gl
         ·have hd:decide ((z:Int)∈gl)=true:=decide_eq_true C9;rw[hd];have Q5:=zh C9;clear hd C9 J1 A0 y1 yl m4;go_wp2_with fail;go_call J2 as e w8 ⟨rfl,F7,S8,T8,F8,B4⟩;have C4:∀i,S8.dk i=zt T3 i:=λi=>B4.dk i (D9 i)
          have P2:T8=T3:=by
           refine zrv F8.P.sec.rise E3 (λi=>?_);have:=C4 i;rw[F8.dk] at this;exact this
          subst P2;have P3:=zh F8;have J3:=zh C4;have J4:=zh (E0.trans B4.fade)
          have C5:Hid (∀t s:Nat,j+1<=t->t<ql.length->ql.getD t 0=(s:Int)->(S8.sl s).res=(S3.sl s).res/\(S8.sl s).id=(S3.sl s).id):=λt s' G2 A9 A4=>by
           obtain⟨h1,h2⟩:=E1.out t s' (by omega) A9 A4
           have M8:s'≠s:=λe=>by
            subst e;have h3:=List.pairwise_iff_getElem.1 M6.out j t A2 A9 (by omega);have h4:=D5.out;rw[zg,ze A2] at h4;rw[zg,ze A9] at A4;simp at h4 A4;exact h3 (h4.trans A4.symm)
           refine⟨(B4.ot s' M8).trans h1,?_⟩;rcases B4.id s' with h3|⟨_,h4,_⟩
           ·exact h3.trans h2
           ·obtain⟨s2,Q6,Q7,M9⟩:=I9.out (ql.getD t 0) (by rw[zg,ze A9];exact List.getElem_mem _);have:s2=s':=by omega
            subst this;rw[<-h1,<-B4.ot _ M8,h4] at M9;cases M9
          have C6:Hid (∀t s:Nat,t<j+1->ql.getD t 0=(s:Int)->(S8.sl s).res≠none->¬((S3.sl s).id:Int)∈gl):=λt s' ht A4 A8=>by
           by_cases e:t=j
           ·subst e;have:s'=s:=by have:=D5.out;omega
            subst this;exact absurd B4.out A8
           ·refine E2.out t s' (by omega) A4 ?_;rw[<-(B4.fade.res s' A8).1];exact A8
          have P4:Hid (w8.ownsRow w5.heap.size 3 1 (.slice ga gl.length gc) gl.length (gl.map (Value.int .i64))):=F7.owns HG.out M7.out (by decide);have P5:Hid (w8.ownsRow w.heap.size 3 1 (.slice (some ⟨b,off,none⟩) ql.length qc) ql.length (ql.map (Value.int .i64))):=F7.owns HQ.out E6.out (by decide);have P6:=zh (HU.trans F7);clear F7 F8 B4 C4 J2 HL D9 E0 E1 E2 HG HQ HU;go_wp2;go_roundw
          case rel=>exact⟨j+1,S8,by omega,by go_num,P3.out,J3.out,J4.out,C5.out,C6.out,P4.out,P5.out,P6.out⟩
          case measure=>simp[intOf];omega
         ·have hd:decide ((z:Int)∈gl)=false:=decide_eq_false C9;rw[hd];have C5:Hid (∀t s:Nat,j+1<=t->t<ql.length->ql.getD t 0=(s:Int)->(S4.sl s).res=(S3.sl s).res/\(S4.sl s).id=(S3.sl s).id):=λt s' G2 A9 A4=>E1.out t s' (by omega) A9 A4
          have C6:Hid (∀t s:Nat,t<j+1->ql.getD t 0=(s:Int)->(S4.sl s).res≠none->¬((S3.sl s).id:Int)∈gl):=λt s' ht A4 A8=>by
           by_cases e:t=j
           ·subst e;have:s'=s:=by have:=D5.out;omega
            subst this;rw[<-P1.out];exact C9
           ·exact E2.out t s' (by omega) A4 A8
          clear hd C9 J1 A0 y1 yl m4 J2;go_wp2;go_roundw
          case rel=>exact⟨j+1,S4,by omega,by go_num,HL.out,D9.out,E0.out,C5.out,C6.out,HG.out,HQ.out,HU.out⟩
          case measure=>simp[intOf];omega
        ·obtain rfl:j=ql.length:=by omega
         obtain⟨_,_,hv,rdg,N0,N1⟩:=zk HG;cases hv
         have B5:∀t q,(S4.sl t).res=some q->(λi:Nat=>decide ((i:Int)∈gl)) (S4.sl t).id=false:=λt q hq=>by
          obtain⟨h1,h2⟩:=E0.out.res t (by rw[hq];simp)
          have G3:t<K+1:=by
           have:=(HL.out.inv.res_id hq).2.2;omega
          obtain⟨p,hp,G4⟩:=List.getElem_of_mem (M5.out t G3 (by rw[<-h1,hq];rfl));have h3:=E2.out p t hp (by rw[zg,ze hp];exact G4) (by rw[hq];simp);rw[<-h2] at h3;exact decide_eq_false h3
         have J5:=HL.inv.drop (λi:Nat=>decide ((i:Int)∈gl)) B5;have N2:=HL.out.dk
         have N3:∀x∈gl,(lookI T3 x).isSome=true:=λx hx=>by
          rw[F4.out] at hx;obtain⟨p,hp,rfl⟩:=zi9.1 (zgm.1 hx).1;rw[je,qv E3.out hp];rfl
         have N4:gl.Nodup:=by rw[F4.out];unfold zcp;exact List.Pairwise.filter _ (zqj E3.out)
         have N5:=zh (zuw HL.out.P.sec ga gl.length gc gl rfl rdg N0 (by omega) (λx hx P7=>by
          have h1:=(N1 x hx).1;have h2:=M7.out x.block (by simp[LmI.fix,P7])
          omega) N3 N4)
         have hA:zae (zt T3) (λi:Nat=>decide ((i:Int)∈gl))=zt (zfi T3 ids):=by
          funext i;rw[<-zt8,<-F4.out,zge];unfold zae;by_cases h:(i:Int)∈gl<;>simp[h]
         have hD:zae S4.dk (λi:Nat=>decide ((i:Int)∈gl))=zt (zds T3 gl):=by
          funext i;rw[zge,N2];unfold zae;by_cases h:(i:Int)∈gl<;>simp[h]
         rw[hA] at J5;have P8:=zh J5;have P9:=zh hD;have m0:=HL.P.head.cell (i:=0) rfl;have mlw:=HL.P.head.lt;clear rdg N0 N1 B5 J5 N2 N3 N4 hA hD A2 D9 E0 E1 E2 HG HQ I9 M5 M6 M1 M2 M3 M4;go_wp2_with fail;go_call N5 as e w9 ⟨rfl,N6,J6⟩;have J7:∀x∈J.I.mp::J.I.E.all,x∈J.I.all:=λx hx=>by simp[qy.all] at hx ⊢;rcases hx with rfl|hx<;>simp[*]
         have HF:Hid (zwb w J K NW N T3 made U F ids (.returned (.tuple #[.int .i64 gl.length,.int .i64 0])) w9) :=
          ⟨HU.out.trans (.disk J6 J7),by rw[F4.out],{ S4 with dk:=zae S4.dk (λi:Nat=>decide ((i:Int)∈gl)) },zds T3 gl,⟨HL.out.P.sec' J6 J7 N6,P9.out,P8.out,HL.out.ks⟩⟩
         clear N6 J6 J7 N5 m0;go_wp2;go_ret2;exact HF
end
end Go.Proofs.YtoeibiahbenpcaaGreatDoor
