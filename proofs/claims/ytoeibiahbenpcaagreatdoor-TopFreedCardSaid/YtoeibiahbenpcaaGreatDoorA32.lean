/- Part. -/
import Derived.Test.YtoeibiahbenpcaaGreatDoorA31
namespace Go.Proofs.YtoeibiahbenpcaaGreatDoor
open RowKit Maps Proofs.Tryz
set_option linter.unusedVariables false
set_option maxRecDepth 99999
set_option maxHeartbeats 9000000
def nxA(A:Nat->Option Ob)(made:Nat)(x:Int):Option Nat:=(List.range (made+1)).find? (λk:Nat=>decide (x<(k:Int)) && (A k).isSome)
theorem zoc{A:Nat->Option Ob}{made:Nat}{x:Int}{k:Nat}(hk:k<=made)(hx:x<(k:Int))(hA:(A k).isSome=true)(hl:∀j,j<k->x<(j:Int)->A j=none):nxA A made x=some k:=by
 unfold nxA
 have key:∀n,k<n->(List.range n).find? (λk:Nat=>decide (x<(k:Int)) && (A k).isSome)=some k:=λn=>by
  induction n with
  | zero=>intro h;omega
  | succ n ih =>
   intro h;rw[List.range_succ,List.find?_append];by_cases hn:k<n
   ·rw[ih hn];rfl
   ·obtain rfl:k=n:=by omega
    have h1:(List.range k).find? (λk:Nat=>decide (x<(k:Int)) && (A k).isSome)=none:=by
     rw[List.find?_eq_none];intro j hj;have hj:=List.mem_range.1 hj;by_cases A0:x<(j:Int)
     ·rw[hl j hj A0];simp
     ·simp[A0]
    rw[h1,List.find?_cons_of_pos (by simp[hx,hA])];rfl
 exact key _ (by omega)
theorem zod{A:Nat->Option Ob}{made:Nat}{x:Int}(h:∀k,k<=made->x<(k:Int)->A k=none):nxA A made x=none:=by
 unfold nxA;rw[List.find?_eq_none];intro j hj;have hj:=List.mem_range.1 hj;by_cases A0:x<(j:Int)
 ·rw[h j (by omega) A0];simp
 ·simp[A0]
def nxV(o:Option Nat):Value:=match o with|some k=>.tuple #[.int .i64 (za1 k),.bool true]|none=>.tuple #[.int .i64 0,.bool false]
theorem z0x{T:Tb}(hr:qm T){made:Nat}(hb:∀p∈T,1<=p.1/\p.1<=made){A:Nat->Option Ob}(hA:∀i,(zt T i).isSome=(A i).isSome){x:Int}{j:Nat}(hj:j<(xh T).length)(hx:x<(xh T).getD j 0)(hl:∀i,i<j->(xh T).getD i 0<=x) :
 ∃k:Nat,(xh T).getD j 0=k/\nxA A made x=some k:=by
 unfold xh at *;rw[List.length_map] at hj
 have hg:∀i,i<T.length->(T.map (λp=>(p.1:Int))).getD i 0=((T[i]?.map (·.1)).getD 0:Nat):=λi hi=>by
  rw[zg,List.getElem?_map,ze hi];rfl
 have hT:=ze hj;rw[hg j hj,hT] at hx ⊢;refine⟨(T[j]).1,rfl,?_⟩;have hm:=List.getElem_mem hj;have A0:=hb _ hm;refine zoc A0.2 hx ?_ (λi hi A1=>?_)
 ·rw[<-hA,vm];exact List.mem_map.2 ⟨_,hm,rfl⟩
 ·cases ha:A i with
  | none=>rfl
  | some o =>
   have h1:=hA i;rw[ha] at h1;obtain⟨p,hp,rfl⟩:=List.mem_map.1 (vm.1 h1);obtain⟨t,ht,rfl⟩:=List.getElem_of_mem hp;exfalso;rcases Nat.lt_trichotomy t j with h2|h2|h2
   ·have:=hl t h2;rw[hg t ht,ze ht] at this;simp at this;omega
   ·subst h2;omega
   ·have:=List.pairwise_iff_getElem.1 hr j t hj ht h2;omega
theorem zxj{T:Tb}{made:Nat}{A:Nat->Option Ob}(hA:∀i,(zt T i).isSome=(A i).isSome){x:Int}(hl:∀i,i<(xh T).length->(xh T).getD i 0<=x):nxA A made x=none:=by
 refine zod (λk _ hx=>?_);cases ha:A k with
 | none=>rfl
 | some o =>
  have h1:=hA k;rw[ha] at h1;obtain⟨p,hp,rfl⟩:=List.mem_map.1 (vm.1 h1);obtain⟨t,ht,rfl⟩:=List.getElem_of_mem hp;exfalso;have:=hl t (by unfold xh;rw[List.length_map];exact ht);unfold xh at this;rw[zg,List.getElem?_map,ze ht] at this;simp at this;omega
section
variable{w:World}{J:LmI}{K NW N:Nat}{S:Lm}{A:Nat->Option Ob}{ex:List Int}{pe bl:Nat->Prop}{T:Tb}{made U:Nat}{F:Nat->Nat}{busy:Nat}
theorem zu3(H:Zh w J K NW N S A ex pe bl T made U F busy):Calls prog 8 #[.pointer (some ⟨J.m,0,none⟩)] w λe w'=>e=.returned (.int .i64 made)/\w=w':=by
 have HM:=zh (zuv H.P.sec);have k0:=H.P.head.cell (i:=0) rfl;have ml:=H.P.head.lt;clear H;go_enter func8,ntmps8;go_wp2_with fail;go_call HM as e w' ⟨rfl,rfl⟩;go_wp2;go_ret;exact⟨rfl,rfl⟩
theorem z1x(H:Zh w J K NW N S A ex pe bl T made U F busy)(o:Int)(b0:-9223372036854775808<=o)(b1:o<=9223372036854775807) :
 Calls prog 215 #[.pointer (some ⟨J.m,0,none⟩),.int .i64 o] w λe w'=>e=.returned (nxV (nxA A made (Zz o)))/\Below w.heap.size w w':=by
 have A0:=zh (λz=>jr o z b0 b1);have A1:=zh (zjq H.P.sec);have B3:=zh (λx z=>zhi x z);have A7:=zh (λx j hj hx hl=>z0x (A:=A) (x:=x) (j:=j) H.P.sec.rise H.P.sec.ids H.hasA hj hx hl);have A8:=zh (λx hl=>zxj (A:=A) (made:=made) (x:=x) H.hasA hl);have A2:(xh T).length<=1000000:=by unfold xh;rw[List.length_map];have:=H.P.sec.len;have:=H.P.sec.few;omega
 have B4:Hid (∀x∈xh T,0<=x/\x<=1000000):=λx hx=>by
  unfold xh at hx;obtain⟨p,hp,rfl⟩:=List.mem_map.1 hx;have:=H.P.sec.ids p hp;have:=H.P.sec.few;omega
 have k0:=H.P.head.cell (i:=0) rfl;have ml:=H.P.head.lt;clear H;obtain⟨l,hl⟩:=zx (xh T);rw[<-hl] at A1 A7 A8 A2 B4;obtain⟨x,hx⟩:=zx (Zz o);rw[<-hx] at A0 ⊢;clear hl hx;go_enter func215,ntmps215;go_wp2_with fail;refine(A0 _).mono ?_;rintro e w' ⟨rfl,rfl⟩;go_wp2_with fail;go_call A1 as e w1 ⟨v,rfl,own,hb⟩;obtain⟨a,c,rfl,rd,B5,-⟩:=zk own;have B6:=zh rd;have HB:=zh hb;clear rd own hb A1 k0 A0;go_wp2;go_loopw [23] (λi wr=>∃j:Nat,j<=l.length/\i=.int .i64 j/\wr=w1/\Hid (∀t,t<j->l.getD t 0<=x)) (λi _=>l.length-(intOf i).toNat)
 case atStart=>exact⟨0,Nat.zero_le _,rfl,rfl,λt ht=>by omega⟩
 case round =>
  obtain⟨j,hj,rfl,rfl,A3⟩:=hrel;by_cases A4:j<l.length
  ·obtain⟨b,off,rfl,B7,A9⟩:=B6.out.at (by simp;omega);obtain⟨y,hy⟩:=zx (l.getD j 0);have B0:=A9 j (.int .i64 y) (by rw[hy];exact zr A4);have HY:=zh hy;clear A9 hy;by_cases A5:x<y
   ·obtain⟨k,B1,B2⟩:=A7.out x j A4 (by rw[<-HY.out];exact A5) A3;have B8:y=(k:Int):=HY.trans B1;subst B8;have B9:=zh B2;clear B1 B2;have A6:(k:Int) > x:=A5;go_wp2_with fail;refine(B3 _ _).mono ?_;rintro e w' ⟨rfl,rfl⟩;go_wp2;go_ret2;exact⟨by rw[B9.out];rfl,HB.out⟩
   ·have A6:¬y > x:=A5;go_wp2;go_roundw
    case rel=>exact⟨j+1,by omega,by go_num,by first|rfl|trivial,λt ht=>by
     by_cases h:t<j
     ·exact A3 t h
     ·obtain rfl:t=j:=by omega
      rw[<-HY.out];omega⟩
    case measure=>simp[intOf];omega
  ·obtain rfl:j=l.length:=by omega
   have HN:=zh (A8 x A3);clear A4;go_wp2;go_ret2;exact⟨by rw[HN.out];rfl,HB.out⟩
def qx(l:List Sl)(n:Nat):List Int:=((List.range n).filter (λs=>(l.getD s z6).res.isSome)).map (λ(s:Nat)=>(s:Int))
theorem zco(l:List Sl)(n:Nat):qx l (n+1)=qx l n++if (l.getD n z6).res.isSome then [(n:Int)] else []:=by
 unfold qx;rw[List.range_succ,List.filter_append,List.map_append];congr 1;by_cases h:(l.getD n z6).res.isSome=true
 ·rw[if_pos h];simp only[List.filter_cons,h,if_true];rfl
 ·rw[if_neg h];simp only[List.filter_cons,h];rfl
theorem zbx(l:List Sl)(n:Nat):(qx l n).length<=n:=by
 unfold qx;rw[List.length_map];have:=List.length_filter_le (λs=>(l.getD s z6).res.isSome) (List.range n);rw[List.length_range] at this;exact this
theorem cu{l:List Sl}{n:Nat}{x:Int}:x∈qx l n↔∃s:Nat,x=s/\s<n/\(l.getD s z6).res.isSome=true:=by
 unfold qx;rw[List.mem_map];constructor
 ·rintro⟨s,h1,rfl⟩;have:=List.mem_filter.1 h1;exact⟨s,rfl,List.mem_range.1 this.1,this.2⟩
 ·rintro⟨s,rfl,h1,h2⟩;exact⟨s,List.mem_filter.2 ⟨List.mem_range.2 h1,h2⟩,rfl⟩
theorem zk5(l:List Sl)(n:Nat):(qx l n).Nodup:=by
 unfold qx;refine zba (List.Pairwise.filter _ List.nodup_range) (λx _ y _ h=>by omega)
theorem zfm(H:Zh w J K NW N S A ex pe bl T made U F busy):Calls prog 41 #[.pointer (some ⟨J.m,0,none⟩)] w (zpm w (qx S.sls (K+1))):=by
 have k4:=H.P.head.cell (i:=4) rfl;have ml:=H.P.head.lt;have hK:=H.ks;have HH:=zh H;clear H;go_enter func41,ntmps41;go_wp2;go_loopw [3,10] (λv i wr=>∃k:Nat,k<=K+1/\i=.int .i64 k/\Hid (wr.ownsRow w.heap.size 3 1 v (qx S.sls k).length ((qx S.sls k).map (Value.int .i64)))/\Hid (Below w.heap.size w wr)) (λ_ i _=>K+1-(intOf i).toNat)
 case atStart=>exact⟨0,Nat.zero_le _,rfl,World.ownsRow_nil _ _ _ _,Below.refl _ _⟩
 case round =>
  obtain⟨k,hk,rfl,HO,HB⟩:=hrel;have HL:=zh (HH.below HB);have m4:=HL.P.head.cell (i:=4) rfl;have mlr:=HL.P.head.lt;by_cases A5:k<K+1
  ·obtain⟨y0,-,-,yl⟩:=HL.out.slot (s:=k) (by omega);have B0:(k:Int)<(K:Int)+1:=by omega
   have A0:=zh (zco S.sls k);have A6:=zbx S.sls k;obtain⟨l,hl⟩:=zx (qx S.sls k);rw[<-hl] at HO A0 A6;clear hl k4 ml;cases hr:(S.sl k).res with
   | none =>
    have e0:yx (S.sl k)=.pointer none:=by unfold yx;rw[hr]
    rw[e0] at y0;have A3:(S.sls.getD k z6).res.isSome=false:=by unfold Lm.sl at hr;rw[hr];rfl
    have A7:Hid (wr.ownsRow w.heap.size 3 1 u3 (qx S.sls (k+1)).length ((qx S.sls (k+1)).map (Value.int .i64))):=by
     unfold Hid;rw[A0.out,A3];simpa using HO.out
    clear hr e0 A3 HO A0 HL;go_wp2;go_roundw
    case rel=>exact⟨k+1,by omega,by go_num,A7.out,HB.out⟩
    case measure=>simp[intOf];omega
   | some r =>
    have e0:yx (S.sl k)=.pointer (some ⟨r.ad,0,none⟩):=by unfold yx;rw[hr]
    rw[e0] at y0;have A1:(S.sls.getD k z6).res.isSome=true:=by unfold Lm.sl at hr;rw[hr];rfl
    have hbs:w.heap.size<=wr.heap.size:=HB.out.size;have A2:∀u∈[Value.int .i64 (k:Int)],u.oneCell'=true:=λu hu=>by simp at hu;subst hu;rfl
    have A4:=zh A1;clear hr e0 A1;go_wp2_with (at_builtin;refine Zb rfl _ _ 25 rfl w.heap.size 3 (.int .i64 0) 1 8 underlying25 Zx rfl (by decide) _ l.length _ rfl (HO.out.alloc _) _ 1 1 [.int .i64 (k:Int)] rfl rfl (zv.madeAt rfl) A2 (by unfold maxLen;omega) (by omega) (Nat.le_trans hbs (by simp)) ?_);intro v4 w4 own4 gr4;have A8:Hid (Below w.heap.size w w4):=(zn HB.out).grown gr4 (Nat.le_trans hbs (by simp)) (λg hg=>(HO.out.lt g hg).1)
    have A9:Hid (w4.ownsRow w.heap.size 3 1 v4 (qx S.sls (k+1)).length ((qx S.sls (k+1)).map (Value.int .i64))):=by
     unfold Hid;rw[A0.out,if_pos A4.out,List.length_append,List.map_append];exact own4
    clear own4 gr4 A2 hbs A0 A4 HO HB;go_wp2;go_roundw
    case rel=>exact⟨k+1,by omega,by go_num,A9.out,A8.out⟩
    case measure=>simp[intOf];omega
  ·obtain rfl:k=K+1:=by omega
   clear A5;go_wp2;go_ret;exact⟨_,rfl,HO,HB⟩
end
theorem z2n(y:Int)(h0:0<=y)(h1:y<4294967296):bits .and .u64 y 4294967295=y:=by
 have ha:(BitVec.ofInt 64 y).toNat=y.toNat:=by rw[BitVec.toNat_ofInt];omega
 have key:(BitVec.ofInt 64 y &&& BitVec.ofInt 64 4294967295).toNat=y.toNat:=by
  rw[BitVec.toNat_and,ha];have:(BitVec.ofInt 64 4294967295).toNat=2 ^ 32-1:=by decide
  rw[this,Nat.and_two_pow_sub_one_eq_mod,Nat.mod_eq_of_lt (by omega)]
 show IntKind.u64.wrap ((BitVec.ofInt 64 y &&& BitVec.ofInt 64 4294967295).toNat:Nat)=y
 rw[key,IntKind.wrap_u64];omega
theorem z1w(y:Int)(w:World)(h0:0<=y)(h1:y<=1000000):Calls prog 223 #[.int .u64 1,.int .u64 y] w λe w'=>e=.returned (.tuple #[.int .u64 0,.int .u64 y])/\w=w':=by
 have a1:=z2n 1 (by decide) (by decide);have a2:=z2n y h0 (by omega);have a0:=z2n 0 (by decide) (by decide);have d1:y / 4294967296=0:=by omega
 have m1:y % 18446744073709551616=y:=by omega
 go_enter func223,ntmps223;go_wp2;go_ret2;exact⟨rfl,rfl⟩
theorem zvj(y:Int)(w:World)(h0:0<=y)(h1:y<=1000000):Calls prog 221 #[.int .u64 1,.int .u64 y] w λe w'=>e=.returned (.tuple #[.int .u64 0,.int .u64 y])/\w=w':=by
 have HM:=zh (z1w y w h0 h1);go_enter func221,ntmps221;go_wp2_with fail;go_call HM as e w' ⟨rfl,rfl⟩;go_wp2;go_ret2;exact⟨rfl,rfl⟩
def stR(n k:Nat):List Int:=List.replicate k 2++List.replicate (n-k) 0
theorem znz{n k m:Nat}(h:k+m<=n):splice (stR n k) k (List.replicate m 2)=stR n (k+m):=by
 unfold splice stR;have e1:(List.replicate k (2:Int)++List.replicate (n-k) 0).take k=List.replicate k 2:=by rw[List.take_append_of_le_length (by simp),List.take_of_length_le (by simp)]
 have e2:(List.replicate k (2:Int)++List.replicate (n-k) 0).drop (k+(List.replicate m (2:Int)).length)=List.replicate (n-(k+m)) 0:=by
  rw[List.drop_append,List.drop_of_length_le (by simp),List.nil_append];simp only[List.length_replicate,List.drop_replicate];congr 1;omega
 rw[e1,e2,<-List.append_assoc,List.replicate_append_replicate]
theorem zf3{k:IntKind}(l m:List Int)(i:Nat):splice (l.map (Value.int k)) i (m.map (Value.int k))=(splice l i m).map (Value.int k):=by
 unfold splice;simp[List.map_take,List.map_drop]
def znt(w:World)(n:Nat)(e:Ending)(w':World):Prop :=
 ∃g,e=.returned (.slice (some ⟨g,0,none⟩) n n)/\Row w' g 3 ((List.replicate n (2:Int)).map (Value.int .i64))/\w.heap.size<=g/\Below w.heap.size w w'
theorem zx3(n:Nat)(hn:n<=1000)(g0 c0:Nat)(w:World)(hr:zv w (some ⟨g0,0,none⟩) c0 [.int .i64 2]) :
 Calls prog 219 #[.slice (some ⟨g0,0,none⟩) 1 c0,.int .i64 n] w (znt w n):=by
 have HM:=zh (λz=>zvj (n:Int) z (by omega) (by omega));have HR:=zh hr;have C2:(n:Int) % 18446744073709551616=n:=by omega
 clear hr;go_enter func219,ntmps219;go_wp2_with fail;refine(HM _).mono ?_;rintro e w' ⟨rfl,rfl⟩;clear HM;go_wp2_with (at_make;refine qo rfl _ _ 25 rfl 3 (.int .i64 0) 8 underlying25 Zx rfl .i64 .i64 _ _ n rfl rfl rfl rfl (by omega) (by unfold maxLen;omega) ?_);intro w1 A5 B0;obtain⟨g,hg⟩:=zx (w.heap.size);rw[<-hg] at A5;have A0:Hid (w.heap.size<=g):=by rw[hg];exact Nat.le_refl _
 have A6:Below w.heap.size w w1:=B0.below (Nat.le_refl _) (by simp)
 have A7:Hid (Row w1 g 3 ((stR n 0).map (Value.int .i64))):=by
  unfold Hid stR;simpa[List.map_replicate] using A5
 have A1:=zh A6;have A8:=zh (HR.below A6);have C3:=zh hg;rw[<-hg];clear A5 B0 hg A6 HR;by_cases B4:n=0
 ·subst B4;go_wp2_with (refine xp rfl (.tmp 31) (.tmp 32) 25 25 rfl 3 underlying25 (by kernel_rfl) _ _ _ _ _ _ rfl rfl g 0 _ 3 A7.out [.int .i64 2] A8.out rfl (λh=>rfl) (by simp[stR]) (λv hv=>by simp at hv;subst hv;rfl) 0 rfl ?_);intro w2 A2 A3;have HF:Hid (znt w 0 (.returned (.slice (some ⟨g,0,none⟩) 0 0)) w2):=⟨g,rfl,by have:=A2;simp only[stR] at this;simpa[splice] using this,A0.out,A1.out.trans (A3.below A1.out.size (λx hx=>by simp at hx;subst hx;exact A0))⟩;clear A2 A3;go_wp2;refine wp_loop_rounds 1 ?_;rw[rounds_succ];go_wp2;go_ret;exact HF
 ·go_wp2_with (refine xp rfl (.tmp 31) (.tmp 32) 25 25 rfl 3 underlying25 (by kernel_rfl) _ _ _ _ _ _ rfl rfl g 0 _ 3 A7.out [.int .i64 2] A8.out rfl (λh=>rfl) (by simp[stR]) (λv hv=>by simp at hv;subst hv;rfl) 1 (by rw[List.take_of_length_le (by simp;omega)];rfl) ?_);intro w2 A2 A3
  have B5:Hid (Row w2 g 3 ((stR n 1).map (Value.int .i64))):=by
   have h1:=A2;rw[List.take_of_length_le (by simp;omega)] at h1
   have h2:splice ((stR n 0).map (Value.int .i64)) 0 ((List.replicate 1 (2:Int)).map (Value.int .i64))=(stR n 1).map (Value.int .i64):=by
    rw[zf3,znz (by omega)]
   unfold Hid;rw[<-h2];exact h1
  have B6:Hid (Below w.heap.size w w2):=A1.out.trans (A3.below A1.out.size (λx hx=>by simp at hx;subst hx;exact A0));clear A2 A3 A8 A7 A1;go_wp2;go_loopw [8] (λi wr=>∃k:Nat,1<=k/\k<=n/\i=.int .i64 k/\Hid (Row wr g 3 ((stR n k).map (Value.int .i64)))/\Hid (Below w.heap.size w wr)) (λi _=>n-(intOf i).toNat)
  case atStart=>exact⟨1,Nat.le_refl _,by omega,rfl,B5.out,B6.out⟩
  case round =>
   obtain⟨k,C4,hk,rfl,A9,A4⟩:=hrel;by_cases B7:k<n
   ·have B8:(k:Int)<(n:Int):=by omega
    go_wp2_with fail;refine zm (λ_=>True) (zp [0,1,2,3,4,5,6,1007,8,9]) (by kernel_rfl) (by kernel_rfl) (λ_ _ _ _ _ h=>h) trivial ?_
    (repeat (refine zi rfl (λK hK=>?_);go_simp;(try go_bits);refine hK _ ?_;clear hK K))
    have B1:zv wr.drew (some ⟨g,0,none⟩) n ((List.replicate k (2:Int)).map (Value.int .i64)):=by
     refine Row.reads (xs:=(stR n k).map (Value.int .i64)) A9.drew (λi u hu=>?_);rw[Nat.zero_add]
     have hi:i<k:=by
      have:=(List.getElem?_eq_some_iff.1 hu).1;simpa using this
     rw[List.getElem?_map] at hu ⊢;unfold stR;rw[List.getElem?_append_left (by simpa using hi)];exact hu
    refine zj rfl ?_;refine xp rfl (.tmp 41) (.tmp 44) 25 25 rfl 3 underlying25 (by kernel_rfl) _ _ _ _ _ _ rfl rfl g k _ 3 A9.out.drew _ B1 (by simp) (λh=>by rw[if_neg (by omega)]) (by first|(simp[stR];done)|(simp[stR];omega)) (λv hv=>by simp at hv;rw[hv.2];rfl) (min (n-k) k) (by simp) ?_;intro w5 B2 B3;obtain⟨m,hm⟩:=zx (min (n-k) k)
    have B9:Hid (Row w5 g 3 ((stR n (k+m)).map (Value.int .i64))):=by
     have h1:=B2;rw[<-List.map_take,zf3,List.take_replicate,<-hm,znz (by omega)] at h1;exact h1
    have C0:Hid (Below w.heap.size w w5):=A4.out.trans ((Zd (Below.refl _ wr)).mono A4.out.size |>.trans (B3.below A4.out.size (λx hx=>by simp at hx;subst hx;exact A0)));have C1:1<=m:=by omega
    have C5:k+m<=n:=by omega
    rw[<-hm];clear hm B2 B3 B1;go_wp2_with fail
    (try refine⟨trivial,?_⟩)
    (repeat (refine zi rfl (λK hK=>?_);go_simp;(try go_bits);refine hK _ ?_;clear hK K))
    refine zo ?_;go_wp2;go_roundw
    case rel=>exact⟨k+m,by omega,by omega,by go_num,B9.out,C0.out⟩
    case measure=>simp[intOf];omega
   ·obtain rfl:k=n:=by omega
    have HF:Hid (znt w k (.returned (.slice (some ⟨g,0,none⟩) k k)) wr):=by
     refine⟨g,rfl,?_,A0,A4⟩;have:=A9.out;unfold stR at this;simpa using this
    clear B7;go_wp2;go_ret;exact HF
def Z9(cls kind:Int)(n:Nat):Ob:=if kind=1 then⟨cls,1,List.replicate n 2,[]⟩ else⟨cls,2,[],List.replicate n 0⟩
theorem zg7{cls kind:Int}{n:Nat}(hc:yb cls=true)(hn:n<=1000):(Z9 cls kind n).good:=by
 unfold Z9;split
 ·refine⟨⟨hc,.inl ⟨rfl,rfl,by simp;exact hn,λx hx=>?_⟩⟩,λx hx=>by cases hx⟩;have:=(List.mem_replicate.1 hx).2;rw[this];rfl
 ·refine⟨⟨hc,.inr ⟨rfl,rfl,by simp;exact hn⟩⟩,λx hx=>?_⟩;have:=(List.mem_replicate.1 hx).2;rw[this];decide
theorem zlz{w w4:World}{p q:Nat}{d:Za}{o:Ob}(hp:p=w.heap.size)(hq:q=w.heap.size+1)(hb:Below w.heap.size w w4)(A4:Row w4 p 28 [.int .i64 0,.int .i64 0,.slice none 0 0,.slice none 0 0])(A5:d.ok w4)(A0:xn (w.heap.size+2) w4 d)
 {w5:World} (A2:Upd [q] w4 w5) {w6:World} (A3:w6=(((w5.setCell ⟨p,0,none⟩ (.int .i64 d.cls)).setCell ⟨p,1,none⟩ (.int .i64 d.kind)).setCell ⟨p,2,none⟩ (.slice d.wa d.wn d.wc)).setCell ⟨p,3,none⟩ (.slice d.ba d.bn d.bc)) :
 d.ok w6/\xn w.heap.size w6 d/\Below w.heap.size w w6/\Row w6 p 28 [.int .i64 d.cls,.int .i64 d.kind,.slice d.wa d.wn d.wc,.slice d.ba d.bn d.bc]:=by
 have u6:=z21 w5 p (.int .i64 d.cls) (.int .i64 d.kind) (.slice d.wa d.wn d.wc) (.slice d.ba d.bn d.bc);rw[<-A3] at u6;have u:Upd [p,q] w4 w6:=(A2.mono (λk hk=>by simp at hk;simp[hk])).trans (u6.mono (λk hk=>by simp at hk;simp[hk]));have hl:∀k∈[p,q],k<w.heap.size+2:=λk hk=>by simp at hk;omega
 have A1:Row w5 p 28 [.int .i64 0,.int .i64 0,.slice none 0 0,.slice none 0 0]:=A4.keep A2 (by simp;omega);refine⟨A5.keep A0 u hl,(A0.keep u hl).mono (by omega),hb.trans (u.below hb.size (λk hk=>by simp at hk;omega)),?_⟩;rw[A3];exact z3b A1 _ _ _ _
def zy5(w:World)(o:Ob)(e:Ending)(w':World):Prop :=
 ∃d:Za,e=.returned (.tuple #[.agg #[.int .i64 d.cls,.int .i64 d.kind,.slice d.wa d.wn d.wc,.slice d.ba d.bn d.bc],.bool true])/\d.ok w'/\xn w.heap.size w' d/\Is d o/\Below w.heap.size w w'
theorem zvi(cls kind:Int)(n:Nat)(hc:yb cls=true)(hk:kind=1\/kind=2)(hn:n<=1000)(w:World) :
 Calls prog 217 #[.int .i64 cls,.int .i64 kind,.int .i64 n] w (zy5 w (Z9 cls kind n)):=by
 have C7:2<=cls/\cls<=2147483646:=by
  unfold yb at hc;have:=of_decide_eq_true hc;omega
 have B7:=zh (λz=>jr cls z (by omega) (by omega));rw[hc] at B7;obtain⟨p,hp⟩:=zx (w.heap.size);have HP:=zh hp;obtain⟨q,hq⟩:=zx (w.heap.size+1);have HQ:=zh hq;rcases hk with rfl|rfl
 ·have C1:=zh (λz g0 c0 hr=>zx3 n hn g0 c0 z hr);obtain⟨wx,A3⟩:=zx ((((w.alloc (.cells #[.int .i64 0,.int .i64 0,.slice none 0 0,.slice none 0 0] 28)).alloc (.cells #[.int .i64 cls,.int .i64 1,.slice none 0 0,.slice none 0 0] 28)).alloc (.cells #[.int .i64 2] 3)));have B8:=zh A3;have A9:Below w.heap.size w wx:=by rw[A3];exact zn (zn (zn (Below.refl _ _)))
  have B0:Row wx p 28 [.int .i64 0,.int .i64 0,.slice none 0 0,.slice none 0 0]:=by rw[A3,hp];exact((Row.made _ _ _).alloc _).alloc _
  have B1:Row wx q 28 [.int .i64 cls,.int .i64 1,.slice none 0 0,.slice none 0 0]:=by
   rw[A3,hq];have:=Row.made (w.alloc (.cells #[.int .i64 0,.int .i64 0,.slice none 0 0,.slice none 0 0] 28)) [.int .i64 cls,.int .i64 1,.slice none 0 0,.slice none 0 0] 28;rw[World.size_alloc] at this;exact this.alloc _
  have C2:zv wx (some ⟨q+1,0,none⟩) 1 [.int .i64 2]:=by
   rw[A3];exact zv.madeAt (xs:=[.int .i64 2]) (by rw[World.size_alloc,World.size_alloc,hq])
  have C3:=zh (C1 wx _ _ C2);have B2:=zh A9;have B3:=zh B0;have B4:=zh B1;have B9:Hid (wx.heap.size=w.heap.size+3):=by unfold Hid;rw[A3];simp
  clear A3 A9 B0 B1 C2 C1 hc;go_enter func217,ntmps217;go_wp2_with fail;refine(B7 _).mono ?_;rintro e w' ⟨rfl,rfl⟩;go_wp2_with fail;rw[<-B8.out,<-hp,hp,<-hq,<-hp];go_call C3 as e w4 ⟨g,rfl,A6,C5,A5⟩;have A0:=B3.out.keep (l:=[]) (.of_below A5) (by simp);have A1:=B4.out.keep (l:=[]) (.of_below A5) (by simp);obtain⟨d,hd⟩:∃d:Za,d=⟨cls,1,some ⟨g,0,none⟩,n,n,List.replicate n 2,none,0,0,[]⟩:=⟨_,rfl⟩;have B5:=A6.reads (off:=0) (c:=n) (ys:=(List.replicate n (2:Int)).map (Value.int .i64)) (λi u h=>by simpa using h)
  have B6:d.ok w4:=by
   rw[hd];exact⟨by simp only;omega,by simp only;omega,by simp,by simp only;omega,B5,λx hx=>by simp at hx;omega,rfl,by simp only;omega,zv.nil _,λx hx=>by cases hx⟩
  have A4:xn (w.heap.size+2) w4 d:=by
   rw[hd];have h1:=A6.owns (base:=w.heap.size+2) (n:=n) (c:=n) (by have:=B9.out;omega) (by simp) (Nat.le_refl _) (by unfold maxLen;omega);rw[List.take_of_length_le (by simp)] at h1;exact⟨h1,World.ownsRow_nil _ _ _ _⟩
  have A2:=zh (λw5 w6 h5 h6=>zlz (w:=w) (d:=d) (o:=Z9 cls 1 n) HP HQ (B2.trans (A5.mono B2.size)) A0 B6 A4 (w5:=w5) h5 (w6:=w6) h6);rw[hd] at A2;dsimp only at A2;have C0:Hid (Is d (Z9 cls 1 n)):=by rw[hd];exact⟨rfl,rfl,rfl,rfl⟩
  have HD:=zh hd;have p0:=A0.cell (i:=0) rfl;have p1:=A0.cell (i:=1) rfl;have p2:=A0.cell (i:=2) rfl;have p3:=A0.cell (i:=3) rfl;have q0:=A1.cell (i:=0) rfl;have q1:=A1.cell (i:=1) rfl;have q2:=A1.cell (i:=2) rfl;have q3:=A1.cell (i:=3) rfl;have pf0:=A0.free 0;have pf1:=A0.free 1;have pf2:=A0.free 2;have pf3:=A0.free 3;have qf2:=A1.free 2;have pl:=A0.lt;have ql:=A1.lt;have C6:p≠q:=by omega
  clear A6 C5 A5 A0 A1 B6 A4 B5 hd C3 B3 B4 hp hq;go_wp2;obtain⟨w6,A7⟩:=zx (((((w4.setCell ⟨q,2,none⟩ (.slice (some ⟨g,0,none⟩) n n)).setCell ⟨p,0,none⟩ (.int .i64 cls)).setCell ⟨p,1,none⟩ (.int .i64 1)).setCell ⟨p,2,none⟩ (.slice (some ⟨g,0,none⟩) n n)).setCell ⟨p,3,none⟩ (.slice none 0 0));obtain⟨e1,e2,e3,e4⟩:=A2.out _ w6 ((Upd.refl [q] w4).setCell (by simp) (.slice (some ⟨g,0,none⟩) n n)) A7;have c0:=e4.cell (i:=0) rfl;have c1:=e4.cell (i:=1) rfl;have c2:=e4.cell (i:=2) rfl;have c3:=e4.cell (i:=3) rfl;rw[<-A7];clear A7 p0 p1 p2 p3 q0 q1 q2 q3 pf0 pf1 pf2 pf3 qf2 pl ql e4;refine bodyPost_ret (by rw[results_cell_tmp rfl];go_simp;rfl) rfl ?_;exact⟨d,by rw[HD.out],by rw[HD.out];exact e1,by rw[HD.out];exact e2,C0,e3⟩
 ·obtain⟨wx,A3⟩:=zx (((w.alloc (.cells #[.int .i64 0,.int .i64 0,.slice none 0 0,.slice none 0 0] 28)).alloc (.cells #[.int .i64 cls,.int .i64 2,.slice none 0 0,.slice none 0 0] 28)));have B8:=zh A3;have A9:Below w.heap.size w wx:=by rw[A3];exact zn (zn (Below.refl _ _))
  have B0:Row wx p 28 [.int .i64 0,.int .i64 0,.slice none 0 0,.slice none 0 0]:=by rw[A3,hp];exact(Row.made _ _ _).alloc _
  have B1:Row wx q 28 [.int .i64 cls,.int .i64 2,.slice none 0 0,.slice none 0 0]:=by
   rw[A3,hq];have:=Row.made (w.alloc (.cells #[.int .i64 0,.int .i64 0,.slice none 0 0,.slice none 0 0] 28)) [.int .i64 cls,.int .i64 2,.slice none 0 0,.slice none 0 0] 28;rw[World.size_alloc] at this;exact this
  have B2:=zh A9;have B3:=zh B0;have B4:=zh B1;have B9:Hid (wx.heap.size=w.heap.size+2):=by unfold Hid;rw[A3];simp
  clear A3 A9 B0 B1 hc;go_enter func217,ntmps217;go_wp2_with fail;refine(B7 _).mono ?_;rintro e w' ⟨rfl,rfl⟩;go_wp2_with (at_make;refine qo rfl _ _ 26 rfl 5 (.int .u8 0) 1 underlying26 (by kernel_rfl) rfl .i64 .i64 _ _ n rfl rfl rfl rfl (by omega) (by unfold maxLen;omega) ?_);rw[<-B8.out,<-hp,hp,<-hq,<-hp];intro w4 A8 C4;obtain⟨g,hg⟩:=zx (q+1);rw[<-hg] at A8 ⊢;have A6:Row w4 g 5 ((List.replicate n (0:Int)).map (Value.int .u8)):=by rw[List.map_replicate];exact A8
  have A5:Below wx.heap.size wx w4:=C4.below (Nat.le_refl _) (by simp);have A0:=B3.out.keep (l:=[]) (.of_below A5) (by simp);have A1:=B4.out.keep (l:=[]) (.of_below A5) (by simp);obtain⟨d,hd⟩:∃d:Za,d=⟨cls,2,none,0,0,[],some ⟨g,0,none⟩,n,n,List.replicate n 0⟩:=⟨_,rfl⟩;have B5:=A6.reads (off:=0) (c:=n) (ys:=(List.replicate n (0:Int)).map (Value.int .u8)) (λi u h=>by simpa using h)
  have B6:d.ok w4:=by
   rw[hd];exact⟨by simp only;omega,by simp only;omega,rfl,by simp only;omega,zv.nil _,(λx hx=>by cases hx),by simp,by simp only;omega,B5,λx hx=>by simp at hx;omega⟩
  have A4:xn (w.heap.size+2) w4 d:=by
   rw[hd];have h1:=A6.owns (base:=w.heap.size+2) (n:=n) (c:=n) (by have:=B9.out;omega) (by simp) (Nat.le_refl _) (by unfold maxLen;omega);rw[List.take_of_length_le (by simp)] at h1;exact⟨World.ownsRow_nil _ _ _ _,h1⟩
  have A2:=zh (λw5 w6 h5 h6=>zlz (w:=w) (d:=d) (o:=Z9 cls 2 n) HP HQ (B2.trans (A5.mono B2.size)) A0 B6 A4 (w5:=w5) h5 (w6:=w6) h6);rw[hd] at A2;dsimp only at A2;have C0:Hid (Is d (Z9 cls 2 n)):=by rw[hd];exact⟨rfl,rfl,rfl,rfl⟩
  have HD:=zh hd;have p0:=A0.cell (i:=0) rfl;have p1:=A0.cell (i:=1) rfl;have p2:=A0.cell (i:=2) rfl;have p3:=A0.cell (i:=3) rfl;have q0:=A1.cell (i:=0) rfl;have q1:=A1.cell (i:=1) rfl;have q2:=A1.cell (i:=2) rfl;have q3:=A1.cell (i:=3) rfl;have pf0:=A0.free 0;have pf1:=A0.free 1;have pf2:=A0.free 2;have pf3:=A0.free 3;have qf3:=A1.free 3;have pl:=A0.lt;have ql:=A1.lt;have C6:p≠q:=by omega
  clear A6 A8 A5 C4 A0 A1 B6 A4 B5 hd B3 B4 hp hq hg;go_wp2;obtain⟨w6,A7⟩:=zx (((((w4.setCell ⟨q,3,none⟩ (.slice (some ⟨g,0,none⟩) n n)).setCell ⟨p,0,none⟩ (.int .i64 cls)).setCell ⟨p,1,none⟩ (.int .i64 2)).setCell ⟨p,2,none⟩ (.slice none 0 0)).setCell ⟨p,3,none⟩ (.slice (some ⟨g,0,none⟩) n n));obtain⟨e1,e2,e3,e4⟩:=A2.out _ w6 ((Upd.refl [q] w4).setCell (by simp) (.slice (some ⟨g,0,none⟩) n n)) A7;have c0:=e4.cell (i:=0) rfl;have c1:=e4.cell (i:=1) rfl;have c2:=e4.cell (i:=2) rfl;have c3:=e4.cell (i:=3) rfl;rw[<-A7];clear A7 p0 p1 p2 p3 q0 q1 q2 q3 pf0 pf1 pf2 pf3 qf3 pl ql e4;refine bodyPost_ret (by rw[results_cell_tmp rfl];go_simp;rfl) rfl ?_;exact⟨d,by rw[HD.out],by rw[HD.out];exact e1,by rw[HD.out];exact e2,C0,e3⟩
section
variable{w:World}{J:LmI}{K NW N:Nat}{S:Lm}{A:Nat->Option Ob}{ex:List Int}{pe bl:Nat->Prop}{T:Tb}{made U:Nat}{F:Nat->Nat}{busy:Nat}
def zzp(w:World)(J:LmI)(K NW N:Nat)(A:Nat->Option Ob)(made U:Nat)(F:Nat->Nat)(o:Ob)(e:Ending)(w':World):Prop :=
 LU J w w'/\e=.returned (.tuple #[.int .i64 (2*((made:Int)+1)),.int .i64 0])/\∃S' T' f,Zh w' J K NW N S' (upF A (made+1) (some o)) [] (λ_=>False) (λ_=>False) T' (made+1) (U+obN o) (upF F (made+1) f) 0
theorem zu1(H:Zh w J K NW N S A [] (λ_=>False) (λ_=>False) T made U F 0)(cls kind:Int)(n:Nat)(hc:yb cls=true)(hk:kind=1\/kind=2)(hn:n<=1000)(hm:made<1000000)(hU:U+obN (Z9 cls kind n)<=N) :
 Calls prog 214 #[.pointer (some ⟨J.m,0,none⟩),.int .i64 cls,.int .i64 kind,.int .i64 n] w (zzp w J K NW N A made U F (Z9 cls kind n)):=by
 have HB:=zh (zvi cls kind n hc hk hn w);have B3:=zg7 (kind:=kind) hc hn;have HG:=zh B3;have HH:=zh H;have ml:=H.P.head.lt;have C7:=zh (λx z=>zhi x z);obtain⟨o,ho⟩:=zx (Z9 cls kind n);rw[<-ho] at HB HG hU ⊢;clear H B3 hc hk ho;go_enter func214,ntmps214;go_wp2_with fail;go_call HB as e w1 ⟨d,rfl,B4,A8,B5,A9⟩;have A4:=zh (HH.below A9);have B6:=zh (LU.of_below (J:=J) A9);have B0:=zh B4;have B7:=zh B5;clear B4 A8 B5 A9 HB HH;have ml1:=A4.P.head.lt;go_wp2_with fail;obtain⟨p,hp⟩:=zx (w1.heap.size);obtain⟨w5,A5⟩:=zx (w1.alloc (.cells #[.int .i64 d.cls,.int .i64 d.kind,.slice d.wa d.wn d.wc,.slice d.ba d.bn d.bc] 28));have A6:Below w1.heap.size w1 w5:=by rw[A5];exact zn (Below.refl _ _)
 have B8:Row w5 p 28 [.int .i64 d.cls,.int .i64 d.kind,.slice d.wa d.wn d.wc,.slice d.ba d.bn d.bc]:=by rw[A5,hp];exact Row.made _ _ _
 rw[<-A5,<-hp];have B9:∀k∈J.fix,k<p:=by rw[hp];exact A4.fixlt
 have A0:=zh ((A4.below A6).below (Zd (Below.refl _ _)));have C0:=zh ((B6.trans (.of_below A6)).trans (.of_below (Zd (Below.refl _ _))));have B1:=zh ((B0.below A6).below (Zd (Below.refl _ _)));have A1:=zh B8.drew;have C8:=zh B9
 have C1:d.wn<=1000000:=by
  rw[B0.out.wl,B7.out.W];rcases HG.out.kinds with⟨_,_,a,_⟩|⟨_,a,_⟩
  ·omega
  ·rw[a];simp
 have C2:Calls prog 218 #[.pointer (some ⟨J.I.s,0,none⟩),.agg #[.int .i64 d.cls,.int .i64 d.kind,.slice d.wa d.wn d.wc,.slice d.ba d.bn d.bc]] w5.drew (zpj J.I T made U N F o w5.drew):=zuu A0.P.sec o d B1 C1 B7 HG hm hU;have C3:=zh C2
 have C9:=zh (show A (made+1)=none from by
  have h1:=A0.hasA (made+1);cases ha:A (made+1) with
  | none=>rfl
  | some x =>
   rw[ha] at h1;obtain⟨y,hy⟩:=Option.isSome_iff_exists.1 h1;have:=(A0.out.P.sec.ids _ (Zl hy)).2;simp only at this
   omega)
 clear A5 hp A6 B8 B9 C1 C2 A4 B6 B0
 have HS:Hid (w5.drew.cell? ⟨J.m,0,none⟩=some (.pointer (some ⟨J.I.s,0,none⟩))/\w5.drew.cell? ⟨p,0,none⟩=some (.int .i64 d.cls)/\w5.drew.cell? ⟨p,1,none⟩=some (.int .i64 d.kind)/\w5.drew.cell? ⟨p,2,none⟩=some (.slice d.wa d.wn d.wc)/\w5.drew.cell? ⟨p,3,none⟩=some (.slice d.ba d.bn d.bc)) :=
  ⟨A0.out.P.head.cell (i:=0) rfl,A1.out.cell (i:=0) rfl,A1.out.cell (i:=1) rfl,A1.out.cell (i:=2) rfl,A1.out.cell (i:=3) rfl⟩
 refine zm (λz=>z.cell? ⟨J.m,0,none⟩=some (.pointer (some ⟨J.I.s,0,none⟩))/\z.cell? ⟨p,0,none⟩=some (.int .i64 d.cls)/\z.cell? ⟨p,1,none⟩=some (.int .i64 d.kind)/\z.cell? ⟨p,2,none⟩=some (.slice d.wa d.wn d.wc)/\z.cell? ⟨p,3,none⟩=some (.slice d.ba d.bn d.bc)) (zp [0,1,2,3,4,1005,6,7,8,9,10]) (by kernel_rfl) (by kernel_rfl) (λ_ _ _ _ _ h=>h) (HS.out) ?_;generalize w5.drew=w6 at *
 (repeat (refine zi rfl (λK hK=>?_);go_simp;(try go_bits);refine hK _ ?_;clear hK K))
 refine zl (.pointer (some ⟨J.I.s,0,none⟩)) rfl rfl (λx hS=>by obtain⟨s0,s1,s2,s3,s4⟩:=hS;go_simp) ?_
 (repeat (refine zi rfl (λK hK=>?_);go_simp;(try go_bits);refine hK _ ?_;clear hK K))
 refine zl (.agg #[.int .i64 d.cls,.int .i64 d.kind,.slice d.wa d.wn d.wc,.slice d.ba d.bn d.bc]) rfl rfl (λx hS=>by obtain⟨s0,s1,s2,s3,s4⟩:=hS;go_simp) ?_;refine zj rfl ?_;go_wp2_with fail;go_call C3 as e w7 ⟨rfl,⟨f,C4⟩,A7⟩;have B2:=A0.P.sec' A7 (λk hk=>hk) C4;have A2:=A1.out.keep A7 (λhm=>by have:=C8.out p (by simp[LmI.fix,hm]);omega)
 have D0:Hid (w7.cell? ⟨J.m,0,none⟩=some (.pointer (some ⟨J.I.s,0,none⟩))/\w7.cell? ⟨p,0,none⟩=some (.int .i64 d.cls)/\w7.cell? ⟨p,1,none⟩=some (.int .i64 d.kind)/\w7.cell? ⟨p,2,none⟩=some (.slice d.wa d.wn d.wc)/\w7.cell? ⟨p,3,none⟩=some (.slice d.ba d.bn d.bc)) :=
  ⟨B2.head.cell (i:=0) rfl,A2.cell (i:=0) rfl,A2.cell (i:=1) rfl,A2.cell (i:=2) rfl,A2.cell (i:=3) rfl⟩
 have A3:=A0.out.inv.make (i:=made+1) (by omega) C9.out HG.out
 have C5:upF S.dk (made+1) (some o)=zt (T++[(made+1,o)]):=by
  funext j;rw[zbt (λp hp=>(A0.out.P.sec.ids p hp).2),A0.out.dk];rfl
 have HF:Hid (zzp w J K NW N A made U F o (.returned (.tuple #[.int .i64 (2*((made:Int)+1)),.int .i64 0])) w7) :=
  ⟨C0.out.trans (.disk A7 (λk hk=>hk)),rfl,{ S with dk:=upF S.dk (made+1) (some o) },T++[(made+1,o)],f,⟨B2,C5,A3,A0.out.ks⟩⟩
 have D1:za1 ((made:Int)+1)=2*((made:Int)+1):=jm (by omega);have C6:((made+1:Nat):Int)=(made:Int)+1:=by omega
 rw[C6];clear B2 A2 A3 C5 C4 A7 C3 A0 C0 A1 C6;go_wp2_with fail;refine⟨D0,?_⟩
 (repeat (refine zi rfl (λK hK=>?_);go_simp;(try go_bits);refine hK _ ?_;clear hK K))
 refine zo ?_;go_wp2_with fail;refine(C7 _ _).mono ?_;rintro e w8 ⟨rfl,rfl⟩;rw[D1];go_wp2;go_ret2;exact HF
end
def zad(K:Nat):Lm:=⟨List.replicate (K+1) z6,λ_=>none,λ_=>none⟩
theorem jo(K s:Nat):(zad K).sl s=z6:=by
 unfold Lm.sl zad;rw[zg,List.getElem?_replicate];split<;>rfl
theorem zt5(K:Nat)(hK:K<=16383):qn (zad K) (λ_=>none) K [] (λ_=>False) (λ_=>False):=by
 refine⟨by simp[zad],hK,jo K 0,?_,?_,?_,?_,(λw hw=>by cases hw),?_,(λ_ _=>rfl),(λ_=>⟨λ_=>rfl,λ_=>rfl⟩),?_,?_,?_,?_,(λi o h=>by cases h),rfl,?_⟩
 ·intro s t h1;rw[jo] at h1;exact absurd rfl h1
 ·intro s h1;rw[jo] at h1;exact absurd rfl h1
 ·intro s h1;rw[jo] at h1;rcases h1 with h|h
  ·exact absurd rfl h
  ·exact absurd h (by decide)
 ·intro s _
  have:(zad K).tot s=0:=zf1 (λx hx=>by
   obtain⟨t,_,rfl⟩:=zc6 hx
   exact congrArg Sl.res (jo K t)) s
  rw[this,jo,zau];rfl
 ·intro s r h;rw[jo] at h;cases h
 ·intro k;refine⟨λh=>absurd rfl h,λh=>?_⟩;rcases h with⟨s,r,h,_⟩|h
  ·rw[jo] at h;cases h
  ·exact h.elim
 ·intro s t r q h;rw[jo] at h;cases h
 ·intro s r h;rw[jo] at h;cases h
 ·intro s t r q h;rw[jo] at h;cases h
 ·intro s;rw[jo];decide
theorem zkd:∀n,zmi (.pointer none) (.int .i64 0) (.int .i64 0) n=ja (List.replicate n z6)
 | 0=>rfl
 | n+1=>by
  have ih:=zkd n;have e:List.replicate (n+1) z6=List.replicate n z6++[z6]:=List.replicate_succ';unfold ja at ih ⊢;rw[e,List.flatMap_append,<-ih];rfl
theorem zt7(K:Nat):xa (zad K).sls=List.replicate K 0:=by
 unfold xa zad;simp[z6]
theorem zt6(K:Nat):zc0 (zad K).sls=List.replicate (K+1) false:=by
 unfold zc0 zad;simp[z6]
theorem zxg:(prog.info? 84).map (λi=>(i.zero,i.size,i.bytes))=some (some (.agg #[.pointer none,.int .i64 0,.int .i64 0]),3,24):=by kernel_rfl
theorem zq4(N:Nat)(w:World)(hN:N<=16383):Calls prog 25 #[.int .i64 N] w λe w'=>∃t gi gh,e=.returned (.tuple #[.pointer (some ⟨t,0,none⟩),.int .i64 0])/\w.heap.size<=t/\w.heap.size<=gi/\w.heap.size<=gh/\Tab w' t gi gh N (List.replicate N 0)/\Upd [] w w':=by
 refine(z4s N w (by omega) (by omega)).mono ?_;intro e w' h;unfold zen at h;rw[if_neg (by omega),Int.toNat_natCast] at h;exact h
def z6m(w:World)(N NW K:Nat)(e:Ending)(w':World):Prop :=
 ∃J:LmI,e=.returned (.tuple #[.pointer (some ⟨J.m,0,none⟩),.int .i64 0])/\Zh w' J K NW N (zad K) (λ_=>none) [] (λ_=>False) (λ_=>False) [] 0 0 (λ_=>0) 0/\(∀k∈J.fix,w.heap.size<=k)/\w.heap.size<=J.B/\Below w.heap.size w w'
theorem zuz(N NW K:Nat)(w:World)(hN:N<=20000)(D3:NW<=32768)(hK:K<=800) :
 Calls prog 5 #[.int .i64 N,.int .i64 NW,.int .i64 K] w (z6m w N NW K):=by
 have H1:=zh (zx2 N w hN);go_enter func5,ntmps5;go_wp2_with fail;go_call H1 as e w1 ⟨I,rfl,B7,B8,B9⟩;have B0:=zh B7;have C0:=zh B9;have D4:=zh B8;clear B7 B8 B9 H1;have H2:=zh (z50 NW w1 D3);go_wp2_with fail;go_call H2 as e w2 ⟨h,g,rfl,C1,C2⟩;have B1:Below w1.heap.size w1 w2:=C2.belowB (Nat.le_refl _)
 have C3:Hid (HV w2 w1.heap.size h g NW (λ_=>none) (K+3)):=by
  refine⟨zzc NW,⟨C1,z0s NW⟩,rfl,?_,by simp[zzc]⟩;funext k;exact(zal.2 (λhm=>by cases hm)).symm
 have D5:=zh (B0.below B1);have C4:=zh B1;clear C1 C2 B1 H2;have H3:=zh (zq4 K w2 (by omega));go_wp2_with fail;go_call H3 as e w3 ⟨t,gi,gh,rfl,ht,E5,E6,A3,C5⟩;have A6:Below w2.heap.size w2 w3:=C5.below (Nat.le_refl _) (by simp);have D6:=zh (D5.below A6);have C6:=zh (C3.below A6);have C7:=zh A3;have C8:=zh A6;clear A3 C5 A6 H3;have H4:=zh (zyn (K+1) w3 (by omega) (by omega));have ek:((K+1:Nat):Int)=(K:Int)+1:=by omega
 rw[ek] at H4;clear ek;go_wp2_with fail;go_call H4 as e w4 ⟨c,cp,rfl,A4,hc,E7,A2⟩;have D7:=zh (D6.below A2);have C9:=zh (C6.below A2)
 have D8:Hid (Tab w4 t gi gh K (List.replicate K 0)):=by
  obtain⟨hash,h1⟩:=C7.out;exact⟨hash,h1.head.keep (l:=[]) (.of_below A2) (by simp),h1.ri.keep (l:=[]) (.of_below A2) (by simp),h1.ra.keep (l:=[]) (.of_below A2) (by simp),h1.good,h1.small,h1.n1,h1.n2,h1.n3⟩
 have A7:=zh A4;have D0:=zh A2;clear A4 A2 H4;go_wp2_with (at_make;refine zhk rfl _ _ 67 rfl 84 (.agg #[.pointer none,.int .i64 0,.int .i64 0]) (.pointer none) (.int .i64 0) (.int .i64 0) 24 underlying67 zxg rfl .i64 .i64 _ _ (K+1) rfl rfl (by omega) (by omega) (by omega) (by unfold maxLen;omega) ?_);intro w5 A8 D9;rw[zkd] at A8;obtain⟨sl,A9⟩:=zx (w4.heap.size);rw[<-A9] at A8 ⊢;have E0:Below w4.heap.size w4 w5:=D9.below (Nat.le_refl _) (by simp);have E8:=A8.lt;have B2:=zh A9;clear A9;go_wp2;have A9:=B2.out;obtain⟨m,hm⟩:=zx (w5.heap.size);obtain⟨w6,B3⟩:=zx (w5.alloc (.cells #[.pointer (some ⟨I.s,0,none⟩),.pointer (some ⟨h,0,none⟩),.pointer (some ⟨t,0,none⟩),.pointer (some ⟨c,0,none⟩),.slice (some ⟨sl,0,none⟩) (K+1) (K+1),.int .i64 0] 69));rw[<-B3,<-hm];have D1:Below w5.heap.size w5 w6:=by rw[B3];exact zn (Below.refl _ _)
 have E1:Row w6 m 69 [.pointer (some ⟨I.s,0,none⟩),.pointer (some ⟨h,0,none⟩),.pointer (some ⟨t,0,none⟩),.pointer (some ⟨c,0,none⟩),.slice (some ⟨sl,0,none⟩) (K+1) (K+1),.int .i64 0]:=by rw[B3,hm];exact Row.made _ _ _
 have A1:=zy E0 D1;have k:∀ {x:Nat} {ty:TypeId} {xs:List Value},Row w4 x ty xs->Row w6 x ty xs:=λhr=>hr.keep (l:=[]) (.of_below A1) (by simp)
 go_ret2;obtain⟨J,hJ⟩:∃J:LmI,J=⟨m,sl,I,w1.heap.size,h,g,t,gi,gh,c,cp⟩:=⟨_,rfl⟩;obtain⟨hash,A0⟩:=D8.out;obtain⟨ch,E9,E2⟩:=A7.out.head;obtain⟨tc,F0,B4⟩:=A7.out.data;obtain⟨SH,⟨⟨vb,hx⟩,-⟩,-⟩:=C9.out.at_;have z1:=C0.out.size;have z2:=C4.out.size;have z3:=C8.out.size;have z4:=D0.out.size;have l1:=B0.out.lt;have l3:=C6.out;have tl:=A0.head.lt;obtain⟨D2,B5⟩:=C7.out;have tl3:=B5.head.lt;have til3:=B5.ri.lt;have tal3:=B5.ra.lt;obtain⟨SH2,⟨⟨vb2,A5⟩,-⟩,-⟩:=C3.out.at_;have F1:=A5.head.lt;have gl2:=A5.data.lt;have cl:=E2.lt;have cpl:=B4.lt;have B6:=A7.out.ne;have E3:=B0.out.ne;refine⟨J,by rw[hJ];rfl,?_,?_,by rw[hJ];exact z1,?_⟩
 ·rw[hJ];refine⟨⟨E1,?_,by simp[zad],?_,D7.out.below A1,C9.out.below A1,?_,?_,?_,?_,by omega⟩,rfl,zt5 K (by omega),hK⟩
  ·exact A8.keep (l:=[]) (.of_below D1) (by simp)
  ·intro s r hr;have:((zad K).sls.getD s z6).res=none:=congrArg Sl.res (jo K s);rw[this] at hr;cases hr
  ·rw[zt7];exact⟨hash,k A0.head,k A0.ri,k A0.ra,A0.good,A0.small,A0.n1,A0.n2,A0.n3⟩
  ·rw[zt6];exact A7.out.keep (l:=[]) (.of_below A1) (by simp) (by simp)
  ·show(m::sl::t::gi::gh::c::cp::I.all).Nodup
   have n1:=A0.n1;have n2:=A0.n2;have n3:=A0.n3;have hI:∀x,w1.heap.size<=x->x∉I.all:=λx hx E4=>by have:=l1 x E4;omega
   simp only[List.nodup_cons,List.mem_cons,not_or];refine⟨⟨by omega,by omega,by omega,by omega,by omega,by omega,hI _ (by omega)⟩,⟨by omega,by omega,by omega,by omega,by omega,hI _ (by omega)⟩,⟨n1,n2,by omega,by omega,hI _ (by omega)⟩,⟨n3,by omega,by omega,hI _ (by omega)⟩,⟨by omega,by omega,hI _ (by omega)⟩,⟨B6,hI _ (by omega)⟩,hI _ (by omega),E3⟩
  ·intro x hx;exact l1 x hx
 ·rw[hJ];intro x hx;simp only[LmI.fix,List.mem_cons] at hx;rcases hx with rfl|rfl|rfl|rfl|rfl|rfl|rfl|hx
  all_goals first|omega|exact D4.out _ hx
 ·exact zy (zy (zy (zy (C0) C4) C8) D0) A1
section
variable{w:World}{J:LmI}{K NW N:Nat}{S:Lm}{A:Nat->Option Ob}{ex:List Int}{pe bl:Nat->Prop}{T:Tb}{made U:Nat}{F:Nat->Nat}{busy:Nat}
theorem zq6(H:Zh w J K NW N S A [] (λ_=>False) bl T made U F busy)(hA:∀i,A i=none) :
 Calls prog 20 #[.pointer (some ⟨J.m,0,none⟩)] w λe w'=>e=.returned (.tuple #[.int .i64 0,.int .i64 0,.int .i64 0])/\Below w.heap.size w w':=by
 have A1:=H.inv.empty hA
 have hh:qx S.sls (K+1)=[]:=by
  unfold qx;rw[List.map_eq_nil_iff,List.filter_eq_nil_iff];intro s _;have h:=(A1 s).1;unfold Lm.sl at h;rw[h];simp
 have HL:=zh (zfm H);rw[hh] at HL
 have A2:live (xa S.sls)=0:=by
  unfold live;rw[List.length_eq_zero_iff,List.filter_eq_nil_iff];intro x hx;obtain⟨i,hi,rfl⟩:=List.getElem_of_mem hx;have h:=wz S.sls i;rw[zg,ze hi] at h;have h2:=(A1 (i+1)).2;unfold Lm.sl at h2;rw[h2] at h;simp at h;simp[h]
 have HH:=zh H;have ml:=H.P.head.lt;have A4:=zh A2;clear H A1 hh A2;go_enter func20,ntmps20;go_wp2_with fail;go_call HL as e w1 ⟨v,rfl,own,hb⟩;obtain⟨a,c,rfl,-,-,-⟩:=zk own;have A0:=zh (HH.below hb);have HB:=zh hb;have m2:=A0.P.head.cell (i:=2) rfl;have ml1:=A0.P.head.lt;have A3:=zh (z4u J.t J.gi J.gh K (xa S.sls) w1 A0.P.nam);rw[A4.out] at A3;clear own hb HL HH A0;go_wp2;refine wp_loop_rounds 1 ?_;rw[rounds_succ];go_wp2_with fail;go_call A3 as e w2 ⟨rfl,rfl⟩;go_wp2;go_ret3;exact⟨rfl,HB⟩
end
end Go.Proofs.YtoeibiahbenpcaaGreatDoor
