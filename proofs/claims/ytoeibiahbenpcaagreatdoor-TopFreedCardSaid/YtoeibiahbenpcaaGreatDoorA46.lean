/- Part. -/
import Derived.Test.YtoeibiahbenpcaaGreatDoorA45
namespace Go.Proofs.YtoeibiahbenpcaaGreatDoor
open RowKit Maps Proofs.Tryz
set_option linter.unusedVariables false
set_option maxRecDepth 99999
set_option maxHeartbeats 9000000
theorem zyh(w:World):Calls prog 125 #[.slice none 0 0,.int .i64 0] w λe w'=>e=.returned (.tuple #[.int .i64 0,.int .i64 2])/\w=w':=by
 go_enter func125,ntmps125;go_wp2;go_ret2;exact⟨rfl,rfl⟩
theorem zoz{w:World}{r:Nat}{b:Bool}(hr:Row w r 217 [.slice none 0 0,.bool b]) :
 Calls prog 145 #[.pointer (some ⟨r,0,none⟩)] w λe w'=>e=.returned (.int .i64 0)/\w'=w.setCell ⟨r,1,none⟩ (.bool true):=by
 have HG:=zh (zyh w);have r0:=hr.cell (i:=0) rfl;have r1:=hr.cell (i:=1) rfl;have f1:=hr.free 1;have rl:=hr.lt;clear hr;go_enter func145,ntmps145;go_wp2_with fail;go_call HG as e w2 ⟨rfl,rfl⟩;go_wp2;go_ret;exact⟨rfl,rfl⟩
theorem znq(w:World):Calls prog 108 #[.slice none 0 0] w λe w'=>e=.returned (.tuple #[.agg #[.slice none 0 0,.int .i64 0],.int .i64 180])/\Below w.heap.size w w':=by
 obtain⟨W2,A0⟩:=zx ((w.alloc (.cells #[.slice none 0 0,.int .i64 0] 24)).alloc (.cells #[.slice none 0 0,.bool false] 217));have b2:Below w.heap.size w W2:=by rw[A0];exact zn (zn (Below.refl _ _))
 have r1:Row W2 w.heap.size 24 [.slice none 0 0,.int .i64 0]:=by rw[A0];exact(Row.made w _ _).alloc _
 have r2:Row W2 (w.heap.size+1) 217 [.slice none 0 0,.bool false]:=by
  rw[A0];have:=Row.made (w.alloc (.cells #[.slice none 0 0,.int .i64 0] 24)) [.slice none 0 0,.bool false] 217;simpa using this
 obtain⟨p,hp⟩:=zx (w.heap.size);obtain⟨r,hr⟩:=zx (w.heap.size+1);have B0:=zh A0;have HP:=zh hp;have HR:=zh hr;rw[<-hp] at r1;rw[<-hr] at r2;have HB:=zh b2;have H1:=zh r1;have H2:=zh r2;clear A0 hp hr b2 r1 r2;go_enter func108,ntmps108;go_wp2_with fail;rw[<-B0.out,<-HR.out,<-HP.out];have A5:=zh (zoz H2);go_call A5 as e W3 ⟨rfl,A3⟩;have u3:Upd [r] W2 W3:=by rw[A3];exact(Upd.refl [r] W2).setCell (by simp) _
 have H3:Hid (Row W3 r 217 [.slice none 0 0,.bool true]):=by rw[A3];exact H2.set 1 _
 have A6:=zh u3;have A7:=zh (zoz H3);clear A3 u3 A5;go_wp2_with fail;go_call A7 as e W4 ⟨rfl,A4⟩;have u4:Upd [r] W3 W4:=by rw[A4];exact(Upd.refl [r] W3).setCell (by simp) _
 have H4:Hid (Row W4 r 217 [.slice none 0 0,.bool true]):=by rw[A4];exact H3.set 1 _
 have A8:=zh (A6.trans u4);clear A4 u4 A7;obtain⟨W5,A1⟩:=zx (W4.alloc (.cells #[.slice none 0 0,.int .i64 0] 24));have B1:=zh A1;have u5:Upd [r] W2 W5:=by rw[A1];exact A8.alloc _
 have A9:Hid (Below w.heap.size w W5):=HB.out.trans (u5.below HB.out.size (λk hk=>by simp at hk;subst hk;have:=HR.out;omega));have H5:Hid (Row W5 r 217 [.slice none 0 0,.bool true]):=by rw[A1];exact H4.alloc _
 have H6:Hid (Row W5 p 24 [.slice none 0 0,.int .i64 0]):=H1.out.keep u5 (by simp;have h1:=HP.out;have h2:=HR.out;omega);clear A1 u5 A6 A8 H3 H4 H1 H2;go_wp2;rw[<-B1.out];have r0:=H5.cell (i:=0) rfl;have r1:=H5.cell (i:=1) rfl;have rl:=H5.out.lt;have p0:=H6.cell (i:=0) rfl;have p1:=H6.cell (i:=1) rfl;have pf0:=H6.free 0;have pf1:=H6.free 1;have pl:=H6.out.lt;go_loopw [7] (λi wq=>i=.int .i64 0/\wq=W5) (λ_ _=>0)
 case atStart=>exact⟨rfl,rfl⟩
 case round =>
  obtain⟨rfl,rfl⟩:=hrel;go_wp2;obtain⟨W9,A2⟩:=zx ((wr.setCell ⟨p,0,none⟩ (.slice none 0 0)).setCell ⟨p,1,none⟩ (.int .i64 0));have u9:Upd [p] wr W9:=by rw[A2];exact((Upd.refl [p] wr).setCell (by simp) _).setCell (by simp) _
  have h9:Row W9 p 24 [.slice none 0 0,.int .i64 0]:=by rw[A2];exact(H6.set 0 _).set 1 _
  have B2:Hid (Below w.heap.size w W9):=A9.out.trans (u9.below A9.out.size (λk hk=>by simp at hk;subst hk;rw[HP.out];exact Nat.le_refl _));rw[<-A2];have c0:=h9.cell (i:=0) rfl;have c1:=h9.cell (i:=1) rfl;have cl:=h9.lt;clear A2 u9 h9 r0 r1 rl p0 p1 pf0 pf1 pl;refine bodyPost_ret (by rw[results_cell_tmp rfl];go_simp;rfl) rfl ?_;exact⟨rfl,B2⟩
theorem zre(w:World)(s:Value):Calls prog 71 #[.slice none 0 0,s] w λe w'=>e=.returned (.tuple #[.pointer none,.int .i64 180])/\Below w.heap.size w w':=by
 have HD:=zh (znq w);go_enter func71,ntmps71;go_wp2_with fail;go_call HD as e w2 ⟨rfl,hb⟩;go_wp2;go_ret2;exact⟨rfl,zy hb (zn (Below.refl _ _))⟩
theorem zq2(w:World):Calls prog 21 #[.slice none 0 0] w λe w'=>e=.returned (.tuple #[.pointer none,.int .i64 180])/\Below w.heap.size w w':=by
 have HD:=zh (zg5 w);go_enter func21,ntmps21;go_wp2_with fail;go_call HD as e w2 ⟨m,mp,rfl,-,hb⟩;have HN:=zh (zre w2 (.iface 34 (.pointer (some ⟨m,0,none⟩))));go_wp2_with fail;go_call HN as e w3 ⟨rfl,A0⟩;go_wp2;go_ret2;exact⟨rfl,zy hb A0⟩
theorem zgx(w:World)(C:Array Value)(t:TypeId)(fz:Nat×Nat){i:Nat}{v:Value}(h:C[i]?=some v):(w.alloc (.cells C t fz)).cell? ⟨w.heap.size,i,none⟩=some v:=by
 have hb:(w.alloc (.cells C t fz)).heap[w.heap.size]?=some (.cells C t fz):=by show(w.heap.push _)[w.heap.size]?=_;simp
 unfold World.cell?;rw[hb];exact h
theorem z1r{w:World}{g:Nat}(r0:w.cell? ⟨g,0,none⟩=some (.int .u8 97))(r1:w.cell? ⟨g,1,none⟩=some (.int .u8 98))(rl:g<w.heap.size):Calls prog 22 #[.slice (some ⟨g,0,none⟩) 2 2] w λe w'=>e=.returned (.int .i64 3105)/\w=w':=by
 go_enter func22,ntmps22;go_wp2;go_loopw [3,8] (λs i wq=>wq=w/\((s=.int .i64 0/\i=.int .i64 0)\/(s=.int .i64 97/\i=.int .i64 1)\/(s=.int .i64 3105/\i=.int .i64 2))) (λ_ i _=>2-(intOf i).toNat)
 case atStart=>exact⟨rfl,.inl ⟨rfl,rfl⟩⟩
 case round =>
  obtain⟨rfl,⟨rfl,rfl⟩|⟨rfl,rfl⟩|⟨rfl,rfl⟩⟩:=hrel
  ·go_wp2;go_roundw
   case rel=>exact⟨trivial,.inr (.inl ⟨rfl,rfl⟩)⟩
   case measure=>simp[intOf]
  ·go_wp2;go_roundw
   case rel=>exact⟨trivial,.inr (.inr ⟨rfl,rfl⟩)⟩
   case measure=>simp[intOf]
  ·go_wp2;go_ret;exact⟨rfl,rfl⟩
theorem znp(w:World):Calls prog 4 #[] w λe w'=>e=.returned (.bool true)/\Below w.heap.size w w':=by
 have HF:=zh (zq2 w);go_enter func4,ntmps4;go_wp2_with fail;go_call HF as e w2 ⟨rfl,hb⟩;have A0:=Lib.run_convert_bytes_const (P:=prog) w2 26 5 #[.int .u8 97,.int .u8 98] 2 2 underlying26 underlying5;have HS:=zh (z1r (w:=w2.alloc (.cells #[.int .u8 97,.int .u8 98] 5 (2,3))) (g:=w2.heap.size) (zgx _ _ _ _ rfl) (zgx _ _ _ _ rfl) (by simp));go_wp2_with fail;go_call HS as e w3 ⟨rfl,rfl⟩;clear A0;go_wp2;go_ret;exact⟨rfl,zy hb (zn (Below.refl _ _))⟩
theorem yc.kind{w:World}{base m mp made:Nat}{Y:List FE}(h:yc w base m mp Y made):∀k∈fBl m mp Y,∀cs t r,w.heap[k]?=some (.cells cs t r)->¬zid t:=by
 intro k hk cs t r he;unfold fBl at hk;simp only[List.mem_cons,List.mem_flatMap] at hk;rcases hk with rfl|rfl|⟨e,hm,hk⟩
 ·rw[show w.heap[k]?=_ from h.head] at he;cases he;decide
 ·obtain⟨es,clock,hb,-⟩:=h.map.own;rw[hb] at he;cases he
 ·have ho:=h.obj e hm;unfold FE.bl at hk;simp only[List.mem_cons,List.mem_append,Option.mem_toList] at hk;rcases hk with rfl|hk|hk
  ·rw[show w.heap[e.ad]?=_ from ho.row] at he;cases he;decide
  ·obtain⟨ys,hr⟩:=(Zg ho.own.1 k hk).2;rw[show w.heap[k]?=_ from hr] at he;cases he;decide
  ·obtain⟨ys,hr⟩:=(Zg ho.own.2 k hk).2;rw[show w.heap[k]?=_ from hr] at he;cases he;decide
theorem yc.lu{w w':World}{base m mp made:Nat}{Y:List FE}{J:LmI}(h:yc w base m mp Y made)(u:LU J w w')(hf:∀k∈J.fix,k<base):yc w' base m mp Y made:=by
 obtain⟨l,ul,hl⟩:=u.upd;refine h.keep ul (λk hk hm=>?_);rcases hl k hm with h1|⟨-,t,xs,hr,ht⟩|⟨-,cs,t,r,he,ht⟩
 ·have:=hf k h1;have:=h.lo k hk;omega
 ·exact h.kind k hk _ _ _ hr ht
 ·exact h.kind k hk _ _ _ he ht
theorem Zh.flat{w w':World}{J:LmI}{K NW N:Nat}{S:Lm}{A:Nat->Option Ob}{T:Tb}{made U:Nat}{F:Nat->Nat}{base m mp made2:Nat}{Y:List FE}(H:Zh w J K NW N S A [] (λ_=>False) (λ_=>False) T made U F 0)(h:yc w base m mp Y made2)(hf:∀k∈J.fix,k<base)(hB:J.B<=base)(u:Upd (fBl m mp Y) w w'):Zh w' J K NW N S A [] (λ_=>False) (λ_=>False) T made U F 0 :=
 ⟨H.P.keep u (λk hk _=>⟨λhm=>by have:=hf k hm;have:=h.lo k hk;omega,by have:=h.lo k hk;omega,h.kind k hk⟩),H.dk,H.inv,H.ks⟩
structure Two(w:World)(J:LmI)(K NW N base m mp:Nat)(Y:List FE)(made U:Nat):Prop where
 lm:∃S T F,Zh w J K NW N S (zt (fTb Y)) [] (λ_=>False) (λ_=>False) T made U F 0
 fl:yc w base m mp Y made
 hf:∀k∈J.fix,k<base
 hB:J.B<=base
 ks:1<=K/\1000<=NW
section
variable{w w':World}{J:LmI}{K NW N base m mp made U:Nat}{Y:List FE}
theorem Two.below(h:Two w J K NW N base m mp Y made U)(hb:Below w.heap.size w w'):Two w' J K NW N base m mp Y made U:=by
 obtain⟨S,T,F,hl⟩:=h.lm;exact⟨⟨S,T,F,hl.below hb⟩,h.fl.below hb,h.hf,h.hB,h.ks⟩
theorem Two.loom(h:Two w J K NW N base m mp Y made U)(u:LU J w w')(hl:∃S T F,Zh w' J K NW N S (zt (fTb Y)) [] (λ_=>False) (λ_=>False) T made U F 0):Two w' J K NW N base m mp Y made U:=⟨hl,h.fl.lu u h.hf,h.hf,h.hB,h.ks⟩
theorem z51(h:Two w J K NW N base m mp Y made U)(o i v:Int)(b0:-9223372036854775808<=o/\o<=9223372036854775807)(hi:-9223372036854775808<=i/\i<=9223372036854775807)(hv:-9223372036854775808<=v/\v<=9223372036854775807) :
 Calls prog 9 #[.pointer (some ⟨J.m,0,none⟩),.int .i64 o,.int .i64 i,.int .i64 v] w λe w'=>e=.returned (.int .i64 (ze0 (zt (fTb Y)) o i v))/\LU J w w'/\
  Hid (∀z,Below w'.heap.size w' z->Calls prog 10 #[.pointer (some ⟨m,0,none⟩),.int .i64 o,.int .i64 i,.int .i64 v] z λe z'=>e=.returned (.int .i64 (ze0 (zt (fTb Y)) o i v))/\∃Y',Two z' J K NW N base m mp Y' made U/\fBl m mp Y'=fBl m mp Y/\Upd (fBl m mp Y) z z'):=by
 obtain⟨S,T,F,hl⟩:=h.lm;refine(zzk hl h.ks.1 h.ks.2 o i v b0.1 b0.2 hi hv.1 hv.2).mono ?_;rintro e w2 ⟨hu,rfl,S2,T2,A1⟩;refine⟨rfl,hu,λz hz=>?_⟩;have A0:=(h.fl.lu hu h.hf).below hz;refine(zzm A0 o i v b0.1 b0.2 hv.1 hv.2).mono ?_;rintro e z2 ⟨rfl,Y',f1,f2,f3,f4⟩;refine⟨rfl,Y',⟨⟨S2,T2,F,?_⟩,f1,h.hf,h.hB,h.ks⟩,f3,f4⟩;rw[f2];have:=(A1.below hz).flat A0 h.hf h.hB f4;unfold ifA;exact this
theorem zrw(h:Two w J K NW N base m mp Y made U)(a:Option Addr)(n c:Nat)(l:List Int)(hn:n=l.length)(hr:zv w a c (l.map (Value.int .i64)))(A0:n<=1000)(A1:I64 l) :
 Calls prog 11 #[.pointer (some ⟨J.m,0,none⟩),.slice a n c] w λe w'=>e=.returned (.tuple #[.int .i64 (zcp (fTb Y) (l.map Zz)).length,.int .i64 0])/\LU J w w'/\
  Hid (∀z,Below w'.heap.size w' z->zv z a c (l.map (Value.int .i64))->Calls prog 12 #[.pointer (some ⟨m,0,none⟩),.slice a n c] z λe z'=>e=.returned (.tuple #[.int .i64 (zcp (fTb Y) (l.map Zz)).length,.int .i64 0])/\∃Y',Two z' J K NW N base m mp Y' made U/\fTb Y'=zfi (fTb Y) (l.map Zz)/\Upd (fBl m mp Y) z z'):=by
 obtain⟨S,T,F,hl⟩:=h.lm;refine(zib h.fl.rise hl h.fl.few a n c l hn hr A0 A1).mono ?_;rintro e w2 ⟨hu,rfl,S2,T2,A3⟩;refine⟨rfl,hu,λz hz A4=>?_⟩;have A2:=(h.fl.lu hu h.hf).below hz;refine(zq9 A2 a n c l hn A4 A0 A1).mono ?_;rintro e z2 ⟨rfl,Y',f1,f2,f3,f4⟩;refine⟨rfl,Y',⟨⟨S2,T2,F,?_⟩,f1,h.hf,h.hB,h.ks⟩,f2,f4⟩;rw[f2];exact(A3.below hz).flat A2 h.hf h.hB f4
theorem zkh(h:Two w J K NW N base m mp Y made U) :
 Calls prog 11 #[.pointer (some ⟨J.m,0,none⟩),.slice none 0 0] w λe w'=>e=.returned (.tuple #[.int .i64 (zcp (fTb Y) []).length,.int .i64 0])/\LU J w w'/\∃S T F,Zh w' J K NW N S (zt (zfi (fTb Y) [])) [] (λ_=>False) (λ_=>False) T made U F 0:=by
 obtain⟨S,T,F,hl⟩:=h.lm;refine(zib h.fl.rise hl h.fl.few none 0 0 [] rfl (zv.nil _) (by decide) (λx hx=>by cases hx)).mono ?_;rintro e w2 ⟨hu,rfl,S2,T2,A0⟩;exact⟨rfl,hu,S2,T2,F,A0⟩
end
theorem zsk{X:Tb}{i:Int}:¬Reach X [] i:=λh=>by
 induction h with
 | root h _=>cases h
 | step _ _ _ ih=>exact ih
theorem zox(X:Tb):zfi X []=[]:=by
 unfold zfi;rw[List.filter_eq_nil_iff];intro p _ h;exact zsk (zda.1 h)
theorem zts(X:Tb):(zcp X []).length=X.length:=by
 have:=zhz X [];rw[zox] at this;simpa using this
theorem ztj{X:Tb}(hX:qm X):(X.map (·.1)).Nodup:=by
 rw[List.nodup_iff_pairwise_ne,List.pairwise_map];exact hX.imp (fun {a b} h=>by omega)
theorem zp4{X:Tb}{made:Nat}(hX:qm X)(hi:∀p∈X,1<=p.1/\p.1<=made):(yk (zt X) made).length=X.length:=by
 unfold yk;rw[List.length_map]
 have hp:((List.range (made+1)).filter (λk=>decide (0<k) && (zt X k).isSome)).Perm (X.map (·.1)):=by
  refine(List.perm_ext_iff_of_nodup (List.nodup_range.filter _) (ztj hX)).2 (λk=>?_);rw[List.mem_filter,List.mem_range,Bool.and_eq_true,decide_eq_true_eq,vm];constructor
  ·exact λh=>h.2.2
  ·intro h;obtain⟨p,hp,rfl⟩:=List.mem_map.1 h;have:=hi p hp;exact⟨by omega,by omega,h⟩
 rw[hp.length_eq,List.length_map]
theorem zgf(X:Tb)(rs:List Int)(i:Nat):zt (zfi X rs) i=if zcz X rs (i:Int) then zt X i else none:=zeu X (λk=>zcz X rs (k:Int)) i
theorem zfc{X:Tb}{rs:List Int}{i:Int}:zee (zfi X rs) i=true↔Reach X rs i:=by
 constructor
 ·intro h;unfold zee at h;simp only[Bool.and_eq_true,decide_eq_true_eq] at h;rw[zgf] at h;by_cases hr:zcz X rs ((i.toNat:Nat):Int)=true
  ·have:=zda.1 hr;rwa[Int.toNat_of_nonneg h.1] at this
  ·rw[if_neg hr] at h;simp at h
 ·intro h;have h1:=h.has;unfold zee at h1 ⊢;simp only[Bool.and_eq_true,decide_eq_true_eq] at h1 ⊢;rw[zgf,if_pos (zda.2 (by rw[Int.toNat_of_nonneg h1.1];exact h))];exact h1
theorem zr4{X:Tb}{rs:List Int}{i:Int}(h:Reach X rs i):yg (zfi X rs) i=yg X i:=by
 have h1:=h.has;unfold zee at h1;simp only[Bool.and_eq_true,decide_eq_true_eq] at h1;unfold yg;rw[zgf,if_pos (zda.2 (by rw[Int.toNat_of_nonneg h1.1];exact h))]
theorem zsl{X:Tb}{rs:List Int}{i:Int}:Reach (zfi X rs) rs i↔Reach X rs i:=by
 constructor
 ·exact λh=>zfc.1 h.has
 ·intro h;induction h with
  | root h h1=>exact .root h (zfc.2 (.root h h1))
  | step h h1 h2 ih=>exact .step ih (by rw[zr4 h];exact h1) (zfc.2 (.step h h1 h2))
theorem zpx{X:Tb}{rs R:List Int}(hX:qm X)(hn:R.Nodup)(hR:∀i,i∈R↔Reach (zfi X rs) rs i):R.length=(zfi X rs).length:=by
 have hc:qm (zfi X rs):=hX.filter _
 have A0:(xh (zfi X rs)).Nodup:=by
  unfold xh;rw[List.nodup_iff_pairwise_ne,List.pairwise_map];exact hc.imp (fun {a b} h=>by omega)
 have hp:R.Perm (xh (zfi X rs)):=by
  refine(List.perm_ext_iff_of_nodup hn A0).2 (λi=>?_);rw[hR,zsl,<-zfc];unfold zee xh;simp only[Bool.and_eq_true,decide_eq_true_eq,List.mem_map];rw[vm,List.mem_map];constructor
  ·rintro⟨h0,p,hp,h1⟩;exact⟨p,hp,by omega⟩
  ·rintro⟨p,hp,rfl⟩;exact⟨by omega,p,hp,by simp⟩
 rw[hp.length_eq];simp[xh]
def znk(d:Za):Nat:=1+(d.W.length+d.B.length) / 10
def zej(l:List Za)(k:Nat):Nat:=((l.take k).map znk).sum
theorem zh6{l:List Za}{k:Nat}(h:k<l.length):zej l (k+1)=zej l k+znk (l.getD k Za.nothing):=by
 have h1:l.take (k+1)=l.take k++[l.getD k Za.nothing]:=by
  rw[List.take_add_one,ze h,zg,ze h];rfl
 unfold zej;rw[h1,List.map_append,List.sum_append];rfl
theorem zw8{d:Za}(h:xk d.cls d.kind d.W d.B):zix d<=40*znk d:=by
 have hk:(Z9 d.cls d.kind (kt d.kind d.W d.B)).enc.length<=12+4*(d.W.length+d.B.length):=by
  rw[Ob.enc_len];unfold Z9 kt;by_cases h1:d.kind=1
  ·rw[if_pos h1,if_pos h1];simp;omega
  ·by_cases h2:d.kind=2
   ·rw[if_neg h1,if_neg h1,if_pos h2];simp;omega
   ·rw[if_neg h1,if_neg h1,if_neg h2];simp
 unfold zix obN jl znk;omega
theorem z0l{l:List Za}(h:zg8 l=false)(k:Nat):Z5 l k<=40*zej l k:=by
 have hb:=zb4.1 h;unfold Z5 zej
 have:∀m:List Za,(∀d∈m,xk d.cls d.kind d.W d.B)->(m.map zix).sum<=40*(m.map znk).sum:=by
  intro m hm;induction m with
  | nil=>simp
  | cons d m ih =>
   simp only[List.map_cons,List.sum_cons];have h1:=zw8 (hm d (by simp));have h2:=ih (λe he=>hm e (by simp[he]));omega
 exact this _ (λd hd=>hb d (List.mem_of_mem_take hd))
theorem z1f{l:List Za}(h:zg8 l=false)(k:Nat)(hk:k<=l.length):zej l k<=202*k:=by
 have hb:=zb4.1 h;induction k with
 | zero=>simp[zej]
 | succ k ih =>
  rw[zh6 (by omega)];have h1:=ih (by omega);obtain⟨d,A0⟩:=zx (l.getD k Za.nothing);have hd:xk d.cls d.kind d.W d.B:=hb _ (by rw[A0,zg,ze (by omega)];exact List.getElem_mem _)
  have h2:d.W.length+d.B.length<=2000:=by
   rcases hd.2 with⟨_,a,b,_⟩|⟨_,a,b⟩<;>rw[a]<;>simp<;>omega
  rw[<-A0];unfold znk;omega
structure One(wA w:World)(J:LmI)(K NW:Nat):Prop where
 lm:Zh w J K NW 8000 (zad K) (λ_=>none) [] (λ_=>False) (λ_=>False) [] 0 0 (λ_=>0) 0
 lo:(∀k∈J.fix,wA.heap.size<=k)/\wA.heap.size<=J.B
 bel:Below wA.heap.size wA w
theorem z39(w:World)(NW K:Nat)(h1:NW<=32768)(h2:K<=800) :
 Calls prog 5 #[.int .i64 8000,.int .i64 NW,.int .i64 K] w λe w'=>∃J:LmI,e=.returned (.tuple #[.pointer (some ⟨J.m,0,none⟩),.int .i64 0])/\Hid (One w w' J K NW):=by
 refine(zuz 8000 NW K w (by decide) h1 h2).mono ?_;rintro e w2 ⟨J,rfl,h3,h4,h5,h6⟩;exact⟨J,rfl,h3,⟨h4,h5⟩,h6⟩
structure z5v(wA w:World)(J:LmI)(K NW base m mp:Nat):Prop where
 ld:LdL wA w J K NW 8000 w (λ_=>none) 0 0
 fl:yc w base m mp [] 0
 hf:∀k∈J.fix,k<base
 hB:J.B<=base
 ba:wA.heap.size<=base
theorem z4c{wA w:World}{J:LmI}{K NW:Nat}(h:One wA w J K NW)(hk:1<=K/\1000<=NW) :
 Calls prog 6 #[] w λe w'=>∃base m mp,e=.returned (.pointer (some ⟨m,0,none⟩))/\Hid (z5v wA w' J K NW base m mp):=by
 refine(zg5 w).mono ?_;rintro e w2 ⟨m,mp,rfl,h1,h2⟩;exact⟨w.heap.size,m,mp,rfl,⟨⟨_,_,_,h.lm.below h2⟩,.refl _ _,h.bel.trans (h2.mono h.bel.size),h.lo,hk⟩,h1,h.lm.fixlt,h.lm.Blt,h.bel.size⟩
structure z5u(wA w:World)(J:LmI)(K NW base m mp:Nat)(l:List Za)(n:Nat)(fr:Int):Prop where
 no:gv l fr≠0->∃w0,LdL wA w0 J K NW 8000 w (λ_=>none) 0 0
 yes:gv l fr=0->∃w0,LdL wA w0 J K NW 8000 w (zay l n) n (Z5 l n)
 fl:yc w base m mp [] 0
 hf:∀k∈J.fix,k<base
 hB:J.B<=base
 ba:wA.heap.size<=base
 bel:Below wA.heap.size wA w
theorem z1a{wA w:World}{J:LmI}{K NW base m mp:Nat}(h:z5v wA w J K NW base m mp)(hG:Glb wA)(a:Option Addr)(n c:Nat)(l:List Za)(fr:Int)(HA:yf wA a n c l)(f0:-9223372036854775808<=fr)(f1:fr<=9223372036854775807)(hU:gv l fr=0->Z5 l l.length<=8000) :
 Calls prog 7 #[.iface 30 (.pointer (some ⟨J.m,0,none⟩)),.agg #[.slice a n c,.int .i64 fr]] w λe w'=>e=.returned (.int .i64 (gv l fr))/\Hid (z5u wA w' J K NW base m mp l n fr):=by
 refine(zqe h.ld (hG.next h.ld.args) a n c l fr HA f0 f1 hU).mono ?_;rintro e w2 (⟨h1,rfl,h2⟩|⟨h1,rfl,h2⟩)
 ·exact⟨rfl,λ_=>⟨_,h2⟩,λh3=>absurd h3 h1,h.fl.lu h2.upd h.hf,h.hf,h.hB,h.ba,h2.args⟩
 ·exact⟨by rw[h1],λh3=>absurd h1 h3,λ_=>⟨_,h2⟩,h.fl.lu h2.upd h.hf,h.hf,h.hB,h.ba,h2.args⟩
structure TF(wA w:World)(J:LmI)(K NW base m mp:Nat)(Y:List FE)(made U:Nat):Prop where
 two:Two w J K NW 8000 base m mp Y made U
 bel:Below wA.heap.size wA w
 lo:(∀k∈J.fix,wA.heap.size<=k)/\wA.heap.size<=J.B/\wA.heap.size<=base
 glb:Glb wA
structure z3g(wA w:World)(J:LmI)(K NW made U:Nat):Prop where
 lm:∃S T F,Zh w J K NW 8000 S (λ_=>none) [] (λ_=>False) (λ_=>False) T made U F 0
 bel:Below wA.heap.size wA w
 lo:(∀k∈J.fix,wA.heap.size<=k)/\wA.heap.size<=J.B
theorem z1b{wA w:World}{J:LmI}{K NW base m mp:Nat}{l:List Za}{n:Nat}{fr:Int}(h:z5u wA w J K NW base m mp l n fr)(hG:Glb wA)(a:Option Addr)(c:Nat)(HA:yf wA a n c l)(f0:-9223372036854775808<=fr)(f1:fr<=9223372036854775807)(hU:gv l fr=0->Z5 l l.length<=8000) :
 Calls prog 7 #[.iface 34 (.pointer (some ⟨m,0,none⟩)),.agg #[.slice a n c,.int .i64 fr]] w λe w'=>e=.returned (.int .i64 (gv l fr))/\Hid (gv l fr≠0->z3g wA w' J K NW 0 0)/\Hid (gv l fr=0->∃Y,TF wA w' J K NW base m mp Y n (Z5 l n))/\Hid (Below wA.heap.size wA w'):=by
 have A1:=h.fl.lt
 have hs:base<=w.heap.size:=by
  have h1:=h.fl.lo m (by simp[fBl]);have h2:=A1 m (by simp[fBl]);omega
 have hF:LdF wA w base m mp w (λ_=>none) 0 0:=⟨⟨[],h.fl,rfl,λk hk=>.inl (by simpa[fBl] using hk)⟩,.refl _ _,h.bel,hs,h.ba⟩;refine(zqg (N:=8000) hF (hG.next h.bel) a n c l fr HA f0 f1 hU).mono ?_;rintro e w2 (⟨h1,rfl,h2⟩|⟨h1,rfl,h2⟩)
 ·refine⟨rfl,λ_=>?_,λh3=>absurd h3 h1,h2.args⟩;obtain⟨w0,k⟩:=h.no h1;obtain⟨S,T,F,hl⟩:=k.mem;exact⟨⟨S,T,F,hl.flat h.fl h.hf h.hB h2.upd⟩,h2.args,k.lo⟩
 ·refine⟨by rw[h1],λh3=>absurd h1 h3,λ_=>?_,h2.args⟩;obtain⟨w0,k⟩:=h.yes h1;obtain⟨S,T,F,hl⟩:=k.mem;obtain⟨Y,y1,y2,y3⟩:=h2.mem;have A0:=hl.flat h.fl h.hf h.hB h2.upd;rw[<-y2] at A0;exact⟨Y,⟨⟨S,T,F,A0⟩,y1,h.hf,h.hB,k.ks⟩,h2.args,⟨k.lo.1,k.lo.2,h.ba⟩,hG⟩
theorem z38{wA w:World}{J:LmI}{K NW made U:Nat}(h:z3g wA w J K NW made U) :
 Calls prog 8 #[.pointer (some ⟨J.m,0,none⟩)] w λe w'=>e=.returned (.int .i64 made)/\w=w':=by
 obtain⟨S,T,F,hl⟩:=h.lm;exact zu3 hl
section
variable{wA w w':World}{J:LmI}{K NW base m mp made U:Nat}{Y:List FE}
theorem TF.below(h:TF wA w J K NW base m mp Y made U)(hb:Below w.heap.size w w'):TF wA w' J K NW base m mp Y made U :=
 ⟨h.two.below hb,h.bel.trans (hb.mono h.bel.size),h.lo,h.glb⟩
theorem TF.lu(h:TF wA w J K NW base m mp Y made U)(u:LU J w w')(hl:∃S T F,Zh w' J K NW 8000 S (zt (fTb Y)) [] (λ_=>False) (λ_=>False) T made U F 0):TF wA w' J K NW base m mp Y made U :=
 ⟨h.two.loom u hl,h.bel.trans (u.belowA h.lo.1 h.lo.2.1 h.bel.size),h.lo,h.glb⟩
theorem TF.fixlt(h:TF wA w J K NW base m mp Y made U):∀k∈J.fix,k<w.heap.size:=by
 obtain⟨S,T,F,hl⟩:=h.two.lm;exact hl.fixlt
theorem z6a(h:TF wA w J K NW base m mp Y made U)(o i v:Int)(b0:-9223372036854775808<=o/\o<=9223372036854775807)(hi:-9223372036854775808<=i/\i<=9223372036854775807)(hv:-9223372036854775808<=v/\v<=9223372036854775807) :
 Calls prog 9 #[.pointer (some ⟨J.m,0,none⟩),.int .i64 o,.int .i64 i,.int .i64 v] w λe w'=>∃x:Int,e=.returned (.int .i64 x)/\Hid (Below wA.heap.size wA w')/\
  Hid (∀z,Below w'.heap.size w' z->Calls prog 10 #[.pointer (some ⟨m,0,none⟩),.int .i64 o,.int .i64 i,.int .i64 v] z λe z'=>e=.returned (.int .i64 x)/\Hid (∃Y',TF wA z' J K NW base m mp Y' made U)):=by
 refine(z51 h.two o i v b0 hi hv).mono ?_;rintro e w2 ⟨rfl,hu,hc⟩;have A0:=h.bel.trans (hu.belowA h.lo.1 h.lo.2.1 h.bel.size);refine⟨_,rfl,A0,λz hz=>(hc.out z hz).mono ?_⟩;rintro e z2 ⟨rfl,Y',h1,h2,h3⟩;have A1:=A0.trans (hz.mono A0.size);refine⟨rfl,Y',h1,A1.trans (h3.below A1.size (λk hk=>?_)),h.lo,h.glb⟩;rw[<-h2] at hk;have:=h1.fl.lo k hk;have:=h.lo.2.2;omega
theorem zt4(h:TF wA w J K NW base m mp Y made U){B q n:Nat}{l:List Int}(ho:w.ownsRow B 3 1 (.slice (some ⟨q,0,none⟩) n n) n (l.map (Value.int .i64)))(hB:∀k∈J.fix,k<B)(hn:n=l.length)(A2:n<=1000)(A3:I64 l) :
 Calls prog 11 #[.pointer (some ⟨J.m,0,none⟩),.slice (some ⟨q,0,none⟩) n n] w λe w'=>∃g:Nat,e=.returned (.tuple #[.int .i64 g,.int .i64 0])/\
  Hid (∀z,Below w'.heap.size w' z->Calls prog 12 #[.pointer (some ⟨m,0,none⟩),.slice (some ⟨q,0,none⟩) n n] z λe z'=>e=.returned (.tuple #[.int .i64 g,.int .i64 0])/\Hid (∃Y',TF wA z' J K NW base m mp Y' made U/\fTb Y'=zfi (fTb Y) (l.map Zz))):=by
 obtain⟨_,_,hv,rd,-,-⟩:=zk ho;cases hv
 refine(zrw h.two (some ⟨q,0,none⟩) n n l hn rd A2 A3).mono ?_;rintro e w2 ⟨rfl,hu,hc⟩;have A0:=h.bel.trans (hu.belowA h.lo.1 h.lo.2.1 h.bel.size);have A4:=hu.owns ho hB (by decide);refine⟨_,rfl,λz hz=>?_⟩;obtain⟨_,_,hv,rdz,-,-⟩:=zk ((Upd.of_below (l:=[]) hz).owns A4 (by simp));cases hv
 refine(hc.out z hz rdz).mono ?_;rintro e z2 ⟨rfl,Y',h1,h2,h3⟩;have A1:=A0.trans (hz.mono A0.size);refine⟨rfl,Y',⟨h1,A1.trans (h3.below A1.size (λk hk=>?_)),h.lo,h.glb⟩,h2⟩;have:=(((h.two.fl.lu hu h.two.hf).below hz)).lo k hk;have:=h.lo.2.2;omega
theorem TF.count(h:TF wA w J K NW base m mp Y made U):(yk (zt (fTb Y)) made).length=(fTb Y).length :=
 zp4 h.two.fl.rise (λp hp=>by
  obtain⟨e,he,rfl⟩:=List.mem_map.1 hp
  exact h.two.fl.ids e he)
theorem z4a(h:TF wA w J K NW base m mp Y made U){n:Nat}(hn:n=(fTb Y).length) :
 Calls prog 13 #[.iface 30 (.pointer (some ⟨J.m,0,none⟩))] w λe w'=>∃(a:Option Addr) (c:Nat),e=.returned (.slice a n c)/\Hid (w'.ownsRow w.heap.size 3 1 (.slice a n c) n ((yk (zt (fTb Y)) made).map (Value.int .i64)))/\Hid (TF wA w' J K NW base m mp Y made U):=by
 obtain⟨S,T,F,hl⟩:=h.two.lm;refine(z4y hl h.two.fl.few).mono ?_;rintro e w2 ⟨v,rfl,h1,h2⟩;rw[h.count,<-hn] at h1;obtain⟨a,c,rfl,-,-,-⟩:=zk h1;exact⟨a,c,rfl,h1,h.below h2⟩
theorem z4d(h:TF wA w J K NW base m mp Y made U){n:Nat}(hn:n=(fTb Y).length) :
 Calls prog 13 #[.iface 34 (.pointer (some ⟨m,0,none⟩))] w λe w'=>∃(a:Option Addr) (c:Nat),e=.returned (.slice a n c)/\Hid (w'.ownsRow w.heap.size 3 1 (.slice a n c) n ((yk (zt (fTb Y)) made).map (Value.int .i64)))/\Hid (TF wA w' J K NW base m mp Y made U)/\Hid (Below w.heap.size w w'):=by
 refine(z43 h.two.fl).mono ?_;rintro e w2 ⟨v,rfl,h1,h2⟩;rw[h.count,<-hn] at h1;obtain⟨a,c,rfl,-,-,-⟩:=zk h1;exact⟨a,c,rfl,h1,h.below h2,h2⟩
theorem z09(h:TF wA w J K NW base m mp Y made U) :
 Calls prog 15 #[.pointer (some ⟨J.m,0,none⟩)] w λe w'=>e=.returned (.bool true)/\Hid (TF wA w' J K NW base m mp Y made U)/\Hid (LU J w w'):=by
 obtain⟨S,T,F,hl⟩:=h.two.lm;refine(zo4 hl h.two.fl.few).mono ?_;rintro e w2 ⟨rfl,h1,h2⟩;exact⟨rfl,h.lu h2 ⟨S,T,F,h1⟩,h2⟩
theorem zw4{A:Nat->Option Ob}{x:Nat}{o:Int}(h:o∈yk A x):∃(k:Nat) (ob:Ob),o=2*(k:Int)/\0<k/\k<=x/\A k=some ob:=by
 unfold yk at h;obtain⟨k,hk,rfl⟩:=List.mem_map.1 h;rw[List.mem_filter,List.mem_range,Bool.and_eq_true,decide_eq_true_eq] at hk;obtain⟨ob,ho⟩:=Option.isSome_iff_exists.1 hk.2.2;exact⟨k,ob,rfl,hk.2.1,by omega,ho⟩
theorem z6b(h:TF wA w J K NW base m mp Y made U)(o:Int)(ho:o∈yk (zt (fTb Y)) made) :
 Calls prog 16 #[.pointer (some ⟨J.m,0,none⟩),.int .i64 o] w λe w'=>∃d:Za,e=.returned (.tuple #[.agg #[.int .i64 d.cls,.int .i64 d.kind,.slice d.wa d.wn d.wc,.slice d.ba d.bn d.bc],.int .i64 0])/\Hid (LU J w w')/\Hid (TF wA w' J K NW base m mp Y made U)/\
  Hid (∀z,Below w'.heap.size w' z->Calls prog 17 #[.pointer (some ⟨m,0,none⟩),.int .i64 o] z λe z'=>∃d':Za,e=.returned (.tuple #[.agg #[.int .i64 d'.cls,.int .i64 d'.kind,.slice d'.wa d'.wn d'.wc,.slice d'.ba d'.bn d'.bc],.int .i64 0])/\Hid (Below z.heap.size z z')/\
   Hid (∀y,Below z'.heap.size z' y->Calls prog 18 #[.agg #[.int .i64 d.cls,.int .i64 d.kind,.slice d.wa d.wn d.wc,.slice d.ba d.bn d.bc],.agg #[.int .i64 d'.cls,.int .i64 d'.kind,.slice d'.wa d'.wn d'.wc,.slice d'.ba d'.bn d'.bc]] y λe y'=>e=.returned (.bool true)/\Below y.heap.size y y')):=by
 obtain⟨k,ob,rfl,B0,B1,A4⟩:=zw4 ho;have A7:=h.two.fl.few;have A1:Zz (2*(k:Int))=k:=by rw[kh (by omega)];omega
 obtain⟨S,T,F,hl⟩:=h.two.lm;have A2:=hl.inv.good k ob A4
 have B2:ob.W.length<=1000/\ob.B.length<=1000:=by
  rcases A2.kinds with⟨_,a,b,_⟩|⟨_,a,b,_⟩<;>rw[a]<;>simp<;>omega
 refine(zg2 hl _ (by omega) (by omega) A1 A4).mono ?_;rintro e w2 ⟨hu,d,rfl,hd,-,A3,S2,T2,A8⟩;have h2:=h.lu hu ⟨S2,T2,F,A8⟩;refine⟨d,rfl,hu,h2,λz hz=>?_⟩;refine(zg6 (h2.below hz).two.fl _ (by omega) (by omega) A1 A4).mono ?_;rintro e z2 ⟨d',rfl,A5,-,A0,A6⟩;refine⟨d',rfl,A6,λy hy=>?_⟩;have e1:d.wn<=1000000000:=by rw[hd.wl,A3.W];omega
 have e2:d'.wn<=1000000000:=by rw[A5.wl,A0.W];omega
 refine(zz9 d d' y ((hd.below hz).below (zy A6 hy)) (A5.below hy) e1 e2).mono ?_;rintro e y2 ⟨rfl,A9⟩;refine⟨?_,A9⟩;rw[A3.cls,A3.kind,A3.W,A3.B,A0.cls,A0.kind,A0.W,A0.B];simp
theorem z37{Y0:List FE}(h:TF wA w J K NW base m mp Y made U)(h0:qm (fTb Y0))(f:Int)(f0:-9223372036854775808<=f)(f1:f<=9223372036854775807)(hc:fTb Y=zfi (fTb Y0) ([2,4,6,8,f].map Zz)){N:Nat}(hN:N=(fTb Y).length) :
 Calls prog 19 #[.iface 30 (.pointer (some ⟨J.m,0,none⟩)),.int .i64 f,.slice none 0 0] w λe w'=>∃(v:Value) (n:Nat) (x fr:Int) (a:Option Addr) (c:Nat),e=.returned (.tuple #[.agg #[.slice a n c,.int .i64 fr],.int .i64 x])/\Hid (x=0->n=N)/\Hid (TF wA w' J K NW base m mp Y made U):=by
 have h2:=h.glb.lt;obtain⟨S,T,F,hl⟩:=h.two.lm;refine(z4o h.two.fl.rise hl h.two.fl.few (h.glb.next h.bel) ⟨λk hk=>by have:=h.lo.1 k hk;omega,by have:=h.lo.2.1;omega⟩ f f0 f1).mono ?_;rintro e w2 ⟨v,n,x,fr,a,c,rfl,h3,⟨S2,T2,A0⟩,hu⟩;refine⟨v,n,x,fr,a,c,rfl,λhx=>?_,h.lu hu ⟨S2,T2,F,A0⟩⟩;obtain⟨R,r1,r2,r3⟩:=h3 hx;rw[hN,<-r1,hc];rw[hc] at r3;exact zpx h0 r2 r3
theorem zlk(h:TF wA w J K NW base m mp Y made U){N:Nat}(hN:N=(fTb Y).length) :
 Calls prog 11 #[.pointer (some ⟨J.m,0,none⟩),.slice none 0 0] w λe w'=>e=.returned (.tuple #[.int .i64 N,.int .i64 0])/\Hid (z3g wA w' J K NW made U)/\Hid (LU J w w'):=by
 refine(zkh h.two).mono ?_;rintro e w2 ⟨rfl,hu,S,T,F,hl⟩;rw[zts,<-hN];refine⟨rfl,⟨⟨S,T,F,?_⟩,h.bel.trans (hu.belowA h.lo.1 h.lo.2.1 h.bel.size),h.lo.1,h.lo.2.1⟩,hu⟩;rw[zox] at hl;exact hl
theorem z4b(h:z3g wA w J K NW made U) :
 Calls prog 20 #[.pointer (some ⟨J.m,0,none⟩)] w λe w'=>e=.returned (.tuple #[.int .i64 0,.int .i64 0,.int .i64 0])/\Hid (z3g wA w' J K NW made U)/\Hid (Below w.heap.size w w'):=by
 obtain⟨S,T,F,hl⟩:=h.lm;refine(zq6 hl (λ_=>rfl)).mono ?_;rintro e w2 ⟨rfl,hb⟩;exact⟨rfl,⟨⟨S,T,F,hl.below hb⟩,h.bel.trans (hb.mono h.bel.size),h.lo⟩,hb⟩
theorem zqt(h:z3g wA w J K NW made U)(hm:made<=100000) :
 Calls prog 15 #[.pointer (some ⟨J.m,0,none⟩)] w λe w'=>e=.returned (.bool true)/\Hid (Below wA.heap.size wA w'):=by
 obtain⟨S,T,F,hl⟩:=h.lm;refine(zo4 hl hm).mono ?_;rintro e w2 ⟨rfl,h1,hu⟩;exact⟨rfl,h.bel.trans (hu.belowA h.lo.1 h.lo.2 h.bel.size)⟩
end
def zpt(r:Nat):Code->Bool
 | .region id _ _=>id == r
 | _=>false
def gj(r:Nat):Code->Option Code
 | .seq a b=>if zpt r a then some (.seq a b) else match gj r a with
  | some c=>some c
  | none=>gj r b
 | .cond _ a b=>match gj r a with
  | some c=>some c
  | none=>gj r b
 | .block _ c=>gj r c
 | .loop c=>gj r c
 | .scope c=>gj r c
 | _=>none
noncomputable def z3m(r:Nat)(f:Func):Code:=((f.body.bind (gj r)).getD .skip)
theorem z6q{R:Ending->World->Prop}{wA w:World}{J:LmI}{K NW base m mp made U N q n c ac:Nat}{Y Y0:List FE}{a al:Option Addr}{fr:Int}{u0 u1 u2 u3 u5 u6 u7 u8 u9 u10 u12 u13 u14 u15 u16 u17 u18 u19 u20 u21 u22 u23 u25 u26 u27 u28 u29 u30 u31 u32 u33 u34 u35 u36 u37 u38 u39 u40 u41 u42 u43 u44 u45 u46 u47 u48 u49 u50 u51 u52 u53 u54 u55 u56 u57 u58 u59 u60 u61 u62 u63 u64 u65 u66 u67 u68 u69 u70 u71 u72 u73 u74 u75 u76 u77 u78 u79 u80 u81 u82 u83 u84 u85 u86 u87 u88 u89 u90 u91 u92 u93 u94 u95 u96 u97 u98 u99 u100 u101 u102 u103 u104 u105 u106 u107 u108 u109 u110 u111 u112 u113 u114 u115 u116 u117 u118 u119 u120 u121 u122 u123 u124 u125 u126 u127 u128 u129 u130 u131 u132 u133 u134 u135 u136 u137 u138 u139 u140 u141 u142 u143 u144 u145 u146 u147 u148 u149 u150 u151 u152 u153 u154 u155 u156 u157 u158 u159 u160 u161 u162 u163 u164 u165 u166 u167 u168 u169 u170 u171 u172 u173 u174 u175 u176 u177 u178 u179 u180 u181 u182 u183 u184 u185 u186 u187 u188 u189 u190 u191 u192 u193 u194 u195 u196 u197 u198 u199 u200 u201 u202 u203 u204 u205 u206 u207 u208 u209 u210 u211 u212 u213 u214 u215 u216 u217 u218 u219 u220 u221 u222 u223 u224 u225 u226 u227 u228 u229 u230 u231 u232 u233 u234 u235 u236 u237 u238 u239 u240 u241 u242 u243 u244 u245 u246 u247 u248 u249 u250 u251 u252 u253 u254 u255 u256 u257 u258 u259 u260 u261 u262 u263 u264 u265 u266 u267 u268 u269 u270 u271 u272 u273 u274 u275 u276 u277:Value}
 (h:TF wA w J K NW base m mp Y made U) (h0:qm (fTb Y0)) (f0:-9223372036854775808<=fr) (f1:fr<=9223372036854775807) (hc:fTb Y=zfi (fTb Y0) ([2,4,6,8,fr].map Zz)) (hN:N=(fTb Y).length)
 (hq:Row wA q 24 [.slice a n c,.int .i64 fr]) (hR:∀w',Below wA.heap.size wA w'->R (.returned (.bool true)) w') :
 Code.wp prog (z3m 36 Tryz.f3) (bodyPost prog Tryz.f3 R) ⟨#[u0,u1,u2,u3,.pointer (some ⟨q,0,none⟩),u5,u6,u7,u8,u9,u10,.pointer (some ⟨J.m,0,none⟩),u12,u13,u14,u15,u16,u17,u18,u19,u20,u21,u22,u23,.slice al N ac,u25,u26,u27,u28,u29,u30,u31,u32,u33,u34,u35,u36,u37,u38,u39,u40,u41,u42,u43,u44,u45,u46,u47,u48,u49,u50,u51,u52,u53,u54,u55,u56,u57,u58,u59,u60,u61,u62,u63,u64,u65,u66,u67,u68,u69,u70,u71,u72,u73,u74,u75,u76,u77,u78,u79,u80,u81,u82,u83,u84,u85,u86,u87,u88,u89,u90,u91,u92,u93,u94,u95,u96,u97,u98,u99,u100,u101,u102,u103,u104,u105,u106,u107,u108,u109,u110,u111,u112,u113,u114,u115,u116,u117,u118,u119,u120,u121,u122,u123,u124,u125,u126,u127,u128,u129,u130,u131,u132,u133,u134,u135,u136,u137,u138,u139,u140,u141,u142,u143,u144,u145,u146,u147,u148,u149,u150,u151,u152,u153,u154,u155,u156,u157,u158,u159,u160,u161,u162,u163,u164,u165,u166,u167,u168,u169,u170,u171,u172,u173,u174,u175,u176,u177,u178,u179,u180,u181,u182,u183,u184,u185,u186,u187,u188,u189,u190,u191,u192,u193,u194,u195,u196,u197,u198,u199,u200,u201,u202,u203,u204,u205,u206,u207,u208,u209,u210,u211,u212,u213,u214,u215,u216,u217,u218,u219,u220,u221,u222,u223,u224,u225,u226,u227,u228,u229,u230,u231,u232,u233,u234,u235,u236,u237,u238,u239,u240,u241,u242,u243,u244,u245,u246,u247,u248,u249,u250,u251,u252,u253,u254,u255,u256,u257,u258,u259,u260,u261,u262,u263,u264,u265,u266,u267,u268,u269,u270,u271,u272,u273,u274,u275,u276,u277],[]⟩ w:=by
 conv=>arg 2;whnf
 have A2:=hq.keep (l:=[]) (.of_below h.bel) (by simp);have d1:=A2.cell (i:=1) rfl;have HM:=zh h.two.fl.few;have A3:=zh (z37 h h0 fr f0 f1 hc hN);have HR:=zh hR;have HN:=zh hN;clear hR h0 f0 f1 hc hN hq h;refine wp_seq_k (λK1 A4=>?_);have A5:=zh A4;clear A4;go_wp2_with fail;go_call A3 as e w1 ⟨v1,n1,x,fr1,a1,c1,rfl,HX,HT⟩;clear A3 d1 A2;go_wp2;obtain⟨y,hy⟩:=zx (w1.heap.size);obtain⟨W2,A0⟩:=zx (w1.alloc (.cells #[.slice a1 n1 c1,.int .i64 fr1] 24));have b2:Below w1.heap.size w1 W2:=by rw[A0];exact zn (Below.refl _ _)
 have r2:Row W2 y 24 [.slice a1 n1 c1,.int .i64 fr1]:=by rw[A0,hy];exact Row.made w1 _ _
 have A6:Hid (y∉J.fix):=λhm=>by have:=HT.out.fixlt y hm;omega
 have A7:=zh (zlk (HT.below b2) HN);rw[<-A0,<-hy];have A8:=zh r2;clear hy A0 b2 r2 HT;refine A5 _ _ ?_;clear A5;refine wp_seq_k (λK2 A9=>?_);have B0:=zh A9;clear A9;go_wp2_with fail;go_call A7 as e w3 ⟨rfl,B1,B2⟩;have B3:=zh (B2.out.row A8.out A6.out (by decide));have B4:=zh (z4b B1);clear A7 A8 B2 B1;go_wp2;refine B0 _ _ ?_;clear B0;refine wp_seq_k (λK3 B5=>?_);have B6:=zh B5;clear B5;go_wp2_with fail;go_call B4 as e w4 ⟨rfl,B7,B8⟩;have A1:=B3.out.keep (l:=[]) (.of_below B8.out) (by simp);have C2:=zh (zqt B7 HM);clear B4 B3 B8 B7;go_wp2;refine B6 _ _ ?_;clear B6;have d0:=A1.cell (i:=0) rfl;have dl:=A1.lt;clear A1;have C3:=zh (λz=>znp z);by_cases hx:x=0
 case' pos =>
  have C4:=HX hx;subst hx;subst C4
 all_goals (
  clear HX HN A6;refine wp_seq_k (λK4 B9=>?_);have C0:=zh B9;clear B9;go_wp2;refine C0 _ _ ?_;clear C0;go_wp2_with fail;go_call C2 as e w5 ⟨rfl,C1⟩;go_wp2_with fail;refine(C3 _).mono ?_;rintro e w6 ⟨rfl,C5⟩;go_wp2
  exact HR _ (C1.trans (C5.mono C1.size)))
end Go.Proofs.YtoeibiahbenpcaaGreatDoor
