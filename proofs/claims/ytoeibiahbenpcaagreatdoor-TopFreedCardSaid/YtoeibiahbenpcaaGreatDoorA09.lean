/- Part. -/
import Derived.Test.YtoeibiahbenpcaaGreatDoorA01
namespace Go.Proofs.YtoeibiahbenpcaaGreatDoor
open RowKit Maps Proofs.Tryz
set_option linter.unusedVariables false
set_option maxRecDepth 99999
set_option maxHeartbeats 9000000
structure Blk where
 at_:Nat
 n:Nat
 used:Bool
def Blk.row(b:Blk):List Value:=[.int .i64 b.at_,.int .i64 b.n,.bool b.used]
def Z8(bl:List Blk):List Value:=bl.flatMap Blk.row
theorem zt0(xs ys:List Blk):Z8 (xs++ys)=Z8 xs++Z8 ys:=by simp[Z8]
theorem zaa:∀ {xs:List Blk} {k j:Nat} {d:Blk} {v:Value},xs[k]?=some d->d.row[j]?=some v->(Z8 xs)[k*3+j]?=some v
 | [],k,j,d,v,h,_=>by simp at h
 | x::xs,0,j,d,v,h,hv=>by
  simp at h;subst h;have hj:j<x.row.length:=(List.getElem?_eq_some_iff.1 hv).1;show(x.row++Z8 xs)[0*3+j]?=some v
  rw[Nat.zero_mul,Nat.zero_add,List.getElem?_append_left hj];exact hv
 | x::xs,k+1,j,d,v,h,hv=>by
  have h':xs[k]?=some d:=by simpa using h
  show(x.row++Z8 xs)[(k+1)*3+j]?=some v
  rw[List.getElem?_append_right (by show 3<=_;omega),show(k+1)*3+j-x.row.length=k*3+j by show(k+1)*3+j-3=_;omega];exact zaa h' hv
structure HpS where
 N:Nat
 ws:List Int
 bl:List Blk
structure ca(w:World)(B h g:Nat)(vb:Value)(S:HpS):Prop where
 head:Row w h 129 [.slice (some ⟨g,0,none⟩) S.N S.N,vb]
 data:Row w g 147 (S.ws.map (Value.int .u16))
 own:w.ownsRow B 146 3 vb S.bl.length (Z8 S.bl)
 len:S.ws.length=S.N
 small:S.N<=32768
 few:S.bl.length<=1000000
 lo:B<=h/\B<=g
 word:∀x∈S.ws,0<=x/\x<=65535
theorem yr{w:World}{B:Nat}{vb:Value}{bl:List Blk}(h:w.ownsRow B 146 3 vb bl.length (Z8 bl)){k:Nat}(hk:k<bl.length) :
 ∃b c,vb=.slice (some ⟨b,0,none⟩) bl.length c/\w.cell? ⟨b,k*3,none⟩=some (.int .i64 bl[k].at_)/\w.cell? ⟨b,k*3+1,none⟩=some (.int .i64 bl[k].n)/\w.cell? ⟨b,k*3+2,none⟩=some (.bool bl[k].used):=by
 rcases h.2 with⟨_,h0⟩|⟨g,cap,cur,rfl,hb,hg,hn,hm,hs,ht⟩
 ·omega
 ·have A0:=h.cells (g:=g) rfl
  have hc:∀j v,bl[k].row[j]?=some v->w.cell? ⟨g,k*3+j,none⟩=some v:=λj v hv=>by
   have:=A0 _ _ (zaa (ze hk) hv);rw[qk,Nat.zero_add] at this;exact this
  exact⟨g,cap,rfl,hc 0 _ rfl,hc 1 _ rfl,hc 2 _ rfl⟩
def zna(S:HpS)(k:Int):Bool:=decide (0<=k) && ((S.bl[k.toNat]?).map Blk.used).getD false
theorem zjc(S:HpS)(k:Nat):zna S k=((S.bl[k]?).map Blk.used).getD false:=by simp[zna]
theorem zum{w:World}{B h g:Nat}{vb:Value}{S:HpS}(H:ca w B h g vb S)(k:Int) :
 Calls prog 81 #[.pointer (some ⟨h,0,none⟩),.int .i64 k] w λe w'=>e=.returned (.bool (zna S k))/\w=w':=by
 have k1:=H.head.cell (i:=1) rfl;have HH:=zh H;clear H;by_cases h0:(0:Int)<=k
 ·obtain⟨m,rfl⟩:=Int.eq_ofNat_of_zero_le h0;rw[show zna S (m:Int)=((S.bl[m]?).map Blk.used).getD false from zjc S m];by_cases hm:m<S.bl.length
  ·obtain⟨b,c,hv,c0,c1,c2⟩:=yr HH.own hm;rw[show((S.bl[m]?).map Blk.used).getD false=S.bl[m].used by rw[ze hm];rfl];subst hv;generalize S.bl[m].used=u at *;clear c0 c1;go_enter func81,ntmps81;go_wp2;go_ret;exact⟨rfl,rfl⟩
  ·rw[List.getElem?_eq_none (by omega)];obtain⟨a,c,hv,-,-,-⟩:=zk HH.own;subst hv;have A0:¬((m:Int)<(S.bl.length:Int)):=by omega
   clear hm;go_enter func81,ntmps81;go_wp2;go_ret;exact⟨rfl,rfl⟩
 ·have hv:zna S k=false:=by unfold zna;simp[h0]
  rw[hv];clear hv;go_enter func81,ntmps81;go_wp2;go_ret;exact⟨rfl,rfl⟩
theorem zjd{S:HpS}{m:Nat}(hm:m<S.bl.length)(h:S.bl[m].used=true):zna S m=true:=by
 rw[zjc,ze hm];exact h
section
variable{w:World}{B h g:Nat}{vb:Value}{S:HpS}
theorem z13(H:ca w B h g vb S)(m:Nat)(hm:m<S.bl.length)(hu:S.bl[m].used=true):Calls prog 52 #[.pointer (some ⟨h,0,none⟩),.int .i64 m] w λe w'=>e=.returned (.int .i64 S.bl[m].n)/\w=w':=by
 have HC:=zh (zum H m);rw[zjd hm hu] at HC;have k1:=H.head.cell (i:=1) rfl;obtain⟨b,c,hv,c0,c1,c2⟩:=yr H.own hm;subst hv;clear H hu c0 c2;generalize S.bl[m].n=n at *;go_enter func52,ntmps52;go_wp2_with fail;go_call HC as e w' ⟨rfl,rfl⟩;go_wp2;go_ret;exact⟨rfl,rfl⟩
end
theorem z0t:(prog.info? 147).map (λi=>(i.zero,i.size,i.bytes))=some (some (.int .u16 0),1,2):=by kernel_rfl
def zzc(N:Nat):HpS:=⟨N,List.replicate N 0,[]⟩
theorem z4z(N:Nat)(w:World)(hN:N<=32768):Calls prog 24 #[.int .i64 N] w λe w'=>∃h g,e=.returned (.tuple #[.pointer (some ⟨h,0,none⟩),.int .i64 0])/\ca w' w.heap.size h g (.slice none 0 0) (zzc N)/\h≠g/\Below w.heap.size w w':=by
 go_enter func24,ntmps24;go_wp2_with (at_make;refine qo rfl _ _ 126 rfl 147 (.int .u16 0) 2 underlying126 z0t rfl .i64 .i64 _ _ N rfl rfl rfl rfl (by omega) (by unfold maxLen;omega) ?_);intro w2 row upd;have lt:=row.lt;have A0:=zh row;have HU:=zh upd;clear row upd;go_wp2;go_ret2;refine⟨w2.heap.size,w.heap.size,rfl,⟨Row.made _ _ _,?_,World.ownsRow_nil _ _ _ _,by simp[zzc],hN,Nat.zero_le _,⟨by omega,Nat.le_refl _⟩,?_⟩,by omega,(HU.out.alloc _).below (Nat.le_refl _) (by simp)⟩
 ·show Row _ _ _ ((List.replicate N 0).map (Value.int .u16))
  rw[List.map_replicate];exact A0.alloc _
 ·intro x hx;rw[List.eq_of_mem_replicate hx];omega
theorem z15{w:World}{B h g:Nat}{vb:Value}{S:HpS}(H:ca w B h g vb S)(m:Nat)(hm:m<S.bl.length)(hu:S.bl[m].used=true)(i:Nat)(hi:i<S.bl[m].n)(hN:S.bl[m].at_+S.bl[m].n<=S.N) :
 Calls prog 32 #[.pointer (some ⟨h,0,none⟩),.int .i64 m,.int .i64 i] w λe w'=>e=.returned (.tuple #[.int .i64 (S.ws.getD (S.bl[m].at_+i) 0),.int .i64 0])/\Below w.heap.size w w':=by
 have HC:=zh (zum H m);rw[zjd hm hu] at HC;have k0:=H.head.cell (i:=0) rfl;have k1:=H.head.cell (i:=1) rfl;have A2:=H.small;have A0:S.bl[m].at_+i<S.ws.length:=by rw[H.len];omega
 have kw:=H.data.cell (i:=S.bl[m].at_+i) (v:=.int .u16 (S.ws.getD (S.bl[m].at_+i) 0)) (by simp[A0]);have A3:=H.word (S.ws.getD (S.bl[m].at_+i) 0) (by rw[zg,ze A0];exact List.getElem_mem A0);obtain⟨b,c,hv,c0,c1,c2⟩:=yr H.own hm;subst hv;generalize S.ws.getD (S.bl[m].at_+i) 0=x at *;generalize S.bl[m].at_=at' at *;generalize S.bl[m].n=n at *;have A4:(0:Int)<=(at':Int)+(i:Int):=by omega
 have A5:(at':Int)+(i:Int)<(S.N:Int):=by omega
 have A6:((at':Int)+(i:Int)).toNat=at'+i:=by omega
 clear H hu A0 c2;go_enter func32,ntmps32;go_wp2_with fail;go_call HC as e w' ⟨rfl,rfl⟩;go_wp2_with fail;refine zm (λz=>z.cell? ⟨h,0,none⟩=some (.slice (some ⟨g,0,none⟩) S.N S.N)/\z.cell? ⟨h,1,none⟩=some (.slice (some ⟨b,0,none⟩) S.bl.length c)/\z.cell? ⟨b,m*3,none⟩=some (.int .i64 at')/\z.cell? ⟨g,at'+i,none⟩=some (.int .u16 x)) (zp [0,1,2,3,4,5,6,7,8,9,10,11,12,13,14,15,16,17,18]) (by kernel_rfl) (by kernel_rfl) (λ_ _ _ _ _ h=>h) ⟨k0,k1,c0,kw⟩ ?_;clear k0 k1 c0 kw;have A1:Below w.heap.size w w.drew:=Zd (Below.refl _ w);generalize w.drew=wd at *
 (repeat (refine zi rfl (λK hK=>?_);go_simp;(try go_bits);refine hK _ ?_;clear hK K))
 refine zl (.slice (some ⟨g,0,none⟩) S.N S.N) rfl rfl (λx hS=>by obtain⟨s0,s1,s2,s3⟩:=hS;go_simp) ?_
 (repeat (refine zi rfl (λK hK=>?_);go_simp;(try go_bits);refine hK _ ?_;clear hK K))
 refine zl (.slice (some ⟨b,0,none⟩) S.bl.length c) rfl rfl (λx hS=>by obtain⟨s0,s1,s2,s3⟩:=hS;go_simp) ?_
 (repeat (refine zi rfl (λK hK=>?_);go_simp;(try go_bits);refine hK _ ?_;clear hK K))
 refine zl (.int .i64 at') rfl rfl (λx hS=>by obtain⟨s0,s1,s2,s3⟩:=hS;go_simp) ?_
 (repeat (refine zi rfl (λK hK=>?_);go_simp;(try go_bits);refine hK _ ?_;clear hK K))
 refine zl (.int .u16 x) rfl rfl (λx hS=>by obtain⟨s0,s1,s2,s3⟩:=hS;go_simp) ?_
 (repeat (refine zi rfl (λK hK=>?_);go_simp;(try go_bits);refine hK _ ?_;clear hK K))
 refine zo ?_;go_wp2;go_ret2;exact⟨rfl,A1⟩
theorem ca.below{w w':World}{B h g:Nat}{vb:Value}{S:HpS}(H:ca w B h g vb S)(hb:Below w.heap.size w w'):ca w' B h g vb S :=
 ⟨H.head.keep (l:=[]) (.of_below hb) (by simp),H.data.keep (l:=[]) (.of_below hb) (by simp),(Upd.of_below (l:=[]) hb).ownsAbove H.own (by simp),H.len,H.small,H.few,H.lo,H.word⟩
def jp(bl:List Blk):Nat->List Int
 | 0=>[]
 | k+1=>if ((bl[k]?).map Blk.used).getD false then jp bl k++[(k:Int)] else jp bl k
theorem zd4(bl:List Blk):∀k,(jp bl k).length<=k
 | 0=>Nat.le_refl _
 | k+1=>by
  have:=zd4 bl k;unfold jp;split
  ·simp;omega
  ·omega
theorem zlx{w:World}{B h g:Nat}{vb:Value}{S:HpS}(H:ca w B h g vb S) :
 Calls prog 58 #[.pointer (some ⟨h,0,none⟩)] w λe w'=>∃v,e=.returned v/\w'.ownsRow w.heap.size 3 1 v (jp S.bl S.bl.length).length ((jp S.bl S.bl.length).map (Value.int .i64))/\Below w.heap.size w w':=by
 have k1:=H.head.cell (i:=1) rfl;have A6:=H.few;obtain⟨a,c,hv,-,-,-⟩:=zk H.own;have HH:=zh H;subst hv;clear H;go_enter func58,ntmps58;go_wp2;go_loopw [3,12] (λv i wr=>∃k:Nat,k<=S.bl.length/\i=.int .i64 k/\Hid (wr.ownsRow w.heap.size 3 1 v (jp S.bl k).length ((jp S.bl k).map (Value.int .i64)))/\Hid (Below w.heap.size w wr)) (λ_ i _=>S.bl.length-(intOf i).toNat)
 case atStart=>exact⟨0,Nat.zero_le _,rfl,World.ownsRow_nil _ _ _ _,Below.refl _ _⟩
 case round =>
  obtain⟨k,hk,rfl,HO,HB⟩:=hrel;by_cases A8:k<S.bl.length
  ·have HC:=zh (zum (HH.below HB) (k:Int));rw[zjc] at HC;have A0:Hid (jp S.bl (k+1)=if ((S.bl[k]?).map Blk.used).getD false then jp S.bl k++[(k:Int)] else jp S.bl k):=rfl;obtain⟨la,lc,rfl,-,-,-⟩:=zk HO;have A9:=zd4 S.bl k;cases hb:((S.bl[k]?).map Blk.used).getD false with
   | false =>
    rw[hb] at HC A0;simp only[Bool.false_eq_true,if_false] at A0;clear hb;have A3:Hid (wr.ownsRow w.heap.size 3 1 (.slice la (jp S.bl k).length lc) (jp S.bl (k+1)).length ((jp S.bl (k+1)).map (Value.int .i64))):=by unfold Hid;rw[A0.out];exact HO
    clear HO A0;generalize(jp S.bl k).length=L at *;go_wp2_with fail;go_call HC as e w' ⟨rfl,rfl⟩;go_wp2;go_roundw
    case rel=>exact⟨k+1,by omega,by go_num,A3.out,HB.out⟩
    case measure=>simp[intOf];omega
   | true =>
    rw[hb] at HC A0;simp only[if_true] at A0;clear hb;have hbs:=HB.out.size;have A4:(jp S.bl k).length+1<=maxLen:=by unfold maxLen;omega
    have A5:((jp S.bl k).length+1)*8<=140737488355328:=by omega
    have A1:∀u∈[(.int .i64 (k:Int):Value)],u.oneCell'=true:=by intro u hu;simp at hu;rw[hu];rfl
    generalize jp S.bl k=M at *;go_wp2_with fail;go_call HC as e w' ⟨rfl,rfl⟩;go_wp2_with (at_builtin;refine Zb rfl _ _ 25 rfl w.heap.size 3 (.int .i64 0) 1 8 underlying25 zgl rfl (by decide) _ M.length _ rfl (HO.out.alloc _) _ 1 1 [.int .i64 (k:Int)] rfl rfl (zv.madeAt rfl) A1 A4 A5 (Nat.le_trans hbs (by simp)) ?_);intro v' w2 own2 gr2;have A2:=HO.out.lt;have A7:=zh ((HB.out.alloc (by simpa using hbs) _).grown gr2 (by simp;omega) (λk hk=>(A2 k hk).1))
    have A3:Hid (w2.ownsRow w.heap.size 3 1 v' (jp S.bl (k+1)).length ((jp S.bl (k+1)).map (Value.int .i64))):=by
     unfold Hid;rw[A0.out,List.map_append,List.length_append];exact own2
    clear own2 gr2 A2 A4 A5 A1 hbs;go_wp2;go_roundw
    case rel=>exact⟨k+1,by omega,by go_num,A3.out,A7.out⟩
    case measure=>simp[intOf];omega
  ·obtain rfl:k=S.bl.length:=by omega
   obtain⟨la,lc,rfl,-,-,-⟩:=zk HO;go_wp2;go_ret;exact⟨_,rfl,HO,HB⟩
theorem zuo{w:World}{B h g:Nat}{vb:Value}{S:HpS}(H:ca w B h g vb S)(i j:Nat)(hi:i<S.bl.length)(hj:j<S.bl.length)(h1:S.bl[i].at_<=32768)(h2:S.bl[j].at_<=32768) :
 Calls prog 193 #[.pointer (some ⟨h,0,none⟩),.int .i64 i,.int .i64 j] w λe w'=>e=.returned (.int .i64 ((S.bl[i].at_:Int)-(S.bl[j].at_:Int)))/\Below w.heap.size w w':=by
 have k1:=H.head.cell (i:=1) rfl;obtain⟨b,c,hv,c0,-,-⟩:=yr H.own hi;obtain⟨b',c',A0,d0,-,-⟩:=yr H.own hj;rw[hv] at A0;cases A0
 subst hv;clear H;generalize S.bl[i].at_=p at *;generalize S.bl[j].at_=q at *;have hw:RowKit.wrap64 ((p:Int)-(q:Int))=(p:Int)-(q:Int):=by unfold RowKit.wrap64;omega
 go_enter func193,ntmps193;go_wp2_with fail;refine zm (λz=>z.cell? ⟨h,1,none⟩=some (.slice (some ⟨b,0,none⟩) S.bl.length c)/\z.cell? ⟨b,i*3,none⟩=some (.int .i64 p)/\z.cell? ⟨b,j*3,none⟩=some (.int .i64 q)) (zp [0,1,2,3,4,5,6,7,8,9,10,11,12,13,14,15,16,17]) (by kernel_rfl) (by kernel_rfl) (λ_ _ _ _ _ h=>h) ⟨k1,c0,d0⟩ ?_;clear k1 c0 d0;have A1:Below w.heap.size w w.drew:=Zd (Below.refl _ w);generalize w.drew=wd at *
 (repeat (refine zi rfl (λK hK=>?_);go_simp;(try go_bits);refine hK _ ?_;clear hK K))
 refine zl (.slice (some ⟨b,0,none⟩) S.bl.length c) rfl rfl (λx hS=>by obtain⟨s0,s1,s2⟩:=hS;go_simp) ?_
 (repeat (refine zi rfl (λK hK=>?_);go_simp;(try go_bits);refine hK _ ?_;clear hK K))
 refine zl (.int .i64 p) rfl rfl (λx hS=>by obtain⟨s0,s1,s2⟩:=hS;go_simp) ?_
 (repeat (refine zi rfl (λK hK=>?_);go_simp;(try go_bits);refine hK _ ?_;clear hK K))
 refine zl (.slice (some ⟨b,0,none⟩) S.bl.length c) rfl rfl (λx hS=>by obtain⟨s0,s1,s2⟩:=hS;go_simp) ?_
 (repeat (refine zi rfl (λK hK=>?_);go_simp;(try go_bits);refine hK _ ?_;clear hK K))
 refine zl (.int .i64 q) rfl rfl (λx hS=>by obtain⟨s0,s1,s2⟩:=hS;go_simp) ?_
 (repeat (refine zi rfl (λK hK=>?_);go_simp;(try go_bits);refine hK _ ?_;clear hK K))
 refine zo ?_;go_wp2;go_ret;exact⟨rfl,A1⟩
def z7(S:HpS)(k:Nat):Nat:=((S.bl[k]?).map Blk.at_).getD 0
structure znu(S:HpS)(l:List Nat):Prop where
 lt:∀k∈l,k<S.bl.length
 small:∀k∈l,z7 S k<=32768
 up:∀t,t+1<l.length->z7 S (l.getD t 0)<=z7 S (l.getD (t+1) 0)
theorem zun{w:World}{B h g:Nat}{vb:Value}{S:HpS}(H:ca w B h g vb S)(i j:Nat)(hi:i<S.bl.length)(hj:j<S.bl.length)(h1:z7 S i<=32768)(h2:z7 S j<=32768) :
 Calls prog 193 #[.pointer (some ⟨h,0,none⟩),.int .i64 i,.int .i64 j] w λe w'=>e=.returned (.int .i64 ((z7 S i:Int)-(z7 S j:Int)))/\Below w.heap.size w w':=by
 have e1:z7 S i=S.bl[i].at_:=by unfold z7;rw[ze hi];rfl
 have e2:z7 S j=S.bl[j].at_:=by unfold z7;rw[ze hj];rfl
 rw[e1] at h1 ⊢;rw[e2] at h2 ⊢;exact zuo H i j hi hj h1 h2
theorem z6k{w:World}{B h g:Nat}{vb:Value}{S:HpS}(H:ca w B h g vb S)(l:List Nat)(hl:znu S l)(hn:l.length<=1000)(a:Option Addr)(n c lo:Nat)(e0:n=l.length)(A8:lo<=n)(hr:zv w a c ((l.map (λk:Nat=>(k:Int))).map (Value.int .i64))) :
 Calls prog 195 #[.slice a n c,.int .i64 lo,.int .i64 n,.func (.func 193) #[.pointer (some ⟨h,0,none⟩)] #[]] w λe w'=>e=.returned (.tuple #[])/\Below w.heap.size w w':=by
 have HH:=zh H;have HL:=zh hl;have HR:=zh hr;have HE:=zh e0;clear H hl hr;rw[e0] at A8;subst e0;go_enter func195,ntmps195;go_wp2;go_loopw [8] (λi wr=>∃k:Nat,i=.int .i64 k/\lo<k/\k<=l.length+1/\Hid (Below w.heap.size w wr)) (λi _=>l.length+1-(intOf i).toNat)
 case atStart=>exact⟨lo+1,by go_num,by omega,by omega,Below.refl _ _⟩
 case round =>
  obtain⟨k,rfl,B4,B5,HB⟩:=hrel;by_cases A1:k<l.length
  ·obtain⟨b,off,rfl,hb,hc⟩:=HR.out.at (by simp;omega);have hx:(l.map (λk:Nat=>(k:Int))).map (Value.int .i64)=l.map (λk:Nat=>Value.int .i64 (k:Int)):=by rw[List.map_map];rfl
   have A0:∀t,t<l.length->w.cell? ⟨b,off+t,none⟩=some (.int .i64 (l.getD t 0:Nat)):=λt ht=>by
    refine hc t _ ?_;rw[hx,List.getElem?_map,ze ht,zg,ze ht];rfl
   obtain⟨m,rfl⟩:∃m,k=m+1:=⟨k-1,by omega⟩;have A9:=zh (A0 (m+1) A1);have B0:=zh (A0 m (by omega));have A3:l.getD (m+1) 0∈l:=by rw[zg,ze A1];exact List.getElem_mem A1
   have A4:l.getD m 0∈l:=by rw[zg,ze (show m<l.length by omega)];exact List.getElem_mem _
   have A6:=HL.up m A1;have h1:=HL.lt _ A3;have h0:=HL.lt _ A4;have s1:=HL.small _ A3;have s0:=HL.small _ A4;generalize l.getD (m+1) 0=y at *;generalize l.getD m 0=x at *;have B1:=zh A6;clear A0 hc hx A3 A4 hb A6;go_wp2;go_loopw [9] (λj wr2=>j=.int .i64 ((m:Int)+1)/\Hid (Below w.heap.size w wr2)) (λ_ _=>0)
   case atStart=>exact⟨by go_num,HB⟩
   case round =>
    clear HB;obtain⟨rfl,HB⟩:=hrel;have c1:=zu HB A9;have c0:=zu HB B0;have A5:Below w.heap.size w wr.drew:=HB.out.drew;have HM:=zh (zun (HH.below A5) y x h1 h0 s1 s0);have A7:=zh A5;clear A5;have e1:decide ((lo:Int)<(m:Int)+1)=true:=decide_eq_true (by omega);have B6:(0:Int)<=(m:Int)+1:=by omega
    have B7:(0:Int)<=(m:Int):=by omega
    have B8:m<l.length:=by omega
    go_wp2_with fail;refine zm (λz=>z.cell? ⟨b,off+(m+1),none⟩=some (.int .i64 y)/\z.cell? ⟨b,off+m,none⟩=some (.int .i64 x)) (zp [0,1,2,3,4,5,6,7,8,9,10,11,12,13,1014,15,16]) (by kernel_rfl) (by kernel_rfl) (λ_ _ _ _ _ h=>h) ⟨c1,c0⟩ ?_;have HS:Hid (wr.drew.cell? ⟨b,off+(m+1),none⟩=some (.int .i64 y)/\wr.drew.cell? ⟨b,off+m,none⟩=some (.int .i64 x)):=⟨c1,c0⟩;clear c1 c0;generalize wr.drew=wd at *
    (repeat (refine zi rfl (λK hK=>?_);go_simp;(try go_bits);refine hK _ ?_;clear hK K))
    refine zl (.int .i64 y) rfl rfl (λx hS=>by obtain⟨s0,s1⟩:=hS;go_simp) ?_
    (repeat (refine zi rfl (λK hK=>?_);go_simp;(try go_bits);refine hK _ ?_;clear hK K))
    refine zl (.int .i64 x) rfl rfl (λx hS=>by obtain⟨s0,s1⟩:=hS;go_simp) ?_;refine zj rfl ?_;go_wp2_with fail;go_call HM as e w' ⟨rfl,A2⟩;have B2:=zh (A7.trans (A2.mono A7.size));have B3:=zh (And.intro (zu A2 HS.out.1) (zu A2 HS.out.2));have e2:decide ((z7 S y:Int)-(z7 S x:Int)<0)=false:=decide_eq_false (by have:=B1.out;omega);clear A2 HM HS;generalize(z7 S y:Int)-(z7 S x:Int)=z at *;go_wp2;refine⟨B3,?_⟩
    (repeat (refine zi rfl (λK hK=>?_);go_simp;(try go_bits);refine hK _ ?_;clear hK K))
    refine zo ?_;go_wp2;go_roundw
    case rel=>exact⟨m+2,by go_num,by omega,by omega,B2.out⟩
    case measure=>simp[intOf];omega
  ·go_wp2;go_end0;exact⟨rfl,HB⟩
section
variable{w:World}{B h g:Nat}{vb:Value}{S:HpS}
theorem zx1(H:ca w B h g vb S)(l:List Nat)(hl:znu S l)(hn:l.length<=19)(a:Option Addr)(n c:Nat)(e0:n=l.length)(hr:zv w a c ((l.map (λk:Nat=>(k:Int))).map (Value.int .i64))) :
 Calls prog 194 #[.slice a n c,.int .i64 n,.func (.func 193) #[.pointer (some ⟨h,0,none⟩)] #[]] w λe w'=>e=.returned (.tuple #[])/\Below w.heap.size w w':=by
 have HI:=zh (z6k H l hl (by omega) a n c 0 e0 (Nat.zero_le _) hr);have A1:n<=19:=by omega
 clear H hl hr e0 hn;go_enter func194,ntmps194;go_wp2;go_loopw [7,8] (λp q wr=>p=.int .i64 0/\q=.int .i64 20/\wr=w) (λ_ _ _=>0)
 case atStart=>exact⟨rfl,rfl,rfl⟩
 case round =>
  obtain⟨rfl,rfl,rfl⟩:=hrel;go_wp2_with fail;go_call HI as e w' ⟨rfl,hb⟩;have HB:=zh hb;clear hb;go_wp2;go_loopw [6] (λp wr2=>p=.int .i64 20/\Hid (Below wr.heap.size wr wr2)) (λ_ _=>0)
  case atStart=>exact⟨rfl,HB⟩
  case round =>
   obtain⟨rfl,A0⟩:=hrel;go_wp2;go_end0;exact⟨rfl,A0⟩
theorem zlu(H:ca w B h g vb S)(l:List Nat)(hl:znu S l)(hn:l.length<=19)(a:Option Addr)(n c:Nat)(e0:n=l.length)(hr:zv w a c ((l.map (λk:Nat=>(k:Int))).map (Value.int .i64))) :
 Calls prog 192 #[.slice a n c,.func (.func 193) #[.pointer (some ⟨h,0,none⟩)] #[]] w λe w'=>e=.returned (.tuple #[])/\Below w.heap.size w w':=by
 have HI:=zh (zx1 H l hl hn a n c e0 hr);clear H hl hr e0 hn;go_enter func192,ntmps192;go_wp2_with fail;go_call HI as e w' ⟨rfl,hb⟩;have HB:=zh hb;clear hb;go_wp2;go_end0;exact⟨rfl,HB⟩
end
def yd(bl:List Blk):Nat->List Nat
 | 0=>[]
 | k+1=>if ((bl[k]?).map Blk.used).getD false then yd bl k++[k] else yd bl k
theorem ze5(bl:List Blk):∀k,jp bl k=(yd bl k).map (λk:Nat=>(k:Int))
 | 0=>rfl
 | k+1=>by
  unfold jp yd;rw[ze5 bl k];split
  ·simp
  ·rfl
def nOf(S:HpS)(k:Nat):Nat:=((S.bl[k]?).map Blk.n).getD 0
def zot(S:HpS)(a:List (Nat×Nat)×Nat)(k:Nat):List (Nat×Nat)×Nat :=
 if 0<nOf S k then(if a.2<z7 S k then a.1++[(a.2,z7 S k-a.2)] else a.1,z7 S k+nOf S k) else a
def Zk(S:HpS)(l:List Nat):List (Nat×Nat)×Nat:=l.foldl (zot S) ([],0)
def Zs(S:HpS)(l:List Nat):List (Nat×Nat):=if (Zk S l).2<S.N then(Zk S l).1++[((Zk S l).2,S.N-(Zk S l).2)] else(Zk S l).1
theorem zas(S:HpS){l:List Nat}{j:Nat}(h:j<l.length):Zk S (l.take (j+1))=zot S (Zk S (l.take j)) l[j]:=by
 unfold Zk;rw[List.take_add_one,ze h,Option.toList_some,List.foldl_append];rfl
def za2(gs:List (Nat×Nat)):List Value:=gs.flatMap (λp=>[.int .i64 (p.1:Nat),.int .i64 (p.2:Nat)])
theorem zlh(xs ys:List (Nat×Nat)):za2 (xs++ys)=za2 xs++za2 ys:=by simp[za2]
theorem ztd:(prog.info? 277).map (λi=>(i.zero,i.size,i.bytes))=some (some (.agg #[.int .i64 0,.int .i64 0]),2,16):=by kernel_rfl
theorem zxo(S:HpS)(a:List (Nat×Nat)×Nat)(k:Nat):(zot S a k).1.length<=a.1.length+1:=by
 unfold zot;split
 ·split<;>simp
 ·omega
theorem zby(S:HpS)(l:List Nat):∀j,j<=l.length->(Zk S (l.take j)).1.length<=j
 | 0,_=>by simp[Zk]
 | j+1,h=>by
  rw[zas S (by omega)];have h1:=zby S l j (by omega);have h2:=zxo S (Zk S (l.take j)) (l[j]'(by omega));omega
theorem zxp{S:HpS}{a:List (Nat×Nat)×Nat}{k:Nat}(h:z7 S k+nOf S k<=S.N)(ha:a.2<=S.N):(zot S a k).2<=S.N:=by
 unfold zot;split
 ·exact h
 ·exact ha
theorem cv{S:HpS}{l:List Nat}(h:∀k∈l,z7 S k+nOf S k<=S.N):∀j,j<=l.length->(Zk S (l.take j)).2<=S.N
 | 0,_=>by simp[Zk]
 | j+1,hj=>by
  rw[zas S (by omega)];exact zxp (h _ (List.getElem_mem _)) (cv h j (by omega))
theorem gq{S:HpS}{k:Nat}(hk:k<S.bl.length):S.bl[k].at_=z7 S k/\S.bl[k].n=nOf S k:=by
 unfold z7 nOf;rw[ze hk];exact⟨rfl,rfl⟩
def z2s(Q:List Nat->Prop)(w:World)(h:Nat):Prop :=
 Calls prog 189 #[.pointer (some ⟨h,0,none⟩)] w λe w'=>∃v L,Q L/\e=.returned v/\w'.ownsRow w.heap.size 3 1 v L.length ((L.map (λk:Nat=>(k:Int))).map (Value.int .i64))/\Below w.heap.size w w'
structure zyz(Q:List Nat->Prop)(S:HpS):Prop where
 few:∀L,Q L->L.length<=1000
 lt:∀L,Q L->∀k∈L,k<S.bl.length
 fit:∀L,Q L->∀k∈L,z7 S k+nOf S k<=S.N
theorem zhr{w:World}{base base':Nat}{e:TypeId}{size:Nat}{v:Value}{n:Nat}{xs:List Value}(h:w.ownsRow base e size v n xs)(hb:base'<=base):w.ownsRow base' e size v n xs:=by
 refine⟨h.1,?_⟩;rcases h.2 with h2|⟨g,cap,cur,rfl,A0,rest⟩
 ·exact .inl h2
 ·exact .inr ⟨g,cap,cur,rfl,by omega,rest⟩
theorem zu7{w:World}{B h g:Nat}{vb:Value}{S:HpS}(H:ca w B h g vb S){Q:List Nat->Prop}(hQ:zyz Q S)(hO:z2s Q w h) :
 Calls prog 186 #[.pointer (some ⟨h,0,none⟩)] w λe w'=>∃v L,Q L/\e=.returned v/\w'.ownsRow w.heap.size 277 2 v (Zs S L).length (za2 (Zs S L))/\Below w.heap.size w w':=by
 have HO:=zh hO;have HH:=zh H;have HF:=zh hQ;have C8:=H.small;clear H hO hQ;go_enter func186,ntmps186;go_wp2_with fail;refine HO.mono ?_;clear HO;rintro e w1 ⟨v,L,hq,rfl,ho,hb⟩;obtain⟨a,c,rfl,hr,-,-⟩:=zk ho;have HR:=zh hr;have A8:=zh hb;have B5:=zh (HF.lt L hq);have A9:=zh (HF.fit L hq);have C9:=HF.few L hq;have B6:=zh hq;clear ho hr hb hq HF;go_wp2;go_loopw [3,4,11] (λv u i wr=>∃j:Nat,j<=L.length/\i=.int .i64 j/\u=.int .i64 ((Zk S (L.take j)).2:Nat)/\Hid (wr.ownsRow w1.heap.size 277 2 v (Zk S (L.take j)).1.length (za2 (Zk S (L.take j)).1))/\Hid (Below w1.heap.size w1 wr)) (λ_ _ i _=>L.length-(intOf i).toNat)
 case atStart=>exact⟨0,Nat.zero_le _,rfl,rfl,World.ownsRow_nil _ _ _ _,Below.refl _ _⟩
 case round =>
  obtain⟨j,hj,rfl,rfl,HO,HB⟩:=hrel;by_cases B0:j<L.length
  ·have hk:=B5 _ (List.getElem_mem B0);have D0:=A9 _ (List.getElem_mem B0);have C4:=zas S B0;have A4:=zby S L j hj;have A5:=cv A9 j hj;have B7:=zy A8 HB;have k1:=(HH.below B7).head.cell (i:=1) rfl;obtain⟨b,cb,hv,c0,c1,c2⟩:=yr (HH.below B7).own hk;rw[(gq hk).1] at c0;rw[(gq hk).2] at c1;rw[hv] at k1;obtain⟨rb,ro,rfl,C6,hc⟩:=(HR.out.below HB.out).at (by simp;omega);have kc:=hc j (.int .i64 (L[j]:Nat)) (by simp[B0]);have A1:=zh C4;generalize C7:L[j]=k at *;clear C4 hc C6 C7 hv B7;generalize S.bl[k].used=uu at *;generalize Zk S (L.take j)=G at *;obtain⟨gs,en⟩:=G;simp only at A4 A5;unfold zot at A1;simp only at A1;generalize z7 S k=p at *;generalize nOf S k=q at *;have hbs:=HB.out.size;clear HH HR B5 A9 B6 A8;by_cases hq:0<q
   ·rw[if_pos hq] at A1;have D1:(0:Int)<(q:Int):=by omega
    by_cases hp:en<p
    ·rw[if_pos hp] at A1;have B8:(en:Int)<(p:Int):=by omega
     have B1:gs.length+1<=maxLen:=by unfold maxLen;omega
     have B2:(gs.length+1)*16<=140737488355328:=by omega
     have A2:∀u∈[(.int .i64 (en:Int):Value),.int .i64 ((p:Int)-(en:Int))],u.oneCell'=true:=by intro u hu;simp at hu;rcases hu with rfl|rfl<;>rfl
     have B9:Hid (za2 [(en,p-en)]=[.int .i64 (en:Int),.int .i64 ((p:Int)-(en:Int))]):=by
      unfold Hid;show [Value.int .i64 (en:Nat),.int .i64 ((p-en:Nat):Int)]=_
      rw[show((p-en:Nat):Int)=(p:Int)-(en:Int) by omega]
     have C0:=zh A2;have C1:=zh B1;have C2:=zh B2;clear A2 B1 B2;simp only at HO;go_wp2_with (at_builtin;refine Zb rfl _ _ 275 rfl w1.heap.size 277 (.agg #[.int .i64 0,.int .i64 0]) 2 16 underlying275 ztd rfl (by decide) _ gs.length _ rfl ((HO.out.alloc _).alloc _) _ 1 1 [.int .i64 (en:Int),.int .i64 ((p:Int)-(en:Int))] rfl rfl (zv.madeAt (by simp)) C0.out C1.out C2.out (Nat.le_trans hbs (by simp;omega)) ?_);intro v' w2 own2 gr2;have A0:=HO.out.lt;have C3:=zh (((HB.out.alloc hbs _).alloc (by simp;omega) _).grown gr2 (by simp;omega) (λk hk=>(A0 k hk).1))
     have A6:Hid (w2.ownsRow w1.heap.size 277 2 v' (Zk S (L.take (j+1))).1.length (za2 (Zk S (L.take (j+1))).1)):=by
      unfold Hid;rw[A1.out];simp only;rw[List.length_append,zlh,B9.out];exact own2
     have B3:=gr2.block wr.heap.size (by simp;omega) (λh=>by have:=(A0 _ h.symm).2;omega);have B4:=((Row.made wr [.int .i64 (p:Int),.int .i64 (q:Int),.bool uu] 146).alloc (.cells #[.int .i64 (en:Int),.int .i64 ((p:Int)-(en:Int))] 277));have A3:Row w2 wr.heap.size 146 [.int .i64 (p:Int),.int .i64 (q:Int),.bool uu]:=B3.trans B4;have c0':=A3.cell (i:=0) rfl;have c1':=A3.cell (i:=1) rfl;clear B3 B4 A3;clear own2 gr2 A0 HO;go_wp2;go_roundw
     case rel=>exact⟨j+1,by omega,by go_num,by rw[A1.out];exact congrArg (Value.int .i64) (by omega),A6.out,C3.out⟩
     case measure=>simp[intOf];omega
    ·rw[if_neg hp] at A1;have B8:¬(en:Int)<(p:Int):=by omega
     have A6:Hid (wr.ownsRow w1.heap.size 277 2 u3 (Zk S (L.take (j+1))).1.length (za2 (Zk S (L.take (j+1))).1)):=by
      unfold Hid;rw[A1.out];exact HO
     go_wp2;go_roundw
     case rel=>exact⟨j+1,by omega,by go_num,by rw[A1.out];exact congrArg (Value.int .i64) (by omega),A6.out.alloc _,HB.out.alloc hbs _⟩
     case measure=>simp[intOf];omega
   ·rw[if_neg hq] at A1;obtain rfl:q=0:=by omega
    have A6:Hid (wr.ownsRow w1.heap.size 277 2 u3 (Zk S (L.take (j+1))).1.length (za2 (Zk S (L.take (j+1))).1)):=by
     unfold Hid;rw[A1.out];exact HO
    go_wp2;go_roundw
    case rel=>exact⟨j+1,by omega,by go_num,by rw[A1.out],A6.out.alloc _,HB.out.alloc hbs _⟩
    case measure=>simp[intOf];omega
  ·obtain rfl:j=L.length:=by omega
   rw[List.take_length] at HO ⊢;have k0:=(HH.below (zy A8 HB)).head.cell (i:=0) rfl;have C5:=zh (zy A8 HB);have A4:=zby S L L.length (Nat.le_refl _);have A5:=cv A9 L.length (Nat.le_refl _);have HG:Hid (Zs S L=if (Zk S L).2<S.N then(Zk S L).1++[((Zk S L).2,S.N-(Zk S L).2)] else(Zk S L).1):=rfl;rw[List.take_length] at A4 A5;have hbs:=HB.out.size;have A7:=A8.out.size;generalize Zk S L=G at *;obtain⟨gs,en⟩:=G;simp only at A4 A5 HO HG;clear B0 HB HR B5 A9;by_cases hp:en<S.N
   ·rw[if_pos hp] at HG;have B8:(en:Int)<(S.N:Int):=by omega
    have B1:gs.length+1<=maxLen:=by unfold maxLen;omega
    have B2:(gs.length+1)*16<=140737488355328:=by omega
    have A2:∀u∈[(.int .i64 (en:Int):Value),.int .i64 ((S.N:Int)-(en:Int))],u.oneCell'=true:=by intro u hu;simp at hu;rcases hu with rfl|rfl<;>rfl
    have B9:Hid (za2 [(en,S.N-en)]=[.int .i64 (en:Int),.int .i64 ((S.N:Int)-(en:Int))]):=by
     unfold Hid;show [Value.int .i64 (en:Nat),.int .i64 ((S.N-en:Nat):Int)]=_
     rw[show((S.N-en:Nat):Int)=(S.N:Int)-(en:Int) by omega]
    have C0:=zh A2;have C1:=zh B1;have C2:=zh B2;clear A2 B1 B2;go_wp2_with (at_builtin;refine Zb rfl _ _ 275 rfl w1.heap.size 277 (.agg #[.int .i64 0,.int .i64 0]) 2 16 underlying275 ztd rfl (by decide) _ gs.length _ rfl (HO.out.alloc _) _ 1 1 [.int .i64 (en:Int),.int .i64 ((S.N:Int)-(en:Int))] rfl rfl (zv.madeAt (by simp)) C0.out C1.out C2.out (Nat.le_trans hbs (by simp)) ?_);intro v' w2 own2 gr2;have A0:=HO.out.lt;have C3:=zh ((C5.out.alloc (Nat.le_trans A7 hbs) _).grown gr2 (by simp;omega) (λk hk=>Nat.le_trans A7 (A0 k hk).1))
    have A6:Hid (w2.ownsRow w1.heap.size 277 2 v' (Zs S L).length (za2 (Zs S L))):=by
     unfold Hid;rw[HG.out];rw[List.length_append,zlh,B9.out];exact own2
    clear own2 gr2 A0 HO;go_wp2;go_ret;exact⟨_,L,B6,rfl,zhr A6 A7,C3⟩
   ·rw[if_neg hp] at HG;have B8:¬(en:Int)<(S.N:Int):=by omega
    have A6:Hid (wr.ownsRow w1.heap.size 277 2 u3 (Zs S L).length (za2 (Zs S L))):=by
     unfold Hid;rw[HG.out];exact HO
    go_wp2;go_ret;exact⟨_,L,B6,rfl,zhr A6 A7,C5⟩
theorem zlg:∀ {xs:List (Nat×Nat)} {k:Nat} (h:k<xs.length),(za2 xs)[k*2]?=some (.int .i64 (xs[k].1:Nat))/\(za2 xs)[k*2+1]?=some (.int .i64 (xs[k].2:Nat))
 | x::xs,0,h=>⟨rfl,rfl⟩
 | x::xs,k+1,h=>by
  have ih:=zlg (xs:=xs) (k:=k) (by simp at h;omega);have e:za2 (x::xs)=[Value.int .i64 (x.1:Nat),.int .i64 (x.2:Nat)]++za2 xs:=rfl;rw[e,List.getElem?_append_right (by simp;omega),List.getElem?_append_right (by simp;omega),List.getElem_cons_succ];rw[show(k+1)*2 - [Value.int .i64 (x.1:Nat),.int .i64 (x.2:Nat)].length=k*2 by simp;omega,show(k+1)*2+1 - [Value.int .i64 (x.1:Nat),.int .i64 (x.2:Nat)].length=k*2+1 by simp;omega];exact ih
theorem zbg{w:World}{B:Nat}{v:Value}{gs:List (Nat×Nat)}(h:w.ownsRow B 277 2 v gs.length (za2 gs)){k:Nat}(hk:k<gs.length) :
 ∃b c,v=.slice (some ⟨b,0,none⟩) gs.length c/\w.cell? ⟨b,k*2,none⟩=some (.int .i64 (gs[k].1:Nat))/\w.cell? ⟨b,k*2+1,none⟩=some (.int .i64 (gs[k].2:Nat)):=by
 rcases h.2 with⟨_,h0⟩|⟨g,cap,cur,rfl,hb,hg,hn,hm,hs,ht⟩
 ·omega
 ·have A0:=h.cells (g:=g) rfl;obtain⟨g1,g2⟩:=zlg hk;have h1:=A0 _ _ g1;have h2:=A0 _ _ g2;rw[qk,Nat.zero_add] at h1 h2;exact⟨g,cap,rfl,h1,h2⟩
theorem z05{S:HpS}{a:List (Nat×Nat)×Nat}{k:Nat}(h:z7 S k+nOf S k<=S.N)(ha:a.2<=S.N)(hg:∀g∈a.1,g.1+g.2<=S.N):∀g∈(zot S a k).1,g.1+g.2<=S.N:=by
 unfold zot;split
 ·split
  ·intro g A0;simp only[List.mem_append,List.mem_singleton] at A0;rcases A0 with A0|rfl
   ·exact hg g A0
   ·simp only;omega
  ·exact hg
 ·exact hg
theorem zk7{S:HpS}{l:List Nat}(h:∀k∈l,z7 S k+nOf S k<=S.N):∀j,j<=l.length->∀g∈(Zk S (l.take j)).1,g.1+g.2<=S.N
 | 0,_=>by simp[Zk]
 | j+1,hj=>by
  rw[zas S (by omega)];exact z05 (h _ (List.getElem_mem _)) (cv h j (by omega)) (zk7 h j (by omega))
theorem zgo{S:HpS}{l:List Nat}(h:∀k∈l,z7 S k+nOf S k<=S.N):∀g∈Zs S l,g.1+g.2<=S.N:=by
 have h1:=zk7 h l.length (Nat.le_refl _);have h2:=cv h l.length (Nat.le_refl _);rw[List.take_length] at h1 h2;unfold Zs;split
 ·intro g hg;simp only[List.mem_append,List.mem_singleton] at hg;rcases hg with hg|rfl
  ·exact h1 g hg
  ·simp only;omega
 ·exact h1
theorem zeg(S:HpS)(l:List Nat):(Zs S l).length<=l.length+1:=by
 have h:=zby S l l.length (Nat.le_refl _);rw[List.take_length] at h;unfold Zs;split
 ·simp;exact h
 ·omega
def gx(gs:List (Nat×Nat)):Nat:=gs.foldl (λa g=>a+g.2) 0
def cm(gs:List (Nat×Nat)):Nat:=gs.foldl (λa g=>max a g.2) 0
theorem zic(gs:List (Nat×Nat)){j:Nat}(h:j<gs.length):gx (gs.take (j+1))=gx (gs.take j)+gs[j].2:=by
 unfold gx;rw[List.take_add_one,ze h,Option.toList_some,List.foldl_append];rfl
theorem zgc(gs:List (Nat×Nat)){j:Nat}(h:j<gs.length):cm (gs.take (j+1))=max (cm (gs.take j)) gs[j].2:=by
 unfold cm;rw[List.take_add_one,ze h,Option.toList_some,List.foldl_append];rfl
theorem zjx{N:Nat}(gs:List (Nat×Nat))(h:∀g∈gs,g.1+g.2<=N):∀j,j<=gs.length->gx (gs.take j)<=j*N/\cm (gs.take j)<=N
 | 0,_=>by simp[gx,cm]
 | j+1,hj=>by
  obtain⟨h1,h2⟩:=zjx gs h j (by omega);have h3:=h _ (List.getElem_mem (show j<gs.length by omega));rw[zic gs (by omega),zgc gs (by omega)];rw[Nat.succ_mul];omega
theorem z14{w:World}{B h g:Nat}{vb:Value}{S:HpS}(H:ca w B h g vb S){Q:List Nat->Prop}(hQ:zyz Q S)(hO:z2s Q w h) :
 Calls prog 175 #[.pointer (some ⟨h,0,none⟩)] w λe w'=>∃L,Q L/\e=.returned (.tuple #[.int .i64 (gx (Zs S L):Nat),.int .i64 (cm (Zs S L):Nat)])/\Below w.heap.size w w':=by
 have HG:=zh (zu7 H hQ hO);have HF:=zh hQ;have A6:=H.small;clear H hO hQ;go_enter func175,ntmps175;go_wp2_with fail;refine HG.mono ?_;clear HG;rintro e w1 ⟨v,L,hq,rfl,ho,hb⟩;have A7:=zh hb;have A2:=zgo (HF.fit L hq);have B3:=HF.few L hq;have B4:=zeg S L;have A8:=zh hq;obtain⟨va,vc,rfl,-,-,-⟩:=zk ho;have HO:=zh ho;clear ho hb hq HF;generalize A3:Zs S L=gs at *;have A9:=zh A3;clear A3;have A4:=zh (zjx gs A2);clear A2;go_wp2;go_loopw [4,5,13] (λx y i wr=>∃j:Nat,j<=gs.length/\i=.int .i64 j/\x=.int .i64 (gx (gs.take j):Nat)/\y=.int .i64 (cm (gs.take j):Nat)/\Hid (Below w1.heap.size w1 wr)) (λ_ _ i _=>gs.length-(intOf i).toNat)
 case atStart=>exact⟨0,Nat.zero_le _,rfl,rfl,rfl,Below.refl _ _⟩
 case round =>
  obtain⟨j,hj,rfl,rfl,rfl,HB⟩:=hrel;obtain⟨B5,B6⟩:=A4 j hj;by_cases A0:j<gs.length
  ·obtain⟨b,c,hv,c0,c1⟩:=zbg ((Upd.of_below (l:=[]) HB.out).ownsAbove HO.out (by simp)) A0;cases hv
   have A5:=zic gs A0;have A1:=zgc gs A0;have B0:=(A4.out (j+1) (by omega)).2;rw[A1] at B0;have B1:=zh A5;have B2:=zh A1;have B7:j*S.N<=1001*32768:=Nat.mul_le_mul (by omega) A6;have hbs:=HB.out.size;generalize gs[j].1=s at *;generalize gs[j].2=n at *;generalize gx (gs.take j)=A at *;generalize cm (gs.take j)=M at *;clear A5 A1;go_wp2_with fail;go_region;go_wp2;refine⟨⟨j+1,by omega,by go_num,?_,?_,(HB.out.alloc hbs _).drew⟩,by simp[intOf];omega⟩
   ·rw[B1.out];exact congrArg (Value.int .i64) (by omega)
   ·rw[B2.out];refine congrArg (Value.int .i64) ?_;split<;>omega
  ·obtain rfl:j=gs.length:=by omega
   rw[List.take_length];go_wp2;go_ret2;exact⟨L,A8.out,by rw[A9.out];rfl,zy A7.out HB.out⟩
theorem zxx(w:World)(p q:Nat)(u:Bool):Calls prog 188 #[.agg #[.int .i64 p,.int .i64 q,.bool u]] w λe w'=>e=.returned (.bool (!u))/\Below w.heap.size w w':=by
 go_enter func188,ntmps188;go_wp2;go_ret;exact⟨rfl,(Below.refl _ _).alloc (Nat.le_refl _) _⟩
def zz(S:HpS):Nat:=S.bl.findIdx (λb=>!b.used)
theorem ztx{S:HpS}{k:Nat}(hk:k<S.bl.length)(h:S.bl[k].used=false)(hz:∀j (hj:j<S.bl.length),j<k->S.bl[j].used=true):zz S=k:=by
 unfold zz;rw[List.findIdx_eq hk];exact⟨by simp[h],λj hj=>by simp[hz j (by omega) hj]⟩
theorem ztw{S:HpS}(hz:∀j (hj:j<S.bl.length),S.bl[j].used=true):zz S=S.bl.length:=by
 unfold zz;rw[List.findIdx_eq_length];intro b hb;obtain⟨j,hj,rfl⟩:=List.getElem_of_mem hb;simp[hz j hj]
def zcq(S:HpS):Int:=if zz S<S.bl.length then(zz S:Int) else -1
theorem zg4{w:World}{B h g:Nat}{vb:Value}{S:HpS}(H:ca w B h g vb S) :
 Calls prog 187 #[vb,.func (.func 188) #[] #[]] w λe w'=>e=.returned (.int .i64 (zcq S))/\Below w.heap.size w w':=by
 have A4:=H.few;obtain⟨a,c,hv,-,-,-⟩:=zk H.own;have HO:=zh H.own;subst hv;clear H;go_enter func187,ntmps187;go_wp2;go_loopw [8] (λi wr=>∃k:Nat,k<=S.bl.length/\i=.int .i64 k/\Hid (∀j (hj:j<S.bl.length),j<k->S.bl[j].used=true)/\Hid (Below w.heap.size w wr)) (λi _=>S.bl.length-(intOf i).toNat)
 case atStart=>exact⟨0,Nat.zero_le _,rfl,λj _ hj=>by omega,Below.refl _ _⟩
 case round =>
  obtain⟨k,hk,rfl,hz,HB⟩:=hrel;by_cases A1:k<S.bl.length
  ·obtain⟨b,cb,hv,c0,c1,c2⟩:=yr ((Upd.of_below (l:=[]) HB.out).ownsAbove HO.out (by simp)) A1;cases hv
   have HY:=zh (λh=>ztx A1 h hz.out)
   have HN:=zh (λh:S.bl[k].used=true=>(by
    intro j hj A7;by_cases A5:j=k
    ·subst A5;exact h
    ·exact hz.out j hj (by omega):∀j (hj:j<S.bl.length),j<k+1->S.bl[j].used=true))
   have HC:=zh (λu=>zxx wr S.bl[k].at_ S.bl[k].n u);generalize S.bl[k].at_=p at *;generalize S.bl[k].n=q at *;generalize S.bl[k].used=u at *;clear hz;cases u
   ·have HV:=zh (HY rfl);have A2:=zh (HC false);clear HY HN HC;go_wp2_with (go_at_call 188;go_call A2 as e w' ⟨rfl,A0⟩;have A3:=zh A0;clear A0);go_ret;exact⟨by unfold zcq;rw[HV.out,if_pos A1];rfl,zy HB.out A3.out⟩
   ·have HV:=zh (HN rfl);have A2:=zh (HC true);clear HY HN HC;go_wp2_with (go_at_call 188;go_call A2 as e w' ⟨rfl,A0⟩;have A3:=zh A0;clear A0);go_roundw
    case rel=>exact⟨k+1,by omega,by go_num,HV.out,zy HB.out A3.out⟩
    case measure=>simp[intOf];omega
  ·have A6:k=S.bl.length:=by omega
   subst A6;have HV:=zh (ztw (λj hj=>hz.out j hj hj));clear hz;go_wp2;go_ret;exact⟨by unfold zcq;rw[HV.out,if_neg (Nat.lt_irrefl _)];rfl,HB.out⟩
def zd0(x:Int):Bool:=decide (x<0) || decide (65535<x)
theorem z1o(o:Int)(w:World):Calls prog 83 #[.int .i64 o] w λe w'=>e=.returned (.bool (zd0 o))/\w=w':=by
 by_cases h0:o<0
 ·have hv:zd0 o=true:=by unfold zd0;simp[h0]
  rw[hv];clear hv;go_enter func83,ntmps83;go_wp2;go_ret;exact⟨rfl,rfl⟩
 ·have hv:zd0 o=decide (65535<o):=by unfold zd0;simp[h0]
  rw[hv];clear hv;go_enter func83,ntmps83;go_wp2;go_ret;exact⟨rfl,rfl⟩
def zwk(l:List Int):Bool:=l.any zd0
theorem zyu{l:List Int}{k:Nat}(hk:k<l.length)(h:zd0 (l.getD k 0)=true):zwk l=true:=by
 unfold zwk;rw[List.any_eq_true];refine⟨l.getD k 0,?_,h⟩;rw[zg,ze hk];exact List.getElem_mem hk
theorem z2k{l:List Int}(h:∀j,j<l.length->zd0 (l.getD j 0)=false):zwk l=false:=by
 unfold zwk;rw[List.any_eq_false];intro x hx;obtain⟨j,hj,rfl⟩:=List.getElem_of_mem hx;have:=h j hj;rw[zg,ze hj] at this;simpa using this
theorem zpf{l:List Int}:zwk l=false↔∀x∈l,0<=x/\x<=65535:=by
 unfold zwk;rw[List.any_eq_false];unfold zd0;simp only[Bool.or_eq_true,decide_eq_true_eq,not_or,Int.not_lt]
theorem zuq(a:Option Addr)(n c:Nat)(l:List Int)(w:World)(e0:n=l.length)(h:zv w a c (l.map (Value.int .i64)))(hm:n<=1000000000) :
 Calls prog 120 #[.slice a n c,.func (.func 83) #[] #[]] w λe w'=>∃v:Int,e=.returned (.int .i64 v)/\decide (0<=v)=zwk l/\w=w':=by
 subst e0;have HR:=zh h;clear h;go_enter func120,ntmps120;go_wp2;go_loop [8] (λi=>∃k:Nat,k<=l.length/\i=.int .i64 k/\Hid (∀j,j<k->zd0 (l.getD j 0)=false)) (λi=>l.length-(intOf i).toNat)
 case atStart=>exact⟨0,Nat.zero_le _,rfl,λj hj=>by omega⟩
 case round =>
  obtain⟨k,hk,rfl,hz⟩:=hrel;by_cases A0:k<l.length
  ·obtain⟨b,off,rfl,A2,hc⟩:=HR.out.at (by simp;omega);have A1:=hc k _ (zr A0);have HC:=zh (z1o (l.getD k 0) w);have HY:=zh (λh=>zyu (l:=l) (k:=k) A0 h)
   have HN:=zh (λh:zd0 (l.getD k 0)=false=>(by
    intro j hj;by_cases A3:j=k
    ·subst A3;exact h
    ·exact hz.out j (by omega):∀j,j<k+1->zd0 (l.getD j 0)=false))
   generalize l.getD k 0=x at *;clear hc hz;cases hx:zd0 x
   ·rw[hx] at HC;have HV:=zh (HN hx);clear HY HN hx;go_wp2_with (go_at_call 83;go_call HC as e w' ⟨rfl,rfl⟩);go_round
    case rel=>exact⟨k+1,by omega,by go_num,HV.out⟩
    case measure=>simp[intOf];omega
   ·rw[hx] at HC;have HV:=zh (HY hx);clear HY HN hx;go_wp2_with (go_at_call 83;go_call HC as e w' ⟨rfl,rfl⟩);go_ret;exact⟨k,rfl,by rw[HV.out];simp,rfl⟩
  ·have A4:k=l.length:=by omega
   subst A4;have HV:=zh (z2k hz.out);clear hz;go_wp2;go_ret;exact⟨-1,rfl,by rw[HV.out];rfl,rfl⟩
theorem zlt(a:Option Addr)(n c:Nat)(l:List Int)(w:World)(e0:n=l.length)(h:zv w a c (l.map (Value.int .i64)))(hm:n<=1000000000) :
 Calls prog 82 #[.slice a n c,.func (.func 83) #[] #[]] w λe w'=>e=.returned (.bool (zwk l))/\w=w':=by
 have HI:=zh (zuq a n c l w e0 h hm);clear h hm e0;go_enter func82,ntmps82;go_wp2_with (go_at_call 120;go_call HI as e w' ⟨v,rfl,hv,rfl⟩;have HV:=zh hv;clear hv);go_ret;refine⟨?_,rfl⟩;rw[<-HV.out];rfl
end Go.Proofs.YtoeibiahbenpcaaGreatDoor
