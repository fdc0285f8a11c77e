/- Part. -/
import Derived.Test.YtoeibiahbenpcaaGreatDoorA09
import Derived.WalkMore
namespace Go.Proofs.YtoeibiahbenpcaaGreatDoor
open RowKit Maps Proofs.Tryz
set_option linter.unusedVariables false
set_option maxRecDepth 99999
set_option maxHeartbeats 9000000
def zl8(t:TypeId):Prop:=t=129\/t=147\/t=146
instance(t:TypeId):Decidable (zl8 t):=by unfold zl8;exact inferInstance
structure zai(B:Nat)(w w':World):Prop where
 os:w'.os=w.os
 tape:w'.tape=w.tape
 output:w'.output=w.output
 size:w.heap.size<=w'.heap.size
 block:∀k,k<w.heap.size->(k<B\/∀cs t r,w.heap[k]?=some (.cells cs t r)->¬zl8 t)->w'.heap[k]?=w.heap[k]?
theorem zai.refl(B:Nat)(w:World):zai B w w:=⟨rfl,rfl,rfl,Nat.le_refl _,λ_ _ _=>rfl⟩
theorem zai.trans{B:Nat}{a b c:World}(h:zai B a b)(k:zai B b c):zai B a c :=
 ⟨k.os.trans h.os,k.tape.trans h.tape,k.output.trans h.output,Nat.le_trans h.size k.size,λi hi hn=>by
  have e:=h.block i hi hn
  exact(k.block i (Nat.lt_of_lt_of_le hi h.size) (by rw[e];exact hn)).trans e⟩
theorem zai.of_below{B:Nat}{a b:World}(h:Below a.heap.size a b):zai B a b:=⟨h.os,h.tape,h.output,h.size,λi hi _=>h.block i hi⟩
theorem zai.of_upd{B:Nat}{l:List Nat}{a b:World}(h:Upd l a b)(hl:∀g∈l,B<=g/\∃t xs,Row a g t xs/\zl8 t):zai B a b :=
 ⟨h.os,h.tape,h.output,h.size,λi hi hn=>h.block i hi (λhm=>by
  obtain⟨h1,t,xs,h2,h3⟩:=hl i hm;rcases hn with hn|hn
  ·omega
  ·exact hn _ _ _ h2 h3)⟩
theorem zai.below{B:Nat}{a b:World}(h:zai B a b):Below B a b\/a.heap.size<B:=by
 by_cases hB:B<=a.heap.size
 ·exact .inl ⟨h.os,h.tape,h.output,h.size,λi hi=>h.block i (by omega) (.inl hi)⟩
 ·exact .inr (by omega)
theorem zai.owns{B:Nat}{w w':World}(u:zai B w w'){base:Nat}{e:TypeId}{size:Nat}{v:Value}{n:Nat}{xs:List Value}(h:w.ownsRow base e size v n xs)(ht:¬zl8 e):w'.ownsRow base e size v n xs:=by
 refine⟨h.1,?_⟩;rcases h.2 with h2|⟨g,cap,cur,rfl,A0,hg,rest⟩
 ·exact .inl h2
 ·exact .inr ⟨g,cap,cur,rfl,A0,(u.block g (Array.getElem?_eq_some_iff.1 hg).1 (.inr (λcs t' r h'=>by rw[hg] at h';cases h';exact ht))).trans hg,rest⟩
theorem zbf{w:World}{base:Nat}{e:TypeId}{size:Nat}{v:Value}{n:Nat}{xs:List Value}(h:w.ownsRow base e size v n xs)(hn:0<n) :
 ∃g c cur,v=.slice (some ⟨g,0,none⟩) n c/\base<=g/\Row w g e cur/\cur.take (n*size)=xs/\n<=c/\c<=maxLen/\cur.length=c*size:=by
 rcases h.2 with⟨_,rfl⟩|⟨g,cap,cur,rfl,hb,hg,A0,hm,hs,ht⟩
 ·omega
 ·exact⟨g,cap,cur.toList,rfl,hb,by unfold Row;simpa using hg,by simpa using ht,A0,hm,by simpa using hs⟩
theorem zcw{w:World}{base:Nat}{e:TypeId}{size:Nat}{n g c:Nat}{cur xs:List Value}(hb:base<=g)(hr:Row w g e cur)(ht:cur.take (n*size)=xs)(hn:n<=c)(hm:c<=maxLen)(hl:cur.length=c*size) :
 w.ownsRow base e size (.slice (some ⟨g,0,none⟩) n c) n xs:=by
 refine⟨?_,.inr ⟨g,c,cur.toArray,rfl,hb,hr,hn,hm,by simpa using hl,by simpa using ht⟩⟩;rw[<-ht,List.length_take,hl];exact Nat.min_eq_left (Nat.mul_le_mul_right _ hn)
theorem cz:∀(bl:List Blk) (m:Nat) (x:Blk),Z8 (bl.set m x)=if m<bl.length then(((Z8 bl).set (m*3) (.int .i64 x.at_)).set (m*3+1) (.int .i64 x.n)).set (m*3+2) (.bool x.used) else Z8 bl
 | [],m,x=>by simp[Z8]
 | y::bl,0,x=>by
  show x.row++Z8 bl=_
  rw[if_pos (by simp)];rfl
 | y::bl,m+1,x=>by
  have ih:=cz bl m x;show y.row++Z8 (bl.set m x)=_
  rw[ih];by_cases h:m<bl.length
  ·rw[if_pos h,if_pos (by simp;exact h)];show _=(((y.row++Z8 bl).set ((m+1)*3) _).set ((m+1)*3+1) _).set ((m+1)*3+2) _
   have e:y.row.length=3:=rfl;have e0:(m+1)*3-y.row.length=m*3:=by rw[e];omega
   have e1:(m+1)*3+1-y.row.length=m*3+1:=by rw[e];omega
   have e2:(m+1)*3+2-y.row.length=m*3+2:=by rw[e];omega
   rw[List.set_append_right (h:=by rw[e];omega),e0,List.set_append_right (h:=by rw[e];omega),e1,List.set_append_right (h:=by rw[e];omega),e2]
  ·rw[if_neg h,if_neg (by simp;omega)];rfl
theorem jk{l:List Value}{i:Nat}{v:Value}(h:l[i]?=some v):l.set i v=l:=by
 apply List.ext_getElem?;intro j;rw[List.getElem?_set];split
 ·next e=>subst e;split<;>simp_all
 ·rfl
theorem zqq{bl:List Blk}{m:Nat}(hm:m<bl.length)(u:Bool):Z8 (bl.set m { bl[m] with used:=u })=(Z8 bl).set (m*3+2) (.bool u):=by
 rw[cz,if_pos hm];have h0:=zaa (j:=0) (ze hm) rfl;have h1:=zaa (j:=1) (ze hm) rfl;show(((Z8 bl).set (m*3+0) (.int .i64 bl[m].at_)).set (m*3+1) (.int .i64 bl[m].n)).set (m*3+2) (.bool u)=_
 rw[jk h0,jk h1]
theorem zxr{bl:List Blk}{m:Nat}(hm:m<bl.length)(p:Nat):Z8 (bl.set m { bl[m] with at_:=p })=(Z8 bl).set (m*3) (.int .i64 p):=by
 rw[cz,if_pos hm];have h1:=zaa (j:=1) (ze hm) rfl;have h2:=zaa (j:=2) (ze hm) rfl
 have e:((Z8 bl).set (m*3) (.int .i64 p))[m*3+1]?=some (.int .i64 bl[m].n):=by
  rw[List.getElem?_set_ne (by omega)];exact h1
 have e2:((Z8 bl).set (m*3) (.int .i64 p))[m*3+2]?=some (.bool bl[m].used):=by
  rw[List.getElem?_set_ne (by omega)];exact h2
 show(((Z8 bl).set (m*3) (.int .i64 p)).set (m*3+1) (.int .i64 bl[m].n)).set (m*3+2) (.bool bl[m].used)=_
 rw[jk e,jk e2]
theorem qh{w:World}{g g':Nat}{t t':TypeId}{xs ys:List Value}(h:Row w g t xs)(h':Row w g' t' ys)(A0:t≠t'):g≠g':=by
 rintro rfl;unfold Row at h h';rw[h] at h';cases h'
 exact A0 rfl
def zcr(S:HpS)(m:Nat):HpS:=if hm:m<S.bl.length then { S with bl:=S.bl.set m { S.bl[m] with used:=false } } else S
theorem zu8{w:World}{B h g:Nat}{vb:Value}{S:HpS}(H:ca w B h g vb S)(m:Nat)(hm:m<S.bl.length)(hu:S.bl[m].used=true):Calls prog 98 #[.pointer (some ⟨h,0,none⟩),.int .i64 m] w λe w'=>e=.returned (.int .i64 0)/\ca w' B h g vb (zcr S m)/\zai B w w':=by
 have HC:=zh (zum H m);rw[zjd hm hu] at HC;have k1:=H.head.cell (i:=1) rfl;have HH:=zh H;obtain⟨b,c,cur,hv,hb,hr,ht,hn,hc,hl⟩:=zbf H.own (by omega);subst hv;have kf:=hr.free (m*3+2);have kl:m*3+2<cur.length:=by rw[hl];have:=Nat.mul_le_mul_right 3 hn;omega
 have kc:=hr.cell (i:=m*3+2) (v:=cur[m*3+2]) (by simp);have HR:=zh hr;have HT:=zh ht;have HL:=zh hl;clear H hu hr ht hl;generalize cur[m*3+2]=old at *;go_enter func98,ntmps98;go_wp2_with fail;go_call HC as e w' ⟨rfl,rfl⟩;go_wp2;go_ret;refine⟨rfl,?_,?_⟩
 ·have n1:b≠h:=qh HR.out HH.out.head (by decide);have n2:b≠g:=qh HR.out HH.out.data (by decide);unfold zcr;rw[dif_pos hm];refine⟨HH.out.head.setOther n1 _,HH.out.data.setOther n2 _,?_,HH.out.len,HH.out.small,by simp;exact HH.few,HH.lo,HH.word⟩;simp only[List.length_set];rw[zqq hm];exact zcw hb (HR.out.set _ _) (by rw[List.take_set,HT.out]) hn hc (by rw[List.length_set];exact HL)
 ·exact .of_upd (l:=[b]) ((Upd.refl _ _).setCell (by simp) _) (λk hk=>by simp at hk;subst hk;exact⟨hb,_,_,HR,by decide⟩)
section
variable{w:World}{B h g:Nat}{vb:Value}{S:HpS}
end
theorem ye{α:Type}(L:List α)(off:Nat)(cs:List α)(h:off+cs.length<=L.length):(splice L off cs).length=L.length:=by
 unfold splice;simp;omega
theorem zmm{L:List Int}{p:Nat}{l:List Int}{j:Nat}(hj:j<l.length)(h:p+l.length<=L.length):splice L p (l.take (j+1))=(splice L p (l.take j)).set (p+j) (l.getD j 0):=by
 have e1:(l.take (j+1)).length=j+1:=by simp;omega
 have e2:(l.take j).length=j:=by simp;omega
 apply List.ext_getElem?;intro t;rw[qe _ _ _ (by rw[e1];omega),List.getElem?_set,qe _ _ _ (by rw[e2];omega),ye _ _ _ (by rw[e2];omega),e1,e2];by_cases h1:t<p
 ·rw[if_pos h1,if_neg (by omega),if_pos h1]
 ·rw[if_neg h1,if_neg h1];by_cases h2:p+j=t
  ·subst h2;rw[if_pos (by omega),if_pos rfl,if_pos (by omega),show p+j-p=j by omega,List.getElem?_take,if_pos (by omega),zg,ze hj];rfl
  ·rw[if_neg h2];by_cases h3:t<p+j
   ·rw[if_pos (by omega),if_pos h3,List.getElem?_take,if_pos (by omega),List.getElem?_take,if_pos (by omega)]
   ·rw[if_neg (by omega),if_neg h3]
theorem zbn{L:List Int}{p:Nat}{l:List Int}{P:Int->Prop}(hL:∀x∈L,P x)(hl:∀x∈l,P x):∀x∈splice L p l,P x:=by
 unfold splice;intro x hx;simp only[List.mem_append] at hx;rcases hx with hx|hx|hx
 ·exact hL x (List.mem_of_mem_take hx)
 ·exact hl x hx
 ·exact hL x (List.mem_of_mem_drop hx)
theorem Upd.cell{l:List Nat}{a b:World}(h:Upd l a b){p:Addr}{v:Value}(hc:a.cell? p=some v)(hn:p.block∉l):b.cell? p=some v :=
 (World.cell?_of_block (w:=a) (h.block _ (World.block_lt_of_cell? a p hc) hn)).trans hc
def wsS(S:HpS)(p:Nat)(l:List Int):HpS:={ S with ws:=splice S.ws p l }
theorem zu6{w:World}{B h g:Nat}{vb:Value}{S:HpS}(H:ca w B h g vb S)(m:Nat)(hm:m<S.bl.length)(hu:S.bl[m].used=true)(hN:S.bl[m].at_+S.bl[m].n<=S.N)(i:Nat)(a:Option Addr)(n c:Nat)(l:List Int)(e0:n=l.length)(hn:i+n<=S.bl[m].n)(hr:zv w a c (l.map (Value.int .i64)))(hg:∀x,a=some x->x.block≠g)(hb:zwk l=false) :
 Calls prog 35 #[.pointer (some ⟨h,0,none⟩),.int .i64 m,.int .i64 i,.slice a n c] w λe w'=>e=.returned (.int .i64 0)/\ca w' B h g vb (wsS S (S.bl[m].at_+i) l)/\zai B w w':=by
 have B0:=H.small;have HC:=zh (zum H m);rw[zjd hm hu] at HC;have HW:=zh (zlt a n c l w e0 hr (by omega));rw[hb] at HW;have A3:=zh (zpf.1 hb);have k0:=H.head.cell (i:=0) rfl;have k1:=H.head.cell (i:=1) rfl;obtain⟨b,cb,hv,c0,c1,c2⟩:=yr H.own hm;subst hv;have HH:=zh H;have HR:=zh hr;have HG:=zh hg;have A0:=H.len;have A4:=zh A0;have nhg:h≠g:=qh H.head H.data (by decide);obtain⟨b',_,_,B1,_,A1,_⟩:=zbf H.own (by omega);cases B1
 have nbg:b≠g:=qh A1 H.data (by decide);subst e0;clear H hu c2 hr hb hg A1;generalize S.bl[m].n=q at *;generalize S.bl[m].at_=p at *;have hp:p+i+l.length<=S.ws.length:=by omega
 have HP:=zh hp;have h0:¬(q:Int)<(i:Int):=by omega
 have h1:¬(q:Int)-(i:Int)<(l.length:Int):=by omega
 clear A0 hp;go_enter func35,ntmps35;go_wp2_with (first|(go_at_call 81;go_call HC as e w' ⟨rfl,rfl⟩)|(go_at_call 82;go_call HW as e w' ⟨rfl,rfl⟩));clear HC HW;go_loopw [55] (λi' wr=>∃j:Nat,j<=l.length/\i'=.int .i64 j/\Hid (Row wr g 147 ((splice S.ws (p+i) (l.take j)).map (Value.int .u16)))/\Hid (Upd [g] w wr)) (λi' _=>l.length-(intOf i').toNat)
 case atStart=>exact⟨0,Nat.zero_le _,rfl,by rw[List.take_zero,zbm];exact HH.data,Upd.refl _ _⟩
 case round =>
  obtain⟨j,hj,rfl,HD,HB⟩:=hrel;by_cases A2:j<l.length
  ·have d0:=HB.out.cell k0 (by simp;exact nhg);have d1:=HB.out.cell k1 (by simp;exact nhg);have e0:=HB.out.cell c0 (by simp;exact nbg);obtain⟨xb,xo,rfl,B2,A5⟩:=HR.out.at (by simp;omega);have A6:=HG _ rfl;have xc:=HB.out.cell (A5 j _ (zr A2)) (by simp;exact A6);have B3:=zh (zmm A2 HP);have A7:l.getD j 0=l[j]:=by rw[zg,ze A2];rfl
   obtain⟨B4,B5⟩:=A3 _ (List.getElem_mem A2);rw[<-A7] at B4 B5;have A8:=ye S.ws (p+i) (l.take j) (by simp;have:=HP.out;omega);have kf:=HD.free (p+i+j);have A9:p+i+j<(splice S.ws (p+i) (l.take j)).length:=by rw[A8];have:=HP.out;omega
   have kc:=HD.cell (zr A9);rw[A4.out] at A8;generalize l.getD j 0=x at *;generalize(splice S.ws (p+i) (l.take j)).getD (p+i+j) 0=old at *;clear A5 A7 A9 A6;go_wp2_with fail;go_region;go_wp2;refine⟨⟨j+1,by omega,by go_num,?_,(HB.out.setCell (by simp) _).drew⟩,by simp[intOf];omega⟩;show Row _ _ _ _
   rw[B3.out,List.map_set];exact(HD.set _ _).drew
  ·obtain rfl:j=l.length:=by omega
   go_wp2;go_ret;rw[List.take_length] at HD;refine⟨rfl,⟨HH.out.head.keep HB.out (by simp;exact nhg),HD.out,HB.out.owns HH.out.own (λk hk=>by simp[Value.ownBlock] at hk;subst hk;simp;exact nbg),?_,B0,HH.few,HH.lo,?_⟩,?_⟩
   ·exact(ye _ _ _ HP).trans A4
   ·exact zbn HH.word A3
   ·exact .of_upd HB.out (λk hk=>by simp at hk;subst hk;exact⟨HH.lo.2,_,_,HH.data,by decide⟩)
def Zy(gs:List (Nat×Nat))(n:Nat):Int:=if n=0 then 0 else match gs.find? (λg=>decide (n<=g.2)) with|some g=>(g.1:Int)|none=>-1
theorem zt2{α:Type}(p:α->Bool)(gs:List α)(j:Nat)(g:α)(h:(gs.take j).find? p=some g):gs.find? p=some g:=by
 rw[<-List.take_append_drop j gs,List.find?_append,h];rfl
theorem zao{gs:List (Nat×Nat)}{n j:Nat}(h:0<=Zy (gs.take j) n):Zy gs n=Zy (gs.take j) n:=by
 unfold Zy at h ⊢;by_cases h0:n=0
 ·rw[if_pos h0,if_pos h0]
 ·rw[if_neg h0] at h ⊢;rw[if_neg h0];cases hf:(gs.take j).find? (λg=>decide (n<=g.2)) with
  | none=>rw[hf] at h;simp at h
  | some g=>rw[zt2 _ _ _ _ hf]
theorem zan{gs:List (Nat×Nat)}{n j:Nat}(hj:j<gs.length)(h:Zy (gs.take j) n<0):Zy (gs.take (j+1)) n=if n<=gs[j].2 then(gs[j].1:Int) else -1:=by
 unfold Zy at h ⊢;by_cases h0:n=0
 ·rw[if_pos h0] at h;omega
 ·rw[if_neg h0] at h ⊢;rw[List.take_add_one,ze hj,Option.toList_some,List.find?_append];cases hf:(gs.take j).find? (λg=>decide (n<=g.2)) with
  | some g=>rw[hf] at h;simp only at h;omega
  | none =>
   simp only[Option.none_or,List.find?_cons,List.find?_nil];by_cases hn:n<=gs[j].2
   ·simp[hn]
   ·simp[hn]
theorem zf8{gs:List (Nat×Nat)}{n N:Nat}(h:0<=Zy gs n)(hg:∀g∈gs,g.1+g.2<=N):∃p:Nat,Zy gs n=p/\p+n<=N:=by
 unfold Zy at h ⊢;by_cases h0:n=0
 ·rw[if_pos h0];exact⟨0,rfl,by omega⟩
 ·rw[if_neg h0] at h ⊢;cases hf:gs.find? (λg=>decide (n<=g.2)) with
  | none=>rw[hf] at h;simp at h
  | some g =>
   have h1:=List.find?_some hf;have h2:=hg g (List.mem_of_find?_eq_some hf);simp only[decide_eq_true_eq] at h1;exact⟨g.1,rfl,by omega⟩
theorem zbr(n:Nat):Zy [] n=if n=0 then 0 else -1:=rfl
theorem xr{gs:List (Nat×Nat)}{n:Nat}(h:Zy gs n<0):Zy gs n=-1:=by
 unfold Zy at h ⊢;split
 ·simp_all
 ·split
  ·simp_all;omega
  ·rfl
def yv(S:HpS)(p n:Nat):HpS :=
 { S with ws:=splice S.ws p (List.replicate n 0),bl:=if zz S<S.bl.length then S.bl.set (zz S) ⟨p,n,true⟩ else S.bl++[⟨p,n,true⟩] }
theorem znv:∀w,(zeroValue 147).run prog w=.ok (.int .u16 0) w:=λ_=>by kernel_rfl
def z5z:Value:=.agg #[.int .i64 0,.int .i64 0,.bool false]
theorem ztf:(prog.info? 146).map (λi=>(i.zero,i.size,i.bytes))=some (some z5z,3,24):=by kernel_rfl
theorem Zg{w:World}{base:Nat}{e:TypeId}{size:Nat}{v:Value}{n:Nat}{xs:List Value}(h:w.ownsRow base e size v n xs):∀k,v.ownBlock=some k->base<=k/\∃ys,Row w k e ys:=by
 intro k hk;rcases h.2 with⟨rfl,_⟩|⟨g,cap,cur,rfl,hb,hg,_⟩
 ·cases hk
 ·cases hk
  exact⟨hb,cur.toList,by unfold Row;simpa using hg⟩
theorem Row.has{w:World}{g:Nat}{t:TypeId}{xs:List Value}(h:Row w g t xs){i:Nat}(hi:i<xs.length):∃v,w.cell? ⟨g,i,none⟩=some v:=⟨xs[i],h.cell (by simp)⟩
theorem zh5(bl:List Blk)(x:Blk):Z8 (bl++[x])=(((Z8 bl++([.int .i64 0,.int .i64 0,.bool false]:List Value)).set (bl.length*3) (.int .i64 x.at_)).set (bl.length*3+1) (.int .i64 x.n)).set (bl.length*3+2) (.bool x.used):=by
 have h:=cz (bl++[⟨0,0,false⟩]) bl.length x;rw[if_pos (by simp)] at h;rw[show(bl++[(⟨0,0,false⟩:Blk)]).set bl.length x=bl++[x] by simp] at h;rw[h,zt0];rfl
theorem zai.grown{B:Nat}{a w w':World}{row:Option Nat}(h:zai B a w)(hg:w.grownBy w' row)(hr:∀k,row=some k->B<=k/\∃t ys,Row w k t ys/\zl8 t):zai B a w' :=
 h.trans (.of_upd (l:=row.toList) ⟨hg.os,hg.tape,hg.output,hg.size,λk hk hn=>hg.block k hk (λe=>hn (by rw[<-e];simp))⟩ (λk hk=>hr k (by simpa using hk)))
theorem zyg{w:World}{B h g:Nat}{vb:Value}{S:HpS}(H:ca w B h g vb S){Q:List Nat->Prop}(hQ:zyz Q S)(hO:z2s Q w h)(n:Nat)(hn:n<=9223372036854775807)(G4:S.bl.length<1000000) :
 Calls prog 174 #[.pointer (some ⟨h,0,none⟩),.int .i64 n] w λe w'=>∃L,Q L/\zai B w w'/\
  (
   (∃p:Nat,∃vb',Zy (Zs S L) n=p/\e=.returned (.tuple #[.int .i64 (zz S:Nat),.int .i64 0])/\ca w' B h g vb' (yv S p n))\/
   (Zy (Zs S L) n=-1/\e=.returned (.tuple #[.int .i64 0,.int .i64 3])/\ca w' B h g vb S)):=by
 have HG:=zh (zu7 H hQ hO);have HF:=zh hQ;have HH:=zh H;have G2:=H.small;clear H hO hQ;go_enter func174,ntmps174;go_wp2_with fail;go_step3;by_cases F1:n=0
 ·subst F1;go_wp2_with fail;go_step3;go_wp2_with fail;refine HG.mono ?_;clear HG;rintro e w1 ⟨v,L,hq,rfl,ho,hb⟩;have C4:=zh hb;have C5:=zgo (HF.fit L hq);have G5:=HF.few L hq;have G6:=zeg S L;have C6:=zh hq;obtain⟨va,vc,rfl,-,-,-⟩:=zk ho;have HO:=zh ho;have C7:=zh (λh0=>zf8 (n:=0) h0 C5);have D6:=zh C5;clear ho hb hq HF C5;generalize D7:Zs S L=gs at *;have C8:=zh D7;clear D7;go_wp2
  rename_i KT hKT
  by_cases hP:0<=Zy gs 0
  ·obtain⟨p,hp,D8⟩:=C7 hP;have HP:=zh hp;have D9:=zh D8;clear C7 hP hp;have G7:p=0:=by have:=HP.out;unfold Zy at this;simp at this;omega
   subst G7
   have tail:∀(x2 x3 x4 x5 x7 x8 x9 x10 x11 x12 x13 x14 x15 x16 x17 x18 x19 x20 x21 x22 x23 x24 x25 x26 x27 x28 x29 x30 x31 x32 x33 x34 x35 x36 x37 x38 x39 x40 x41 x42 x43 x44 x45 x46 x47 x48 x49 x50 x51 x52 x53 x54 x55 x56 x57 x58 x59 x60 x61 x62 x63 x64 x65 x66 x67 x68 x69 x70 x71 x72 x73 x74 x75 x76:Value) (wr:World),Hid (Below w1.heap.size w1 wr)->KT ⟨#[.pointer (some ⟨h,0,none⟩),.int .i64 0,x2,x3,x4,x5,.int .i64 0,x7,x8,x9,x10,x11,x12,x13,x14,x15,x16,x17,x18,x19,x20,x21,x22,x23,x24,x25,x26,x27,x28,x29,x30,x31,x32,x33,x34,x35,x36,x37,x38,x39,x40,x41,x42,x43,x44,x45,x46,x47,x48,x49,x50,x51,x52,x53,x54,x55,x56,x57,x58,x59,x60,x61,x62,x63,x64,x65,x66,x67,x68,x69,x70,x71,x72,x73,x74,x75,x76],[]⟩ wr:=by
    intro x2 x3 x4 x5 x7 x8 x9 x10 x11 x12 x13 x14 x15 x16 x17 x18 x19 x20 x21 x22 x23 x24 x25 x26 x27 x28 x29 x30 x31 x32 x33 x34 x35 x36 x37 x38 x39 x40 x41 x42 x43 x44 x45 x46 x47 x48 x49 x50 x51 x52 x53 x54 x55 x56 x57 x58 x59 x60 x61 x62 x63 x64 x65 x66 x67 x68 x69 x70 x71 x72 x73 x74 x75 x76 wr HB;refine hKT _ _ ?_;clear hKT HO;have B7:=zy C4 HB;have HW:=zh (HH.below B7);have E0:=zh (show zai B w wr from .of_below B7);have F2:=zh B7.size;have k0:=HW.head.cell (i:=0) rfl;have HD:=zh HW.data;have B8:=zh HW.len;have nhg:h≠g:=qh HW.out.head HW.out.data (by decide);clear B7;rcases Nat.eq_zero_or_pos S.N with G3|G3
    all_goals
     go_wp2_with (with_reducible refine cf rfl (.tmp 44) 126 rfl 147 (.int .u16 0) underlying126 znv rfl rfl _ _ _ rfl g 0 _ 147 HD.out (λh=>absurd h (by decide)) (by rw[List.length_map,B8.out];have:=D9.out;omega) ?_);intro w2 E1 B9
     have E2:Row w2 g 147 ((splice S.ws 0 (List.replicate 0 0)).map (Value.int .u16)):=by
      rw[<-cg,List.map_replicate];exact E1
     have A5:=zh (show ca w2 B h g vb (wsS S 0 (List.replicate 0 0)) from⟨HW.out.head.keep B9 (by simp;exact nhg),E2,B9.owns HW.own (λk hk=>by
      obtain⟨_,ys,hy⟩:=Zg HW.own k hk;have:=qh hy HW.out.data (by decide)
      simp;exact this),(ye _ _ _ (by rw[List.length_replicate,B8.out];exact D9.out)).trans B8.out,G2,HW.out.few,HW.out.lo,zbn HW.out.word (λx hx=>by rw[List.eq_of_mem_replicate hx];omega)⟩)
     have E3:=zh (E0.out.trans (.of_upd B9 (λk hk=>by simp at hk;subst hk;exact⟨HW.lo.2,_,_,HD,by decide⟩)));have k1:=A5.head.cell (i:=1) rfl;have C0:=zh (zg4 A5);clear E1 B9 E2 k0 E0 F2 HD B8 HW;by_cases hf:zz S<S.bl.length
     ·have B0:zcq (wsS S 0 (List.replicate 0 0))=(zz S:Nat):=by show zcq S=_;unfold zcq;rw[if_pos hf]
      rw[B0] at C0;have C9:=zh (show yv S 0 0 = { wsS S 0 (List.replicate 0 0) with bl:=S.bl.set (zz S) ⟨0,0,true⟩ } by unfold yv;rw[if_pos hf];rfl);obtain⟨b,cb,cur,hv,B1,A0,B2,B3,B4,A6⟩:=zbf A5.out.own (by show 0<S.bl.length;omega);subst hv;have D0:=zh B2;have C1:=zh A6;have D1:=zh B4;have G8:=zh (rfl:zz S=zz S);have F3:=zh A0;clear B0 B2 A6 B4 A0;have E4:zz S*3+2<cur.length:=by rw[C1.out];have:=Nat.mul_le_mul_right 3 B3;have h3:(wsS S 0 (List.replicate 0 0)).bl.length=S.bl.length:=rfl;omega
      have G9:zz S<=1000000:=by omega
      go_wp2_with (go_at_call 187;go_call C0 as e w3 ⟨rfl,A2⟩;have C2:=zh A2;have k3:=zu A2 k1;have A3:=F3.out.keep (l:=[]) (.of_below A2) (by simp);have q0:=A3.cell (i:=zz S*3) (v:=cur[zz S*3]) (by simp);have q1:=A3.cell (i:=zz S*3+1) (v:=cur[zz S*3+1]) (by simp);have q2:=A3.cell (i:=zz S*3+2) (v:=cur[zz S*3+2]) (by simp);have f0:=A3.free (zz S*3);have f1:=A3.free (zz S*3+1);have f2:=A3.free (zz S*3+2);have C3:=zh A3;clear A2 k1 A3);rw[Exit.noGoto_ret];go_ret2;have A1:=A5.below C2;have n1:b≠h:=qh C3.out A1.head (by decide);have n2:b≠g:=qh C3.out A1.data (by decide);refine⟨L,C6.out,?_,.inl ⟨0,.slice (some ⟨b,0,none⟩) S.bl.length cb,by rw[C8.out];exact HP,rfl,?_⟩⟩
      ·exact(E3.out.trans (.of_below C2.out)).trans (.of_upd (l:=[b]) ((((Upd.refl _ _).setCell (by simp) _).setCell (by simp) _).setCell (by simp) _) (λk hk=>by simp at hk;subst hk;exact⟨B1,_,_,C3,by decide⟩))
      ·rw[C9.out];refine⟨((A1.head.setOther n1 _).setOther n1 _).setOther n1 _,((A1.data.setOther n2 _).setOther n2 _).setOther n2 _,?_,A1.len,A1.small,?_,A1.lo,A1.word⟩
       ·have e3:Z8 (S.bl.set (zz S) ⟨0,0,true⟩)=(((Z8 S.bl).set (zz S*3) (.int .i64 (0:Nat))).set (zz S*3+1) (.int .i64 (0:Nat))).set (zz S*3+2) (.bool true):=by rw[cz,if_pos hf]
        show World.ownsRow _ _ _ _ _ (S.bl.set (zz S) ⟨0,0,true⟩).length (Z8 (S.bl.set (zz S) ⟨0,0,true⟩))
        rw[e3,List.length_set];exact zcw B1 (((C3.out.set _ _).set _ _).set _ _) (by rw[List.take_set,List.take_set,List.take_set];rw[show List.take (S.bl.length*3) cur=Z8 S.bl from D0.out];try rfl) B3 D1.out (by simp only[List.length_set];exact C1)
       ·show(S.bl.set _ _).length<=_
        rw[List.length_set];omega
     ·have B0:zcq (wsS S 0 (List.replicate 0 0))=-1:=by show zcq S=_;unfold zcq;rw[if_neg hf]
      rw[B0] at C0;have C9:=zh (show yv S 0 0 = { wsS S 0 (List.replicate 0 0) with bl:=S.bl++[⟨0,0,true⟩] } by unfold yv;rw[if_neg hf];rfl);have F4:=zh (show zz S=S.bl.length by have:zz S<=S.bl.length:=List.findIdx_le_length;omega);obtain⟨va2,vc2,E5,-,-,-⟩:=zk A5.own;have F5:vb=.slice va2 S.bl.length vc2:=E5;subst F5;have B5:∀u∈[(.int .i64 0:Value),.int .i64 0,.bool false],u.oneCell'=true:=by intro u hu;simp at hu;rcases hu with rfl|rfl<;>rfl
      have D2:=zh B5;have F6:=zh (show S.bl.length+1<=maxLen by unfold maxLen;omega);have F7:=zh (show(S.bl.length+1)*24<=140737488355328 by omega);clear B0 hf B5 E5;go_wp2_with (first|(go_at_call 187;go_call C0 as e w3 ⟨rfl,A2⟩;have C2:=zh A2;have k3:=zu A2 k1;have A1:=zh (A5.below A2);have F8:=zh (show B<=w3.heap.size by have:=A1.out.lo.1;have:=A1.out.head.lt;omega);clear A2 k1)|(at_builtin;go_loud (refine Zb rfl _ _ 127 rfl B 146 z5z 3 24 underlying127 ztf rfl (by decide) (.slice va2 S.bl.length vc2) S.bl.length _ rfl (A1.out.own.alloc _) _ 1 1 [.int .i64 0,.int .i64 0,.bool false] rfl rfl (zv.madeAt (by simp)) D2.out F6.out F7.out (Nat.le_trans F8.out (by simp)) ?_)));intro v4 w4 own4 gr4
      have B6:Row w4 h 129 [.slice (some ⟨g,0,none⟩) S.N S.N,.slice va2 S.bl.length vc2]:=(gr4.block h (by have:=A1.out.head.lt;simp;omega) (λe=>by
       obtain⟨_,ys,hy⟩:=Zg A1.own h e.symm
       exact qh hy A1.out.head (by decide) rfl)).trans (A1.out.head.alloc _)
      have D3:Row w4 g 147 ((splice S.ws 0 (List.replicate 0 0)).map (Value.int .u16)):=(gr4.block g (by have:=A1.out.data.lt;simp;omega) (λe=>by
       obtain⟨_,ys,hy⟩:=Zg A1.own g e.symm
       exact qh hy A1.out.data (by decide) rfl)).trans (A1.out.data.alloc _)
      have F9:=zh ((E3.trans ((zai.of_below C2).trans (.of_below ((Below.refl _ _).alloc (Nat.le_refl _) _)))).grown gr4 (λk hk=>by
       obtain⟨h1,ys,hy⟩:=Zg A1.own k hk
       exact⟨h1,_,ys,hy.alloc _,by decide⟩))
      obtain⟨b,cb,cur,G0,B1,A0,B2,B3,B4,A6⟩:=zbf own4 (by omega);subst G0;have k4:=B6.cell (i:=1) rfl;have kf4:=B6.free 1;have nbh:¬b=h:=qh A0 B6 (by decide);have nbg:b≠g:=qh A0 D3 (by decide);have E4:S.bl.length*3+2<cur.length:=by rw[A6];have:=Nat.mul_le_mul_right 3 B3;omega
      obtain⟨o0,q0⟩:=A0.has (i:=S.bl.length*3) (by omega);obtain⟨o1,q1⟩:=A0.has (i:=S.bl.length*3+1) (by omega);obtain⟨o2,q2⟩:=A0.has (i:=S.bl.length*3+2) (by omega);have f0:=A0.free (S.bl.length*3);have f1:=A0.free (S.bl.length*3+1);have f2:=A0.free (S.bl.length*3+2);have E6:=zh B6;have G1:=zh D3;have E7:=zh A0;have D0:=zh B2;have C1:=zh A6;have D1:=zh B4;clear own4 gr4 B6 D3 A0 B2 A6 B4 k3 E4;go_wp2;rw[Exit.noGoto_ret];go_ret2;refine⟨L,C6.out,?_,.inl ⟨0,.slice (some ⟨b,0,none⟩) (S.bl.length+1) cb,by rw[C8.out];exact HP.out,by rw[F4.out];rfl,?_⟩⟩
      ·exact F9.out.trans (.of_upd (l:=[h,b]) (((((Upd.refl _ _).setCell (by simp) _).setCell (by simp) _).setCell (by simp) _).setCell (by simp) _) (λk hk=>by
        simp at hk;rcases hk with rfl|rfl
        ·exact⟨A1.lo.1,_,_,E6,by decide⟩
        ·exact⟨B1,_,_,E7,by decide⟩))
      ·rw[C9.out];refine⟨(((E6.set 1 _).setOther nbh _).setOther nbh _).setOther nbh _,(((G1.setOther nhg _).setOther nbg _).setOther nbg _).setOther nbg _,?_,A1.len,A1.small,?_,A1.lo,A1.word⟩
       ·show World.ownsRow _ _ _ _ _ (S.bl++[(⟨0,0,true⟩:Blk)]).length (Z8 (S.bl++[⟨0,0,true⟩]))
        rw[zh5,List.length_append];exact zcw B1 ((((E7.out.setOther (λe=>nbh e.symm) _).set _ _).set _ _).set _ _) (by rw[List.take_set,List.take_set,List.take_set];rw[show List.take ((S.bl.length+1)*3) cur=Z8 S.bl++([.int .i64 0,.int .i64 0,.bool false]:List Value) from D0.out];try rfl) B3 D1.out (by simp only[List.length_set];exact C1)
       ·show(S.bl++[_]).length<=_
        rw[List.length_append];simp;omega
   have HT:=zh tail;clear tail hKT D8;go_loopw [6,21] (λx i wr=>∃j:Nat,j<=gs.length/\i=.int .i64 j/\x=.int .i64 (Zy (gs.take j) 0)/\Hid (Below w1.heap.size w1 wr)) (λ_ i _=>gs.length-(intOf i).toNat)
   case atStart=>exact⟨0,Nat.zero_le _,rfl,by rw[List.take_zero,zbr];rfl,Below.refl _ _⟩
   case round =>
    obtain⟨j,hj,rfl,rfl,HB⟩:=hrel;have hbs:=HB.out.size;by_cases A4:j<gs.length
    ·obtain⟨b,c,hv,c0,c1⟩:=zbg ((Upd.of_below (l:=[]) HB.out).ownsAbove HO.out (by simp)) A4;cases hv
     have A7:=zh (zan (n:=0) A4);have A8:=zh (λh=>zao (gs:=gs) (n:=0) (j:=j) h);have A9:=zh (λh=>xr (gs:=gs.take j) (n:=0) h);have D4:=D6 _ (List.getElem_mem A4);generalize Zy (gs.take j) 0=x at *;generalize gs[j].1=s at *;generalize gs[j].2=m at *;by_cases hx:0<=x
     ·have E8:=A8 hx;rw[HP.out] at E8;subst E8;clear A7 A8 A9;go_wp2;apply HT.out;exact HB.alloc hbs _
     ·have D5:=A9.out (by omega);subst D5;have HN:=zh (A7.out (by omega));clear A7 A8 A9 hx;by_cases hm:0<=m
      ·rw[if_pos hm] at HN;have E9:(0:Int)<=(m:Int):=by omega
       go_wp2;go_roundw
       case rel=>exact⟨j+1,by omega,by go_num,by rw[HN.out],HB.out.alloc hbs _⟩
       case measure=>simp[intOf];omega
      ·exact absurd (Nat.zero_le _) hm
    ·obtain rfl:j=gs.length:=by omega
     rw[List.take_length];rw[HP.out];go_wp2;apply HT.out;exact HB
  ·have HP:=zh (xr (gs:=gs) (n:=0) (by omega));have F0:=zh hKT;clear hKT C7;go_loopw [6,21] (λx i wr=>∃j:Nat,j<=gs.length/\i=.int .i64 j/\x=.int .i64 (Zy (gs.take j) 0)/\Hid (Below w1.heap.size w1 wr)) (λ_ i _=>gs.length-(intOf i).toNat)
   case atStart=>exact⟨0,Nat.zero_le _,rfl,by rw[List.take_zero,zbr];rfl,Below.refl _ _⟩
   case round =>
    obtain⟨j,hj,rfl,rfl,HB⟩:=hrel;have hbs:=HB.out.size;by_cases A4:j<gs.length
    ·obtain⟨b,c,hv,c0,c1⟩:=zbg ((Upd.of_below (l:=[]) HB.out).ownsAbove HO.out (by simp)) A4;cases hv
     have A7:=zh (zan (n:=0) A4);have A8:=zh (λh=>zao (gs:=gs) (n:=0) (j:=j) h);have A9:=zh (λh=>xr (gs:=gs.take j) (n:=0) h);have D4:=D6 _ (List.getElem_mem A4);generalize Zy (gs.take j) 0=x at *;generalize gs[j].1=s at *;generalize gs[j].2=m at *;by_cases hx:0<=x
     ·exact absurd (by rw[A8.out hx];exact hx) hP
     ·have D5:=A9.out (by omega);subst D5;have HN:=zh (A7.out (by omega));clear A7 A8 A9 hx;by_cases hm:0<=m
      ·rw[if_pos hm] at HN;have E9:(0:Int)<=(m:Int):=by omega
       go_wp2;go_roundw
       case rel=>exact⟨j+1,by omega,by go_num,by rw[HN.out],HB.out.alloc hbs _⟩
       case measure=>simp[intOf];omega
      ·exact absurd (Nat.zero_le _) hm
    ·obtain rfl:j=gs.length:=by omega
     rw[List.take_length];rw[HP.out];clear hP;go_wp2;refine F0 _ _ ?_;clear F0;go_wp2;rw[Exit.noGoto_ret];go_ret2;exact⟨L,C6.out,.of_below (zy C4.out HB.out),.inr ⟨by rw[C8.out];exact HP,rfl,HH.below (zy C4 HB)⟩⟩
 ·have I1:¬((n:Int)=0):=by omega
  go_wp2_with fail;go_step3;go_wp2_with fail;refine HG.mono ?_;clear HG;rintro e w1 ⟨v,L,hq,rfl,ho,hb⟩;have C4:=zh hb;have C5:=zgo (HF.fit L hq);have G5:=HF.few L hq;have G6:=zeg S L;have C6:=zh hq;obtain⟨va,vc,rfl,-,-,-⟩:=zk ho;have HO:=zh ho;have C7:=zh (λh0=>zf8 (n:=n) h0 C5);have D6:=zh C5;clear ho hb hq HF C5;generalize D7:Zs S L=gs at *;have C8:=zh D7;clear D7;go_wp2
  rename_i KT hKT
  by_cases hP:0<=Zy gs n
  ·obtain⟨p,hp,D8⟩:=C7 hP;have HP:=zh hp;have D9:=zh D8;clear C7 hP hp
   have tail:∀(x2 x3 x4 x5 x7 x8 x9 x10 x11 x12 x13 x14 x15 x16 x17 x18 x19 x20 x21 x22 x23 x24 x25 x26 x27 x28 x29 x30 x31 x32 x33 x34 x35 x36 x37 x38 x39 x40 x41 x42 x43 x44 x45 x46 x47 x48 x49 x50 x51 x52 x53 x54 x55 x56 x57 x58 x59 x60 x61 x62 x63 x64 x65 x66 x67 x68 x69 x70 x71 x72 x73 x74 x75 x76:Value) (wr:World),Hid (Below w1.heap.size w1 wr)->KT ⟨#[.pointer (some ⟨h,0,none⟩),.int .i64 n,x2,x3,x4,x5,.int .i64 p,x7,x8,x9,x10,x11,x12,x13,x14,x15,x16,x17,x18,x19,x20,x21,x22,x23,x24,x25,x26,x27,x28,x29,x30,x31,x32,x33,x34,x35,x36,x37,x38,x39,x40,x41,x42,x43,x44,x45,x46,x47,x48,x49,x50,x51,x52,x53,x54,x55,x56,x57,x58,x59,x60,x61,x62,x63,x64,x65,x66,x67,x68,x69,x70,x71,x72,x73,x74,x75,x76],[]⟩ wr:=by
    intro x2 x3 x4 x5 x7 x8 x9 x10 x11 x12 x13 x14 x15 x16 x17 x18 x19 x20 x21 x22 x23 x24 x25 x26 x27 x28 x29 x30 x31 x32 x33 x34 x35 x36 x37 x38 x39 x40 x41 x42 x43 x44 x45 x46 x47 x48 x49 x50 x51 x52 x53 x54 x55 x56 x57 x58 x59 x60 x61 x62 x63 x64 x65 x66 x67 x68 x69 x70 x71 x72 x73 x74 x75 x76 wr HB;refine hKT _ _ ?_;clear hKT HO;have B7:=zy C4 HB;have HW:=zh (HH.below B7);have E0:=zh (show zai B w wr from .of_below B7);have F2:=zh B7.size;have k0:=HW.head.cell (i:=0) rfl;have HD:=zh HW.data;have B8:=zh HW.len;have nhg:h≠g:=qh HW.out.head HW.out.data (by decide);clear B7;have G3:p<S.N:=by omega
    go_wp2_with (with_reducible refine cf rfl (.tmp 44) 126 rfl 147 (.int .u16 0) underlying126 znv rfl rfl _ _ _ rfl g p _ 147 HD.out (λ_=>rfl) (by rw[List.length_map,B8.out];have:=D9.out;omega) ?_);intro w2 E1 B9
    have E2:Row w2 g 147 ((splice S.ws p (List.replicate n 0)).map (Value.int .u16)):=by
     rw[<-cg,List.map_replicate];exact E1
    have A5:=zh (show ca w2 B h g vb (wsS S p (List.replicate n 0)) from⟨HW.out.head.keep B9 (by simp;exact nhg),E2,B9.owns HW.own (λk hk=>by
     obtain⟨_,ys,hy⟩:=Zg HW.own k hk;have:=qh hy HW.out.data (by decide)
     simp;exact this),(ye _ _ _ (by rw[List.length_replicate,B8.out];exact D9.out)).trans B8.out,G2,HW.out.few,HW.out.lo,zbn HW.out.word (λx hx=>by rw[List.eq_of_mem_replicate hx];omega)⟩)
    have E3:=zh (E0.out.trans (.of_upd B9 (λk hk=>by simp at hk;subst hk;exact⟨HW.lo.2,_,_,HD,by decide⟩)));have k1:=A5.head.cell (i:=1) rfl;have C0:=zh (zg4 A5);clear E1 B9 E2 k0 E0 F2 HD B8 HW;by_cases hf:zz S<S.bl.length
    ·have B0:zcq (wsS S p (List.replicate n 0))=(zz S:Nat):=by show zcq S=_;unfold zcq;rw[if_pos hf]
     rw[B0] at C0;have C9:=zh (show yv S p n = { wsS S p (List.replicate n 0) with bl:=S.bl.set (zz S) ⟨p,n,true⟩ } by unfold yv;rw[if_pos hf];rfl);obtain⟨b,cb,cur,hv,B1,A0,B2,B3,B4,A6⟩:=zbf A5.out.own (by show 0<S.bl.length;omega);subst hv;have D0:=zh B2;have C1:=zh A6;have D1:=zh B4;have G8:=zh (rfl:zz S=zz S);have F3:=zh A0;clear B0 B2 A6 B4 A0;have E4:zz S*3+2<cur.length:=by rw[C1.out];have:=Nat.mul_le_mul_right 3 B3;have h3:(wsS S p (List.replicate n 0)).bl.length=S.bl.length:=rfl;omega
     have G9:zz S<=1000000:=by omega
     go_wp2_with (go_at_call 187;go_call C0 as e w3 ⟨rfl,A2⟩;have C2:=zh A2;have k3:=zu A2 k1;have A3:=F3.out.keep (l:=[]) (.of_below A2) (by simp);have q0:=A3.cell (i:=zz S*3) (v:=cur[zz S*3]) (by simp);have q1:=A3.cell (i:=zz S*3+1) (v:=cur[zz S*3+1]) (by simp);have q2:=A3.cell (i:=zz S*3+2) (v:=cur[zz S*3+2]) (by simp);have f0:=A3.free (zz S*3);have f1:=A3.free (zz S*3+1);have f2:=A3.free (zz S*3+2);have C3:=zh A3;clear A2 k1 A3);rw[Exit.noGoto_ret];go_ret2;have A1:=A5.below C2;have n1:b≠h:=qh C3.out A1.head (by decide);have n2:b≠g:=qh C3.out A1.data (by decide);refine⟨L,C6.out,?_,.inl ⟨p,.slice (some ⟨b,0,none⟩) S.bl.length cb,by rw[C8.out];exact HP,rfl,?_⟩⟩
     ·exact(E3.out.trans (.of_below C2.out)).trans (.of_upd (l:=[b]) ((((Upd.refl _ _).setCell (by simp) _).setCell (by simp) _).setCell (by simp) _) (λk hk=>by simp at hk;subst hk;exact⟨B1,_,_,C3,by decide⟩))
     ·rw[C9.out];refine⟨((A1.head.setOther n1 _).setOther n1 _).setOther n1 _,((A1.data.setOther n2 _).setOther n2 _).setOther n2 _,?_,A1.len,A1.small,?_,A1.lo,A1.word⟩
      ·have e3:Z8 (S.bl.set (zz S) ⟨p,n,true⟩)=(((Z8 S.bl).set (zz S*3) (.int .i64 (p:Nat))).set (zz S*3+1) (.int .i64 (n:Nat))).set (zz S*3+2) (.bool true):=by rw[cz,if_pos hf]
       show World.ownsRow _ _ _ _ _ (S.bl.set (zz S) ⟨p,n,true⟩).length (Z8 (S.bl.set (zz S) ⟨p,n,true⟩))
       rw[e3,List.length_set];exact zcw B1 (((C3.out.set _ _).set _ _).set _ _) (by rw[List.take_set,List.take_set,List.take_set];rw[show List.take (S.bl.length*3) cur=Z8 S.bl from D0.out];try rfl) B3 D1.out (by simp only[List.length_set];exact C1)
      ·show(S.bl.set _ _).length<=_
       rw[List.length_set];omega
    ·have B0:zcq (wsS S p (List.replicate n 0))=-1:=by show zcq S=_;unfold zcq;rw[if_neg hf]
     rw[B0] at C0;have C9:=zh (show yv S p n = { wsS S p (List.replicate n 0) with bl:=S.bl++[⟨p,n,true⟩] } by unfold yv;rw[if_neg hf];rfl);have F4:=zh (show zz S=S.bl.length by have:zz S<=S.bl.length:=List.findIdx_le_length;omega);obtain⟨va2,vc2,E5,-,-,-⟩:=zk A5.own;have F5:vb=.slice va2 S.bl.length vc2:=E5;subst F5;have B5:∀u∈[(.int .i64 0:Value),.int .i64 0,.bool false],u.oneCell'=true:=by intro u hu;simp at hu;rcases hu with rfl|rfl<;>rfl
     have D2:=zh B5;have F6:=zh (show S.bl.length+1<=maxLen by unfold maxLen;omega);have F7:=zh (show(S.bl.length+1)*24<=140737488355328 by omega);clear B0 hf B5 E5;go_wp2_with (first|(go_at_call 187;go_call C0 as e w3 ⟨rfl,A2⟩;have C2:=zh A2;have k3:=zu A2 k1;have A1:=zh (A5.below A2);have F8:=zh (show B<=w3.heap.size by have:=A1.out.lo.1;have:=A1.out.head.lt;omega);clear A2 k1)|(at_builtin;go_loud (refine Zb rfl _ _ 127 rfl B 146 z5z 3 24 underlying127 ztf rfl (by decide) (.slice va2 S.bl.length vc2) S.bl.length _ rfl (A1.out.own.alloc _) _ 1 1 [.int .i64 0,.int .i64 0,.bool false] rfl rfl (zv.madeAt (by simp)) D2.out F6.out F7.out (Nat.le_trans F8.out (by simp)) ?_)));intro v4 w4 own4 gr4
     have B6:Row w4 h 129 [.slice (some ⟨g,0,none⟩) S.N S.N,.slice va2 S.bl.length vc2]:=(gr4.block h (by have:=A1.out.head.lt;simp;omega) (λe=>by
      obtain⟨_,ys,hy⟩:=Zg A1.own h e.symm
      exact qh hy A1.out.head (by decide) rfl)).trans (A1.out.head.alloc _)
     have D3:Row w4 g 147 ((splice S.ws p (List.replicate n 0)).map (Value.int .u16)):=(gr4.block g (by have:=A1.out.data.lt;simp;omega) (λe=>by
      obtain⟨_,ys,hy⟩:=Zg A1.own g e.symm
      exact qh hy A1.out.data (by decide) rfl)).trans (A1.out.data.alloc _)
     have F9:=zh ((E3.trans ((zai.of_below C2).trans (.of_below ((Below.refl _ _).alloc (Nat.le_refl _) _)))).grown gr4 (λk hk=>by
      obtain⟨h1,ys,hy⟩:=Zg A1.own k hk
      exact⟨h1,_,ys,hy.alloc _,by decide⟩))
     obtain⟨b,cb,cur,G0,B1,A0,B2,B3,B4,A6⟩:=zbf own4 (by omega);subst G0;have k4:=B6.cell (i:=1) rfl;have kf4:=B6.free 1;have nbh:¬b=h:=qh A0 B6 (by decide);have nbg:b≠g:=qh A0 D3 (by decide);have E4:S.bl.length*3+2<cur.length:=by rw[A6];have:=Nat.mul_le_mul_right 3 B3;omega
     obtain⟨o0,q0⟩:=A0.has (i:=S.bl.length*3) (by omega);obtain⟨o1,q1⟩:=A0.has (i:=S.bl.length*3+1) (by omega);obtain⟨o2,q2⟩:=A0.has (i:=S.bl.length*3+2) (by omega);have f0:=A0.free (S.bl.length*3);have f1:=A0.free (S.bl.length*3+1);have f2:=A0.free (S.bl.length*3+2);have E6:=zh B6;have G1:=zh D3;have E7:=zh A0;have D0:=zh B2;have C1:=zh A6;have D1:=zh B4;clear own4 gr4 B6 D3 A0 B2 A6 B4 k3 E4;go_wp2;rw[Exit.noGoto_ret];go_ret2;refine⟨L,C6.out,?_,.inl ⟨p,.slice (some ⟨b,0,none⟩) (S.bl.length+1) cb,by rw[C8.out];exact HP.out,by rw[F4.out];rfl,?_⟩⟩
     ·exact F9.out.trans (.of_upd (l:=[h,b]) (((((Upd.refl _ _).setCell (by simp) _).setCell (by simp) _).setCell (by simp) _).setCell (by simp) _) (λk hk=>by
       simp at hk;rcases hk with rfl|rfl
       ·exact⟨A1.lo.1,_,_,E6,by decide⟩
       ·exact⟨B1,_,_,E7,by decide⟩))
     ·rw[C9.out];refine⟨(((E6.set 1 _).setOther nbh _).setOther nbh _).setOther nbh _,(((G1.setOther nhg _).setOther nbg _).setOther nbg _).setOther nbg _,?_,A1.len,A1.small,?_,A1.lo,A1.word⟩
      ·show World.ownsRow _ _ _ _ _ (S.bl++[(⟨p,n,true⟩:Blk)]).length (Z8 (S.bl++[⟨p,n,true⟩]))
       rw[zh5,List.length_append];exact zcw B1 ((((E7.out.setOther (λe=>nbh e.symm) _).set _ _).set _ _).set _ _) (by rw[List.take_set,List.take_set,List.take_set];rw[show List.take ((S.bl.length+1)*3) cur=Z8 S.bl++([.int .i64 0,.int .i64 0,.bool false]:List Value) from D0.out];try rfl) B3 D1.out (by simp only[List.length_set];exact C1)
      ·show(S.bl++[_]).length<=_
       rw[List.length_append];simp;omega
   have HT:=zh tail;clear tail hKT D8;go_loopw [6,21] (λx i wr=>∃j:Nat,j<=gs.length/\i=.int .i64 j/\x=.int .i64 (Zy (gs.take j) n)/\Hid (Below w1.heap.size w1 wr)) (λ_ i _=>gs.length-(intOf i).toNat)
   case atStart=>exact⟨0,Nat.zero_le _,rfl,by rw[List.take_zero,zbr];rw[if_neg F1],Below.refl _ _⟩
   case round =>
    obtain⟨j,hj,rfl,rfl,HB⟩:=hrel;have hbs:=HB.out.size;by_cases A4:j<gs.length
    ·obtain⟨b,c,hv,c0,c1⟩:=zbg ((Upd.of_below (l:=[]) HB.out).ownsAbove HO.out (by simp)) A4;cases hv
     have A7:=zh (zan (n:=n) A4);have A8:=zh (λh=>zao (gs:=gs) (n:=n) (j:=j) h);have A9:=zh (λh=>xr (gs:=gs.take j) (n:=n) h);have D4:=D6 _ (List.getElem_mem A4);generalize Zy (gs.take j) n=x at *;generalize gs[j].1=s at *;generalize gs[j].2=m at *;by_cases hx:0<=x
     ·have E8:=A8 hx;rw[HP.out] at E8;subst E8;clear A7 A8 A9;go_wp2;apply HT.out;exact HB.alloc hbs _
     ·have D5:=A9.out (by omega);subst D5;have HN:=zh (A7.out (by omega));clear A7 A8 A9 hx;by_cases hm:n<=m
      ·rw[if_pos hm] at HN;have E9:(n:Int)<=(m:Int):=by omega
       go_wp2;go_roundw
       case rel=>exact⟨j+1,by omega,by go_num,by rw[HN.out],HB.out.alloc hbs _⟩
       case measure=>simp[intOf];omega
      ·have I0:=hm;rw[if_neg hm] at HN;have E9:¬(n:Int)<=(m:Int):=by omega
       go_wp2;go_roundw
       case rel=>exact⟨j+1,by omega,by go_num,by rw[HN.out],HB.out.alloc hbs _⟩
       case measure=>simp[intOf];omega
    ·obtain rfl:j=gs.length:=by omega
     rw[List.take_length];rw[HP.out];go_wp2;apply HT.out;exact HB
  ·have HP:=zh (xr (gs:=gs) (n:=n) (by omega));have F0:=zh hKT;clear hKT C7;go_loopw [6,21] (λx i wr=>∃j:Nat,j<=gs.length/\i=.int .i64 j/\x=.int .i64 (Zy (gs.take j) n)/\Hid (Below w1.heap.size w1 wr)) (λ_ i _=>gs.length-(intOf i).toNat)
   case atStart=>exact⟨0,Nat.zero_le _,rfl,by rw[List.take_zero,zbr];rw[if_neg F1],Below.refl _ _⟩
   case round =>
    obtain⟨j,hj,rfl,rfl,HB⟩:=hrel;have hbs:=HB.out.size;by_cases A4:j<gs.length
    ·obtain⟨b,c,hv,c0,c1⟩:=zbg ((Upd.of_below (l:=[]) HB.out).ownsAbove HO.out (by simp)) A4;cases hv
     have A7:=zh (zan (n:=n) A4);have A8:=zh (λh=>zao (gs:=gs) (n:=n) (j:=j) h);have A9:=zh (λh=>xr (gs:=gs.take j) (n:=n) h);have D4:=D6 _ (List.getElem_mem A4);generalize Zy (gs.take j) n=x at *;generalize gs[j].1=s at *;generalize gs[j].2=m at *;by_cases hx:0<=x
     ·exact absurd (by rw[A8.out hx];exact hx) hP
     ·have D5:=A9.out (by omega);subst D5;have HN:=zh (A7.out (by omega));clear A7 A8 A9 hx;by_cases hm:n<=m
      ·rw[if_pos hm] at HN;have E9:(n:Int)<=(m:Int):=by omega
       go_wp2;go_roundw
       case rel=>exact⟨j+1,by omega,by go_num,by rw[HN.out],HB.out.alloc hbs _⟩
       case measure=>simp[intOf];omega
      ·have I0:=hm;rw[if_neg hm] at HN;have E9:¬(n:Int)<=(m:Int):=by omega
       go_wp2;go_roundw
       case rel=>exact⟨j+1,by omega,by go_num,by rw[HN.out],HB.out.alloc hbs _⟩
       case measure=>simp[intOf];omega
    ·obtain rfl:j=gs.length:=by omega
     rw[List.take_length];rw[HP.out];clear hP;go_wp2;refine F0 _ _ ?_;clear F0;go_wp2;rw[Exit.noGoto_ret];go_ret2;exact⟨L,C6.out,.of_below (zy C4.out HB.out),.inr ⟨by rw[C8.out];exact HP,rfl,HH.below (zy C4 HB)⟩⟩
end Go.Proofs.YtoeibiahbenpcaaGreatDoor
