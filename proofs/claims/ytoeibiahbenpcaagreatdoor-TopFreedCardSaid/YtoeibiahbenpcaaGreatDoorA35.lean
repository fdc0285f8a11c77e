/- Part. -/
import Derived.Test.YtoeibiahbenpcaaGreatDoorA34
namespace Go.Proofs.YtoeibiahbenpcaaGreatDoor
open RowKit Maps Proofs.Tryz
set_option linter.unusedVariables false
set_option maxRecDepth 99999
set_option maxHeartbeats 9000000
structure FE where
 id:Nat
 ob:Ob
 ad:Nat
 d:Za
def FE.bl(e:FE):List Nat:=e.ad::((Value.slice e.d.wa e.d.wn e.d.wc).ownBlock.toList++(Value.slice e.d.ba e.d.bn e.d.bc).ownBlock.toList)
def fTb(Y:List FE):Tb:=Y.map (λe=>(e.id,e.ob))
def fKV(Y:List FE):List KV:=Y.map (λe=>((e.id:Int),Value.pointer (some ⟨e.ad,0,none⟩)))
def fBl(m mp:Nat)(Y:List FE):List Nat:=m::mp::Y.flatMap FE.bl
def kq(d:Za):List Value:=[.int .i64 d.cls,.int .i64 d.kind,.slice d.wa d.wn d.wc,.slice d.ba d.bn d.bc]
structure z2w(w:World)(base:Nat)(e:FE):Prop where
 row:Row w e.ad 28 (kq e.d)
 ok:e.d.ok w
 own:xn base w e.d
 is_:Is e.d e.ob
structure yc(w:World)(base m mp:Nat)(Y:List FE)(made:Nat):Prop where
 head:Row w m 72 [.map (some mp),.int .i64 made]
 map:qi w mp (fKV Y)
 obj:∀e∈Y,z2w w base e
 rise:qm (fTb Y)
 ids:∀e∈Y,1<=e.id/\e.id<=made
 good:∀e∈Y,e.ob.good
 few:made<=100000
 ne:(fBl m mp Y).Nodup
 lo:∀k∈fBl m mp Y,base<=k
theorem FE.bl_ad(e:FE):e.ad∈e.bl:=by simp[FE.bl]
theorem FE.bl_w{e:FE}{x:Addr}(h:e.d.wa=some x):x.block∈e.bl:=by
 unfold FE.bl;rw[h];simp[Value.ownBlock]
theorem FE.bl_b{e:FE}{x:Addr}(h:e.d.ba=some x):x.block∈e.bl:=by
 unfold FE.bl;rw[h];simp[Value.ownBlock]
theorem z2w.keep{w w':World}{base:Nat}{e:FE}(h:z2w w base e){l:List Nat}(u:Upd l w w')(hl:∀k∈e.bl,k∉l):z2w w' base e:=by
 refine⟨h.row.keep u (hl _ e.bl_ad),⟨h.ok.c0,h.ok.k0,h.ok.wl,h.ok.wm,u.reads h.ok.wr (λx hx=>hl _ (FE.bl_w hx)),h.ok.wi,h.ok.bl,h.ok.bm,u.reads h.ok.br (λx hx=>hl _ (FE.bl_b hx)),h.ok.bb⟩,⟨u.owns h.own.1 (λk hk=>hl k ?_),u.owns h.own.2 (λk hk=>hl k ?_)⟩,h.is_⟩
 ·unfold FE.bl;rw[hk];simp
 ·unfold FE.bl;rw[hk];simp
theorem znh{m mp:Nat}{Y:List FE}{e:FE}(he:e∈Y){k:Nat}(hk:k∈e.bl):k∈fBl m mp Y:=by
 unfold fBl;simp only[List.mem_cons,List.mem_flatMap];exact .inr (.inr ⟨e,he,hk⟩)
section
variable{w w':World}{base m mp made:Nat}{Y:List FE}
theorem yc.keep(h:yc w base m mp Y made){l:List Nat}(u:Upd l w w')(hl:∀k∈fBl m mp Y,k∉l):yc w' base m mp Y made :=
 ⟨h.head.keep u (hl _ (by simp[fBl])),h.map.keep u (hl _ (by simp[fBl])),λe he=>(h.obj e he).keep u (λk hk=>hl k (znh he hk)),h.rise,h.ids,h.good,h.few,h.ne,h.lo⟩
theorem yc.below(h:yc w base m mp Y made)(hb:Below w.heap.size w w'):yc w' base m mp Y made:=h.keep (l:=[]) (.of_below hb) (by simp)
theorem yc.lt(h:yc w base m mp Y made):∀k∈fBl m mp Y,k<w.heap.size:=λk hk=>by
 unfold fBl at hk;simp only[List.mem_cons,List.mem_flatMap] at hk;rcases hk with rfl|rfl|⟨e,he,hk⟩
 ·exact h.head.lt
 ·exact h.map.lt
 ·have ho:=h.obj e he;unfold FE.bl at hk;simp only[List.mem_cons,List.mem_append,Option.mem_toList] at hk;rcases hk with rfl|hk|hk
  ·exact ho.row.lt
  ·exact(ho.own.1.lt k hk).2
  ·exact(ho.own.2.lt k hk).2
theorem xd{i:Nat}{o:Ob}:(i,o)∈fTb Y↔∃e∈Y,e.id=i/\e.ob=o:=by
 unfold fTb;rw[List.mem_map];constructor
 ·rintro⟨e,he,h⟩;cases h
  exact⟨e,he,rfl,rfl⟩
 ·rintro⟨e,he,rfl,rfl⟩;exact⟨e,he,rfl⟩
theorem yc.find(h:yc w base m mp Y made){i:Nat}{o:Ob}(hi:zt (fTb Y) i=some o):∃e∈Y,e.id=i/\e.ob=o/\zw (fKV Y) i=some (.pointer (some ⟨e.ad,0,none⟩)):=by
 obtain⟨e,he,h1,h2⟩:=xd.1 (Zl hi);refine⟨e,he,h1,h2,?_⟩;have hm:((e.id:Int),Value.pointer (some ⟨e.ad,0,none⟩))∈fKV Y:=List.mem_map.2 ⟨e,he,rfl⟩;rw[<-h1];exact gd h.map.srt hm
theorem yc.none_(h:yc w base m mp Y made){x:Int}(hi:qz (zt (fTb Y)) x=none):zw (fKV Y) x=none:=by
 rw[zef];intro v hm;unfold fKV at hm;obtain⟨e,he,h1⟩:=List.mem_map.1 hm;cases h1
 have:zt (fTb Y) e.id=some e.ob:=qv h.rise (xd.2 ⟨e,he,rfl,rfl⟩);unfold qz at hi;rw[if_pos (by omega),Int.toNat_natCast,this] at hi;cases hi
theorem yc.uniq(h:yc w base m mp Y made){e e':FE}(he:e∈Y)(A2:e'∈Y)(hi:e.id=e'.id):e=e':=by
 obtain⟨i,A0,rfl⟩:=List.getElem_of_mem he;obtain⟨j,A1,rfl⟩:=List.getElem_of_mem A2;have hr:=h.rise;unfold qm fTb at hr;rw[List.pairwise_map] at hr;rcases Nat.lt_trichotomy i j with h1|h1|h1
 ·have:=List.pairwise_iff_getElem.1 hr i j A0 A1 h1;omega
 ·subst h1;rfl
 ·have:=List.pairwise_iff_getElem.1 hr j i A1 A0 h1;omega
theorem za3(w:World):(zeroValue 93).run prog w=.ok (.pointer none) w:=by kernel_rfl
theorem zvb(H:yc w base m mp Y made)(o:Int)(b0:-9223372036854775808<=o)(b1:o<=9223372036854775807)(hn:qz (zt (fTb Y)) (Zz o)=none) :
 Calls prog 62 #[.pointer (some ⟨m,0,none⟩),.int .i64 o] w λe w'=>e=.returned (.tuple #[.pointer none,.int .i64 4])/\w=w':=by
 have HM:=zh H.map;have k0:=H.head.cell (i:=0) rfl;have A1:=H.head.lt;have hv:(zw (fKV Y) (Zz o)).getD (.pointer none)=.pointer none:=by rw[H.none_ hn];rfl
 have HV:=zh hv;have HW:=zh (zcm o);have A0:=zh (jr o w b0 b1);clear H hn hv;go_enter func62,ntmps62;go_wp2_with fail;go_call A0 as e w' ⟨rfl,rfl⟩;go_wp2_with (refine Zw HM.out HW.out rfl (.tmp 19) (.tmp 20) 70 rfl 93 underlying70 (.pointer none) (za3 _) rfl rfl _ HV.out ?_);go_wp2;go_ret2;exact⟨rfl,rfl⟩
theorem zpd(H:yc w base m mp Y made)(o:Int)(b0:-9223372036854775808<=o)(b1:o<=9223372036854775807){e:FE}(he:e∈Y)(hi:Zz o=e.id) :
 Calls prog 62 #[.pointer (some ⟨m,0,none⟩),.int .i64 o] w λz w'=>z=.returned (.tuple #[.pointer (some ⟨e.ad,0,none⟩),.int .i64 0])/\w=w':=by
 have HM:=zh H.map;have k0:=H.head.cell (i:=0) rfl;have A1:=H.head.lt
 have hv:(zw (fKV Y) (Zz o)).getD (.pointer none)=.pointer (some ⟨e.ad,0,none⟩):=by
  obtain⟨e',h1,h2,h3,h4⟩:=H.find (qv H.rise (xd.2 ⟨e,he,rfl,rfl⟩));have:=H.uniq h1 he h2;subst this;rw[hi,h4];rfl
 have HV:=zh hv;have HW:=zh (zcm o);have A0:=zh (jr o w b0 b1);clear H hi hv he;go_enter func62,ntmps62;go_wp2_with fail;go_call A0 as e w' ⟨rfl,rfl⟩;go_wp2_with (refine Zw HM.out HW.out rfl (.tmp 19) (.tmp 20) 70 rfl 93 underlying70 (.pointer none) (za3 _) rfl rfl _ HV.out ?_);go_wp2;go_ret2;exact⟨rfl,rfl⟩
end
theorem zdp{α:Type}{f:α->List Nat}:∀ {l:List α},(l.flatMap f).Nodup->∀ {x y:α},x∈l->y∈l->x≠y->∀k∈f x,k∉f y
 | [],_,x,y,hx,_,_,_,_=>by cases hx
 | a::l,h,x,y,hx,hy,hne,k,hk=>by
  rw[List.flatMap_cons,List.nodup_append] at h;intro A2;rcases List.mem_cons.1 hx with A1|A1
  ·rcases List.mem_cons.1 hy with A0|A0
   ·exact hne (A1.trans A0.symm)
   ·subst A1;exact h.2.2 k hk k (List.mem_flatMap.2 ⟨y,A0,A2⟩) rfl
  ·rcases List.mem_cons.1 hy with A0|A0
   ·subst A0;exact h.2.2 k A2 k (List.mem_flatMap.2 ⟨x,A1,hk⟩) rfl
   ·exact zdp h.2.1 A1 A0 hne k hk A2
theorem kz{α:Type}{f:α->List Nat}:∀ {l:List α},(l.flatMap f).Nodup->∀ {x:α},x∈l->(f x).Nodup
 | [],_,x,hx=>by cases hx
 | a::l,h,x,hx=>by
  rw[List.flatMap_cons,List.nodup_append] at h;rcases List.mem_cons.1 hx with rfl|hx
  ·exact h.1
  ·exact kz h.2.1 hx
def zl4(Y:List FE)(e':FE):List FE:=Y.map (λx=>if x.id=e'.id then e' else x)
section
variable{w w':World}{base m mp made:Nat}{Y:List FE}
theorem yc.upd(h:yc w base m mp Y made){e e':FE}(he:e∈Y)(hi:e'.id=e.id)(ha:e'.ad=e.ad)(hb:e'.bl=e.bl)(hg:e'.ob.good){g:Nat}(A3:g∈e.bl)(u:Upd [g] w w')(ho:z2w w' base e') :
 yc w' base m mp (zl4 Y e') made/\fTb (zl4 Y e')=zj4 (fTb Y) e.id e'.ob/\fBl m mp (zl4 Y e')=fBl m mp Y/\Upd (fBl m mp Y) w w':=by
 have A1:∀x∈zl4 Y e',x=e'\/(x∈Y/\x.id≠e.id):=λx hx=>by
  unfold zl4 at hx;obtain⟨y,hy,rfl⟩:=List.mem_map.1 hx;by_cases A4:y.id=e'.id
  ·rw[if_pos A4];exact .inl rfl
  ·rw[if_neg A4];exact .inr ⟨hy,by rw[<-hi];exact A4⟩
 have A8:(zl4 Y e').flatMap FE.bl=Y.flatMap FE.bl:=by
  unfold zl4;rw[List.flatMap_map]
  have key:∀l:List FE,(∀x∈l,x∈Y)->l.flatMap (λx=>FE.bl (if x.id=e'.id then e' else x))=l.flatMap FE.bl:=λl=>by
   induction l with
   | nil=>intro _;rfl
   | cons x l ih =>
    intro hl;rw[List.flatMap_cons,List.flatMap_cons,ih (λy hy=>hl y (by simp[hy]))];congr 1;by_cases A0:x.id=e'.id
    ·rw[if_pos A0,h.uniq (hl x (by simp)) he (A0.trans hi)];exact hb
    ·rw[if_neg A0]
  exact key Y (λx hx=>hx)
 have A5:fBl m mp (zl4 Y e')=fBl m mp Y:=by unfold fBl;rw[A8]
 have A9:fKV (zl4 Y e')=fKV Y:=by
  unfold fKV zl4;rw[List.map_map];refine List.map_congr_left (λx hx=>?_);by_cases A0:x.id=e'.id
  ·have:=h.uniq hx he (A0.trans hi);subst this;simp[ha,A0]
  ·simp[A0]
 have A2:=h.ne;unfold fBl at A2;simp only[List.nodup_cons,List.mem_cons,not_or] at A2;have A6:g≠m/\g≠mp:=⟨λe2=>A2.1.2 (by rw[<-e2];exact List.mem_flatMap.2 ⟨e,he,A3⟩),λe2=>A2.2.1 (by rw[<-e2];exact List.mem_flatMap.2 ⟨e,he,A3⟩)⟩
 have A7:fTb (zl4 Y e')=zj4 (fTb Y) e.id e'.ob:=by
  unfold fTb zl4 zj4;rw[List.map_map,List.map_map];refine List.map_congr_left (λx hx=>?_);by_cases A0:x.id=e'.id
  ·simp[A0,hi]
  ·have:¬x.id=e.id:=by rw[<-hi];exact A0
   simp[A0,this]
 refine⟨⟨h.head.keep u (by simp;exact λe2=>A6.1 e2.symm),by rw[A9];exact h.map.keep u (by simp;exact λe2=>A6.2 e2.symm),λx hx=>?_,?_,λx hx=>?_,λx hx=>?_,h.few,by rw[A5];exact h.ne,λk hk=>h.lo k (by rw[<-A5];exact hk)⟩,A7,A5,u.mono (λk hk=>by simp at hk;subst hk;exact znh he A3)⟩
 ·rcases A1 x hx with rfl|⟨h1,h2⟩
  ·exact ho
  ·refine(h.obj x h1).keep u (λk hk hm=>?_);simp at hm;subst hm;exact zdp A2.2.2 he h1 (λe2=>h2 (by rw[<-e2])) k A3 hk
 ·rw[A7];exact zko (zkj _ _ _) h.rise
 ·rcases A1 x hx with rfl|⟨h1,_⟩
  ·rw[hi];exact h.ids e he
  ·exact h.ids x h1
 ·rcases A1 x hx with rfl|⟨h1,_⟩
  ·exact hg
  ·exact h.good x h1
theorem z18(H:yc w base m mp Y made):Calls prog 224 #[.pointer (some ⟨m,0,none⟩)] w λe w'=>e=.returned (.int .i64 made)/\w=w':=by
 have k1:=H.head.cell (i:=1) rfl;have ml:=H.head.lt;clear H;go_enter func224,ntmps224;go_wp2;go_ret;exact⟨rfl,rfl⟩
def zv9(w:World)(Y:List FE)(o kind i:Int)(z:Ending)(w':World):Prop :=
 Below w.heap.size w w'/\((plE (zt (fTb Y)) o kind i=0/\∃e∈Y,Zz o=e.id/\z=.returned (.tuple #[.pointer (some ⟨e.ad,0,none⟩),.int .i64 0]))\/(plE (zt (fTb Y)) o kind i≠0/\z=.returned (.tuple #[.pointer none,.int .i64 (plE (zt (fTb Y)) o kind i)])))
theorem zpb(H:yc w base m mp Y made)(o kind i:Int)(b0:-9223372036854775808<=o)(b1:o<=9223372036854775807) :
 Calls prog 40 #[.pointer (some ⟨m,0,none⟩),.int .i64 o,.int .i64 kind,.int .i64 i] w (zv9 w Y o kind i):=by
 cases hl:qz (zt (fTb Y)) (Zz o) with
 | none =>
  have hp:plE (zt (fTb Y)) o kind i=4:=by unfold plE;rw[hl]
  have HP:=zh hp;have HA:=zh (zvb H o b0 b1 hl);clear H hl hp;go_enter func40,ntmps40;go_wp2_with fail;go_call HA as e w' ⟨rfl,rfl⟩;go_wp2;go_ret2;exact⟨Below.refl _ _,.inr ⟨by rw[HP.out];decide,by rw[HP.out];rfl⟩⟩
 | some ob =>
  obtain⟨k,A7,ho⟩:=vn hl;obtain⟨e,he,A8,A4,B4⟩:=H.find ho;have B2:plE (zt (fTb Y)) o kind i=if ob.kind≠kind then 20 else if i<0\/(ob.size:Int)<=i then 21 else 0:=by unfold plE;rw[hl]
  have A3:=H.obj e he;have HA:=zh (zpd H o b0 b1 he (by rw[A8];exact A7));have A9:=zh (zlm e.d e.ob A3.ok A3.is_ (H.good e he));have A1:=A3.row;unfold kq at A1;have c0:=A1.cell (i:=0) rfl;have c1:=A1.cell (i:=1) rfl;have c2:=A1.cell (i:=2) rfl;have c3:=A1.cell (i:=3) rfl;have cl:=A1.lt;rw[A3.is_.kind,A4] at c1;rw[A3.is_.kind,A4] at A9;have B5:=(H.good e he).size_le;rw[A4] at B5;have A5:=zh B2;have HE:Hid (e∈Y/\Zz o=e.id):=⟨he,by rw[A8];exact A7⟩
  have fin:∀c:Int,plE (zt (fTb Y)) o kind i=c->c≠0->∀v,Below w.heap.size w v->zv9 w Y o kind i (.returned (.tuple #[.pointer none,.int .i64 c])) v:=λc hc h0 v hb=>by
   subst hc;exact⟨hb,.inr ⟨h0,rfl⟩⟩
  have B0:=zh fin;clear H hl ho he A8 A4 B4 B2 A3 A1 fin A7;generalize e.d.cls=d1 at *;generalize e.d.wa=d2 at *;generalize e.d.wn=d3 at *;generalize e.d.wc=d4 at *;generalize e.d.ba=d5 at *;generalize e.d.bn=d6 at *;generalize e.d.bc=d7 at *;by_cases A6:ob.kind=kind
  ·subst A6;have B6:(ob.kind != ob.kind)=false:=by simp
   by_cases B7:i<0
   ·have A2:Hid (plE (zt (fTb Y)) o ob.kind i=21):=by unfold Hid;rw[A5.out,if_neg (by simp),if_pos (.inl B7)]
    go_enter func40,ntmps40;go_wp2_with fail;go_call HA as z w' ⟨rfl,rfl⟩;go_wp2;go_ret2;exact B0.out 21 A2.out (by decide) _ (Below.refl _ _)
   ·by_cases A0:(ob.size:Int)<=i
    case' pos =>
     have A2:Hid (plE (zt (fTb Y)) o ob.kind i=21):=by unfold Hid;rw[A5.out,if_neg (by simp),if_pos (.inr A0)]
     have B8:i>=(ob.size:Int):=A0;clear A0
    case' neg =>
     have A2:Hid (plE (zt (fTb Y)) o ob.kind i=0):=by unfold Hid;rw[A5.out,if_neg (by simp),if_neg (by omega)]
     have B8:¬i>=(ob.size:Int):=by omega
     clear A0
    all_goals
     go_enter func40,ntmps40;go_wp2_with fail;go_call HA as z w' ⟨rfl,rfl⟩;go_wp2_with fail;refine(A9 _).mono ?_;rintro z w2 ⟨rfl,B1⟩;have B9:=Nat.lt_of_lt_of_le cl B1.size;have B3:=zh B1;clear B1 A9 HA;go_wp2;go_ret2
     first
      | exact B0.out 21 A2.out (by decide) _ B3.out
      | exact⟨B3.out,.inl ⟨A2.out,e,HE.out.1,HE.out.2,rfl⟩⟩
  ·have B6:(ob.kind != kind)=true:=bne_iff_ne.2 A6;have A2:Hid (plE (zt (fTb Y)) o kind i=20):=by unfold Hid;rw[A5.out,if_pos A6]
   clear A6;go_enter func40,ntmps40;go_wp2_with fail;go_call HA as z w' ⟨rfl,rfl⟩;go_wp2;go_ret2;exact B0.out 20 A2.out (by decide) _ (Below.refl _ _)
end
section
variable{w w':World}{base m mp made:Nat}{Y:List FE}
def z2x(w:World)(ob:Ob)(e:Ending)(w':World):Prop :=
 ∃d:Za,e=.returned (.tuple #[.agg #[.int .i64 d.cls,.int .i64 d.kind,.slice d.wa d.wn d.wc,.slice d.ba d.bn d.bc],.int .i64 0])/\d.ok w'/\xn w.heap.size w' d/\Is d ob/\Below w.heap.size w w'
theorem zg6(H:yc w base m mp Y made)(o:Int)(b0:-9223372036854775808<=o)(b1:o<=9223372036854775807){i:Nat}{ob:Ob}(hi:Zz o=i)(ho:zt (fTb Y) i=some ob) :
 Calls prog 17 #[.pointer (some ⟨m,0,none⟩),.int .i64 o] w (z2x w ob):=by
 obtain⟨e,he,B5,B6,-⟩:=H.find ho;obtain⟨w1,A4⟩:=zx (w.alloc (.cells #[.int .i64 0,.int .i64 0,.slice none 0 0,.slice none 0 0] 28));have A9:Below w.heap.size w w1:=by rw[A4];exact zn (Below.refl _ _)
 have B0:Row w1 w.heap.size 28 [.int .i64 0,.int .i64 0,.slice none 0 0,.slice none 0 0]:=by rw[A4];exact Row.made _ _ _
 have H1:=H.below A9;have HA:=zh (zpd H1 o b0 b1 he (by rw[B5];exact hi));have A1:=H1.obj e he;have A2:=A1.row;unfold kq at A2;have c0:=A2.cell (i:=0) rfl;have c1:=A2.cell (i:=1) rfl;have c2:=A2.cell (i:=2) rfl;have c3:=A2.cell (i:=3) rfl;have cl:=A2.lt;have B7:=H.good e he
 have C2:e.d.wn<=1000/\e.d.bn<=1000:=by
  rw[A1.ok.wl,A1.ok.bl,A1.is_.W,A1.is_.B];rcases B7.kinds with⟨_,a,b,_⟩|⟨_,a,b,_⟩<;>simp[a]<;>omega
 have B8:Calls prog 63 #[.agg #[.int .i64 e.d.cls,.int .i64 e.d.kind,.slice e.d.wa e.d.wn e.d.wc,.slice e.d.ba e.d.bn e.d.bc]] w1 (zpo e.d w1):=z1p e.d w1 A1.ok (by omega) (by omega);have B9:=zh B8;have A5:=zh A1.is_;have C3:Hid (e.ob=ob):=B6;have B1:=zh A9;obtain⟨p,hp⟩:=zx (w.heap.size);rw[<-hp] at B0;have C0:=zh B0;have HP:=zh hp;have C4:=zh A4;clear H A4 A9 B0 H1 A1 A2 B7 C2 B8 hi ho he B5 B6;go_enter func17,ntmps17;go_wp2_with fail;rw[<-C4.out,<-hp];clear hp;go_call HA as z w' ⟨rfl,rfl⟩;go_wp2_with fail;go_call B9 as z w2 ⟨d,rfl,C1,e1,e2,e3,e4,own1,own2,-,A6⟩;unfold Za.val;have A0:=C0.out.keep (l:=[]) (.of_below A6) (by simp);have p0:=A0.cell (i:=0) rfl;have p1:=A0.cell (i:=1) rfl;have p2:=A0.cell (i:=2) rfl;have p3:=A0.cell (i:=3) rfl;have f0:=A0.free 0;have f1:=A0.free 1;have f2:=A0.free 2;have f3:=A0.free 3;have pl:=A0.lt;have A7:=z21 w2 p (.int .i64 d.cls) (.int .i64 d.kind) (.slice d.wa d.wn d.wc) (.slice d.ba d.bn d.bc);have A8:=zh (z3b A0 (.int .i64 d.cls) (.int .i64 d.kind) (.slice d.wa d.wn d.wc) (.slice d.ba d.bn d.bc));have A3:xn w1.heap.size w2 d:=⟨own1,own2⟩;have C6:p<w1.heap.size:=C0.out.lt;have B2:=zh (C1.keep A3 A7 (λk hk=>by simp at hk;omega));have B3:=zh ((A3.keep A7 (λk hk=>by simp at hk;omega)).mono (base':=w.heap.size) B1.out.size)
 have C5:Hid (Below w.heap.size w ((((w2.setCell ⟨p,0,none⟩ (.int .i64 d.cls)).setCell ⟨p,1,none⟩ (.int .i64 d.kind)).setCell ⟨p,2,none⟩ (.slice d.wa d.wn d.wc)).setCell ⟨p,3,none⟩ (.slice d.ba d.bn d.bc))) :=
  (zy B1.out A6).trans (A7.below (zy B1.out A6).size (λk hk=>by simp at hk;subst hk;rw[HP.out];exact Nat.le_refl _))
 have B4:Hid (Is d ob):=by
  rw[<-C3.out];exact⟨e1.trans A5.cls,e2.trans A5.kind,e3.trans A5.W,e4.trans A5.B⟩
 clear C1 e1 e2 e3 e4 own1 own2 A6 A0 A7 A3 B9 HA;go_wp2;have q0:=A8.cell (i:=0) rfl;have q1:=A8.cell (i:=1) rfl;have q2:=A8.cell (i:=2) rfl;have q3:=A8.cell (i:=3) rfl;generalize((((w2.setCell ⟨p,0,none⟩ (.int .i64 d.cls)).setCell ⟨p,1,none⟩ (.int .i64 d.kind)).setCell ⟨p,2,none⟩ (.slice d.wa d.wn d.wc)).setCell ⟨p,3,none⟩ (.slice d.ba d.bn d.bc))=w5 at *;refine bodyPost_ret (by rw[results_cell_tmp rfl];go_simp;rfl) rfl ?_;exact⟨d,rfl,B2,B3,B4,C5⟩
theorem zpc(H:yc w base m mp Y made)(o:Int)(b0:-9223372036854775808<=o)(b1:o<=9223372036854775807)(hn:qz (zt (fTb Y)) (Zz o)=none) :
 Calls prog 17 #[.pointer (some ⟨m,0,none⟩),.int .i64 o] w λe w'=>e=.returned (.tuple #[.agg #[.int .i64 0,.int .i64 0,.slice none 0 0,.slice none 0 0],.int .i64 4])/\Below w.heap.size w w':=by
 obtain⟨w1,A1⟩:=zx (w.alloc (.cells #[.int .i64 0,.int .i64 0,.slice none 0 0,.slice none 0 0] 28));have A3:Below w.heap.size w w1:=by rw[A1];exact zn (Below.refl _ _)
 have A0:Row w1 w.heap.size 28 [.int .i64 0,.int .i64 0,.slice none 0 0,.slice none 0 0]:=by rw[A1];exact Row.made _ _ _
 have HA:=zh (zvb (H.below A3) o b0 b1 hn);have A4:=zh A3;obtain⟨p,hp⟩:=zx (w.heap.size);rw[<-hp] at A0;have p0:=A0.cell (i:=0) rfl;have p1:=A0.cell (i:=1) rfl;have p2:=A0.cell (i:=2) rfl;have p3:=A0.cell (i:=3) rfl;have f0:=A0.free 0;have f1:=A0.free 1;have f2:=A0.free 2;have f3:=A0.free 3;have pl:=A0.lt;have A5:=zh A0;have HP:=zh hp;have A6:=zh A1;clear H A1 A3 A0 hn;go_enter func17,ntmps17;go_wp2_with fail;rw[<-A6.out,<-hp];clear hp;go_call HA as z w' ⟨rfl,rfl⟩;have A2:=zh (z3b A5 (.int .i64 0) (.int .i64 0) (.slice none 0 0) (.slice none 0 0))
 have A7:Hid (Below w.heap.size w ((((w1.setCell ⟨p,0,none⟩ (.int .i64 0)).setCell ⟨p,1,none⟩ (.int .i64 0)).setCell ⟨p,2,none⟩ (.slice none 0 0)).setCell ⟨p,3,none⟩ (.slice none 0 0))) :=
  A4.out.trans ((z21 w1 p _ _ _ _).below A4.out.size (λk hk=>by simp at hk;subst hk;rw[HP.out];exact Nat.le_refl _))
 go_wp2;have q0:=A2.cell (i:=0) rfl;have q1:=A2.cell (i:=1) rfl;have q2:=A2.cell (i:=2) rfl;have q3:=A2.cell (i:=3) rfl;generalize((((w1.setCell ⟨p,0,none⟩ (.int .i64 0)).setCell ⟨p,1,none⟩ (.int .i64 0)).setCell ⟨p,2,none⟩ (.slice none 0 0)).setCell ⟨p,3,none⟩ (.slice none 0 0))=w5 at *;refine bodyPost_ret (by rw[results_cell_tmp rfl];go_simp;rfl) rfl ?_;exact⟨rfl,A7⟩
def ifA(c:Int)(A' A:Nat->Option Ob):Nat->Option Ob:=if c=0 then A' else A
theorem zqi{c:Int}{A' A:Nat->Option Ob}(h:c=0):ifA c A' A=A':=if_pos h
theorem zxh{c:Int}{A' A:Nat->Option Ob}(h:c≠0):ifA c A' A=A:=if_neg h
def zzt(w:World)(base m mp:Nat)(Y:List FE)(made:Nat)(c:Int)(A':Nat->Option Ob)(z:Ending)(w':World):Prop :=
 z=.returned (.int .i64 c)/\∃Y',yc w' base m mp Y' made/\zt (fTb Y')=A'/\fBl m mp Y'=fBl m mp Y/\Upd (fBl m mp Y) w w'
theorem zzm(H:yc w base m mp Y made)(o i v:Int)(b0:-9223372036854775808<=o)(b1:o<=9223372036854775807)(v0:-9223372036854775808<=v)(v1:v<=9223372036854775807) :
 Calls prog 10 #[.pointer (some ⟨m,0,none⟩),.int .i64 o,.int .i64 i,.int .i64 v] w (zzt w base m mp Y made (ze0 (zt (fTb Y)) o i v) (ifA (ze0 (zt (fTb Y)) o i v) (zwy (zt (fTb Y)) o i v) (zt (fTb Y)))):=by
 have A8:=zh (zpb H o 1 i b0 b1);have A6:=zh (λz=>zzn v z v0 v1);have HH:=zh H;clear H;go_enter func10,ntmps10;go_wp2_with fail;go_call A8 as z w1 ⟨A1,⟨h0,e,he,B9,rfl⟩|⟨h0,rfl⟩⟩
 ·cases A3:yh v with
  | false =>
   have HE:Hid (ze0 (zt (fTb Y)) o i v=2):=by unfold Hid ze0;rw[if_neg (by omega),A3];rfl
   rw[A3] at A6;have B3:=zh (HH.below A1);have A7:=zh A1;clear h0 he B9 A1 A3 A8;go_wp2_with fail;refine(A6 _).mono ?_;rintro z w2 ⟨rfl,rfl⟩;go_wp2;go_ret;exact⟨by rw[HE.out];rfl,Y,B3.out,by rw[HE.out,zxh (by decide)],rfl,.of_below A7.out⟩
  | true =>
   obtain⟨k,n,ob,g1,g2,g3,g4,g5,g6⟩:=zfa h0;have HE:Hid (ze0 (zt (fTb Y)) o i v=0):=by unfold Hid ze0;rw[if_neg (by omega),A3];rfl
   have C5:=zh (zmn (v:=v) g1 g2 g4);subst g4;have A9:=HH.below A1;have B4:e.id=k:=by omega
   have C6:e.ob=ob:=by
    have h1:zt (fTb Y) e.id=some e.ob:=qv HH.rise (xd.2 ⟨e,he,rfl,rfl⟩);rw[B4,g2] at h1;cases h1;rfl
   subst C6;have A0:=A9.obj e he;have B5:=A9.good e he
   have C7:e.ob.size=e.ob.W.length:=by
    rcases B5.kinds with⟨_,_,_,a⟩|⟨a,_⟩
    ·exact a
    ·omega
   have C8:e.d.wn=e.ob.W.length:=by rw[A0.ok.wl,A0.is_.W]
   have C0:n<e.d.wn:=by omega
   obtain⟨g,hg⟩:=yo A0.own.1 (by omega);have hW:=A0.own.1;rw[hg] at hW;have B0:=(Zg hW g rfl).2;obtain⟨ys,B0⟩:=B0;have B1:=A0.row;unfold kq at B1;have c2:=B1.cell (i:=2) rfl;rw[hg] at c2;have cl:=B1.lt;have D1:=hW.frozenAt n;have D2:w1.cell? ⟨g,n,none⟩=some (.int .i64 (e.d.W.getD n 0)):=by rw[hW.cellAt n (by omega)];exact zr (by rw[<-A0.ok.wl];exact C0)
   have D3:=B0.lt;have C1:g∈e.bl:=FE.bl_w hg;obtain⟨e',A4⟩:∃e':FE,e'=⟨e.id,zj3 e.ob n v,e.ad,⟨e.d.cls,e.d.kind,e.d.wa,e.d.wn,e.d.wc,e.d.W.set n v,e.d.ba,e.d.bn,e.d.bc,e.d.B⟩⟩:=⟨_,rfl⟩;have C2:=zf6 (n:=n) (v:=v) B5 g3 A3;have A5:=kz (List.nodup_cons.1 (List.nodup_cons.1 HH.ne).2).2 he;unfold FE.bl at A5;rw[hg] at A5
   have A2:g≠e.ad/\∀x,e.d.ba=some x->x.block≠g:=by
    simp only[Value.ownBlock,List.nodup_cons] at A5;refine⟨λh2=>A5.1 (by rw[<-h2];simp),λx hx h2=>?_⟩;have:=A5.2;rw[hx] at this;simp[h2] at this
   have u6:Upd [g] w1 (w1.setCell ⟨g,n,none⟩ (.int .i64 v)):=(Upd.refl _ _).setCell (by simp) _;have B2:=(hW.stored n (.int .i64 v)).1;rw[<-List.map_set] at B2
   have C3:z2w (w1.setCell ⟨g,n,none⟩ (.int .i64 v)) base e':=by
    rw[A4];obtain⟨_,_,C9,rd1,-,-⟩:=zk B2;cases C9
    refine⟨A0.row.keep u6 (by simp;exact λh2=>A2.1 h2.symm),⟨A0.ok.c0,A0.ok.k0,by simp only[List.length_set];exact A0.ok.wl,A0.ok.wm,by simp only;rw[hg];exact rd1,?_,A0.ok.bl,A0.ok.bm,u6.reads A0.ok.br (λx hx hm=>by simp at hm;exact A2.2 x hx hm),A0.ok.bb⟩,⟨by simp only;rw[hg];exact B2,u6.owns A0.own.2 (λk hk hm=>?_)⟩,⟨A0.is_.cls,A0.is_.kind,by show e.d.W.set n v=e.ob.W.set n v;rw[A0.is_.W],A0.is_.B⟩⟩
    ·intro x hx;rcases List.mem_or_eq_of_mem_set hx with h5|h5
     ·exact A0.ok.wi x h5
     ·rw[h5];exact⟨v0,v1⟩
    ·simp at hm;cases B6:e.d.ba with
     | none=>rw[B6] at hk;cases hk
     | some x =>
      rw[B6] at hk;cases hk
      exact A2.2 x B6 hm
   have B7:=A9.upd (e':=e') he (by rw[A4]) (by rw[A4]) (by rw[A4];rfl) (by rw[A4];exact C2) C1 u6 C3;have B8:=zh B7
   have C4:zt (fTb (zl4 Y e'))=upF (zt (fTb Y)) k (some (zj3 e.ob n v)):=by
    rw[B7.2.1];funext j;rw[co,A4];unfold upF;rw[B4,g2];by_cases hj:j=k<;>simp[hj]
   have D0:=zh C4;rw[A3] at A6;have D4:(n:Int)<(e.d.wn:Int):=by omega
   have A7:=zh A1;clear A1 h0 he B9 A3 g1 g2 g3 g5 g6 A9 B4 A0 B5 C7 C8 C0 hW B1 C1 A4 C2 A5 A2 u6 B2 C3 B7 C4 A8 B0;go_wp2_with fail;refine(A6 _).mono ?_;rintro z w2 ⟨rfl,rfl⟩;go_wp2;go_ret;exact⟨by rw[HE.out];rfl,zl4 Y e',B8.out.1,by rw[HE.out,zqi rfl,C5.out];exact D0,B8.out.2.2.1,(Upd.of_below A7).trans B8.out.2.2.2⟩
 ·have HE:Hid (ze0 (zt (fTb Y)) o i v=plE (zt (fTb Y)) o 1 i):=by unfold Hid ze0;rw[if_pos h0]
  have HZ:=zh h0;have B3:=zh (HH.below A1);have A7:=zh A1;obtain⟨c,hc⟩:=zx (plE (zt (fTb Y)) o 1 i);have D5:(c == 0)=false:=by rw[hc];simpa using h0
  rw[<-hc] at HE HZ ⊢;clear hc h0 A6 A8 A1;go_wp2;go_ret;exact⟨by rw[HE.out];rfl,Y,B3.out,by rw[HE.out,zxh HZ.out],rfl,.of_below A7.out⟩
end
section
variable{w w':World}{base m mp made:Nat}{Y:List FE}
theorem zq8(H:yc w base m mp Y made)(o i v:Int)(b0:-9223372036854775808<=o)(b1:o<=9223372036854775807) :
 Calls prog 227 #[.pointer (some ⟨m,0,none⟩),.int .i64 o,.int .i64 i,.int .i64 v] w (zzt w base m mp Y made (vg (zt (fTb Y)) o i v) (ifA (vg (zt (fTb Y)) o i v) (zkl (zt (fTb Y)) o i v) (zt (fTb Y)))):=by
 have A6:=zh (zpb H o 2 i b0 b1);have HH:=zh H;clear H;go_enter func227,ntmps227;go_wp2_with fail;go_call A6 as z w1 ⟨A1,⟨h0,e,he,B8,rfl⟩|⟨h0,rfl⟩⟩
 ·by_cases hv:v<0\/255<v
  ·have HE:Hid (vg (zt (fTb Y)) o i v=2):=by unfold Hid vg;rw[if_neg (by omega),if_pos hv]
   have B1:=zh (HH.below A1);have A5:=zh A1;clear h0 he B8 A1 A6;by_cases C5:v<0
   case' neg=>have B2:v > 255:=by omega
   all_goals
    clear hv;go_wp2;go_ret;exact⟨by rw[HE.out];rfl,Y,B1.out,by rw[HE.out,zxh (by decide)],rfl,.of_below A5.out⟩
  ·obtain⟨k,n,ob,g1,g2,g3,g4,g5,g6⟩:=zfa h0;have HE:Hid (vg (zt (fTb Y)) o i v=0):=by unfold Hid vg;rw[if_neg (by omega),if_neg hv]
   have C6:=zh (zin (v:=v) g1 g2 g4);subst g4;have A7:=HH.below A1;have B3:e.id=k:=by omega
   have C7:e.ob=ob:=by
    have h1:zt (fTb Y) e.id=some e.ob:=qv HH.rise (xd.2 ⟨e,he,rfl,rfl⟩);rw[B3,g2] at h1;cases h1;rfl
   subst C7;have A0:=A7.obj e he;have B4:=A7.good e he
   have C8:e.ob.size=e.ob.B.length:=by
    rcases B4.kinds with⟨a,_⟩|⟨_,_,_,a⟩
    ·omega
    ·exact a
   have C9:e.d.bn=e.ob.B.length:=by rw[A0.ok.bl,A0.is_.B]
   have B9:n<e.d.bn:=by omega
   obtain⟨g,hg⟩:=yo A0.own.2 (by omega);have hW:=A0.own.2;rw[hg] at hW;have A8:=(Zg hW g rfl).2;obtain⟨ys,A8⟩:=A8;have A9:=A0.row;unfold kq at A9;have c3:=A9.cell (i:=3) rfl;rw[hg] at c3;have cl:=A9.lt;have D1:=hW.frozenAt n;have D2:w1.cell? ⟨g,n,none⟩=some (.int .u8 (e.d.B.getD n 0)):=by rw[hW.cellAt n (by omega)];exact zr (by rw[<-A0.ok.bl];exact B9)
   have D3:=A8.lt;have C0:g∈e.bl:=FE.bl_b hg;have C1:0<=v/\v<=255:=by omega
   obtain⟨e',A3⟩:∃e':FE,e'=⟨e.id,zwg e.ob n v,e.ad,⟨e.d.cls,e.d.kind,e.d.wa,e.d.wn,e.d.wc,e.d.W,e.d.ba,e.d.bn,e.d.bc,e.d.B.set n v⟩⟩:=⟨_,rfl⟩;have C2:=zkk (n:=n) (v:=v) B4 g3 C1;have A4:=kz (List.nodup_cons.1 (List.nodup_cons.1 HH.ne).2).2 he;unfold FE.bl at A4;rw[hg] at A4
   have A2:g≠e.ad/\∀x,e.d.wa=some x->x.block≠g:=by
    simp only[Value.ownBlock,List.nodup_cons] at A4;refine⟨λh2=>A4.1 (by rw[<-h2];simp),λx hx h2=>?_⟩;have:=A4.2;rw[hx] at this;simp[h2] at this
   have u6:Upd [g] w1 (w1.setCell ⟨g,n,none⟩ (.int .u8 v)):=(Upd.refl _ _).setCell (by simp) _;have B0:=(hW.stored n (.int .u8 v)).1;rw[<-List.map_set] at B0
   have C3:z2w (w1.setCell ⟨g,n,none⟩ (.int .u8 v)) base e':=by
    rw[A3];obtain⟨_,_,B2,rd1,-,-⟩:=zk B0;cases B2
    refine⟨A0.row.keep u6 (by simp;exact λh2=>A2.1 h2.symm),⟨A0.ok.c0,A0.ok.k0,A0.ok.wl,A0.ok.wm,u6.reads A0.ok.wr (λx hx hm=>by simp at hm;exact A2.2 x hx hm),A0.ok.wi,by simp only[List.length_set];exact A0.ok.bl,A0.ok.bm,by simp only;rw[hg];exact rd1,?_⟩,⟨u6.owns A0.own.1 (λk hk hm=>?_),by simp only;rw[hg];exact B0⟩,⟨A0.is_.cls,A0.is_.kind,A0.is_.W,by show e.d.B.set n v=e.ob.B.set n v;rw[A0.is_.B]⟩⟩
    ·intro x hx;rcases List.mem_or_eq_of_mem_set hx with h5|h5
     ·exact A0.ok.bb x h5
     ·rw[h5];exact⟨by omega,by omega⟩
    ·simp at hm;cases B5:e.d.wa with
     | none=>rw[B5] at hk;cases hk
     | some x =>
      rw[B5] at hk;cases hk
      exact A2.2 x B5 hm
   have B6:=A7.upd (e':=e') he (by rw[A3]) (by rw[A3]) (by rw[A3];rfl) (by rw[A3];exact C2) C0 u6 C3;have B7:=zh B6
   have C4:zt (fTb (zl4 Y e'))=upF (zt (fTb Y)) k (some (zwg e.ob n v)):=by
    rw[B6.2.1];funext j;rw[co,A3];unfold upF;rw[B3,g2];by_cases hj:j=k<;>simp[hj]
   have D0:=zh C4;have D4:(n:Int)<(e.d.bn:Int):=by omega
   have A5:=zh A1;have C5:¬v<0:=by omega
   have B2:¬v > 255:=by omega
   clear A1 h0 he B8 g1 g2 g3 g5 g6 A7 B3 A0 B4 C8 C9 B9 hW A9 C0 A3 C2 A4 A2 u6 B0 C3 B6 C4 A6 A8 hv C1;go_wp2;go_ret;exact⟨by rw[HE.out];rfl,zl4 Y e',B7.out.1,by rw[HE.out,zqi rfl,C6.out];exact D0,B7.out.2.2.1,(Upd.of_below A5).trans B7.out.2.2.2⟩
 ·have HE:Hid (vg (zt (fTb Y)) o i v=plE (zt (fTb Y)) o 2 i):=by unfold Hid vg;rw[if_pos h0]
  have HZ:=zh h0;have B1:=zh (HH.below A1);have A5:=zh A1;obtain⟨c,hc⟩:=zx (plE (zt (fTb Y)) o 2 i);have D5:(c == 0)=false:=by rw[hc];simpa using h0
  rw[<-hc] at HE HZ ⊢;clear hc h0 A6 A1;go_wp2;go_ret;exact⟨by rw[HE.out];rfl,Y,B1.out,by rw[HE.out,zxh HZ.out],rfl,.of_below A5.out⟩
end
theorem zsz{w:World}{b:Nat}{d:Za}(h:xn b w d):((Value.slice d.wa d.wn d.wc).ownBlock.toList++(Value.slice d.ba d.bn d.bc).ownBlock.toList).Nodup:=by
 cases h1:(Value.slice d.wa d.wn d.wc).ownBlock with
 | none =>
  cases h2:(Value.slice d.ba d.bn d.bc).ownBlock with
  | none=>simp
  | some y=>simp
 | some x =>
  cases h2:(Value.slice d.ba d.bn d.bc).ownBlock with
  | none=>simp
  | some y =>
   obtain⟨ys,r1⟩:=(Zg h.1 x h1).2;obtain⟨zs,r2⟩:=(Zg h.2 y h2).2;simp;intro he;subst he;have:=r1.symm.trans r2;simp at this
theorem zsy{w:World}{b:Nat}{d:Za}(h:xn b w d):∀k∈((Value.slice d.wa d.wn d.wc).ownBlock.toList++(Value.slice d.ba d.bn d.bc).ownBlock.toList),b<=k/\k<w.heap.size:=λk hk=>by
 simp only[List.mem_append,Option.mem_toList] at hk;rcases hk with hk|hk
 ·exact h.1.lt k hk
 ·exact h.2.lt k hk
section
variable{w w':World}{base m mp made:Nat}{Y:List FE}
theorem yc.len(h:yc w base m mp Y made):Y.length<=made:=by
 have h1:((fTb Y).map (·.1)).Nodup:=by
  rw[List.nodup_iff_pairwise_ne,List.pairwise_map];exact h.rise.imp (fun {a b} A0=>by omega)
 have h2:=Z4 (l:=(fTb Y).map (·.1)) (m:=(List.range made).map (· + 1)) h1 (λx hx=>by
  rw[List.mem_map] at hx;obtain⟨p,hp,rfl⟩:=hx;obtain⟨e,he,h3,h4⟩:=xd.1 (show(p.1,p.2)∈fTb Y from hp);have:=h.ids e he;rw[List.mem_map]
  exact⟨p.1-1,List.mem_range.2 (by omega),by omega⟩)
 have h3:(fTb Y).length=Y.length:=by simp[fTb]
 simp at h2;omega
theorem yc.more(h:yc w base m mp Y made){o:Ob}(ho:o.good){d:Za}{p:Nat}(hm:made+1<=100000){W:World}(hr:Row W m 72 [.map (some mp),.int .i64 ((made:Int)+1)]){l':List KV}
 (A6:qi W mp l') (B0:∀y,zw l' y=if y=(made:Int)+1 then some (.pointer (some ⟨p,0,none⟩)) else zw (fKV Y) y) (hu:Upd [m,mp] w W)
 (B1:Row W p 28 (kq d)) (B2:d.ok W) (A4:xn w.heap.size W d) (B3:Is d o) (hp:w.heap.size<=p) (B4:p∉((Value.slice d.wa d.wn d.wc).ownBlock.toList++(Value.slice d.ba d.bn d.bc).ownBlock.toList)) (A1:base<=w.heap.size) :
 yc W base m mp (Y++[⟨made+1,o,p,d⟩]) (made+1)/\zt (fTb (Y++[⟨made+1,o,p,d⟩]))=upF (zt (fTb Y)) (made+1) (some o)/\(∀k∈fBl m mp (Y++[⟨made+1,o,p,d⟩]),k∈fBl m mp Y\/w.heap.size<=k):=by
 have A7:fTb (Y++[⟨made+1,o,p,d⟩])=fTb Y++[(made+1,o)]:=by unfold fTb;rw[List.map_append];rfl
 have A2:∀q∈fTb Y,q.1<=made:=λq hq=>by
  obtain⟨e,he,h1,h2⟩:=xd.1 (show(q.1,q.2)∈fTb Y from hq);rw[<-h1];exact(h.ids e he).2
 have A5:fBl m mp (Y++[⟨made+1,o,p,d⟩])=fBl m mp Y++(p::((Value.slice d.wa d.wn d.wc).ownBlock.toList++(Value.slice d.ba d.bn d.bc).ownBlock.toList)):=by
  unfold fBl;rw[List.flatMap_append];simp[FE.bl]
 have A0:∀k∈(p::((Value.slice d.wa d.wn d.wc).ownBlock.toList++(Value.slice d.ba d.bn d.bc).ownBlock.toList)),w.heap.size<=k:=λk hk=>by
  rcases List.mem_cons.1 hk with rfl|hk
  ·exact hp
  ·exact(zsy A4 k hk).1
 have B5:qm (fTb Y++[(made+1,o)]):=by
  unfold qm;rw[List.pairwise_append];refine⟨h.rise,List.pairwise_singleton _ _,λa ha b hb=>?_⟩;simp at hb;subst hb;have:=A2 a ha;simp only;omega
 have B6:l'=fKV (Y++[⟨made+1,o,p,d⟩]):=by
  have e:fKV (Y++[⟨made+1,o,p,d⟩])=fKV Y++[((made:Int)+1,.pointer (some ⟨p,0,none⟩))]:=by
   unfold fKV;rw[List.map_append];simp
  have B7:jh (fKV Y++[((made:Int)+1,Value.pointer (some ⟨p,0,none⟩))]):=by
   unfold jh;rw[List.pairwise_append];refine⟨h.map.srt,List.pairwise_singleton _ _,λa ha b hb=>?_⟩;simp at hb;subst hb;unfold fKV at ha;obtain⟨x,hx,rfl⟩:=List.mem_map.1 ha;have:=(h.ids x hx).2;simp only;omega
  rw[e];refine zhx A6.srt B7 (λx=>?_);rw[B0 x];unfold zw;rw[List.find?_append];by_cases hx:x=(made:Int)+1
  ·subst hx;rw[if_pos rfl]
   have:(fKV Y).find? (λp=>decide (p.1=(made:Int)+1))=none:=by
    rw[List.find?_eq_none];intro a ha;unfold fKV at ha;obtain⟨x,hx,rfl⟩:=List.mem_map.1 ha;have:=(h.ids x hx).2;simp;omega
   rw[this];simp
  ·rw[if_neg hx]
   have h2:[((made:Int)+1,Value.pointer (some ⟨p,0,none⟩))].find? (λp=>decide (p.1=x))=none:=by
    simp;omega
   rw[h2];simp
 have B8:=h.lt
 refine⟨⟨by
  have:(((made+1:Nat)):Int)=(made:Int)+1:=by omega
  rw[this];exact hr,by rw[<-B6];exact A6,?_,by rw[A7];exact B5,?_,?_,hm,?_,?_⟩,?_,?_⟩
 ·intro e he;rcases List.mem_append.1 he with he|he
  ·have A3:=h.ne;unfold fBl at A3;simp only[List.nodup_cons,List.mem_cons,not_or] at A3;refine(h.obj e he).keep hu (λk hk A8=>?_);have A9:k∈Y.flatMap FE.bl:=List.mem_flatMap.2 ⟨e,he,hk⟩;simp at A8;rcases A8 with rfl|rfl
   ·exact A3.1.2 A9
   ·exact A3.2.1 A9
  ·simp at he;subst he;exact⟨B1,B2,A4.mono A1,B3⟩
 ·intro e he;rcases List.mem_append.1 he with he|he
  ·have:=h.ids e he;omega
  ·simp at he;subst he;simp only;omega
 ·intro e he;rcases List.mem_append.1 he with he|he
  ·exact h.good e he
  ·simp at he;subst he;exact ho
 ·rw[A5,List.nodup_append];refine⟨h.ne,List.nodup_cons.2 ⟨B4,zsz A4⟩,λa ha b hb e=>?_⟩;have:=B8 a ha;have:=A0 b hb;omega
 ·intro k hk;rw[A5] at hk;rcases List.mem_append.1 hk with hk|hk
  ·exact h.lo k hk
  ·have:=A0 k hk;omega
 ·rw[A7];funext j;rw[zbt A2];rfl
 ·intro k hk;rw[A5] at hk;rcases List.mem_append.1 hk with hk|hk
  ·exact .inl hk
  ·exact .inr (A0 k hk)
def z2y(w:World)(base m mp made:Nat)(Y:List FE)(o:Ob)(z:Ending)(w':World):Prop :=
 z=.returned (.tuple #[.int .i64 (2*((made:Int)+1)),.int .i64 0])/\∃Y',yc w' base m mp Y' (made+1)/\zt (fTb Y')=upF (zt (fTb Y)) (made+1) (some o)/\(∀k∈fBl m mp Y',k∈fBl m mp Y\/w.heap.size<=k)/\Upd (fBl m mp Y) w w'
theorem zva(H:yc w base m mp Y made)(cls kind:Int)(n:Nat)(hc:yb cls=true)(hk:kind=1\/kind=2)(hn:n<=1000)(hm:made+1<=100000)(A0:base<=w.heap.size) :
 Calls prog 225 #[.pointer (some ⟨m,0,none⟩),.int .i64 cls,.int .i64 kind,.int .i64 n] w (z2y w base m mp made Y (Z9 cls kind n)):=by
 have HB:=zh (zvi cls kind n hc hk hn w);have HG:=zh (zg7 (kind:=kind) hc hn);obtain⟨o,ho⟩:=zx (Z9 cls kind n);rw[<-ho] at HB HG ⊢;have HH:=zh H;have D4:=zh A0;have D5:=zh (λx z=>zhi x z);have D6:za1 ((made:Int)+1)=2*((made:Int)+1):=jm (by omega);clear H ho hc hk A0;go_enter func225,ntmps225;go_wp2_with fail;go_call HB as z w2 ⟨d,rfl,B9,A5,C0,hb⟩;have C1:=zh hb;have C2:=zh B9;have A8:=zh A5;have D7:=zh C0;have A1:=zh (HH.below hb);have k1:=A1.head.cell (i:=1) rfl;have kf:=A1.head.free 1;have ml:=A1.out.head.lt;clear hb B9 A5 C0 HB;go_wp2;obtain⟨p,hp⟩:=zx (w2.heap.size);obtain⟨w3,A3⟩:=zx (w2.setCell ⟨m,1,none⟩ (.int .i64 ((made:Int)+1)));have u3:Upd [m,mp] w2 w3:=by rw[A3];exact(Upd.refl _ _).setCell (by simp) _
 have C3:Row w3 m 72 [.map (some mp),.int .i64 ((made:Int)+1)]:=by rw[A3];exact A1.head.set 1 _
 have C4:w3.heap.size=w2.heap.size:=by rw[A3];simp
 rw[<-A3,<-hp];obtain⟨w4,A9⟩:=zx (w3.alloc (.cells #[.int .i64 d.cls,.int .i64 d.kind,.slice d.wa d.wn d.wc,.slice d.ba d.bn d.bc] 28));have B0:Below w3.heap.size w3 w4:=by rw[A9];exact zn (Below.refl _ _)
 have B4:Row w4 p 28 (kq d):=by rw[A9,hp,<-C4];exact Row.made _ _ _
 rw[<-A9];have A6:=HH.out.ne;unfold fBl at A6;simp only[List.nodup_cons,List.mem_cons,not_or] at A6;have B5:=A1.out.lt;have A2:=HH.out.lt;have hbs:=C1.out.size;have B6:m<w.heap.size/\mp<w.heap.size:=⟨A2 m (by simp[fBl]),A2 mp (by simp[fBl])⟩;have u4:Upd [m,mp] w2 w4:=u3.trans (.of_below B0);have C5:qi w4 mp (fKV Y):=(A1.out.map.keep (l:=fKV Y) (m:=[m]) (by rw[A3];exact(Upd.refl _ _).setCell (by simp) _:Upd [m] w2 w3) (by simp;exact λe=>A6.1.1 e.symm)).below B0;have B1:∀k∈[m,mp],k<w.heap.size:=λk hk=>by simp at hk;omega
 have B7:=zh (C2.keep A8 u4 B1);have A7:=zh (A8.keep u4 B1);have B2:=zh (C3.keep (l:=[]) (.of_below B0) (by simp));have C6:=zh B4;have C7:=zh C5;have C8:Hid (Upd [m,mp] w w4):=(Upd.of_below C1).trans u4;have C9:Hid (w.heap.size<=p/\p<w4.heap.size):=⟨by rw[hp];exact hbs,B4.lt⟩
 have D8:Hid (p∉((Value.slice d.wa d.wn d.wc).ownBlock.toList++(Value.slice d.ba d.bn d.bc).ownBlock.toList)):=λhk=>by
  have:=(zsy A8.out p hk).2;omega
 have D9:Hid (m≠mp):=A6.1.1;have B8:=zh B1
 have E0:Hid ((fKV Y).length<=1000000):=by
  unfold Hid fKV;rw[List.length_map];have:=HH.out.len;have:=HH.out.few;omega
 clear A3 A9 hp u3 C3 C4 B0 B4 A6 B5 A2 hbs B6 u4 C5 B1 kf k1 ml C2 A8 A1;have HS:Hid (w4.cell? ⟨m,0,none⟩=some (.map (some mp))/\w4.cell? ⟨m,1,none⟩=some (.int .i64 ((made:Int)+1))):=⟨B2.cell (i:=0) rfl,B2.cell (i:=1) rfl⟩;refine zm (λz=>z.cell? ⟨m,0,none⟩=some (.map (some mp))/\z.cell? ⟨m,1,none⟩=some (.int .i64 ((made:Int)+1))) (zp [0,1,2,3,4,5,6,7,1008]) (by kernel_rfl) (by kernel_rfl) (λ_ _ _ _ _ h=>h) (HS.out) ?_
 (repeat (refine zi rfl (λK hK=>?_);go_simp;(try go_bits);refine hK _ ?_;clear hK K))
 refine zl (.map (some mp)) rfl rfl (λx hS=>by obtain⟨s0,s1⟩:=hS;go_simp) ?_
 (repeat (refine zi rfl (λK hK=>?_);go_simp;(try go_bits);refine hK _ ?_;clear hK K))
 refine zl (.int .i64 ((made:Int)+1)) rfl rfl (λx hS=>by obtain⟨s0,s1⟩:=hS;go_simp) ?_
 (repeat (refine zi rfl (λK hK=>?_);go_simp;(try go_bits);refine hK _ ?_;clear hK K))
 refine zj rfl ?_;have D0:Hid (qi w4.drew mp (fKV Y)):=C7.below (Zd (Below.refl _ _));refine jc D0.out (x:=(made:Int)+1) (za6 (by omega) (by omega)) E0.out rfl _ _ _ 70 rfl 93 underlying70 rfl rfl (.pointer (some ⟨p,0,none⟩)) rfl ?_;intro w6 l' D1 D2 B3;have hu:Upd [m,mp] w4 w6:=(Upd.of_below (Zd (Below.refl _ _))).trans (B3.mono (by simp));have A4:=(B2.out.drew).keep B3 (by simp;exact D9);have D3:=(C6.out.drew).keep B3 (by simp;intro e;have h1:=B8.out mp (by simp);have h2:=C9.out.1;omega);have hF:=HH.more HG hm A4 D1 D2 (C8.trans hu) D3 (B7.keep A7 hu B8) (A7.keep hu B8) D7 C9.out.1 D8 D4;have HF:=zh hF;have E1:=zh (C8.trans hu);have E2:=zh (show w6.cell? ⟨m,0,none⟩=some (.map (some mp))/\w6.cell? ⟨m,1,none⟩=some (.int .i64 ((made:Int)+1)) from⟨A4.cell (i:=0) rfl,A4.cell (i:=1) rfl⟩);have g1:=A4.cell (i:=1) rfl;have gl:=A4.lt;clear D1 D2 B3 A4 D3 hF hu HS D0 C7 C6 B2;go_wp2_with fail;refine⟨E2,?_⟩;refine zo ?_;go_wp2_with fail;refine(D5 _ _).mono ?_;rintro z w7 ⟨rfl,rfl⟩;rw[D6];go_wp2;go_ret2;exact⟨rfl,_,HF.out.1,HF.out.2.1,HF.out.2.2,E1.out.mono (λk hk=>by simp at hk;rcases hk with rfl|rfl<;>simp[fBl])⟩
theorem zg5(w:World):Calls prog 6 #[] w λz w'=>∃m mp,z=.returned (.pointer (some ⟨m,0,none⟩))/\yc w' w.heap.size m mp [] 0/\Below w.heap.size w w':=by
 have A2:=@run_makeMap prog;go_enter func6,ntmps6;go_wp2_with fail;obtain⟨w3,A0⟩:=zx (((w.alloc (.map #[] 0)).alloc (.cells #[.map (some w.heap.size),.int .i64 0] 72)));rw[<-A0];go_ret;have A1:Below w.heap.size w w3:=by rw[A0];exact((Below.refl _ _).alloc (Nat.le_refl _) _).alloc (by simp) _
 refine⟨w.heap.size+1,w.heap.size,rfl,⟨?_,?_,(λe he=>by cases he),List.Pairwise.nil,(λe he=>by cases he),(λe he=>by cases he),by decide,?_,?_⟩,A1⟩
 ·rw[A0];have:=Row.made (w.alloc (.map #[] 0)) [.map (some w.heap.size),.int .i64 0] 72;simpa using this
 ·rw[A0];exact(qi.made w).keep (m:=[]) ((Upd.refl _ _).alloc _) (by simp)
 ·simp[fBl]
 ·intro k hk;simp[fBl] at hk;omega
end
end Go.Proofs.YtoeibiahbenpcaaGreatDoor
