/- Part. -/
import Derived.Test.YtoeibiahbenpcaaGreatDoorA07
namespace Go.Proofs.YtoeibiahbenpcaaGreatDoor
open RowKit Maps Proofs.Tryz
set_option linter.unusedVariables false
set_option maxRecDepth 99999
set_option maxHeartbeats 9000000
def zcf(l ls:List Int):Prop:=(∀s∈ls,zje l s=true)/\ls.Nodup
def zdo(l ls:List Int):List Int:=ls.foldl (λl s=>l.set (s-1).toNat 0) l
theorem zk8:∀(ls l:List Int),(zdo l ls).length=l.length
 | [],l=>rfl
 | s::ls,l=>by
  show(zdo (l.set (s-1).toNat 0) ls).length=_
  rw[zk8 ls,List.length_set]
theorem zqo{l ls:List Int}{k:Nat}{x:Int}(h:ls[k]?=some x):zdo l (ls.take (k+1))=(zdo l (ls.take k)).set (x-1).toNat 0:=by
 rw[List.take_add_one,h];simp[zdo]
theorem zgq:∀(ls l:List Int) (i:Nat),(∀s∈ls,1<=s)->((i+1:Nat):Int)∉ls->(zdo l ls).getD i 0=l.getD i 0
 | [],l,i,_,_=>rfl
 | s::ls,l,i,h,hn=>by
  show(zdo (l.set (s-1).toNat 0) ls).getD i 0=_
  have hs:=h s (by simp);rw[zgq ls _ i (λx hx=>h x (by simp[hx])) (λhx=>hn (List.mem_cons_of_mem _ hx))];refine ju (λhe=>hn ?_) 0;have:s=((i+1:Nat):Int):=by omega
  rw[this];simp
theorem ztp{l:List Int}{s:Int}(h:zje l s=true):∃k:Nat,s=((k+1:Nat):Int)/\k<l.length/\l.getD k 0≠0:=by
 unfold zje at h;simp only[Bool.and_eq_true,decide_eq_true_eq,bne_iff_ne,ne_eq] at h;obtain⟨⟨h1,h2⟩,h3⟩:=h;exact⟨(s-1).toNat,by omega,by omega,h3⟩
theorem ztt{ls:List Int}{k:Nat}(h:k<ls.length):ls[k]?=some (ls.getD k 0):=by
 rw[zg,ze h];rfl
theorem zof{ls:List Int}(h:ls.Nodup){k:Nat}(hk:k<ls.length):ls.getD k 0∉ls.take k:=by
 intro hm;obtain⟨j,hj,he⟩:=List.getElem_of_mem hm;have A0:j<k:=by simp at hj;omega
 have A1:j<ls.length:=by omega
 rw[List.getElem_take,zg,ze hk] at he;have:=(List.getElem_inj h (i:=j) (j:=k)).1 he;omega
theorem zqn{l ls:List Int}(h:zcf l ls){k:Nat}(hk:k<ls.length):∃s:Nat,ls.getD k 0=((s+1:Nat):Int)/\s<l.length/\(zdo l (ls.take k)).getD s 0≠0/\(zdo l (ls.take k)).getD s 0=l.getD s 0:=by
 obtain⟨s,hs,A0,A1⟩:=ztp (h.1 _ (zdn hk));have hn:=zof h.2 hk;rw[hs] at hn;have:=zgq (ls.take k) l s (λx hx=>by obtain⟨j,rfl,_⟩:=ztp (h.1 x (List.mem_of_mem_take hx));omega) hn;exact⟨s,hs,A0,by rw[this];exact A1,this⟩
theorem z0g{l ls:List Int}{k:Nat}(hk:k<ls.length)(h:zcf l (ls.take k))(h1:zje l (ls.getD k 0)=true)(h2:ls.getD k 0∉ls.take k):zcf l (ls.take (k+1)):=by
 rw[List.take_add_one,ztt hk];refine⟨λs hs=>?_,?_⟩
 ·simp only[Option.toList,List.mem_append,List.mem_singleton] at hs;rcases hs with hs|rfl
  ·exact h.1 s hs
  ·exact h1
 ·simp only[Option.toList];rw[List.nodup_append];refine⟨h.2,by simp,λa ha b hb=>?_⟩;simp only[List.mem_singleton] at hb;subst hb;intro he;exact h2 (he▸ha)
theorem z0j{l ls:List Int}{k:Nat}(hk:k<ls.length)(h1:zje l (ls.getD k 0)=false):¬zcf l ls:=λh=>by
 have:=h.1 _ (zdn hk);rw[h1] at this;cases this
theorem z0i{l ls:List Int}{k:Nat}(hk:k<ls.length)(h2:ls.getD k 0∈ls.take k):¬zcf l ls:=λh=>zof h.2 hk h2
def zy2(t gi gh N:Nat)(l ls:List Int)(w:World)(e:Ending)(w':World):Prop :=
 (zcf l ls/\e=.returned (.int .i64 0)/\Tab w' t gi gh N (zdo l ls)/\Upd [t,gi,gh] w w')\/(¬zcf l ls/\e=.returned (.int .i64 4)/\w=w')
theorem z42(t gi gh N:Nat)(l:List Int)(w:World)(h:Tab w t gi gh N l)(a:Option Addr)(m c:Nat)(ls:List Int)(e0:m=ls.length)(hr:zv w a c (ls.map (Value.int .i64)))(ha:∀x,a=some x->x.block≠t/\x.block≠gi/\x.block≠gh)(hI:I64 ls)(hm:m<=1000000000)(D5:m<=c) :
 Calls prog 133 #[.pointer (some ⟨t,0,none⟩),.slice a m c] w (zy2 t gi gh N l ls w):=by
 subst e0;have HH:=zh h;have HR:=zh hr;have HA:=zh ha;have HI:=zh hI;clear h hr ha hI;go_enter func133,ntmps133;go_wp2;go_loop [17] (λi=>∃k:Nat,k<=ls.length/\i=.int .i64 k/\Hid (zcf l (ls.take k))) (λi=>ls.length-(intOf i).toNat)
 case atStart=>exact⟨0,Nat.zero_le _,rfl,by simp[zcf,Hid]⟩
 case round =>
  obtain⟨k,hk,rfl,B1⟩:=hrel;by_cases A3:k<ls.length
  ·obtain⟨b,off,rfl,A9,hc⟩:=HR.out.at (by simp;omega);have A0:=hc k _ (zr A3);have hx:=HI _ (zdn A3);have HC:=zh (z6p t gi gh N l w HH (ls.getD k 0) hx.1 hx.2);have HN:=zh (zcv (some ⟨b,off,none⟩) k c (ls.take k) (ls.getD k 0) w (by simp;omega) (by rw[List.map_take];exact zc9 HR.out k) (by omega));have H1:=zh (λh=>z0j (l:=l) A3 h);have H2:=zh (λh=>z0i (l:=l) A3 h);have H3:=zh (λh1 h2=>z0g A3 B1.out h1 h2);have D6:k<=c:=by omega
   clear hc B1 hx;generalize ls.getD k 0=x at *;generalize(if zje l x=true then l.getD (x-1).toNat 0 else 0)=y at *;cases hh:zje l x with
   | false =>
    rw[hh] at HC;have HF:=zh (H1 hh);clear H1 H2 H3 hh HN;go_wp2_with (go_at_call 55;go_call HC as e w' ⟨rfl,rfl⟩);go_ret;exact .inr ⟨HF,rfl,rfl⟩
   | true =>
    rw[hh] at HC;by_cases A6:x∈ls.take k
    ·rw[decide_eq_true A6] at HN;have HF:=zh (H2 A6);clear H1 H2 H3 hh A6;go_wp2_with (first|(go_at_call 55;go_call HC as e w' ⟨rfl,rfl⟩)|(go_at_call 46;go_call HN as e w' ⟨rfl,rfl⟩));go_ret;exact .inr ⟨HF,rfl,rfl⟩
    ·rw[decide_eq_false A6] at HN;have HF:=zh (H3 hh A6);clear H1 H2 H3 hh A6;go_wp2_with (first|(go_at_call 55;go_call HC as e w' ⟨rfl,rfl⟩)|(go_at_call 46;go_call HN as e w' ⟨rfl,rfl⟩));go_round
     case rel=>exact⟨k+1,by omega,by go_num,HF.out⟩
     case measure=>simp[intOf];omega
  ·obtain rfl:k=ls.length:=by omega
   have HF:Hid (zcf l ls):=by have:=B1.out;rwa[List.take_length] at this
   clear B1 A3 hk;go_wp2;go_loopw [40] (λi wr=>∃k:Nat,k<=ls.length/\i=.int .i64 k/\Hid (Tab wr t gi gh N (zdo l (ls.take k)))/\Hid (Upd [t,gi,gh] w wr)) (λi _=>ls.length-(intOf i).toNat)
   case atStart=>exact⟨0,Nat.zero_le _,rfl,HH,Upd.refl _ _⟩
   case round =>
    obtain⟨k,hk,rfl,HT,HU⟩:=hrel;by_cases A3:k<ls.length
    ·obtain⟨b,off,rfl,A9,hc⟩:=HR.out.at (by simp;omega);have A0:=(World.cell?_of_block (w:=w) (HU.out.block b A9 (by have:=HA.out _ rfl;simpa using this))).trans (hc k _ (zr A3));obtain⟨s,hs,B9,B4,-⟩:=zqn HF A3;have HS:=zh (zqo (l:=l) (ztt A3));rw[hs,show(((s+1:Nat):Int)-1).toNat=s from by omega] at HS;rw[hs] at A0;have C0:=zk8 (ls.take k) l;generalize zdo l (ls.take k)=l' at *;obtain⟨hash,ht⟩:=HT.out;have C1:l'.length=N:=by have:=ht.good.li;simp at this;exact this
     have D7:s<N:=by omega
     have B2:=ht.good.pos (s+1);rw[List.getD_cons_succ] at B2;have B5:=zjf ht.good (id:=l'.getD s 0) (s:=s+1) (by omega) (by omega) (by rw[List.getD_cons_succ]);have HC:=zh (zgz t gi gh N l' hash _ ht (l'.getD s 0) (by omega) (by omega) (s+1) B5 (by omega));have kc:=ht.ri.cell (zr (k:=.i64) (show s+1<(0::l').length from by simp;omega));rw[List.getD_cons_succ] at kc;have C2:=ht.small;obtain⟨H,hH⟩:=zx (2*N+1);have B6:=zh hH;have hd:Row wr t 131 [.slice (some ⟨gi,0,none⟩) (N+1) (N+1),.slice (some ⟨gh,0,none⟩) H H,.int .i64 (live l')]:=by rw[hH];exact ht.head
     have k0:=hd.cell (i:=0) rfl;have k1:=hd.cell (i:=1) rfl;have D8:(0:Int)<=(s:Int)+1:=by omega
     have A4:=zi2 l' s 0 (by omega);rw[if_neg B4,if_pos rfl] at A4;have C3:live l'<=16383:=by have:=zm3 l';omega
     have B3:1<=live l':=by omega
     have C4:=zh A4;have A5:=zh ht;have kf0:=ht.ri.free (s+1);have n1:=ht.n1;have n2:=ht.n2;have n3:=ht.n3;rw[<-hH] at HC;clear hc ht hH A4 B5 C0 B4 hs C1 B9;generalize B7:l'.getD s 0=y at *;have D9:=zh B7;clear B7;go_wp2_with fail;go_call HC as e w' ⟨p,rfl,hp,hf,rfl⟩;have B8:p<hash.length:=by rw[A5.out.good.lh,<-B6.out];exact hp
     have kc1:=A5.ra.cell (zr (k:=.i64) B8);have kf1:=A5.ra.free p;have C5:=zh hf;clear hf;go_wp2_with fail;refine zm (λx=>x.cell? ⟨t,0,none⟩=some (.slice (some ⟨gi,0,none⟩) (N+1) (N+1))/\x.cell? ⟨t,1,none⟩=some (.slice (some ⟨gh,0,none⟩) H H)) (zp [0,1,2,3,4,5,6,7,8,9,10,1011,12,1013]) (by kernel_rfl) (by kernel_rfl) (λ_ _ _ _ _ h=>h) ⟨k0,k1⟩ ?_
     (repeat (refine zi rfl (λK hK=>?_);go_simp;(try go_bits);refine hK _ ?_;clear hK K))
     refine zl (.slice (some ⟨gh,0,none⟩) H H) rfl rfl (λx hS=>by obtain⟨s0,s1⟩:=hS;go_simp) ?_
     (repeat (refine zi rfl (λK hK=>?_);go_simp;(try go_bits);refine hK _ ?_;clear hK K))
     refine zl (.slice (some ⟨gi,0,none⟩) (N+1) (N+1)) rfl rfl (λx hS=>by obtain⟨s0,s1⟩:=hS;go_simp) ?_
     (repeat (refine zi rfl (λK hK=>?_);go_simp;(try go_bits);refine hK _ ?_;clear hK K))
     refine zj rfl ?_;go_wp2;obtain⟨w1,A7⟩:=zx ((wr.setCell ⟨gh,p,none⟩ (.int .i64 (-1))).drew);rw[<-A7];have R1:Row w1 t 131 [.slice (some ⟨gi,0,none⟩) (N+1) (N+1),.slice (some ⟨gh,0,none⟩) H H,.int .i64 (live l')]:=by rw[A7];exact(hd.setOther (Ne.symm n2) _).drew
     have I1:Row w1 gi 3 ((0::l').map (Value.int .i64)):=by rw[A7];exact(A5.ri.setOther (Ne.symm n3) _).drew
     have A1:Row w1 gh 3 ((hash.map (Value.int .i64)).set p (.int .i64 (-1))):=by rw[A7];exact(A5.ra.set _ _).drew
     have U1:Upd [t,gi,gh] w w1:=by rw[A7];exact(HU.out.setCell (by simp) _).drew
     refine⟨⟨R1.cell rfl,R1.cell rfl⟩,?_⟩;have B0:s+1<(0::l').length:=by rw[A5.out.good.li];omega
     have kc2:=I1.cell (zr (k:=.i64) B0);have kf2:=I1.free (s+1);have C6:=zh R1;have C7:=zh I1;have C8:=zh A1;have C9:=zh U1;clear A7 kc kc1 kf0 kf1 R1 I1 A1 U1 k0 k1 hd B8 B0 A0
     (repeat (refine zi rfl (λK hK=>?_);go_simp;(try go_bits);refine hK _ ?_;clear hK K))
     refine zj rfl ?_;go_wp2;obtain⟨w2,A8⟩:=zx (w1.setCell ⟨gi,s+1,none⟩ (.int .i64 0));rw[<-A8];have R2:Row w2 t 131 [.slice (some ⟨gi,0,none⟩) (N+1) (N+1),.slice (some ⟨gh,0,none⟩) H H,.int .i64 (live l')]:=by rw[A8];exact C6.out.setOther (Ne.symm n1) _
     have I2:Row w2 gi 3 (((0::l').map (Value.int .i64)).set (s+1) (.int .i64 0)):=by rw[A8];exact C7.out.set _ _
     have A2:Row w2 gh 3 ((hash.map (Value.int .i64)).set p (.int .i64 (-1))):=by rw[A8];exact C8.out.setOther n3 _
     have U2:Upd [t,gi,gh] w w2:=by rw[A8];exact C9.out.setCell (by simp) _
     refine⟨⟨R2.cell rfl,R2.cell rfl⟩,zo ?_⟩;have kc3:=R2.cell (i:=2) rfl;have kf3:=R2.free 2;have D0:=zh R2;have D1:=zh I2;have D2:=zh A2;have D3:=zh U2;obtain⟨v,hv⟩:∃v,v+1=live l':=⟨live l'-1,by omega⟩;rw[<-hv] at kc3 C3;have E0:(((v+1:Nat):Int)-1)=(v:Int):=by omega
     have HM:=zh hv;clear A8 kc2 kf2 R2 I2 A2 U2 hv B3;go_wp2;have D4:live (l'.set s 0)=v:=by have:=C4.out;have:=HM.out;omega
     have HZ:Hid (Tab (w2.setCell ⟨t,2,none⟩ (.int .i64 (v:Int))) t gi gh N (zdo l (ls.take (k+1)))):=by
      refine⟨hash.set p (-1),?_,?_,?_,?_,C2,n1,n2,n3⟩
      ·rw[HS.out,D4,<-B6.out];exact D0.out.set 2 _
      ·rw[HS.out,<-List.set_cons_succ,List.map_set];exact D1.out.setOther n1 _
      ·rw[List.map_set];exact D2.out.setOther n2 _
      ·rw[HS.out,<-List.set_cons_succ];exact A5.out.good.freed C5.out (by omega)
     go_roundw
     case rel=>exact⟨k+1,by omega,by go_num,HZ.out,D3.out.setCell (by simp) _⟩
     case measure=>simp[intOf];omega
    ·obtain rfl:k=ls.length:=by omega
     go_wp2;go_ret;refine .inl ⟨HF,rfl,?_,HU⟩;have:=HT.out;rwa[List.take_length] at this
end Go.Proofs.YtoeibiahbenpcaaGreatDoor
