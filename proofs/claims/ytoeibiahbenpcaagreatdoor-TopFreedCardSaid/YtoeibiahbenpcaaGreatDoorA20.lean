/- Part. -/
import Derived.Test.YtoeibiahbenpcaaGreatDoorA16
namespace Go.Proofs.YtoeibiahbenpcaaGreatDoor
open RowKit Maps Proofs.Tryz
set_option linter.unusedVariables false
set_option maxRecDepth 99999
set_option maxHeartbeats 9000000
structure Ob where
 cls:Int
 kind:Int
 W:List Int
 B:List Int
def Ob.good(o:Ob):Prop:=xk o.cls o.kind o.W o.B/\Byt o.B
def Ob.size(o:Ob):Nat:=kt o.kind o.W o.B
def nWd(kind:Int)(n:Nat):Nat:=if kind=2 then(n+1) / 2 else n
theorem Ob.good.kinds{o:Ob}(h:o.good):(o.kind=1/\o.B=[]/\o.W.length<=1000/\o.size=o.W.length)\/(o.kind=2/\o.W=[]/\o.B.length<=1000/\o.size=o.B.length):=by
 unfold Ob.size kt;rcases h.1.2 with⟨h1,h2,h3,-⟩|⟨h1,h2,h3⟩
 ·exact .inl ⟨h1,h2,h3,by simp[h1]⟩
 ·exact .inr ⟨h1,h2,h3,by simp[h1]⟩
theorem Ob.good.size_le{o:Ob}(h:o.good):o.size<=1000:=by
 rcases h.kinds with⟨_,_,h1,h2⟩|⟨_,_,h1,h2⟩<;>omega
structure Rs where
 ad:Nat
 hb:Nat
 kind:Int
 size:Nat
 dirty:Bool
structure Sl where
 res:Option Rs
 id:Nat
 refs:Nat
def z6:Sl:=⟨none,0,0⟩
structure Lm where
 sls:List Sl
 V:Nat->Option (List Int)
 dk:Nat->Option Ob
def Lm.sl(S:Lm)(s:Nat):Sl:=S.sls.getD s z6
def Lm.put(S:Lm)(s:Nat)(x:Sl):Lm:={ S with sls:=S.sls.set s x }
theorem Lm.sl_put{S:Lm}{s:Nat}(hs:s<S.sls.length)(x:Sl)(t:Nat):(S.put s x).sl t=if t=s then x else S.sl t:=by
 unfold Lm.sl Lm.put;simp only[List.getD_eq_getElem?_getD,List.getElem?_set];by_cases h:s=t
 ·subst h;simp[hs]
 ·simp[h,Ne.symm h]
theorem Lm.sl_out{S:Lm}{s:Nat}(hs:S.sls.length<=s):S.sl s=z6:=by
 unfold Lm.sl;rw[zg,List.getElem?_eq_none hs];rfl
def upF{α:Type}(f:Nat->α)(k:Nat)(v:α):Nat->α:=λj=>if j=k then v else f j
theorem Zm{α:Type}(f:Nat->α)(k:Nat)(v:α):upF f k v k=v:=by simp[upF]
theorem Ze{α:Type}(f:Nat->α){k j:Nat}(v:α)(h:j≠k):upF f k v j=f j:=by simp[upF,h]
def vk(id:Nat->Nat)(w there:Int):Int:=if zih w then zwn w else if w=65534 then there else za1 (id (w / 2).toNat)
def zaq(v:Int):Int:=if zga v then zhf v else 65534
def vy(K:Nat)(w:Int):Prop:=(w % 2=1/\0<=w/\w<=65535)\/w=65534\/(w % 2=0/\2<=w/\w<=2*K)
def ym(w:Int):Prop:=(w % 2=1/\0<=w/\w<=65535)\/w=65534
theorem ym.ok{w:Int}(h:ym w)(K:Nat):vy K w:=h.elim .inl (λh=>.inr (.inl h))
theorem zm2{f g:Nat->Nat}{w there:Int}(h:ym w\/f (w / 2).toNat=g (w / 2).toNat):vk f w there=vk g w there:=by
 unfold vk;by_cases h1:zih w=true
 ·rw[if_pos h1,if_pos h1]
 ·rw[if_neg h1,if_neg h1];by_cases h2:w=65534
  ·rw[if_pos h2,if_pos h2]
  ·rw[if_neg h2,if_neg h2];rcases h with h|h
   ·rcases h with h|h
    ·exact absurd (zc3 h) h1
    ·exact absurd h h2
   ·rw[h]
theorem zdh(v:Int):ym (zaq v):=by
 unfold zaq;split
 ·next h =>
  unfold zga at h;have h:=of_decide_eq_true h;left;rw[ziz h];omega
 ·exact .inr rfl
theorem zes{v:Int}(h:zga v=true)(id:Nat->Nat)(there:Int):vk id (zhf v) there=v:=by
 unfold zga at h;have h:=of_decide_eq_true h;have h2:zhf v=v / 2*2 % 65536+1:=ziz h;have h3:zhf v % 2=1/\0<=zhf v/\zhf v<=65535:=by rw[h2];omega
 unfold vk;rw[if_pos (zc3 h3),znx h3,h2];unfold zj9;split<;>omega
theorem ziy(v:Int)(id:Nat->Nat):vk id (zaq v) v=v:=by
 unfold zaq;split
 ·next h=>exact zes h id v
 ·unfold vk;rw[if_neg (by decide),if_pos rfl]
theorem zkw(id:Nat->Nat)(v:Int):vk id 65534 v=v:=by
 unfold vk;rw[if_neg (by decide),if_pos rfl]
theorem zqb{id:Nat->Nat}{s n:Nat}(hs:1<=s)(A0:s<=16383)(hid:id s=n)(hn:1<=n)(A1:n<1073741824)(there:Int):vk id ((2*s:Nat):Int) there=((2*n:Nat):Int):=by
 unfold vk;rw[if_neg (by rw[ze3 (by omega)];decide),if_neg (by omega),show(((2*s:Nat):Int) / 2).toNat=s by omega,hid,jm (by omega)];omega
def zrf(ws:List Int)(i:Nat):Int:=if i % 2=0 then ws.getD (i / 2) 0 / 256 else ws.getD (i / 2) 0 % 256
def Zc(o:Ob):List Int:=if o.kind=2 then(List.range ((o.B.length+1) / 2)).map (λj=>o.B.getD (2*j) 0*256+o.B.getD (2*j+1) 0) else o.W.map zaq
theorem zch{o:Ob}(h:o.good):(Zc o).length=nWd o.kind o.size:=by
 unfold Zc nWd;rcases h.kinds with⟨h1,h2,h3,h4⟩|⟨h1,h2,h3,h4⟩
 ·rw[if_neg (by omega),if_neg (by omega),List.length_map,h4]
 ·rw[if_pos h1,if_pos h1,List.length_map,List.length_range,h4]
theorem zah{l:List Int}(h:Byt l)(i:Nat):0<=l.getD i 0/\l.getD i 0<=255:=by
 by_cases hi:i<l.length
 ·rw[zg,ze hi];exact h _ (List.getElem_mem hi)
 ·rw[zg,List.getElem?_eq_none (by omega)];exact⟨by decide,by decide⟩
theorem zj7{o:Ob}(h:o.good)(hk:o.kind=2){i:Nat}(hi:i<o.size):zrf (Zc o) i=o.B.getD i 0:=by
 have h4:o.size=o.B.length:=by rcases h.kinds with⟨h1,_⟩|⟨_,_,_,h4⟩<;>omega
 have hb:=zah h.2;unfold zrf Zc;rw[if_pos hk]
 have hg:((List.range ((o.B.length+1) / 2)).map (λj=>o.B.getD (2*j) 0*256+o.B.getD (2*j+1) 0)).getD (i / 2) 0=o.B.getD (2*(i / 2)) 0*256+o.B.getD (2*(i / 2)+1) 0:=by
  rw[zg,List.getElem?_map,List.getElem?_range (by omega)];rfl
 rw[hg];have b0:=hb (2*(i / 2));have b1:=hb (2*(i / 2)+1);split
 ·rw[show 2*(i / 2)=i by omega] at *;omega
 ·rw[show 2*(i / 2)+1=i by omega] at *;omega
theorem zak{o:Ob}(h:o.good)(hk:o.kind=1):∀w∈Zc o,ym w:=by
 unfold Zc;rw[if_neg (by omega)];intro w hw;rw[List.mem_map] at hw;obtain⟨v,_,rfl⟩:=hw;exact zdh v
theorem zig{o:Ob}(hk:o.kind=1)(id:Nat->Nat){i:Nat}(hi:i<o.W.length):vk id ((Zc o).getD i 0) (o.W.getD i 0)=o.W.getD i 0:=by
 unfold Zc;rw[if_neg (by omega)];rw[zg,List.getElem?_map,ze hi];rw[zg,ze hi];exact ziy _ id
def cnt(ws:List Int)(s:Nat):Nat:=ws.countP (λw=>decide (w=((2*s:Nat):Int)))
theorem zau(s:Nat):cnt [] s=0:=rfl
theorem jy(w:Int)(ws:List Int)(s:Nat):cnt (w::ws) s=(if w=((2*s:Nat):Int) then 1 else 0)+cnt ws s:=by
 unfold cnt;rw[List.countP_cons];simp only[decide_eq_true_eq];omega
theorem z1h(a b:List Int)(s:Nat):cnt (a++b) s=cnt a s+cnt b s:=by unfold cnt;exact List.countP_append
theorem ym.ne{w:Int}(h:ym w){s K:Nat}(hs:s<=K)(hK:K<=16383):w≠((2*s:Nat):Int):=by
 rcases h with h|h<;>omega
theorem zug{ws:List Int}(h:∀w∈ws,ym w){s K:Nat}(hs:s<=K)(hK:K<=16383):cnt ws s=0:=by
 unfold cnt;rw[List.countP_eq_zero];intro w hw;simpa using(h w hw).ne hs hK
theorem zuf:∀(ws:List Int) (i:Nat) (w:Int) (s:Nat),i<ws.length->cnt (ws.set i w) s+(if ws.getD i 0=((2*s:Nat):Int) then 1 else 0)=cnt ws s+(if w=((2*s:Nat):Int) then 1 else 0)
 | [],i,w,s,h=>by simp at h
 | x::ws,0,w,s,_=>by
  simp only[List.set_cons_zero,jy,List.getD_cons_zero];omega
 | x::ws,i+1,w,s,h=>by
  have:=zuf ws i w s (by simpa using h);simp only[List.set_cons_succ,jy,List.getD_cons_succ];omega
theorem z1g{ws:List Int}{s:Nat}(h:((2*s:Nat):Int)∈ws):0<cnt ws s:=by
 unfold cnt;rw[List.countP_pos_iff];exact⟨_,h,by simp⟩
def Zv(V:Nat->Option (List Int))(x:Sl):List Int:=match x.res with|some r=>if r.kind=1 then(V r.hb).getD [] else []|none=>[]
def zcc(V:Nat->Option (List Int))(l:List Sl)(s:Nat):Nat:=(l.map (λx=>cnt (Zv V x) s)).sum
def Lm.tot(S:Lm)(s:Nat):Nat:=zcc S.V S.sls s
theorem zrz{α:Type}(f:α->Nat)(d:α):∀(l:List α) (i:Nat) (x:α),i<l.length->((l.set i x).map f).sum+f (l.getD i d)=(l.map f).sum+f x
 | [],i,x,h=>by simp at h
 | y::l,0,x,_=>by simp;omega
 | y::l,i+1,x,h=>by
  have:=zrz f d l i x (by simpa using h);simp only[List.set_cons_succ,List.map_cons,List.sum_cons,List.getD_cons_succ];omega
theorem zam(V:Nat->Option (List Int))(l:List Sl)(t:Nat)(x:Sl)(s:Nat)(ht:t<l.length):zcc V (l.set t x) s+cnt (Zv V (l.getD t z6)) s=zcc V l s+cnt (Zv V x) s :=
 zrz (λx=>cnt (Zv V x) s) z6 l t x ht
theorem zbk{V V':Nat->Option (List Int)}{l:List Sl}{s:Nat}(h:∀x∈l,∀r,x.res=some r->r.kind=1->V r.hb=V' r.hb):zcc V l s=zcc V' l s:=by
 unfold zcc;congr 1;refine List.map_congr_left (λx hx=>?_);unfold Zv;cases hr:x.res with
 | none=>rfl
 | some r =>
  simp only;by_cases hk:r.kind=1
  ·rw[if_pos hk,if_pos hk,h x hx r hr hk]
  ·rw[if_neg hk,if_neg hk]
theorem zf1{V:Nat->Option (List Int)}{l:List Sl}(h:∀x∈l,x.res=none)(s:Nat):zcc V l s=0:=by
 unfold zcc;have h1:l.map (λx=>cnt (Zv V x) s)=l.map (λ_=>0):=List.map_congr_left (λx hx=>by unfold Zv;rw[h x hx];rfl)
 have h2:∀m:List Sl,(m.map (λ_=>0)).sum=0:=λm=>by
  induction m with
  | nil=>rfl
  | cons y m ih=>simp only[List.map_cons,List.sum_cons,ih]
 rw[h1,h2]
theorem zz1{V:Nat->Option (List Int)}{l:List Sl}{t:Nat}(ht:t<l.length)(s:Nat):cnt (Zv V (l.getD t z6)) s<=zcc V l s:=by
 have:=zam V l t z6 s ht;have e:cnt (Zv V z6) s=0:=rfl;omega
structure zhj(S:Lm)(A:Nat->Option Ob)(K:Nat)(x:Sl)(r:Rs)(o d:Ob)(ws:List Int):Prop where
 ob:A x.id=some o
 dk:S.dk x.id=some d
 cls:d.cls=o.cls
 kind:d.kind=o.kind/\r.kind=o.kind
 size:d.W.length=o.W.length/\d.B.length=o.B.length/\r.size=o.size
 V:S.V r.hb=some ws
 len:ws.length=nWd o.kind o.size
 rng:∀w∈ws,0<=w/\w<=65535
 wok:o.kind=1->∀w∈ws,vy K w
 word:o.kind=1->∀i,i<o.W.length->vk (λs=>(S.sl s).id) (ws.getD i 0) (d.W.getD i 0)=o.W.getD i 0
 byte:o.kind=2->∀i,i<o.B.length->zrf ws i=o.B.getD i 0
 clean:r.dirty=false->d=o
structure qn(S:Lm)(A:Nat->Option Ob)(K:Nat)(ex:List Int)(pe bl:Nat->Prop):Prop where
 len:S.sls.length=K+1
 kle:K<=16383
 zero:S.sl 0=z6
 uniq:∀s t,(S.sl s).id≠0->(S.sl s).id=(S.sl t).id->s=t
 live:∀s,(S.sl s).id≠0->(S.sl s).res≠none\/0<(S.sl s).refs\/pe s
 used:∀s,((S.sl s).res≠none\/0<(S.sl s).refs)->(S.sl s).id≠0
 refs:∀s,s<=K->(S.sl s).refs=S.tot s+cnt ex s
 exok:∀w∈ex,vy K w
 res:∀s r,(S.sl s).res=some r->∃o d ws,zhj S A K (S.sl s) r o d ws
 away:∀i,(∀s,(S.sl s).id=i->(S.sl s).res=none)->S.dk i=A i
 dom:∀i,S.dk i=none↔A i=none
 heap:∀k,S.V k≠none↔(∃s r,(S.sl s).res=some r/\r.hb=k)\/bl k
 hbs:∀s t r q,(S.sl s).res=some r->(S.sl t).res=some q->r.hb=q.hb->s=t
 nbl:∀s r,(S.sl s).res=some r->¬bl r.hb
 ads:∀s t r q,(S.sl s).res=some r->(S.sl t).res=some q->r.ad=q.ad->s=t
 good:∀i o,A i=some o->o.good
 pos:A 0=none
 idlt:∀s,(S.sl s).id<1073741824
section
variable{S:Lm}{A:Nat->Option Ob}{K:Nat}{ex:List Int}{pe bl:Nat->Prop}
theorem qn.mono(h:qn S A K ex pe bl){pe':Nat->Prop}(hp:∀s,pe s->(S.sl s).id≠0->(S.sl s).res=none->(S.sl s).refs=0->pe' s):qn S A K ex pe' bl :=
 { h with
  live:=λs hs=>by
   rcases h.live s hs with h1|h1|h1
   ·exact .inl h1
   ·exact .inr (.inl h1)
   ·by_cases h2:(S.sl s).res=none
    ·by_cases h3:(S.sl s).refs=0
     ·exact .inr (.inr (hp s h1 hs h2 h3))
     ·exact .inr (.inl (by omega))
    ·exact .inl h2 }
theorem qn.in_range(h:qn S A K ex pe bl){s:Nat}(hs:(S.sl s).id≠0):1<=s/\s<=K:=by
 constructor
 ·rcases Nat.eq_zero_or_pos s with h0|h0
  ·subst h0;rw[h.zero] at hs;exact absurd rfl hs
  ·exact h0
 ·rcases Nat.lt_or_ge s S.sls.length with h1|h1
  ·rw[h.len] at h1;omega
  ·rw[Lm.sl_out h1] at hs;exact absurd rfl hs
theorem qn.res_id(h:qn S A K ex pe bl){s:Nat}{r:Rs}(hr:(S.sl s).res=some r):(S.sl s).id≠0/\1<=s/\s<=K:=by
 have:=h.used s (.inl (by rw[hr];simp));exact⟨this,h.in_range this⟩
theorem zhj.ids{S':Lm}{x:Sl}{r:Rs}{o d:Ob}{ws:List Int}(h:zhj S A K x r o d ws)(hd:S'.dk x.id=S.dk x.id)(hV:S'.V r.hb=S.V r.hb)
 (hid:o.kind=1->∀w∈ws,ym w\/(S'.sl (w / 2).toNat).id=(S.sl (w / 2).toNat).id):zhj S' A K x r o d ws :=
 { h with
  dk:=by rw[hd];exact h.dk
  V:=by rw[hV];exact h.V
  word:=λhk i hi=>by
   have hl:i<ws.length:=by rw[h.len];unfold nWd;rw[if_neg (by omega)];unfold Ob.size kt;rw[if_pos hk];exact hi
   rw[<-h.word hk i hi];refine zm2 ?_;have hm:ws.getD i 0∈ws:=by rw[zg,ze hl];exact List.getElem_mem hl
   rcases hid hk _ hm with h1|h1
   ·exact .inl h1
   ·exact .inr h1 }
end
section
variable{S:Lm}{A:Nat->Option Ob}{K:Nat}{ex:List Int}{pe bl:Nat->Prop}
theorem z0b{s:Nat}(hs:s<S.sls.length){x:Sl}(hx:x.res=(S.sl s).res)(t:Nat):((S.put s x).sl t).res=(S.sl t).res:=by
 rw[Lm.sl_put hs];split
 ·next e=>subst e;exact hx
 ·rfl
theorem z0a{s:Nat}(hs:s<S.sls.length){x:Sl}(hx:x.res=(S.sl s).res)(t:Nat):(S.put s x).tot t=S.tot t:=by
 have:=zam S.V S.sls s x t hs;have e:Zv S.V x=Zv S.V (S.sls.getD s z6):=by unfold Zv;rw[hx];rfl
 rw[e] at this;show zcc S.V (S.sls.set s x) t=zcc S.V S.sls t
 omega
theorem zc6{l:List Sl}{x:Sl}(h:x∈l):∃t,t<l.length/\l.getD t z6=x:=by
 obtain⟨t,ht,rfl⟩:=List.getElem_of_mem h;exact⟨t,ht,by rw[zg,ze ht];rfl⟩
theorem zmd(h:qn S A K ex pe bl){t:Nat}{r:Rs}(hr:(S.sl t).res=some r)(hk:r.kind=1){ws:List Int}(hV:S.V r.hb=some ws){s:Nat}(hw:((2*s:Nat):Int)∈ws):0<S.tot s:=by
 have ht:=(h.res_id hr).2.2;have h1:=zz1 (V:=S.V) (l:=S.sls) (t:=t) (by rw[h.len];omega) s
 have e:Zv S.V (S.sls.getD t z6)=ws:=by
  unfold Zv;show(match (S.sl t).res with|some r=>if r.kind=1 then(S.V r.hb).getD [] else []|none=>[])=ws
  rw[hr];simp only;rw[if_pos hk,hV];rfl
 rw[e] at h1;have h2:=z1g hw;show 0<zcc S.V S.sls s
 omega
theorem vy.slot{K:Nat}{w:Int}(h:vy K w)(hp:¬ym w):∃s:Nat,w=((2*s:Nat):Int)/\1<=s/\s<=K:=by
 rcases h with h|h|h
 ·exact absurd (.inl h) hp
 ·exact absurd (.inr h) hp
 ·exact⟨(w / 2).toNat,by omega,by omega,by omega⟩
theorem qn.repl(h:qn S A K ex pe bl){s:Nat}(hs:s<=K)(x:Sl)(hx:x.res=(S.sl s).res){ex':List Int}{pe':Nat->Prop}
 (hz:s=0->x=z6) (hu:x.id≠0->∀t,t≠s->(S.sl t).id≠x.id) (A6:x.id<1073741824)
 (A1:x.id≠0->x.res≠none\/0<x.refs\/pe' s) (A7:∀t,t≠s->pe t->pe' t) (A2:x.res≠none\/0<x.refs->x.id≠0)
 (A3:∀t,t<=K->(if t=s then x.refs else(S.sl t).refs)=S.tot t+cnt ex' t) (A8:∀w∈ex',vy K w)
 (A0:x.id=(S.sl s).id\/((S.sl s).res=none/\S.tot s=0)):qn (S.put s x) A K ex' pe' bl:=by
 have A5:s<S.sls.length:=by rw[h.len];omega
 have hg:=λt=>Lm.sl_put A5 x t
 have hr:=λt=>z0b A5 hx t
 refine⟨by rw[<-h.len];exact List.length_set,h.kle,?_,?_,?_,?_,?_,A8,?_,?_,h.dom,?_,?_,?_,?_,h.good,h.pos,?_⟩
 ·rw[hg];split
  ·next e=>exact hz e.symm
  ·exact h.zero
 ·intro t u h1 h2;rw[hg t] at h1 h2;rw[hg u] at h2;by_cases e1:t=s
  ·rw[if_pos e1] at h1 h2;by_cases e2:u=s
   ·rw[e1,e2]
   ·rw[if_neg e2] at h2;exact absurd h2.symm (hu h1 u e2)
  ·rw[if_neg e1] at h1 h2;by_cases e2:u=s
   ·rw[if_pos e2] at h2;exact absurd h2 (hu (by rw[<-h2];exact h1) t e1)
   ·rw[if_neg e2] at h2;exact h.uniq t u h1 h2
 ·intro t h1;rw[hr,hg];rw[hg] at h1;by_cases e1:t=s
  ·subst e1;rw[if_pos rfl] at h1 ⊢;rw[<-hx];exact A1 h1
  ·rw[if_neg e1] at h1 ⊢;rcases h.live t h1 with h2|h2|h2
   ·exact .inl h2
   ·exact .inr (.inl h2)
   ·exact .inr (.inr (A7 t e1 h2))
 ·intro t;rw[hr,hg];by_cases e1:t=s
  ·subst e1;rw[if_pos rfl,<-hx];exact A2
  ·rw[if_neg e1];exact h.used t
 ·intro t ht;rw[z0a A5 hx,<-A3 t ht,hg];by_cases e1:t=s
  ·rw[if_pos e1,if_pos e1]
  ·rw[if_neg e1,if_neg e1]
 ·intro t r A4;rw[hr] at A4;obtain⟨o,d,ws,ok⟩:=h.res t r A4
  have hid:((S.put s x).sl t).id=(S.sl t).id:=by
   rw[hg];split
   ·next e =>
    subst e;rcases A0 with h1|h1
    ·exact h1
    ·rw[A4] at h1;cases h1.1
   ·rfl
  refine⟨o,d,ws,?_⟩
  have k1:zhj (S.put s x) A K (S.sl t) r o d ws:=ok.ids rfl rfl (λhk w hw=>by
   by_cases hp:ym w
   ·exact .inl hp
   ·right;obtain⟨u,rfl,A9,B0⟩:=(ok.wok hk w hw).slot hp;have e:(((2*u:Nat):Int) / 2).toNat=u:=by omega
    rw[e,hg];split
    ·next e2 =>
     subst e2;rcases A0 with h1|h1
     ·exact h1
     ·have:=zmd h A4 (by rw[ok.kind.2];exact hk) ok.V hw;omega
    ·rfl)
  exact⟨by rw[hid];exact k1.ob,by rw[hid];exact k1.dk,k1.cls,k1.kind,k1.size,k1.V,k1.len,k1.rng,k1.wok,k1.word,k1.byte,k1.clean⟩
 ·intro i hi;refine h.away i (λt ht=>?_);by_cases e1:t=s
  ·subst e1;rcases A0 with h1|h1
   ·have:=hi t (by rw[hg,if_pos rfl,h1];exact ht);rwa[hr] at this
   ·exact h1.1
  ·have:=hi t (by rw[hg,if_neg e1];exact ht);rwa[hr] at this
 ·intro k;rw[show(S.put s x).V=S.V from rfl,h.heap];constructor
  ·rintro(⟨t,r,h1,h2⟩|h1)
   ·exact .inl ⟨t,r,by rw[hr];exact h1,h2⟩
   ·exact .inr h1
  ·rintro(⟨t,r,h1,h2⟩|h1)
   ·exact .inl ⟨t,r,by rw[<-hr];exact h1,h2⟩
   ·exact .inr h1
 ·intro t u r q h1 h2;rw[hr] at h1 h2;exact h.hbs t u r q h1 h2
 ·intro t r h1;rw[hr] at h1;exact h.nbl t r h1
 ·intro t u r q h1 h2;rw[hr] at h1 h2;exact h.ads t u r q h1 h2
 ·intro t;rw[hg];split
  ·exact A6
  ·exact h.idlt t
def kn(S:Lm)(busy s:Nat):Lm:=if (S.sl s).res=none/\(S.sl s).refs=0/\s≠busy then S.put s { S.sl s with id:=0 } else S
theorem qn.loose(h:qn S A K ex pe bl)(busy:Nat){s:Nat}(hs:s<=K):qn (kn S busy s) A K ex (λt=>pe t/\(t=s->t=busy)) bl:=by
 unfold kn;split
 ·next hc =>
  obtain⟨c1,c2,c3⟩:=hc;have A0:S.tot s=0:=by have:=h.refs s hs;omega
  refine h.repl hs { S.sl s with id:=0 } rfl (λe=>?_) (λe=>absurd rfl e) (show 0<1073741824 by decide) (λe=>absurd rfl e) (λt ht hp=>⟨hp,λe=>absurd e ht⟩) (λhh=>?_) (λt ht=>?_) h.exok (.inr ⟨c1,A0⟩)
  ·subst e;rw[h.zero];rfl
  ·simp only at hh;rcases hh with hh|hh
   ·exact absurd c1 hh
   ·omega
  ·simp only;split
   ·next e=>subst e;exact h.refs t ht
   ·exact h.refs t ht
 ·next hc =>
  refine h.mono (λt hp h1 h2 h3=>⟨hp,λe=>?_⟩);subst e;rcases Classical.em (t=busy) with hb|hb
  ·exact hb
  ·exact absurd ⟨h2,h3,hb⟩ hc
def vz(S:Lm)(busy:Nat)(w:Int):Lm :=
 if w≠65534/\w % 2=0 then kn (S.put (w / 2).toNat { S.sl (w / 2).toNat with refs:=(S.sl (w / 2).toNat).refs-1 }) busy (w / 2).toNat else S
theorem qn.unref{w:Int}(h:qn S A K (w::ex) pe bl){busy:Nat}(hb:busy≠0->pe busy):qn (vz S busy w) A K ex pe bl:=by
 unfold vz;have hw:=h.exok w (by simp);by_cases hp:ym w
 ·rw[if_neg (by rcases hp with hp|hp<;>omega)]
  exact { h with
   refs:=λs hs=>by rw[h.refs s hs,jy,if_neg (hp.ne hs h.kle)];omega
   exok:=λv hv=>h.exok v (by simp[hv]) }
 ·obtain⟨s,rfl,A1,A0⟩:=hw.slot hp;have e:(((2*s:Nat):Int) / 2).toNat=s:=by omega
  have hk:=h.kle;rw[if_pos (by omega),e];have hr:=h.refs s A0;rw[jy,if_pos rfl] at hr
  have h1:qn (S.put s { S.sl s with refs:=(S.sl s).refs-1 }) A K ex (λt=>pe t\/t=s) bl:=by
   have hid:=h.used s (.inr (by omega));refine h.repl A0 { S.sl s with refs:=(S.sl s).refs-1 } rfl (λe=>by omega) (λ_ t ht he=>ht ?_) (h.idlt s) (λ_=>.inr (.inr (.inr rfl))) (λt _ hp=>.inl hp) (λ_=>hid) (λt ht=>?_) (λv hv=>h.exok v (by simp[hv])) (.inl rfl)
   ·exact h.uniq t s (by rw[he];exact hid) he
   ·split
    ·next e=>subst e;simp only;omega
    ·next e =>
     have:=h.refs t ht;rw[jy,if_neg (by omega)] at this;omega
  have h2:=h1.loose busy A0;refine h2.mono (λt hp _ _ _=>?_);rcases hp.1 with h3|h3
  ·exact h3
  ·have h4:=hp.2 h3;subst h4;exact hb (by omega)
theorem qn.bind(h:qn S A K ex pe bl){s i:Nat}(A3:1<=s)(hs:s<=K)(h0:(S.sl s).id=0)(hi:1<=i)(A1:i<1073741824)(hn:∀t,(S.sl t).id≠i) :
 qn (S.put s { S.sl s with id:=i }) A K ex (λt=>pe t\/t=s) bl:=by
 have A0:(S.sl s).res=none/\(S.sl s).refs=0:=by
  constructor
  ·rcases Classical.em ((S.sl s).res=none) with h1|h1
   ·exact h1
   ·exact absurd h0 (h.used s (.inl h1))
  ·rcases Nat.eq_zero_or_pos (S.sl s).refs with h1|h1
   ·exact h1
   ·exact absurd h0 (h.used s (.inr h1))
 have A2:S.tot s=0:=by have:=h.refs s hs;omega
 refine h.repl hs { S.sl s with id:=i } rfl (λe=>by omega) (λ_ t ht=>hn t) A1 (λ_=>.inr (.inr (.inr rfl))) (λt _ hp=>.inl hp) (λ_=>by simp only;omega) (λt ht=>?_) h.exok (.inr ⟨A0.1,A2⟩);split
 ·next e=>subst e;exact h.refs t ht
 ·exact h.refs t ht
theorem qn.ref(h:qn S A K ex pe bl){s:Nat}(hs:s<=K)(hid:(S.sl s).id≠0):qn (S.put s { S.sl s with refs:=(S.sl s).refs+1 }) A K (((2*s:Nat):Int)::ex) pe bl:=by
 have A0:=h.in_range hid;refine h.repl hs { S.sl s with refs:=(S.sl s).refs+1 } rfl (λe=>by omega) (λ_ t ht he=>ht (h.uniq t s (by rw[he];exact hid) he)) (h.idlt s) (λ_=>.inr (.inl (by simp only;omega))) (λt _ hp=>hp) (λ_=>hid) (λt ht=>?_) (λv hv=>?_) (.inl rfl)
 ·rw[jy];split
  ·next e=>subst e;rw[if_pos rfl];have:=h.refs t ht;simp only;omega
  ·next e=>rw[if_neg (by omega)];have:=h.refs t ht;omega
 ·rcases List.mem_cons.1 hv with rfl|hv
  ·exact .inr (.inr ⟨by omega,by omega,by omega⟩)
  ·exact h.exok v hv
theorem qn.cons_plain(h:qn S A K ex pe bl){w:Int}(hw:ym w):qn S A K (w::ex) pe bl :=
 { h with
  refs:=λs hs=>by rw[h.refs s hs,jy,if_neg (hw.ne hs h.kle)];omega
  exok:=λv hv=>by
   rcases List.mem_cons.1 hv with rfl|hv
   ·exact hw.ok K
   ·exact h.exok v hv }
def zbc(S:Lm)(s:Nat)(hb:Nat):Lm:=⟨S.sls.set s { S.sl s with res:=none },upF S.V hb none,S.dk⟩
theorem zol{s:Nat}(hs:s<S.sls.length)(hb t:Nat):(zbc S s hb).sl t=if t=s then { S.sl s with res:=none } else S.sl t:=Lm.sl_put hs _ t
theorem qn.leave(h:qn S A K [] pe bl){s:Nat}{r:Rs}(hr:(S.sl s).res=some r)(hd:S.dk (S.sl s).id=A (S.sl s).id):qn (zbc S s r.hb) A K (Zv S.V (S.sl s)) (λt=>pe t\/t=s) bl:=by
 obtain⟨hid,A4,A5⟩:=h.res_id hr;have A2:s<S.sls.length:=by rw[h.len];omega
 have hg:=λt=>zol A2 r.hb t
 have A0:∀t q,((zbc S s r.hb).sl t).res=some q->t≠s/\(S.sl t).res=some q:=λt q hq=>by
  rw[hg] at hq;split at hq
  ·cases hq
  ·next e=>exact⟨e,hq⟩
 have hV:∀t q,t≠s->(S.sl t).res=some q->(zbc S s r.hb).V q.hb=S.V q.hb:=λt q ht hq=>Ze _ _ (λe=>ht (h.hbs t s q r hq hr e))
 have A1:∀t,((zbc S s r.hb).sl t).id=(S.sl t).id:=λt=>by
  rw[hg];split
  ·next e=>subst e;rfl
  ·rfl
 refine⟨by rw[<-h.len];exact List.length_set,h.kle,?_,?_,?_,?_,?_,?_,?_,?_,h.dom,?_,?_,?_,?_,h.good,h.pos,λt=>by rw[A1];exact h.idlt t⟩
 ·rw[hg,if_neg (by omega)];exact h.zero
 ·intro t u h1 h2;rw[A1] at h1 h2;rw[A1] at h2;exact h.uniq t u h1 h2
 ·intro t h1;rw[A1] at h1;rw[hg];by_cases e:t=s
  ·exact .inr (.inr (.inr e))
  ·rw[if_neg e];rcases h.live t h1 with h2|h2|h2
   ·exact .inl h2
   ·exact .inr (.inl h2)
   ·exact .inr (.inr (.inl h2))
 ·intro t h1;rw[A1];rw[hg] at h1;by_cases e:t=s
  ·rw[e];exact hid
  ·rw[if_neg e] at h1;exact h.used t h1
 ·intro t ht
  have e1:zcc (upF S.V r.hb none) (S.sls.set s { S.sl s with res:=none }) t=zcc S.V (S.sls.set s { S.sl s with res:=none }) t:=by
   refine zbk (λx hx q hq hk=>?_);obtain⟨u,hu,rfl⟩:=zc6 hx;obtain⟨h1,h2⟩:=A0 u q hq;exact hV u q h1 h2
  have e2:=zam S.V S.sls s { S.sl s with res:=none } t A2;have e3:cnt (Zv S.V { S.sl s with res:=none }) t=0:=rfl;have e4:=h.refs t ht;rw[zau] at e4
  have e5:((zbc S s r.hb).sl t).refs=(S.sl t).refs:=by
   rw[hg];split
   ·next e=>subst e;rfl
   ·rfl
  have e6:S.sls.getD s z6=S.sl s:=rfl;rw[e6] at e2;show _=zcc (upF S.V r.hb none) (S.sls.set s { S.sl s with res:=none }) t+_
  rw[e5,e1,e4];show zcc S.V S.sls t+0=_
  omega
 ·intro w hw;unfold Zv at hw;rw[hr] at hw;simp only at hw;obtain⟨o,d,ws,ok⟩:=h.res s r hr;split at hw
  ·next hk =>
   rw[ok.V] at hw;exact ok.wok (by rw[<-ok.kind.2];exact hk) w hw
  ·cases hw
 ·intro t q hq;obtain⟨h1,h2⟩:=A0 t q hq;obtain⟨o,d,ws,ok⟩:=h.res t q h2;refine⟨o,d,ws,?_⟩;have e:(zbc S s r.hb).sl t=S.sl t:=by rw[hg,if_neg h1]
  rw[e];exact ok.ids rfl (hV t q h1 h2) (λ_ w _=>.inr (A1 _))
 ·intro i hi;by_cases e:i=(S.sl s).id
  ·rw[e];exact hd
  ·refine h.away i (λt ht=>?_);have A3:t≠s:=λe2=>e (by rw[<-ht,e2])
   have:=hi t (by rw[A1];exact ht);rwa[hg,if_neg A3] at this
 ·intro k;show upF S.V r.hb none k≠none↔_
  by_cases e:k=r.hb
  ·subst e;rw[Zm];constructor
   ·exact λh1=>absurd rfl h1
   ·rintro(⟨t,q,h1,h2⟩|h1)
    ·obtain⟨h3,h4⟩:=A0 t q h1;exact absurd (h.hbs t s q r h4 hr h2) h3
    ·exact absurd h1 (h.nbl s r hr)
  ·rw[Ze _ _ e,h.heap];constructor
   ·rintro(⟨t,q,h1,h2⟩|h1)
    ·refine .inl ⟨t,q,?_,h2⟩;rw[hg,if_neg (λe2=>?_)]
     ·exact h1
     ·subst e2;rw[hr] at h1;cases h1
      exact e h2.symm
    ·exact .inr h1
   ·rintro(⟨t,q,h1,h2⟩|h1)
    ·exact .inl ⟨t,q,(A0 t q h1).2,h2⟩
    ·exact .inr h1
 ·intro t u q p h1 h2 h3;exact h.hbs t u q p (A0 t q h1).2 (A0 u p h2).2 h3
 ·intro t q h1;exact h.nbl t q (A0 t q h1).2
 ·intro t u q p h1 h2 h3;exact h.ads t u q p (A0 t q h1).2 (A0 u p h2).2 h3
end
theorem zkc{α:Type}{f:Nat->α}{k:Nat}{v:α}(h:f k=v):upF f k v=f:=by
 funext j;unfold upF;split
 ·next e=>rw[e,h]
 ·rfl
theorem zm1(id:Nat->Nat)(w v:Int):vk id w (vk id w v)=vk id w v:=by
 unfold vk;split
 ·rfl
 ·split<;>rfl
section
variable{S:Lm}{A:Nat->Option Ob}{K:Nat}{ex:List Int}{pe bl:Nat->Prop}
def Z0(S:Lm)(s hb:Nat)(ws:List Int)(dirty:Bool)(d:Ob):Lm :=
 ⟨S.sls.set s { S.sl s with res:=(S.sl s).res.map (λr=>{ r with dirty:=dirty }) },upF S.V hb (some ws),upF S.dk (S.sl s).id (some d)⟩
theorem zgw{s:Nat}(hs:s<S.sls.length)(hb:Nat)(ws:List Int)(dirty:Bool)(d:Ob)(t:Nat) :
 (Z0 S s hb ws dirty d).sl t=if t=s then { S.sl s with res:=(S.sl s).res.map (λr=>{ r with dirty:=dirty }) } else S.sl t:=Lm.sl_put hs _ t
theorem xi{V:Nat->Option (List Int)}{x:Sl}{r:Rs}(h:x.res=some r):Zv V x=if r.kind=1 then(V r.hb).getD [] else []:=by unfold Zv;rw[h]
theorem qn.change(h:qn S A K ex pe bl){s:Nat}{r:Rs}{o d:Ob}{ws:List Int}(hr:(S.sl s).res=some r)(ok:zhj S A K (S.sl s) r o d ws)(o' d':Ob)(ws':List Int)(dirty:Bool){ex':List Int}
 (ho:o'.good) (B0:d'.cls=o'.cls) (A0:o'.kind=o.kind/\d'.kind=o.kind) (A9:o'.W.length=o.W.length/\o'.B.length=o.B.length/\d'.W.length=o.W.length/\d'.B.length=o.B.length)
 (B1:ws'.length=ws.length) (B2:∀w∈ws',0<=w/\w<=65535) (B3:o.kind=1->∀w∈ws',vy K w)
 (A6:o.kind=1->∀i,i<o.W.length->vk (λs=>(S.sl s).id) (ws'.getD i 0) (d'.W.getD i 0)=o'.W.getD i 0) (A7:o.kind=2->∀i,i<o.B.length->zrf ws' i=o'.B.getD i 0)
 (A5:dirty=false->d'=o') (B4:∀t,t<=K->(if o.kind=1 then cnt ws t else 0)+cnt ex t=(if o.kind=1 then cnt ws' t else 0)+cnt ex' t) (B7:∀w∈ex',vy K w) :
 qn (Z0 S s r.hb ws' dirty d') (upF A (S.sl s).id (some o')) K ex' pe bl:=by
 obtain⟨hid,B9,C0⟩:=h.res_id hr;have A8:s<S.sls.length:=by rw[h.len];omega
 have hg:=λt=>zgw A8 r.hb ws' dirty d' t
 have A1:∀t,((Z0 S s r.hb ws' dirty d').sl t).id=(S.sl t).id:=λt=>by
  rw[hg];split
  ·next e=>subst e;rfl
  ·rfl
 have A3:∀t,((Z0 S s r.hb ws' dirty d').sl t).refs=(S.sl t).refs:=λt=>by
  rw[hg];split
  ·next e=>subst e;rfl
  ·rfl
 have B5:((Z0 S s r.hb ws' dirty d').sl s).res=some { r with dirty:=dirty }:=by rw[hg,if_pos rfl,hr];rfl
 have A2:∀t q,((Z0 S s r.hb ws' dirty d').sl t).res=some q->∃p,(S.sl t).res=some p/\q.hb=p.hb/\q.ad=p.ad/\(t≠s->q=p):=λt q hq=>by
  rw[hg] at hq;split at hq
  ·next e =>
   subst e;simp only at hq;rw[hr] at hq;simp only[Option.map_some,Option.some.injEq] at hq;exact⟨r,hr,by rw[<-hq],by rw[<-hq],λe=>absurd rfl e⟩
  ·exact⟨q,hq,rfl,rfl,λ_=>rfl⟩
 have A4:∀t,((Z0 S s r.hb ws' dirty d').sl t).res=none↔(S.sl t).res=none:=λt=>by
  rw[hg];split
  ·next e=>subst e;simp[hr]
  ·rfl
 have B6:∀t q,t≠s->(S.sl t).res=some q->(S.sl t).id≠(S.sl s).id:=λt q ht hq e=>ht (h.uniq t s (h.res_id hq).1 e)
 refine⟨by rw[<-h.len];exact List.length_set,h.kle,?_,?_,?_,?_,?_,B7,?_,?_,?_,?_,?_,?_,?_,?_,?_,λt=>by rw[A1];exact h.idlt t⟩
 ·rw[hg,if_neg (by omega)];exact h.zero
 ·intro t u h1 h2;rw[A1] at h1 h2;rw[A1] at h2;exact h.uniq t u h1 h2
 ·intro t h1;rw[A1] at h1;rw[A3,Ne,A4];exact h.live t h1
 ·intro t h1;rw[A3,Ne,A4] at h1;rw[A1];exact h.used t h1
 ·intro t ht
  have e1:zcc (upF S.V r.hb (some ws')) S.sls t+(if o.kind=1 then cnt ws t else 0)=zcc S.V S.sls t+(if o.kind=1 then cnt ws' t else 0):=by
   have k1:=zam S.V S.sls s z6 t A8;have k2:=zam (upF S.V r.hb (some ws')) S.sls s z6 t A8
   have k3:zcc (upF S.V r.hb (some ws')) (S.sls.set s z6) t=zcc S.V (S.sls.set s z6) t:=by
    refine zbk (λx hx q hq hk=>?_);obtain⟨u,hu,rfl⟩:=zc6 hx;have B8:(S.put s z6).sl u=(S.sls.set s z6).getD u z6:=rfl;rw[<-B8,Lm.sl_put A8] at hq;split at hq
    ·cases hq
    ·next e=>exact Ze _ _ (λe2=>e (h.hbs u s q r hq hr e2))
   have e4:cnt (Zv S.V (S.sls.getD s z6)) t=if o.kind=1 then cnt ws t else 0:=by
    show cnt (Zv S.V (S.sl s)) t=_
    rw[xi hr,ok.kind.2,ok.V];split<;>rfl
   have e5:cnt (Zv (upF S.V r.hb (some ws')) (S.sls.getD s z6)) t=if o.kind=1 then cnt ws' t else 0:=by
    show cnt (Zv (upF S.V r.hb (some ws')) (S.sl s)) t=_
    rw[xi hr,ok.kind.2,Zm];split<;>rfl
   have e6:cnt (Zv S.V z6) t=0:=rfl;have e7:cnt (Zv (upF S.V r.hb (some ws')) z6) t=0:=rfl;omega
  have e2:(Z0 S s r.hb ws' dirty d').tot t=zcc (upF S.V r.hb (some ws')) S.sls t:=by
   have k1:=zam (upF S.V r.hb (some ws')) S.sls s { S.sl s with res:=(S.sl s).res.map (λr=>{ r with dirty:=dirty }) } t A8
   have k2:Zv (upF S.V r.hb (some ws')) { S.sl s with res:=(S.sl s).res.map (λr=>{ r with dirty:=dirty }) } = Zv (upF S.V r.hb (some ws')) (S.sls.getD s z6):=by
    show _=Zv _ (S.sl s)
    rw[xi hr,xi (r:={ r with dirty:=dirty }) (by show(S.sl s).res.map _=_;rw[hr];rfl)]
   rw[k2] at k1;show zcc (upF S.V r.hb (some ws')) (S.sls.set s _) t=_
   omega
  have e3:=h.refs t ht;have e4:=B4 t ht;have e5:S.tot t=zcc S.V S.sls t:=rfl;rw[A3,e2,e3];omega
 ·intro t q hq;by_cases e:t=s
  ·subst e;rw[B5] at hq;cases hq
   refine⟨o',d',ws',?_⟩;have hx:=A1 t;refine⟨by rw[hx];exact Zm _ _ _,by rw[hx];exact Zm _ _ _,B0,⟨by rw[A0.1];exact A0.2,by rw[A0.1];exact ok.kind.2⟩,⟨by omega,by omega,?_⟩,Zm _ _ _,?_,B2,λhk=>B3 (by rw[<-A0.1];exact hk),λhk i hi=>?_,λhk i hi=>?_,A5⟩
   ·show r.size=_
    rw[ok.size.2.2];unfold Ob.size kt;rw[A0.1,A9.1,A9.2.1]
   ·rw[B1,ok.len,A0.1];unfold Ob.size kt;rw[A0.1,A9.1,A9.2.1]
   ·have:=A6 (by rw[<-A0.1];exact hk) i (by omega);rw[<-this];congr 1;funext u;exact A1 u
   ·exact A7 (by rw[<-A0.1];exact hk) i (by omega)
  ·obtain⟨p,hp,_,_,h4⟩:=A2 t q hq;have:=h4 e;subst this;obtain⟨o2,d2,ws2,ok2⟩:=h.res t q hp;refine⟨o2,d2,ws2,?_⟩;have e2:(Z0 S s r.hb ws' dirty d').sl t=S.sl t:=by rw[hg,if_neg e]
   rw[e2];have k1:=ok2.ids (S':=Z0 S s r.hb ws' dirty d') (Ze _ _ (B6 t q e hp)) (Ze _ _ (λe3=>e (h.hbs t s q r hp hr e3))) (λ_ w _=>.inr (A1 _));exact { k1 with ob:=by rw[Ze _ _ (B6 t q e hp)];exact k1.ob }
 ·intro i hi;by_cases e:i=(S.sl s).id
  ·exfalso;have:=hi s (by rw[A1];exact e.symm);rw[B5] at this;cases this
  ·show upF S.dk _ _ i=upF A _ _ i
   rw[Ze _ _ e,Ze _ _ e];refine h.away i (λt ht=>?_);exact(A4 t).1 (hi t (by rw[A1];exact ht))
 ·intro i;show upF S.dk _ _ i=none↔upF A _ _ i=none
  by_cases e:i=(S.sl s).id
  ·subst e;rw[Zm,Zm];simp
  ·rw[Ze _ _ e,Ze _ _ e];exact h.dom i
 ·intro k;show upF S.V r.hb (some ws') k≠none↔_
  have hx:(∃t q,((Z0 S s r.hb ws' dirty d').sl t).res=some q/\q.hb=k)↔∃t q,(S.sl t).res=some q/\q.hb=k:=by
   constructor
   ·rintro⟨t,q,h1,h2⟩;obtain⟨p,h3,h4,_⟩:=A2 t q h1;exact⟨t,p,h3,by rw[<-h4];exact h2⟩
   ·rintro⟨t,q,h1,h2⟩;by_cases e:t=s
    ·subst e;rw[hr] at h1;cases h1
     exact⟨t,_,B5,h2⟩
    ·exact⟨t,q,by rw[hg,if_neg e];exact h1,h2⟩
  rw[hx,<-h.heap];by_cases e:k=r.hb
  ·subst e;rw[Zm,ok.V];simp
  ·rw[Ze _ _ e]
 ·intro t u q p h1 h2 h3;obtain⟨q',a1,a2,_⟩:=A2 t q h1;obtain⟨p',b1,b2,_⟩:=A2 u p h2;exact h.hbs t u q' p' a1 b1 (by rw[<-a2,<-b2];exact h3)
 ·intro t q h1;obtain⟨q',a1,a2,_⟩:=A2 t q h1;rw[a2];exact h.nbl t q' a1
 ·intro t u q p h1 h2 h3;obtain⟨q',a1,_,a2,_⟩:=A2 t q h1;obtain⟨p',b1,_,b2,_⟩:=A2 u p h2;exact h.ads t u q' p' a1 b1 (by rw[<-a2,<-b2];exact h3)
 ·intro i o2 h1;by_cases e:i=(S.sl s).id
  ·subst e;rw[Zm] at h1;cases h1;exact ho
  ·rw[Ze _ _ e] at h1;exact h.good i o2 h1
 ·rw[Ze _ _ (Ne.symm hid)];exact h.pos
theorem qn.clean(h:qn S A K ex pe bl){s:Nat}{r:Rs}{o d:Ob}{ws:List Int}(hr:(S.sl s).res=some r)(ok:zhj S A K (S.sl s) r o d ws):qn (Z0 S s r.hb ws false o) A K ex pe bl:=by
 have k:=h.change hr ok o o ws false (ex':=ex) (h.good _ _ ok.ob) rfl ⟨rfl,rfl⟩ ⟨rfl,rfl,rfl,rfl⟩ rfl ok.rng ok.wok (λhk i hi=>by
  have:=ok.word hk i hi
  rw[<-this,zm1]) ok.byte (λ_=>rfl) (λ_ _=>rfl) h.exok
 rwa[zkc ok.ob] at k
theorem qn.block(h:qn S A K ex pe bl){k:Nat}{ws:List Int}(hk:S.V k=none):qn { S with V:=upF S.V k (some ws) } A K ex pe (λj=>bl j\/j=k):=by
 have A0:∀t q,(S.sl t).res=some q->q.hb≠k:=λt q hq e=>by
  obtain⟨o,d,ws,ok⟩:=h.res t q hq;rw[<-e,ok.V] at hk;cases hk
 refine { h with refs:=λt ht=>?_,res:=λt q hq=>?_,heap:=λj=>?_,nbl:=λt q hq=>?_ }
 ·have e:zcc (upF S.V k (some ws)) S.sls t=zcc S.V S.sls t:=by
   refine zbk (λx hx q hq _=>?_);obtain⟨u,hu,rfl⟩:=zc6 hx;exact Ze _ _ (A0 u q hq)
  show(S.sl t).refs=zcc (upF S.V k (some ws)) S.sls t+_
  rw[e];exact h.refs t ht
 ·obtain⟨o,d,ws2,ok⟩:=h.res t q hq;exact⟨o,d,ws2,ok.ids (S':={ S with V:=upF S.V k (some ws) }) rfl (Ze _ _ (A0 t q hq)) (λ_ _ _=>.inr rfl)⟩
 ·show upF S.V k (some ws) j≠none↔_
  by_cases e:j=k
  ·subst e;rw[Zm];simp
  ·rw[Ze _ _ e,h.heap];constructor
   ·rintro(h1|h1)
    ·exact .inl h1
    ·exact .inr (.inl h1)
   ·rintro(h1|h1|h1)
    ·exact .inl h1
    ·exact .inr h1
    ·exact absurd h1 e
 ·rintro(h1|h1)
  ·exact h.nbl t q hq h1
  ·exact A0 t q hq h1
def ka(S:Lm)(s:Nat)(r:Rs)(ws:List Int):Lm:=⟨S.sls.set s { S.sl s with res:=some r },upF S.V r.hb (some ws),S.dk⟩
theorem zfw{o:Ob}(h:o.good):∀w∈Zc o,0<=w/\w<=65535:=by
 intro w hw;rcases h.kinds with⟨h1,-⟩|⟨h1,-⟩
 ·rcases zak h h1 w hw with h2|h2<;>omega
 ·unfold Zc at hw;rw[if_pos h1,List.mem_map] at hw;obtain⟨j,_,rfl⟩:=hw;have b0:=zah h.2 (2*j);have b1:=zah h.2 (2*j+1);omega
theorem qn.arrive(h:qn S A K ex pe bl){s:Nat}{r:Rs}{o:Ob}(hid:(S.sl s).id≠0)(hn:(S.sl s).res=none)(ho:A (S.sl s).id=some o)(hb:bl r.hb)(hk:r.kind=o.kind)(hz:r.size=o.size)(hd:r.dirty=false)
 (A6:∀t q,(S.sl t).res=some q->q.ad≠r.ad):qn (ka S s r (Zc o)) A K ex pe (λk=>bl k/\k≠r.hb):=by
 obtain⟨B0,B1⟩:=h.in_range hid;have A7:s<S.sls.length:=by rw[h.len];omega
 have hg:∀t,(ka S s r (Zc o)).sl t=if t=s then { S.sl s with res:=some r } else S.sl t:=λt=>Lm.sl_put A7 _ t
 have A0:=h.good _ _ ho
 have A2:∀t,((ka S s r (Zc o)).sl t).id=(S.sl t).id:=λt=>by
  rw[hg];split
  ·next e=>subst e;rfl
  ·rfl
 have A3:∀t,((ka S s r (Zc o)).sl t).refs=(S.sl t).refs:=λt=>by
  rw[hg];split
  ·next e=>subst e;rfl
  ·rfl
 have A1:∀t q,((ka S s r (Zc o)).sl t).res=some q->(t=s/\q=r)\/(t≠s/\(S.sl t).res=some q):=λt q hq=>by
  rw[hg] at hq;split at hq
  ·next e=>cases hq;exact .inl ⟨e,rfl⟩
  ·next e=>exact .inr ⟨e,hq⟩
 have A4:∀t q,(S.sl t).res=some q->q.hb≠r.hb:=λt q hq e=>h.nbl t q hq (by rw[e];exact hb)
 have A8:S.dk (S.sl s).id=some o:=by
  rw[<-ho];refine h.away _ (λt ht=>?_);have:=h.uniq t s (by rw[ht];exact hid) ht;subst this;exact hn
 refine⟨by rw[<-h.len];exact List.length_set,h.kle,?_,?_,?_,?_,?_,h.exok,?_,?_,h.dom,?_,?_,?_,?_,h.good,h.pos,λt=>by rw[A2];exact h.idlt t⟩
 ·rw[hg,if_neg (by omega)];exact h.zero
 ·intro t u h1 h2;rw[A2] at h1 h2;rw[A2] at h2;exact h.uniq t u h1 h2
 ·intro t h1;rw[A2] at h1;rw[hg];by_cases e:t=s
  ·rw[if_pos e];exact .inl (by simp)
  ·rw[if_neg e];exact h.live t h1
 ·intro t h1;rw[A2];rw[hg] at h1;by_cases e:t=s
  ·rw[e];exact hid
  ·rw[if_neg e] at h1;exact h.used t h1
 ·intro t ht;have k1:=zam (upF S.V r.hb (some (Zc o))) S.sls s { S.sl s with res:=some r } t A7
  have k2:zcc (upF S.V r.hb (some (Zc o))) S.sls t=zcc S.V S.sls t:=by
   refine zbk (λx hx q hq _=>?_);obtain⟨u,hu,rfl⟩:=zc6 hx;exact Ze _ _ (A4 u q hq)
  have k3:cnt (Zv (upF S.V r.hb (some (Zc o))) (S.sls.getD s z6)) t=0:=by
   show cnt (Zv _ (S.sl s)) t=0
   unfold Zv;rw[hn];rfl
  have k4:cnt (Zv (upF S.V r.hb (some (Zc o))) { S.sl s with res:=some r }) t=0:=by
   rw[xi (r:=r) rfl,Zm];split
   ·next e=>exact zug (zak A0 (by rw[<-hk];exact e)) ht h.kle
   ·rfl
  have k5:=h.refs t ht;rw[A3,k5];show zcc S.V S.sls t+_=zcc (upF S.V r.hb (some (Zc o))) (S.sls.set s { S.sl s with res:=some r }) t+_
  omega
 ·intro t q hq;rcases A1 t q hq with⟨rfl,rfl⟩|⟨e,h1⟩
  ·refine⟨o,o,Zc o,?_⟩;have hx:=A2 t;refine⟨by rw[hx];exact ho,by rw[hx];exact A8,rfl,⟨rfl,hk⟩,⟨rfl,rfl,hz⟩,Zm _ _ _,zch A0,zfw A0,λA5 w hw=>(zak A0 A5 w hw).ok K,λA5 i hi=>zig A5 _ hi,λA9 i hi=>?_,λ_=>rfl⟩;refine zj7 A0 A9 ?_;rcases A0.kinds with⟨a,_⟩|⟨_,_,_,a⟩<;>omega
  ·obtain⟨o2,d2,ws2,ok2⟩:=h.res t q h1;refine⟨o2,d2,ws2,?_⟩;rw[hg,if_neg e];exact ok2.ids (S':=ka S s r (Zc o)) rfl (Ze _ _ (A4 t q h1)) (λ_ w _=>.inr (A2 _))
 ·intro i hi;refine h.away i (λt ht=>?_);have:=hi t (by rw[A2];exact ht);rw[hg] at this;split at this
  ·cases this
  ·exact this
 ·intro k;show upF S.V r.hb _ k≠none↔_
  by_cases e:k=r.hb
  ·subst e;rw[Zm];exact⟨λ_=>.inl ⟨s,r,by rw[hg,if_pos rfl],rfl⟩,λ_=>by simp⟩
  ·rw[Ze _ _ e,h.heap];constructor
   ·rintro(⟨t,q,h1,h2⟩|h1)
    ·refine .inl ⟨t,q,?_,h2⟩;rw[hg,if_neg (λe2=>by subst e2;rw[hn] at h1;cases h1)];exact h1
    ·exact .inr ⟨h1,e⟩
   ·rintro(⟨t,q,h1,h2⟩|h1)
    ·rcases A1 t q h1 with⟨_,rfl⟩|⟨_,h3⟩
     ·exact absurd h2.symm e
     ·exact .inl ⟨t,q,h3,h2⟩
    ·exact .inr h1.1
 ·intro t u q p h1 h2 h3;rcases A1 t q h1 with⟨a1,rfl⟩|⟨a1,a2⟩
  ·rcases A1 u p h2 with⟨b1,rfl⟩|⟨b1,b2⟩
   ·rw[a1,b1]
   ·exact absurd h3.symm (A4 u p b2)
  ·rcases A1 u p h2 with⟨b1,rfl⟩|⟨b1,b2⟩
   ·exact absurd h3 (A4 t q a2)
   ·exact h.hbs t u q p a2 b2 h3
 ·intro t q h1 h2;rcases A1 t q h1 with⟨a1,rfl⟩|⟨a1,a2⟩
  ·exact h2.2 rfl
  ·exact h.nbl t q a2 h2.1
 ·intro t u q p h1 h2 h3;rcases A1 t q h1 with⟨a1,rfl⟩|⟨a1,a2⟩
  ·rcases A1 u p h2 with⟨b1,rfl⟩|⟨b1,b2⟩
   ·rw[a1,b1]
   ·exact absurd h3.symm (A6 u p b2)
  ·rcases A1 u p h2 with⟨b1,rfl⟩|⟨b1,b2⟩
   ·exact absurd h3 (A6 t q a2)
   ·exact h.ads t u q p a2 b2 h3
theorem qn.make(h:qn S A K ex pe bl){i:Nat}{o:Ob}(hi:1<=i)(hn:A i=none)(ho:o.good):qn { S with dk:=upF S.dk i (some o) } (upF A i (some o)) K ex pe bl:=by
 have A0:∀t q,(S.sl t).res=some q->(S.sl t).id≠i:=λt q hq e=>by
  obtain⟨o2,d2,ws2,ok⟩:=h.res t q hq;rw[<-e,ok.ob] at hn;cases hn
 refine { h with res:=λt q hq=>?_,away:=λj hj=>?_,dom:=λj=>?_,good:=λj o2 hj=>?_,pos:=?_ }
 ·obtain⟨o2,d2,ws2,ok⟩:=h.res t q hq;have k1:=ok.ids (S':={ S with dk:=upF S.dk i (some o) }) (Ze _ _ (A0 t q hq)) rfl (λ_ _ _=>.inr rfl);exact⟨o2,d2,ws2,{ k1 with ob:=by rw[show(Lm.sl { S with dk:=upF S.dk i (some o) } t)=S.sl t from rfl,Ze _ _ (A0 t q hq)];exact ok.ob }⟩
 ·show upF S.dk i (some o) j=_
  by_cases e:j=i
  ·subst e;rw[Zm,Zm]
  ·rw[Ze _ _ e,Ze _ _ e];exact h.away j hj
 ·show upF S.dk i (some o) j=none↔_
  by_cases e:j=i
  ·subst e;rw[Zm,Zm]
  ·rw[Ze _ _ e,Ze _ _ e];exact h.dom j
 ·by_cases e:j=i
  ·subst e;rw[Zm] at hj;cases hj;exact ho
  ·rw[Ze _ _ e] at hj;exact h.good j o2 hj
 ·rw[Ze _ _ (by omega)];exact h.pos
def zae{α:Type}(f:Nat->Option α)(g:Nat->Bool):Nat->Option α:=λi=>if g i then none else f i
theorem qn.drop(h:qn S A K ex pe bl)(g:Nat->Bool)(hg:∀t q,(S.sl t).res=some q->g (S.sl t).id=false):qn { S with dk:=zae S.dk g } (zae A g) K ex pe bl:=by
 refine { h with res:=λt q hq=>?_,away:=λj hj=>?_,dom:=λj=>?_,good:=λj o2 hj=>?_,pos:=?_ }
 ·obtain⟨o2,d2,ws2,ok⟩:=h.res t q hq;have e:=hg t q hq;have k1:=ok.ids (S':={ S with dk:=zae S.dk g }) (by show zae S.dk g _=_;unfold zae;rw[e];rfl) rfl (λ_ _ _=>.inr rfl);refine⟨o2,d2,ws2,{ k1 with ob:=?_ }⟩;show zae A g (S.sl t).id=_
  unfold zae;rw[e];exact ok.ob
 ·show zae S.dk g j=zae A g j
  unfold zae;split
  ·rfl
  ·exact h.away j hj
 ·show zae S.dk g j=none↔zae A g j=none
  unfold zae;split
  ·simp
  ·exact h.dom j
 ·unfold zae at hj;split at hj
  ·cases hj
  ·exact h.good j o2 hj
 ·unfold zae;split
  ·rfl
  ·exact h.pos
theorem qn.empty(h:qn S A K [] (λ_=>False) bl)(hA:∀i,A i=none):∀s,(S.sl s).res=none/\(S.sl s).id=0:=by
 have hr:∀s,(S.sl s).res=none:=λs=>by
  cases hq:(S.sl s).res with
  | none=>rfl
  | some r =>
   obtain⟨o,d,ws,ok⟩:=h.res s r hq;have:=ok.ob;rw[hA] at this;cases this
 intro s;refine⟨hr s,?_⟩;rcases Classical.em ((S.sl s).id=0) with h1|h1
 ·exact h1
 ·exfalso;have hs:=(h.in_range h1).2
  have ht:S.tot s=0:=zf1 (λx hx=>by
   obtain⟨t,ht,rfl⟩:=zc6 hx
   exact hr t) s
  have h2:=h.refs s hs;rw[ht,zau] at h2;rcases h.live s h1 with h3|h3|h3
  ·exact h3 (hr s)
  ·omega
  ·exact h3
end
end Go.Proofs.YtoeibiahbenpcaaGreatDoor
