/- Part. -/
import Derived.Test.YtoeibiahbenpcaaGreatDoorRows
import Derived.Handy
import Derived.WalkSpells
import Derived.WalkLawsBesides
import Derived.Outline
import Derived.Laws.AppendOwnNone
import Derived.Laws.Bits128
import Derived.Lib.Hide
import Derived.Deep.QuietTactic
import Derived.BigQuiet
import Derived.Orders
import Derived.OrdersHeld
namespace Go.Proofs.YtoeibiahbenpcaaGreatDoor
open RowKit Maps Proofs.Tryz
set_option linter.unusedVariables false
set_option maxRecDepth 99999
set_option maxHeartbeats 9000000
theorem zh {p:Prop} (h:p):Go.RowKit.Hid p:=h
theorem zg {α:Type _} {l:List α} {i:Nat} {a:α}:l.getD i a=(l[i]?).getD a:=List.getD_eq_getElem?_getD
theorem ze {α:Type _} {l:List α} {i:Nat} (h:i<l.length):l[i]? =some l[i]:=List.getElem?_eq_getElem h
theorem zx {α:Sort _} (a:α):∃z,z=a:=⟨a,rfl⟩
def zp(l:List Nat):List (Nat×Bool):=l.map λi=>(i%1000,decide (i<1000))
def zv(w:World)(a:Option Addr)(c:Nat)(xs:List Value):Prop :=
 (a=none/\c=0/\xs=[])\/∃x,a=some x/\∀i u,xs[i]?=some u->w.cell? (x.add i)=some u
theorem qk(b off i:Nat):(⟨b,off,none⟩:Addr).add i=⟨b,off+i,none⟩:=by
 unfold Addr.add;split<;>simp_all
theorem zv.at{w:World}{a:Option Addr}{c:Nat}{xs:List Value}(h:zv w a c xs)(hl:0<xs.length) :
 ∃b off,a=some ⟨b,off,none⟩/\b<w.heap.size/\∀i u,xs[i]?=some u->w.cell? ⟨b,off+i,none⟩=some u:=by
 rcases h with⟨_,_,rfl⟩|⟨⟨b,off,s⟩,rfl,h⟩
 ·simp at hl
 ·have h0:=h 0 xs[0] (by simp[hl])
  have hs:s=none:=by
   have:=World.cell?_spot h0;simpa[Addr.add] using this
  subst hs;refine⟨b,off,rfl,?_,λi u hu=>?_⟩
  ·have:=World.block_lt_of_cell? w _ h0;simpa[Addr.add] using this
  ·have:=h i u hu;rwa[qk] at this
theorem zv.below{w w':World}{a:Option Addr}{c:Nat}{xs:List Value}(h:zv w a c xs)(hb:Below w.heap.size w w'):zv w' a c xs:=by
 by_cases hl:0<xs.length
 ·obtain⟨b,off,rfl,A0,hc⟩:=h.at hl;refine .inr ⟨_,rfl,λi u hu=>?_⟩;rw[qk];exact(hb.cell (by exact A0)).trans (hc i u hu)
 ·have:xs=[]:=List.eq_nil_of_length_eq_zero (by omega);subst this;rcases h with h|⟨x,rfl,_⟩
  ·exact .inl h
  ·exact .inr ⟨x,rfl,λi u hu=>by simp at hu⟩
theorem zv.nil(w:World):zv w none 0 []:=.inl ⟨rfl,rfl,rfl⟩
theorem zv.empty{w:World}{a:Option Addr}{c:Nat}(h:a=none->c=0):zv w a c []:=by
 cases a with
 | none=>exact .inl ⟨rfl,h rfl,rfl⟩
 | some x=>exact .inr ⟨x,rfl,λi u hu=>by simp at hu⟩
theorem zv.alloc{w:World}{a:Option Addr}{c:Nat}{xs:List Value}(h:zv w a c xs)(o:Obj):zv (w.alloc o) a c xs :=
 h.below ((Below.refl _ _).alloc (Nat.le_refl _) o)
theorem zv.made(w:World)(xs:List Value)(e:TypeId)(c:Nat):zv (w.alloc (.cells xs.toArray e)) (some ⟨w.heap.size,0,none⟩) c xs:=by
 refine .inr ⟨_,rfl,λi u hu=>?_⟩;rw[qk];rw[cell_of_row _ _ _ xs.toArray e (0,0) (heap_alloc_new w _)];simpa using hu
theorem zv.madeAt{w:World}{xs:List Value}{e:TypeId}{c b:Nat}(hb:b=w.heap.size):zv (w.alloc (.cells xs.toArray e)) (some ⟨b,0,none⟩) c xs:=by
 subst hb;exact zv.made w xs e c
theorem zk{w:World}{base:Nat}{e:TypeId}{size:Nat}{v:Value}{n:Nat}{xs:List Value}(h:w.ownsRow base e size v n xs) :
 ∃a c,v=.slice a n c/\zv w a c xs/\n<=c/\(∀x,a=some x->base<=x.block/\x.block<w.heap.size):=by
 rcases h.2 with⟨rfl,rfl⟩|⟨g,cap,cur,rfl,hb,hg,hn,hm,hs,ht⟩
 ·have:xs=[]:=List.eq_nil_of_length_eq_zero (by simpa using h.1);subst this;exact⟨none,0,rfl,zv.nil w,Nat.le_refl _,λx hx=>by cases hx⟩
 ·refine⟨_,cap,rfl,.inr ⟨_,rfl,h.cells rfl⟩,hn,?_⟩;intro x hx;cases hx
  exact⟨hb,(Array.getElem?_eq_some_iff.1 hg).1⟩
theorem Zb{P:Program}{w:World}{ops:Array Oper}{rest:List Oper}{o:Oper}{a:Act}{Q:Exit->Act->World->Prop}(A5:o.guard=none)(s x:Operand)(t:TypeId)
 (ho:o.op=.call { callee:=.builtin .append,args:=#[s,x],argTypes:=#[t,t] })
 (base:Nat) (e:TypeId) (z:Value) (size bytes:Nat) (ht:P.underlying t=some (.slice e)) (A3:(P.info? e).map (λi=>(i.zero,i.size,i.bytes))=some (some z,size,bytes))
 (A7:z.cells.size=size) (A8:0<size)
 (v:Value) (n:Nat) (xs:List Value) (hs:a.eval s=v) (A0:w.ownsRow base e size v n xs)
 (ax:Option Addr) (m c:Nat) (news:List Value) (hx:a.eval x=.slice ax m c) (hl:news.length=m*size) (hr:zv w ax c news) (h1:∀u∈news,u.oneCell'=true)
 (A9:n+m<=maxLen) (A1:(n+m)*bytes<=140737488355328) (A2:base<=w.heap.size)
 (h:∀v' w',w'.ownsRow base e size v' (n+m) (xs++news)->w.grownBy w' v.ownBlock->wpList P ops Q rest (a.put o.dst v') w'):wpList P ops Q (o::rest) a w:=by
 obtain⟨i,hi,hz,h2,h3⟩:=info_parts A3;rcases hr with⟨A4,B0,A6⟩|⟨ad,A4,hr⟩
 ·have hm:m=0:=by
   rw[A6] at hl;have h0:m*size=0:=hl.symm;rcases Nat.mul_eq_zero.1 h0 with h|h
   ·exact h
   ·omega
  subst hm;subst A6;subst A4;subst B0;refine wpList_append_own_none A5 s x t ho base e i size ht hi v n xs hs A0 hx ?_;have:=h v w (by simpa using A0) (World.grownBy.refl w _);exact this
 ·subst A4;exact wpList_append_own w A5 s x t ho base e i z size bytes ht hi hz h2 h3 A7 A8 v n xs hs A0 ad m c news hx hl hr h1 A9 A1 A2 (λv' w' a b _=>h v' w' a b)
theorem jw(k:IntKind)(l:List Int):∀u∈l.map (Value.int k),u.oneCell'=true:=ints_oneCell k l
theorem zy{w w1 w2:World}(h:Below w.heap.size w w1)(k:Below w1.heap.size w1 w2):Below w.heap.size w w2:=h.trans (k.mono h.size)
theorem zn{w w1:World}(h:Below w.heap.size w w1){o:Obj}:Below w.heap.size w (w1.alloc o):=h.alloc h.size o
theorem Zd{w w1:World}(h:Below w.heap.size w w1):Below w.heap.size w w1.drew:=h.drew
def str(l:List Int):ByteArray:=⟨(l.map (λn=>UInt8.ofNat n.toNat)).toArray⟩
theorem zwu(l:List Int):∀(s:ByteArray),(l.foldl (λr n=>r.push (UInt8.ofNat n.toNat)) s)=⟨s.data++(l.map (λn=>UInt8.ofNat n.toNat)).toArray⟩:=by
 induction l with
 | nil=>intro s;simp
 | cons n l ih =>
  intro s;simp only[List.foldl_cons];rw[ih];simp[ByteArray.push]
theorem zhg{P:Program}(w:World):(Conv.bytesToString (.slice none 0 0)).run P w=.ok (.string ByteArray.empty) w:=by
 unfold Conv.bytesToString;simp[Sem.run_pure]
theorem zsd{P:Program}(w:World)(src dst e:TypeId)(a:Option Addr)(n c:Nat)(l:List Int)
 (hs:P.underlying src=some (.slice e)) (he:P.underlying e=some (.int .u8)) (hd:P.underlying dst=some .string)
 (hn:n=l.length) (h:zv w a c (l.map (Value.int .u8))) :
 (convert src dst (.slice a n c)).run P w=.ok (.string (str l)) w:=by
 subst hn;rw[run_convert_bytes_string w src dst e a _ c hs he hd];rcases h with⟨rfl,rfl,hl⟩|⟨x,rfl,h⟩
 ·have:l=[]:=by simpa using hl
  subst this;rw[show([]:List Int).length=0 from rfl,zhg];rfl
 ·have A0:=run_loadCells_list (P:=P) w x (l.map (Value.int .u8)) h;rw[List.length_map] at A0;rw[run_bytesToString w x l.length c l A0,zwu];simp[str]
def Byt(l:List Int):Prop:=∀x∈l,0<=x/\x<=255
theorem Byt.nil:Byt []:=λx h=>by simp at h
theorem Byt.append{a b:List Int}(h:Byt a)(k:Byt b):Byt (a++b):=λx hx=>by
 rcases List.mem_append.1 hx with hx|hx
 ·exact h x hx
 ·exact k x hx
theorem Byt.take{a:List Int}(h:Byt a)(n:Nat):Byt (a.take n):=λx hx=>h x (List.mem_of_mem_take hx)
theorem Byt.drop{a:List Int}(h:Byt a)(n:Nat):Byt (a.drop n):=λx hx=>h x (List.mem_of_mem_drop hx)
theorem zho(l:List Int):(str l).toList=l.map (λn=>UInt8.ofNat n.toNat):=by
 unfold str;exact ByteArray.toList_mk _
theorem zyo{x y:Int}(hx:0<=x/\x<=255)(hy:0<=y/\y<=255)(h:UInt8.ofNat x.toNat=UInt8.ofNat y.toNat):x=y:=by
 have h2:=congrArg UInt8.toNat h;simp only[UInt8.toNat_ofNat'] at h2;omega
theorem zet:∀ {a b:List Int},Byt a->Byt b->(a.map (λn=>UInt8.ofNat n.toNat)=b.map (λn=>UInt8.ofNat n.toNat)↔a=b)
 | [],[],_,_=>by simp
 | [],y::b,_,_=>by simp
 | x::a,[],_,_=>by simp
 | x::a,y::b,ha,hb=>by
  simp only[List.map_cons,List.cons.injEq];have h1:UInt8.ofNat x.toNat=UInt8.ofNat y.toNat↔x=y:=⟨zyo (ha x (by simp)) (hb y (by simp)),λh=>by rw[h]⟩;rw[h1,zet (λz hz=>ha z (by simp[hz])) (λz hz=>hb z (by simp[hz]))]
theorem z3n{a b:List Int}(ha:Byt a)(hb:Byt b):((str a).toList == (str b).toList)=decide (a=b):=by
 rw[zho,zho,Bool.eq_iff_iff];simp only[beq_iff_eq,decide_eq_true_eq];exact zet ha hb
theorem zjb(n:Int):bits .and .i64 n 1=n % 2:=by
 have h1:(BitVec.ofInt 64 1).toNat=2 ^ 1-1:=by decide
 have key:(BitVec.ofInt 64 n &&& BitVec.ofInt 64 1).toNat=(n % ((2 ^ 64:Nat):Int)).toNat % 2 ^ 1:=by
  rw[BitVec.toNat_and,BitVec.toNat_ofInt,h1,Nat.and_two_pow_sub_one_eq_mod]
 show IntKind.i64.wrap ((BitVec.ofInt 64 n &&& BitVec.ofInt 64 1).toNat:Nat)=n % 2
 rw[key,IntKind.wrap_i64];omega
theorem zk3(n:Int):bits .and .i64 n 65535=n % 65536:=by
 have h1:(BitVec.ofInt 64 65535).toNat=2 ^ 16-1:=by decide
 have key:(BitVec.ofInt 64 n &&& BitVec.ofInt 64 65535).toNat=(n % ((2 ^ 64:Nat):Int)).toNat % 2 ^ 16:=by
  rw[BitVec.toNat_and,BitVec.toNat_ofInt,h1,Nat.and_two_pow_sub_one_eq_mod]
 show IntKind.i64.wrap ((BitVec.ofInt 64 n &&& BitVec.ofInt 64 65535).toNat:Nat)=n % 65536
 rw[key,IntKind.wrap_i64];omega
theorem zbs(x c j:Nat)(hc:c<2 ^ j):(x*2 ^ j) ||| c=x*2 ^ j+c:=by
 have:=Nat.two_pow_add_eq_or_of_lt hc x;rw[Nat.mul_comm x];exact this.symm
theorem z0z(x:Int)(h0:0<=x)(h1:x<65536)(h2:x % 2=0):bits .or .i64 x 1=x+1:=by
 have ha:(BitVec.ofInt 64 x).toNat=x.toNat:=by rw[BitVec.toNat_ofInt];omega
 have hb:(BitVec.ofInt 64 1).toNat=1:=by decide
 have key:(BitVec.ofInt 64 x ||| BitVec.ofInt 64 1).toNat=x.toNat+1:=by
  rw[BitVec.toNat_or,ha,hb];have:=zbs (x.toNat / 2) 1 1 (by decide);have e:x.toNat / 2*2 ^ 1=x.toNat:=by omega
  rwa[e] at this
 show IntKind.i64.wrap ((BitVec.ofInt 64 x ||| BitVec.ofInt 64 1).toNat:Nat)=x+1
 rw[key,IntKind.wrap_i64];omega
theorem zm8(x c:Int)(h0:0<=c)(h1:c<256):bits .or .i32 (wrap32 (x*256)) c=wrap32 (x*256+c):=by
 have ha:(BitVec.ofInt 32 (wrap32 (x*256))).toNat=(x % 16777216).toNat*2 ^ 8:=by
  rw[BitVec.toNat_ofInt];unfold wrap32;omega
 have hb:(BitVec.ofInt 32 c).toNat=c.toNat:=by rw[BitVec.toNat_ofInt];omega
 have key:(BitVec.ofInt 32 (wrap32 (x*256)) ||| BitVec.ofInt 32 c).toNat=(x % 16777216).toNat*2 ^ 8+c.toNat:=by
  rw[BitVec.toNat_or,ha,hb];exact zbs _ _ _ (by omega)
 show IntKind.i32.wrap ((BitVec.ofInt 32 (wrap32 (x*256)) ||| BitVec.ofInt 32 c).toNat:Nat)=wrap32 (x*256+c)
 rw[key,IntKind.wrap_i32];unfold wrap32;omega
section
variable{P:Program}{ops:Array Oper}{Q:Exit->Act->World->Prop}{md:Region.Mode}
def zmu(md:Region.Mode)(ops:Array Oper):List (Nat×Bool)->Array Bool->Bool
 | [],listed=>(Region.ready md ops listed).isEmpty
 | (i,true)::r,listed=>(Region.ready md ops listed).contains i && Region.free md ops listed i && zmu md ops r (listed.setIfInBounds i true)
 | (i,false)::r,listed=>(Region.ready md ops listed == [i]) && zmu md ops r (listed.setIfInBounds i true)
def zh2(P:Program)(o:Oper)(a:Act)(next:Act->Prop):Prop :=
 ∃v,(∀w:World,(execOp a.eval o).run P w=.ok (.value v) w)/\next (a.put o.dst v)
theorem zd9(A0:∀c a d v w,Q (.panic c) (Act.put a (some d) v) w->Q (.panic c) a w)(c:List PanicEntry)(a:Act)(d:Option Tmp)(v:Value)(w:World)(h:Q (.panic c) (Act.put a d v) w):Q (.panic c) a w:=by
 cases d with
 | none=>exact h
 | some d=>exact A0 c a d v w h
end
attribute [go_sem] zh2
theorem zu{w w':World}{a:Addr}{v:Value}(h:Below w.heap.size w w')(hc:w.cell? a=some v):w'.cell? a=some v :=
 (h.cell (World.block_lt_of_cell? w a hc)).trans hc
section
variable{P:Program}{ops:Array Oper}{Q:Exit->Act->World->Prop}{md:Region.Mode}{S:World->Prop}
def jz(P:Program)(ops:Array Oper)(Q:Exit->Act->World->Prop)(S:World->Prop):List (Nat×Bool)->Act->World->Prop
 | [],a,w=>Q .normal a w
 | (i,true)::r,a,w=>∃o,ops[i]?=some o/\if Region.wanted o (yielded ops a.tmps) then ∃v,(∀w:World,S w->(execOp a.eval o).run P w=.ok (.value v) w)/\jz P ops Q S r (a.put o.dst v) w else jz P ops Q S r (a.put o.dst undef) w
 | (i,false)::r,a,w=>∃o,ops[i]?=some o/\wpList P ops (Exit.then (λa' w'=>S w'/\jz P ops Q S r a' w') Q) [o] a w
theorem zo{a:Act}{w:World}(h:Q .normal a w):jz P ops Q S [] a w:=h
theorem zi{i:Nat}{r:List (Nat×Bool)}{o:Oper}{a:Act}{w:World}(hi:ops[i]?=some o)
 (h:∀K:Act->Prop,(∀a',jz P ops Q S r a' w->K a')->if Region.wanted o (yielded ops a.tmps) then zh2 P o a K else K (a.put o.dst undef)) :
 jz P ops Q S ((i,true)::r) a w:=by
 refine⟨o,hi,?_⟩;have:=h _ (λ_ h=>h);split
 ·rename_i hw
  rw[if_pos hw] at this;obtain⟨v,hv,hn⟩:=this;exact⟨v,λw' _=>hv w',hn⟩
 ·rename_i hw
  rw[if_neg hw] at this;exact this
theorem za4{i:Nat}{r:List (Nat×Bool)}{o:Oper}{a:Act}{w:World}(v:Value)(hi:ops[i]?=some o)(hw:Region.wanted o (yielded ops a.tmps)=true)
 (hv:∀w:World,S w->(execOp a.eval o).run P w=.ok (.value v) w) (h:∀K:Act->Prop,(∀a',jz P ops Q S r a' w->K a')->K (a.put o.dst v)) :
 jz P ops Q S ((i,true)::r) a w:=by
 refine⟨o,hi,?_⟩;rw[if_pos hw];exact⟨v,hv,h _ (λ_ h=>h)⟩
theorem zj{i:Nat}{r:List (Nat×Bool)}{o:Oper}{a:Act}{w:World}(hi:ops[i]?=some o)
 (h:wpList P ops (Exit.then (λa' w'=>S w'/\jz P ops Q S r a' w') Q) [o] a w):jz P ops Q S ((i,false)::r) a w:=⟨o,hi,h⟩
theorem kg(hs:Region.noSelect ops=true)(A0:∀c a d v w,Q (.panic c) (Act.put a (some d) v) w->Q (.panic c) a w) :
 ∀(pl:List (Nat×Bool)) (listed:Array Bool) (a:Act) (w:World),zmu md ops pl listed=true->S w->jz P ops Q S pl a w->wpAnyH P md ops Q S pl.length listed a w
 | [],listed,a,w,hB,_,h=>by
  simp only[zmu,List.isEmpty_iff] at hB;exact⟨hB,h⟩
 | (i,true)::r,listed,a,w,hB,hS,h=>by
  simp only[zmu,Bool.and_eq_true] at hB;obtain⟨⟨hr,hf⟩,hB⟩:=hB;obtain⟨o,ho,h⟩:=h;by_cases hw:Region.wanted o (yielded ops a.tmps)=true
  ·rw[if_pos hw] at h;obtain⟨v,hv,h⟩:=h;exact wpAnyH_take (v:=v) ho hs hf hr (λc a w hq=>zd9 A0 c a _ _ w hq) (.inl ⟨hw,hv⟩) hS (kg hs A0 r _ _ _ hB hS h)
  ·rw[if_neg hw] at h;exact wpAnyH_take (v:=undef) ho hs hf hr (λc a w hq=>zd9 A0 c a _ _ w hq) (.inr ⟨by simpa using hw,rfl⟩) hS (kg hs A0 r _ _ _ hB hS h)
 | (i,false)::r,listed,a,w,hB,hS,h=>by
  simp only[zmu,Bool.and_eq_true,beq_iff_eq] at hB;obtain⟨hr,hB⟩:=hB;obtain⟨o,ho,h⟩:=h;refine wpAnyH_all hr (by simp) (λj hj=>?_);simp only[List.mem_singleton] at hj;subst hj
  have A1:wpOp P ops Q j (λa' w'=>S w'/\jz P ops Q S r a' w') a w:=by
   unfold wpOp;simp only[ho];unfold wpList at h;split
   ·rename_i hw
    rw[if_pos hw] at h;rcases h with h|⟨h1,h2⟩
    ·refine .inl ?_;unfold Oper.wp at h ⊢;generalize(execOp a.eval o).run P w=res at h;cases res with
     | ok n w' =>
      cases n<;>simp only[Oper.upon] at h ⊢
      case enter f args=>exact Calls.mono h (λe w'' he=>by cases e<;>exact he)
      all_goals exact h
     | halt x w'=>cases x<;>simp only[Oper.upon] at h ⊢<;>exact h
    ·exact .inr ⟨h1,h2⟩
   ·rename_i hw
    rw[if_neg hw] at h;exact h
  exact wpOp_mono (λa' w' h'=>⟨h'.1,kg hs A0 r _ a' w' hB h'.1 h'.2⟩) A1
theorem zm{id:Nat}{a:Act}{w:World}{l:List Oper}(S:World->Prop)(pl:List (Nat×Bool))(hm:P.follows .mixedOrders=true)
 (hB:(Region.noSelect l.toArray && (pl.length == l.length) && zmu .any l.toArray pl (Array.replicate l.length false))=true)
 (hQ:∀c a d v w,Q (.panic c) (Act.put a (some d) v) w->Q (.panic c) a w) (hS:S w.drew)
 (h:jz P l.toArray Q S pl a w.drew):(Code.region id l.toArray true).wp P Q a w:=by
 simp only[Bool.and_eq_true,beq_iff_eq] at hB;obtain⟨⟨hs,hl⟩,hB⟩:=hB;refine wp_region_held (S:=S) hm ?_;have:=kg (md:=.any) hs hQ pl (Array.replicate l.length false) a w.drew hB hS h;simpa[hl] using this
end
theorem zl {P:Program}{ops:Array Oper}{Q:Exit->Act->World->Prop}{S:World->Prop}{i:Nat}{r:List (Nat×Bool)}{o:Oper}{a:Act}{w:World}(v:Value)(hi:ops[i]? =some o)(hw:Region.wanted o (yielded ops a.tmps)=true)(hv:∀w:World,S w->(execOp a.eval o).run P w=.ok (.value v) w)(h:jz P ops Q S r (a.put o.dst v) w):jz P ops Q S ((i,true)::r) a w:=za4 v hi hw hv (λ_ k=>k _ h)
inductive PT where
 | fin|free (i:Nat) (r:PT)|sole (i:Nat) (r:PT)|two (i j:Nat) (p q:PT)
section
variable{P:Program}{ops:Array Oper}{Q:Exit->Act->World->Prop}{md:Region.Mode}
def zde(md:Region.Mode)(ops:Array Oper):PT->Nat->Array Bool->Bool
 | .fin,0,listed=>(Region.ready md ops listed).isEmpty
 | .free i r,n+1,listed=>(Region.ready md ops listed).contains i && Region.free md ops listed i && zde md ops r n (listed.setIfInBounds i true)
 | .sole i r,n+1,listed=>(Region.ready md ops listed == [i]) && zde md ops r n (listed.setIfInBounds i true)
 | .two i j p q,n+1,listed=>(Region.ready md ops listed == [i,j]) && zde md ops p n (listed.setIfInBounds i true) && zde md ops q n (listed.setIfInBounds j true)
 | _,_,_=>false
def xy(P:Program)(ops:Array Oper)(Q:Exit->Act->World->Prop):PT->Act->World->Prop
 | .fin,a,w=>Q .normal a w
 | .free i r,a,w=>∃o,ops[i]?=some o/\if Region.wanted o (yielded ops a.tmps) then zh2 P o a (λa'=>xy P ops Q r a' w) else xy P ops Q r (a.put o.dst undef) w
 | .sole i r,a,w=>∃o,ops[i]?=some o/\wpList P ops (Exit.then (xy P ops Q r) Q) [o] a w
 | .two i j p q,a,w=>(∃o,ops[i]?=some o/\wpList P ops (Exit.then (xy P ops Q p) Q) [o] a w)/\∃o,ops[j]?=some o/\wpList P ops (Exit.then (xy P ops Q q) Q) [o] a w
theorem ce{a:Act}{w:World}(h:Q .normal a w):xy P ops Q .fin a w:=h
theorem Z7{i:Nat}{r:PT}{o:Oper}{a:Act}{w:World}(hi:ops[i]?=some o)
 (h:∀K:Act->Prop,(∀a',xy P ops Q r a' w->K a')->if Region.wanted o (yielded ops a.tmps) then zh2 P o a K else K (a.put o.dst undef)) :
 xy P ops Q (.free i r) a w:=⟨o,hi,h _ (λ_ h=>h)⟩
theorem Zi{i:Nat}{r:PT}{o:Oper}{a:Act}{w:World}(hi:ops[i]?=some o)(h:wpList P ops (Exit.then (xy P ops Q r) Q) [o] a w):xy P ops Q (.sole i r) a w:=⟨o,hi,h⟩
theorem zd1{i j:Nat}{p q:PT}{o o':Oper}{a:Act}{w:World}(hi:ops[i]?=some o)(hj:ops[j]?=some o')
 (h:wpList P ops (Exit.then (xy P ops Q p) Q) [o] a w) (h':wpList P ops (Exit.then (xy P ops Q q) Q) [o'] a w):xy P ops Q (.two i j p q) a w:=⟨⟨o,hi,h⟩,o',hj,h'⟩
theorem jb{next:Act->World->Prop}{i:Nat}{o:Oper}{a:Act}{w:World}(ho:ops[i]?=some o)(h:wpList P ops (Exit.then next Q) [o] a w):wpOp P ops Q i next a w:=by
 unfold wpOp;simp only[ho];unfold wpList at h;split
 ·rename_i hw
  rw[if_pos hw] at h;rcases h with h|⟨h1,h2⟩
  ·refine .inl ?_;unfold Oper.wp at h ⊢;generalize(execOp a.eval o).run P w=res at h;cases res with
   | ok n w' =>
    cases n<;>simp only[Oper.upon] at h ⊢
    case enter f args=>exact Calls.mono h (λe w'' he=>by cases e<;>exact he)
    all_goals exact h
   | halt x w'=>cases x<;>simp only[Oper.upon] at h ⊢<;>exact h
  ·exact .inr ⟨h1,h2⟩
 ·rename_i hw
  rw[if_neg hw] at h;exact h
theorem jj(hs:Region.noSelect ops=true)(A0:∀c a d v w,Q (.panic c) (Act.put a (some d) v) w->Q (.panic c) a w) :
 ∀(pl:PT) (n:Nat) (listed:Array Bool) (a:Act) (w:World),zde md ops pl n listed=true->xy P ops Q pl a w->wpAny P md ops Q n listed a w
 | .fin,0,listed,a,w,hB,h=>by
  simp only[zde,List.isEmpty_iff] at hB;exact⟨hB,h⟩
 | .fin,n+1,listed,a,w,hB,h=>by simp[zde] at hB
 | .free i r,0,listed,a,w,hB,h=>by simp[zde] at hB
 | .sole i r,0,listed,a,w,hB,h=>by simp[zde] at hB
 | .two i j p q,0,listed,a,w,hB,h=>by simp[zde] at hB
 | .free i r,n+1,listed,a,w,hB,h=>by
  simp only[zde,Bool.and_eq_true] at hB;obtain⟨⟨hr,hf⟩,hB⟩:=hB;obtain⟨o,ho,h⟩:=h;by_cases hw:Region.wanted o (yielded ops a.tmps)=true
  ·rw[if_pos hw] at h;obtain⟨v,hv,h⟩:=h;exact wpAny_take (v:=v) ho hs hf hr (λc a w hq=>zd9 A0 c a _ _ w hq) (.inl ⟨hw,hv⟩) (jj hs A0 r n _ _ _ hB h)
  ·rw[if_neg hw] at h;exact wpAny_take (v:=undef) ho hs hf hr (λc a w hq=>zd9 A0 c a _ _ w hq) (.inr ⟨by simpa using hw,rfl⟩) (jj hs A0 r n _ _ _ hB h)
 | .sole i r,n+1,listed,a,w,hB,h=>by
  simp only[zde,Bool.and_eq_true,beq_iff_eq] at hB;obtain⟨hr,hB⟩:=hB;obtain⟨o,ho,h⟩:=h;refine wpAny_all hr (by simp) (λk hk=>?_);simp only[List.mem_singleton] at hk;subst hk;exact wpOp_mono (λa' w' h'=>jj hs A0 r n _ a' w' hB h') (jb ho h)
 | .two i j p q,n+1,listed,a,w,hB,h=>by
  simp only[zde,Bool.and_eq_true,beq_iff_eq] at hB;obtain⟨⟨hr,hB⟩,A1⟩:=hB;obtain⟨⟨o,ho,h⟩,o',A2,h'⟩:=h;refine wpAny_all hr (by simp) (λk hk=>?_);simp only[List.mem_cons,List.not_mem_nil,or_false] at hk;rcases hk with rfl|rfl
  ·exact wpOp_mono (λa' w' h'=>jj hs A0 p n _ a' w' hB h') (jb ho h)
  ·exact wpOp_mono (λa' w' h'=>jj hs A0 q n _ a' w' A1 h') (jb A2 h')
theorem zb9{id:Nat}{a:Act}{w:World}{l:List Oper}(pl:PT)(hm:P.follows .mixedOrders=true)
 (hB:(Region.noSelect l.toArray && zde .any l.toArray pl l.length (Array.replicate l.length false))=true)
 (hQ:∀c a d v w,Q (.panic c) (Act.put a (some d) v) w->Q (.panic c) a w)
 (h:xy P l.toArray Q pl a w.drew):(Code.region id l.toArray true).wp P Q a w:=by
 simp only[Bool.and_eq_true] at hB;obtain⟨hs,hB⟩:=hB;refine wp_region_any hm ?_;have:=jj (md:=.any) hs hQ pl l.length (Array.replicate l.length false) a w.drew hB h;simpa using this
end
section
variable{P:Program}{ops:Array Oper}{Q:Exit->Act->World->Prop}{md:Region.Mode}{S:World->Prop}{D:List Nat}
def zc2(P:Program)(md:Region.Mode)(ops:Array Oper)(Q:Exit->Act->World->Prop)(S:World->Prop)(D:List Nat):Nat->Array Bool->Act->World->Prop
 | 0,listed,a,w=>Region.ready md ops listed=[]/\Q .normal a w
 | n+1,listed,a,w=>(Region.ready md ops listed=[]->Q .normal a w)/\
  ∀i∈Region.ready md ops listed,wpOp P ops Q i (λa' w'=>(i∈D->S w')/\zc2 P md ops Q S D n (listed.setIfInBounds i true) a' w') a w
theorem zhl:∀(n:Nat) (listed:Array Bool) (a:Act) (w:World),zc2 P md ops Q S D n listed a w->wpAny P md ops Q n listed a w
 | 0,_,_,_,h=>h
 | n+1,_,_,_,h=>⟨h.1,λi hi=>wpOp_mono (λa' w' h'=>zhl n _ a' w' h'.2) (h.2 i hi)⟩
def z3t(o:Oper):Bool:=match o.op with
 | Op.move _=>true
 | _=>false
def zgh(ops:Array Oper)(j:Nat):Bool:=((ops[j]?).map z3t).getD false
theorem zrt{j:Nat}{K:Act->World->Prop}{a:Act}{w:World}(h:wpOp P ops Q j K a w):wpOp P ops Q j (λa' w'=>K a' w'/\(zgh ops j=true->w'=w)) a w:=by
 by_cases hm:zgh ops j=true
 ·refine wpOp_mono (K:=λa' w'=>K a' w'/\w'=w) (λ_ _ hk=>⟨hk.1,λ_=>hk.2⟩) ?_;cases hj:ops[j]? with
  | none=>unfold zgh at hm;rw[hj] at hm;simp at hm
  | some o =>
   unfold zgh at hm;rw[hj] at hm;simp only[Option.map_some,Option.getD_some] at hm
   have⟨x,hx⟩:∃x,o.op=.move x:=by
    unfold z3t at hm;cases ho:o.op<;>rw[ho] at hm<;>simp at hm
    exact⟨_,rfl⟩
   unfold wpOp at h ⊢;simp only[hj] at h ⊢;split
   ·rename_i hw
    rw[if_pos hw] at h;rcases h with h|⟨h1,h2⟩
    ·refine .inl ?_;unfold Oper.wp at h ⊢;simp[execOp,hx,Oper.upon] at h ⊢;exact h
    ·exact .inr ⟨h1,h2⟩
   ·rename_i hw
    rw[if_neg hw] at h;exact⟨h,trivial⟩
 ·exact wpOp_mono (λ_ _ hk=>⟨hk,λA0=>absurd A0 hm⟩) h
def zez(md:Region.Mode)(ops:Array Oper)(listed:Array Bool):Prop :=
 ∀k ok,ops[k]?=some ok->listed.getD k false=true->∀e∈ok.after,Region.binds md e=true->listed.getD e.on false=true
theorem zez.set{listed:Array Bool}(h:zez md ops listed){j:Nat}(hj:j∈Region.ready md ops listed):zez md ops (listed.setIfInBounds j true):=by
 intro k ok hk hl e he hb;obtain⟨hu,o,ho,A0⟩:=mem_ready.1 hj;by_cases A1:j=k
 ·subst A1;rw[ho] at hk;cases hk
  exact getD_set_true (A0 e he hb)
 ·rw[getD_set_ne false A1] at hl;exact getD_set_true (h k ok hk hl e he hb)
def zcj(md:Region.Mode)(ops:Array Oper)(i:Nat):Nat->Nat->Bool
 | 0,_=>false
 | n+1,j=>((ops[j]?).map λo=>o.after.any λe=>Region.binds md e && (e.on == i || zcj md ops i n e.on)).getD false
theorem zcb{listed:Array Bool}(hc:zez md ops listed){i:Nat}:∀(n:Nat) {j:Nat} {o:Oper},ops[j]?=some o->zcj md ops i n j=true->(∀e∈o.after,Region.binds md e=true->listed.getD e.on false=true)->listed.getD i false=true
 | 0,j,o,hj,h,_=>by simp[zcj] at h
 | n+1,j,o,hj,h,hall=>by
  unfold zcj at h;rw[hj] at h;simp only[Option.map_some,Option.getD_some] at h;rw[Array.any_eq_true'] at h;obtain⟨e,he,h2⟩:=h;simp only[Bool.and_eq_true,Bool.or_eq_true,beq_iff_eq] at h2;have hl:=hall e he h2.1;rcases h2.2 with h3|h3
  ·rwa[h3] at hl
  ·cases ho:ops[e.on]? with
   | none =>
    cases n with
    | zero=>simp[zcj] at h3
    | succ n=>unfold zcj at h3;rw[ho] at h3;simp at h3
   | some o2=>exact zcb hc n ho h3 (hc e.on o2 ho hl)
theorem zeq{C:World->Prop}{i:Nat}{oi:Oper}{v:Value}(hi:ops[i]?=some oi)(A2:∀(j:Nat) (o:Oper) cs b,ops[j]?=some o->o.op≠.select cs b)
 (hQ:∀c a w,Q (.panic c) (a.put oi.dst v) w->Q (.panic c) a w)
 (hC:∀listed j,zez md ops listed->i∈Region.ready md ops listed->j∈Region.ready md ops listed->j≠i->∀w w',C w->(j∈D->S w')->(zgh ops j=true->w'=w)->C w') (A5:∀w,C w->i∈D->S w) (n:Nat) :
 ∀(listed:Array Bool) (a:Act) (w:World),zez md ops listed->
  (∀j oj,ops[j]?=some oj->j≠i->listed.getD j true=false->(∀e∈oj.after,Region.binds md e=true->e.on≠i)->oi.apart ops oj=true)->
  i∈Region.ready md ops listed->YieldsIf P ops C oi v a->C w->zc2 P md ops Q S D n (listed.setIfInBounds i true) (a.put oi.dst v) w->zc2 P md ops Q S D (n+1) listed a w:=by
 induction n with
 | zero =>
  intro listed a w _ _ hr hy hc H;refine⟨λh=>(by rw[h] at hr;cases hr),λj hj=>?_⟩;by_cases A0:j=i
  ·subst A0;exact hy.wpOp hi hc ⟨A5 w hc,H⟩
  ·have hb:=ready_mono hj A0;rw[H.1] at hb;cases hb
 | succ n ih =>
  intro listed a w A6 A1 hr hy hc H;refine⟨λh=>(by rw[h] at hr;cases hr),λj hj=>?_⟩;by_cases A0:j=i
  ·subst A0;exact hy.wpOp hi hc ⟨A5 w hc,H⟩
  ·obtain⟨A7,oj,A3,A4⟩:=mem_ready.1 hj
   have A9:∀e∈oj.after,Region.binds md e=true->e.on≠i:=by
    intro e he hb B0;have h1:=A4 e he hb;have h0:=(mem_ready.1 hr).1;rw[B0] at h1;by_cases hs:i<listed.size
    ·simp[hs] at h0 h1;rw[h0] at h1;cases h1
    ·simp[Array.getElem?_eq_none (Nat.le_of_not_lt hs)] at h1
   have B1:=wpOp_putIf A3 (A1 j oj A3 A0 A7 A9) (λcs b=>A2 i oi cs b hi) (λcs b=>A2 j oj cs b A3) hQ hy (zrt (H.2 j (ready_mono hj A0)));refine wpOp_mono (λa' w' h3=>⟨h3.2.1.1,?_⟩) B1;refine ih (listed.setIfInBounds j true) a' w' (A6.set hj) (λk ok hk B2 B3 hn=>A1 k ok hk B2 ?_ hn) (ready_mono hr (Ne.symm A0)) h3.1 (hC listed j A6 hr hj A0 w w' hc h3.2.1.1 h3.2.2) ?_
   ·by_cases A8:j=k
    ·subst A8;exact A7
    ·rwa[getD_set_ne true A8] at B3
   ·rw[Array.setIfInBounds_comm _ _ A0];exact h3.2.1.2
inductive PU where
 | fin|load (i:Nat) (r:PU)|free (i:Nat) (r:PU)|sole (i:Nat) (r:PU)|two (i j:Nat) (p q:PU)|late (i:Nat) (r:PU)
def zzx(md:Region.Mode)(ops:Array Oper)(D:List Nat)(i:Nat):Bool :=
 (List.range ops.size).all λj=>D.contains j || zgh ops j || zcj md ops i ops.size j
def ck(md:Region.Mode)(ops:Array Oper)(D:List Nat):PU->Nat->Array Bool->Bool
 | .fin,0,listed=>(Region.ready md ops listed).isEmpty
 | .load i r,n+1,listed=>(Region.ready md ops listed).contains i && Region.free md ops listed i && D.contains i && zzx md ops D i && ck md ops D r n (listed.setIfInBounds i true)
 | .free i r,n+1,listed=>(Region.ready md ops listed).contains i && Region.free md ops listed i && !D.contains i && ck md ops D r n (listed.setIfInBounds i true)
 | .sole i r,n+1,listed=>(Region.ready md ops listed == [i]) && ck md ops D r n (listed.setIfInBounds i true)
 | .two i j p q,n+1,listed=>(Region.ready md ops listed == [i,j]) && ck md ops D p n (listed.setIfInBounds i true) && ck md ops D q n (listed.setIfInBounds j true)
 | .late i r,n+1,listed=>(Region.ready md ops listed == [i]) && !D.contains i && ck md ops D r n (listed.setIfInBounds i true)
 | _,_,_=>false
def wpU(P:Program)(ops:Array Oper)(Q:Exit->Act->World->Prop)(S:World->Prop):PU->Act->World->Prop
 | .fin,a,w=>Q .normal a w
 | .load i r,a,w=>∃o,ops[i]?=some o/\S w/\if Region.wanted o (yielded ops a.tmps) then ∃v,(∀w:World,S w->(execOp a.eval o).run P w=.ok (.value v) w)/\wpU P ops Q S r (a.put o.dst v) w else wpU P ops Q S r (a.put o.dst undef) w
 | .free i r,a,w=>∃o,ops[i]?=some o/\if Region.wanted o (yielded ops a.tmps) then zh2 P o a (λa'=>wpU P ops Q S r a' w) else wpU P ops Q S r (a.put o.dst undef) w
 | .sole i r,a,w=>∃o,ops[i]?=some o/\wpList P ops (Exit.then (λa' w'=>S w'/\wpU P ops Q S r a' w') Q) [o] a w
 | .two i j p q,a,w=>(∃o,ops[i]?=some o/\wpList P ops (Exit.then (λa' w'=>S w'/\wpU P ops Q S p a' w') Q) [o] a w)/\∃o,ops[j]?=some o/\wpList P ops (Exit.then (λa' w'=>S w'/\wpU P ops Q S q a' w') Q) [o] a w
 | .late i r,a,w=>∃o,ops[i]?=some o/\wpList P ops (Exit.then (wpU P ops Q S r) Q) [o] a w
theorem zcg{a:Act}{w:World}(h:Q .normal a w):wpU P ops Q S .fin a w:=h
theorem Zj{i:Nat}{r:PU}{o:Oper}{a:Act}{w:World}(hS:S w)(hi:ops[i]?=some o)
 (h:∀K:Act->Prop,(∀a',wpU P ops Q S r a' w->K a')->if Region.wanted o (yielded ops a.tmps) then zh2 P o a K else K (a.put o.dst undef)):wpU P ops Q S (.load i r) a w:=by
 refine⟨o,hi,hS,?_⟩;have:=h _ (λ_ h=>h);split
 ·rename_i hw
  rw[if_pos hw] at this;obtain⟨v,hv,h2⟩:=this;exact⟨v,λw _=>hv w,h2⟩
 ·rename_i hw
  rw[if_neg hw] at this;exact this
theorem kd{i:Nat}{r:PU}{o:Oper}{a:Act}{w:World}(v:Value)(hS:S w)(hi:ops[i]?=some o)(hw:Region.wanted o (yielded ops a.tmps)=true)
 (hv:∀w:World,S w->(execOp a.eval o).run P w=.ok (.value v) w) (h:∀K:Act->Prop,(∀a',wpU P ops Q S r a' w->K a')->K (a.put o.dst v)):wpU P ops Q S (.load i r) a w:=by
 refine⟨o,hi,hS,?_⟩;rw[if_pos hw];exact⟨v,hv,h _ (λ_ h=>h)⟩
theorem Zu{i:Nat}{r:PU}{o:Oper}{a:Act}{w:World}(hi:ops[i]?=some o)(h:wpList P ops (Exit.then (λa' w'=>S w'/\wpU P ops Q S r a' w') Q) [o] a w):wpU P ops Q S (.sole i r) a w:=⟨o,hi,h⟩
theorem zwm{i:Nat}{r:PU}{o:Oper}{a:Act}{w:World}(hi:ops[i]?=some o)(h:wpList P ops (Exit.then (wpU P ops Q S r) Q) [o] a w):wpU P ops Q S (.late i r) a w:=⟨o,hi,h⟩
theorem zfr{i j:Nat}{p q:PU}{o o':Oper}{a:Act}{w:World}(hi:ops[i]?=some o)(hj:ops[j]?=some o')
 (h:wpList P ops (Exit.then (λa' w'=>S w'/\wpU P ops Q S p a' w') Q) [o] a w) (h':wpList P ops (Exit.then (λa' w'=>S w'/\wpU P ops Q S q a' w') Q) [o'] a w):wpU P ops Q S (.two i j p q) a w:=⟨⟨o,hi,h⟩,o',hj,h'⟩
theorem zpr{i:Nat}(h:zzx md ops D i=true):∀listed j,zez md ops listed->i∈Region.ready md ops listed->j∈Region.ready md ops listed->j≠i->∀w w',S w->(j∈D->S w')->(zgh ops j=true->w'=w)->S w':=by
 intro listed j hc hi hj A3 w w' hs hd hm;obtain⟨A4,oj,A1,A0⟩:=mem_ready.1 hj;unfold zzx at h;rw[List.all_eq_true] at h;have h1:=h j (List.mem_range.2 (Array.getElem?_eq_some_iff.1 A1).1);simp only[Bool.or_eq_true,List.contains_iff_mem] at h1;rcases h1 with(h1|h1)|h1
 ·exact hd h1
 ·rw[hm h1];exact hs
 ·have h2:=zcb hc _ A1 h1 A0;have h0:=(mem_ready.1 hi).1;by_cases A2:i<listed.size
  ·simp[A2] at h0 h2;rw[h0] at h2;cases h2
  ·simp[Array.getElem?_eq_none (Nat.le_of_not_lt A2)] at h2
theorem Zq(hs:Region.noSelect ops=true)(A0:∀c a d v w,Q (.panic c) (Act.put a (some d) v) w->Q (.panic c) a w) :
 ∀(pl:PU) (n:Nat) (listed:Array Bool) (a:Act) (w:World),zez md ops listed->ck md ops D pl n listed=true->wpU P ops Q S pl a w->zc2 P md ops Q S D n listed a w
 | .fin,0,listed,a,w,hcl,hB,h=>by
  simp only[ck,List.isEmpty_iff] at hB;exact⟨hB,h⟩
 | .fin,n+1,listed,a,w,hcl,hB,h=>by simp[ck] at hB
 | .load i r,0,listed,a,w,hcl,hB,h=>by simp[ck] at hB
 | .free i r,0,listed,a,w,hcl,hB,h=>by simp[ck] at hB
 | .sole i r,0,listed,a,w,hcl,hB,h=>by simp[ck] at hB
 | .two i j p q,0,listed,a,w,hcl,hB,h=>by simp[ck] at hB
 | .late i r,0,listed,a,w,hcl,hB,h=>by simp[ck] at hB
 | .load i r,n+1,listed,a,w,hcl,hB,h=>by
  simp only[ck,Bool.and_eq_true] at hB;obtain⟨⟨⟨⟨hr,hf⟩,hD⟩,A1⟩,hB⟩:=hB;obtain⟨o,ho,hS,h⟩:=h
  have take:∀v,YieldsIf P ops S o v a->zc2 P md ops Q S D n (listed.setIfInBounds i true) (a.put o.dst v) w->zc2 P md ops Q S D (n+1) listed a w:=λv hy hh =>
   zeq (C:=S) ho (Region.noSelect_spec hs) (λc a w hq=>zd9 A0 c a _ _ w hq) (zpr A1) (λw hc _=>hc) n listed a w hcl (Region.free_spec ho hf) (by simpa using hr) hy hS hh
  by_cases hw:Region.wanted o (yielded ops a.tmps)=true
  ·rw[if_pos hw] at h;obtain⟨v,hv,h⟩:=h;exact take v (.inl ⟨hw,hv⟩) (Zq hs A0 r n _ _ _ (hcl.set (by simpa using hr)) hB h)
  ·rw[if_neg hw] at h;exact take undef (.inr ⟨by simpa using hw,rfl⟩) (Zq hs A0 r n _ _ _ (hcl.set (by simpa using hr)) hB h)
 | .free i r,n+1,listed,a,w,hcl,hB,h=>by
  simp only[ck,Bool.and_eq_true,Bool.not_eq_true'] at hB;obtain⟨⟨⟨hr,hf⟩,hD⟩,hB⟩:=hB;obtain⟨o,ho,h⟩:=h
  have take:∀v,YieldsIf P ops (λ_=>True) o v a->zc2 P md ops Q S D n (listed.setIfInBounds i true) (a.put o.dst v) w->zc2 P md ops Q S D (n+1) listed a w:=λv hy hh =>
   zeq (C:=λ_=>True) ho (Region.noSelect_spec hs) (λc a w hq=>zd9 A0 c a _ _ w hq) (λ_ _ _ _ _ _ _ _ _ _ _=>trivial) (λw _ hm=>absurd hm (by simpa using hD)) n listed a w hcl (Region.free_spec ho hf) (by simpa using hr) hy trivial hh
  by_cases hw:Region.wanted o (yielded ops a.tmps)=true
  ·rw[if_pos hw] at h;obtain⟨v,hv,h⟩:=h;exact take v (.inl ⟨hw,λw _=>hv w⟩) (Zq hs A0 r n _ _ _ (hcl.set (by simpa using hr)) hB h)
  ·rw[if_neg hw] at h;exact take undef (.inr ⟨by simpa using hw,rfl⟩) (Zq hs A0 r n _ _ _ (hcl.set (by simpa using hr)) hB h)
 | .sole i r,n+1,listed,a,w,hcl,hB,h=>by
  simp only[ck,Bool.and_eq_true,beq_iff_eq] at hB;obtain⟨hr,hB⟩:=hB;obtain⟨o,ho,h⟩:=h;refine⟨λh0=>(by rw[hr] at h0;cases h0),λk hk=>?_⟩;rw[hr] at hk;simp only[List.mem_singleton] at hk;subst hk;exact wpOp_mono (λa' w' h'=>⟨λ_=>h'.1,Zq hs A0 r n _ a' w' (hcl.set (by rw[hr];simp)) hB h'.2⟩) (jb ho h)
 | .late i r,n+1,listed,a,w,hcl,hB,h=>by
  simp only[ck,Bool.and_eq_true,beq_iff_eq,Bool.not_eq_true'] at hB;obtain⟨⟨hr,hD⟩,hB⟩:=hB;obtain⟨o,ho,h⟩:=h;refine⟨λh0=>(by rw[hr] at h0;cases h0),λk hk=>?_⟩;rw[hr] at hk;simp only[List.mem_singleton] at hk;subst hk;exact wpOp_mono (λa' w' h'=>⟨λhm=>absurd hm (by simpa using hD),Zq hs A0 r n _ a' w' (hcl.set (by rw[hr];simp)) hB h'⟩) (jb ho h)
 | .two i j p q,n+1,listed,a,w,hcl,hB,h=>by
  simp only[ck,Bool.and_eq_true,beq_iff_eq] at hB;obtain⟨⟨hr,hB⟩,A2⟩:=hB;obtain⟨⟨o,ho,h⟩,o',A3,h'⟩:=h;refine⟨λh0=>(by rw[hr] at h0;cases h0),λk hk=>?_⟩;rw[hr] at hk;simp only[List.mem_cons,List.not_mem_nil,or_false] at hk;rcases hk with rfl|rfl
  ·exact wpOp_mono (λa' w' h'=>⟨λ_=>h'.1,Zq hs A0 p n _ a' w' (hcl.set (by rw[hr];simp)) hB h'.2⟩) (jb ho h)
  ·exact wpOp_mono (λa' w' h'=>⟨λ_=>h'.1,Zq hs A0 q n _ a' w' (hcl.set (by rw[hr];simp)) A2 h'.2⟩) (jb A3 h')
theorem xx{id:Nat}{a:Act}{w:World}{l:List Oper}(S:World->Prop)(D:List Nat)(pl:PU)(hm:P.follows .mixedOrders=true)
 (hB:(Region.noSelect l.toArray && ck .any l.toArray D pl l.length (Array.replicate l.length false))=true)
 (hQ:∀c a d v w,Q (.panic c) (Act.put a (some d) v) w->Q (.panic c) a w)
 (h:wpU P l.toArray Q S pl a w.drew):(Code.region id l.toArray true).wp P Q a w:=by
 simp only[Bool.and_eq_true] at hB;obtain⟨hs,hB⟩:=hB;refine wp_region_any hm ?_
 have:=zhl _ _ _ _ (Zq (md:=.any) (D:=D) hs hQ pl l.length (Array.replicate l.length false) a w.drew (λk ok hk hl=>by
  have A0:=(Array.getElem?_eq_some_iff.1 hk).1;simp at A0
  simp[A0] at hl) hB h)
 simpa using this
end
end Go.Proofs.YtoeibiahbenpcaaGreatDoor
