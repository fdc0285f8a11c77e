/- Part. -/
import Derived.Test.YtoeibiahbenpcaaGreatDoorA14
namespace Go.Proofs.YtoeibiahbenpcaaGreatDoor
open RowKit Maps Proofs.Tryz
set_option linter.unusedVariables false
set_option maxRecDepth 99999
set_option maxHeartbeats 9000000
theorem zf7{P:Program}(w:World)(base:Nat)(t ty e:TypeId)(i:TypeInfo)(z:Value)(size:Nat)(ht:P.underlying t=some (.slice e))(hi:P.info? e=some i)(hz:i.zero=some z)
 (A5:i.size=size) (A8:z.cells.size=size) (A9:0<size)
 (v:Value) (n:Nat) (xs:List Value) (A2:w.ownsRow base e size v n xs)
 (a:Addr) (m c:Nat) (news:List Value) (hl:news.length=m*size) (A1:∀j u,news[j]?=some u->w.cell? (a.add j)=some u) (h1:∀u∈news,u.oneCell'=true)
 (A7:n+m<=maxLen) (A0:(n+m)*i.bytes<=140737488355328) (A6:base<=w.heap.size) :
 ∃v' w',(Builtin.append_ #[t,t] ty #[v,.slice (some a) m c]).run P w=.ok v' w'/\w'.ownsRow base e size v' (n+m) (xs++news)/\w.grownBy w' v.ownBlock/\
  (∀k,v'.ownBlock=some k->v.ownBlock=some k\/w.heap.size<=k):=by
 obtain⟨v',w',hr,h2,h3,-⟩:=run_append_own (P:=P) w base t ty e i z size i.bytes ht hi hz A5 rfl A8 A9 v n xs A2 a m c news hl A1 h1 A7 A0 A6;refine⟨v',w',hr,h2,h3,λk hk=>?_⟩;rcases A2.2 with⟨rfl,rfl⟩|⟨g,cap,cur,rfl,B3,hg,B4,B5,B1,B0⟩
 ·have hx:xs=[]:=List.eq_nil_of_length_eq_zero (by simpa using A2.1);subst hx;obtain⟨v2,w2,A3,B2,-,-⟩:=run_append_own (P:=P) w w.heap.size t ty e i z size i.bytes ht hi hz A5 rfl A8 A9 _ 0 [] (World.ownsRow_nil w w.heap.size e size) a m c news hl A1 h1 A7 A0 (Nat.le_refl _);rw[hr] at A3;cases A3
  exact .inr (B2.lt k hk).1
 ·by_cases A4:n+m<=cap
  ·have A3:=run_append_room (P:=P) w t ty e i ht hi g n cap cur hg a m c news (by rw[A5];exact hl) A1 h1 A4 (by rw[A5,hl,B1,<-Nat.add_mul];exact Nat.mul_le_mul_right _ A4);rw[hr] at A3;cases A3
   exact .inl (by simpa[Value.ownBlock] using hk)
  ·have A3:=run_append_grow (P:=P) w t ty e i z ht hi hz ⟨g,0,none⟩ n cap xs (by rw[A5];exact A2.1) (A2.cells (g:=g) rfl) a m c news (by rw[A5];exact hl) A1 (by omega) (by unfold maxLen at A7;omega) (growslice_fits (by omega) A0);rw[hr] at A3;cases A3
   refine .inr ?_;simp[Value.ownBlock] at hk;omega
theorem zft{P:Program}{w:World}{ops:Array Oper}{rest:List Oper}{o:Oper}{a:Act}{Q:Exit->Act->World->Prop}(A6:o.guard=none)(s x:Operand)(t:TypeId)
 (ho:o.op=.call { callee:=.builtin .append,args:=#[s,x],argTypes:=#[t,t] })
 (base:Nat) (e:TypeId) (z:Value) (size bytes:Nat) (ht:P.underlying t=some (.slice e)) (A2:(P.info? e).map (λi=>(i.zero,i.size,i.bytes))=some (some z,size,bytes))
 (A7:z.cells.size=size) (A8:0<size)
 (v:Value) (n:Nat) (xs:List Value) (hs:a.eval s=v) (A3:w.ownsRow base e size v n xs)
 (ad:Addr) (m c:Nat) (news:List Value) (hx:a.eval x=.slice (some ad) m c) (hl:news.length=m*size) (hr:zv w (some ad) c news) (h1:∀u∈news,u.oneCell'=true)
 (A9:n+m<=maxLen) (A0:(n+m)*bytes<=140737488355328) (A1:base<=w.heap.size)
 (h:∀v' w',w'.ownsRow base e size v' (n+m) (xs++news)->w.grownBy w' v.ownBlock->(∀k,v'.ownBlock=some k->v.ownBlock=some k\/w.heap.size<=k)->wpList P ops Q rest (a.put o.dst v') w'):wpList P ops Q (o::rest) a w:=by
 obtain⟨i,hi,hz,h2,h3⟩:=info_parts A2;rcases hr with⟨A4,B0,B1⟩|⟨ad',A4,hr⟩
 ·cases A4
 ·cases A4
  obtain⟨v',w',A5,k2,k3,k4⟩:=zf7 (P:=P) w base t o.type e i z size ht hi hz h2 A7 A8 v n xs A3 ad m c news hl hr h1 A9 (by rw[h3];exact A0) A1;refine wpList_plain A6 λ_ hK=>?_
  unfold Oper.wp execOp;simp only[ho,resolve,invoke,builtin,Sem.run_bind,Sem.run_pure,Result.andThen_ok,List.map_toArray,List.map_cons,List.map_nil,hs,hx,A5];exact hK _ _ (h v' w' k2 k3 k4)
structure HI(w:World)(B h g:Nat)(S:HpS):Prop where
 at_:HX w B h g S
 inv:Inv S
theorem HI.below{w w':World}{B h g:Nat}{S:HpS}(H:HI w B h g S)(hb:Below w.heap.size w w'):HI w' B h g S:=⟨H.at_.below hb,H.inv⟩
section
variable{w:World}{B h g:Nat}{S:HpS}
theorem HI.ords(H:HI w B h g S):z2s (zl1 S) w h:=by
 obtain⟨vb,hx⟩:=H.at_;exact zw6 hx (λk hk=>by have:=H.inv.fit k hk;have:=hx.small;omega)
theorem HI.ok(H:HI w B h g S)(hb:S.bl.length<=1000):zyz (zl1 S) S :=
 ⟨λL hL=>by rw[hL.1.length_eq];exact Nat.le_trans (zkb _ _) hb,λL hL k hk=>(zfz (Zf.1 (hL.1.mem_iff.1 hk))).1,λL hL k hk=>H.inv.fit k (hL.1.mem_iff.1 hk)⟩
theorem HI.blk(H:HI w B h g S){m:Nat}(hm:m<S.bl.length)(hu:S.bl[m].used=true):S.bl[m].at_+S.bl[m].n<=S.N/\S.N<=32768:=by
 obtain⟨vb,hx⟩:=H.at_;have:=H.inv.fit m (Zf.2 (by unfold usd;rw[ze hm];exact hu));rw[<-(gq hm).1,<-(gq hm).2] at this;exact⟨this,hx.small⟩
end
section
variable{w:World}{B h g:Nat}{vb:Value}{S:HpS}
theorem z3i(H:HI w B h g S)(hb:S.bl.length<=900):Calls prog 175 #[.pointer (some ⟨h,0,none⟩)] w λe w'=>∃L,zl1 S L/\e=.returned (.tuple #[.int .i64 (gx (Zs S L):Nat),.int .i64 (cm (Zs S L):Nat)])/\Below w.heap.size w w':=by
 obtain⟨vb,hx⟩:=H.at_;exact z14 hx (H.ok (by omega)) H.ords
theorem zrs(H:HI w B h g S)(hb:S.bl.length<=900):Calls prog 176 #[.pointer (some ⟨h,0,none⟩)] w λe w'=>∃L,zl1 S L/\e=.returned (.int .i64 ((Zp S L).2.1:Nat))/\HX w' B h g (Zp S L).1/\zy1 S (Zp S L).1 L/\(Zp S L).2.1<=L.length/\zai B w w':=by
 obtain⟨vb,hx⟩:=H.at_;have A0:S.ws.length=S.N:=hx.len;refine(zvc hx (Q:=zl1 S) (λL hL=>⟨(H.ok (by omega)).few L hL,zue H.inv hL A0⟩) H.ords).mono ?_;rintro e w' ⟨L,hL,rfl,A1,hu⟩;obtain⟨m1,m2⟩:=zw9 H.inv hL A0;exact⟨L,hL,rfl,⟨vb,A1⟩,m1,m2,hu⟩
theorem zwl(H:HI w B h g S):Calls prog 58 #[.pointer (some ⟨h,0,none⟩)] w λe w'=>∃v,e=.returned v/\w'.ownsRow w.heap.size 3 1 v (qp S).length ((qp S).map z5x)/\Below w.heap.size w w':=by
 obtain⟨vb,hx⟩:=H.at_;have hb:=zlx hx;rw[ze5,List.length_map,List.map_map] at hb;exact hb
theorem z3h(H:HI w B h g S){k:Nat}(hk:k∈qp S):Calls prog 52 #[.pointer (some ⟨h,0,none⟩),.int .i64 k] w λe w'=>e=.returned (.int .i64 (nOf S k:Nat))/\w=w':=by
 obtain⟨vb,hx⟩:=H.at_;obtain⟨hm,hu⟩:=zfz (Zf.1 hk);have:=z13 hx k hm hu;rwa[(gq hm).2] at this
theorem z3j(H:HI w B h g S){k:Nat}(hk:k∈qp S)(i:Nat)(hi:i<nOf S k):Calls prog 32 #[.pointer (some ⟨h,0,none⟩),.int .i64 k,.int .i64 i] w λe w'=>e=.returned (.tuple #[.int .i64 (word S k i),.int .i64 0])/\Below w.heap.size w w':=by
 obtain⟨vb,hx⟩:=H.at_;obtain⟨hm,hu⟩:=zfz (Zf.1 hk);have hf:=H.inv.fit k hk;have:=z15 hx k hm hu i (by rw[(gq hm).2];exact hi) (by rw[(gq hm).1,(gq hm).2];exact hf);rw[(gq hm).1] at this;exact this
end
end Go.Proofs.YtoeibiahbenpcaaGreatDoor
