/-
  An append that tells where the row lies; rows kept; the first place is one.
-/
import Derived.Test.YtpbokmmobepolaaExtZG
namespace Go.Proofs.Ytpbokmmobepolaa
open Go.RowKit Go.Maps
set_option linter.unusedVariables false
set_option maxHeartbeats 2000000

theorem run_append_newS {P : Program} (w : World) (base : Nat) (t ty e : TypeId) (i : TypeInfo) (z : Value) (size : Nat) (ht : P.underlying t = some (.slice e)) (hi : P.info? e = some i) (hz : i.zero = some z)
    (hs1 : i.size = size) (hzs : z.cells.size = size) (hsz : 0 < size)
    (v : Value) (n : Nat) (xs : List Value) (hown : w.ownsRow base e size v n xs)
    (a : Addr) (m c : Nat) (news : List Value) (hl : news.length = m * size) (hnews : ∀ j u, news[j]? = some u → w.cell? (a.add j) = some u) (h1 : ∀ u ∈ news, u.oneCell' = true)
    (h63 : n + m ≤ maxLen) (hbytes : (n + m) * i.bytes ≤ 140737488355328) (hbase : base ≤ w.heap.size) :
    ∃ v' w', (Builtin.append_ #[t, t] ty #[v, .slice (some a) m c]).run P w = .ok v' w' ∧ w'.ownsRow base e size v' (n + m) (xs ++ news) ∧ w.grownBy w' v.ownBlock ∧
      (∀ k, v'.ownBlock = some k → v.ownBlock = some k ∨ w.heap.size ≤ k) := by
  obtain ⟨v', w', hr, h2, h3, -⟩ := run_append_own (P := P) w base t ty e i z size i.bytes ht hi hz hs1 rfl hzs hsz v n xs hown a m c news hl hnews h1 h63 hbytes hbase
  refine ⟨v', w', hr, h2, h3, fun k hk => ?_⟩
  rcases hown.2 with ⟨rfl, rfl⟩ | ⟨g, cap, cur, rfl, hbg, hg, hnc, hcm, hcs, htake⟩
  · have hx : xs = [] := List.eq_nil_of_length_eq_zero (by simpa using hown.1)
    subst hx
    obtain ⟨v2, w2, hr2, h22, -, -⟩ := run_append_own (P := P) w w.heap.size t ty e i z size i.bytes ht hi hz hs1 rfl hzs hsz _ 0 [] (World.ownsRow_nil w w.heap.size e size) a m c news hl hnews h1 h63 hbytes (Nat.le_refl _)
    rw [hr] at hr2
    cases hr2
    exact .inr (h22.lt k hk).1
  · by_cases hroom : n + m ≤ cap
    · have hr2 := run_append_room (P := P) w t ty e i ht hi g n cap cur hg a m c news (by rw [hs1]; exact hl) hnews h1 hroom (by rw [hs1, hl, hcs, ← Nat.add_mul]; exact Nat.mul_le_mul_right _ hroom)
      rw [hr] at hr2
      cases hr2
      exact .inl (by simpa [Value.ownBlock] using hk)
    · have hr2 := run_append_grow (P := P) w t ty e i z ht hi hz ⟨g, 0, none⟩ n cap xs (by rw [hs1]; exact hown.1) (hown.cells (g := g) rfl) a m c news (by rw [hs1]; exact hl) hnews (by omega) (by unfold maxLen at h63; omega) (growslice_fits (by omega) hbytes)
      rw [hr] at hr2
      cases hr2
      refine .inr ?_
      simp [Value.ownBlock] at hk
      omega

theorem wpList_appS {P : Program} {w : World} {ops : Array Oper} {rest : List Oper} {o : Oper} {a : Act} {Q : Exit → Act → World → Prop} (hgd : o.guard = none) (s x : Operand) (t : TypeId)
    (ho : o.op = .call { callee := .builtin .append, args := #[s, x], argTypes := #[t, t] })
    (base : Nat) (e : TypeId) (z : Value) (size bytes : Nat) (ht : P.underlying t = some (.slice e)) (hinf : (P.info? e).map (fun i => (i.zero, i.size, i.bytes)) = some (some z, size, bytes))
    (hzs : z.cells.size = size) (hsz : 0 < size)
    (v : Value) (n : Nat) (xs : List Value) (hs : a.eval s = v) (hown : w.ownsRow base e size v n xs)
    (ad : Addr) (m c : Nat) (news : List Value) (hx : a.eval x = .slice (some ad) m c) (hl : news.length = m * size) (hr : Reads w (some ad) c news) (h1 : ∀ u ∈ news, u.oneCell' = true)
    (h63 : n + m ≤ maxLen) (hbytes : (n + m) * bytes ≤ 140737488355328) (hbase : base ≤ w.heap.size)
    (h : ∀ v' w', w'.ownsRow base e size v' (n + m) (xs ++ news) → w.grownBy w' v.ownBlock → (∀ k, v'.ownBlock = some k → v.ownBlock = some k ∨ w.heap.size ≤ k) → wpList P ops Q rest (a.put o.dst v') w') : wpList P ops Q (o :: rest) a w := by
  obtain ⟨i, hi, hz, h2, h3⟩ := info_parts hinf
  rcases hr with ⟨ha0, hc0, hn0⟩ | ⟨ad', ha0, hr⟩
  · cases ha0
  · cases ha0
    obtain ⟨v', w', hrun, k2, k3, k4⟩ := run_append_newS (P := P) w base t o.type e i z size ht hi hz h2 hzs hsz v n xs hown ad m c news hl hr h1 h63 (by rw [h3]; exact hbytes) hbase
    refine wpList_plain hgd fun _ hK => ?_
    unfold Oper.wp execOp
    simp only [ho, resolve, invoke, builtin, Sem.run_bind, Sem.run_pure, Result.andThen_ok, List.map_toArray, List.map_cons, List.map_nil, hs, hx, hrun]
    exact hK _ _ (h v' w' k2 k3 k4)

theorem first_uniq {L : List Rw4} {N n : Nat} (hn : 1 ≤ n) {o o' : Option Nat} (h : FirstL L N n o) (h' : FirstL L N n o') : o = o' := by
  cases o with
  | none =>
    cases o' with
    | none => rfl
    | some F =>
      obtain ⟨x, hx, ho⟩ := h F h'.1
      exact absurd ho (h'.2.1 x hx)
  | some F =>
    cases o' with
    | none =>
      obtain ⟨x, hx, ho⟩ := h' F h.1
      exact absurd ho (h.2.1 x hx)
    | some G =>
      rcases Nat.lt_trichotomy F G with h1 | h1 | h1
      · obtain ⟨x, hx, ho⟩ := h'.2.2 F h1
        exact absurd ho (h.2.1 x hx)
      · rw [h1]
      · obtain ⟨x, hx, ho⟩ := h.2.2 G h1
        exact absurd ho (h'.2.1 x hx)

/-- Rows that lie away from what turns. -/
theorem RwB.ok.keep' {w w' : World} {B : Nat} {r : RwB} (h : r.ok w B) {l : List Nat} (u : Upd l w w') (hl : 0 < r.n → ∀ y, r.a = some y → y.block ∉ l) : r.ok w' B :=
  ⟨h.1, h.2.1, reads_keep h.2.2.1 u (fun h0 => hl (by rw [h.1]; simpa using h0)), h.2.2.2⟩
theorem RowsAt.keep' {w w' : World} {B : Nat} {a : Option Addr} {n c : Nat} {rs : List RwB} (h : RowsAt w B a n c rs) {l : List Nat} (u : Upd l w w') (h1 : 0 < n → ∀ y, a = some y → y.block ∉ l) (h2 : ∀ r ∈ rs, 0 < r.n → ∀ y, r.a = some y → y.block ∉ l) : RowsAt w' B a n c rs := by
  refine ⟨h.len, h.cap, ?_, h.ab, fun r hr => (h.oks r hr).keep' u (h2 r hr), h.nl⟩
  by_cases h0 : 0 < n
  · exact by_keep h.rd u (h1 h0)
  · have : rs = [] := List.eq_nil_of_length_eq_zero (by have := h.len; omega)
    subst this
    exact fun i d hid => by simp at hid
/-- Where the rows lie, if they are any: below the heap's end. -/
theorem RowsAt.lt {w : World} {B : Nat} {a : Option Addr} {n c : Nat} {rs : List RwB} (h : RowsAt w B a n c rs) (h0 : 0 < n) : ∀ y, a = some y → y.block < w.heap.size := fun y hy => by
  have hl := h.len
  obtain ⟨b, off, e, hb, -⟩ := h.rd 0 _ (List.getElem?_eq_getElem (by omega))
  rw [hy] at e
  cases e
  exact hb
theorem RwB.ok.lt {w : World} {B : Nat} {r : RwB} (h : r.ok w B) (h0 : 0 < r.n) : ∀ y, r.a = some y → y.block < w.heap.size := fun y hy => readBlock h.2.2.1 (by simp; have := h.1; omega) y hy
/-- Apart from one block. -/
def Sep (g : Option Nat) (a : Option Addr) (n : Nat) (rs : List RwB) : Prop := ∀ k, g = some k → (0 < n → ∀ y, a = some y → y.block ≠ k) ∧ ∀ r ∈ rs, 0 < r.n → ∀ y, r.a = some y → y.block ≠ k

/-- Rows that a function of the reference made. -/
theorem rows_made {w : World} {B b : Nat} {v : Value} {n : Nat} {rs : List RwB} (h : w.ownsRow b 54 4 v n (flatW rs)) (hB : B ≤ b) (ho : ∀ r ∈ rs, r.ok w B) : ∃ a c, v = .slice a n c ∧ RowsAt w B a n c rs ∧ ∀ y, a = some y → b ≤ y.block := by
  obtain ⟨a, c, rfl, h1, h2, h3, h4, h5, h6⟩ := owns_rows h
  exact ⟨a, c, rfl, ⟨h4, h3, h2, fun y hy => Nat.le_trans hB (h5 y hy), ho, h6⟩, h5⟩

end Go.Proofs.Ytpbokmmobepolaa
