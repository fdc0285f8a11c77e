/-
  Things that are done, as the statements of chapter 20 hand them in; how far the document's clock goes; where its lists lie.
-/
import Derived.Test.YtbkaafbkmcgfjaaSchedAD
import Derived.Test.YtbkaafbkmcgfjaaOpen
namespace Go.Proofs.Ytbkaafbkmcgfjaa
open Go.RowKit Go.ChangeShapes Go.WideShapes Go.ChangeAt
set_option linter.unusedVariables false
set_option maxHeartbeats 2000000
set_option maxRecDepth 100000

/-- A thing that is done, as the statement hands it in: a kind, a number. -/
structure Do8 where
  kind : Int
  num : Int

def Do8.row (d : Do8) : List Value := [.int .i64 d.kind, .int .i64 d.num]
def Do8.ok (d : Do8) : Prop := (-9223372036854775808 ≤ d.kind ∧ d.kind ≤ 9223372036854775807) ∧ (-9223372036854775808 ≤ d.num ∧ d.num ≤ 9223372036854775807)
def Do8s (w : World) (a : Option Addr) (n c : Nat) (ds : List Do8) : Prop := n = ds.length ∧ n ≤ c ∧ c ≤ maxLen ∧ ReadsBy w a 2 Do8.row ds ∧ ∀ d ∈ ds, d.ok

theorem open_do8 {H : Type} {enc : TypeId × Value → H} {w : World} {base : Nat} {spare : Nat → Bool} {held : Bool} {fuel : Nat} {cs : List Value} {x : DataW H × List MemPlace}
    (h : DataW.trod enc Try.prog w base spare held fuel 38 cs = some x) : ∃ (a : Option Addr) (n c : Nat) (ds : List Do8), cs = [.slice a n c] ∧ Do8s w a n c ds := by
  obtain ⟨a, n, c, rfl, h0, hn, hc, he⟩ := open_elems Try.underlying38 (S := 2) (by kernel_rfl) h
  have hd : ∀ i, i < n → ∃ d : Do8, (∃ ad, a = some ad ∧ ∀ j v, (Do8.row d)[j]? = some v → w.cell? (ad.add (i * 2 + j)) = some v) ∧ d.ok := fun i hi => by
    obtain ⟨ad, vs, m, y, had, hl, hcell, ht⟩ := he i hi
    obtain ⟨m2, hf⟩ := open_fields Try.underlying44 (by kernel_rfl) hl ht
    obtain ⟨v0, y0, e0, t0⟩ := hf 0 _ rfl
    obtain ⟨v1, y1, e1, t1⟩ := hf 1 _ rfl
    obtain ⟨k, rfl, wk⟩ := cell_int Try.underlying3 t0
    obtain ⟨q, rfl, wq⟩ := cell_int Try.underlying3 t1
    refine ⟨⟨k, q⟩, ⟨ad, had, fun j v hv => hcell j v ?_⟩, bounds_i64 wk, bounds_i64 wq⟩
    match j, hv with
    | 0, hv => exact e0.trans hv
    | 1, hv => exact e1.trans hv
    | j + 2, hv => simp [Do8.row] at hv
  obtain ⟨ds, hl, hp⟩ := list_of hd
  refine ⟨a, n, c, ds, rfl, hl.symm, hn, hc, ReadsBy.mk (fun d => by simp [Do8.row]) (fun i d hid => (hp i d hid).1), fun d hdm => ?_⟩
  obtain ⟨i, hi, rfl⟩ := List.getElem_of_mem hdm
  exact (hp i _ (List.getElem?_eq_getElem hi)).2

/-- The element that stands at a place, cell by cell. -/
def doAt (ds : List Do8) (k : Nat) : Do8 := ds.getD k ⟨0, 0⟩
theorem doAt_get {ds : List Do8} {k : Nat} (hk : k < ds.length) : ds[k]? = some (doAt ds k) := by
  simp [doAt, hk]

theorem do_cells {w : World} {a0 : Option Addr} {ds : List Do8} (h : ReadsBy w a0 2 Do8.row ds) {k : Nat} (hk : k < ds.length) :
    ∃ b off, a0 = some ⟨b, off, none⟩ ∧ b < w.heap.size ∧ ∀ w', Below w.heap.size w w' → w'.cell? ⟨b, off + k * 2, none⟩ = some (.int .i64 (doAt ds k).kind) ∧ w'.cell? ⟨b, off + k * 2 + 1, none⟩ = some (.int .i64 (doAt ds k).num) := by
  obtain ⟨b, off, rfl, hb, -⟩ := h k _ (doAt_get hk)
  have hat : ∀ {w' : World}, ReadsBy w' (some ⟨b, off, none⟩) 2 Do8.row ds → ∀ j v, (Do8.row (doAt ds k))[j]? = some v → w'.cell? ⟨b, off + k * 2 + j, none⟩ = some v := fun {w'} hr j v hv => by
    obtain ⟨b', o', e, -, hc⟩ := hr k _ (doAt_get hk)
    cases e
    exact hc j v hv
  exact ⟨b, off, rfl, hb, fun w' hbw => ⟨hat (h.below hbw) 0 _ rfl, hat (h.below hbw) 1 _ rfl⟩⟩

/-! ### The clock -/

theorem nextRF_now : ∀ (i : Nat) (x : RS), (nextRF i x).now ≤ x.now + 1
  | 0, x => Nat.le_succ _
  | i + 1, x => by
    unfold nextRF
    split
    · split
      · exact nextRF_now i x
      · exact Nat.le_refl _
    · exact Nat.le_succ _
theorem nextR_now (x : RS) : (nextR x).now ≤ x.now + 1 := nextRF_now 8 x
theorem madeR_now (x : RS) (k : Nat) : (madeR x k).now ≤ x.now + 3 := by
  unfold madeR
  split
  · show x.now + 1 + 1 ≤ _; omega
  · split
    · show x.now + 1 + 1 + 1 ≤ _; omega
    · show x.now + 1 ≤ _; omega
theorem stR_now (x : RS) (k n : Int) : (stR x k n).now ≤ x.now + 3 := by
  unfold stR
  split
  · unfold spR; split
    · exact Nat.le_add_right _ _
    · exact Nat.le_add_right _ _
  split
  · unfold rsR; split
    · exact madeR_now x _
    · exact Nat.le_add_right _ _
  split
  · unfold suR suspR; split
    · refine Nat.le_trans (nextR_now _) ?_; show x.now + 1 + 1 ≤ _; omega
    · exact Nat.le_add_right _ _
  split
  · unfold yieldR; split
    · exact Nat.le_add_right _ _
    · split
      · exact Nat.le_add_right _ _
      · refine Nat.le_trans (nextR_now _) ?_; show x.now + 1 + 1 ≤ _; omega
  split
  · unfold smR; split
    · exact Nat.le_add_right _ _
    · exact Nat.le_add_right _ _
  split
  · unfold siR; split
    · unfold sigR
      split
      · exact Nat.le_add_right _ _
      · exact madeR_now x _
    · exact Nat.le_add_right _ _
  · unfold waR; split
    · unfold waitR
      split
      · exact Nat.le_add_right _ _
      · split
        · exact Nat.le_add_right _ _
        · refine Nat.le_trans (nextR_now _) ?_; show x.now + 1 + 1 ≤ _; omega
    · exact Nat.le_add_right _ _

/-! ### Where the document's lists lie -/

/-- A list's block is there, and none of these. -/
def Apart (w : World) (a : Option Addr) (l : List Nat) : Prop := ∀ y, a = some y → y.block ∉ l ∧ y.block < w.heap.size

theorem Apart.none (w : World) (l : List Nat) : Apart w none l := fun y hy => by cases hy
theorem Apart.mov {w w' : World} {a : Option Addr} {l l' : List Nat} (h : Apart w a l) (hl : ∀ k ∈ l', k ∈ l ∨ w.heap.size ≤ k) (hs : w.heap.size ≤ w'.heap.size) : Apart w' a l' := fun y hy =>
  ⟨fun hm => by
    rcases hl _ hm with h1 | h1
    · exact (h y hy).1 h1
    · have := (h y hy).2; omega, Nat.lt_of_lt_of_le (h y hy).2 hs⟩
theorem Apart.size {w w' : World} {a : Option Addr} {l : List Nat} (h : Apart w a l) (hs : w.heap.size ≤ w'.heap.size) : Apart w' a l := h.mov (fun k hk => .inl hk) hs
theorem Apart.new {w w' : World} {a b : Option Addr} {n : Nat} {l : List Nat} (h : Apart w a l) (hl : ∀ k ∈ l, k < w.heap.size) (hn : NewAt w a b n) (hb : 0 < n → ∀ y, b = some y → y.block < w'.heap.size) (hs : w.heap.size ≤ w'.heap.size) : Apart w' b l := fun y hy => by
  rcases hn y hy with h1 | ⟨h1, h2⟩
  · exact h.size hs y h1
  · exact ⟨fun hm => by have := hl _ hm; omega, hb h2 y hy⟩

theorem RefV.lt1 {w : World} {b1 b2 : Option Addr} {d1 d2 : Nat} {x : RS} (h : RefV w b1 d1 b2 d2 x) (hn : 0 < x.P.length) : ∀ y, b1 = some y → y.block < w.heap.size := fun y hy => by
  obtain ⟨b, o, rfl, hb, -⟩ := h.at hn
  cases hy
  exact hb
theorem RefV.lt2 {w : World} {b1 b2 : Option Addr} {d1 d2 : Nat} {x : RS} (h : RefV w b1 d1 b2 d2 x) (hn : 0 < x.sems.length) : ∀ y, b2 = some y → y.block < w.heap.size := fun y hy => by
  obtain ⟨b, o, rfl, hb, -⟩ := h.rs.at (by simp; exact hn)
  cases hy
  exact hb

theorem NewAt.above {w v v' : World} {a b : Option Addr} {n qy : Nat} (hn : NewAt w a b n) (ha : ∀ y, a = some y → y.block < w.heap.size) (hb : 0 < n → ∀ y, b = some y → y.block < v.heap.size) (hs : w.heap.size ≤ v.heap.size) (hv : v.heap.size ≤ v'.heap.size) (hq : v.heap.size ≤ qy) : Apart v' b [qy] := fun y hy => by
  rcases hn y hy with h | ⟨-, h⟩
  · have := ha y h; refine ⟨?_, by omega⟩; simp; omega
  · have := hb h y hy; refine ⟨?_, by omega⟩; simp; omega
theorem NewAt.under {v v' : World} {a b : Option Addr} {n qy : Nat} (hn : NewAt v a b n) (ha : ∀ y, a = some y → y.block < qy) (hb : 0 < n → ∀ y, b = some y → y.block < v'.heap.size) (hq : qy < v.heap.size) (hv : v.heap.size ≤ v'.heap.size) : Apart v' b [qy] := fun y hy => by
  rcases hn y hy with h | ⟨h0, h⟩
  · have := ha y h; refine ⟨?_, by omega⟩; simp; omega
  · have := hb h y hy; refine ⟨?_, by omega⟩; simp; omega

/-- The document's state in a row of its own, apart from these blocks. -/
structure RX (w : World) (q : Nat) (l : List Nat) (b1 : Option Addr) (d1 : Nat) (b2 : Option Addr) (d2 : Nat) (x : RS) : Prop where
  row : Row w q 41 (refC b1 d1 b2 d2 x)
  v : RefV w b1 d1 b2 d2 x
  nq : q ∉ l
  a1 : Apart w b1 l
  a2 : Apart w b2 l
  o1 : Apart w b1 [q]
  o2 : Apart w b2 [q]

theorem RX.mov {w w' : World} {q : Nat} {l l' : List Nat} {b1 b2 : Option Addr} {d1 d2 : Nat} {x : RS} (h : RX w q l b1 d1 b2 d2 x) {u : List Nat} (hu : Upd u w w') (hul : ∀ k ∈ u, k ∈ l) (hl : ∀ k ∈ l', k ∈ l ∨ w.heap.size ≤ k) : RX w' q l' b1 d1 b2 d2 x :=
  ⟨h.row.keep hu (fun hm => h.nq (hul _ hm)), ⟨hu.reads h.v.rp (fun y hy hm => (h.a1 y hy).1 (hul _ hm)), hu.reads h.v.rs (fun y hy hm => (h.a2 y hy).1 (hul _ hm))⟩,
    fun hm => by
      rcases hl _ hm with h1 | h1
      · exact h.nq h1
      · have := h.row.lt; omega, h.a1.mov hl hu.size, h.a2.mov hl hu.size, h.o1.size hu.size, h.o2.size hu.size⟩
theorem RX.below {w w' : World} {q : Nat} {l : List Nat} {b1 b2 : Option Addr} {d1 d2 : Nat} {x : RS} (h : RX w q l b1 d1 b2 d2 x) (hb : Below w.heap.size w w') : RX w' q l b1 d1 b2 d2 x :=
  h.mov (u := []) (.of_below hb) (fun k hk => absurd hk List.not_mem_nil) (fun k hk => .inl hk)

/-- The state behind a step, stored where the one ahead of it stood. -/
theorem RX.next {w w8 : World} {q : Nat} {l : List Nat} {b1 b2 e1 e2 : Option Addr} {d1 d2 f1 f2 : Nat} {x x' : RS} (h : RX w q l b1 d1 b2 d2 x) (hl : ∀ k ∈ l, k < w.heap.size) (hb : Below w.heap.size w w8) (hv : RefV w8 e1 f1 e2 f2 x')
    (n1 : NewAt w b1 e1 x'.P.length) (n2 : NewAt w b2 e2 x'.sems.length) :
    RX (((w8.setCell ⟨q, 0, none⟩ (.slice e1 x'.P.length f1)).setCell ⟨q, 1, none⟩ (.slice e2 x'.sems.length f2)).setCell ⟨q, 2, none⟩ (.int .i64 x'.now)) q l e1 f1 e2 f2 x' ∧
    Upd [q] w (((w8.setCell ⟨q, 0, none⟩ (.slice e1 x'.P.length f1)).setCell ⟨q, 1, none⟩ (.slice e2 x'.sems.length f2)).setCell ⟨q, 2, none⟩ (.int .i64 x'.now)) := by
  have hr8 : Row w8 q 41 (refC b1 d1 b2 d2 x) := h.row.keep (l := []) (.of_below hb) (by simp)
  have hU : Upd [q] w8 (((w8.setCell ⟨q, 0, none⟩ (.slice e1 x'.P.length f1)).setCell ⟨q, 1, none⟩ (.slice e2 x'.sems.length f2)).setCell ⟨q, 2, none⟩ (.int .i64 x'.now)) := (((Upd.refl [q] w8).setCell (by simp) _).setCell (by simp) _).setCell (by simp) _
  have hR : Row (((w8.setCell ⟨q, 0, none⟩ (.slice e1 x'.P.length f1)).setCell ⟨q, 1, none⟩ (.slice e2 x'.sems.length f2)).setCell ⟨q, 2, none⟩ (.int .i64 x'.now)) q 41 (refC e1 f1 e2 f2 x') := ((hr8.set 0 _).set 1 _).set 2 _
  have hq : ∀ k ∈ [q], k < w.heap.size := fun k hk => by simp at hk; subst hk; exact h.row.lt
  have a1 : Apart w8 e1 l := h.a1.new hl n1 (fun hn => hv.lt1 hn) hb.size
  have a2 : Apart w8 e2 l := h.a2.new hl n2 (fun hn => hv.lt2 hn) hb.size
  have o1 : Apart w8 e1 [q] := h.o1.new hq n1 (fun hn => hv.lt1 hn) hb.size
  have o2 : Apart w8 e2 [q] := h.o2.new hq n2 (fun hn => hv.lt2 hn) hb.size
  have HU := Lib.hid hU
  generalize (((w8.setCell ⟨q, 0, none⟩ (.slice e1 x'.P.length f1)).setCell ⟨q, 1, none⟩ (.slice e2 x'.sems.length f2)).setCell ⟨q, 2, none⟩ (.int .i64 x'.now)) = w9 at *
  exact ⟨⟨hR, ⟨hU.reads hv.rp (fun y hy => (o1 y hy).1), hU.reads hv.rs (fun y hy => (o2 y hy).1)⟩, h.nq, a1.size hU.size, a2.size hU.size, o1.size hU.size, o2.size hU.size⟩,
    (Upd.of_below (l := [q]) hb).trans hU⟩

theorem SX.keep {w w' : World} {m base B : Nat} {L : Lay} {x : RS} (h : SX w m base B L x) {l : List Nat} (u : Upd l w w') (hl : ∀ k ∈ l, k ∉ L.B) : SX w' m base B L x :=
  ⟨h.st.keep u hl, h.inv, fun k hk => Nat.lt_of_lt_of_le (h.lt k hk) u.size, h.ge⟩

end Go.Proofs.Ytbkaafbkmcgfjaa
