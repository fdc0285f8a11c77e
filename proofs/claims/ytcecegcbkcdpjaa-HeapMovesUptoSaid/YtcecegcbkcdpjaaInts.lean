/-
  Rows of integers: what is owned, where a number stands among others, whether two rows are the same.
-/
import Derived.Test.YtcecegcbkcdpjaaOpen
namespace Go.Proofs.Ytcecegcbkcdpjaa
open Go.RowKit
set_option linter.unusedVariables false
set_option maxHeartbeats 400000

theorem owns_ne' {w : World} {b1 b2 : Nat} {e1 e2 : TypeId} {s1 s2 : Nat} {v1 v2 : Value} {n1 n2 : Nat} {x1 x2 : List Value} (h1 : w.ownsRow b1 e1 s1 v1 n1 x1) (h2 : w.ownsRow b2 e2 s2 v2 n2 x2) (he : e1 ≠ e2) {k : Nat} (hk : v1.ownBlock = some k) : v2.ownBlock ≠ some k := by
  intro hk2
  rcases h1.2 with ⟨rfl, _⟩ | ⟨g1, c1, cur1, rfl, _, hg1, _⟩
  · cases hk
  · rcases h2.2 with ⟨rfl, _⟩ | ⟨g2, c2, cur2, rfl, _, hg2, _⟩
    · cases hk2
    · simp [Value.ownBlock] at hk hk2
      subst hk; subst hk2
      rw [hg1] at hg2
      simp at hg2
      exact he hg2.2

theorem owns_one {w : World} {base : Nat} {e : TypeId} {size : Nat} {v : Value} {n : Nat} {xs : List Value} (h : w.ownsRow base e size v n xs) : v.oneCell' = true := by
  rcases h.2 with ⟨rfl, _⟩ | ⟨g, cap, cur, rfl, _⟩ <;> rfl

theorem Upd.grow {l : List Nat} {a b c : World} {e : TypeId} {size : Nat} {v : Value} {n base : Nat} {xs : List Value} (h : Upd l a b) (o : b.ownsRow base e size v n xs) (hb : a.heap.size ≤ base) (gr : b.grownBy c v.ownBlock) : Upd l a c :=
  ⟨gr.os.trans h.os, gr.tape.trans h.tape, gr.output.trans h.output, Nat.le_trans h.size gr.size, fun k hk hn => (gr.block k (Nat.lt_of_lt_of_le hk h.size) (fun he => by have := (o.lt k he.symm).1; omega)).trans (h.block k hk hn)⟩

theorem reads_pre {w : World} {a : Option Addr} {c : Nat} {xs : List Value} (h : Reads w a c xs) (k : Nat) : Reads w a c (xs.take k) := by
  rcases h with ⟨rfl, rfl, rfl⟩ | ⟨x, rfl, h⟩
  · exact .inl ⟨rfl, rfl, by simp⟩
  · refine .inr ⟨x, rfl, fun i u hu => h i u ?_⟩
    rw [List.getElem?_take] at hu
    split at hu
    · exact hu
    · cases hu

theorem inf_int : (Try.prog.info? 3).map (fun i => (i.zero, i.size, i.bytes)) = some (some (.int .i64 0), 1, 8) := by kernel_rfl

/-- Integers that fit an int. -/
def I64 (l : List Int) : Prop := ∀ x ∈ l, -9223372036854775808 ≤ x ∧ x ≤ 9223372036854775807

/-- Where a number stands first. -/
def idx (l : List Int) (x : Int) : Option Nat := l.findIdx? (fun y => y == x)

theorem idx_some {l : List Int} {x : Int} {k : Nat} (hk : k < l.length) (h : l.getD k 0 = x) (hb : ∀ j, j < k → l.getD j 0 ≠ x) : idx l x = some k := by
  unfold idx
  rw [List.findIdx?_eq_some_iff_getElem]
  refine ⟨hk, by simpa [List.getD_eq_getElem?_getD, List.getElem?_eq_getElem hk] using h, fun j hj => ?_⟩
  have := hb j hj
  have hjl : j < l.length := by omega
  simpa [List.getD_eq_getElem?_getD, List.getElem?_eq_getElem hjl] using this

theorem idx_none {l : List Int} {x : Int} (h : ∀ j, j < l.length → l.getD j 0 ≠ x) : idx l x = none := by
  unfold idx
  rw [List.findIdx?_eq_none_iff]
  intro y hy
  obtain ⟨j, hj, rfl⟩ := List.getElem_of_mem hy
  have := h j hj
  simpa [List.getD_eq_getElem?_getD, List.getElem?_eq_getElem hj] using this

theorem idx_is {l : List Int} {x : Int} {k : Nat} (h : idx l x = some k) : k < l.length ∧ l.getD k 0 = x ∧ ∀ j, j < k → l.getD j 0 ≠ x := by
  unfold idx at h
  rw [List.findIdx?_eq_some_iff_getElem] at h
  obtain ⟨hk, h1, h2⟩ := h
  refine ⟨hk, by simpa [List.getD_eq_getElem?_getD, List.getElem?_eq_getElem hk] using h1, fun j hj => ?_⟩
  have := h2 j hj
  have hjl : j < l.length := by omega
  simpa [List.getD_eq_getElem?_getD, List.getElem?_eq_getElem hjl] using this

theorem idx_not {l : List Int} {x : Int} (h : idx l x = none) : x ∉ l := by
  unfold idx at h
  rw [List.findIdx?_eq_none_iff] at h
  intro hx
  have := h x hx
  simp at this

theorem idx_mem {l : List Int} {x : Int} {k : Nat} (h : idx l x = some k) : x ∈ l := by
  obtain ⟨hk, h1, _⟩ := idx_is h
  rw [← h1, List.getD_eq_getElem?_getD, List.getElem?_eq_getElem hk]
  exact List.getElem_mem hk

theorem getD_mem {l : List Int} {k : Nat} (hk : k < l.length) : l.getD k 0 ∈ l := by
  rw [List.getD_eq_getElem?_getD, List.getElem?_eq_getElem hk]
  exact List.getElem_mem hk

def idxV (l : List Int) (x : Int) : Int := match idx l x with | some k => k | none => -1

theorem c_SameInts (a0 a1 : Option Addr) (n0 n1 c0 c1 : Nat) (l0 l1 : List Int) (w : World) (e0 : n0 = l0.length) (e1 : n1 = l1.length)
    (h0 : Reads w a0 c0 (l0.map (Value.int .i64))) (h1 : Reads w a1 c1 (l1.map (Value.int .i64))) (hm : n0 ≤ 1000000000) (hm1 : n1 ≤ 1000000000) :
    Calls Try.prog 24 #[.slice a0 n0 c0, .slice a1 n1 c1] w fun e w' => e = .returned (.bool (decide (l0 = l1))) ∧ Below w.heap.size w w' := by
  by_cases hl : n0 = n1
  · subst hl
    have E0 := Lib.hid e0
    have E1 := Lib.hid e1
    have H0 := Lib.hid h0
    have H1 := Lib.hid h1
    clear e0 e1 h0 h1
    go_enter Try.func24, Try.ntmps24
    go_wp2
    go_loopw [5] (fun i wr => ∃ k : Nat, k ≤ n0 ∧ i = .int .i64 k ∧ Hid (∀ j, j < k → l0.getD j 0 = l1.getD j 0) ∧ Hid (Below w.heap.size w wr)) (fun i _ => n0 - (intOf i).toNat)
    case atStart => exact ⟨0, Nat.zero_le _, rfl, fun j hj => by omega, Below.refl _ _⟩
    case round =>
      obtain ⟨k, hk, rfl, hz, hb⟩ := hrel
      by_cases hlt : k < n0
      · have hl0 : k < l0.length := by have := E0.out; omega
        have hl1 : k < l1.length := by have := E1.out; omega
        obtain ⟨b0, o0, rfl, _, hc0⟩ := (H0.out.below hb.out).at (by simp; omega)
        obtain ⟨b1, o1, rfl, _, hc1⟩ := (H1.out.below hb.out).at (by simp; omega)
        have k0 := hc0 k _ (getD_map8 hl0)
        have k1 := hc1 k _ (getD_map8 hl1)
        have HN := Lib.hid (fun h : l0.getD k 0 = l1.getD k 0 => (by
          intro j hj
          by_cases hjk : j = k
          · subst hjk; exact h
          · exact hz.out j (by omega) : ∀ j, j < k + 1 → l0.getD j 0 = l1.getD j 0))
        have HF := Lib.hid (fun h : l0.getD k 0 ≠ l1.getD k 0 => show l0 ≠ l1 from fun e => h (by rw [e]))
        clear hc0 hc1 hz
        generalize l0.getD k 0 = y0 at *
        generalize l1.getD k 0 = y1 at *
        by_cases hy : y0 = y1
        · subst hy
          have HN2 := Lib.hid (HN.out rfl)
          clear HN HF
          go_wp2
          go_region
          go_wp2
          go_roundw
          case rel => exact ⟨k + 1, by omega, by go_num, HN2.out, bDrew hb.out⟩
          case measure => simp [intOf]; omega
        · go_wp2
          go_region
          go_wp2
          go_ret
          exact ⟨by rw [decide_eq_false (HF.out hy)]; rfl, bDrew hb.out⟩
      · have hkl : k = n0 := by omega
        subst hkl
        have hEq := Lib.hid (show l0 = l1 from by
          apply List.ext_getElem (by rw [← E0.out, ← E1.out])
          intro i h1 h2
          have := hz.out i (by rw [E0.out]; exact h1)
          rwa [List.getD_eq_getElem?_getD, List.getElem?_eq_getElem h1, List.getD_eq_getElem?_getD, List.getElem?_eq_getElem h2] at this)
        go_wp2
        go_ret
        exact ⟨by rw [decide_eq_true hEq.out]; rfl, hb.out⟩
  · have HN := Lib.hid (show l0 ≠ l1 from fun e => hl (by rw [e0, e1, e]))
    clear e0 e1 h0 h1
    go_enter Try.func24, Try.ntmps24
    go_wp2
    go_ret
    exact ⟨by rw [decide_eq_false HN.out]; rfl, Below.refl _ _⟩

end Go.Proofs.Ytcecegcbkcdpjaa
