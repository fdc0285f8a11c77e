/-
  A heap in memory: words and blocks; New, has, Size, At, Read.
-/
import Derived.Test.YtcecegcbkcdpjaaInts
import Derived.Test.YtcecegcbkcdpjaaPlanH
namespace Go.Proofs.Ytcecegcbkcdpjaa
open Go.RowKit
set_option linter.unusedVariables false
set_option maxHeartbeats 2000000

/-- A block: its place, how many words, is it in use. -/
structure Blk where
  at_ : Nat
  n : Nat
  used : Bool
def Blk.row (b : Blk) : List Value := [.int .i64 b.at_, .int .i64 b.n, .bool b.used]
def flatB (bl : List Blk) : List Value := bl.flatMap Blk.row
theorem flatB_app (xs ys : List Blk) : flatB (xs ++ ys) = flatB xs ++ flatB ys := by simp [flatB]
theorem flatB_len : ∀ xs : List Blk, (flatB xs).length = xs.length * 3
  | [] => rfl
  | x :: xs => by
    have := flatB_len xs
    show (x.row ++ flatB xs).length = _
    rw [List.length_append, this, List.length_cons]
    show 3 + _ = _
    omega
theorem flatB_get : ∀ {xs : List Blk} {k j : Nat} {d : Blk} {v : Value}, xs[k]? = some d → d.row[j]? = some v → (flatB xs)[k * 3 + j]? = some v
  | [], k, j, d, v, h, _ => by simp at h
  | x :: xs, 0, j, d, v, h, hv => by
    simp at h
    subst h
    have hj : j < x.row.length := (List.getElem?_eq_some_iff.1 hv).1
    show (x.row ++ flatB xs)[0 * 3 + j]? = some v
    rw [Nat.zero_mul, Nat.zero_add, List.getElem?_append_left hj]
    exact hv
  | x :: xs, k + 1, j, d, v, h, hv => by
    have h' : xs[k]? = some d := by simpa using h
    show (x.row ++ flatB xs)[(k + 1) * 3 + j]? = some v
    rw [List.getElem?_append_right (by show 3 ≤ _; omega), show (k + 1) * 3 + j - x.row.length = k * 3 + j by show (k + 1) * 3 + j - 3 = _; omega]
    exact flatB_get h' hv

/-- What a heap holds. -/
structure HpS where
  N : Nat
  ws : List Int
  bl : List Blk

structure HpAt (w : World) (B h g : Nat) (vb : Value) (S : HpS) : Prop where
  head : Row w h 75 [.slice (some ⟨g, 0, none⟩) S.N S.N, vb]
  data : Row w g 56 (S.ws.map (Value.int .u16))
  own : w.ownsRow B 78 3 vb S.bl.length (flatB S.bl)
  len : S.ws.length = S.N
  small : S.N ≤ 32768
  few : S.bl.length ≤ 1000000
  lo : B ≤ h ∧ B ≤ g
  word : ∀ x ∈ S.ws, 0 ≤ x ∧ x ≤ 65535

/-- A block of a heap, cell by cell. -/
theorem blk_cells {w : World} {B : Nat} {vb : Value} {bl : List Blk} (h : w.ownsRow B 78 3 vb bl.length (flatB bl)) {k : Nat} (hk : k < bl.length) :
    ∃ b c, vb = .slice (some ⟨b, 0, none⟩) bl.length c ∧ w.cell? ⟨b, k * 3, none⟩ = some (.int .i64 bl[k].at_) ∧ w.cell? ⟨b, k * 3 + 1, none⟩ = some (.int .i64 bl[k].n) ∧ w.cell? ⟨b, k * 3 + 2, none⟩ = some (.bool bl[k].used) := by
  rcases h.2 with ⟨_, h0⟩ | ⟨g, cap, cur, rfl, hb, hg, hn, hm, hs, ht⟩
  · omega
  · have hat := h.cells (g := g) rfl
    have hc : ∀ j v, bl[k].row[j]? = some v → w.cell? ⟨g, k * 3 + j, none⟩ = some v := fun j v hv => by
      have := hat _ _ (flatB_get (List.getElem?_eq_getElem hk) hv)
      rw [add_flat, Nat.zero_add] at this
      exact this
    exact ⟨g, cap, rfl, hc 0 _ rfl, hc 1 _ rfl, hc 2 _ rfl⟩

def hasB (S : HpS) (k : Int) : Bool := decide (0 ≤ k) && ((S.bl[k.toNat]?).map Blk.used).getD false
theorem hasB_nat (S : HpS) (k : Nat) : hasB S k = ((S.bl[k]?).map Blk.used).getD false := by simp [hasB]

theorem c_has {w : World} {B h g : Nat} {vb : Value} {S : HpS} (H : HpAt w B h g vb S) (k : Int) :
    Calls Try.prog 42 #[.pointer (some ⟨h, 0, none⟩), .int .i64 k] w fun e w' => e = .returned (.bool (hasB S k)) ∧ w = w' := by
  have k1 := H.head.cell (i := 1) rfl
  have HH := Lib.hid H
  clear H
  by_cases h0 : (0 : Int) ≤ k
  · obtain ⟨m, rfl⟩ := Int.eq_ofNat_of_zero_le h0
    rw [show hasB S (m : Int) = ((S.bl[m]?).map Blk.used).getD false from hasB_nat S m]
    by_cases hm : m < S.bl.length
    · obtain ⟨b, c, hv, c0, c1, c2⟩ := blk_cells HH.out.own hm
      rw [show ((S.bl[m]?).map Blk.used).getD false = S.bl[m].used by rw [List.getElem?_eq_getElem hm]; rfl]
      subst hv
      generalize S.bl[m].used = u at *
      clear c0 c1
      go_enter Try.func42, Try.ntmps42
      go_wp2
      go_ret
      exact ⟨rfl, rfl⟩
    · rw [List.getElem?_eq_none (by omega)]
      obtain ⟨a, c, hv, -, -, -⟩ := owns_reads HH.out.own
      subst hv
      have hm2 : ¬ ((m : Int) < (S.bl.length : Int)) := by omega
      clear hm
      go_enter Try.func42, Try.ntmps42
      go_wp2
      go_ret
      exact ⟨rfl, rfl⟩
  · have hv : hasB S k = false := by unfold hasB; simp [h0]
    rw [hv]
    clear hv
    go_enter Try.func42, Try.ntmps42
    go_wp2
    go_ret
    exact ⟨rfl, rfl⟩

theorem hasB_yes {S : HpS} {k : Int} (h : hasB S k = true) : ∃ (m : Nat) (hm : m < S.bl.length), k = (m : Int) ∧ S.bl[m].used = true := by
  unfold hasB at h
  simp only [Bool.and_eq_true, decide_eq_true_eq] at h
  obtain ⟨m, rfl⟩ := Int.eq_ofNat_of_zero_le h.1
  have h2 := h.2
  rw [Int.toNat_natCast] at h2
  by_cases hm : m < S.bl.length
  · rw [List.getElem?_eq_getElem hm] at h2
    exact ⟨m, hm, rfl, h2⟩
  · rw [List.getElem?_eq_none (by omega)] at h2
    cases h2
theorem hasB_is {S : HpS} {m : Nat} (hm : m < S.bl.length) (h : S.bl[m].used = true) : hasB S m = true := by
  rw [hasB_nat, List.getElem?_eq_getElem hm]; exact h

section
variable {w : World} {B h g : Nat} {vb : Value} {S : HpS}
theorem c_SizeNo (H : HpAt w B h g vb S) (k : Int) (hk : hasB S k = false) : Calls Try.prog 33 #[.pointer (some ⟨h, 0, none⟩), .int .i64 k] w fun e w' => e = .returned (.int .i64 (-1)) ∧ w = w' := by
  have HC := Lib.hid (c_has H k)
  rw [hk] at HC
  clear H hk
  go_enter Try.func33, Try.ntmps33
  go_wp2_with fail
  refine HC.out.mono ?_
  rintro e w' ⟨rfl, rfl⟩
  go_wp2
  go_ret
  exact ⟨rfl, rfl⟩
theorem c_Size (H : HpAt w B h g vb S) (m : Nat) (hm : m < S.bl.length) (hu : S.bl[m].used = true) : Calls Try.prog 33 #[.pointer (some ⟨h, 0, none⟩), .int .i64 m] w fun e w' => e = .returned (.int .i64 S.bl[m].n) ∧ w = w' := by
  have HC := Lib.hid (c_has H m)
  rw [hasB_is hm hu] at HC
  have k1 := H.head.cell (i := 1) rfl
  obtain ⟨b, c, hv, c0, c1, c2⟩ := blk_cells H.own hm
  subst hv
  clear H hu c0 c2
  generalize S.bl[m].n = n at *
  go_enter Try.func33, Try.ntmps33
  go_wp2_with fail
  refine HC.out.mono ?_
  rintro e w' ⟨rfl, rfl⟩
  go_wp2
  go_ret
  exact ⟨rfl, rfl⟩
theorem c_AtNo (H : HpAt w B h g vb S) (k : Int) (hk : hasB S k = false) : Calls Try.prog 27 #[.pointer (some ⟨h, 0, none⟩), .int .i64 k] w fun e w' => e = .returned (.int .i64 (-1)) ∧ w = w' := by
  have HC := Lib.hid (c_has H k)
  rw [hk] at HC
  clear H hk
  go_enter Try.func27, Try.ntmps27
  go_wp2_with fail
  refine HC.out.mono ?_
  rintro e w' ⟨rfl, rfl⟩
  go_wp2
  go_ret
  exact ⟨rfl, rfl⟩
theorem c_At (H : HpAt w B h g vb S) (m : Nat) (hm : m < S.bl.length) (hu : S.bl[m].used = true) : Calls Try.prog 27 #[.pointer (some ⟨h, 0, none⟩), .int .i64 m] w fun e w' => e = .returned (.int .i64 S.bl[m].at_) ∧ w = w' := by
  have HC := Lib.hid (c_has H m)
  rw [hasB_is hm hu] at HC
  have k1 := H.head.cell (i := 1) rfl
  obtain ⟨b, c, hv, c0, c1, c2⟩ := blk_cells H.own hm
  subst hv
  clear H hu c1 c2
  generalize S.bl[m].at_ = n at *
  go_enter Try.func27, Try.ntmps27
  go_wp2_with fail
  refine HC.out.mono ?_
  rintro e w' ⟨rfl, rfl⟩
  go_wp2
  go_ret
  exact ⟨rfl, rfl⟩
theorem c_FreeNo (H : HpAt w B h g vb S) (k : Int) (hk : hasB S k = false) : Calls Try.prog 28 #[.pointer (some ⟨h, 0, none⟩), .int .i64 k] w fun e w' => e = .returned (.int .i64 4) ∧ w = w' := by
  have HC := Lib.hid (c_has H k)
  rw [hk] at HC
  clear H hk
  go_enter Try.func28, Try.ntmps28
  go_wp2_with fail
  refine HC.out.mono ?_
  rintro e w' ⟨rfl, rfl⟩
  go_wp2
  go_ret
  exact ⟨rfl, rfl⟩
end

end Go.Proofs.Ytcecegcbkcdpjaa
