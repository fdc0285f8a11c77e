/-
  Contracts: slices.Reverse at bytes.
-/
import Derived.Test.YtdafncaehjipbaaLargeG
namespace Go.Proofs.Ytdafncaehjipbaa
open Go.RowKit
set_option linter.unusedVariables false
set_option maxHeartbeats 2000000
set_option maxRecDepth 20000

/-- Turned round from both ends, k places far. -/
def RevAt (l m : List Int) (k : Nat) : Prop := m.length = l.length ∧ ∀ p, p < l.length → m.getD p 0 = if p < k ∨ l.length - k ≤ p then l.getD (l.length - 1 - p) 0 else l.getD p 0
theorem getD_set2 {m : List Int} {i p : Nat} {v : Int} (hp : p < m.length) : (m.set i v).getD p 0 = if i = p then v else m.getD p 0 := by
  rw [List.getD_eq_getElem?_getD, List.getD_eq_getElem?_getD, List.getElem?_set]
  by_cases h : i = p
  · subst h; rw [if_pos rfl, if_pos hp, if_pos rfl]; rfl
  · rw [if_neg h, if_neg h]
theorem RevAt.next {l m : List Int} {k j : Nat} (h : RevAt l m k) (hj : l.length = k + 1 + j) (hkj : k < j) : RevAt l ((m.set k (m.getD j 0)).set j (m.getD k 0)) (k + 1) := by
  obtain ⟨h1, h2⟩ := h
  refine ⟨by simp [h1], fun p hp => ?_⟩
  rw [getD_set2 (by rw [List.length_set]; omega), getD_set2 (by omega), h2 k (by omega), h2 j (by omega), h2 p hp]
  rw [if_neg (show ¬ (k < k ∨ l.length - k ≤ k) by omega), if_neg (show ¬ (j < k ∨ l.length - k ≤ j) by omega)]
  by_cases e1 : j = p
  · subst e1
    rw [if_pos rfl, if_pos (by omega), show l.length - 1 - j = k from by omega]
  · rw [if_neg e1]
    by_cases e2 : k = p
    · subst e2
      rw [if_pos rfl, if_pos (by omega), show l.length - 1 - k = j from by omega]
    · rw [if_neg e2]
      by_cases e3 : p < k ∨ l.length - k ≤ p
      · rw [if_pos e3, if_pos (by omega)]
      · rw [if_neg e3, if_neg (by omega)]
theorem RevAt.done {l m : List Int} {k : Nat} (h : RevAt l m k) (hk : l.length ≤ 2 * k + 1) : m = l.reverse := by
  obtain ⟨h1, h2⟩ := h
  apply List.ext_getElem
  · simp [h1]
  · intro i hi hi2
    have := h2 i (by omega)
    rw [List.getD_eq_getElem?_getD, List.getElem?_eq_getElem hi] at this
    rw [List.getElem_reverse]
    simp only [Option.getD_some] at this
    rw [this]
    split
    · rw [List.getD_eq_getElem?_getD, List.getElem?_eq_getElem (by omega)]; rfl
    · rename_i hn
      have e : l.length - 1 - i = i := by omega
      simp only [e]
      rw [List.getD_eq_getElem?_getD, List.getElem?_eq_getElem (by omega)]; rfl

theorem c_Rev (g n c : Nat) (l : List Int) (w : World) (base : Nat) (h : w.ownsRow base 5 1 (.slice (some ⟨g, 0, none⟩) n c) n (l.map (Value.int .u8))) (hn : n ≤ 1000000) :
    Calls Try.prog 52 #[.slice (some ⟨g, 0, none⟩) n c] w fun e w' => e = .returned (.tuple #[]) ∧ w'.ownsRow base 5 1 (.slice (some ⟨g, 0, none⟩) n c) n (l.reverse.map (Value.int .u8)) ∧ Upd [g] w w' := by
  have HO := Lib.hid h
  clear h
  go_enter Try.func52, Try.ntmps52
  go_wp2
  go_loopw [2, 3] (fun i j wr => ∃ (k : Nat) (m : List Int), 2 * k ≤ n + 1 ∧ i = .int .i64 k ∧ j = .int .i64 ((n : Int) - 1 - k) ∧ Hid (wr.ownsRow base 5 1 (.slice (some ⟨g, 0, none⟩) n c) n (m.map (Value.int .u8))) ∧ Hid (RevAt l m k) ∧ Hid (Upd [g] w wr)) (fun i _ _ => n - (intOf i).toNat)
  case atStart =>
    refine ⟨0, l, by omega, rfl, by simp, HO.out, ⟨rfl, fun p hp => ?_⟩, Upd.refl _ _⟩
    rw [if_neg (by omega)]
  case round =>
    obtain ⟨k, m, hk, rfl, rfl, hown, hm, hup⟩ := hrel
    have hln : l.length = n := by have := HO.out.1; simpa using this
    by_cases hlt : 2 * k + 1 < n
    · obtain ⟨j, hj⟩ : ∃ j, n = k + 1 + j := ⟨n - 1 - k, by omega⟩
      have hij : (n : Int) - 1 - k = (j : Int) := by omega
      have hml : m.length = n := by have := hown.out.1; simpa using this
      have c1 := hown.out.cellAt k (by omega)
      have c2 := hown.out.cellAt j (by omega)
      rw [getD_map8 (by omega)] at c1 c2
      have f1 := hown.out.frozenAt k
      have f2 := hown.out.frozenAt j
      have hkj : (k : Int) < (j : Int) := by omega
      have hkn : k < n := by omega
      have hjn : j < n := by omega
      have hkj2 : k ≠ j := by omega
      have HNX := Lib.hid (hm.out.next (j := j) (by omega) (by omega))
      rw [hij]
      have HJ := Lib.hid hj
      have HST := Lib.hid (fun (u v : Value) => ((hown.out.stored k u).1.stored j v).1)
      clear hj hij hml
      generalize m.getD k 0 = x at *
      generalize m.getD j 0 = y at *
      go_wp2
      go_region
      go_wp2
      go_roundw
      case rel =>
        have hj := HJ.out
        refine ⟨k + 1, (m.set k y).set j x, by omega, by go_num, by go_num, ?_, HNX.out, ((hup.out.setCell (p := ⟨g, k, none⟩) (by simp) _).setCell (p := ⟨g, j, none⟩) (by simp) _).drew⟩
        show World.ownsRow _ _ _ _ _ _ _
        rw [List.map_set, List.map_set]
        exact HST.out _ _
      case measure => have hj := HJ.out; simp [intOf]; omega
    · have HD := Lib.hid (hm.out.done (by omega))
      have hle : ((k : Int) < (n : Int) - 1 - k) = False := eq_false (by omega)
      go_wp2
      go_end0
      exact ⟨rfl, by rw [← HD.out]; exact hown.out, hup.out⟩

theorem c_RevNil (w : World) : Calls Try.prog 52 #[.slice none 0 0] w fun e w' => e = .returned (.tuple #[]) ∧ w = w' := by
  go_enter Try.func52, Try.ntmps52
  go_wp2
  go_rounds 1
  go_end0
  exact ⟨rfl, rfl⟩

/-- The digits of a number in tens, the lowest first, as letters. -/
def dec (N : Nat) : List Int := if h : N < 10 then [((48 + N : Nat) : Int)] else ((48 + N % 10 : Nat) : Int) :: dec (N / 10)
termination_by N
decreasing_by omega

def textL (l : List Int) : List Int := if rightB l then (dec (valI l)).reverse else []

end Go.Proofs.Ytdafncaehjipbaa
