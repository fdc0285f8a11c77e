/-
  Contracts of package word and of its reference: the functions that only reckon.
-/
import Derived.Test.YtdedidjobjdekaaGen
namespace Go.Proofs.Ytdedidjobjdekaa
open Go.RowKit
set_option linter.unusedVariables false

def smallV (n : Int) : Int := if n < -1073741824 ∨ n > 1073741823 then 0 else 2 * n + 1
def smallE (n : Int) : Int := if n < -1073741824 ∨ n > 1073741823 then 2 else 0
def wid16 (o : Int) : Int := if o < 32768 then o else o - 65536
def numIs (o : Int) : Bool := decide (o % 2 = 1 ∧ -2147483647 ≤ o ∧ o ≤ 2147483647)
def numV (o : Int) : Int := if o % 2 = 1 ∧ -2147483647 ≤ o ∧ o ≤ 2147483647 then o / 2 else 0
def namIs (o : Int) : Bool := decide (o % 2 = 0 ∧ 2 ≤ o ∧ o ≤ 2147483646)
def namV (o : Int) : Int := if o % 2 = 0 ∧ 2 ≤ o ∧ o ≤ 2147483646 then o / 2 else 0
def oopIs (o : Int) : Bool := decide (1 ≤ o ∧ o ≤ 1073741823)
def oopV (o : Int) : Int := if 1 ≤ o ∧ o ≤ 1073741823 then 2 * o else 0
def narIs (o : Int) : Bool := decide (o % 2 = 1 ∧ -32767 ≤ o ∧ o ≤ 32767)
def narV (o : Int) : Int := if o % 2 = 1 ∧ -32767 ≤ o ∧ o ≤ 32767 then o / 2 * 2 % 65536 + 1 else 0
def widIs (o : Int) : Bool := decide (o % 2 = 1 ∧ 0 ≤ o ∧ o ≤ 65535)
def widV (o : Int) : Int := if o % 2 = 1 ∧ 0 ≤ o ∧ o ≤ 65535 then wid16 o else 0
theorem smallV_no {n : Int} (h : n < -1073741824 ∨ n > 1073741823) : smallV n = 0 := by simp [smallV, h]
theorem smallE_no {n : Int} (h : n < -1073741824 ∨ n > 1073741823) : smallE n = 2 := by simp [smallE, h]
theorem smallV_yes {n : Int} (h : -1073741824 ≤ n ∧ n ≤ 1073741823) : smallV n = 2 * n + 1 := by unfold smallV; rw [if_neg (by omega)]
theorem smallE_yes {n : Int} (h : -1073741824 ≤ n ∧ n ≤ 1073741823) : smallE n = 0 := by unfold smallE; rw [if_neg (by omega)]
theorem numIs_yes {o : Int} (h : o % 2 = 1 ∧ -2147483647 ≤ o ∧ o ≤ 2147483647) : numIs o = true := by unfold numIs; exact decide_eq_true h
theorem numIs_no {o : Int} (h : ¬ (o % 2 = 1 ∧ -2147483647 ≤ o ∧ o ≤ 2147483647)) : numIs o = false := by unfold numIs; exact decide_eq_false h
theorem numV_yes {o : Int} (h : o % 2 = 1 ∧ -2147483647 ≤ o ∧ o ≤ 2147483647) : numV o = o / 2 := by unfold numV; rw [if_pos h]
theorem numV_no {o : Int} (h : ¬ (o % 2 = 1 ∧ -2147483647 ≤ o ∧ o ≤ 2147483647)) : numV o = 0 := by unfold numV; rw [if_neg h]
theorem namIs_yes {o : Int} (h : o % 2 = 0 ∧ 2 ≤ o ∧ o ≤ 2147483646) : namIs o = true := by unfold namIs; exact decide_eq_true h
theorem namIs_no {o : Int} (h : ¬ (o % 2 = 0 ∧ 2 ≤ o ∧ o ≤ 2147483646)) : namIs o = false := by unfold namIs; exact decide_eq_false h
theorem namV_yes {o : Int} (h : o % 2 = 0 ∧ 2 ≤ o ∧ o ≤ 2147483646) : namV o = o / 2 := by unfold namV; rw [if_pos h]
theorem namV_no {o : Int} (h : ¬ (o % 2 = 0 ∧ 2 ≤ o ∧ o ≤ 2147483646)) : namV o = 0 := by unfold namV; rw [if_neg h]
theorem oopIs_yes {o : Int} (h : 1 ≤ o ∧ o ≤ 1073741823) : oopIs o = true := by unfold oopIs; exact decide_eq_true h
theorem oopIs_no {o : Int} (h : ¬ (1 ≤ o ∧ o ≤ 1073741823)) : oopIs o = false := by unfold oopIs; exact decide_eq_false h
theorem oopV_yes {o : Int} (h : 1 ≤ o ∧ o ≤ 1073741823) : oopV o = 2 * o := by unfold oopV; rw [if_pos h]
theorem oopV_no {o : Int} (h : ¬ (1 ≤ o ∧ o ≤ 1073741823)) : oopV o = 0 := by unfold oopV; rw [if_neg h]
theorem narIs_yes {o : Int} (h : o % 2 = 1 ∧ -32767 ≤ o ∧ o ≤ 32767) : narIs o = true := by unfold narIs; exact decide_eq_true h
theorem narIs_no {o : Int} (h : ¬ (o % 2 = 1 ∧ -32767 ≤ o ∧ o ≤ 32767)) : narIs o = false := by unfold narIs; exact decide_eq_false h
theorem narV_yes {o : Int} (h : o % 2 = 1 ∧ -32767 ≤ o ∧ o ≤ 32767) : narV o = o / 2 * 2 % 65536 + 1 := by unfold narV; rw [if_pos h]
theorem narV_no {o : Int} (h : ¬ (o % 2 = 1 ∧ -32767 ≤ o ∧ o ≤ 32767)) : narV o = 0 := by unfold narV; rw [if_neg h]
theorem widIs_yes {o : Int} (h : o % 2 = 1 ∧ 0 ≤ o ∧ o ≤ 65535) : widIs o = true := by unfold widIs; exact decide_eq_true h
theorem widIs_no {o : Int} (h : ¬ (o % 2 = 1 ∧ 0 ≤ o ∧ o ≤ 65535)) : widIs o = false := by unfold widIs; exact decide_eq_false h
theorem widV_yes {o : Int} (h : o % 2 = 1 ∧ 0 ≤ o ∧ o ≤ 65535) : widV o = wid16 o := by unfold widV; rw [if_pos h]
theorem widV_no {o : Int} (h : ¬ (o % 2 = 1 ∧ 0 ≤ o ∧ o ≤ 65535)) : widV o = 0 := by unfold widV; rw [if_neg h]

theorem tmod2_even {o : Int} (h : o % 2 = 0) : (o.tmod 2 == 0) = true := by
  have : o.tmod 2 = 0 := Int.tmod_eq_zero_of_dvd (Int.dvd_of_emod_eq_zero h)
  simp [this]
theorem tmod2_odd {o : Int} (h : o % 2 = 1) : (o.tmod 2 == 0) = false := by
  have h2 : o.tmod 2 ≠ 0 := fun e => by
    have := Int.emod_eq_zero_of_dvd (Int.dvd_of_tmod_eq_zero e)
    omega
  simp [h2]
theorem tmod2_even' {o : Int} (h : o % 2 = 0) : (o.tmod 2 != 0) = false := by
  have := tmod2_even h
  simp only [bne, this, Bool.not_true]
theorem tmod2_odd' {o : Int} (h : o % 2 = 1) : (o.tmod 2 != 0) = true := by
  have := tmod2_odd h
  simp only [bne, this, Bool.not_false]
theorem tdiv2_even {o : Int} (h : o % 2 = 0) : o.tdiv 2 = o / 2 := by
  rw [Int.tdiv_eq_ediv_of_dvd (Int.dvd_of_emod_eq_zero h)]

set_option maxHeartbeats 400000

theorem c_Number (o : Int) (w : World) (b0 : -9223372036854775808 ≤ o) (b1 : o ≤ 9223372036854775807) : Calls Try.prog 49 #[.int .i64 o] w fun e w' => e = .returned (.tuple #[.int .i64 (numV o), .bool (numIs o)]) ∧ w = w' := by
  have ha := i64_and1 o
  by_cases hp : o % 2 = 0
  · rw [numV_no (by omega), numIs_no (by omega)]
    have hb : (o % 2 == 0) = true := by simp [hp]
    clear hp
    go_enter Try.func49, Try.ntmps49; go_wp2; go_ret2; exact ⟨rfl, rfl⟩
  · have hb : (o % 2 == 0) = false := by simp; omega
    have hp1 : o % 2 = 1 := by omega
    by_cases h1 : o < -2147483648
    · rw [numV_no (by omega), numIs_no (by omega)]
      have h2 : o / 2 < -1073741824 := by omega
      clear hp hp1 h1
      go_enter Try.func49, Try.ntmps49; go_wp2; go_ret2; exact ⟨rfl, rfl⟩
    · have h2 : ¬ o / 2 < -1073741824 := by omega
      by_cases h3 : 2147483647 < o
      · rw [numV_no (by omega), numIs_no (by omega)]
        have h4 : 1073741823 < o / 2 := by omega
        clear hp hp1 h1 h3
        go_enter Try.func49, Try.ntmps49; go_wp2; go_ret2; exact ⟨rfl, rfl⟩
      · rw [numV_yes (by omega), numIs_yes (by omega)]
        have h4 : ¬ 1073741823 < o / 2 := by omega
        clear hp hp1 h1 h3
        go_enter Try.func49, Try.ntmps49; go_wp2; go_ret2; exact ⟨rfl, rfl⟩

theorem c_Named (o : Int) (w : World) (b0 : -9223372036854775808 ≤ o) (b1 : o ≤ 9223372036854775807) : Calls Try.prog 35 #[.int .i64 o] w fun e w' => e = .returned (.tuple #[.int .i64 (namV o), .bool (namIs o)]) ∧ w = w' := by
  have ha := i64_and1 o
  by_cases hp : o % 2 = 1
  · rw [namV_no (by omega), namIs_no (by omega)]
    have hb : (o % 2 == 1) = true := by simp [hp]
    clear hp
    go_enter Try.func35, Try.ntmps35; go_wp2; go_ret2; exact ⟨rfl, rfl⟩
  · have hb : (o % 2 == 1) = false := by simp; omega
    have hp1 : o % 2 = 0 := by omega
    by_cases h1 : o ≤ 0
    · rw [namV_no (by omega), namIs_no (by omega)]
      clear hp hp1
      go_enter Try.func35, Try.ntmps35; go_wp2; go_ret2; exact ⟨rfl, rfl⟩
    · by_cases h3 : 2147483648 ≤ o
      · rw [namV_no (by omega), namIs_no (by omega)]
        clear hp hp1
        go_enter Try.func35, Try.ntmps35; go_wp2; go_ret2; exact ⟨rfl, rfl⟩
      · rw [namV_yes (by omega), namIs_yes (by omega)]
        clear hp hp1
        go_enter Try.func35, Try.ntmps35; go_wp2; go_ret2; exact ⟨rfl, rfl⟩

theorem r_Named (o : Int) (w : World) (b0 : -9223372036854775808 ≤ o) (b1 : o ≤ 9223372036854775807) : Calls Try.prog 39 #[.int .i64 o] w fun e w' => e = .returned (.tuple #[.int .i64 (namV o), .bool (namIs o)]) ∧ w = w' := by
  by_cases hp : o % 2 = 1
  · rw [namV_no (by omega), namIs_no (by omega)]
    have hb := tmod2_odd' hp
    have hb2 : (o % 2 != 0) = true := by simp [hp]
    clear hp
    go_enter Try.func39, Try.ntmps39; go_wp2; go_ret2; exact ⟨rfl, rfl⟩
  · have hp1 : o % 2 = 0 := by omega
    have hb := tmod2_even' hp1
    have hb2 : (o % 2 != 0) = false := by simp [hp1]
    by_cases h1 : o < 2
    · rw [namV_no (by omega), namIs_no (by omega)]
      clear hp hp1
      go_enter Try.func39, Try.ntmps39; go_wp2; go_ret2; exact ⟨rfl, rfl⟩
    · by_cases h3 : 2147483646 < o
      · rw [namV_no (by omega), namIs_no (by omega)]
        clear hp hp1
        go_enter Try.func39, Try.ntmps39; go_wp2; go_ret2; exact ⟨rfl, rfl⟩
      · rw [namV_yes (by omega), namIs_yes (by omega)]
        clear hp hp1
        go_enter Try.func39, Try.ntmps39; go_wp2; go_ret2; exact ⟨rfl, rfl⟩

end Go.Proofs.Ytdedidjobjdekaa
