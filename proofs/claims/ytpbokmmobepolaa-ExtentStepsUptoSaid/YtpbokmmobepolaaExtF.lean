/-
  The law ExtentSectors.
-/
import Derived.Test.YtpbokmmobepolaaExtE
namespace Go.Proofs.Ytpbokmmobepolaa
open Go.RowKit Go.Maps
set_option linter.unusedVariables false
set_option maxHeartbeats 2000000

theorem c_RSectors (n : Nat) (w : World) (hn : n ≤ 1000000000) : Calls Try.prog 9 #[.int .i64 n] w fun e w' => e = .returned (.int .i64 (secs n)) ∧ w = w' := by
  have hs : secs n ≤ n + 1 := secs_le n
  have hs1 := secs_pos n
  have HR := Lib.hid (secs_room n)
  have HL := Lib.hid (show ∀ k, k < secs n → 1 ≤ k → 64 * k < n from fun k h1 h2 => by unfold secs at h1; omega)
  obtain ⟨m, hm⟩ : ∃ m, m = secs n := ⟨_, rfl⟩
  rw [← hm] at hs hs1 HR HL ⊢
  clear hm
  go_enter Try.func9, Try.ntmps9
  go_wp2
  go_loopw [3] (fun i wr => ∃ k : Nat, 1 ≤ k ∧ k ≤ m ∧ i = .int .i64 k ∧ w = wr) (fun i _ => m - (intOf i).toNat)
  case atStart => exact ⟨1, Nat.le_refl _, hs1, rfl, rfl⟩
  case round =>
    obtain ⟨k, hk1, hk2, rfl, rfl⟩ := hrel
    by_cases hlt : k < m
    · have h1 := HL.out k hlt hk1
      have i1 : (k : Int) * 64 < (n : Int) := by omega
      go_wp2_with fail
      go_roundw
      case rel => exact ⟨k + 1, by omega, by omega, by go_num, by trivial⟩
      case measure => simp [intOf]; omega
    · obtain rfl : m = k := by omega
      have h1 := HR.out
      have i1 : ¬ ((m : Int) * 64 < (n : Int)) := by omega
      go_wp2_with fail
      go_ret
      exact ⟨rfl, rfl⟩

theorem law_ExtentSectors (a0 : Int) (w : World) (w0 : (Lit.int .u16 a0).wf = true) :
    Calls Try.prog 3 #[.int .u16 a0] w fun e w' => e = .returned (.bool true) ∧ Below w.heap.size w w' := by
  obtain ⟨b0, b1⟩ := bounds_u16 w0
  obtain ⟨n, rfl⟩ := Int.eq_ofNat_of_zero_le b0
  have hn : n ≤ 65535 := by omega
  clear w0 b0 b1
  go_enter Try.func3, Try.ntmps3
  go_wp2_with fail
  refine (c_Sectors n _ (by omega)).mono ?_
  rintro e w' ⟨rfl, rfl⟩
  go_wp2_with fail
  refine (c_RSectors n _ (by omega)).mono ?_
  rintro e w' ⟨rfl, rfl⟩
  go_wp2_with fail
  refine (c_SectorsNeg _ _ (by omega) (by omega)).mono ?_
  rintro e w' ⟨rfl, rfl⟩
  go_wp2_with fail
  refine (c_known04 _).mono ?_
  rintro e w' ⟨rfl, bk⟩
  go_wp2
  go_ret
  exact ⟨rfl, bk⟩

end Go.Proofs.Ytpbokmmobepolaa
