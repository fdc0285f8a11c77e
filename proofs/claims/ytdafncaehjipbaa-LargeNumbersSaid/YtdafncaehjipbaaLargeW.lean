/-
  The law LargeInt.
-/
import Derived.Test.YtdafncaehjipbaaLargeV
namespace Go.Proofs.Ytdafncaehjipbaa
open Go.RowKit
set_option linter.unusedVariables false
set_option maxHeartbeats 2000000
set_option maxRecDepth 20000

theorem intO_digs {N : Nat} (h : N < 9223372036854775808) : intO (digs N) = true ∧ (digs N).length ≤ 8 := by
  have hl : (digs N).length ≤ 8 := digs_len (by omega)
  refine ⟨?_, hl⟩
  unfold intO
  rw [rightB_digs (by omega), valI_digs, decide_eq_true h]; rfl

theorem law_LargeInt (n : Int) (w : World) (w0 : (Lit.int .i64 n).wf = true) :
    Calls Try.prog 5 #[.int .i64 n] w fun e w' => e = .returned (.bool true) ∧ Below w.heap.size w w' := by
  have hb := bounds_i64 w0
  clear w0
  by_cases hn : n < 0
  · have q1 : ((n : Int) < 0) = True := eq_true hn
    have HO := Lib.hid (c_OfNeg n w hn)
    go_enter Try.func5, Try.ntmps5
    go_wp2_with fail
    refine HO.out.mono ?_
    rintro e w2 ⟨rfl, rfl⟩
    go_wp2_with fail
    refine (c_known13 _).mono ?_
    rintro e w2 ⟨rfl, b2⟩
    have HB2 := Lib.hid b2
    clear b2
    go_wp2
    go_ret
    exact ⟨rfl, HB2.out⟩
  · obtain ⟨N, rfl⟩ := Int.eq_ofNat_of_zero_le (show 0 ≤ n by omega)
    have hN : N < 9223372036854775808 := by omega
    have HO := Lib.hid (c_Of N w (by omega))
    have HI := Lib.hid (intO_digs hN)
    have q1 : ((N : Int) < 0) = False := eq_false hn
    clear hn
    go_enter Try.func5, Try.ntmps5
    go_wp2_with fail
    refine HO.out.mono ?_
    rintro e w2 ⟨a5, k5, c5, rfl, hn5, b5⟩
    rw [if_pos rfl] at hn5
    have hk : k5 ≤ 8 := by rw [hn5.1]; exact HI.out.2
    have HIN := Lib.hid (c_Int a5 k5 c5 (digs N) w2 hn5.sl (by omega))
    rw [HI.out.1, if_pos rfl, valI_digs] at HIN
    have HN5 := Lib.hid hn5
    have HB5 := Lib.hid b5
    have hk0 : (0 < k5) = (0 < N) := by
      rw [hn5.1]
      by_cases h : N = 0
      · subst h; rw [digs_0]; rfl
      · have : digs N ≠ [] := fun h2 => h (digs_nil.1 h2)
        have h3 : 0 < (digs N).length := List.length_pos_iff.2 this
        rw [eq_true h3, eq_true (show 0 < N by omega)]
    have hk1 : ((0 : Int) < (k5 : Int)) = (0 < N) := by rw [← hk0]; simp
    clear hn5 b5
    go_wp2_with fail
    refine HIN.out.mono ?_
    rintro e w3 ⟨rfl, b6⟩
    have HR := Lib.hid (c_Right a5 k5 c5 (digs N) w3 HN5.out.1 (HN5.out.2.2.2.below b6) (by omega))
    rw [rightB_digs (by have := HI.out.2; omega)] at HR
    have HB6 := Lib.hid (bNext HB5.out b6)
    clear b6
    go_wp2_with fail
    refine HR.out.mono ?_
    rintro e w4 ⟨rfl, rfl⟩
    by_cases hz : N = 0
    · subst hz
      have hk5 : k5 = 0 := by
        by_cases h : 0 < k5
        · have := hk0 ▸ h; omega
        · omega
      subst hk5
      clear hk0 hk1
      go_wp2_with fail
      refine (c_known13 _).mono ?_
      rintro e w7 ⟨rfl, b8⟩
      have HB8 := Lib.hid (bNext HB6.out b8)
      clear b8
      go_wp2
      go_ret
      exact ⟨rfl, HB8.out⟩
    · have hp : 0 < N := by omega
      have hp5 : 0 < k5 := hk0 ▸ hp
      have hpi : (0 : Int) < (N : Int) := by omega
      have hp5i : (0 : Int) < (k5 : Int) := by omega
      clear hk0 hk1
      go_wp2_with fail
      refine (c_known13 _).mono ?_
      rintro e w7 ⟨rfl, b8⟩
      have HB8 := Lib.hid (bNext HB6.out b8)
      clear b8
      go_wp2
      go_ret
      exact ⟨rfl, HB8.out⟩

end Go.Proofs.Ytdafncaehjipbaa
