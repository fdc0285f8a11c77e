/-
  The law LargeDiv.
-/
import Derived.Test.YtdafncaehjipbaaLargeX
namespace Go.Proofs.Ytdafncaehjipbaa
open Go.RowKit
set_option linter.unusedVariables false
set_option maxHeartbeats 2000000
set_option maxRecDepth 20000

theorem law_LargeDiv (a0 : Option Addr) (len0 cap0 : Nat) (z0 : List Int) (a1 : Option Addr) (len1 cap1 : Nat) (z1 : List Int) (w : World) (w0 : Came .u8 w a0 len0 cap0 z0) (w1 : Came .u8 w a1 len1 cap1 z1) :
    Calls Try.prog 4 #[.slice a0 len0 cap0, .slice a1 len1 cap1] w fun e w' => e = .returned (.bool true) ∧ Below w.heap.size w w' := by
  obtain ⟨l, hl⟩ := w0.sl
  obtain ⟨m, hm⟩ := w1.sl
  clear w0 w1
  by_cases hb0 : len0 > 60
  · have q1 : ((60 : Int) < len0) = True := eq_true (by omega)
    have q2 : ((len0 : Int) > 60) = True := eq_true (by omega)
    clear hl hm
    go_enter Try.func4, Try.ntmps4
    go_wp2_with fail
    refine (c_known13 _).mono ?_
    rintro e w2 ⟨rfl, b2⟩
    have HB2 := Lib.hid b2
    clear b2
    go_wp2
    go_ret
    exact ⟨rfl, HB2.out⟩
  · have q1 : ((60 : Int) < len0) = False := eq_false (by omega)
    have q2 : ((len0 : Int) > 60) = False := eq_false (by omega)
    by_cases hb1 : len1 > 60
    · have q3 : ((60 : Int) < len1) = True := eq_true (by omega)
      have q4 : ((len1 : Int) > 60) = True := eq_true (by omega)
      clear hl hm
      go_enter Try.func4, Try.ntmps4
      go_wp2_with fail
      refine (c_known13 _).mono ?_
      rintro e w2 ⟨rfl, b2⟩
      have HB2 := Lib.hid b2
      clear b2
      go_wp2
      go_ret
      exact ⟨rfl, HB2.out⟩
    · have q3 : ((60 : Int) < len1) = False := eq_false (by omega)
      have q4 : ((len1 : Int) > 60) = False := eq_false (by omega)
      have HS := Lib.hid (s_Div hl hm (by omega) (by omega))
      have HT := Lib.hid (fun (wz : World) (b : Below w.heap.size w wz) => r_Div (hl.below b) (hm.below b) (by omega) (by omega))
      obtain ⟨E, hE⟩ : ∃ E, E = divE l m := ⟨_, rfl⟩
      rw [← hE] at HS HT
      have hEE : (E == E) = true := by simp
      clear hl hm hb0 hb1 hE
      unfold DivPost at HS HT
      generalize (if E = 0 then valI l / valI m else 0) = Q at *
      generalize (if E = 0 then valI l % valI m else 0) = R at *
      go_enter Try.func4, Try.ntmps4
      go_wp2_with fail
      refine HS.out.mono ?_
      rintro e w2 ⟨a5, k5, c5, a6, k6, c6, rfl, hn5, hn6, b5⟩
      have HN5 := Lib.hid hn5
      have HN6 := Lib.hid hn6
      have HB5 := Lib.hid b5
      clear hn5 hn6 b5
      go_wp2_with fail
      refine (HT.out w2 HB5.out).mono ?_
      rintro e w3 ⟨a7, k7, c7, a8, k8, c8, rfl, hn7, hn8, b6⟩
      have HN7 := Lib.hid hn7
      have HN8 := Lib.hid hn8
      have HN5 := Lib.hid (HN5.out.below b6)
      have HN6 := Lib.hid (HN6.out.below b6)
      have HB6 := Lib.hid (bNext HB5.out b6)
      clear hn7 hn8 b6
      go_wp2_with fail
      refine (s_Same HN5.out.sl HN7.out.sl).mono ?_
      rintro e w4 ⟨rfl, rfl⟩
      rw [decide_eq_true rfl]
      go_wp2_with fail
      refine (s_Same HN6.out.sl HN8.out.sl).mono ?_
      rintro e w4 ⟨rfl, rfl⟩
      rw [decide_eq_true rfl]
      go_wp2_with fail
      refine (c_known13 _).mono ?_
      rintro e w7 ⟨rfl, b8⟩
      have HB8 := Lib.hid (bNext HB6.out b8)
      clear b8
      go_wp2
      go_ret
      exact ⟨rfl, HB8.out⟩

end Go.Proofs.Ytdafncaehjipbaa
