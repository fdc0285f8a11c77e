/-
  The law LargeSub.
-/
import Derived.Test.YtdafncaehjipbaaLargeT
namespace Go.Proofs.Ytdafncaehjipbaa
open Go.RowKit
set_option linter.unusedVariables false
set_option maxHeartbeats 2000000
set_option maxRecDepth 20000

theorem Came.sl {w : World} {a : Option Addr} {n c : Nat} {z : List Int} (h : Came .u8 w a n c z) : ∃ l, SlAt w a n c l := by
  obtain ⟨l, el, hc0, hm0, hr0, hw0⟩ := h.reads
  exact ⟨l, el, hr0, fun x hx => bounds_u8 (hw0 x hx), hc0, by unfold maxLen at hm0; omega⟩

theorem rightB_digs {N : Nat} (h : (digs N).length ≤ 400) : rightB (digs N) = true :=
  decide_eq_true ⟨h, (canon_iff (byt_digs N)).1 (canon_digs N)⟩
theorem digs_mono {A B : Nat} (h : A ≤ B) : (digs A).length ≤ (digs B).length := by
  by_cases hl : (digs A).length ≤ (digs B).length
  · exact hl
  · have := digs_len_lt (a := B) (b := A) (by omega)
    omega
theorem subE_zero {l m : List Int} (hb : Byt l) (h : subE l m = 0) : (digs (valI l)).length ≤ 400 := by
  unfold subE at h
  split at h
  · cases h
  · rename_i h2
    have hr : rightB l = true := by
      cases h3 : rightB l with
      | true => rfl
      | false => exact absurd (.inl h3) h2
    have := right_digs hb hr
    rw [this.1]; exact this.2
theorem cmpI_le {A B : Nat} (h : A ≤ B) : cmpI A B = 0 ∨ cmpI A B = -1 := by
  unfold cmpI
  by_cases h1 : A < B
  · rw [if_pos h1]; exact .inr rfl
  · rw [if_neg h1, if_neg (by omega)]; exact .inl rfl

theorem law_LargeSub (a0 : Option Addr) (len0 cap0 : Nat) (z0 : List Int) (a1 : Option Addr) (len1 cap1 : Nat) (z1 : List Int) (w : World) (w0 : Came .u8 w a0 len0 cap0 z0) (w1 : Came .u8 w a1 len1 cap1 z1) :
    Calls Try.prog 3 #[.slice a0 len0 cap0, .slice a1 len1 cap1] w fun e w' => e = .returned (.bool true) ∧ Below w.heap.size w w' := by
  obtain ⟨l, hl⟩ := w0.sl
  obtain ⟨m, hm⟩ := w1.sl
  clear w0 w1
  by_cases hb0 : len0 > 420
  · have q1 : ((420 : Int) < len0) = True := eq_true (by omega)
    have q2 : ((len0 : Int) > 420) = True := eq_true (by omega)
    clear hl hm
    go_enter Try.func3, Try.ntmps3
    go_wp2_with fail
    refine (c_known13 _).mono ?_
    rintro e w2 ⟨rfl, b2⟩
    have HB2 := Lib.hid b2
    clear b2
    go_wp2
    go_ret
    exact ⟨rfl, HB2.out⟩
  · have q1 : ((420 : Int) < len0) = False := eq_false (by omega)
    have q2 : ((len0 : Int) > 420) = False := eq_false (by omega)
    by_cases hb1 : len1 > 420
    · have q3 : ((420 : Int) < len1) = True := eq_true (by omega)
      have q4 : ((len1 : Int) > 420) = True := eq_true (by omega)
      clear hl hm
      go_enter Try.func3, Try.ntmps3
      go_wp2_with fail
      refine (c_known13 _).mono ?_
      rintro e w2 ⟨rfl, b2⟩
      have HB2 := Lib.hid b2
      clear b2
      go_wp2
      go_ret
      exact ⟨rfl, HB2.out⟩
    · have q3 : ((420 : Int) < len1) = False := eq_false (by omega)
      have q4 : ((len1 : Int) > 420) = False := eq_false (by omega)
      have HN := Lib.hid (show len0 ≤ 420 ∧ len1 ≤ 420 from by omega)
      have HH := Lib.hid (And.intro hl hm)
      have HS := Lib.hid (s_Sub hl hm (by omega) (by omega))
      have HE0 := Lib.hid (subE_zero (m := m) hl.byt)
      obtain ⟨E, hE⟩ : ∃ E, E = subE l m := ⟨_, rfl⟩
      have HT := Lib.hid (fun (wz : World) (b : Below w.heap.size w wz) => r_Sub (hl.below b) (hm.below b) (by omega) (by omega))
      rw [← hE] at HS HT HE0
      have hEE : (E == E) = true := by simp
      clear hl hm hb0 hb1 hE
      by_cases h0 : E = 0
      · subst h0
        go_enter Try.func3, Try.ntmps3
        go_wp2_with fail
        refine HS.out.mono ?_
        rintro e w2 ⟨a5, k5, c5, rfl, hn5, b5⟩
        rw [if_pos rfl] at hn5
        have HN5 := Lib.hid hn5
        have HB5 := Lib.hid b5
        clear hn5 b5
        go_wp2_with fail
        refine (HT.out w2 HB5.out).mono ?_
        rintro e w3 ⟨a6, k6, c6, rfl, hn6, b6⟩
        rw [if_pos rfl] at hn6
        have HN6 := Lib.hid hn6
        have HN5 := Lib.hid (HN5.out.below b6)
        have HB6 := Lib.hid (bNext HB5.out b6)
        clear hn6 b6
        go_wp2_with fail
        refine (s_Same HN5.out.sl HN6.out.sl).mono ?_
        rintro e w4 ⟨rfl, rfl⟩
        rw [decide_eq_true rfl]
        have hk5 : k5 ≤ 400 := by
          rw [HN5.out.1]
          exact Nat.le_trans (digs_mono (Nat.sub_le _ _)) (HE0.out (by first | trivial | rfl))
        go_wp2_with fail
        refine (s_Cmp HN5.out.sl (HH.out.1.below HB6.out) (by omega) (by have := HN.out; omega)).mono ?_
        rw [valI_digs]
        have hcmp := cmpI_le (Nat.sub_le (valI l) (valI m))
        rintro e w5 ⟨rfl, b7⟩
        have HC := Lib.hid (c_Right a5 k5 c5 (digs (valI l - valI m)) w5 HN5.out.1 (HN5.out.2.2.2.below b7) (by omega))
        rw [rightB_digs (by rw [← HN5.out.1]; exact hk5)] at HC
        have HB7 := Lib.hid (bNext HB6.out b7)
        generalize cmpI (valI l - valI m) (valI l) = C at *
        have hC : (C ≤ 0) = True := eq_true (by omega)
        clear b7 hcmp
        go_wp2_with fail
        refine HC.out.mono ?_
        rintro e w6 ⟨rfl, rfl⟩
        go_wp2_with fail
        refine (c_known13 _).mono ?_
        rintro e w7 ⟨rfl, b8⟩
        have HB8 := Lib.hid (bNext HB7.out b8)
        clear b8
        go_wp2
        go_ret
        exact ⟨rfl, HB8.out⟩
      · have hE1 : (E == 0) = false := by simpa using h0
        have hE2 : (E != 0) = true := by simpa using h0
        go_enter Try.func3, Try.ntmps3
        go_wp2_with fail
        refine HS.out.mono ?_
        rintro e w2 ⟨a5, k5, c5, rfl, hn5, b5⟩
        rw [if_neg h0] at hn5
        have HN5 := Lib.hid hn5
        have HB5 := Lib.hid b5
        clear hn5 b5
        go_wp2_with fail
        refine (HT.out w2 HB5.out).mono ?_
        rintro e w3 ⟨a6, k6, c6, rfl, hn6, b6⟩
        rw [if_neg h0] at hn6
        have HN6 := Lib.hid hn6
        have HN5 := Lib.hid (HN5.out.below b6)
        have HB6 := Lib.hid (bNext HB5.out b6)
        clear hn6 b6
        go_wp2_with fail
        refine (s_Same HN5.out.sl HN6.out.sl).mono ?_
        rintro e w4 ⟨rfl, rfl⟩
        rw [decide_eq_true rfl]
        go_wp2_with fail
        refine (c_known13 _).mono ?_
        rintro e w7 ⟨rfl, b8⟩
        have HB8 := Lib.hid (bNext HB6.out b8)
        clear b8
        go_wp2
        go_ret
        exact ⟨rfl, HB8.out⟩

end Go.Proofs.Ytdafncaehjipbaa
