/-
  Contracts of the document's package websterref13: Right, bare, told, Of; the laws' long.
-/
import Derived.Test.YtdafncaehjipbaaLargeN
namespace Go.Proofs.Ytdafncaehjipbaa
open Go.RowKit
set_option linter.unusedVariables false
set_option maxHeartbeats 2000000
set_option maxRecDepth 20000

theorem r_Right (a : Option Addr) (n c : Nat) (l : List Int) (w : World) (e0 : n = l.length) (h : Reads w a c (l.map (Value.int .u8))) (hm : n ≤ 1000000000000) :
    Calls Try.prog 29 #[.slice a n c] w fun e w' => e = .returned (.bool (rightB l)) ∧ w = w' := by
  subst e0
  by_cases h4 : l.length ≤ 400
  · by_cases h0 : l = []
    · have hr : rightB l = true := decide_eq_true ⟨h4, .inl h0⟩
      rw [hr]
      subst h0
      simp only [List.length_nil] at *
      clear h
      go_enter Try.func29, Try.ntmps29
      go_wp2
      go_ret
      exact ⟨rfl, rfl⟩
    · obtain ⟨m, hm1⟩ : ∃ m, l.length = m + 1 := ⟨l.length - 1, by have : l.length ≠ 0 := fun h => h0 (List.eq_nil_of_length_eq_zero h); omega⟩
      obtain ⟨b0, o0, rfl, _, hc0⟩ := h.at (by simp; omega)
      have k0 := hc0 m _ (getD_map8 (by omega))
      have hr : rightB l = !(l.getD m 0 == 0) := by
        unfold rightB
        rw [hm1, Nat.add_sub_cancel]
        by_cases hx : l.getD m 0 = 0
        · rw [hx]; exact decide_eq_false (by simp [h0])
        · have : (l.getD m 0 == 0) = false := by simpa using hx
          rw [this]; exact decide_eq_true ⟨by omega, .inr hx⟩
      rw [hr, hm1]
      rw [hm1] at h4
      clear hc0 h hr h0 hm1
      generalize l.getD m 0 = x at *
      by_cases hx : x = 0
      · subst hx
        go_enter Try.func29, Try.ntmps29
        go_wp2
        go_ret
        exact ⟨rfl, rfl⟩
      · have q1 : (x == 0) = false := by simpa using hx
        have q2 : (x != 0) = true := by simpa using hx
        rw [q1]
        go_enter Try.func29, Try.ntmps29
        go_wp2
        go_ret
        exact ⟨rfl, rfl⟩
  · have hr : rightB l = false := decide_eq_false (fun h => h4 h.1)
    rw [hr]
    have q1 : ((l.length : Int) ≤ 400) = False := eq_false (by omega)
    have q2 : ((l.length : Int) == 0) = false := by simp; rintro rfl; simp at h4
    have q3 : (l.length == 0) = false := by simp; rintro rfl; simp at h4
    clear hr h
    generalize l.length = n at *
    go_enter Try.func29, Try.ntmps29
    go_wp2
    go_ret
    exact ⟨rfl, rfl⟩


theorem r_bare {a : Option Addr} {n c : Nat} {l : List Int} {w : World} (h : SlAt w a n c l) (hm : n ≤ 1000000000) :
    Calls Try.prog 42 #[.slice a n c] w fun e w' => (∃ k, e = .returned (.slice a k c) ∧ NumAt w' a k c (valI l)) ∧ w = w' := by
  obtain ⟨e0, h, hb, hc, hcm⟩ := h
  subst e0
  have HR := Lib.hid h
  have HB := Lib.hid hb
  clear h hb
  go_enter Try.func42, Try.ntmps42
  go_wp2
  go_loop [0] (fun i => ∃ k : Nat, k ≤ l.length ∧ i = .slice a k c ∧ Hid (digs (valI (l.take k)) = digs (valI l))) (fun i => lenV i)
  case atStart => exact ⟨l.length, Nat.le_refl _, rfl, by show _ = _; rw [List.take_of_length_le (Nat.le_refl _)]⟩
  case round =>
    obtain ⟨k, hk, rfl, hd⟩ := hrel
    by_cases hk0 : k = 0
    · subst hk0
      have hn : digs (valI l) = [] := by rw [← hd.out]; simp [valI, digs_0]
      have HN := Lib.hid (show NumAt w a 0 c (valI l) from ⟨by rw [hn]; rfl, Nat.zero_le _, hcm, by
        rw [hn]
        have := reads_preL HR.out 0
        simpa using this⟩)
      clear hn hd
      go_wp2
      go_ret
      exact ⟨⟨0, rfl, HN.out⟩, rfl⟩
    · obtain ⟨m, rfl⟩ : ∃ m, k = m + 1 := ⟨k - 1, by omega⟩
      obtain ⟨b0, o0, rfl, _, hc0⟩ := HR.out.at (by simp; omega)
      have k0 := hc0 m _ (getD_map8 (by omega))
      by_cases hx : l.getD m 0 = 0
      · have HD := Lib.hid (show digs (valI (l.take m)) = digs (valI l) from by rw [digs_step HB.out (by omega) hx]; exact hd.out)
        rw [hx] at k0
        clear hc0 hd hx
        go_wp2
        go_round
        case rel => exact ⟨m, by omega, by go_num, HD.out⟩
        case measure => simp [lenV]
      · have HX := Lib.hid (show digs (valI l) = l.take (m + 1) from by rw [← hd.out]; exact digs_stop HB.out (by omega) hx)
        have hq : (l.getD m 0 == 0) = false := by simpa using hx
        have HN := Lib.hid (show NumAt w (some ⟨b0, o0, none⟩) (m + 1) c (valI l) from by
          have hlen : (l.take (m + 1)).length = m + 1 := by rw [List.length_take]; omega
          refine ⟨by rw [HX.out, hlen], by omega, hcm, ?_⟩
          rw [HX.out]
          have := reads_preL HR.out (m + 1)
          rw [← List.map_take] at this
          exact this)
        clear hc0 hd hx
        generalize l.getD m 0 = x at *
        go_wp2
        go_ret
        exact ⟨⟨m + 1, rfl, HN.out⟩, rfl⟩

theorem r_told {a : Option Addr} {n c N : Nat} {w : World} (h : NumAt w a n c N) (hm : n ≤ 1000000000) :
    Calls Try.prog 48 #[.slice a n c] w (ResPost w (fullE N) N) := by
  have HQ := Lib.hid h
  by_cases hk : n ≤ 400
  · have hE : fullE N = 0 := by unfold fullE; rw [if_pos (by rw [← h.1]; exact hk)]
    have g1 : ((n : Int) > 400) = False := eq_false (by omega)
    have g2 : ((400 : Int) < n) = False := eq_false (by omega)
    have g3 : (400 < n) = False := eq_false (by omega)
    have HEE := Lib.hid hE
    clear h hE
    go_enter Try.func48, Try.ntmps48
    go_wp2
    go_ret2
    exact ⟨a, n, c, by rw [HEE.out]; rfl, by rw [HEE.out, if_pos rfl]; exact HQ.out, Below.refl _ _⟩
  · have hE : fullE N = 3 := by unfold fullE; rw [if_neg (by rw [← h.1]; exact hk)]
    have g1 : ((n : Int) > 400) = True := eq_true (by omega)
    have g2 : ((400 : Int) < n) = True := eq_true (by omega)
    have g3 : (400 < n) = True := eq_true (by omega)
    have HEE := Lib.hid hE
    clear h hE
    go_enter Try.func48, Try.ntmps48
    go_wp2
    go_ret2
    exact ⟨none, 0, 0, by rw [HEE.out]; rfl, by rw [HEE.out, if_neg (by decide)]; exact numAt_nil w, Below.refl _ _⟩

theorem r_OfNeg (x : Int) (w : World) (h : x < 0) : Calls Try.prog 34 #[.int .i64 x] w fun e w' => e = .returned (.tuple #[.slice none 0 0, .int .i64 2]) ∧ w = w' := by
  go_enter Try.func34, Try.ntmps34
  go_wp2
  go_ret2
  exact ⟨rfl, rfl⟩

theorem r_Of (N : Nat) (w : World) (h : N ≤ 9223372036854775807) : Calls Try.prog 34 #[.int .i64 N] w (ResPost w 0 N) := by
  have hn : ((N : Int) < 0) = False := eq_false (by omega)
  go_enter Try.func34, Try.ntmps34
  go_wp2
  clear hn
  go_loopw [0, 4] (fun i v wr => ∃ (q : Nat) (o : List Int), q ≤ N ∧ i = .int .i64 q ∧ Hid (wr.ownsRow w.heap.size 5 1 v o.length (o.map (Value.int .u8))) ∧ Hid (digs N = o ++ digs q ∧ o.length ≤ 8) ∧ Hid (Below w.heap.size w wr)) (fun i _ _ => (intOf i).toNat)
  case atStart => exact ⟨N, [], Nat.le_refl _, rfl, World.ownsRow_nil _ _ _ _, ⟨rfl, by simp⟩, Below.refl _ _⟩
  case round =>
    obtain ⟨q, o, hq, rfl, hown, hd, hbel⟩ := hrel
    by_cases h0 : q = 0
    · subst h0
      have hdo : digs N = o := by have := hd.out.1; rw [digs_0, List.append_nil] at this; exact this
      obtain ⟨a, c, rfl, hr, hc, -⟩ := owns_reads hown.out
      have hcm : c ≤ 9223372036854775807 := by
        rcases hown.out.2 with ⟨h, _⟩ | ⟨g, cap, cur, hv, _, _, _, hm', _⟩
        · simp only [Value.slice.injEq] at h; omega
        · simp only [Value.slice.injEq] at hv; unfold maxLen at hm'; omega
      have HR := Lib.hid (And.intro hr (And.intro hc hcm))
      have HD := Lib.hid hdo
      clear hd hown hdo hr hc hcm
      go_wp2
      go_ret2
      exact ⟨a, o.length, c, rfl, by rw [if_pos rfl]; exact ⟨by rw [HD.out], HR.out.2.1, HR.out.2.2, by rw [HD.out]; exact HR.out.1⟩, hbel.out⟩
    · have hdq := digs_pos h0
      have hol : o.length + 1 ≤ 8 := by
        have h1 : (digs N).length ≤ 8 := digs_len (by omega)
        rw [hd.out.1, hdq] at h1
        simp only [List.length_append, List.length_cons] at h1
        omega
      have HD := Lib.hid (show digs N = (o ++ [((q % 256 : Nat) : Int)]) ++ digs (q / 256) from by rw [hd.out.1, hdq, List.append_assoc]; rfl)
      have hsz := hbel.out.size
      have HOL := Lib.hid hol
      obtain ⟨n, hn⟩ : ∃ n, n = o.length := ⟨_, rfl⟩
      rw [← hn] at hown hol
      have HNN := Lib.hid hn
      clear hd hdq hn
      go_wp2_with (at_builtin; refine wpList_app rfl _ _ 22 rfl w.heap.size 5 (.int .u8 0) 1 1 Try.underlying22 inf_u8L rfl (by decide) _ _ _ rfl (hown.out.alloc _) _ 1 1 [.int .u8 ((q : Int) % 256)] rfl rfl (Reads.madeAt rfl) (by simp [Value.oneCell']) (by unfold maxLen; omega) (by omega) (by simp; omega) ?_)
      intro v' w3 own3 gr3
      have hlo := hown.out.lt
      have HB3 := Lib.hid ((hbel.out.alloc hsz _).grown gr3 (by simp; omega) (fun k hk => (hlo k hk).1))
      have HO3 : Hid (w3.ownsRow w.heap.size 5 1 v' (o ++ [((q % 256 : Nat) : Int)]).length ((o ++ [((q % 256 : Nat) : Int)]).map (Value.int .u8))) := by
        rw [List.map_append, List.length_append, ← HNN.out]
        exact own3
      clear gr3 hlo own3 hown hbel
      go_wp2
      go_roundw
      case rel => exact ⟨q / 256, o ++ [((q % 256 : Nat) : Int)], by omega, by go_num, HO3.out, ⟨HD.out, by rw [List.length_append]; exact HOL.out⟩, HB3.out⟩
      case measure => simp [intOf]; omega

theorem c_long13 (a0 a1 : Option Addr) (n0 n1 c0 c1 : Nat) (w : World) (hm0 : n0 ≤ 1000000000000) (hm1 : n1 ≤ 1000000000000) :
    Calls Try.prog 23 #[.slice a0 n0 c0, .slice a1 n1 c1] w fun e w' => e = .returned (.bool (decide (n0 > 420 ∨ n1 > 420 ∨ n0 * n1 > 40000))) ∧ w = w' := by
  by_cases h1 : n0 > 420
  · rw [decide_eq_true (.inl h1)]
    have q1 : ((n0 : Int) > 420) = True := eq_true (by omega)
    have q2 : ((420 : Int) < n0) = True := eq_true (by omega)
    go_enter Try.func23, Try.ntmps23
    go_wp2
    go_ret
    exact ⟨rfl, rfl⟩
  · have q1 : ((n0 : Int) > 420) = False := eq_false (by omega)
    have q2 : ((420 : Int) < n0) = False := eq_false (by omega)
    by_cases h2 : n1 > 420
    · rw [decide_eq_true (.inr (.inl h2))]
      have q3 : ((n1 : Int) > 420) = True := eq_true (by omega)
      have q4 : ((420 : Int) < n1) = True := eq_true (by omega)
      go_enter Try.func23, Try.ntmps23
      go_wp2
      go_ret
      exact ⟨rfl, rfl⟩
    · have q3 : ((n1 : Int) > 420) = False := eq_false (by omega)
      have q4 : ((420 : Int) < n1) = False := eq_false (by omega)
      have hmul : n0 * n1 ≤ 176400 := Nat.mul_le_mul (show n0 ≤ 420 by omega) (show n1 ≤ 420 by omega)
      obtain ⟨p, hp⟩ : ∃ p, p = n0 * n1 := ⟨_, rfl⟩
      have hpi : (n0 : Int) * (n1 : Int) = (p : Int) := by rw [hp]; simp
      rw [← hp] at hmul ⊢
      have hd : decide (n0 > 420 ∨ n1 > 420 ∨ p > 40000) = decide ((40000 : Int) < p) := by
        rw [decide_eq_decide]
        constructor
        · rintro (h | h | h) <;> omega
        · intro h; exact .inr (.inr (by omega))
      rw [hd]
      clear hd hp
      go_enter Try.func23, Try.ntmps23
      go_wp2
      go_ret
      exact ⟨rfl, rfl⟩

end Go.Proofs.Ytdafncaehjipbaa
