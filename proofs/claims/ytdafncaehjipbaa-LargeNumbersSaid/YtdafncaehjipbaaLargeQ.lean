/-
  Contracts of the document's package websterref13: Cmp. (Written by lqgen.py.)
-/
import Derived.Test.YtdafncaehjipbaaLargeP
namespace Go.Proofs.Ytdafncaehjipbaa
open Go.RowKit
set_option linter.unusedVariables false
set_option maxHeartbeats 2000000
set_option maxRecDepth 20000

theorem dg_all {l : List Int} (hb : Byt l) (p : Nat) : dg l p = valI l / 256 ^ p % 256 := by
  by_cases hp : p < l.length
  · exact dg_eq hb hp
  · have h1 := valI_lt hb
    have h2 : 256 ^ l.length ≤ 256 ^ p := Nat.pow_le_pow_right (by omega) (by omega)
    rw [dg_out (by omega), Nat.div_eq_of_lt (by omega)]
theorem dg_digs (N p : Nat) : dg (digs N) p = N / 256 ^ p % 256 := by rw [dg_all (byt_digs N), valI_digs]
theorem div_next (N p : Nat) : N / 256 ^ (p + 1) = N / 256 ^ p / 256 := by rw [Nat.pow_succ, Nat.div_div_eq_div_mul]
theorem cmp_lt {A B p : Nat} (h : A / 256 ^ (p + 1) = B / 256 ^ (p + 1)) (hx : A / 256 ^ p % 256 < B / 256 ^ p % 256) : cmpI A B = -1 := by
  rw [div_next, div_next] at h
  have : A < B := by
    by_cases hlt : A < B
    · exact hlt
    · have := Nat.div_le_div_right (c := 256 ^ p) (Nat.le_of_not_lt hlt)
      omega
  unfold cmpI
  rw [if_pos this]
theorem cmp_gt {A B p : Nat} (h : A / 256 ^ (p + 1) = B / 256 ^ (p + 1)) (hx : B / 256 ^ p % 256 < A / 256 ^ p % 256) : cmpI A B = 1 := by
  rw [div_next, div_next] at h
  have : B < A := by
    by_cases hlt : B < A
    · exact hlt
    · have := Nat.div_le_div_right (c := 256 ^ p) (Nat.le_of_not_lt hlt)
      omega
  unfold cmpI
  rw [if_neg (by omega), if_pos this]
theorem cmp_eq {A B p : Nat} (h : A / 256 ^ (p + 1) = B / 256 ^ (p + 1)) (hx : A / 256 ^ p % 256 = B / 256 ^ p % 256) : A / 256 ^ p = B / 256 ^ p := by
  rw [div_next, div_next] at h
  omega
theorem cmpI_self (A : Nat) : cmpI A A = 0 := by unfold cmpI; rw [if_neg (by omega), if_neg (by omega)]
theorem digs_div (N M : Nat) (h : (digs N).length ≤ M) : N / 256 ^ M = 0 := by
  have h1 := valI_lt (byt_digs N)
  rw [valI_digs] at h1
  have h2 : 256 ^ (digs N).length ≤ 256 ^ M := Nat.pow_le_pow_right (by omega) h
  exact Nat.div_eq_of_lt (by omega)
theorem dg_cell {w : World} {a : Option Addr} {k c N p : Nat} (h : NumAt w a k c N) (hp : p < k) : ∃ b o, a = some ⟨b, o, none⟩ ∧ w.cell? ⟨b, o + p, none⟩ = some (.int .u8 ((N / 256 ^ p % 256 : Nat) : Int)) := by
  obtain ⟨b, o, rfl, -, hc⟩ := h.2.2.2.at (by rw [List.length_map, ← h.1]; omega)
  refine ⟨b, o, rfl, ?_⟩
  rw [hc p _ (getD_map8 (by rw [← h.1]; exact hp)), ← dg_digs]
  unfold dg
  rw [Int.toNat_of_nonneg]
  by_cases hl : p < (digs N).length
  · rw [List.getD_eq_getElem?_getD, List.getElem?_eq_getElem hl]
    exact (byt_digs N _ (List.getElem_mem hl)).1
  · rw [List.getD_eq_getElem?_getD, List.getElem?_eq_none (by omega)]; simp

theorem r_Cmp {a0 a1 : Option Addr} {n0 n1 c0 c1 : Nat} {l m : List Int} {w : World} (h0 : SlAt w a0 n0 c0 l) (h1 : SlAt w a1 n1 c1 m) (hm0 : n0 ≤ 100000) (hm1 : n1 ≤ 100000) :
    Calls Try.prog 28 #[.slice a0 n0 c0, .slice a1 n1 c1] w fun e w' => e = .returned (.int .i64 (cmpI (valI l) (valI m))) ∧ w = w' := by
  have HC0 := Lib.hid (r_bare h0 (by omega))
  have HC1 := Lib.hid (r_bare h1 (by omega))
  have d0 := digs_le h0.byt
  have d1 := digs_le h1.byt
  have x0 := h0.len
  have x1 := h1.len
  obtain ⟨A, hA⟩ : ∃ A, A = valI l := ⟨_, rfl⟩
  obtain ⟨B, hB⟩ : ∃ A, A = valI m := ⟨_, rfl⟩
  rw [← hA] at HC0 d0 ⊢
  rw [← hB] at HC1 d1 ⊢
  have HD := Lib.hid (show (digs A).length ≤ 100000 ∧ (digs B).length ≤ 100000 from by omega)
  clear h0 h1 hm0 hm1 d0 d1 x0 x1 hA hB
  go_enter Try.func28, Try.ntmps28
  go_wp2_with fail
  refine HC0.out.mono ?_
  rintro e w' ⟨⟨k0, rfl, hq0⟩, rfl⟩
  have HQ0 := Lib.hid hq0
  have hk0 : k0 ≤ 100000 := by have := hq0.1; have := HD.out; omega
  clear hq0
  go_wp2_with fail
  refine HC1.out.mono ?_
  rintro e w' ⟨⟨k1, rfl, hq1⟩, rfl⟩
  have HQ1 := Lib.hid hq1
  have hk1 : k1 ≤ 100000 := by have := hq1.1; have := HD.out; omega
  clear hq1 HC0 HC1
  by_cases hmx : k1 ≤ k0
  · have hx1 : ((k0 : Int) < k1) = False := eq_false (by omega)
    have hx2 : (k0 < k1) = False := eq_false (by omega)
    have hx3 : ((k1 : Int) ≤ k0) = True := eq_true (by omega)
    go_wp2
    clear hx1 hx2 hx3
    go_loop [7] (fun i => ∃ j : Nat, j ≤ k0 ∧ i = .int .i64 ((j : Int) - 1) ∧ Hid (A / 256 ^ j = B / 256 ^ j)) (fun i => (intOf i + 1).toNat)
    case atStart => exact ⟨k0, Nat.le_refl _, rfl, by show _ = _; rw [digs_div A _ (by rw [← HQ0.out.1]; omega), digs_div B _ (by rw [← HQ1.out.1]; omega)]⟩
    case round =>
      obtain ⟨j, hj, rfl, HI⟩ := hrel
      by_cases hj0 : j = 0
      · subst hj0
        have HE := Lib.hid (show cmpI A B = 0 from by
          have := HI.out
          simp only [Nat.pow_zero, Nat.div_one] at this
          rw [this]; exact cmpI_self B)
        go_wp2
        go_ret
        exact ⟨by rw [HE.out]; rfl, rfl⟩
      · obtain ⟨p, rfl⟩ : ∃ p, j = p + 1 := ⟨j - 1, by omega⟩
        have hpi : ((p + 1 : Nat) : Int) - 1 = (p : Int) := by omega
        rw [hpi]
        have hpk0 : (p : Int) < (k0 : Int) := by omega
        have hpnk0 : p < k0 := by omega
        obtain ⟨X, hX⟩ : ∃ X, X = A / 256 ^ p % 256 := ⟨_, rfl⟩
        obtain ⟨Y, hY⟩ : ∃ X, X = B / 256 ^ p % 256 := ⟨_, rfl⟩
        have HX := Lib.hid (And.intro hX hY)
        have hX255 : X ≤ 255 := by omega
        have hY255 : Y ≤ 255 := by omega
        obtain ⟨b0, o0, rfl, q0⟩ := dg_cell HQ0.out hpnk0
        rw [← hX] at q0
        by_cases hpo : p < k1
        · have hpi2 : (p : Int) < (k1 : Int) := by omega
          obtain ⟨b1, o1, rfl, q1⟩ := dg_cell HQ1.out hpo
          rw [← hY] at q1
          clear hX hY hj0 hj hpi
          rcases Nat.lt_trichotomy X Y with hxy | hxy | hxy
          · have HE := Lib.hid (cmp_lt HI.out (by rw [← HX.out.1, ← HX.out.2]; exact hxy))
            go_wp2
            go_ret
            exact ⟨by rw [HE.out]; rfl, rfl⟩
          · have HE := Lib.hid (cmp_eq HI.out (by rw [← HX.out.1, ← HX.out.2]; exact hxy))
            subst hxy
            go_wp2
            go_round
            case rel => exact ⟨p, by omega, by go_num, HE.out⟩
            case measure => simp [intOf]
          · have HE := Lib.hid (cmp_gt HI.out (by rw [← HX.out.1, ← HX.out.2]; exact hxy))
            go_wp2
            go_ret
            exact ⟨by rw [HE.out]; rfl, rfl⟩
        · have hpi2 : ((p : Int) < (k1 : Int)) = False := eq_false (by omega)
          have hpn2 : (p < k1) = False := eq_false (by omega)
          have h0 : Y = 0 := by
            have h := div_next B p
            have := digs_div B p (by rw [← HQ1.out.1]; omega)
            rw [hY, this]
          clear hX hY
          subst h0
          clear hj0 hj hpi hpo
          rcases Nat.lt_trichotomy X 0 with hxy | hxy | hxy
          · exact absurd hxy (Nat.not_lt_zero _)
          · have HE := Lib.hid (cmp_eq HI.out (by rw [← HX.out.1, ← HX.out.2]; exact hxy))
            subst hxy
            go_wp2
            go_round
            case rel => exact ⟨p, by omega, by go_num, HE.out⟩
            case measure => simp [intOf]
          · have HE := Lib.hid (cmp_gt HI.out (by rw [← HX.out.1, ← HX.out.2]; exact hxy))
            go_wp2
            go_ret
            exact ⟨by rw [HE.out]; rfl, rfl⟩
  · have hx1 : ((k0 : Int) < k1) = True := eq_true (by omega)
    have hx2 : (k0 < k1) = True := eq_true (by omega)
    have hx3 : ((k1 : Int) ≤ k0) = False := eq_false (by omega)
    have hmx2 : k0 ≤ k1 := by omega
    clear hmx
    go_wp2
    clear hx1 hx2 hx3
    go_loop [7] (fun i => ∃ j : Nat, j ≤ k1 ∧ i = .int .i64 ((j : Int) - 1) ∧ Hid (A / 256 ^ j = B / 256 ^ j)) (fun i => (intOf i + 1).toNat)
    case atStart => exact ⟨k1, Nat.le_refl _, rfl, by show _ = _; rw [digs_div A _ (by rw [← HQ0.out.1]; omega), digs_div B _ (by rw [← HQ1.out.1]; omega)]⟩
    case round =>
      obtain ⟨j, hj, rfl, HI⟩ := hrel
      by_cases hj0 : j = 0
      · subst hj0
        have HE := Lib.hid (show cmpI A B = 0 from by
          have := HI.out
          simp only [Nat.pow_zero, Nat.div_one] at this
          rw [this]; exact cmpI_self B)
        go_wp2
        go_ret
        exact ⟨by rw [HE.out]; rfl, rfl⟩
      · obtain ⟨p, rfl⟩ : ∃ p, j = p + 1 := ⟨j - 1, by omega⟩
        have hpi : ((p + 1 : Nat) : Int) - 1 = (p : Int) := by omega
        rw [hpi]
        have hpk1 : (p : Int) < (k1 : Int) := by omega
        have hpnk1 : p < k1 := by omega
        obtain ⟨X, hX⟩ : ∃ X, X = A / 256 ^ p % 256 := ⟨_, rfl⟩
        obtain ⟨Y, hY⟩ : ∃ X, X = B / 256 ^ p % 256 := ⟨_, rfl⟩
        have HX := Lib.hid (And.intro hX hY)
        have hX255 : X ≤ 255 := by omega
        have hY255 : Y ≤ 255 := by omega
        obtain ⟨b1, o1, rfl, q1⟩ := dg_cell HQ1.out hpnk1
        rw [← hY] at q1
        by_cases hpo : p < k0
        · have hpi2 : (p : Int) < (k0 : Int) := by omega
          obtain ⟨b0, o0, rfl, q0⟩ := dg_cell HQ0.out hpo
          rw [← hX] at q0
          clear hX hY hj0 hj hpi
          rcases Nat.lt_trichotomy X Y with hxy | hxy | hxy
          · have HE := Lib.hid (cmp_lt HI.out (by rw [← HX.out.1, ← HX.out.2]; exact hxy))
            go_wp2
            go_ret
            exact ⟨by rw [HE.out]; rfl, rfl⟩
          · have HE := Lib.hid (cmp_eq HI.out (by rw [← HX.out.1, ← HX.out.2]; exact hxy))
            subst hxy
            go_wp2
            go_round
            case rel => exact ⟨p, by omega, by go_num, HE.out⟩
            case measure => simp [intOf]
          · have HE := Lib.hid (cmp_gt HI.out (by rw [← HX.out.1, ← HX.out.2]; exact hxy))
            go_wp2
            go_ret
            exact ⟨by rw [HE.out]; rfl, rfl⟩
        · have hpi2 : ((p : Int) < (k0 : Int)) = False := eq_false (by omega)
          have hpn2 : (p < k0) = False := eq_false (by omega)
          have h0 : X = 0 := by
            have h := div_next A p
            have := digs_div A p (by rw [← HQ0.out.1]; omega)
            rw [hX, this]
          clear hX hY
          subst h0
          clear hj0 hj hpi hpo
          rcases Nat.lt_trichotomy 0 Y with hxy | hxy | hxy
          · have HE := Lib.hid (cmp_lt HI.out (by rw [← HX.out.1, ← HX.out.2]; exact hxy))
            go_wp2
            go_ret
            exact ⟨by rw [HE.out]; rfl, rfl⟩
          · have HE := Lib.hid (cmp_eq HI.out (by rw [← HX.out.1, ← HX.out.2]; exact hxy))
            subst hxy
            go_wp2
            go_round
            case rel => exact ⟨p, by omega, by go_num, HE.out⟩
            case measure => simp [intOf]
          · exact absurd hxy (Nat.not_lt_zero _)

end Go.Proofs.Ytdafncaehjipbaa
