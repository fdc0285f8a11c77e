/-
  The law ExtentAgain. (Written by exagaingen.py.)
-/
import Derived.Test.YtpbokmmobepolaaExtU
import Derived.Test.YtpbokmmobepolaaExtF
import Derived.Test.YtpbokmmobepolaaPlanU
namespace Go.Proofs.Ytpbokmmobepolaa
open Go.RowKit Go.Maps
set_option linter.unusedVariables false
set_option maxHeartbeats 4000000
set_option maxRecDepth 20000

theorem first0 {N n F : Nat} (h : FirstL [] N n (some F)) : F = 0 := by
  rcases Nat.eq_zero_or_pos F with h0 | h0
  · exact h0
  · obtain ⟨x, hx, -⟩ := h.2.2 0 h0
    cases hx
theorem first0n {N n : Nat} (h : FirstL [] N n none) : N < n := by
  rcases Nat.lt_or_ge N n with h0 | h0
  · exact h0
  · obtain ⟨x, hx, -⟩ := h 0 (by omega)
    cases hx
theorem first1 {N n F : Nat} {x : Rw4} (hx : x.1 = 0) (hn : 1 ≤ n) (h : FirstL [x] N n (some F)) : F = rN x := by
  have hp := rN_pos x
  have h1 := h.2.1 x (by simp)
  unfold Ovl at h1
  rcases Nat.lt_or_ge (rN x) F with h0 | h0
  · obtain ⟨y, hy, ho⟩ := h.2.2 (rN x) h0
    simp at hy
    subst hy
    have := ho.1
    omega
  · omega
theorem first1n {N n : Nat} {x : Rw4} (hx : x.1 = 0) (hn : 1 ≤ n) (h : FirstL [x] N n none) : N < rN x + n := by
  rcases Nat.lt_or_ge N (rN x + n) with h0 | h0
  · exact h0
  · obtain ⟨y, hy, ho⟩ := h (rN x) h0
    simp at hy
    subst hy
    have := ho.1
    omega
theorem first2 {N n F : Nat} {x : Rw4} (hx : n ≤ x.1) (h : FirstL [x] N n (some F)) : F = 0 := by
  rcases Nat.eq_zero_or_pos F with h0 | h0
  · exact h0
  · obtain ⟨y, hy, ho⟩ := h.2.2 0 h0
    simp at hy
    subst hy
    have := ho.2
    omega
theorem first2n {N n : Nat} {x : Rw4} (hx : n ≤ x.1) (h : FirstL [x] N n none) : N < n := by
  rcases Nat.lt_or_ge N n with h0 | h0
  · exact h0
  · obtain ⟨y, hy, ho⟩ := h 0 (by omega)
    simp at hy
    subst hy
    have := ho.2
    omega

theorem law_ExtentAgain (a0 : Option Addr) (len0 cap0 : Nat) (z0 : List Int) (a1 : Option Addr) (len1 cap1 : Nat) (z1 : List Int) (w : World) (w0 : Came .u8 w a0 len0 cap0 z0) (w1 : Came .u8 w a1 len1 cap1 z1) :
    Calls Try.prog 5 #[.slice a0 len0 cap0, .slice a1 len1 cap1] w fun e w' => e = .returned (.bool true) ∧ Below w.heap.size w w' := by
  obtain ⟨l0, e0, hc0, hm0, r0, y0⟩ := w0.reads
  obtain ⟨l1, e1, hc1, hm1, r1, y1⟩ := w1.reads
  unfold maxLen at hm0 hm1
  have HR0 := Lib.hid r0
  have HBY0 : Hid (Byt l0) := fun x hx => bounds_u8 (y0 x hx)
  have HE0 := Lib.hid e0
  clear r0 y0 e0
  have HR1 := Lib.hid r1
  have HBY1 : Hid (Byt l1) := fun x hx => bounds_u8 (y1 x hx)
  have HE1 := Lib.hid e1
  clear r1 y1 e1
  clear w0 w1
  by_cases hl0 : (2000 : Int) < (len0 : Int)
  · go_enter Try.func5, Try.ntmps5
    go_wp2_with fail
    refine (c_known04 _).mono ?_
    rintro e w' ⟨rfl, bk⟩
    go_wp2
    go_ret
    exact ⟨rfl, bk⟩
  by_cases hl1 : (2000 : Int) < (len1 : Int)
  · go_enter Try.func5, Try.ntmps5
    go_wp2_with fail
    refine (c_known04 _).mono ?_
    rintro e w' ⟨rfl, bk⟩
    go_wp2
    go_ret
    exact ⟨rfl, bk⟩
  go_enter Try.func5, Try.ntmps5
  go_wp2_with fail
  refine (gNew 64 _ (by omega)).mono ?_
  rintro e v0 ⟨I, rfl, hg, hi, hb⟩
  have HG := Lib.hid hg
  have HI := Lib.hid hi
  have HB := Lib.hid hb
  generalize hM : w.heap.size = M at *
  have HM := Lib.hid hM
  clear hg hi hb hM
  go_wp2_with fail
  refine (gPut HG.out (by omega) (by omega) l0 a0 len0 cap0 HE0.out (by omega) HBY0.out (HR0.out.below (by rw [HM.out]; exact HB.out)) hc0 (argOut HR0.out HE0.out HM.out HI.out)).mono ?_
  rintro e v1 (⟨hf, rfl, hg, ku⟩ | ⟨F, hf, rfl, hg, ku⟩)
  · exact absurd (first0n hf) (by have := HE0.out; unfold secs; omega)
  have HF0 := Lib.hid (first0 hf)
  have HG : Hid (SG v1 I [(F, l0)] 64 1) := hg
  have HB := Lib.hid (HB.out.trans (ku.below (by have h1 := HB.out.size; have h2 := HM.out; omega) HI.out))
  clear hf hg ku
  unfold exA
  obtain ⟨W1, hW⟩ : ∃ z, z = v1.alloc (.cells #[.int .i64 F, .int .i64 (secs l0.length : Nat), .int .i64 (l0.length : Nat)] 34) := ⟨_, rfl⟩
  obtain ⟨X1, hX⟩ : ∃ z, z = v1.heap.size := ⟨_, rfl⟩
  have hb : Below v1.heap.size v1 W1 := by rw [hW]; exact (Below.refl _ _).alloc (Nat.le_refl _) _
  have rr : Row W1 X1 34 [.int .i64 F, .int .i64 (secs l0.length : Nat), .int .i64 (l0.length : Nat)] := by rw [hW, hX]; exact Row.made v1 _ _
  have HNX1 : Hid (X1 ∉ I.all) := fun hm => by have := HG.out.lt _ hm; omega
  have HX1 := Lib.hid rr
  have HG := Lib.hid (HG.out.below hb)
  have HB := Lib.hid (HB.out.trans (hb.mono (by have h1 := HB.out.size; have h2 := HM.out; omega)))
  have HWW := Lib.hid hW
  have HXX := Lib.hid hX
  clear hb rr hW hX
  go_wp2_with fail
  rw [← HWW.out, ← HXX.out]
  clear HWW HXX
  refine (gPut HG.out (by omega) (by omega) l1 a1 len1 cap1 HE1.out (by omega) HBY1.out (HR1.out.below (by rw [HM.out]; exact HB.out)) hc1 (argOut HR1.out HE1.out HM.out HI.out)).mono ?_
  rintro e v2 (⟨hf, rfl, hg, ku⟩ | ⟨G, hf, rfl, hg, ku⟩)
  · exact absurd (first1n HF0.out (secs_pos _) hf) (by have h1 := HE0.out; have h2 := HE1.out; show ¬ 64 < secs l0.length + secs l1.length; unfold secs; omega)
  obtain rfl : G = secs l0.length := first1 HF0.out (secs_pos _) hf
  have HG : Hid (SG v2 I [(F, l0), (secs l0.length, l1)] 64 2) := hg
  have HB := Lib.hid (HB.out.trans (ku.below (by have h1 := HB.out.size; have h2 := HM.out; omega) HI.out))
  have HX1 := Lib.hid (HX1.out.keep ku HNX1.out)
  clear hf hg ku
  unfold exA
  obtain ⟨W2, hW⟩ : ∃ z, z = v2.alloc (.cells #[.int .i64 (secs l0.length : Nat), .int .i64 (secs l1.length : Nat), .int .i64 (l1.length : Nat)] 34) := ⟨_, rfl⟩
  obtain ⟨X2, hX⟩ : ∃ z, z = v2.heap.size := ⟨_, rfl⟩
  have hb : Below v2.heap.size v2 W2 := by rw [hW]; exact (Below.refl _ _).alloc (Nat.le_refl _) _
  have rr : Row W2 X2 34 [.int .i64 (secs l0.length : Nat), .int .i64 (secs l1.length : Nat), .int .i64 (l1.length : Nat)] := by rw [hW, hX]; exact Row.made v2 _ _
  have HNX2 : Hid (X2 ∉ I.all) := fun hm => by have := HG.out.lt _ hm; omega
  have HX2 := Lib.hid rr
  have HG := Lib.hid (HG.out.below hb)
  have HB := Lib.hid (HB.out.trans (hb.mono (by have h1 := HB.out.size; have h2 := HM.out; omega)))
  have HX1 := Lib.hid (HX1.out.keep (l := []) (.of_below hb) (by simp))
  have HWW := Lib.hid hW
  have HXX := Lib.hid hX
  clear hb rr hW hX
  have c10 := HX1.out.cell (i := 0) rfl
  have c11 := HX1.out.cell (i := 1) rfl
  have c12 := HX1.out.cell (i := 2) rfl
  rw [HWW.out] at c10 c11 c12
  have hsz : W2.heap.size = X2 + 1 := by rw [HWW.out, HXX.out]; simp
  go_wp2_with fail
  rw [← HWW.out, ← HXX.out]
  clear HWW HXX c10 c11 c12
  obtain ⟨W3, hW⟩ : ∃ z, z = W2.alloc (.cells #[.int .i64 F, .int .i64 (secs l0.length : Nat), .int .i64 (l0.length : Nat)] 34) := ⟨_, rfl⟩
  have hb : Below W2.heap.size W2 W3 := by rw [hW]; exact (Below.refl _ _).alloc (Nat.le_refl _) _
  have rr : Row W3 (X2 + 1) 34 [.int .i64 F, .int .i64 (secs l0.length : Nat), .int .i64 (l0.length : Nat)] := by rw [hW, ← hsz]; exact Row.made W2 _ _
  have hni : X2 + 1 ∉ I.all := fun hm => by have := HG.out.lt _ hm; omega
  have hrd : ReadsBy W3 (some ⟨X2 + 1, 0, none⟩) 3 exC [rE (F, l0)] := fun i d hid => by
    cases i with
    | succ i => simp at hid
    | zero =>
      obtain rfl : rE (F, l0) = d := by simpa using hid
      refine ⟨X2 + 1, 0, rfl, rr.lt, fun j v hv => ?_⟩
      rcases j with _ | _ | _ | j
      · cases hv; exact rr.cell (i := 0) rfl
      · cases hv; exact rr.cell (i := 1) rfl
      · cases hv; exact rr.cell (i := 2) rfl
      · simp [exC] at hv
  have HG := Lib.hid (HG.out.below hb)
  have HB := Lib.hid (HB.out.trans (hb.mono (by have h1 := HB.out.size; have h2 := HM.out; omega)))
  have HX1 := Lib.hid (HX1.out.keep (l := []) (.of_below hb) (by simp))
  have HX2 := Lib.hid (HX2.out.keep (l := []) (.of_below hb) (by simp))
  have hxo : exOk (rE (F, l0)) := exOk_nat (by have := HF0.out; omega) (by have h1 := HE0.out; show secs l0.length ≤ _; unfold secs; omega) (by have h1 := HE0.out; show l0.length ≤ _; omega)
  have HXO := Lib.hid hxo
  have HFR := Lib.hid (gFree HG.out (some ⟨X2 + 1, 0, none⟩) 1 1 [rE (F, l0)] rfl (by omega) (by omega) hrd (fun x hx => by simp at hx; subst hx; exact hxo) (fun y hy => by cases hy; exact hni))
  rw [← hW]
  clear hW hb rr hni hrd hsz hxo
  refine HFR.out.mono ?_
  clear HFR
  rintro e v3 ⟨ku, ⟨hb, -⟩ | ⟨-, rfl, hg⟩⟩
  · exact absurd ⟨fun x hx => ⟨(F, l0), by simp, by simpa using hx⟩, by simp⟩ hb
  rw [rest_one HG.out.apart (i := 0) rfl] at hg
  have HG : Hid (SG v3 I [(secs l0.length, l1)] 64 2) := hg
  have HB := Lib.hid (HB.out.trans (ku.below (by have h1 := HB.out.size; have h2 := HM.out; omega) HI.out))
  have HX1 := Lib.hid (HX1.out.keep ku HNX1.out)
  have HX2 := Lib.hid (HX2.out.keep ku HNX2.out)
  clear ku hg
  have c10 := HX1.out.cell (i := 0) rfl
  have c11 := HX1.out.cell (i := 1) rfl
  have c12 := HX1.out.cell (i := 2) rfl
  go_wp2_with fail
  refine (gGetNo HG.out (F : Int) (secs l0.length : Nat) (l0.length : Nat) HXO.out (fun x hx => by
    simp at hx
    subst hx
    intro e
    have h1 := secs_pos l0.length
    have h2 := HF0.out
    unfold rE at e
    simp only [Prod.mk.injEq] at e
    omega)).mono ?_
  rintro e v4 ⟨rfl, hg, ku⟩
  have HG := Lib.hid hg
  clear c10 c11 c12
  have HB := Lib.hid (HB.out.trans (ku.below (by have h1 := HB.out.size; have h2 := HM.out; omega) HI.out))
  have HX1 := Lib.hid (HX1.out.keep ku HNX1.out)
  have HX2 := Lib.hid (HX2.out.keep ku HNX2.out)
  clear ku hg
  go_wp2_with fail
  refine (gPut HG.out (by omega) (by omega) l0 a0 len0 cap0 HE0.out (by omega) HBY0.out (HR0.out.below (by rw [HM.out]; exact HB.out)) hc0 (argOut HR0.out HE0.out HM.out HI.out)).mono ?_
  rintro e v5 (⟨hf, rfl, hg, ku⟩ | ⟨F2, hf, rfl, hg, ku⟩)
  · exact absurd (first2n (x := (secs l0.length, l1)) (Nat.le_refl _) hf) (by have h1 := HE0.out; unfold secs; omega)
  obtain rfl : F2 = F := (first2 (x := (secs l0.length, l1)) (Nat.le_refl _) hf).trans HF0.out.symm
  have HG : Hid (SG v5 I [(secs l0.length, l1), (F2, l0)] 64 3) := hg
  have HB := Lib.hid (HB.out.trans (ku.below (by have h1 := HB.out.size; have h2 := HM.out; omega) HI.out))
  have HX1 := Lib.hid (HX1.out.keep ku HNX1.out)
  have HX2 := Lib.hid (HX2.out.keep ku HNX2.out)
  clear hf hg ku
  unfold exA
  obtain ⟨W3, hW⟩ : ∃ z, z = v5.alloc (.cells #[.int .i64 F2, .int .i64 (secs l0.length : Nat), .int .i64 (l0.length : Nat)] 34) := ⟨_, rfl⟩
  obtain ⟨X3, hX⟩ : ∃ z, z = v5.heap.size := ⟨_, rfl⟩
  have hb : Below v5.heap.size v5 W3 := by rw [hW]; exact (Below.refl _ _).alloc (Nat.le_refl _) _
  have rr : Row W3 X3 34 [.int .i64 F2, .int .i64 (secs l0.length : Nat), .int .i64 (l0.length : Nat)] := by rw [hW, hX]; exact Row.made v5 _ _
  have HNX3 : Hid (X3 ∉ I.all) := fun hm => by have := HG.out.lt _ hm; omega
  have HX3 := Lib.hid rr
  have HG := Lib.hid (HG.out.below hb)
  have HB := Lib.hid (HB.out.trans (hb.mono (by have h1 := HB.out.size; have h2 := HM.out; omega)))
  have HX1 := Lib.hid (HX1.out.keep (l := []) (.of_below hb) (by simp))
  have HX2 := Lib.hid (HX2.out.keep (l := []) (.of_below hb) (by simp))
  have HWW := Lib.hid hW
  have HXX := Lib.hid hX
  clear hb rr hW hX
  have c10 := HX1.out.cell (i := 0) rfl
  have c11 := HX1.out.cell (i := 1) rfl
  have c12 := HX1.out.cell (i := 2) rfl
  have c20 := HX2.out.cell (i := 0) rfl
  have c21 := HX2.out.cell (i := 1) rfl
  have c22 := HX2.out.cell (i := 2) rfl
  have c30 := HX3.out.cell (i := 0) rfl
  have c31 := HX3.out.cell (i := 1) rfl
  have c32 := HX3.out.cell (i := 2) rfl
  clear c22
  go_wp2_with fail
  rw [← HWW.out, ← HXX.out]
  clear HWW HXX
  have HG := Lib.hid (HG.out.below (bDrew (Below.refl _ W3)))
  have HB := Lib.hid HB.out.drew
  refine wp_region_planH (fun z : World => z.cell? ⟨X3, 0, none⟩ = some (.int .i64 F2) ∧ z.cell? ⟨X3, 1, none⟩ = some (.int .i64 (secs l0.length : Nat)) ∧ z.cell? ⟨X3, 2, none⟩ = some (.int .i64 (l0.length : Nat)) ∧ z.cell? ⟨X1, 0, none⟩ = some (.int .i64 F2) ∧ z.cell? ⟨X1, 1, none⟩ = some (.int .i64 (secs l0.length : Nat)) ∧ z.cell? ⟨X1, 2, none⟩ = some (.int .i64 (l0.length : Nat)) ∧ z.cell? ⟨X2, 0, none⟩ = some (.int .i64 (secs l0.length : Nat)) ∧ z.cell? ⟨X2, 1, none⟩ = some (.int .i64 (secs l1.length : Nat))) [(0, true), (1, true), (2, true), (3, true), (4, true), (5, true), (6, true), (7, true), (8, true), (9, true), (10, true), (11, true), (12, true), (13, true), (14, true), (15, true), (16, true), (17, true), (18, true), (19, true), (20, true), (21, true), (22, true), (23, true), (24, true), (25, true), (26, true), (27, true), (28, true), (29, true), (30, true), (31, true), (33, true), (34, true), (35, true), (36, true), (37, true), (32, false), (38, true), (39, true), (40, true), (41, false), (42, true), (43, true)] (by kernel_rfl) (by kernel_rfl) (fun _ _ _ _ _ h => h) ⟨c30, c31, c32, c10, c11, c12, c20, c21⟩ ?_
  have HS : (fun z : World => z.cell? ⟨X3, 0, none⟩ = some (.int .i64 F2) ∧ z.cell? ⟨X3, 1, none⟩ = some (.int .i64 (secs l0.length : Nat)) ∧ z.cell? ⟨X3, 2, none⟩ = some (.int .i64 (l0.length : Nat)) ∧ z.cell? ⟨X1, 0, none⟩ = some (.int .i64 F2) ∧ z.cell? ⟨X1, 1, none⟩ = some (.int .i64 (secs l0.length : Nat)) ∧ z.cell? ⟨X1, 2, none⟩ = some (.int .i64 (l0.length : Nat)) ∧ z.cell? ⟨X2, 0, none⟩ = some (.int .i64 (secs l0.length : Nat)) ∧ z.cell? ⟨X2, 1, none⟩ = some (.int .i64 (secs l1.length : Nat))) W3.drew := ⟨c30, c31, c32, c10, c11, c12, c20, c21⟩
  clear c30 c31 c32 c10 c11 c12 c20 c21
  have HU2 := Lib.hid (gUsed HG.out)
  have HSUM : Hid (([(secs l0.length, l1), (F2, l0)].map rN).sum = secs l0.length + secs l1.length) := by unfold Hid; simp [rN]; omega
  rw [HSUM.out] at HU2
  generalize W3.drew = v6 at HS HG HB HU2 ⊢
  (repeat (refine wpPlanH_free rfl (fun K hK => ?_); go_simp; (try go_bits); refine hK _ ?_; clear hK K))
  refine wpPlanH_load (.agg #[.int .i64 F2, .int .i64 (secs l0.length : Nat), .int .i64 (l0.length : Nat)]) rfl rfl (fun x hS => by obtain ⟨s0, s1, s2, s3, s4, s5, s6, s7⟩ := hS; go_simp) (fun K hK => ?_)
  refine hK _ ?_
  clear hK K
  (repeat (refine wpPlanH_free rfl (fun K hK => ?_); go_simp; (try go_bits); refine hK _ ?_; clear hK K))
  refine wpPlanH_load (.agg #[.int .i64 F2, .int .i64 (secs l0.length : Nat), .int .i64 (l0.length : Nat)]) rfl rfl (fun x hS => by obtain ⟨s0, s1, s2, s3, s4, s5, s6, s7⟩ := hS; go_simp) (fun K hK => ?_)
  refine hK _ ?_
  clear hK K
  (repeat (refine wpPlanH_free rfl (fun K hK => ?_); go_simp; (try go_bits); refine hK _ ?_; clear hK K))
  refine wpPlanH_load (.int .i64 (secs l0.length : Nat)) rfl rfl (fun x hS => by obtain ⟨s0, s1, s2, s3, s4, s5, s6, s7⟩ := hS; go_simp) (fun K hK => ?_)
  refine hK _ ?_
  clear hK K
  (repeat (refine wpPlanH_free rfl (fun K hK => ?_); go_simp; (try go_bits); refine hK _ ?_; clear hK K))
  refine wpPlanH_load (.int .i64 (secs l0.length : Nat)) rfl rfl (fun x hS => by obtain ⟨s0, s1, s2, s3, s4, s5, s6, s7⟩ := hS; go_simp) (fun K hK => ?_)
  refine hK _ ?_
  clear hK K
  (repeat (refine wpPlanH_free rfl (fun K hK => ?_); go_simp; (try go_bits); refine hK _ ?_; clear hK K))
  refine wpPlanH_load (.int .i64 (secs l0.length : Nat)) rfl rfl (fun x hS => by obtain ⟨s0, s1, s2, s3, s4, s5, s6, s7⟩ := hS; go_simp) (fun K hK => ?_)
  refine hK _ ?_
  clear hK K
  (repeat (refine wpPlanH_free rfl (fun K hK => ?_); go_simp; (try go_bits); refine hK _ ?_; clear hK K))
  refine wpPlanH_load (.int .i64 (secs l1.length : Nat)) rfl rfl (fun x hS => by obtain ⟨s0, s1, s2, s3, s4, s5, s6, s7⟩ := hS; go_simp) (fun K hK => ?_)
  refine hK _ ?_
  clear hK K
  have hw : RowKit.wrap64 (((secs l0.length : Nat) : Int) + ((secs l1.length : Nat) : Int)) = ((secs l0.length : Nat) : Int) + ((secs l1.length : Nat) : Int) := by
    have q1 := secs_le l0.length
    have q2 := secs_le l1.length
    have q3 := HE0.out
    have q4 := HE1.out
    unfold RowKit.wrap64
    omega
  (repeat (refine wpPlanH_free rfl (fun K hK => ?_); go_simp; (try go_bits); refine hK _ ?_; clear hK K))
  refine wpPlanH_sole rfl ?_
  go_wp2_with fail
  refine HU2.out.mono ?_
  rintro e w' ⟨rfl, rfl⟩
  go_wp2
  refine ⟨HS, ?_⟩
  (repeat (refine wpPlanH_free rfl (fun K hK => ?_); go_simp; (try go_bits); refine hK _ ?_; clear hK K))
  refine wpPlanH_sole rfl ?_
  go_wp2_with fail
  refine (c_known04 _).mono ?_
  rintro e w' ⟨rfl, bk⟩
  have HB := Lib.hid (HB.out.trans (bk.mono (by have h1 := HB.out.size; have h2 := HM.out; omega)))
  go_wp2
  refine ⟨⟨cellKeep bk HS.1, cellKeep bk HS.2.1, cellKeep bk HS.2.2.1, cellKeep bk HS.2.2.2.1, cellKeep bk HS.2.2.2.2.1, cellKeep bk HS.2.2.2.2.2.1, cellKeep bk HS.2.2.2.2.2.2.1, cellKeep bk HS.2.2.2.2.2.2.2⟩, ?_⟩
  (repeat (refine wpPlanH_free rfl (fun K hK => ?_); go_simp; (try go_bits); refine hK _ ?_; clear hK K))
  refine wpPlanH_nil ?_
  clear bk
  go_wp2
  go_ret
  exact ⟨rfl, by rw [HM.out]; exact HB.out⟩

end Go.Proofs.Ytpbokmmobepolaa
