/-
  The law SchedTurns. (Written by turnsgen.py.)
-/
import Derived.Test.YtbkaafbkmcgfjaaSchedS
namespace Go.Proofs.Ytbkaafbkmcgfjaa
open Go.RowKit
set_option linter.unusedVariables false
set_option maxHeartbeats 4000000
set_option maxRecDepth 20000

theorem law_SchedTurns (a0 a1 a2 : Int) (w : World) (w0 : (Lit.int .u8 a0).wf = true) (w1 : (Lit.int .u8 a1).wf = true) (w2 : (Lit.int .u8 a2).wf = true) :
    Calls Try.prog 4 #[.int .u8 a0, .int .u8 a1, .int .u8 a2] w fun e w' => e = .returned (.bool true) ∧ Below w.heap.size w w' := by
  have h0 := bounds_u8 w0
  have h1 := bounds_u8 w1
  have h2 := bounds_u8 w2
  clear w0 w1 w2
  obtain ⟨k, hk⟩ : ∃ k : Nat, 1 + a0 % 9 = (k : Int) := ⟨(1 + a0 % 9).toNat, by omega⟩
  obtain ⟨p, hp⟩ : ∃ p : Nat, 1 + a1 % 8 = (p : Int) := ⟨(1 + a1 % 8).toNat, by omega⟩
  obtain ⟨T, hT⟩ : ∃ T : Nat, a2 % 40 = (T : Int) := ⟨(a2 % 40).toNat, by omega⟩
  have hk1 : 1 ≤ k := by omega
  have hk9 : k ≤ 9 := by omega
  have hp1 : 1 ≤ p := by omega
  have hp8 : p ≤ 8 := by omega
  have hT40 : T < 40 := by omega
  go_enter Try.func4, Try.ntmps4
  go_wp2_with fail
  refine (x_New _).mono ?_
  rintro e w2 ⟨L2, rfl, hx, hb⟩
  have HX := Lib.hid hx
  have HB := Lib.hid hb
  clear hx hb
  generalize hM : w.heap.size = M at *
  have HM := Lib.hid hM
  clear hM
  go_wp2
  go_loopw [10] (fun i wr => ∃ (c : Nat) (K : Lay) (x : RS), c ≤ k ∧ i = .int .i64 ((c : Int) + 1) ∧ Hid (SX wr M M 0 K x) ∧ Hid (T1 p c x) ∧ Hid (Below M w wr)) (fun i _ => k + 1 - (intOf i).toNat)
  case atStart => exact ⟨0, _, newR, Nat.zero_le _, rfl, HX.out, T1.zero p, HB.out⟩
  case round =>
    obtain ⟨c, K, x, hc, rfl, HX, HG, HB⟩ := hrel
    by_cases hlt : c < k
    · have HS := Lib.hid (HG.out.spawn HX.out.inv hp1 hp8 (by omega))
      go_wp2_with fail
      refine (x_Spawn HX.out (by omega) ((p : Nat) : Int)).mono ?_
      rw [HS.out.1, HS.out.2.1]
      rintro e w3 ⟨L3, rfl, hx, hm⟩
      have HB := Lib.hid (bMov HB.out HX.out (Nat.le_refl _) hm)
      have HX : Hid (SX w3 M M 0 L3 (spR x ((p : Nat) : Int))) := hx
      clear hx hm
      go_wp2_with fail
      have b1 : Below w3.heap.size w3 (w3.alloc (.cells #[.int .i64 ((c : Int) + 1)] 3)) := (Below.refl _ _).alloc (Nat.le_refl _) _
      have hlt := HX.out.lt
      refine (x_Resume (HX.out.below b1) (by omega) (some ⟨w3.heap.size, 0, none⟩) 1 1 [(c : Int) + 1] rfl (Reads.madeAt rfl) (Nat.le_refl _) (by omega) (fun y hy hm => by cases hy; exact absurd (hlt _ hm) (Nat.lt_irrefl _))).mono ?_
      rw [HS.out.2.2.1]
      rintro e w4 ⟨L4, rfl, hx, hm⟩
      have HB := Lib.hid (bMov (bBel HB.out HX.out (Nat.le_refl _) b1) (HX.out.below b1) (Nat.le_refl _) hm)
      have HX : Hid (SX w4 M M 0 L4 (rsR (spR x ((p : Nat) : Int)) [(c : Int) + 1])) := hx
      clear hx hm
      clear b1 hlt
      go_wp2
      go_roundw
      case rel => exact ⟨c + 1, _, _, by omega, by go_num, HX.out, HS.out.2.2.2, HB.out⟩
      case measure => simp [intOf]; omega
    · obtain rfl : k = c := by omega
      clear hlt
      have HG2 := Lib.hid (HG.out.done hk1)
      clear HG
      have hk0 : (k : Int) ≠ 0 := by omega
      have hkn0 : (k = 0) = False := eq_false (by omega)
      have hkn1' : k ≠ 0 := by omega
      have hk0b : ((k : Int) == 0) = false := by simp; omega
      go_wp2
      go_loopw [13] (fun i wr => ∃ (j : Nat) (K : Lay) (x : RS), j ≤ T ∧ i = .int .i64 j ∧ Hid (SX wr M M 0 K x) ∧ Hid (T2 p k j x) ∧ Hid (Below M w wr)) (fun i _ => T - (intOf i).toNat)
      case atStart => exact ⟨0, _, x, Nat.zero_le _, rfl, HX.out, HG2.out, HB.out⟩
      case round =>
        obtain ⟨j, K, x, hj, rfl, HX, HG, HB⟩ := hrel
        by_cases hlt : j < T
        · have HS := Lib.hid (HG.out.yield HX.out.inv hk1 hp1 hp8)
          obtain ⟨r, hr⟩ : ∃ r, r = j % k := ⟨_, rfl⟩
          have htm : ((j : Nat) : Int).tmod (k : Int) = (r : Int) := by rw [hr, Int.tmod_eq_emod_of_nonneg (by omega)]; rfl
          have hem : ((j : Nat) : Int) % (k : Int) = (r : Int) := by rw [hr]; rfl
          have hrk : r < k := by rw [hr]; exact Nat.mod_lt _ (by omega)
          have hA := HG.out.act
          rw [← hr] at hA
          have HA := Lib.hid (show ((actR x : Nat) : Int) = 1 + (r : Int) by omega)
          clear hA hr
          go_wp2_with fail
          refine wp_region_plan [(0, true), (2, true), (3, true), (4, true), (5, true), (1, false), (6, true), (7, true), (8, true), (9, false), (10, true), (11, true)] (by kernel_rfl) (by kernel_rfl) (fun _ _ _ _ _ h => h) ?_
          (repeat (refine wpPlan_free rfl (fun K hK => ?_); go_simp; (try go_bits); refine hK _ ?_; clear hK K))
          refine wpPlan_sole rfl ?_
          have HX := Lib.hid (HX.out.below (bDrew (Below.refl _ _)))
          have HB := Lib.hid (show Below M w wr.drew from ⟨HB.out.os, HB.out.tape, HB.out.output, HB.out.size, HB.out.block⟩)
          go_wp2_with fail
          refine (x_Active HX.out).mono ?_
          rw [HA.out]
          rintro e w' ⟨rfl, rfl⟩
          go_wp2
          (repeat (refine wpPlan_free rfl (fun K hK => ?_); go_simp; (try go_bits); refine hK _ ?_; clear hK K))
          refine wpPlan_sole rfl ?_
          go_wp2_with fail
          refine (x_Yield HX.out (by omega)).mono ?_
          rw [HS.out.1]
          rintro e w5 ⟨L5, rfl, hx, hm⟩
          have HB := Lib.hid (bMov HB.out HX.out (Nat.le_refl _) hm)
          have HX : Hid (SX w5 M M 0 L5 (yieldR x)) := hx
          clear hx hm
          go_wp2
          (repeat (refine wpPlan_free rfl (fun K hK => ?_); go_simp; (try go_bits); refine hK _ ?_; clear hK K))
          refine wpPlan_nil ?_
          go_wp2
          go_roundw
          case rel => exact ⟨j + 1, _, _, by omega, by go_num, HX.out, HS.out.2, HB.out⟩
          case measure => simp [intOf]; omega
        · obtain rfl : T = j := by omega
          clear hlt
          have hs1 := sm_one HG.out.2.2
          obtain ⟨g1, g2, g3⟩ := HG.out.sem HX.out.inv
          have HS1 := Lib.hid hs1
          have HG3 := Lib.hid g1
          have HG4 := Lib.hid g3
          obtain ⟨a, ha⟩ : ∃ a, a = T % k := ⟨_, rfl⟩
          have hak : a < k := by rw [ha]; exact Nat.mod_lt _ (by omega)
          rw [← ha] at HG3
          have hq0 : atL x 3 0 = [] := by
            apply List.eq_nil_iff_forall_not_mem.2
            intro y hy
            obtain ⟨i, hi, _, hw, _⟩ := mem_atL.1 hy
            have := HX.out.inv.wh i hi
            rw [HG.out.2.2] at this
            simp at this
            omega
          have HW := Lib.hid (wait_T3 HG3.out g2 g3 hak hp1 hp8 (show (semR x).P.length = k from HG.out.2.1) (show atL (semR x) 3 0 = [] from hq0))
          have HACT := Lib.hid (show ((actR (semR x) : Nat) : Int) = (a : Int) + 1 from HG3.out.ac)
          clear hs1 g1 g2 g3 ha hq0
          go_wp2_with fail
          refine (x_Sem HX.out).mono ?_
          rw [HS1.out.1, HS1.out.2.1, HS1.out.2.2]
          rintro e w6 ⟨L6, rfl, hx, hm⟩
          have HB := Lib.hid (bMov HB.out HX.out (Nat.le_refl _) hm)
          have HX : Hid (SX w6 M M 0 L6 (semR x)) := hx
          clear hx hm
          go_wp2_with fail
          refine (x_Active HX.out).mono ?_
          rw [HACT.out]
          rintro e w' ⟨rfl, rfl⟩
          go_wp2_with fail
          refine (x_Wait HX.out (by omega) 1).mono ?_
          rw [HW.out.1]
          rintro e w7 ⟨L7, rfl, hx, hm⟩
          have HB := Lib.hid (bMov HB.out HX.out (Nat.le_refl _) hm)
          have HX : Hid (SX w7 M M 0 L7 (waR (semR x) 1)) := hx
          clear hx hm
          by_cases hk2 : k = 1
          · subst hk2
            obtain rfl : a = 0 := by omega
            have HT3 := Lib.hid (HW.out.2.1 (by rfl))
            have hz : actR (waR (semR x) 1) = 0 := by have := HT3.out.ts.ac; change ((actR _ : Nat) : Int) = 0 at this; omega
            have hc : (1 : Int) ≤ 1 ∧ (1 : Int) ≤ ((waR (semR x) 1).sems.length : Nat) := by rw [HT3.out.sm]; decide
            have HZ := Lib.hid hz
            have HW2 := Lib.hid (show waE (waR (semR x) 1) 1 = 2 ∧ waR (waR (semR x) 1) 1 = waR (semR x) 1 from ⟨by unfold waE; rw [if_pos hc, if_pos hz], by
              rw [waR, if_pos hc]
              show waitR _ 0 = _
              unfold waitR; rw [if_pos hz]⟩)
            have HSG := Lib.hid (HT3.out.signal HX.out.inv (by omega))
            have HAC := Lib.hid (HSG.out.2.1 rfl rfl)
            generalize waR (semR x) 1 = x3 at *
            clear hz hc
            go_wp2_with fail
            refine (x_Active HX.out).mono ?_
            rw [HZ.out]
            rintro e w' ⟨rfl, rfl⟩
            go_wp2_with fail
            refine (x_Wait HX.out (by omega) 1).mono ?_
            rw [HW2.out.1, HW2.out.2]
            rintro e w8 ⟨L8, rfl, hx, hm⟩
            have HB := Lib.hid (bMov HB.out HX.out (Nat.le_refl _) hm)
            have HX : Hid (SX w8 M M 0 L8 x3) := hx
            clear hx hm
            go_wp2_with fail
            refine (x_Signal HX.out (by omega) 1).mono ?_
            rw [HSG.out.1]
            rintro e w9 ⟨L9, rfl, hx, hm⟩
            have HB := Lib.hid (bMov HB.out HX.out (Nat.le_refl _) hm)
            have HX : Hid (SX w9 M M 1 L9 (siR x3 1)) := hx
            clear hx hm
            go_wp2_with fail
            refine (x_Active HX.out).mono ?_
            rw [HAC.out]
            rintro e w' ⟨rfl, rfl⟩
            go_wp2_with fail
            refine (c_known20 _).mono ?_
            rintro e w' ⟨rfl, bk⟩
            have HB := Lib.hid (bBel HB.out HX.out (Nat.le_refl _) bk)
            clear bk
            go_wp2
            go_ret
            exact ⟨rfl, by rw [HM.out]; exact HB.out⟩
          · have hk3 : 2 ≤ k := by omega
            obtain ⟨t, t1, t2⟩ := rot_step hk3 hak
            have HT3 := Lib.hid (HW.out.2.2 _ t t1)
            have hlen : (t ++ [(a : Int) + 1]).length = k - 1 := by rw [t2, rot_len]
            have htl : t.length = k - 2 := by simp at hlen; omega
            obtain ⟨b, hb⟩ : ∃ b, b = (a + 1) % k := ⟨_, rfl⟩
            have hbk : b < k := by rw [hb]; exact Nat.mod_lt _ (by omega)
            have hba : b ≠ a := by
              intro e
              rw [hb] at e
              by_cases h3 : a + 1 = k
              · rw [h3, Nat.mod_self] at e; omega
              · rw [Nat.mod_eq_of_lt (by omega)] at e; omega
            rw [← hb] at HT3
            have HAC := Lib.hid (show ((actR (waR (semR x) 1) : Nat) : Int) = (b : Int) + 1 from HT3.out.ts.ac)
            have HSG := Lib.hid (HT3.out.signal HX.out.inv hak)
            have HRD := Lib.hid (HSG.out.2.2 b rfl hbk hp1 hp8)
            have hkk2 : ((k : Nat) : Int) - 2 = ((k - 2 : Nat) : Int) := by omega
            have hkk1 : ((k : Nat) : Int) - 1 = ((k - 1 : Nat) : Int) := by omega
            have hne : ((b : Int) + 1 == (a : Int) + 1) = false := by simp; omega
            have hne2 : ¬ ((b : Int) + 1 = (a : Int) + 1) := by omega
            have hneF : ((b : Int) + 1 = (a : Int) + 1) = False := eq_false hne2
            have HLN := Lib.hid hlen
            have HTL := Lib.hid htl
            have hkn1 : ((k : Int) = 1) = False := eq_false (by omega)
            have hkn1b : ((k : Int) == 1) = false := by simp; omega
            generalize waR (semR x) 1 = x3 at *
            clear t1 t2 hlen htl hb
            go_wp2_with fail
            refine (x_Active HX.out).mono ?_
            rw [HAC.out]
            rintro e w' ⟨rfl, rfl⟩
            go_wp2_with fail
            refine (x_Signal HX.out (by omega) 1).mono ?_
            rw [HSG.out.1]
            rintro e w10 ⟨L10, rfl, hx, hm⟩
            have HB := Lib.hid (bMov HB.out HX.out (Nat.le_refl _) hm)
            have HX : Hid (SX w10 M M 1 L10 (siR x3 1)) := hx
            clear hx hm
            go_wp2_with fail
            refine (x_Ready HX.out (by omega) p hp1 hp8).mono ?_
            rw [HRD.out]
            rintro e w98 ⟨v, rfl, own, b5⟩
            rw [HLN.out] at own
            obtain ⟨a5, c5, rfl, hR, hc5, ha5⟩ := owns_reads own
            have HB := Lib.hid (bBel HB.out HX.out (Nat.le_refl _) b5)
            have HX := Lib.hid (HX.out.below b5)
            obtain ⟨bb, off, rfl, _, hc0⟩ := hR.at (by simp)
            have hcell : w98.cell? ⟨bb, off + (k - 2), none⟩ = some (.int .i64 ((a : Int) + 1)) := hc0 (k - 2) _ (by
              rw [List.getElem?_map, List.getElem?_append_right (by rw [HTL.out]; omega), HTL.out, Nat.sub_self]; rfl)
            clear own b5 hR ha5 hc0
            go_wp2_with fail
            refine (c_known20 _).mono ?_
            rintro e w' ⟨rfl, bk⟩
            have HB := Lib.hid (bBel HB.out HX.out (Nat.le_refl _) bk)
            clear bk
            go_wp2
            go_ret
            exact ⟨rfl, by rw [HM.out]; exact HB.out⟩

end Go.Proofs.Ytbkaafbkmcgfjaa
