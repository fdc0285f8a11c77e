/-
  The law HeapFills.
-/
import Derived.Test.YtcecegcbkcdpjaaHeapV
namespace Go.Proofs.Ytcecegcbkcdpjaa
open Go.RowKit
set_option linter.unusedVariables false
set_option maxHeartbeats 8000000
set_option maxRecDepth 100000

theorem used_of {S : HpS} {j : Nat} (h : usedAt S j = true) : ∃ hj : j < S.bl.length, S.bl[j].used = true ∧ S.bl[j].at_ = atOf S j := by
  unfold usedAt at h
  by_cases hj : j < S.bl.length
  · rw [List.getElem?_eq_getElem hj] at h
    refine ⟨hj, h, ?_⟩
    unfold atOf; rw [List.getElem?_eq_getElem hj]; rfl
  · rw [List.getElem?_eq_none (by omega)] at h; cases h

/-- What is told of a size s and a number k. -/
structure FillsOk (s k : Nat) : Prop where
  ag : ∀ j, j < k → Good (fillS s k j) ∧ placeI (gapsOf (fillS s k j) (usedL (fillS s k j))) s = ((j * s : Nat) : Int) ∧ freeIx (fillS s k j) = j ∧ usedAt (fillS s k (j + 1)) j = true ∧ atOf (fillS s k (j + 1)) j = j * s ∧ (fillS s k j).bl.length < 1000000
  full : Good (fillS s k k) ∧ placeI (gapsOf (fillS s k k) (usedL (fillS s k k))) 1 = -1 ∧ (fillS s k k).bl.length < 1000000
  half : ∀ j, j < (k + 1) / 2 → usedAt (halfS s k j) (2 * j) = true
  e : Good (halfE s k) ∧ allOf (gapsOf (halfE s k) (usedL (halfE s k))) = (k + 1) / 2 * s ∧ mostOf (gapsOf (halfE s k) (usedL (halfE s k))) = s ∧ placeI (gapsOf (halfE s k) (usedL (halfE s k))) (s + 1) = -1 ∧ CompOk (halfE s k) (usedL (halfE s k)) ∧ (halfE s k).bl.length < 1000000
  c : Good (compE s k) ∧ allOf (gapsOf (compE s k) (usedL (compE s k))) = (k + 1) / 2 * s ∧ mostOf (gapsOf (compE s k) (usedL (compE s k))) = (k + 1) / 2 * s ∧ 0 ≤ placeI (gapsOf (compE s k) (usedL (compE s k))) ((k + 1) / 2 * s) ∧ (compE s k).bl.length < 1000000
theorem fills_ok (s k : Nat) (hs : s < 9) (hk : k < 9) : FillsOk (s + 1) (k + 2) := by
  have h1 := fills1_all s hs k hk
  have h2 := fills2_all s hs k hk
  have h3 := fills3_all s hs k hk
  have h4 := fills4_all s hs k hk
  generalize s + 1 = s at *
  generalize k + 2 = k at *
  unfold fills1 at h1
  unfold fills2 at h2
  unfold fills3 at h3
  unfold fills4 at h4
  simp only [Bool.and_eq_true, List.all_eq_true, decide_eq_true_eq, List.mem_range] at h1 h2 h3 h4
  refine ⟨fun j hj => ?_, ?_, ?_, ?_, ?_⟩
  · obtain ⟨⟨⟨⟨⟨a1, a2⟩, a3⟩, a4⟩, a5⟩, a6⟩ := h1 j hj
    exact ⟨good_of a1, a2, a3, a4, a5, a6⟩
  · exact ⟨good_of h2.1.1.1, h2.1.1.2, h2.1.2⟩
  · exact h2.2
  · obtain ⟨⟨⟨⟨⟨a1, a2⟩, a3⟩, a4⟩, a5⟩, a6⟩ := h3
    exact ⟨good_of a1, a2, a3, a4, comp_of a5, a6⟩
  · obtain ⟨⟨⟨⟨a1, a2⟩, a3⟩, a4⟩, a5⟩ := h4
    exact ⟨good_of a1, a2, a3, a4, a5⟩

theorem law_HeapFills (a0 a1 : Int) (w : World) (w0 : (Lit.int .u8 a0).wf = true) (w1 : (Lit.int .u8 a1).wf = true) : Calls Try.prog 8 #[.int .u8 a0, .int .u8 a1] w fun e w' => e = .returned (.bool true) ∧ Below w.heap.size w w' := by
  obtain ⟨b0, b1⟩ := bounds_u8 w0
  obtain ⟨c0, c1⟩ := bounds_u8 w1
  clear w0 w1
  obtain ⟨n, rfl⟩ := Int.eq_ofNat_of_zero_le b0
  obtain ⟨m, rfl⟩ := Int.eq_ofNat_of_zero_le c0
  have HF := Lib.hid (fills_ok (n % 9) (m % 9) (Nat.mod_lt _ (by decide)) (Nat.mod_lt _ (by decide)))
  go_enter Try.func8, Try.ntmps8
  go_wp2_with fail
  rw [show (1 : Int) + (n : Int) % 9 = ((n % 9 + 1 : Nat) : Int) by omega, show (2 : Int) + (m : Int) % 9 = ((m % 9 + 2 : Nat) : Int) by omega]
  have hs1 : 1 ≤ n % 9 + 1 ∧ n % 9 + 1 ≤ 9 := by omega
  have hk1 : 2 ≤ m % 9 + 2 ∧ m % 9 + 2 ≤ 10 := by omega
  generalize n % 9 + 1 = s at *
  generalize m % 9 + 2 = k at *
  obtain ⟨hs1, hs2⟩ := hs1
  obtain ⟨hk1, hk2⟩ := hk1
  have hsk : s * k ≤ 9 * 10 := Nat.mul_le_mul hs2 hk2
  have hskI : (s : Int) * (k : Int) = ((s * k : Nat) : Int) := by simp
  rw [show RowKit.wrap64 ((s : Int) * (k : Int)) = ((s * k : Nat) : Int) by rw [hskI]; unfold RowKit.wrap64; omega]
  clear hskI b0 b1 c0 c1
  refine (x_New (s * k) _ (by omega)).mono ?_
  rintro e w1 ⟨h, g, rfl, h1, u1⟩
  have H1 := Lib.hid (show HX w1 w.heap.size h g (fillS s k 0) from h1)
  have U1 := Lib.hid u1
  clear h1 u1
  go_wp2
  go_loopw [9] (fun i wr => ∃ j : Nat, j ≤ k ∧ i = .int .i64 j ∧ Hid (HX wr w.heap.size h g (fillS s k j)) ∧ Hid (HUpd w.heap.size w wr)) (fun i _ => k - (intOf i).toNat)
  case atStart => exact ⟨0, Nat.zero_le _, rfl, H1.out, U1.out⟩
  case round =>
    obtain ⟨j, hj, rfl, HA, HU⟩ := hrel
    by_cases hlt : j < k
    · obtain ⟨g1, g2, g3, g4, g5, g6⟩ := HF.out.ag j hlt
      have HAL := Lib.hid (x_HAlloc HA.out g1 s (j * s) (by omega) g6 g2 j g3)
      have G4 := Lib.hid g4
      have G5 := Lib.hid g5
      have hjs : j * s ≤ 10 * 9 := Nat.mul_le_mul (by omega) hs2
      have hjI : (j : Int) * (s : Int) = ((j * s : Nat) : Int) := by simp
      have hj0 : (0 : Int) ≤ (j : Int) * (s : Int) := by omega
      have hj1 : (j : Int) * (s : Int) ≤ 90 := by omega
      have HJI := Lib.hid hjI
      clear g1 g2 g3 g4 g5 g6 hjI
      go_wp2_with fail
      refine HAL.out.mono ?_
      rintro e w2 ⟨rfl, h2, u2⟩
      have H2 := Lib.hid (show HX w2 w.heap.size h g (fillS s k (j + 1)) from h2)
      have U2 := Lib.hid (HU.out.trans u2)
      obtain ⟨q1, q2, q3⟩ := used_of G4.out
      have HAT : Hid (Calls Try.prog 27 #[.pointer (some ⟨h, 0, none⟩), .int .i64 j] w2 fun e w' => e = .returned (.int .i64 ((j : Int) * (s : Int))) ∧ w2 = w') := by
        have := x_At H2.out j q1 q2 (j * s) (by rw [q3]; exact G5.out)
        rw [← HJI.out] at this
        exact this
      clear h2 u2 HA HU HAL q1 q2 q3
      go_wp2_with fail
      refine HAT.out.mono ?_
      rintro e w' ⟨rfl, rfl⟩
      go_wp2
      go_roundw
      case rel => exact ⟨j + 1, by omega, by go_num, H2.out, U2.out⟩
      case measure => simp [intOf]; omega
    · obtain rfl : k = j := by omega
      clear hj hlt H1 U1
      obtain ⟨g1, g2, g3⟩ := HF.out.full
      have HAL : Hid (Calls Try.prog 26 #[.pointer (some ⟨h, 0, none⟩), .int .i64 1] wr fun e w' => e = .returned (.tuple #[.int .i64 0, .int .i64 3]) ∧ HX w' w.heap.size h g (fillS s k k) ∧ HUpd w.heap.size wr w') := x_HAllocNo HA.out g1 1 (by decide) g3 g2
      clear g1 g2 g3
      go_wp2_with fail
      refine HAL.out.mono ?_
      rintro e w3 ⟨rfl, h3, u3⟩
      have H3 := Lib.hid (show HX w3 w.heap.size h g (halfS s k 0) from h3)
      have U3 := Lib.hid (HU.out.trans u3)
      clear h3 u3 HA HU HAL
      go_wp2
      go_loopw [14] (fun i wr => ∃ j : Nat, j ≤ (k + 1) / 2 ∧ i = .int .i64 ((2 * j : Nat) : Int) ∧ Hid (HX wr w.heap.size h g (halfS s k j)) ∧ Hid (HUpd w.heap.size w wr)) (fun i _ => k + 2 - (intOf i).toNat)
      case atStart => exact ⟨0, Nat.zero_le _, rfl, H3.out, U3.out⟩
      case round =>
        clear H3 U3
        obtain ⟨j, hj, rfl, HA, HU⟩ := hrel
        by_cases hlt : 2 * j < k
        · have hlt2 : (2 : Int) * (j : Int) < (k : Int) := by omega
          obtain ⟨q1, q2, q3⟩ := used_of (HF.out.half j (by omega))
          have HFR : Hid (Calls Try.prog 28 #[.pointer (some ⟨h, 0, none⟩), .int .i64 ((2 * j : Nat) : Int)] wr fun e w' => e = .returned (.int .i64 0) ∧ HX w' w.heap.size h g (halfS s k (j + 1)) ∧ HUpd w.heap.size wr w') := x_Free HA.out (2 * j) q1 q2
          clear q1 q2 q3
          go_wp2_with fail
          refine HFR.out.mono ?_
          rintro e w4 ⟨rfl, h4, u4⟩
          have H4 := Lib.hid h4
          have U4 := Lib.hid (HU.out.trans u4)
          clear h4 u4 HA HU HFR
          go_wp2
          go_roundw
          case rel => exact ⟨j + 1, by omega, by go_num, H4.out, U4.out⟩
          case measure => simp [intOf]; omega
        · have hjk : j = (k + 1) / 2 := by omega
          have hlt2 : ¬ ((2 : Int) * (j : Int) < (k : Int)) := by omega
          have hlt3 : ¬ (((2 * j : Nat) : Int) < (k : Int)) := by omega
          obtain ⟨g1, g2, g3, g4, g5, g6⟩ := HF.out.e
          have HA4 := Lib.hid (show HX wr w.heap.size h g (halfE s k) by unfold halfE; rw [← hjk]; exact HA.out)
          have hfs : (k + 1) / 2 * s ≤ 5 * 9 := Nat.mul_le_mul (by omega) hs2
          rw [← hjk] at g2 hfs
          have hfI : (j : Int) * (s : Int) = ((j * s : Nat) : Int) := by simp
          have hf0 : (0 : Int) ≤ (j : Int) * (s : Int) := by omega
          have hf1 : (j : Int) * (s : Int) ≤ 90 := by omega
          have hdv : ((k : Int) + 1) / 2 = (j : Int) := by omega
          have HRM : Hid (Calls Try.prog 29 #[.pointer (some ⟨h, 0, none⟩)] wr fun e w' => e = .returned (.tuple #[.int .i64 ((j : Int) * (s : Int)), .int .i64 s]) ∧ Below wr.heap.size wr w') := by
            have := x_HRoom HA4.out g1
            rw [g2, g3] at this
            rw [hfI]
            exact this
          have HJK := Lib.hid hjk
          clear HA hfI hjk
          go_wp2_with fail
          refine HRM.out.mono ?_
          rintro e w5 ⟨rfl, hb5⟩
          have H5 := Lib.hid (HA4.out.below hb5)
          have U5 := Lib.hid (HU.out.trans (.of_below hb5))
          clear hb5 HRM HA4 HU
          have HAL : Hid (Calls Try.prog 26 #[.pointer (some ⟨h, 0, none⟩), .int .i64 ((s : Int) + 1)] w5 fun e w' => e = .returned (.tuple #[.int .i64 0, .int .i64 3]) ∧ HX w' w.heap.size h g (halfE s k) ∧ HUpd w.heap.size w5 w') := x_HAllocNo H5.out g1 (s + 1) (by omega) g6 g4
          obtain ⟨d1, d2, d3, d4, d5⟩ := HF.out.c
          rw [← HJK.out] at d2 d3 d4
          have G5 := Lib.hid g5
          have G1 := Lib.hid g1
          have D1 := Lib.hid d1
          have D2 := Lib.hid d2
          have D3 := Lib.hid d3
          have D4 := Lib.hid d4
          have D5 := Lib.hid d5
          clear g1 g2 g3 g4 g5 g6 d1 d2 d3 d4 d5 H5
          go_wp2_with fail
          refine HAL.out.mono ?_
          rintro e w6 ⟨rfl, h6, u6⟩
          have H6 := Lib.hid h6
          have U6 := Lib.hid (U5.out.trans u6)
          clear h6 u6 U5 HAL
          have HCO := Lib.hid (x_Compact H6.out G1.out G5.out _ rfl)
          go_wp2_with fail
          refine HCO.out.mono ?_
          clear HCO
          rintro e w7 ⟨rfl, h7, u7⟩
          have H7 := Lib.hid (show HX w7 w.heap.size h g (compE s k) from h7)
          have U7 := Lib.hid (U6.out.trans u7)
          clear h7 u7 U6 H6
          have HRM : Hid (Calls Try.prog 29 #[.pointer (some ⟨h, 0, none⟩)] w7 fun e w' => e = .returned (.tuple #[.int .i64 ((j : Int) * (s : Int)), .int .i64 ((j : Int) * (s : Int))]) ∧ Below w7.heap.size w7 w') := by
            have := x_HRoom H7.out D1.out
            rw [D2.out, D3.out] at this
            rw [show (j : Int) * (s : Int) = ((j * s : Nat) : Int) by simp]
            exact this
          go_wp2_with fail
          refine HRM.out.mono ?_
          rintro e w8 ⟨rfl, hb8⟩
          have H8 := Lib.hid (H7.out.below hb8)
          have U8 := Lib.hid (U7.out.trans (.of_below hb8))
          clear hb8 HRM H7 U7
          have HAL : Hid (∃ q : Nat, Calls Try.prog 26 #[.pointer (some ⟨h, 0, none⟩), .int .i64 ((j : Int) * (s : Int))] w8 fun e w' => e = .returned (.tuple #[.int .i64 q, .int .i64 0]) ∧ HUpd w.heap.size w8 w') := by
            obtain ⟨p, hp⟩ := Int.eq_ofNat_of_zero_le D4.out
            refine ⟨freeIx (compE s k), ?_⟩
            have := x_HAlloc H8.out D1.out (j * s) p (by omega) D5.out hp _ rfl
            rw [show (j : Int) * (s : Int) = ((j * s : Nat) : Int) by simp]
            exact this.mono (fun e w' h => ⟨h.1, h.2.2⟩)
          obtain ⟨q, hq⟩ := HAL.out
          go_wp2_with fail
          refine hq.mono ?_
          rintro e w9 ⟨rfl, u9⟩
          have U9 := Lib.hid (U8.out.trans u9)
          clear u9 U8 H8 HAL hq
          go_wp2_with fail
          refine (c_known07 _).mono ?_
          rintro e w10 ⟨rfl, hb10⟩
          have U10 := Lib.hid (U9.out.trans (.of_below hb10))
          clear hb10
          go_wp2
          go_ret
          exact ⟨rfl, U10.out.belowB (Nat.le_refl _)⟩

end Go.Proofs.Ytcecegcbkcdpjaa
