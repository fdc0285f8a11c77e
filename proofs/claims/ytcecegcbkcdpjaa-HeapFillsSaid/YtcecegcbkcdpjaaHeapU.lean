/-
  The law HeapWrites: the walk.
-/
import Derived.Test.YtcecegcbkcdpjaaHeapT
namespace Go.Proofs.Ytcecegcbkcdpjaa
open Go.RowKit
set_option linter.unusedVariables false
set_option maxHeartbeats 8000000
set_option maxRecDepth 100000

theorem law_HeapWrites (a0 : Option Addr) (len0 cap0 : Nat) (z0 : List Int) (a1 : Option Addr) (len1 cap1 : Nat) (z1 : List Int) (a2 : Int) (w : World) (w0 : Came .u16 w a0 len0 cap0 z0) (w1 : Came .u16 w a1 len1 cap1 z1) (w2 : (Lit.int .u8 a2).wf = true) :
    Calls Try.prog 10 #[.slice a0 len0 cap0, .slice a1 len1 cap1, .int .u8 a2] w fun e w' => e = .returned (.bool true) ∧ Below w.heap.size w w' := by
  obtain ⟨p0, p1⟩ := bounds_u8 w2
  obtain ⟨l0, rfl, hc0, hm0, hr0, hw0⟩ := w0.reads
  obtain ⟨l1, rfl, hc1, hm1, hr1, hw1⟩ := w1.reads
  unfold maxLen at hm0 hm1
  by_cases hl : 200 < l0.length ∨ 200 < l1.length
  · clear hr0 hr1 hw0 hw1 w0 w1 w2
    by_cases h1 : 200 < l0.length
    all_goals
      (try have h2 : 200 < l1.length := by omega)
      clear hl
      go_enter Try.func10, Try.ntmps10
      go_wp2_with (go_at_call 31; refine (c_known07 _).mono ?_; rintro e w' ⟨rfl, hbel⟩)
      go_ret
      exact ⟨rfl, hbel⟩
  · have hA : l0.length ≤ 200 := by omega
    have hB : l1.length ≤ 200 := by omega
    have hb0 : ∀ x ∈ l0, 0 ≤ x ∧ x ≤ 65535 := fun x hx => bounds_u16 (hw0 x hx)
    have hb1 : ∀ x ∈ l1, 0 ≤ x ∧ x ≤ 65535 := fun x hx => bounds_u16 (hw1 x hx)
    have R0 := Lib.hid hr0
    have R1 := Lib.hid hr1
    have B0 := Lib.hid hb0
    have B1 := Lib.hid hb1
    obtain ⟨t, rfl⟩ := Int.eq_ofNat_of_zero_le p0
    obtain ⟨A, hAe⟩ : ∃ A, A = l0.length := ⟨_, rfl⟩
    obtain ⟨M, hMe⟩ : ∃ M, M = l1.length := ⟨_, rfl⟩
    rw [← hAe, ← hMe]
    rw [← hAe] at hA
    rw [← hMe] at hB
    have EA := Lib.hid hAe
    have EM := Lib.hid hMe
    clear hr0 hr1 hw0 hw1 w0 w1 w2 hl hb0 hb1 hAe hMe hc0 hc1 hm0 hm1
    go_enter Try.func10, Try.ntmps10
    go_wp2_with fail
    refine (x_New 1000 _ (by decide)).mono ?_
    rintro e w1 ⟨h, g, rfl, h1, u1⟩
    have H1 := Lib.hid h1
    have U1 := Lib.hid u1
    clear h1 u1
    have HAL := Lib.hid (x_HAlloc H1.out (good_new 1000) A 0 (by omega) (by decide) (gaps1 1000 A (by omega) (by decide)) 0 rfl)
    go_wp2_with fail
    refine HAL.out.mono ?_
    rintro e w2 ⟨rfl, h2, u2⟩
    have H2 := Lib.hid h2
    have U2 := Lib.hid (U1.out.trans u2)
    clear h2 u2 H1 U1 HAL
    have HAL : Hid (Calls Try.prog 26 #[.pointer (some ⟨h, 0, none⟩), .int .i64 ((M : Int) + 3)] w2 fun e w' => e = .returned (.tuple #[.int .i64 1, .int .i64 0]) ∧ HX w' w.heap.size h g (twoS A (M + 3)) ∧ HUpd w.heap.size w2 w') := by
      have := x_HAlloc H2.out (good_one A (by omega)) (M + 3) A (by omega) (by show 1 < 1000000; decide) (gaps_two A (M + 3) (by omega) (by omega)) 1 rfl
      rw [show ((M + 3 : Nat) : Int) = (M : Int) + 3 by omega] at this
      exact this
    go_wp2_with fail
    refine HAL.out.mono ?_
    rintro e w3 ⟨rfl, h3, u3⟩
    have H3 := Lib.hid h3
    have U3 := Lib.hid (U2.out.trans u3)
    clear h3 u3 H2 U2 HAL
    go_wp2
    go_loopw [13, 15] (fun v i wr => ∃ j : Nat, j ≤ A ∧ i = .int .i64 j ∧ Hid (wr.ownsRow w3.heap.size 3 1 v j ((l0.take j).map (Value.int .i64))) ∧ Hid (Below w3.heap.size w3 wr)) (fun _ i _ => A - (intOf i).toNat)
    case atStart => exact ⟨0, Nat.zero_le _, rfl, World.ownsRow_nil _ _ _ _, Below.refl _ _⟩
    case round =>
      obtain ⟨j, hj, rfl, HO, HB⟩ := hrel
      have hbs := HB.out.size
      by_cases hlt : j < A
      · have hlt2 : j < l0.length := by rw [← EA.out]; exact hlt
        have HRW := R0.out.below (((U3.out.belowB (Nat.le_refl _)).trans (HB.out.mono (by have := U3.out.size; omega))))
        obtain ⟨b, off, rfl, hblt, hc⟩ := HRW.at (by simp; omega)
        have hcell := hc j _ (getD_map8 hlt2)
        have hmem : l0.getD j 0 ∈ l0 := by rw [List.getD_eq_getElem?_getD, List.getElem?_eq_getElem hlt2]; exact List.getElem_mem hlt2
        obtain ⟨hx0, hx1⟩ := B0.out _ hmem
        have HST := Lib.hid (show l0.take (j + 1) = l0.take j ++ [l0.getD j 0] by rw [List.take_add_one, List.getElem?_eq_getElem hlt2, List.getD_eq_getElem?_getD, List.getElem?_eq_getElem hlt2]; rfl)
        generalize l0.getD j 0 = x at *
        have HONE := Lib.hid (show ∀ u ∈ [(.int .i64 x : Value)], u.oneCell' = true by intro u hu; simp at hu; rw [hu]; rfl)
        have HMX := Lib.hid (show j + 1 ≤ maxLen by unfold maxLen; omega)
        have HBY := Lib.hid (show (j + 1) * 8 ≤ 140737488355328 by omega)
        clear hc hmem HRW
        go_wp2_with (at_builtin; refine wpList_app rfl _ _ 39 rfl w3.heap.size 3 (.int .i64 0) 1 8 Try.underlying39 inf_int rfl (by decide) _ j _ rfl (HO.out.alloc _) _ 1 1 [.int .i64 x] rfl rfl (Reads.madeAt rfl) HONE.out HMX.out HBY.out (Nat.le_trans hbs (by simp)) ?_)
        intro v' w5 own2 gr2
        have hlt' := HO.out.lt
        have HB2 := Lib.hid ((HB.out.alloc hbs _).grown gr2 (by simp; omega) (fun k hk => (hlt' k hk).1))
        have HO2 : Hid (w5.ownsRow w3.heap.size 3 1 v' (j + 1) ((l0.take (j + 1)).map (Value.int .i64))) := by
          unfold Hid
          rw [HST.out, List.map_append, List.map_take]
          exact own2
        clear own2 gr2 hlt' HO HB
        go_wp2
        go_roundw
        case rel => exact ⟨j + 1, by omega, by go_num, HO2.out, HB2.out⟩
        case measure => simp [intOf]; omega
      · obtain rfl : A = j := by omega
        rw [EA.out, List.take_length, ← EA.out] at HO
        have HP := Lib.hid HO.out
        have H4 := Lib.hid (H3.out.below HB.out)
        have U4 := Lib.hid (U3.out.trans (.of_below HB.out))
        clear HO HB hbs hj hlt H3 U3
        generalize wr = wp at *
        go_wp2
        go_loopw [14, 16] (fun v i wr => ∃ j : Nat, j ≤ M ∧ i = .int .i64 j ∧ Hid (wr.ownsRow wp.heap.size 3 1 v j ((l1.take j).map (Value.int .i64))) ∧ Hid (Below wp.heap.size wp wr)) (fun _ i _ => M - (intOf i).toNat)
        case atStart => exact ⟨0, Nat.zero_le _, rfl, World.ownsRow_nil _ _ _ _, Below.refl _ _⟩
        case round =>
          obtain ⟨j, hj, rfl, HO, HB⟩ := hrel
          have hbs := HB.out.size
          by_cases hlt : j < M
          · have hlt2 : j < l1.length := by rw [← EM.out]; exact hlt
            have HRW := R1.out.below (((U4.out.belowB (Nat.le_refl _)).trans (HB.out.mono (by have := U4.out.size; omega))))
            obtain ⟨b, off, rfl, hblt, hc⟩ := HRW.at (by simp; omega)
            have hcell := hc j _ (getD_map8 hlt2)
            have hmem : l1.getD j 0 ∈ l1 := by rw [List.getD_eq_getElem?_getD, List.getElem?_eq_getElem hlt2]; exact List.getElem_mem hlt2
            obtain ⟨hx0, hx1⟩ := B1.out _ hmem
            have HST := Lib.hid (show l1.take (j + 1) = l1.take j ++ [l1.getD j 0] by rw [List.take_add_one, List.getElem?_eq_getElem hlt2, List.getD_eq_getElem?_getD, List.getElem?_eq_getElem hlt2]; rfl)
            generalize l1.getD j 0 = x at *
            have HONE := Lib.hid (show ∀ u ∈ [(.int .i64 x : Value)], u.oneCell' = true by intro u hu; simp at hu; rw [hu]; rfl)
            have HMX := Lib.hid (show j + 1 ≤ maxLen by unfold maxLen; omega)
            have HBY := Lib.hid (show (j + 1) * 8 ≤ 140737488355328 by omega)
            clear hc hmem HRW
            go_wp2_with (at_builtin; refine wpList_app rfl _ _ 39 rfl wp.heap.size 3 (.int .i64 0) 1 8 Try.underlying39 inf_int rfl (by decide) _ j _ rfl (HO.out.alloc _) _ 1 1 [.int .i64 x] rfl rfl (Reads.madeAt rfl) HONE.out HMX.out HBY.out (Nat.le_trans hbs (by simp)) ?_)
            intro v' w5 own2 gr2
            have hlt' := HO.out.lt
            have HB2 := Lib.hid ((HB.out.alloc hbs _).grown gr2 (by simp; omega) (fun k hk => (hlt' k hk).1))
            have HO2 : Hid (w5.ownsRow wp.heap.size 3 1 v' (j + 1) ((l1.take (j + 1)).map (Value.int .i64))) := by
              unfold Hid
              rw [HST.out, List.map_append, List.map_take]
              exact own2
            clear own2 gr2 hlt' HO HB
            go_wp2
            go_roundw
            case rel => exact ⟨j + 1, by omega, by go_num, HO2.out, HB2.out⟩
            case measure => simp [intOf]; omega
          · obtain rfl : M = j := by omega
            rw [EM.out, List.take_length, ← EM.out] at HO
            have HQ := Lib.hid HO.out
            have H5 := Lib.hid (H4.out.below HB.out)
            have U5 := Lib.hid (U4.out.trans (.of_below HB.out))
            have HP5 := Lib.hid ((Upd.of_below (l := []) HB.out).ownsAbove HP.out (by simp))
            clear HO HB hbs hj hlt H4 U4 HP
            go_wp2_with fail
            rw [show (t : Int) % 4 = ((t % 4 : Nat) : Int) by omega]
            generalize hk : t % 4 = k at *
            have hk3 : k ≤ 3 := by omega
            clear hk p0 p1 R0 R1
            obtain ⟨pa, pc, hpv, hpr, -, -⟩ := owns_reads HP5.out
            obtain ⟨qa, qc, hqv, hqr, -, -⟩ := owns_reads HQ.out
            subst hpv
            subst hqv
            have HPR := Lib.hid hpr
            have HQR := Lib.hid hqr
            have HNP := Lib.hid (owns_ne HP5.out H5.out.data (by decide))
            have HNQ := Lib.hid (owns_ne HQ.out H5.out.data (by decide))
            clear hpr hqr
            have HW1 : Hid (Calls Try.prog 34 #[.pointer (some ⟨h, 0, none⟩), .int .i64 0, .int .i64 0, .slice pa A pc] wr fun e w' => e = .returned (.int .i64 0) ∧ HX w' w.heap.size h g (wsS (twoS A (M + 3)) (0 + 0) l0) ∧ HUpd w.heap.size wr w') :=
              x_Write H5.out 0 (by show 0 < 2; decide) rfl 0 rfl (by show 0 + A ≤ 1000; omega) 0 pa A pc l0 EA.out (by show 0 + A ≤ A; omega) HPR.out HNP.out (badH_iff.2 B0.out)
            refine HW1.out.mono ?_
            rintro e w6 ⟨rfl, h6, u6⟩
            have H6 := Lib.hid h6
            have U6 := Lib.hid (U5.out.trans u6)
            have HP6 := Lib.hid (u6.owns HP5.out (by decide))
            have HQ6 := Lib.hid (u6.owns HQ.out (by decide))
            obtain ⟨qa', qc', hqv, hqr, -, -⟩ := owns_reads HQ6.out
            cases hqv
            have HQR6 := Lib.hid hqr
            have HNQ6 := Lib.hid (owns_ne HQ6.out h6.data (by decide))
            clear h6 u6 HW1 H5 U5 HP5 HQ HPR HQR HNP HNQ hqr
            have HW2 : Hid (Calls Try.prog 34 #[.pointer (some ⟨h, 0, none⟩), .int .i64 1, .int .i64 k, .slice qa M qc] w6 fun e w' => e = .returned (.int .i64 0) ∧ HX w' w.heap.size h g (wsS (wsS (twoS A (M + 3)) (0 + 0) l0) (A + k) l1) ∧ HUpd w.heap.size w6 w') :=
              x_Write H6.out 1 (by show 1 < 2; decide) rfl A rfl (by show A + (M + 3) ≤ 1000; omega) k qa M qc l1 EM.out (by show k + M ≤ M + 3; omega) HQR6.out HNQ6.out (badH_iff.2 B1.out)
            go_wp2_with fail
            refine HW2.out.mono ?_
            rintro e w7 ⟨rfl, h7, u7⟩
            have H7 := Lib.hid h7
            have U7 := Lib.hid (U6.out.trans u7)
            have HP7 := Lib.hid (u7.owns HP6.out (by decide))
            have HQ7 := Lib.hid (u7.owns HQ6.out (by decide))
            clear h7 u7 HW2 H6 U6 HP6 HQ6 HQR6 HNQ6
            have HMX := Lib.hid (show M + 3 ≤ maxLen by unfold maxLen; omega)
            have hmx : ∀ x, x ≤ M + 3 → x ≤ maxLen ∧ x * 8 ≤ 140737488355328 := fun x hx => ⟨Nat.le_trans hx HMX.out, by omega⟩
            have HX8 := Lib.hid hmx
            clear hmx HMX
            go_wp2_with (at_builtin; refine wpList_appz rfl _ _ 39 3 rfl .i64 w7.heap.size 3 (.int .i64 0) 8 Try.underlying39 Try.underlying3 inf_int rfl rfl _ 0 [] rfl (World.ownsRow_nil _ _ _ _) _ k rfl rfl (HX8.out _ (by omega)).1 (HX8.out _ (by omega)).2 (Nat.le_refl _) ?_)
            intro v8 w8 own8 gr8
            have hb8 := ((Below.refl _ w7).grown gr8 (Nat.le_refl _) (fun k hk => by cases hk))
            have HB8 := Lib.hid hb8
            have HO8 := Lib.hid own8
            have HQ8 := Lib.hid ((Upd.of_below (l := []) hb8).ownsAbove HQ7.out (by simp))
            obtain ⟨qa', qc', hqv, hqr, -, -⟩ := owns_reads HQ8.out
            cases hqv
            have HQR8 := Lib.hid hqr
            have HLQ := Lib.hid (show (l1.map (Value.int .i64)).length = M * 1 by rw [List.length_map, ← EM.out]; omega)
            have HS8 := Lib.hid hb8.size
            clear own8 gr8 hb8 hqr HQ8
            go_wp2_with (at_builtin; refine wpList_app rfl _ _ 39 rfl w7.heap.size 3 (.int .i64 0) 1 8 Try.underlying39 inf_int rfl (by decide) v8 k _ rfl HO8.out qa M qc (l1.map (Value.int .i64)) rfl HLQ.out HQR8.out (ints_one _ _) (HX8.out _ (by omega)).1 (HX8.out _ (by omega)).2 HS8.out ?_)
            intro v9 w9 own9 gr9
            have hlt8 := HO8.out.lt
            have hb9 := HB8.out.grown gr9 HS8.out (fun k hk => (hlt8 k hk).1)
            have HB9 := Lib.hid hb9
            have HO9 := Lib.hid own9
            have HS9 := Lib.hid hb9.size
            clear own9 gr9 hb9 hlt8 HQR8 HS8 HB8 HO8
            go_wp2_with (at_builtin; refine wpList_appz rfl _ _ 39 3 rfl .i64 w7.heap.size 3 (.int .i64 0) 8 Try.underlying39 Try.underlying3 inf_int rfl rfl v9 (k + M) _ rfl HO9.out _ (3 - k) rfl (by omega) (HX8.out _ (by omega)).1 (HX8.out _ (by omega)).2 HS9.out ?_)
            intro v10 w10 own10 gr10
            have hlt9 := HO9.out.lt
            have hb10 := HB9.out.grown gr10 HS9.out (fun k hk => (hlt9 k hk).1)
            have HO10 : Hid (w10.ownsRow w7.heap.size 3 1 v10 (M + 3) ((List.replicate k 0 ++ l1 ++ List.replicate (3 - k) 0).map (Value.int .i64))) := by
              unfold Hid
              rw [show M + 3 = k + M + (3 - k) by omega]
              simp only [List.map_append, List.map_replicate, List.append_assoc]
              exact own10
            have H10 := Lib.hid (H7.out.below hb10)
            have U10 := Lib.hid (U7.out.trans (.of_below hb10))
            have HP10 := Lib.hid ((Upd.of_below (l := []) hb10).ownsAbove HP7.out (by simp))
            have HWS := Lib.hid (show (wsS (wsS (twoS A (M + 3)) (0 + 0) l0) (A + k) l1).ws = l0 ++ (List.replicate k 0 ++ l1 ++ List.replicate (3 - k) 0) ++ List.replicate (997 - A - M) 0 by rw [EA.out, EM.out]; exact two_ws l0 l1 k hk3 (by have := EA.out; have := EM.out; omega))
            have HWL := Lib.hid (show (List.replicate k 0 ++ l1 ++ List.replicate (3 - k) 0).length = M + 3 by simp; have := EM.out; omega)
            generalize List.replicate k 0 ++ l1 ++ List.replicate (3 - k) 0 = want at *
            clear own10 gr10 hb10 hlt9 HB9 HO9 HS9 H7 U7 HP7 HQ7 HLQ HX8
            obtain ⟨wa, wc, hwv, -, -, -⟩ := owns_reads HO10.out
            subst hwv
            have HST4 : Hid (∃ S4, S4 = wsS (wsS (twoS A (M + 3)) (0 + 0) l0) (A + k) l1) := ⟨_, rfl⟩
            have HR0 : Hid (∀ i, i < A → (wsS (wsS (twoS A (M + 3)) (0 + 0) l0) (A + k) l1).ws.getD (0 + i) 0 = l0.getD i 0) := fun i hi => by
              rw [HWS.out, Nat.zero_add, List.append_assoc, List.getD_eq_getElem?_getD, List.getElem?_append_left (by rw [← EA.out]; exact hi), List.getD_eq_getElem?_getD]
            have HR1 : Hid (∀ i, i < M + 3 → (wsS (wsS (twoS A (M + 3)) (0 + 0) l0) (A + k) l1).ws.getD (A + i) 0 = want.getD i 0) := fun i hi => by
              rw [HWS.out, List.append_assoc, List.getD_eq_getElem?_getD, List.getElem?_append_right (by rw [← EA.out]; omega), ← EA.out, show A + i - A = i by omega, List.getElem?_append_left (by rw [HWL.out]; exact hi), List.getD_eq_getElem?_getD]
            clear HWS HST4
            go_wp2
            go_loopw [21] (fun i wr2 => ∃ j : Nat, j ≤ A + (M + 3) ∧ i = .int .i64 j ∧ Hid (Below w10.heap.size w10 wr2)) (fun i _ => A + (M + 3) - (intOf i).toNat)
            case atStart => exact ⟨0, Nat.zero_le _, rfl, Below.refl _ _⟩
            case round =>
              obtain ⟨j, hj, rfl, HB⟩ := hrel
              by_cases hlt : j < A + (M + 3)
              · have hlt1 : (j : Int) < (A : Int) + ((M : Int) + 3) := by omega
                have HX3 := Lib.hid (H10.out.below HB.out)
                by_cases hja : j < A
                · have hja2 : j < l0.length := by rw [← EA.out]; exact hja
                  have HRE := Lib.hid (x_Read HX3.out 0 (by show 0 < 2; decide) rfl j hja (by show 0 + A ≤ 1000; omega) (l0.getD j 0) (HR0.out j hja))
                  obtain ⟨pa', pc', hpv, hpr, -, -⟩ := owns_reads ((Upd.of_below (l := []) HB.out).ownsAbove HP10.out (by simp))
                  cases hpv
                  obtain ⟨b, off, rfl, hblt, hc⟩ := hpr.at (by simp; omega)
                  have hcell := hc j _ (getD_map8 hja2)
                  have HRE2 : Hid (Calls Try.prog 35 #[.pointer (some ⟨h, 0, none⟩), .int .i64 0, .int .i64 j] _ fun e w' => e = .returned (.tuple #[.int .i64 (l0.getD j 0), .int .i64 0]) ∧ Below _ _ w') := HRE.out
                  generalize l0.getD j 0 = x at *
                  clear hc hpr HRE HX3 HR0 HR1 H10
                  go_wp2_with fail
                  refine HRE2.out.mono ?_
                  rintro e w11 ⟨rfl, hb11⟩
                  have HB11 := Lib.hid (bNext HB.out hb11)
                  have hcell2 := cellKeep hb11 hcell
                  clear hb11 hcell HB HRE2
                  go_wp2
                  go_roundw
                  case rel => exact ⟨j + 1, by omega, by go_num, HB11.out⟩
                  case measure => simp [intOf]; omega
                · obtain ⟨r, rfl⟩ : ∃ r, j = A + r := ⟨j - A, by omega⟩
                  have hr3 : r < M + 3 := by omega
                  have hr4 : r < want.length := by rw [HWL.out]; exact hr3
                  have hja2 : ¬ ((A : Int) + (r : Int) < (A : Int)) := by omega
                  have HRE := Lib.hid (x_Read HX3.out 1 (by show 1 < 2; decide) rfl r hr3 (by show A + (M + 3) ≤ 1000; omega) (want.getD r 0) (HR1.out r hr3))
                  obtain ⟨pa', pc', hpv, hpr, -, -⟩ := owns_reads ((Upd.of_below (l := []) HB.out).ownsAbove HO10.out (by simp))
                  cases hpv
                  obtain ⟨b, off, rfl, hblt, hc⟩ := hpr.at (by simp; omega)
                  have hcell := hc r _ (getD_map8 hr4)
                  have HRE2 : Hid (Calls Try.prog 35 #[.pointer (some ⟨h, 0, none⟩), .int .i64 1, .int .i64 r] _ fun e w' => e = .returned (.tuple #[.int .i64 (want.getD r 0), .int .i64 0]) ∧ Below _ _ w') := HRE.out
                  generalize want.getD r 0 = x at *
                  clear hc hpr HRE HX3 HR0 HR1 H10
                  have hAr : (A : Int) + (r : Int) - (A : Int) = (r : Int) := by omega
                  go_wp2_with fail
                  refine HRE2.out.mono ?_
                  rintro e w11 ⟨rfl, hb11⟩
                  have HB11 := Lib.hid (bNext HB.out hb11)
                  have hcell2 := cellKeep hb11 hcell
                  clear hb11 hcell HB HRE2
                  go_wp2
                  go_roundw
                  case rel => exact ⟨A + r + 1, by omega, by go_num, HB11.out⟩
                  case measure => simp [intOf]; omega
              · obtain rfl : j = A + (M + 3) := by omega
                have hlt1 : ¬ (((A + (M + 3) : Nat) : Int) < (A : Int) + ((M : Int) + 3)) := by omega
                have U12 := Lib.hid (U10.out.trans (.of_below HB.out))
                clear HB
                go_wp2_with fail
                refine (c_known07 _).mono ?_
                rintro e w12 ⟨rfl, hb12⟩
                have U13 := Lib.hid (U12.out.trans (.of_below hb12))
                clear hb12
                go_wp2
                go_ret
                exact ⟨rfl, U13.out.belowB (Nat.le_refl _)⟩

end Go.Proofs.Ytcecegcbkcdpjaa
