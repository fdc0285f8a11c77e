/-
  The walk of the law BitsBack.
-/
import Derived.Test.YtcecegcbkcdpjaaBitsLaws2
namespace Go.Proofs.Ytcecegcbkcdpjaa
open Go.RowKit Go.ChangeShapes Go.ChangeAt
set_option linter.unusedVariables false
set_option maxHeartbeats 2000000
set_option maxRecDepth 100000

theorem ReadsBy.at {α : Type} {w : World} {b off S : Nat} {f : α → List Value} {l : List α} (h : ReadsBy w (some ⟨b, off, none⟩) S f l) {i : Nat} {d : α} (hd : l[i]? = some d) (j : Nat) (v : Value) (hv : (f d)[j]? = some v) : w.cell? ⟨b, off + i * S + j, none⟩ = some v := by
  obtain ⟨b', off', he, _, hc⟩ := h i d hd
  cases he
  exact hc j v hv

theorem law_BitsBack (a0 : Int) (a1 : Option Addr) (len1 cap1 : Nat) (z1 : List DoB) (a2 : Int) (w : World) (w0 : (Lit.int .i64 a0).wf = true) (w1 : DoBs w a1 len1 cap1 z1) (w2 : (Lit.int .i64 a2).wf = true) :
    Calls Try.prog 5 #[.int .i64 a0, .slice a1 len1 cap1, .int .i64 a2] w fun e w' => e = .returned (.bool true) ∧ Below w.heap.size w w' := by
  obtain ⟨b0, b1⟩ := bounds_i64 w0
  obtain ⟨q0, q1⟩ := bounds_i64 w2
  obtain ⟨ed, hc1, hm1, hr1, hok⟩ := w1
  unfold maxLen at hm1
  have ED := Lib.hid ed
  have HD := Lib.hid hr1
  have HO := Lib.hid hok
  clear ed hr1 hok w0 w2
  by_cases hbig : 3000 < a0
  · go_enter Try.func5, Try.ntmps5
    go_wp2_with (go_at_call 14; refine (c_known02 _).mono ?_; rintro e w' ⟨rfl, hbel⟩)
    go_ret
    exact ⟨rfl, hbel⟩
  · by_cases hneg : a0 < 0
    · go_enter Try.func5, Try.ntmps5
      go_wp2_with (go_at_call 14; refine (c_known02 _).mono ?_; rintro e w' ⟨rfl, hbel⟩)
      go_ret
      exact ⟨rfl, hbel⟩
    · by_cases hl : 60 < len1
      · go_enter Try.func5, Try.ntmps5
        go_wp2_with (go_at_call 14; refine (c_known02 _).mono ?_; rintro e w' ⟨rfl, hbel⟩)
        go_ret
        exact ⟨rfl, hbel⟩
      · obtain ⟨N, rfl⟩ := Int.eq_ofNat_of_zero_le (show 0 ≤ a0 from by omega)
        have hN : N ≤ 3000 := by omega
        have hle : len1 ≤ 60 := by omega
        clear hbig hneg hl
        go_enter Try.func5, Try.ntmps5
        go_wp2_with fail
        refine (c_BNewYes N _ (by omega)).mono ?_
        rintro e w1 ⟨m, g, rfl, h1, h2, T1, U1⟩
        have HW := Lib.hid (show ∀ q ∈ [g], w.heap.size ≤ q from fun q hq => by simp at hq; omega)
        have HT1 := Lib.hid T1
        have HB1 := Lib.hid (U1.below (Nat.le_refl w.heap.size) (by simp))
        clear T1 U1 h1 h2
        go_wp2_with fail
        go_loopw [9] (fun i wr => ∃ (k : Nat) (b : Nat → Bool), k ≤ len1 ∧ i = .int .i64 k ∧ Hid (MapAt wr m g N b) ∧ Hid (Below w.heap.size w wr)) (fun i _ => len1 - (intOf i).toNat)
        case atStart => exact ⟨0, _, Nat.zero_le _, rfl, HT1.out, HB1.out⟩
        case round =>
          obtain ⟨k, b, hk, rfl, HT, HB⟩ := hrel
          by_cases hlt : k < len1
          · have hlt2 : k < z1.length := by have := ED.out; omega
            obtain ⟨bb, off, rfl, hblt, hc⟩ := (HD.out.below HB.out) k _ (List.getElem?_eq_getElem hlt2)
            have hxo := HO.out _ (List.getElem_mem hlt2)
            generalize z1[k] = x at *
            have c0 := hc 0 _ rfl
            have c1 := hc 1 _ rfl
            have c2 := hc 2 _ rfl
            rw [Nat.add_zero] at c0
            have HDN := Lib.hid (c_doneB m g N b wr HT.out x hxo)
            obtain ⟨kd, fr, nm⟩ := x
            dsimp only at c0 c1 c2 HDN
            clear hc hxo
            go_wp2_with fail
            refine HDN.out.mono ?_
            rintro e w4 ⟨⟨x, rfl⟩, T4, U4⟩
            have HT4 := Lib.hid T4
            have HB4 := Lib.hid (HB.out.trans (U4.below HB.out.size HW.out))
            clear T4 U4 c0 c1 c2
            go_wp2
            go_roundw
            case rel => exact ⟨k + 1, _, by omega, by go_num, HT4.out, HB4.out⟩
            case measure => simp [intOf]; omega
          · obtain rfl : len1 = k := by omega
            obtain ⟨wA, rfl⟩ : ∃ x, x = wr := ⟨_, rfl⟩
            clear hlt hk HD HO ED HT1 HB1
            go_wp2_with fail
            refine (c_flat m g N b _ HT.out).mono ?_
            rintro e w2 ⟨v, rfl, own, bel⟩
            obtain ⟨av, cv, rfl, hr, -, -⟩ := owns_reads own
            have HR2 := Lib.hid hr
            have HT2 := Lib.hid (HT.out.keep (l := []) (.of_below bel) (by simp) (by simp))
            have HB2 := Lib.hid (bNext HB.out bel)
            have hbl : ∀ x, av = some x → x.block ≠ g := fun x hx he => by
              obtain ⟨a', c', he', -, -, hb'⟩ := owns_reads own
              cases he'
              have h1 := (hb' x hx).1
              have h2 := HT.out.data.lt
              omega
            have HBL := Lib.hid (show ∀ x, av = some x → x.block ∉ [g] from fun x hx => by simpa using hbl x hx)
            clear own bel hr hbl
            have HFL := Lib.hid (show (flatR (runsR b N)).length ≤ 6000 from by have := flatR_len (runsR b N); have := runsR_len b N; omega)
            have HK := Lib.hid (c_Taken m g N b w2 HT2.out)
            have HF := Lib.hid (c_First m g N b w2 HT2.out a2 q1)
            have hcn := cntF_le b N
            generalize hFe : flatR (runsR b N) = F at *
            have HFE := Lib.hid hFe
            clear hFe
            go_wp2_with (go_at_call 17; refine HK.out.mono ?_; rintro e w' ⟨rfl, rfl⟩)
            refine HF.out.mono ?_
            rintro e w' ⟨⟨o, ho, rfl⟩, rfl⟩
            cases o with
            | none =>
              rw [show firstV none = .tuple #[.int .i64 0, .bool false] from rfl]
              clear ho
              go_wp2_with (go_at_call 14; refine (c_known02 _).mono ?_; rintro e w' ⟨rfl, hbel⟩)
              go_ret
              exact ⟨rfl, bNext HB2.out hbel⟩
            | some p =>
              rw [show firstV (some p) = .tuple #[.int .i64 (p : Int), .bool true] from rfl]
              rcases ho with ⟨_, h⟩ | ⟨hq1, hfi⟩
              · cases h
              · obtain ⟨Q, rfl⟩ := Int.eq_ofNat_of_zero_le (show 0 ≤ a2 from by omega)
                rw [Int.toNat_natCast] at hfi
                have hQ1 : 1 ≤ Q := by omega
                obtain ⟨hpq, hrun, -⟩ := hfi
                obtain ⟨b1', hb1⟩ : ∃ b1, b1 = fill b p Q true := ⟨_, rfl⟩
                have x1 := chg_yes (no := 3) hQ1 hpq hrun
                rw [Bool.not_false, ← hb1] at x1
                have hfr : runIs b1' p Q true := by rw [hb1]; exact fill_run b p Q true
                have hnr : ¬ runIs b1' p Q false := fun h => by
                  have e1 := h 0 (by omega)
                  have e2 := hfr 0 (by omega)
                  rw [e1] at e2; cases e2
                have x2 := chg_no (no := 3) hQ1 hpq hnr
                have x3 := chg_yes (no := 4) hQ1 hpq hfr
                rw [Bool.not_true, hb1, fill_back hrun true, ← hb1] at x3
                have hnr2 : ¬ runIs b p Q true := fun h => by
                  have e1 := h 0 (by omega)
                  have e2 := hrun 0 (by omega)
                  rw [e1] at e2; cases e2
                have x4 := chg_no (no := 4) hQ1 hpq hnr2
                have hcnt : cntF b1' N = cntF b N + Q := by
                  have := cntF_fill (v := true) (b := b) (n := N) hrun hpq
                  rw [← hb1] at this
                  simpa using this
                have X1 := Lib.hid x1
                have X2 := Lib.hid x2
                have X3 := Lib.hid x3
                have X4 := Lib.hid x4
                have HCN := Lib.hid hcnt
                clear x1 x2 x3 x4 hcnt hfr hnr hnr2 hrun hb1 HF
                obtain ⟨C, hC⟩ : ∃ C, C = cntF b N := ⟨_, rfl⟩
                rw [← hC] at HK HCN hcn ⊢
                have HC := Lib.hid hC
                clear hC
                have T3' := Lib.hid (c_TakeTo m g N b w2 HT2.out p Q (by omega) (by omega) (by omega) 0 b1' X1.out.1 X1.out.2)
                go_wp2_with fail
                refine T3'.out.mono ?_
                rintro e w3 ⟨rfl, T3, U3⟩
                have HB3 := Lib.hid (HB2.out.trans (U3.below HB2.out.size HW.out))
                have HR3 := Lib.hid (U3.reads HR2.out HBL.out)
                have T4' := Lib.hid (c_TakeTo m g N b1' w3 T3 p Q (by omega) (by omega) (by omega) 3 b1' X2.out.1 X2.out.2)
                clear T3 U3 T3'
                go_wp2_with fail
                refine T4'.out.mono ?_
                rintro e w4 ⟨rfl, T4, U4⟩
                have HB4 := Lib.hid (HB3.out.trans (U4.below HB3.out.size HW.out))
                have HR4 := Lib.hid (U4.reads HR3.out HBL.out)
                have HK4 := Lib.hid (c_Taken m g N b1' w4 T4)
                rw [HCN.out] at HK4
                have T5' := Lib.hid (c_FreeTo m g N b1' w4 T4 p Q (by omega) (by omega) (by omega) 0 b X3.out.1 X3.out.2)
                clear T4 U4 T4'
                go_wp2_with (go_at_call 17; refine HK4.out.mono ?_; rintro e w' ⟨rfl, rfl⟩)
                refine T5'.out.mono ?_
                rintro e w5 ⟨rfl, T5, U5⟩
                have HB5 := Lib.hid (HB4.out.trans (U5.below HB4.out.size HW.out))
                have HR5 := Lib.hid (U5.reads HR4.out HBL.out)
                have T6' := Lib.hid (c_FreeTo m g N b w5 T5 p Q (by omega) (by omega) (by omega) 4 b X4.out.1 X4.out.2)
                clear T5 U5 T5'
                go_wp2_with fail
                refine T6'.out.mono ?_
                rintro e w6 ⟨rfl, T6, U6⟩
                have HT6 := Lib.hid T6
                have HB6 := Lib.hid (HB5.out.trans (U6.below HB5.out.size HW.out))
                have HR6 := Lib.hid (U6.reads HR5.out HBL.out)
                have HK6 := Lib.hid (c_Taken m g N b w6 T6)
                rw [← HC.out] at HK6
                clear T6 U6 T6' HK HK4
                go_wp2_with (go_at_call 17; refine HK6.out.mono ?_; rintro e w' ⟨rfl, rfl⟩)
                refine (c_flat m g N b _ HT6.out).mono ?_
                rintro e w7 ⟨v, rfl, own, bel⟩
                rw [HFE.out] at own
                obtain ⟨av7, cv7, rfl, hr7, -, -⟩ := owns_reads own
                have HR7 := Lib.hid hr7
                have HR67 := Lib.hid (HR6.out.below bel)
                have HB7 := Lib.hid (bNext HB6.out bel)
                clear own bel hr7
                go_wp2_with fail
                refine (c_SameIntsYesB av7 av _ cv7 cv F _ rfl HR7.out HR67.out (by have := HFL.out; omega)).mono ?_
                rintro e w8 ⟨rfl, bel⟩
                have HB8 := Lib.hid (bNext HB7.out bel)
                clear bel
                go_wp2_with (go_at_call 14; refine (c_known02 _).mono ?_; rintro e w' ⟨rfl, hbel⟩)
                go_ret
                exact ⟨rfl, bNext HB8.out hbel⟩

end Go.Proofs.Ytcecegcbkcdpjaa
