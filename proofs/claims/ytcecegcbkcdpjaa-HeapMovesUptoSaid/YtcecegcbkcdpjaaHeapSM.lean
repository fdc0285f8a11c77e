/-
  The law HeapMoves: the walk.
-/
import Derived.Test.YtcecegcbkcdpjaaHeapSN
import Derived.Test.YtcecegcbkcdpjaaHeapSQ1
import Derived.Test.YtcecegcbkcdpjaaHeapSQ2
import Derived.Test.YtcecegcbkcdpjaaHeapSQ3
import Derived.Test.YtcecegcbkcdpjaaHeapSQ4
namespace Go.Proofs.Ytcecegcbkcdpjaa
open Go.RowKit
set_option linter.unusedVariables false
set_option maxHeartbeats 8000000
set_option maxRecDepth 100000

theorem getD_ne {U : List Nat} (h : U.Nodup) {i k : Nat} (hi : i < U.length) (hk : k < U.length) (hik : k < i) : U.getD i 0 ≠ U.getD k 0 := by
  intro e
  rw [List.getD_eq_getElem?_getD, List.getD_eq_getElem?_getD, List.getElem?_eq_getElem hi, List.getElem?_eq_getElem hk] at e
  have h1 := List.pairwise_iff_getElem.1 h k i hk hi hik
  exact h1 e.symm
theorem inf_ints : (Try.prog.info? 39).map (fun i => (i.zero, i.size, i.bytes)) = some (some (.slice none 0 0), 1, 24) := by kernel_rfl

theorem law_HeapMoves (a0 : Int) (a1 : Option Addr) (len1 cap1 : Nat) (ds : List DoH) (w : World) (w0 : (Lit.int .u8 a0).wf = true) (w1 : DoHs w a1 len1 cap1 ds) (hs : cntH ds ≤ 2000000) :
    Calls Try.prog 12 #[.int .u8 a0, .slice a1 len1 cap1] w fun e w' => e = .returned (.bool true) ∧ Below w.heap.size w w' := by
  obtain ⟨b0, b1⟩ := bounds_u8 w0
  obtain ⟨rfl, hc1, hm1, hr1, hok⟩ := w1
  have HLG := Lib.hid (c_long07 (c := cap1) hr1 hs)
  by_cases hl : 150 < cntH ds
  · rw [decide_eq_true (show (150 : Int) < (cntH ds : Nat) by omega)] at HLG
    clear hr1 hok w0 hc1 hm1 hs hl
    go_enter Try.func12, Try.ntmps12
    go_wp2_with (first | (go_at_call 36; refine HLG.out.mono ?_; rintro e w' ⟨rfl, rfl⟩) | (go_at_call 31; refine (c_known07 _).mono ?_; rintro e w' ⟨rfl, hbel⟩))
    go_ret
    exact ⟨rfl, hbel⟩
  · rw [decide_eq_false (show ¬ (150 : Int) < (cntH ds : Nat) by omega)] at HLG
    have HR := Lib.hid hr1
    have HOK := Lib.hid hok
    have hds : ds.length ≤ 150 := Nat.le_trans (cntH_len ds) (by omega)
    have HDN := Lib.hid (fun d (hd : d ∈ ds) => Nat.le_trans (cntH_n hd) (by omega) : ∀ d ∈ ds, d.n ≤ 150)
    obtain ⟨N, rfl⟩ := Int.eq_ofNat_of_zero_le b0
    clear hr1 hok w0 hc1 hm1 hs hl
    go_enter Try.func12, Try.ntmps12
    go_wp2_with fail
    refine HLG.out.mono ?_
    rintro e w' ⟨rfl, rfl⟩
    clear HLG
    go_wp2_with fail
    refine (x_New N _ (by omega)).mono ?_
    rintro e w1 ⟨h, g, rfl, h1, u1⟩
    have H1 := Lib.hid (show HI w1 w.heap.size h g (newH N) from ⟨h1, inv_new N⟩)
    have U1 := Lib.hid u1
    clear h1 u1
    go_wp2
    go_loopw [7] (fun iv wr => ∃ j : Nat, ∃ S : HpS, j ≤ ds.length ∧ iv = .int .i64 (j : Int) ∧ Hid (HI wr w.heap.size h g S) ∧ Hid (S.bl.length ≤ j) ∧ Hid (S.N = N) ∧ Hid (HUpd w.heap.size w wr)) (fun iv _ => ds.length - (intOf iv).toNat)
    case atStart => exact ⟨0, newH N, Nat.zero_le _, rfl, H1.out, Nat.le_refl _, rfl, U1.out⟩
    case round =>
      clear H1 U1
      obtain ⟨j, S, hj, rfl, HS, HBL, HNN, HU⟩ := hrel
      by_cases hlt : j < ds.length
      · have hltI : (j : Int) < (ds.length : Int) := by omega
        have HBW := Lib.hid (HU.out.belowB (Nat.le_refl _))
        obtain ⟨b, off, rfl, hblt, k0, k1, k2, k3⟩ := doH_cells HR.out hlt
        have c0 := (HBW.out.cell (p := ⟨b, off + j * 4, none⟩) hblt).trans k0
        have c1 := (HBW.out.cell (p := ⟨b, off + j * 4 + 1, none⟩) hblt).trans k1
        have c2 := (HBW.out.cell (p := ⟨b, off + j * 4 + 2, none⟩) hblt).trans k2
        have c3 := (HBW.out.cell (p := ⟨b, off + j * 4 + 3, none⟩) hblt).trans k3
        have KS := Lib.hid (And.intro k1 (And.intro k2 k3))
        have HBT := Lib.hid hblt
        clear k0 k1 k2 k3 hblt
        obtain ⟨hk1, hk2, hk3, hk4⟩ := HOK.out _ (List.getElem_mem hlt)
        have hdn := HDN.out _ (List.getElem_mem hlt)
        obtain ⟨i1, i2, i3, i4, i5⟩ := hk4
        have HRd := Lib.hid (i4.below HBW.out)
        have HGB : Hid (0 < ds[j].n → ∀ x, ds[j].a = some x → x.block ≠ g) := fun hn x hx => by
          obtain ⟨b', o', e', hb', _⟩ := i4.at (by simp; omega)
          rw [e'] at hx
          cases hx
          obtain ⟨vb, hX⟩ := HS.out.at_
          have := hX.lo.2
          simp only
          omega
        have HI1 := Lib.hid i1
        clear i1 i2 i3 i4 i5
        generalize ds[j].kind = kd at *
        generalize ds[j].k = dk at *
        generalize ds[j].i = di at *
        generalize ds[j].a = da at *
        generalize ds[j].n = dn at *
        generalize ds[j].c = dc at *
        generalize ds[j].l = dl at *
        have hblS : S.bl.length ≤ 900 := by have := HBL.out; omega
        have HAL := Lib.hid (y_Alloc HS.out hblS di hk3.2)
        have HFR := Lib.hid (y_Free HS.out dk)
        have HWR := Lib.hid (y_Write2 (HS.out.below (Below.refl _ wr).drew) dk di hk3.2 da dn dc dl HI1.out (by omega) HRd.out.drew HGB.out)
        clear hk1 hk2 hk3 HRd HGB HI1 hblS
        by_cases e1 : kd = 1
        · subst e1
          go_wp2_with fail
          refine HAL.out.mono ?_
          rintro e w2 ⟨r, S', rfl, h2, hb2, hn2, u2⟩
          have H2 := Lib.hid h2
          have HB2 := Lib.hid (show S'.bl.length ≤ j + 1 by have := HBL.out; omega)
          have HN2 := Lib.hid (hn2.trans HNN.out)
          have U2 := Lib.hid (HU.out.trans u2)
          clear h2 hb2 hn2 u2 HAL HFR HWR HS HBL HNN HU HBW
          go_wp2
          go_roundw
          case rel => exact ⟨j + 1, S', by omega, by go_num, H2.out, HB2.out, HN2.out, U2.out⟩
          case measure => simp [intOf]; omega
        · by_cases e2 : kd = 2
          · subst e2
            go_wp2_with fail
            refine HFR.out.mono ?_
            rintro e w2 ⟨r, S', rfl, h2, hb2, hn2, u2⟩
            have H2 := Lib.hid h2
            have HB2 := Lib.hid (show S'.bl.length ≤ j + 1 by have := HBL.out; omega)
            have HN2 := Lib.hid (hn2.trans HNN.out)
            have U2 := Lib.hid (HU.out.trans u2)
            clear h2 hb2 hn2 u2 HAL HFR HWR HS HBL HNN HU HBW
            go_wp2
            go_roundw
            case rel => exact ⟨j + 1, S', by omega, by go_num, H2.out, HB2.out, HN2.out, U2.out⟩
            case measure => simp [intOf]; omega
          · by_cases e3 : kd = 3
            · subst e3
              go_wp2_with fail
              refine wp_region_planH (fun z => z.cell? ⟨b, off + j * 4 + 1, none⟩ = some (.int .i64 dk) ∧ z.cell? ⟨b, off + j * 4 + 2, none⟩ = some (.int .i64 di) ∧ z.cell? ⟨b, off + j * 4 + 3, none⟩ = some (.slice da dn dc)) [(0, true), (1, true), (2, true), (3, true), (4, true), (5, true), (6, true), (7, true), (8, true), (9, true), (10, true), (11, true), (12, true), (13, true), (14, true), (15, true), (16, false)] (by kernel_rfl) (by kernel_rfl) (fun _ _ _ _ _ h => h) ⟨c1, c2, c3⟩ ?_
              clear c0 c1 c2 c3
              (repeat (refine wpPlanH_free rfl (fun K hK => ?_); go_simp; (try go_bits); refine hK _ ?_; clear hK K))
              refine wpPlanH_load (.int .i64 dk) rfl rfl (fun x hS => by obtain ⟨s0, s1, s2⟩ := hS; go_simp) (fun K hK => ?_)
              refine hK _ ?_
              clear hK K
              (repeat (refine wpPlanH_free rfl (fun K hK => ?_); go_simp; (try go_bits); refine hK _ ?_; clear hK K))
              refine wpPlanH_load (.int .i64 di) rfl rfl (fun x hS => by obtain ⟨s0, s1, s2⟩ := hS; go_simp) (fun K hK => ?_)
              refine hK _ ?_
              clear hK K
              (repeat (refine wpPlanH_free rfl (fun K hK => ?_); go_simp; (try go_bits); refine hK _ ?_; clear hK K))
              refine wpPlanH_load (.slice da dn dc) rfl rfl (fun x hS => by obtain ⟨s0, s1, s2⟩ := hS; go_simp) (fun K hK => ?_)
              refine hK _ ?_
              clear hK K
              (repeat (refine wpPlanH_free rfl (fun K hK => ?_); go_simp; (try go_bits); refine hK _ ?_; clear hK K))
              refine wpPlanH_sole rfl ?_
              go_wp2_with fail
              refine HWR.out.mono ?_
              rintro e w2 ⟨r, S', rfl, h2, hb2, hn2, u2⟩
              have H2 := Lib.hid h2
              have HB2 := Lib.hid (show S'.bl.length ≤ j + 1 by have := HBL.out; omega)
              have HN2 := Lib.hid (hn2.trans HNN.out)
              have U2 := Lib.hid (HU.out.trans ((HUpd.of_below (Below.refl _ wr).drew).trans u2))
              have hbw2 := U2.out.belowB (Nat.le_refl _)
              have hs3 := And.intro ((hbw2.cell (p := ⟨b, off + j * 4 + 1, none⟩) HBT.out).trans KS.out.1) (And.intro ((hbw2.cell (p := ⟨b, off + j * 4 + 2, none⟩) HBT.out).trans KS.out.2.1) ((hbw2.cell (p := ⟨b, off + j * 4 + 3, none⟩) HBT.out).trans KS.out.2.2))
              clear h2 hb2 hn2 u2 HAL HFR HWR HS HBL HNN HU HBW hbw2
              go_wp2
              refine ⟨hs3, ?_⟩
              refine wpPlanH_nil ?_
              go_wp2
              go_roundw
              case rel => exact ⟨j + 1, S', by omega, by go_num, H2.out, HB2.out, HN2.out, U2.out⟩
              case measure => simp [intOf]; omega
            · go_wp2
              go_roundw
              case rel => exact ⟨j + 1, S, by omega, by go_num, HS.out, by unfold Hid; have := HBL.out; omega, HNN.out, HU.out⟩
              case measure => simp [intOf]; omega
      · have hltI : ¬ (j : Int) < (ds.length : Int) := by omega
        have HBL2 := Lib.hid (show S.bl.length ≤ 150 by have := HBL.out; omega)
        have HBLK := Lib.hid (y_Blocks HS.out)
        clear HR HOK HDN HBL hlt hj HNN
        go_wp2_with fail
        refine HBLK.out.mono ?_
        rintro e w2 ⟨v, rfl, ho, hb⟩
        have H2 := Lib.hid (HS.out.below hb)
        have U2 := Lib.hid (HU.out.trans (.of_below hb))
        have HUS := Lib.hid (fun k (hk : k ∈ usedL S) => hk)
        have HULE := Lib.hid (show (usedL S).length ≤ 150 from Nat.le_trans (usedN_len _ _) HBL2.out)
        have HND := Lib.hid (nodup_usedN S.bl S.bl.length)
        obtain ⟨ia, ic, rfl, -, -, -⟩ := owns_reads ho
        have HIDS := Lib.hid ho
        have HSZ := Lib.hid hb.size
        clear ho hb HS HU HBLK hltI
        have hulen : (usedL S).length ≤ 150 := HULE.out
        generalize hUU : usedL S = U at *
        have HUU := Lib.hid hUU
        clear hUU
        go_wp2
        go_loopw [9, 10, 11] (fun v9 v10 iv w3 => ∃ j : Nat, ∃ rows : List Rw, j ≤ U.length ∧ iv = .int .i64 (j : Int) ∧ Hid (WasAt w3 w2.heap.size S U j v9 v10 rows) ∧ Hid (Below w2.heap.size w2 w3)) (fun _ _ iv _ => U.length - (intOf iv).toNat)
        case atStart => exact ⟨0, [], Nat.zero_le _, rfl, ⟨rfl, World.ownsRow_nil _ _ _ _, World.ownsRow_nil _ _ _ _, fun t ht => absurd ht (Nat.not_lt_zero _), fun t ht => absurd ht (Nat.not_lt_zero _)⟩, Below.refl _ _⟩
        case round =>
          obtain ⟨j, rows, hj, rfl, HWA, HB⟩ := hrel
          by_cases hlt : j < U.length
          · have hltI : (j : Int) < (U.length : Int) := by omega
            have HUM := Lib.hid (show U.getD j 0 ∈ usedL S by rw [HUU.out]; exact mem_getD hlt)
            obtain ⟨ia', ic', hiv, hir, -, -⟩ := owns_reads HIDS.out
            cases hiv
            obtain ⟨ib, io, rfl, hib, hic⟩ := hir.at (by simp; omega)
            have kid0 := hic j (.int .i64 ((U.getD j 0 : Nat) : Int)) (by rw [List.getElem?_map, List.getElem?_eq_getElem hlt, List.getD_eq_getElem?_getD, List.getElem?_eq_getElem hlt]; rfl)
            have KID := Lib.hid (fun (w' : World) (hb : Below w2.heap.size w2 w') => (hb.cell (p := ⟨ib, io + j, none⟩) hib).trans kid0)
            have kid := cellKeep HB.out kid0
            clear kid0
            have HTK := Lib.hid (show U.take (j + 1) = U.take j ++ [U.getD j 0] by rw [List.take_add_one, List.getElem?_eq_getElem hlt, List.getD_eq_getElem?_getD, List.getElem?_eq_getElem hlt]; rfl)
            have HUJ := Lib.hid (rfl : U.getD j 0 = U.getD j 0)
            have hfitu := (H2.out.inv.fit _ HUM.out)
            generalize hu : U.getD j 0 = u at *
            have HUJ2 := Lib.hid hu
            have HFU := Lib.hid hfitu
            obtain ⟨vbS, hxS⟩ := H2.out.at_
            have hnu : nOf S u ≤ 32768 := by have := hxS.small; omega
            clear hu hfitu hic hir HUJ hxS vbS
            have HB3 := HB
            generalize hw3 : wr = w3 at *
            clear hw3
            go_wp2
            go_loopw [12, 13, 14, 15] (fun v12 kv _ _ w4 => ∃ k : Nat, k ≤ nOf S u ∧ kv = .int .i64 (k : Int) ∧ Hid (w4.ownsRow w3.heap.size 3 1 v12 k (wordsN S u k)) ∧ Hid (Below w3.heap.size w3 w4)) (fun _ kv _ _ _ => nOf S u - (intOf kv).toNat)
            case atStart => exact ⟨0, Nat.zero_le _, rfl, World.ownsRow_nil _ _ _ _, Below.refl _ _⟩
            case round =>
              obtain ⟨k, hk, rfl, HO, HB4⟩ := hrel
              have HH4 := Lib.hid ((H2.out.below HB.out).below HB4.out)
              have hcell := cellKeep HB4.out kid
              have HSI := Lib.hid (y_Size HH4.out HUM.out)
              go_wp2_with fail
              refine HSI.out.mono ?_
              rintro e w' ⟨rfl, rfl⟩
              by_cases hkn : k < nOf S u
              · have hknI : (k : Int) < (nOf S u : Int) := by omega
                have HRE := Lib.hid (y_Read HH4.out HUM.out k hkn)
                have HWN := Lib.hid (wordsN_next S u k)
                generalize word S u k = x at *
                have HONE := Lib.hid (show ∀ y ∈ [(.int .i64 x : Value)], y.oneCell' = true by intro y hy; simp at hy; rw [hy]; rfl)
                have HMX := Lib.hid (show k + 1 ≤ maxLen by unfold maxLen; omega)
                have HBY := Lib.hid (show (k + 1) * 8 ≤ 140737488355328 by omega)
                clear HSI HH4
                go_wp2_with fail
                refine HRE.out.mono ?_
                rintro e w5 ⟨rfl, hb5⟩
                have HB5 := Lib.hid (bNext HB4.out hb5)
                have HO5 := Lib.hid ((Upd.of_below (l := []) hb5).ownsAbove HO.out (by simp))
                have HS5 := Lib.hid (HB5.out.size)
                clear hb5 hcell HRE HB4 HO
                go_wp2_with (at_builtin; refine wpList_app rfl _ _ 39 rfl w3.heap.size 3 (.int .i64 0) 1 8 Try.underlying39 inf_int rfl (by decide) _ k _ rfl (HO5.out.alloc _) _ 1 1 [.int .i64 x] rfl rfl (Reads.madeAt rfl) HONE.out HMX.out HBY.out (Nat.le_trans HS5.out (by simp)) ?_)
                intro v' w6 own6 gr6
                have hlt' := HO5.out.lt
                have HB6 := Lib.hid ((HB5.out.alloc HS5.out _).grown gr6 (Nat.le_trans HS5.out (by simp)) (fun k hk => (hlt' k hk).1))
                have HO6 : Hid (w6.ownsRow w3.heap.size 3 1 v' (k + 1) (wordsN S u (k + 1))) := by unfold Hid; rw [HWN.out]; exact own6
                clear own6 gr6 hlt' HB5 HO5 HS5
                go_wp2
                go_roundw
                case rel => exact ⟨k + 1, by omega, by go_num, HO6.out, HB6.out⟩
                case measure => simp [intOf]; omega
              · have hknI : ¬ (k : Int) < (nOf S u : Int) := by omega
                obtain rfl : nOf S u = k := by omega
                have HMX := Lib.hid (show j + 1 ≤ maxLen by unfold maxLen; omega)
                have HBY := Lib.hid (show (j + 1) * 24 ≤ 140737488355328 by omega)
                have HBY8 := Lib.hid (show (j + 1) * 8 ≤ 140737488355328 by omega)
                have HW4 := Lib.hid (HWA.out.below HB4.out)
                have HS4 := Lib.hid (show w2.heap.size ≤ wr.heap.size from Nat.le_trans HB.out.size HB4.out.size)
                obtain ⟨a12, c12, rfl, -, -, -⟩ := owns_reads HO.out
                have HONE := Lib.hid (show ∀ y ∈ [(.slice a12 (nOf S u) c12 : Value)], y.oneCell' = true by intro y hy; simp at hy; rw [hy]; rfl)
                clear hk hkn hcell HSI HH4
                go_wp2_with (at_builtin; (refine wpList_app rfl _ _ 65 rfl w2.heap.size 39 (.slice none 0 0) 1 24 Try.underlying65 inf_ints rfl (by decide) _ j _ rfl (HW4.out.was.alloc _) _ 1 1 [.slice a12 (nOf S u) c12] rfl rfl (Reads.madeAt rfl) HONE.out HMX.out HBY.out (Nat.le_trans HS4.out (by simp)) ?_))
                intro v9' w6 own9 gr9
                have HB6 := Lib.hid ((((HB.out.trans (HB4.out.mono HB.out.size)).alloc HS4.out _).grown gr9 (Nat.le_trans HS4.out (by simp)) (fun k hk => (HW4.out.was.lt k hk).1)))
                obtain ⟨p10, p12, prr⟩ := was_one HWA.out HB4.out HO.out own9 gr9
                have OWN9 := Lib.hid own9
                have GR9 := Lib.hid gr9
                have P10 := Lib.hid p10
                have hS6 := HB6.out.size
                have HS6 := Lib.hid hS6
                have kid6 := KID.out w6 HB6.out
                have HAT := Lib.hid (y_At (H2.out.below HB6.out) HUM.out)
                have HON2 := Lib.hid (show ∀ y ∈ [(.int .i64 (atOf S u : Nat) : Value)], y.oneCell' = true by intro y hy; simp at hy; rw [hy]; rfl)
                clear own9 gr9 p10 p12 prr kid hS6 HONE HBY
                go_wp2_with (first
                  | (go_at_call 27; refine HAT.out.mono ?_; rintro e w' ⟨rfl, rfl⟩)
                  | (at_builtin; go_loud (refine wpList_appS rfl _ _ 39 rfl w2.heap.size 3 (.int .i64 0) 1 8 Try.underlying39 inf_int rfl (by decide) _ j _ rfl (P10.out.alloc _) _ 1 1 [.int .i64 (atOf S u : Nat)] rfl rfl (Reads.madeAt rfl) HON2.out HMX.out HBY8.out (Nat.le_trans HS6.out (by simp)) ?_)))
                intro v10' w8 own10 gr10 fr10
                have hB8 := ((HB6.out.alloc HS6.out _).grown gr10 (Nat.le_trans HS6.out (by simp)) (fun k hk => (P10.out.lt k hk).1))
                have own10' : w8.ownsRow w2.heap.size 3 1 v10' (j + 1) ((U.take (j + 1)).map (fun k => Value.int .i64 (atOf S k : Nat))) := by
                  rw [HTK.out, List.map_append, List.map_take]; exact own10
                obtain ⟨r, hr, hwas⟩ := was_two HWA.out HB4.out HO.out OWN9.out GR9.out ((Below.refl _ _).alloc (Nat.le_refl _) _) HUJ2.out HB.out.size own10' gr10 (fun k hk => by have := fr10 k hk; simpa using this)
                have HWA8 := Lib.hid hwas
                have HB8 := Lib.hid hB8
                clear own10 gr10 fr10 own10' hr hwas hB8 kid6 HAT HWA HB HB4 HO OWN9 GR9 P10 HB6 HW4 HS4 HS6
                go_wp2
                go_roundw
                case rel => exact ⟨j + 1, rows ++ [r], by omega, by go_num, HWA8.out, HB8.out⟩
                case measure => simp [intOf]; omega
          · obtain rfl : U.length = j := by omega
            have HHw := Lib.hid (H2.out.below HB.out)
            have HRM := Lib.hid (y_Room HHw.out (by have := HBL2.out; omega))
            go_wp2_with fail
            refine HRM.out.mono ?_
            rintro e w5 ⟨L1, hL1, rfl, hb5⟩
            have H5 := Lib.hid (HHw.out.below hb5)
            have WA5 := Lib.hid (HWA.out.below hb5)
            have ID5 := Lib.hid (((Upd.of_below (l := []) HB.out).trans (.of_below hb5)).ownsAbove HIDS.out (by simp))
            have U5 := Lib.hid (U2.out.trans ((HUpd.of_below HB.out).trans (.of_below hb5)))
            have HL1 := Lib.hid hL1
            have HCO := Lib.hid (y_Compact H5.out (by have := HBL2.out; omega))
            clear hb5 HRM HHw HWA HIDS U2 HB H2 HUS HSZ hL1
            generalize hA : allOf (gapsOf S L1) = qa at *
            generalize hB : mostOf (gapsOf S L1) = qb at *
            have HQB := Lib.hid (show qb ≤ qa by rw [← hA, ← hB]; exact most_le _)
            have HQA := Lib.hid hA
            clear hA hB
            go_wp2_with fail
            refine HCO.out.mono ?_
            clear HCO
            rintro e w6 ⟨L, hL, rfl, hx6, hmv, hml, hu6⟩
            have HQ2 := Lib.hid (show qa = S.N - sumN S L by
              have h1 := (gaps_of (lined_of H5.out.inv HL1.out) (fun k hk => H5.out.inv.fit k (HL1.out.1.mem_iff.1 hk))).2
              have h2 := sumN_perm (S := S) (HL1.out.1.trans hL.1.symm)
              have := HQA.out
              omega)
            have HMV := Lib.hid hmv
            have HLL := Lib.hid hL
            have HINV := Lib.hid H5.out.inv
            have hLU : (compTo S L).2.1 ≤ U.length := by
              have h1 := hL.1.length_eq
              rw [HUU.out] at h1
              omega
            generalize (compTo S L).1 = C at *
            generalize (compTo S L).2.1 = mv at *
            have H6 := Lib.hid (show HI w6 w.heap.size h g C from ⟨hx6, hmv.inv⟩)
            have WA6 := Lib.hid (WA5.out.hupd hu6)
            have ID6 := Lib.hid (hu6.owns ID5.out (by decide))
            have U6 := Lib.hid (U5.out.trans hu6)
            have hCb : C.bl.length ≤ 900 := by rw [hmv.bl]; have := HBL2.out; omega
            have HRM := Lib.hid (y_Room H6.out hCb)
            have HCB := Lib.hid hCb
            clear hL hx6 hmv hml hu6 H5 WA5 ID5 U5 HL1 hCb
            go_wp2_with fail
            refine HRM.out.mono ?_
            clear HRM
            rintro e w7 ⟨L2, hL2, rfl, hb7⟩
            obtain ⟨g1, g2, -, -, -⟩ := moved_again HMV.out HINV.out HLL.out hL2
            rw [← HQ2.out] at g1 g2
            rw [g1, g2]
            have H7 := Lib.hid (H6.out.below hb7)
            have WA7 := Lib.hid (WA6.out.below hb7)
            have ID7 := Lib.hid ((Upd.of_below (l := []) hb7).ownsAbove ID6.out (by simp))
            have U7 := Lib.hid (U6.out.trans (.of_below hb7))
            clear hL2 hb7 g1 g2 H6 WA6 ID6 U6
            have HBK : Hid (Calls Try.prog 32 #[.pointer (some ⟨h, 0, none⟩)] w7 fun e w' => ∃ v, e = .returned v ∧ w'.ownsRow w7.heap.size 3 1 v U.length (U.map valN) ∧ Below w7.heap.size w7 w') := by
              have := y_Blocks H7.out
              rw [HMV.out.used, HUU.out] at this
              exact this
            have hmvI : (U.length < mv) = False := eq_false (by omega)
            have hqbI : (qa < qb) = False := eq_false (by have := HQB.out; omega)
            clear hLU
            go_wp2_with fail
            refine HBK.out.mono ?_
            clear HBK
            rintro e w8 ⟨v8, rfl, ho8, hb8⟩
            have H8 := Lib.hid (H7.out.below hb8)
            have WA8 := Lib.hid (WA7.out.below hb8)
            have id8 := (Upd.of_below (l := []) hb8).ownsAbove ID7.out (by simp)
            have U8 := Lib.hid (U7.out.trans (.of_below hb8))
            obtain ⟨ja, jc, rfl, hjr, -, -⟩ := owns_reads ho8
            obtain ⟨ia', ic', hiv, hir, -, -⟩ := owns_reads id8
            cases hiv
            have e1 : U.map valN = (U.map (fun k : Nat => (k : Int))).map (Value.int .i64) := by rw [List.map_map]; rfl
            rw [e1] at hjr hir
            have HSI := Lib.hid (c_SameInts ja ia U.length U.length jc ic (U.map (fun k : Nat => (k : Int))) (U.map (fun k : Nat => (k : Int))) w8 (by simp) (by simp) hjr hir (by omega) (by omega))
            have ID8 := Lib.hid id8
            clear hb8 ho8 id8 hjr hir e1 H7 WA7 ID7 U7
            go_wp2_with fail
            refine HSI.out.mono ?_
            clear HSI
            rintro e w9 ⟨rfl, hb9⟩
            rw [show decide True = true from rfl]
            have H9 := Lib.hid (H8.out.below hb9)
            have WA9 := Lib.hid (WA8.out.below hb9)
            have ID9 := Lib.hid ((Upd.of_below (l := []) hb9).ownsAbove ID8.out (by simp))
            have U9 := Lib.hid (U8.out.trans (.of_below hb9))
            clear hb9 H8 WA8 ID8 U8
            have HC2 : Hid (Calls Try.prog 30 #[.pointer (some ⟨h, 0, none⟩)] w9 fun e w' => e = .returned (.int .i64 0) ∧ HX w' w.heap.size h g C ∧ HUpd w.heap.size w9 w') := by
              refine (y_Compact H9.out HCB.out).mono ?_
              rintro e w' ⟨L3, hL3, rfl, hx, _, _, hu⟩
              obtain ⟨_, _, g3, g4, _⟩ := moved_again HMV.out HINV.out HLL.out hL3
              rw [g4] at hx
              exact ⟨by rw [g3]; rfl, hx, hu⟩
            go_wp2_with fail
            refine HC2.out.mono ?_
            clear HC2
            rintro e w10 ⟨rfl, hx10, hu10⟩
            have H10 := Lib.hid (show HI w10 w.heap.size h g C from ⟨hx10, H9.out.inv⟩)
            have WA10 := Lib.hid (WA9.out.hupd hu10)
            have ID10 := Lib.hid (hu10.owns ID9.out (by decide))
            have U10 := Lib.hid (U9.out.trans hu10)
            clear hx10 hu10 H9 WA9 ID9 U9 HCB HQ2 HQA HQB
            go_wp2
            go_loopw [21, 22, 23, 24, 25] (fun iv _ _ _ _ w11 => ∃ i : Nat, i ≤ U.length ∧ iv = .int .i64 (i : Int) ∧ Hid (Below w10.heap.size w10 w11)) (fun iv _ _ _ _ _ => U.length - (intOf iv).toNat)
            case atStart => exact ⟨0, Nat.zero_le _, rfl, Below.refl _ _⟩
            case round =>
              obtain ⟨i, hi, rfl, HB⟩ := hrel
              by_cases hlt2 : i < U.length
              · have hltI2 : (i : Int) < (U.length : Int) := by omega
                -- what lies where, in each later world
                obtain ⟨ia', ic', hiv, hir, -, -⟩ := owns_reads ID10.out
                cases hiv
                obtain ⟨ib, io, rfl, hib, hic⟩ := hir.at (by simp; omega)
                have KID := Lib.hid (fun (w' : World) (hb : Below w10.heap.size w10 w') (t : Nat) (ht : t < U.length) => (hb.cell (p := ⟨ib, io + t, none⟩) hib).trans (hic t (.int .i64 ((U.getD t 0 : Nat) : Int)) (by rw [List.getElem?_map, List.getElem?_eq_getElem ht, List.getD_eq_getElem?_getD, List.getElem?_eq_getElem ht]; rfl)))
                obtain ⟨wa, wc, hwv, hwr, -, -⟩ := owns_reads WA10.out.was
                obtain ⟨ta, tc, htv, htr, -, -⟩ := owns_reads WA10.out.ats
                subst hwv
                subst htv
                have hrl := WA10.out.len
                obtain ⟨wb, wo, rfl, hwb, hwc⟩ := hwr.at (by simp; omega)
                obtain ⟨tb, to, rfl, htb, htc⟩ := htr.at (by simp; omega)
                have KWS := Lib.hid (fun (w' : World) (hb : Below w10.heap.size w10 w') (t : Nat) (ht : t < rows.length) => (hb.cell (p := ⟨wb, wo + t, none⟩) hwb).trans (hwc t rows[t].val (by rw [List.getElem?_map, List.getElem?_eq_getElem ht]; rfl)))
                have KAT := Lib.hid (fun (w' : World) (hb : Below w10.heap.size w10 w') (t : Nat) (ht : t < U.length) => (hb.cell (p := ⟨tb, to + t, none⟩) htb).trans (htc t (.int .i64 (atOf S (U.getD t 0) : Nat)) (by rw [List.take_length, List.getElem?_map, List.getElem?_eq_getElem ht, List.getD_eq_getElem?_getD, List.getElem?_eq_getElem ht]; rfl)))
                have KRW := Lib.hid (fun (w' : World) (hb : Below w10.heap.size w10 w') (t : Nat) (ht : t < rows.length) => (Upd.of_below (l := []) hb).ownsAbove (WA10.out.row t ht).1 (by simp))
                have HRN := Lib.hid (fun (t : Nat) (ht : t < rows.length) => (WA10.out.row t ht).2)
                have HRL := Lib.hid hrl
                have HUC := Lib.hid (fun (t : Nat) (ht : t < U.length) => (show U.getD t 0 ∈ usedL C by rw [HMV.out.used, HUU.out]; exact mem_getD ht))
                have HUL := Lib.hid (fun (t : Nat) (ht : t < U.length) => (show U.getD t 0 ∈ L from HLL.out.1.mem_iff.2 (by rw [HUU.out]; exact mem_getD ht)))
                clear hic hwc htc hir hwr htr hrl
                have hri : i < rows.length := by rw [HRL.out]; exact hlt2
                have HRI := Lib.hid hri
                have HUI := Lib.hid (HUC.out i hlt2)
                have HNI := Lib.hid (HRN.out i hri)
                have KW1 := Lib.hid (fun w' hb => KWS.out w' hb i HRI.out)
                have KR1 := Lib.hid (fun w' hb => KRW.out w' hb i HRI.out)
                have KI1 := Lib.hid (fun w' hb => KID.out w' hb i hlt2)
                have KA1 := Lib.hid (fun w' hb => KAT.out w' hb i hlt2)
                have HWD := Lib.hid (fun t (ht : t < nOf S (U.getD i 0)) => HMV.out.word _ (HUL.out i hlt2) t ht)
                have HNC := Lib.hid (HMV.out.n (U.getD i 0))
                have HLE := Lib.hid (HMV.out.at_ _ (HUL.out i hlt2))
                have hfi := HINV.out.fit (U.getD i 0) (by rw [HUU.out]; exact mem_getD hlt2)
                have HFI := Lib.hid hfi
                obtain ⟨vb10, hx10⟩ := H10.out.at_
                have hNs : S.N ≤ 32768 := by have h1 := hx10.small; have h2 := HMV.out.N; omega
                generalize hu : U.getD i 0 = u at *
                have HUU2 := Lib.hid hu
                generalize hrw : rows[i] = rw_ at *
                clear hrw
                obtain ⟨ra, rn, rc⟩ := rw_
                have hrn : rn = nOf S u := HNI.out
                subst hrn
                have hnu : nOf S u ≤ 32768 := by omega
                have hau : atOf S u ≤ 32768 := by omega
                clear hri hfi hx10 vb10 hu HNI
                go_wp2
                go_loopw [22, 23, 24] (fun kv _ _ w12 => ∃ k : Nat, k ≤ nOf S u ∧ kv = .int .i64 (k : Int) ∧ Hid (Below w10.heap.size w10 w12)) (fun kv _ _ _ => nOf S u - (intOf kv).toNat)
                case atStart => exact ⟨0, Nat.zero_le _, rfl, HB.out⟩
                case round =>
                  clear HB
                  obtain ⟨k, hk, rfl, HB⟩ := hrel
                  have kws : wr.cell? ⟨wb, wo + i, none⟩ = some (.slice ra (nOf S u) rc) := KW1.out _ HB.out
                  have kid := KI1.out _ HB.out
                  by_cases hkn : k < nOf S u
                  · have hknI : (k : Int) < (nOf S u : Int) := by omega
                    have HRE := Lib.hid (y_Read (H10.out.below HB.out) HUI.out k (by rw [HNC.out]; exact hkn))
                    rw [HWD.out k hkn] at HRE
                    obtain ⟨ra', rc', hrv, hrr, -, -⟩ := owns_reads (KR1.out _ HB.out)
                    cases hrv
                    obtain ⟨rb, ro, rfl, hrb, hrc⟩ := hrr.at (by rw [wordsN_len]; omega)
                    have kwd := hrc k _ (wordsN_get S u hkn)
                    generalize word S u k = x at *
                    have HKW := Lib.hid kws
                    have HKD := Lib.hid kwd
                    clear hrc hrr kwd
                    go_wp2_with fail
                    refine HRE.out.mono ?_
                    rintro e w13 ⟨rfl, hb13⟩
                    have HB13 := Lib.hid (HB.out.trans (hb13.mono HB.out.size))
                    have kws2 := cellKeep hb13 HKW.out
                    have kwd2 := cellKeep hb13 HKD.out
                    clear hb13 kws kid HRE HB
                    go_wp2
                    go_roundw
                    case rel => exact ⟨k + 1, by omega, by go_num, HB13.out⟩
                    case measure => simp [intOf]; omega
                  · have hknI : ¬ (k : Int) < (nOf S u : Int) := by omega
                    obtain rfl : nOf S u = k := by omega
                    have kat := KA1.out _ HB.out
                    have hIn : i < U.length := hlt2
                    clear hkn hk
                    go_wp2_with fail
                    have HAT := Lib.hid (y_At (H10.out.below HB.out.drew) HUI.out)
                    have HBD := Lib.hid (HB.out.drew)
                    have hleI : ¬ ((atOf S u : Nat) : Int) < ((atOf C u : Nat) : Int) := by have := HLE.out; omega
                    refine wp_region_planH (fun z => z.cell? ⟨ib, io + i, none⟩ = some (.int .i64 (u : Int)) ∧ z.cell? ⟨tb, to + i, none⟩ = some (.int .i64 ((atOf S u : Nat) : Int))) [(0, true), (1, true), (2, true), (3, true), (4, true), (6, true), (7, true), (8, true), (9, true), (5, false), (10, true)] (by kernel_rfl) (by kernel_rfl) (fun _ _ _ _ _ h => h) ⟨kid, kat⟩ ?_
                    have HS : Hid (wr.drew.cell? ⟨ib, io + i, none⟩ = some (.int .i64 (u : Int)) ∧ wr.drew.cell? ⟨tb, to + i, none⟩ = some (.int .i64 ((atOf S u : Nat) : Int))) := ⟨kid, kat⟩
                    clear kid kat kws
                    generalize wr.drew = wd at *
                    (repeat (refine wpPlanH_free rfl (fun K hK => ?_); go_simp; (try go_bits); refine hK _ ?_; clear hK K))
                    refine wpPlanH_load (.int .i64 (u : Int)) rfl rfl (fun x hS => by obtain ⟨s0, s1⟩ := hS; go_simp) (fun K hK => ?_)
                    refine hK _ ?_
                    clear hK K
                    (repeat (refine wpPlanH_free rfl (fun K hK => ?_); go_simp; (try go_bits); refine hK _ ?_; clear hK K))
                    refine wpPlanH_load (.int .i64 ((atOf S u : Nat) : Int)) rfl rfl (fun x hS => by obtain ⟨s0, s1⟩ := hS; go_simp) (fun K hK => ?_)
                    refine hK _ ?_
                    clear hK K
                    refine wpPlanH_sole rfl ?_
                    go_wp2_with fail
                    refine HAT.out.mono ?_
                    rintro e w' ⟨rfl, rfl⟩
                    go_wp2
                    refine ⟨HS.out, ?_⟩
                    (repeat (refine wpPlanH_free rfl (fun K hK => ?_); go_simp; (try go_bits); refine hK _ ?_; clear hK K))
                    refine wpPlanH_nil ?_
                    go_wp2
                    go_loopw [25] (fun kv w12 => ∃ k : Nat, k ≤ i ∧ kv = .int .i64 (k : Int) ∧ Hid (Below w10.heap.size w10 w12)) (fun kv _ => i - (intOf kv).toNat)
                    case atStart => exact ⟨0, Nat.zero_le _, rfl, HBD.out⟩
                    case round =>
                      clear HB HBD HS HAT
                      obtain ⟨k, hk, rfl, HB⟩ := hrel
                      by_cases hki : k < i
                      · have hkiI : (k : Int) < (i : Int) := by omega
                        have hkU : k < U.length := by omega
                        have hkr : k < rows.length := by rw [HRL.out]; omega
                        have kws : wr.cell? ⟨wb, wo + i, none⟩ = some (.slice ra (nOf S u) rc) := KW1.out _ HB.out
                        have kid := KI1.out _ HB.out
                        have kat := KA1.out _ HB.out
                        have kws2' := KWS.out _ HB.out k hkr
                        have kid2 := KID.out _ HB.out k hkU
                        have kat2 := KAT.out _ HB.out k hkU
                        have HNK := Lib.hid (HRN.out k hkr)
                        have hne := getD_ne (show U.Nodup by rw [← HUU.out]; exact HND.out) hlt2 hkU hki
                        have HORD := Lib.hid (HMV.out.order _ (HUL.out i hlt2) _ (HUL.out k hkU) hne)
                        rw [HUU2.out] at HORD
                        have HUK := Lib.hid (HUC.out k hkU)
                        obtain ⟨ra2, rc2, kws2⟩ : ∃ ra2 rc2, wr.cell? ⟨wb, wo + k, none⟩ = some (.slice ra2 (nOf S (U.getD k 0)) rc2) := ⟨rows[k].a, rows[k].c, by rw [kws2', ← HNK.out]; rfl⟩
                        obtain ⟨v, hv⟩ : ∃ v, v = U.getD k 0 := ⟨_, rfl⟩
                        rw [← hv] at kws2 kid2 kat2 HORD HUK
                        clear kws2' HNK hkr hne hv
                        have HA1 := Lib.hid (y_At (H10.out.below HB.out.drew) HUI.out)
                        have HA2 := Lib.hid (y_At (H10.out.below HB.out.drew) HUK.out)
                        have HBD := Lib.hid (HB.out.drew)
                        go_wp2_with fail
                        have HS : Hid (wr.drew.cell? ⟨wb, wo + i, none⟩ = some (.slice ra (nOf S u) rc) ∧ wr.drew.cell? ⟨wb, wo + k, none⟩ = some (.slice ra2 (nOf S v) rc2) ∧ wr.drew.cell? ⟨ib, io + i, none⟩ = some (.int .i64 (u : Int)) ∧ wr.drew.cell? ⟨ib, io + k, none⟩ = some (.int .i64 (v : Int)) ∧ wr.drew.cell? ⟨tb, to + i, none⟩ = some (.int .i64 ((atOf S u : Nat) : Int)) ∧ wr.drew.cell? ⟨tb, to + k, none⟩ = some (.int .i64 ((atOf S v : Nat) : Int))) := ⟨kws, kws2, kid, kid2, kat, kat2⟩
                        clear kws kws2 kid kid2 kat kat2
                        by_cases hn1 : 0 < nOf S u
                        · by_cases hn2 : 0 < nOf S v
                          · have hord := HORD.out hn1 hn2
                            by_cases hc : atOf S u < atOf S v
                            · have hc2 := hord.2 hc
                              refine R47c3.reg47 (fun _ _ _ _ _ h => h) (by have := HRL.out; omega) (by have := HRL.out; omega) (by have := HRL.out; omega) (by have := HRL.out; omega) (by have := HRL.out; omega) (by have := HRL.out; omega) HS (eq_true hn1) (eq_true hn2) (eq_true hc) (eq_true hc2) HA1 HA2 (Lib.hid ?_)
                              intro t225 t226 t227 t228 t229 t230 t231 t232 t233 t234 t235 t236 t237 t238 t239 t240 t241 t242 t243 t244 t245 t246 t247 t248 t249 t250 t251 t252 t253 t254 t255 t256 t257 t258 t259 t260 t261 t262
                              go_wp2
                              go_roundw
                              case rel => exact ⟨k + 1, by omega, by go_num, HBD.out⟩
                              case measure => simp [intOf]; omega
                            · have hc2 := fun h => hc (hord.1 h)
                              refine R47c4.reg47 (fun _ _ _ _ _ h => h) (by have := HRL.out; omega) (by have := HRL.out; omega) (by have := HRL.out; omega) (by have := HRL.out; omega) (by have := HRL.out; omega) (by have := HRL.out; omega) HS (eq_true hn1) (eq_true hn2) (eq_false hc) (eq_false hc2) HA1 HA2 (Lib.hid ?_)
                              intro t225 t226 t227 t228 t229 t230 t231 t232 t233 t234 t235 t236 t237 t238 t239 t240 t241 t242 t243 t244 t245 t246 t247 t248 t249 t250 t251 t252 t253 t254 t255 t256 t257 t258 t259 t260 t261 t262
                              go_wp2
                              go_roundw
                              case rel => exact ⟨k + 1, by omega, by go_num, HBD.out⟩
                              case measure => simp [intOf]; omega
                          · skip
                            refine R47c2.reg47 (A1 := 0) (A2 := 0) (fun _ _ _ _ _ h => h) (by have := HRL.out; omega) (by have := HRL.out; omega) (by have := HRL.out; omega) (by have := HRL.out; omega) (by have := HRL.out; omega) (by have := HRL.out; omega) HS (eq_true hn1) (eq_false hn2) (Lib.hid ?_)
                            intro t225 t226 t227 t228 t229 t230 t231 t232 t233 t234 t235 t236 t237 t238 t239 t240 t241 t242 t243 t244 t245 t246 t247 t248 t249 t250 t251 t252 t253 t254 t255 t256 t257 t258 t259 t260 t261 t262
                            go_wp2
                            go_roundw
                            case rel => exact ⟨k + 1, by omega, by go_num, HBD.out⟩
                            case measure => simp [intOf]; omega
                        · skip
                          refine R47c1.reg47 (A1 := 0) (A2 := 0) (fun _ _ _ _ _ h => h) (by have := HRL.out; omega) (by have := HRL.out; omega) (by have := HRL.out; omega) (by have := HRL.out; omega) (by have := HRL.out; omega) (by have := HRL.out; omega) HS (eq_false hn1) (Lib.hid ?_)
                          intro t225 t226 t227 t228 t229 t230 t231 t232 t233 t234 t235 t236 t237 t238 t239 t240 t241 t242 t243 t244 t245 t246 t247 t248 t249 t250 t251 t252 t253 t254 t255 t256 t257 t258 t259 t260 t261 t262
                          go_wp2
                          go_roundw
                          case rel => exact ⟨k + 1, by omega, by go_num, HBD.out⟩
                          case measure => simp [intOf]; omega
                      · have hkiI : ¬ (k : Int) < (i : Int) := by omega
                        have HUE := HUU2
                        go_wp2
                        go_roundw
                        case rel => exact ⟨i + 1, by omega, by go_num, HB.out⟩
                        case measure => simp [intOf]; omega
              · have hltI2 : ¬ (i : Int) < (U.length : Int) := by omega
                have U12 := Lib.hid (U10.out.trans (.of_below HB.out))
                clear HB
                go_wp2_with fail
                refine (c_known07 _).mono ?_
                rintro e w12 ⟨rfl, hb12⟩
                have U13 := Lib.hid (U12.out.trans (.of_below hb12))
                clear hb12
                go_wp2
                go_ret
                exact ⟨rfl, U13.out.belowB (Nat.le_refl _)⟩

end Go.Proofs.Ytcecegcbkcdpjaa
