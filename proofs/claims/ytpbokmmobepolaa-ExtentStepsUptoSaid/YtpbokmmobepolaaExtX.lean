/-
  The law ExtentBack. (Written by exbackgen.py.)
-/
import Derived.Test.YtpbokmmobepolaaExtW
import Derived.Test.YtpbokmmobepolaaExtF
import Derived.Test.YtpbokmmobepolaaPlanU
import Derived.Test.YtpbokmmobepolaaExtXA
namespace Go.Proofs.Ytpbokmmobepolaa
open Go.RowKit Go.Maps
set_option linter.unusedVariables false
set_option maxHeartbeats 8000000
set_option maxRecDepth 20000

theorem exAt_map {L : List Rw4} {m : Nat} (h : m < L.length) : exAt (L.map rE) m = rE L[m] := by
  simp [exAt, h]
theorem upd_grown {b c : World} {base n size : Nat} {e : TypeId} {v : Value} {xs : List Value} (o : b.ownsRow base e size v n xs) (gr : b.grownBy c v.ownBlock) : ∃ l, Upd l b c ∧ ∀ k ∈ l, base ≤ k :=
  ⟨v.ownBlock.toList, ⟨gr.os, gr.tape, gr.output, gr.size, fun k hk hn => gr.block k hk (fun e => hn (by rw [← e]; simp))⟩, fun k hk => (o.lt k (by simpa using hk)).1⟩
theorem fine_all {L : List Rw4} (h : L.Pairwise Ap) : Fine L (L.map rE) := by
  refine ⟨fun x hx => ?_, ?_⟩
  · obtain ⟨y, hy, rfl⟩ := List.mem_map.1 hx
    exact ⟨y, hy, rfl⟩
  · rw [List.nodup_iff_pairwise_ne, List.pairwise_map]
    exact h.imp (fun h => ap_ne h)
theorem fine_twice {L : List Rw4} (h : 0 < L.length) : ¬ Fine L (L.map rE ++ L.map rE) := fun hf => by
  have h1 := hf.2
  rw [List.nodup_append] at h1
  have hm : rE L[0] ∈ L.map rE := List.mem_map.2 ⟨_, List.getElem_mem h, rfl⟩
  exact h1.2.2 _ hm _ hm rfl
theorem SG.oks {w : World} {I : SpI} {L : List Rw4} {N k : Nat} (h : SG w I L N k) : ∀ x ∈ L.map rE, exOk x := fun x hx => by
  obtain ⟨y, hy, rfl⟩ := List.mem_map.1 hx
  have h1 := h.fit y hy
  have h2 := h.small
  have h3 := secs_room y.2.length
  have h4 : rN y = secs y.2.length := rfl
  exact exOk_nat (by omega) (by omega) (by omega)

theorem two_small {n : Nat} (h : n ≤ 1000) : n + n ≤ 100000 := by omega
theorem one_small {n : Nat} (h : n ≤ 1000) : n ≤ 100000 := by omega
theorem row_by {W : World} {g : Nat} {t : TypeId} {x : Ext} (rr : Row W g t (exC x)) : ReadsBy W (some ⟨g, 0, none⟩) 3 exC [x] := fun i d hid => by
  cases i with
  | succ i => simp at hid
  | zero =>
    obtain rfl : x = d := by simpa using hid
    refine ⟨g, 0, rfl, rr.lt, fun j v hv => ?_⟩
    have := rr.cell (i := j) hv
    simpa using this
theorem not_fine_nil {x : Ext} : ¬ Fine [] [x] := fun h => by
  obtain ⟨y, hy, -⟩ := h.1 x (by simp)
  cases hy
theorem sum_nil0 : ((([] : List Rw4).map rN).sum : Int) = 0 := rfl
theorem cast_pos {n : Nat} (h : 0 < n) : (0 : Int) < (n : Int) := by omega
theorem cast_ne {n : Nat} (h : 0 < n) : ¬ ((n : Int) = 0) := by omega

theorem mx_one {n : Nat} (h : n ≤ 1000) : n + 1 ≤ maxLen := by unfold maxLen; omega
theorem by_one {n : Nat} (h : n ≤ 1000) : (n + 1) * 24 ≤ 140737488355328 := by omega
theorem mx_zero {n : Nat} (h : n ≤ 1000) : 0 + n ≤ maxLen := by unfold maxLen; omega
theorem by_zero {n : Nat} (h : n ≤ 1000) : (0 + n) * 24 ≤ 140737488355328 := by omega
theorem mx_two {n : Nat} (h : n ≤ 1000) : n + n ≤ maxLen := by unfold maxLen; omega
theorem by_two {n : Nat} (h : n ≤ 1000) : (n + n) * 24 ≤ 140737488355328 := by omega
theorem one_ext (a b c : Int) : ∀ u ∈ [(.int .i64 a : Value), .int .i64 b, .int .i64 c], u.oneCell' = true := by intro u hu; simp at hu; rcases hu with rfl | rfl | rfl <;> rfl

theorem law_ExtentBack (a0 : Option Addr) (len0 cap0 : Nat) (ds : List SlD) (a1 : Int) (w : World) (w0 : SlDs w a0 len0 cap0 ds) (w1 : (Lit.int .u8 a1).wf = true) :
    Calls Try.prog 4 #[.slice a0 len0 cap0, .int .u8 a1] w fun e w' => e = .returned (.bool true) ∧ Below w.heap.size w w' := by
  obtain ⟨b0, b1⟩ := bounds_u8 w1
  obtain ⟨N, rfl⟩ := Int.eq_ofNat_of_zero_le b0
  have hN : N ≤ 255 := by omega
  obtain ⟨rfl, hc0, hm0, hr0, hd0⟩ := w0
  have HR := Lib.hid hr0
  have HDS := Lib.hid hd0
  unfold maxLen at hm0
  clear hr0 hd0 w1 b0 b1
  go_enter Try.func4, Try.ntmps4
  go_wp2
  go_loop [5, 6] (fun A i => ∃ k : Nat, k ≤ ds.length ∧ i = .int .i64 k ∧ ∃ A' : Int, A = .int .i64 A') (fun _ i => ds.length - (intOf i).toNat)
  case atStart => exact ⟨0, Nat.zero_le _, rfl, 0, rfl⟩
  case round =>
    obtain ⟨k, hk, rfl, A', rfl⟩ := hrel
    by_cases hlt : k < ds.length
    · obtain ⟨b, off, rfl, hb, hcl⟩ := sl_cell HR.out hlt
      generalize ds[k].a = xa at *
      generalize ds[k].n = xn at *
      generalize ds[k].c = xc at *
      clear hb
      go_wp2
      go_round
      case rel => exact ⟨k + 1, by omega, by go_num, _, rfl⟩
      case measure => simp [intOf]; omega
    · obtain rfl : k = ds.length := by omega
      by_cases hA : 5000 < A'
      · go_wp2_with fail
        refine (c_known04 _).mono ?_
        rintro e w' ⟨rfl, bk⟩
        go_wp2
        go_ret
        exact ⟨rfl, bk⟩
      · clear hlt
        go_wp2_with fail
        refine (gNew N _ (by omega)).mono ?_
        rintro e v0 ⟨I, rfl, hg, hi, hb⟩
        have HG := Lib.hid hg
        have HI := Lib.hid hi
        have HB := Lib.hid hb
        generalize hM : w.heap.size = M at *
        have HM := Lib.hid hM
        clear hg hi hb hM
        have HI2 : Hid (∀ j ∈ I.all, j < v0.heap.size) := HG.out.lt
        go_wp2
        go_loopw [9, 10, 11] (fun v u i wr => ∃ (j : Nat) (L : List Rw4), j ≤ ds.length ∧ i = .int .i64 j ∧ u = .int .i64 ((L.map rN).sum : Nat) ∧ Hid (SG wr I L N (2 * L.length)) ∧ Hid (wr.ownsRow v0.heap.size 34 3 v L.length (flatE (L.map rE))) ∧ Hid (Upd I.all v0 wr)) (fun _ _ i _ => ds.length - (intOf i).toNat)
        case atStart => exact ⟨0, [], Nat.zero_le _, rfl, rfl, HG.out, World.ownsRow_nil _ _ _ _, Upd.refl _ _⟩
        case round =>
          clear HG
          obtain ⟨j, L, hj, rfl, rfl, HG, HO, HU⟩ := hrel
          have hsum := HG.out.sum
          have hlen := sum_ge L
          have HLL : Hid (L.length ≤ 1000) := by unfold Hid; omega
          obtain ⟨la, lc, rfl, hlr, hlb, hlc, -, hla⟩ := owns_exts HO.out
          have HLB := Lib.hid hlb
          have HLA := Lib.hid hla
          have HLR := Lib.hid hlr
          clear hlb hla hlr
          have hbw : Below w.heap.size w wr := by rw [HM.out]; exact HB.out.trans (HU.out.below (by have h1 := HB.out.size; have h2 := HM.out; omega) HI.out)
          have HBW := Lib.hid hbw
          clear hbw
          obtain ⟨U, hU⟩ : ∃ U, U = (L.map rN).sum := ⟨_, rfl⟩
          rw [← hU] at hsum hlen ⊢
          have HUU := Lib.hid hU
          clear hU
          by_cases hlt : j < ds.length
          · obtain ⟨b, off, rfl, hb, hcl⟩ := sl_cell (HR.out.below HBW.out) hlt
            have hok := (HDS.out _ (List.getElem_mem hlt)).below HBW.out
            obtain ⟨d, hd⟩ : ∃ d, d = ds[j] := ⟨_, rfl⟩
            rw [← hd] at hok hcl
            have HDJ := Lib.hid hd
            obtain ⟨da, dn, dc, dl⟩ := d
            obtain ⟨k1, k2, k3, k4, k5⟩ := hok
            simp only at k1 k2 k3 k4 k5 hcl
            have HDN := Lib.hid k1
            have HDR := Lib.hid k3
            have HDB := Lib.hid k4
            have hdisj : 0 < dn → ∀ y, da = some y → y.block ∉ I.all := fun h0 y hy hm => by
              have h1 := (HDS.out _ (List.getElem_mem hlt))
              rw [← hd] at h1
              have h2 := readBlock h1.2.2.1 (by simp; omega) y hy
              have h3 := HI.out _ hm
              have h4 := HM.out
              omega
            have HDD := Lib.hid hdisj
            clear hd hb k1 k3 k4 hdisj
            go_wp2_with fail
            refine (gPutB HG.out (by omega) (by omega) dl da dn dc HDN.out (by omega) HDB.out HDR.out k2 HDD.out).mono ?_
            rintro e v1 (⟨hf, rfl, hg, ku⟩ | ⟨F, hf, rfl, hg, ku⟩)
            · obtain ⟨W1, hW⟩ : ∃ z, z = v1.alloc (.cells #[.int .i64 0, .int .i64 0, .int .i64 0] 34) := ⟨_, rfl⟩
              have hst : Upd I.all wr W1 := by rw [hW]; exact ku.alloc _
              have HG : Hid (SG W1 I L N (2 * L.length)) := hg.below (by rw [hW]; exact (Below.refl _ _).alloc (Nat.le_refl _) _)
              have HO2 : Hid (W1.ownsRow v0.heap.size 34 3 (.slice la L.length lc) L.length (flatE (L.map rE))) := hst.ownsAbove HO.out HI2.out
              have HU2 : Hid (Upd I.all v0 W1) := HU.out.trans hst
              have hbw : Below w.heap.size w W1 := by rw [HM.out]; exact HB.out.trans (HU2.out.below (by have h1 := HB.out.size; have h2 := HM.out; omega) HI.out)
              have HBW := Lib.hid hbw
              have hcl : W1.cell? ⟨b, off + j, none⟩ = some (.slice da dn dc) := by
                obtain ⟨b', off', e, -, hc⟩ := sl_cell (HR.out.below hbw) hlt
                cases e
                rw [← HDJ.out] at hc
                exact hc
              have HWW := Lib.hid hW
              have hsq := secs_le dn
              have HF := Lib.hid hf
              clear hst hbw hg ku hW hf HO HU
              unfold exA
              rw [HWW.out] at hcl
              go_wp2_with fail
              rw [← HWW.out]
              clear HWW hcl
              refine (c_SectorsB dn _ (by omega)).mono ?_
              rintro e w' ⟨rfl, rfl⟩
              by_cases hU0 : (U : Int) = 0
              · have hA : ¬ ((secs dn : Nat) : Int) + (U : Int) ≤ (N : Int) - (U : Int) := by
                  have h0 : L = [] := sum_zero (by have := HUU.out; omega)
                  have h1 := HF.out
                  rw [h0] at h1
                  have h2 := first0n h1
                  rw [← HDN.out] at h2
                  omega
                have HU0 := Lib.hid hU0
                clear hU0
                go_wp2
                go_roundw
                case rel => exact ⟨j + 1, L, by omega, by go_num, by rw [← HUU.out], HG.out, HO2.out, HU2.out⟩
                case measure => simp [intOf]; omega
              · by_cases hA : ((secs dn : Nat) : Int) + (U : Int) ≤ (N : Int) - (U : Int)
                · go_wp2
                  go_roundw
                  case rel => exact ⟨j + 1, L, by omega, by go_num, by rw [← HUU.out], HG.out, HO2.out, HU2.out⟩
                  case measure => simp [intOf]; omega
                · go_wp2
                  go_roundw
                  case rel => exact ⟨j + 1, L, by omega, by go_num, by rw [← HUU.out], HG.out, HO2.out, HU2.out⟩
                  case measure => simp [intOf]; omega
            · rw [← HDN.out]
              have hfit := hf.1
              rw [← HDN.out] at hfit
              have HFN : Hid (F + secs dn ≤ 1000000) := by unfold Hid; omega
              have HUS : Hid (U + secs dn ≤ 1000000) := by unfold Hid; omega
              have HDM : Hid (dn ≤ 1000000000) := by unfold Hid; unfold secs at hfit; omega
              obtain ⟨W1, hW⟩ : ∃ z, z = v1.alloc (.cells #[.int .i64 F, .int .i64 (secs dn : Nat), .int .i64 dn] 34) := ⟨_, rfl⟩
              obtain ⟨X1, hX⟩ : ∃ z, z = v1.heap.size := ⟨_, rfl⟩
              have hb1 : Below v1.heap.size v1 W1 := by rw [hW]; exact (Below.refl _ _).alloc (Nat.le_refl _) _
              have rr : Row W1 X1 34 [.int .i64 F, .int .i64 (secs dn : Nat), .int .i64 dn] := by rw [hW, hX]; exact Row.made v1 _ _
              have hst : Upd I.all wr W1 := by rw [hW]; exact ku.alloc _
              have HNX1 : Hid (X1 ∉ I.all) := fun hm => by have := hg.lt _ hm; omega
              have HG : Hid (SG W1 I (L ++ [(F, dl)]) N (2 * L.length + 1)) := hg.below hb1
              have HO2 : Hid (W1.ownsRow v0.heap.size 34 3 (.slice la L.length lc) L.length (flatE (L.map rE))) := hst.ownsAbove HO.out HI2.out
              have HLB2 : Hid (ReadsBy W1 la 3 exC (L.map rE)) := exs_keep HLB.out hst (fun y hy hm => by have h1 := HLA.out y hy; have h2 := HI2.out _ hm; omega)
              have HU2 : Hid (Upd I.all v0 W1) := HU.out.trans hst
              have hbw : Below w.heap.size w W1 := by rw [HM.out]; exact HB.out.trans (HU2.out.below (by have h1 := HB.out.size; have h2 := HM.out; omega) HI.out)
              have HBW := Lib.hid hbw
              have HSZ : Hid (v0.heap.size ≤ X1) := by unfold Hid; rw [hX]; exact Nat.le_trans HU.out.size ku.size
              have hcl : W1.cell? ⟨b, off + j, none⟩ = some (.slice da dn dc) := by
                obtain ⟨b', off', e, -, hc⟩ := sl_cell (HR.out.below hbw) hlt
                cases e
                rw [← HDJ.out] at hc
                exact hc
              have HX1 := Lib.hid rr
              have x0 := rr.cell (i := 0) rfl
              have x1 := rr.cell (i := 1) rfl
              have x2 := rr.cell (i := 2) rfl
              have HWW := Lib.hid hW
              have HXX := Lib.hid hX
              have hsq := secs_le dn
              have HF := Lib.hid hf
              clear rr hb1 hst hbw hg ku hW hX hf HO HU HLB
              unfold exA
              rw [HWW.out] at hcl x0 x1 x2
              go_wp2_with fail
              rw [← HWW.out, ← HXX.out]
              rw [← HWW.out] at hcl x0 x1 x2
              clear HWW HXX
              refine reg18 (fun _ _ _ _ _ h => h) hN hlt x0 x1 x2 hcl HDM.out (wrap_small HFN.out) (not_lt_cast hfit) ?_
              clear x0 x1 x2 hcl
              intro t80 t81 t82 t83 t84 t85 t86 t87 t88 t89 t90 t91 t92 t93 t94 t95 t96 t97 t98 t99 t100 t101 t102 t103 t104 t105 t106 t107 t108 t109 t110 t111 t112 t113 t114 t115 t116 t117 t118 t119 t120 t121 t122 t123
              have HBD := Lib.hid (bDrew (Below.refl _ W1))
              have HG := Lib.hid (HG.out.below HBD.out)
              have HO2 := Lib.hid ((Upd.of_below (l := []) HBD.out).ownsAbove HO2.out (by simp))
              have HLB2 := Lib.hid (HLB2.out.below HBD.out)
              have HU2 := Lib.hid (HU2.out.trans (.of_below HBD.out))
              have HBW := Lib.hid (bNext HBW.out HBD.out)
              have HX1 := Lib.hid (HX1.out.keep (l := []) (.of_below HBD.out) (by simp))
              generalize W1.drew = v2 at HG HO2 HLB2 HU2 HBW HX1 ⊢
              clear HBD
              go_wp2
              go_loopw [14] (fun i wr2 => ∃ m : Nat, m ≤ L.length ∧ i = .int .i64 m ∧ Hid (Below v2.heap.size v2 wr2)) (fun i _ => L.length - (intOf i).toNat)
              case atStart => exact ⟨0, Nat.zero_le _, rfl, Below.refl _ _⟩
              case round =>
                obtain ⟨m, hm, rfl, HBr⟩ := hrel
                by_cases hlt3 : m < L.length
                · have hy : L[m] ∈ L := List.getElem_mem hlt3
                  have hno : ¬ Ovl L[m] F (secs dn) := by have := HF.out.2.1 _ hy; rw [← HDN.out] at this; exact this
                  have hfy := HG.out.fit L[m] (List.mem_append_left _ hy)
                  obtain ⟨lb, lo, rfl, hlb, c0, c1, c2⟩ := ex_cells (HLB2.out.below HBr.out) (k := m) (by rw [List.length_map]; exact hlt3)
                  rw [exAt_map hlt3] at c0 c1 c2
                  simp only [rE] at c0 c1 c2
                  have x0 := (HX1.out.keep (l := []) (.of_below HBr.out) (by simp)).cell (i := 0) rfl
                  have x1 := (HX1.out.keep (l := []) (.of_below HBr.out) (by simp)).cell (i := 1) rfl
                  have hw1 := wrap_small (a := L[m].1) (b := rN L[m]) (by omega)
                  have hw2 := wrap_small (a := F) (b := secs dn) HFN.out
                  have hbd : Hid (Below v2.heap.size v2 wr.drew) := HBr.out.drew
                  clear hy hlb c2 hfy
                  go_wp2_with fail
                  refine reg23 (fun _ _ _ _ _ h => h) hlt3 x0 x1 c0 c1 hno hw1 hw2 ?_
                  clear x0 x1 c0 c1 hno hw1 hw2
                  intro t131 t132 t133 t134 t135 t136 t137 t138 t139 t140 t141 t142 t143 t144 t145 t146 t147 t148 t149 t150 t151 t152 t153 t154 t155 t156
                  generalize wr.drew = wd at hbd ⊢
                  go_wp2
                  go_roundw
                  case rel => exact ⟨m + 1, by omega, by go_num, hbd⟩
                  case measure => simp [intOf]; omega
                · obtain rfl : m = L.length := by omega
                  have HG3 : Hid (SG wr I (L ++ [(F, dl)]) N (2 * L.length + 1)) := HG.out.below HBr.out
                  have HO3 := Lib.hid ((Upd.of_below (l := []) HBr.out).ownsAbove HO2.out (by simp))
                  have HU3 : Hid (Upd I.all v0 wr) := HU2.out.trans (.of_below HBr.out)
                  have HX3 := Lib.hid (HX1.out.keep (l := []) (.of_below HBr.out) (by simp))
                  have x0 := HX3.out.cell (i := 0) rfl
                  have x1 := HX3.out.cell (i := 1) rfl
                  have x2 := HX3.out.cell (i := 2) rfl
                  have hGet : Calls Try.prog 13 #[.pointer (some ⟨I.m, 0, none⟩), .agg #[.int .i64 F, .int .i64 (secs dn : Nat), .int .i64 dn]] wr (GetG I (L ++ [(F, dl)]) N (2 * L.length + 1) (F, dl) wr) := by
                    have := gGet HG3.out (by omega) (by omega) (x := (F, dl)) (by simp)
                    rw [HDN.out]
                    exact this
                  have HGet := Lib.hid hGet
                  clear hGet HG HO2 HU2 HX1 HLB2 HBW hlt3 HF HBr
                  go_wp2_with fail
                  refine HGet.out.mono ?_
                  clear HGet x0 x1 x2
                  rintro e v3 ⟨ga, gc, rfl, hgr, hgb, hg, ku⟩
                  have HGR := Lib.hid hgr
                  have HG := Lib.hid hg
                  have HO4 := Lib.hid (ku.ownsAbove HO3.out HI2.out)
                  have HU4 : Hid (Upd I.all v0 v3) := HU3.out.trans ku
                  have hbw : Below w.heap.size w v3 := by rw [HM.out]; exact HB.out.trans (HU4.out.below (by have h1 := HB.out.size; have h2 := HM.out; omega) HI.out)
                  have HBW := Lib.hid hbw
                  have HX4 := Lib.hid (HX3.out.keep ku HNX1.out)
                  have hdr : Hid (Reads v3 da dc (dl.map (Value.int .u8))) := by
                    have h1 := (HDS.out _ (List.getElem_mem hlt)).below hbw
                    rw [← HDJ.out] at h1
                    exact h1.2.2.1
                  have hcl : v3.cell? ⟨b, off + j, none⟩ = some (.slice da dn dc) := by
                    obtain ⟨b', off', e, -, hc⟩ := sl_cell (HR.out.below hbw) hlt
                    cases e
                    rw [← HDJ.out] at hc
                    exact hc
                  have x0 := HX4.out.cell (i := 0) rfl
                  have x1 := HX4.out.cell (i := 1) rfl
                  have x2 := HX4.out.cell (i := 2) rfl
                  clear hgr hgb hg ku hbw HG3 HO3 HU3 HX3
                  go_wp2_with fail
                  have hSM := c_Same ga da _ dn gc dc dl dl _ rfl HDN.out HGR.out hdr.out HDB.out HDB.out
                  rw [show decide (dl = dl) = true from decide_eq_true rfl] at hSM
                  refine hSM.mono ?_
                  clear hSM hdr HGR hcl
                  rintro e w' ⟨rfl, rfl⟩
                  have hw3 := wrap_small HUS.out
                  have hone := one_ext (F : Int) ((secs dn : Nat) : Int) (dn : Int)
                  have hmx := mx_one HLL.out
                  have hby := by_one HLL.out
                  have hbs := HU4.out.size
                  go_wp2_with (at_builtin; refine wpList_app rfl _ _ 32 rfl v0.heap.size 34 (.agg #[.int .i64 0, .int .i64 0, .int .i64 0]) 3 24 Try.underlying32 inf_ext rfl (by decide) _ L.length _ rfl (HO4.out.alloc _) _ 1 1 [.int .i64 (F : Int), .int .i64 (secs dn : Nat), .int .i64 (dn : Int)] rfl rfl (Reads.madeAt rfl) hone hmx hby (Nat.le_trans hbs (by simp)) ?_)
                  intro v' w5 own5 gr5
                  obtain ⟨l5, hu5, hl5⟩ := upd_grown (HO4.out.alloc _) gr5
                  have hal : Below v3.heap.size v3 (v3.alloc (.cells #[.int .i64 (F : Int), .int .i64 (secs dn : Nat), .int .i64 (dn : Int)] 34)) := (Below.refl _ _).alloc (Nat.le_refl _) _
                  have HG5 : Hid (SG w5 I (L ++ [(F, dl)]) N (2 * L.length + 1 + 1)) := (HG.out.below hal).keep hu5 (fun k hk hm => by have h1 := hl5 k hm; have h2 := HI2.out k hk; omega)
                  have HU5 : Hid (Upd I.all v0 w5) := Upd.grow (HU4.out.alloc _) (HO4.out.alloc _) (Nat.le_refl _) gr5
                  have hfl : flatE ([(F, dl)].map rE) = [.int .i64 (F : Int), .int .i64 (secs dn : Nat), .int .i64 (dn : Int)] := by rw [HDN.out]; rfl
                  have HO5 : Hid (w5.ownsRow v0.heap.size 34 3 v' (L ++ [(F, dl)]).length (flatE ((L ++ [(F, dl)]).map rE))) := by
                    unfold Hid
                    rw [List.map_append, flatE_app, hfl, List.length_append]
                    exact own5
                  have hl2 : 2 * (L ++ [(F, dl)]).length = 2 * L.length + 1 + 1 := by simp; omega
                  have HG5 : Hid (SG w5 I (L ++ [(F, dl)]) N (2 * (L ++ [(F, dl)]).length)) := by rw [hl2]; exact HG5
                  have HSN : Hid ((U : Int) + ((secs dn : Nat) : Int) = (((L ++ [(F, dl)]).map rN).sum : Nat)) := by
                    unfold Hid
                    rw [sum_snoc, ← HUU.out, show rN (F, dl) = secs dn by unfold rN; rw [HDN.out]]
                    simp
                  clear own5 gr5 hu5 hl5 hal hfl hl2 hone hmx hby hbs x0 x1 x2 HO4 HU4 HX4 HBW
                  go_wp2
                  go_roundw
                  case rel => exact ⟨j + 1, L ++ [(F, dl)], by omega, by go_num, by rw [HSN.out], HG5.out, HO5.out, HU5.out⟩
                  case measure => simp [intOf]; omega
          · obtain rfl : j = ds.length := by omega
            have hbs : v0.heap.size ≤ wr.heap.size := HU.out.size
            have HBS := Lib.hid hbs
            have hap := HG.out.apart
            have HAP := Lib.hid hap
            have HOKS := Lib.hid HG.out.oks
            have hmx := mx_zero HLL.out
            have hmx2 := mx_two HLL.out
            have hby := by_zero HLL.out
            have hby2 := by_two HLL.out
            clear hap hlt
            go_wp2_with fail
            refine (gUsed HG.out).mono ?_
            rintro e w' ⟨rfl, rfl⟩
            rw [← HUU.out]
            go_wp2_with (at_builtin; refine wpList_app rfl _ _ 32 rfl wr.heap.size 34 (.agg #[.int .i64 0, .int .i64 0, .int .i64 0]) 3 24 Try.underlying32 inf_ext rfl (by decide) _ 0 [] rfl (World.ownsRow_nil _ _ _ _) la L.length lc (flatE (L.map rE)) rfl (by rw [flatE_len, List.length_map]) HLR.out (flatE_one _) hmx hby (Nat.le_refl _) ?_)
            intro t1 w1 ot1 gr1
            have hb1 : Below wr.heap.size wr w1 := ⟨gr1.os, gr1.tape, gr1.output, gr1.size, fun k hk => gr1.block k hk (fun e => by cases e)⟩
            have ot1 : w1.ownsRow wr.heap.size 34 3 t1 L.length (flatE (L.map rE)) := by simpa using ot1
            have HT1 := Lib.hid ot1
            obtain ⟨ta, tc, rfl, -, -, -, -, -⟩ := owns_exts ot1
            have HB1 := Lib.hid hb1
            clear ot1 gr1 hb1
            go_wp2_with (at_builtin; refine wpList_app rfl _ _ 32 rfl wr.heap.size 34 (.agg #[.int .i64 0, .int .i64 0, .int .i64 0]) 3 24 Try.underlying32 inf_ext rfl (by decide) _ L.length _ rfl HT1.out la L.length lc (flatE (L.map rE)) rfl (by rw [flatE_len, List.length_map]) (HLR.out.below HB1.out) (flatE_one _) hmx2 hby2 HB1.out.size ?_)
            intro t2 w2 ot2 gr2
            have hb2 : Below wr.heap.size wr w2 := (HB1.out).grown gr2 HB1.out.size (fun k hk => (HT1.out.lt k hk).1)
            rw [← flatE_app] at ot2
            obtain ⟨tb, td, rfl, -, ht2, ht3, -, ht4⟩ := owns_exts ot2
            have HTB := Lib.hid ht2
            have HTA := Lib.hid ht4
            have HG2 := Lib.hid (HG.out.below hb2)
            have HLB2 := Lib.hid (HLB.out.below hb2)
            have HU2 : Hid (Upd I.all v0 w2) := HU.out.trans (.of_below hb2)
            clear ot2 gr2 hb2 ht2 ht4 HT1 HB1 HG HO HU HLR HLB HBW
            by_cases hL0 : L = []
            · subst hL0
              go_wp2_with fail
              refine (gFree HG2.out la 0 lc [] rfl (Nat.zero_le _) (Nat.zero_le _) (fun i d hid => by simp at hid) (fun x hx => by cases hx) (fun y hy hm => by have h1 := HLA.out y hy; have h2 := HI2.out _ hm; omega)).mono ?_
              rintro e w3 ⟨ku, ⟨hb, -⟩ | ⟨-, rfl, hg⟩⟩
              · exact absurd (fine_all (L := []) List.Pairwise.nil) hb
              have HG3 : Hid (SG w3 I [] N (2 * 0)) := hg
              have HU3 : Hid (Upd I.all v0 w3) := HU2.out.trans ku
              clear hg ku
              go_wp2_with fail
              refine (gUsed HG3.out).mono ?_
              rintro e w' ⟨rfl, rfl⟩
              rw [sum_nil0]
              have HBX : Hid (Below w.heap.size w w3) := by unfold Hid; rw [HM.out]; exact HB.out.trans (HU3.out.below (by have h1 := HB.out.size; have h2 := HM.out; omega) HI.out)
              go_wp2_with fail
              refine (c_known04 _).mono ?_
              rintro e w' ⟨rfl, bk⟩
              have HFX := Lib.hid (bNext HBX.out bk)
              clear bk
              go_wp2
              go_ret
              exact ⟨rfl, HFX.out⟩
            · have hpos : 0 < L.length := List.length_pos_iff.2 hL0
              have HPOS := Lib.hid hpos
              have hp0 := cast_pos hpos
              have hp1 := cast_ne hpos
              have hp2 : ((L.length : Int) == 0) = false := by simpa using hp1
              clear hL0
              go_wp2_with fail
              refine (gFree HG2.out tb (L.length + L.length) td (L.map rE ++ L.map rE) (by simp) (two_small HLL.out) ht3 HTB.out (fun x hx => HOKS.out x ((List.mem_append.1 hx).elim id id)) (fun y hy hm => by have h1 := HTA.out y hy; have h2 := HI2.out _ hm; have h3 := HBS.out; omega)).mono ?_
              rintro e w3 ⟨ku, ⟨-, rfl, hg⟩ | ⟨hb, -⟩⟩
              rotate_left
              · exact absurd hb (fine_twice HPOS.out)
              have HG3 := Lib.hid hg
              have HU3 : Hid (Upd I.all v0 w3) := HU2.out.trans ku
              have HLB3 := Lib.hid (exs_keep HLB2.out ku (fun y hy hm => by have h1 := HLA.out y hy; have h2 := HI2.out _ hm; omega))
              clear hg ku HG2 HU2 HLB2 HTB HTA
              go_wp2_with fail
              refine (gFree HG3.out la L.length lc (L.map rE) (by simp) (one_small HLL.out) hlc HLB3.out HOKS.out (fun y hy hm => by have h1 := HLA.out y hy; have h2 := HI2.out _ hm; omega)).mono ?_
              rintro e w4 ⟨ku, ⟨hb, -⟩ | ⟨-, rfl, hg⟩⟩
              · exact absurd (fine_all HAP.out) hb
              rw [rest_all] at hg
              have HG4 := Lib.hid hg
              have HU4 : Hid (Upd I.all v0 w4) := HU3.out.trans ku
              have HLB4 := Lib.hid (exs_keep HLB3.out ku (fun y hy hm => by have h1 := HLA.out y hy; have h2 := HI2.out _ hm; omega))
              clear hg ku HG3 HU3 HLB3
              go_wp2_with fail
              refine (gUsed HG4.out).mono ?_
              rintro e w' ⟨rfl, rfl⟩
              rw [sum_nil0]
              obtain ⟨y, hy⟩ : ∃ y, y = L[0] := ⟨_, rfl⟩
              obtain ⟨lb, lo, rfl, hlb, c0, c1, c2⟩ := ex_cells HLB4.out (k := 0) (by rw [List.length_map]; exact HPOS.out)
              have hyc : exAt (L.map rE) 0 = rE y := by rw [hy]; exact exAt_map HPOS.out
              rw [hyc, Nat.zero_mul, Nat.add_zero] at c0 c1 c2
              have hyo : exOk (rE y) := HOKS.out _ (by rw [hy]; exact List.mem_map.2 ⟨_, List.getElem_mem HPOS.out, rfl⟩)
              have HYO := Lib.hid hyo
              replace c0 : w4.cell? ⟨lb, lo, none⟩ = some (.int .i64 (y.1 : Nat)) := c0
              replace c1 : w4.cell? ⟨lb, lo + 1, none⟩ = some (.int .i64 (rN y : Nat)) := c1
              replace c2 : w4.cell? ⟨lb, lo + 2, none⟩ = some (.int .i64 (y.2.length : Nat)) := c2
              obtain ⟨W3, hW⟩ : ∃ z, z = w4.alloc (.cells #[.int .i64 (y.1 : Nat), .int .i64 (rN y : Nat), .int .i64 (y.2.length : Nat)] 34) := ⟨_, rfl⟩
              have hb3 : Below w4.heap.size w4 W3 := by rw [hW]; exact (Below.refl _ _).alloc (Nat.le_refl _) _
              have rr : Row W3 w4.heap.size 34 [.int .i64 (y.1 : Nat), .int .i64 (rN y : Nat), .int .i64 (y.2.length : Nat)] := by rw [hW]; exact Row.made w4 _ _
              have hni : w4.heap.size ∉ I.all := fun hm => by have := HG4.out.lt _ hm; omega
              have hrd : ReadsBy W3 (some ⟨w4.heap.size, 0, none⟩) 3 exC [rE y] := row_by rr
              have HFR := Lib.hid (gFree (HG4.out.below hb3) (some ⟨w4.heap.size, 0, none⟩) 1 1 [rE y] rfl (by omega) (Nat.le_refl _) hrd (fun x hx => by rw [List.mem_singleton] at hx; rw [hx]; exact HYO.out) (fun z hz => by cases hz; exact hni))
              have HU5 : Hid (Upd I.all v0 W3) := HU4.out.trans (.of_below hb3)
              have HW := Lib.hid hW
              clear hW hb3 rr hni hrd hlb hyo hy
              go_wp2_with fail
              rw [← HW.out]
              refine HFR.out.mono ?_
              rintro e w5 ⟨ku, ⟨-, rfl, hg⟩ | ⟨hb, -⟩⟩
              rotate_left
              · exact absurd hb not_fine_nil
              have HU6 : Hid (Upd I.all v0 w5) := HU5.out.trans ku
              clear hg ku HFR c0 c1 c2 HW
              have HBX : Hid (Below w.heap.size w w5) := by unfold Hid; rw [HM.out]; exact HB.out.trans (HU6.out.below (by have h1 := HB.out.size; have h2 := HM.out; omega) HI.out)
              go_wp2_with fail
              refine (c_known04 _).mono ?_
              rintro e w' ⟨rfl, bk⟩
              have HFX := Lib.hid (bNext HBX.out bk)
              clear bk
              go_wp2
              go_ret
              exact ⟨rfl, HFX.out⟩

end Go.Proofs.Ytpbokmmobepolaa
