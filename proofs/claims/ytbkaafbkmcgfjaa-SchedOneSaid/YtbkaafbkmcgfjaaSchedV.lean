/-
  The document's answer of chapter 20: At. (Written by ratgen.py.)
-/
import Derived.Test.YtbkaafbkmcgfjaaSchedU
namespace Go.Proofs.Ytbkaafbkmcgfjaa
open Go.RowKit
set_option linter.unusedVariables false
set_option maxHeartbeats 4000000
set_option maxRecDepth 20000

def atRow (x : RS) (wh pr t i : Nat) : List Int := ((List.range i).filter (condR x wh pr t)).map fun (i : Nat) => (i : Int) + 1
def atTo (x : RS) (wh pr t : Nat) : List Int := (List.range t).flatMap fun t => atRow x wh pr t x.P.length
theorem atRow_yes {x : RS} {wh pr t i : Nat} (h : condR x wh pr t i = true) : atRow x wh pr t (i + 1) = atRow x wh pr t i ++ [(i : Int) + 1] := by
  unfold atRow
  rw [List.range_succ, List.filter_append, List.map_append, List.filter_cons, if_pos h]; rfl
theorem atRow_no {x : RS} {wh pr t i : Nat} (h : condR x wh pr t i = false) : atRow x wh pr t (i + 1) = atRow x wh pr t i := by
  unfold atRow
  rw [List.range_succ, List.filter_append, List.map_append, List.filter_cons, if_neg (by rw [h]; simp)]; simp
theorem atTo_succ (x : RS) (wh pr t : Nat) : atTo x wh pr (t + 1) = atTo x wh pr t ++ atRow x wh pr t x.P.length := by
  unfold atTo
  rw [List.range_succ, List.flatMap_append]; simp
theorem atRow_len (x : RS) (wh pr t i : Nat) : (atRow x wh pr t i).length ≤ i := by
  unfold atRow
  rw [List.length_map]
  exact Nat.le_trans (List.length_filter_le _ _) (by simp)
theorem atTo_len (x : RS) (wh pr : Nat) (hn : x.P.length ≤ 100) : ∀ t, (atTo x wh pr t).length ≤ t * 100
  | 0 => by simp [atTo]
  | t + 1 => by
    rw [atTo_succ, List.length_append]
    have := atTo_len x wh pr hn t
    have := atRow_len x wh pr t x.P.length
    omega
theorem owns_mono {w : World} {base base' : Nat} {e : TypeId} {size : Nat} {v : Value} {n : Nat} {xs : List Value} (h : w.ownsRow base e size v n xs) (hb : base' ≤ base) : w.ownsRow base' e size v n xs := by
  refine ⟨h.1, ?_⟩
  rcases h.2 with h2 | ⟨g, cap, cur, rfl, hg, rest⟩
  · exact .inl h2
  · exact .inr ⟨g, cap, cur, rfl, Nat.le_trans hb hg, rest⟩
theorem cond_parts {x : RS} {wh pr t i : Nat} : condR x wh pr t i = (decide ((gP x i).wh = wh) && decide ((gP x i).si = t) && (decide (pr = 0) || decide ((gP x i).pr = pr))) := rfl

theorem c_rAt {w : World} {a1 a2 : Option Addr} {c1 c2 : Nat} {x : RS} (h : RefV w a1 c1 a2 c2 x) (hn : x.P.length ≤ 100) (hnow : x.now ≤ 1000000) (wh pr : Nat) (hpr : pr ≤ 8) (hwh : wh ≤ 200) :
    Calls Try.prog 39 #[refV a1 c1 a2 c2 x, .int .i64 wh, .int .i64 pr] w (MadeInts w (atL x wh pr)) := by
  obtain ⟨W, hW⟩ : ∃ W, W = w.alloc (.cells #[.slice a1 x.P.length c1, .slice a2 x.sems.length c2, .int .i64 x.now] 41) := ⟨_, rfl⟩
  have hb : Below w.heap.size w W := by rw [hW]; exact (Below.refl _ _).alloc (Nat.le_refl _) _
  have hr : Row W w.heap.size 41 (refC a1 c1 a2 c2 x) := by rw [hW]; exact Row.made w _ _
  have hsz : W.heap.size = w.heap.size + 1 := by rw [hW]; simp
  have HV := Lib.hid (h.below hb)
  have HB := Lib.hid hb
  have HRW := Lib.hid hr
  have HW := Lib.hid hW
  have HSZ := Lib.hid hsz
  clear h hb hr hW hsz
  unfold refV
  go_enter Try.func39, Try.ntmps39
  go_wp2
  rw [← HW.out]
  obtain ⟨q0, hq0⟩ : ∃ q, q = w.heap.size := ⟨_, rfl⟩
  rw [← hq0] at HRW ⊢
  have HQ0 := Lib.hid hq0
  clear hq0
  obtain ⟨B0, hB0⟩ : ∃ b, b = W.heap.size := ⟨_, rfl⟩
  have HB0 := Lib.hid hB0
  clear hB0
  go_loopw [7, 8] (fun v t wr => ∃ tt : Nat, tt ≤ x.now + 1 ∧ t = .int .i64 tt ∧ Hid (wr.ownsRow B0 3 1 v (atTo x wh pr tt).length ((atTo x wh pr tt).map (Value.int .i64))) ∧ Hid (Below B0 W wr)) (fun _ t _ => x.now + 1 - (intOf t).toNat)
  case atStart => exact ⟨0, Nat.zero_le _, rfl, World.ownsRow_nil _ _ _ _, Below.refl _ _⟩
  case round =>
    obtain ⟨tt, htt, rfl, HO, HBB⟩ := hrel
    have hrw := HRW.out.keep (l := []) (.of_below (show Below W.heap.size W wr from by rw [← HB0.out]; exact HBB.out)) (by simp)
    have k0 := hrw.cell (i := 0) rfl
    have k2 := hrw.cell (i := 2) rfl
    clear hrw
    by_cases hlt : tt ≤ x.now
    · obtain ⟨av, cv, rfl, -, -, -⟩ := owns_reads HO.out
      go_wp2
      go_loopw [7, 9] (fun v i wr => ∃ k : Nat, k ≤ x.P.length ∧ i = .int .i64 k ∧ Hid (wr.ownsRow B0 3 1 v (atTo x wh pr tt ++ atRow x wh pr tt k).length ((atTo x wh pr tt ++ atRow x wh pr tt k).map (Value.int .i64))) ∧ Hid (Below B0 W wr)) (fun _ i _ => x.P.length - (intOf i).toNat)
      case atStart => exact ⟨0, Nat.zero_le _, rfl, by rw [show atRow x wh pr tt 0 = [] from rfl, List.append_nil]; exact HO.out, HBB.out⟩
      case round =>
        obtain ⟨k, hk, rfl, HO, HBB⟩ := hrel
        have hbel : Below W.heap.size W wr := by rw [← HB0.out]; exact HBB.out
        have hrw := HRW.out.keep (l := []) (.of_below hbel) (by simp)
        have k0 := hrw.cell (i := 0) rfl
        have HV2 := Lib.hid (HV.out.below hbel)
        clear hrw hbel k2
        by_cases hlt2 : k < x.P.length
        · obtain ⟨b, o, rfl, hbl, hc⟩ := HV2.out.at (by omega)
          obtain ⟨kc0, kc1, kc2⟩ := hc k hlt2
          have hcp := cond_parts (x := x) (wh := wh) (pr := pr) (t := tt) (i := k)
          have HY := Lib.hid (fun hh : condR x wh pr tt k = true => atRow_yes hh)
          have HN := Lib.hid (fun hh : condR x wh pr tt k = false => atRow_no hh)
          have hlen : (atTo x wh pr tt ++ atRow x wh pr tt k).length ≤ 200000000 := by
            rw [List.length_append]
            have := atTo_len x wh pr hn tt
            have := atRow_len x wh pr tt k
            omega
          clear hc
          generalize (gP x k).wh = y1 at *
          generalize (gP x k).si = y2 at *
          generalize (gP x k).pr = y0 at *
          have HL : Hid (∀ z, atTo x wh pr tt ++ (atRow x wh pr tt k ++ z) = (atTo x wh pr tt ++ atRow x wh pr tt k) ++ z) := fun z => (List.append_assoc _ _ _).symm
          generalize hLL : atTo x wh pr tt ++ atRow x wh pr tt k = L at *
          have HLL := Lib.hid hLL
          clear hLL
          by_cases e1 : y1 = wh
          · rw [e1] at hcp kc1
            by_cases e2 : y2 = tt
            · rw [e2] at hcp kc2
              by_cases e3 : pr = 0
              · have f3 : ((pr : Int) = 0) = True := eq_true (by omega)
                have g3 : ((pr : Int) == 0) = true := by simp; omega
                have HP0 := Lib.hid e3
                clear e3
                have HE : Hid (atTo x wh pr tt ++ atRow x wh pr tt (k + 1) = L ++ [(k : Int) + 1]) := by
                  unfold Hid
                  rw [HY.out (by rw [hcp]; simp; exact .inl HP0.out), HL.out]
                obtain ⟨av2, cv2, rfl, -, -, -⟩ := owns_reads HO.out
                have h1c : ∀ u ∈ [(.int .i64 ((k : Int) + 1) : Value)], u.oneCell' = true := by intro u hu; simp at hu; subst hu; rfl
                have HSB := Lib.hid (show B0 ≤ wr.heap.size from by have := HBB.out.size; have := HB0.out; omega)
                clear HY HN hcp
                go_wp2_with (at_builtin; refine wpList_app rfl _ _ 35 rfl B0 3 (.int .i64 0) 1 8 Try.underlying35 inf_int rfl (by decide) _ L.length _ rfl (HO.out.alloc _) _ 1 1 [.int .i64 ((k : Int) + 1)] rfl rfl (Reads.madeAt rfl) h1c (by unfold maxLen; omega) (by omega) (by have := HSB.out; simp; omega) ?_)
                intro v' w5 own5 gr5
                have hlt5 := HO.out.lt
                have HB5 := Lib.hid ((HBB.out.alloc HSB.out _).grown gr5 (by have := HSB.out; simp; omega) (fun k hk => (hlt5 k hk).1))
                have HO5 : Hid (w5.ownsRow B0 3 1 v' (atTo x wh pr tt ++ atRow x wh pr tt (k + 1)).length ((atTo x wh pr tt ++ atRow x wh pr tt (k + 1)).map (Value.int .i64))) := by
                  unfold Hid
                  rw [HE.out, List.length_append, List.map_append]; exact own5
                obtain ⟨av3, cv3, rfl, -, -, -⟩ := owns_reads HO5.out
                clear own5 gr5 hlt5
                go_wp2
                go_roundw
                case rel => exact ⟨k + 1, by omega, by go_num, HO5.out, HB5.out⟩
                case measure => simp [intOf]; omega
              · have f3 : ((pr : Int) = (0 : Int)) = False := eq_false (by omega)
                have g3 : ((pr : Int) == (0 : Int)) = false := by simp; omega
                by_cases e4 : y0 = pr
                · rw [e4] at hcp kc0
                  have HE : Hid (atTo x wh pr tt ++ atRow x wh pr tt (k + 1) = L ++ [(k : Int) + 1]) := by
                    unfold Hid
                    rw [HY.out (by rw [hcp]; simp), HL.out]
                  obtain ⟨av2, cv2, rfl, -, -, -⟩ := owns_reads HO.out
                  have h1c : ∀ u ∈ [(.int .i64 ((k : Int) + 1) : Value)], u.oneCell' = true := by intro u hu; simp at hu; subst hu; rfl
                  have HSB := Lib.hid (show B0 ≤ wr.heap.size from by have := HBB.out.size; have := HB0.out; omega)
                  clear HY HN hcp
                  go_wp2_with (at_builtin; refine wpList_app rfl _ _ 35 rfl B0 3 (.int .i64 0) 1 8 Try.underlying35 inf_int rfl (by decide) _ L.length _ rfl (HO.out.alloc _) _ 1 1 [.int .i64 ((k : Int) + 1)] rfl rfl (Reads.madeAt rfl) h1c (by unfold maxLen; omega) (by omega) (by have := HSB.out; simp; omega) ?_)
                  intro v' w5 own5 gr5
                  have hlt5 := HO.out.lt
                  have HB5 := Lib.hid ((HBB.out.alloc HSB.out _).grown gr5 (by have := HSB.out; simp; omega) (fun k hk => (hlt5 k hk).1))
                  have HO5 : Hid (w5.ownsRow B0 3 1 v' (atTo x wh pr tt ++ atRow x wh pr tt (k + 1)).length ((atTo x wh pr tt ++ atRow x wh pr tt (k + 1)).map (Value.int .i64))) := by
                    unfold Hid
                    rw [HE.out, List.length_append, List.map_append]; exact own5
                  obtain ⟨av3, cv3, rfl, -, -, -⟩ := owns_reads HO5.out
                  clear own5 gr5 hlt5
                  go_wp2
                  go_roundw
                  case rel => exact ⟨k + 1, by omega, by go_num, HO5.out, HB5.out⟩
                  case measure => simp [intOf]; omega
                · have f4 : ((y0 : Int) = (pr : Int)) = False := eq_false (by omega)
                  have g4 : ((y0 : Int) == (pr : Int)) = false := by simp; omega
                  have HO2 : Hid (wr.ownsRow B0 3 1 u7 (atTo x wh pr tt ++ atRow x wh pr tt (k + 1)).length ((atTo x wh pr tt ++ atRow x wh pr tt (k + 1)).map (Value.int .i64))) := by
                    unfold Hid
                    rw [HN.out (by rw [hcp]; simp; omega), HLL.out]; exact HO.out
                  obtain ⟨av2, cv2, rfl, -, -, -⟩ := owns_reads HO.out
                  clear HY HN hcp
                  go_wp2
                  go_roundw
                  case rel => exact ⟨k + 1, by omega, by go_num, HO2.out, HBB.out⟩
                  case measure => simp [intOf]; omega
            · have f2 : ((y2 : Int) = (tt : Int)) = False := eq_false (by omega)
              have g2 : ((y2 : Int) == (tt : Int)) = false := by simp; omega
              have HO2 : Hid (wr.ownsRow B0 3 1 u7 (atTo x wh pr tt ++ atRow x wh pr tt (k + 1)).length ((atTo x wh pr tt ++ atRow x wh pr tt (k + 1)).map (Value.int .i64))) := by
                unfold Hid
                rw [HN.out (by rw [hcp]; simp; omega), HLL.out]; exact HO.out
              obtain ⟨av2, cv2, rfl, -, -, -⟩ := owns_reads HO.out
              clear HY HN hcp
              go_wp2
              go_roundw
              case rel => exact ⟨k + 1, by omega, by go_num, HO2.out, HBB.out⟩
              case measure => simp [intOf]; omega
          · have f1 : ((y1 : Int) = (wh : Int)) = False := eq_false (by omega)
            have g1 : ((y1 : Int) == (wh : Int)) = false := by simp; omega
            have HO2 : Hid (wr.ownsRow B0 3 1 u7 (atTo x wh pr tt ++ atRow x wh pr tt (k + 1)).length ((atTo x wh pr tt ++ atRow x wh pr tt (k + 1)).map (Value.int .i64))) := by
              unfold Hid
              rw [HN.out (by rw [hcp]; simp; omega), HLL.out]; exact HO.out
            obtain ⟨av2, cv2, rfl, -, -, -⟩ := owns_reads HO.out
            clear HY HN hcp
            go_wp2
            go_roundw
            case rel => exact ⟨k + 1, by omega, by go_num, HO2.out, HBB.out⟩
            case measure => simp [intOf]; omega
        · obtain rfl : k = x.P.length := by omega
          have HO2 : Hid (wr.ownsRow B0 3 1 u7 (atTo x wh pr (tt + 1)).length ((atTo x wh pr (tt + 1)).map (Value.int .i64))) := by
            unfold Hid
            rw [atTo_succ]; exact HO.out
          obtain ⟨av2, cv2, rfl, -, -, -⟩ := owns_reads HO2.out
          clear HO hlt2
          go_wp2
          go_roundw
          case rel => exact ⟨tt + 1, by omega, by go_num, HO2.out, HBB.out⟩
          case measure => simp [intOf]; omega
    · obtain rfl : tt = x.now + 1 := by omega
      clear hlt
      go_wp2
      go_ret
      have hB0 := HB0.out
      have hsz := HSZ.out
      exact ⟨_, rfl, owns_mono HO.out (by rw [← HQ0.out]; rw [← HQ0.out] at hsz; omega), HB.out.trans (HBB.out.mono (by omega))⟩

end Go.Proofs.Ytbkaafbkmcgfjaa
