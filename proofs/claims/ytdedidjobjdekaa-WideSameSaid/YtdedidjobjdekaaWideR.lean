/-
  Contracts of the document's package websterref05: Check.
-/
import Derived.Test.YtdedidjobjdekaaWide10
namespace Go.Proofs.Ytdedidjobjdekaa
open Go.RowKit
set_option linter.unusedVariables false
set_option maxHeartbeats 1000000

theorem r_Check (o : ObjD) (w : World) (h : o.ok w) (hm : o.wn ≤ 1000000000) (hm2 : o.bn ≤ 1000000000) : Calls Try.prog 20 #[o.val] w fun e w' => e = .returned (.int .i64 (chkE o)) ∧ Below w.heap.size w w' := by
  obtain ⟨cls, kind, wa, wn, wc, W, ba, bn, bc, B⟩ := o
  obtain ⟨hc, hk, wl, wm, wr, wi, bl, bm, br, bb⟩ := h
  dsimp only at *
  unfold ObjD.val
  dsimp only
  have hnb := nil_iff bl
  have hnw := nil_iff wl
  have hbad := badW_iff (l := W)
  have HN := Lib.hid (r_Named cls (w.alloc (.cells #[.int .i64 cls, .int .i64 kind, .slice wa wn wc, .slice ba bn bc] 25)) hc.1 hc.2)
  have HE := Lib.hid (show chkE ⟨cls, kind, wa, wn, wc, W, ba, bn, bc, B⟩ = if namIs cls = true ∧ (kind = 1 ∧ bn = 0 ∧ wn ≤ 1000 ∧ badW W = false ∨ kind = 2 ∧ wn = 0 ∧ bn ≤ 1000) then 0 else 2 from by
    have hiff : okObj cls kind W B ↔ (namIs cls = true ∧ (kind = 1 ∧ bn = 0 ∧ wn ≤ 1000 ∧ badW W = false ∨ kind = 2 ∧ wn = 0 ∧ bn ≤ 1000)) := by
      unfold okObj
      rw [hnb, hnw, ← hbad, ← wl, ← bl]
    unfold chkE
    dsimp only
    by_cases hx : okObj cls kind W B
    · rw [if_pos hx, if_pos (hiff.1 hx)]
    · rw [if_neg hx, if_neg (fun h => hx (hiff.2 h))])
  rw [HE.out]
  have HWL := Lib.hid wl
  have HW := Lib.hid (wr.alloc (.cells #[.int .i64 cls, .int .i64 kind, .slice wa wn wc, .slice ba bn bc] 25))
  clear HE hnb hnw hbad wr wi br bb wl bl
  generalize namIs cls = nam at *
  generalize namV cls = nv at *
  have HB := Lib.hid (show Below w.heap.size w (w.alloc (.cells #[.int .i64 cls, .int .i64 kind, .slice wa wn wc, .slice ba bn bc] 25)) from (Below.refl _ _).alloc (Nat.le_refl _) _)
  cases nam with
  | false =>
    rw [if_neg (by simp)]
    go_enter Try.func20, Try.ntmps20
    go_wp2_with (go_at_call 39; refine HN.out.mono ?_; rintro e w' ⟨rfl, rfl⟩)
    go_ret
    exact ⟨rfl, HB.out⟩
  | true =>
    by_cases k1 : kind = 1
    · subst k1
      by_cases hw : wn > 1000
      · rw [if_neg (by omega)]
        have g1 : ((wn : Int) > 1000) = True := eq_true (by omega)
        have g2 : ((1000 : Int) < wn) = True := eq_true (by omega)
        go_enter Try.func20, Try.ntmps20
        go_wp2_with (go_at_call 39; refine HN.out.mono ?_; rintro e w' ⟨rfl, rfl⟩)
        go_ret
        exact ⟨rfl, HB.out⟩
      · by_cases hb : bn > 1000
        · rw [if_neg (by omega)]
          have g1 : ((wn : Int) > 1000) = False := eq_false (by omega)
          have g2 : ((1000 : Int) < wn) = False := eq_false (by omega)
          have f1 : ((bn : Int) > 1000) = True := eq_true (by omega)
          have f2 : ((1000 : Int) < bn) = True := eq_true (by omega)
          go_enter Try.func20, Try.ntmps20
          go_wp2_with (go_at_call 39; refine HN.out.mono ?_; rintro e w' ⟨rfl, rfl⟩)
          go_ret
          exact ⟨rfl, HB.out⟩
        · by_cases hb0 : bn = 0
          · subst hb0
            have hwle : wn ≤ 1000 := by omega
            have HL := Lib.hid hm
            clear hm hw hb
            have HF := Lib.hid (show ∀ j, j < wn → refIs (W.getD j 0) = false → (if (true = true ∧ ((1 : Int) = 1 ∧ 0 = 0 ∧ wn ≤ 1000 ∧ badW W = false ∨ (1 : Int) = 2 ∧ wn = 0 ∧ 0 ≤ 1000)) then (0 : Int) else 2) = 2 from fun j hj hf => by
              rw [if_neg]
              rintro ⟨_, ⟨_, _, _, h⟩ | ⟨h, _⟩⟩
              · rw [badW_yes (by rw [← HWL.out]; exact hj) hf] at h; cases h
              · omega)
            have HT := Lib.hid (show (∀ j, j < wn → refIs (W.getD j 0) = true) → (if (true = true ∧ ((1 : Int) = 1 ∧ 0 = 0 ∧ wn ≤ 1000 ∧ badW W = false ∨ (1 : Int) = 2 ∧ wn = 0 ∧ 0 ≤ 1000)) then (0 : Int) else 2) = 0 from fun hf => by
              rw [if_pos ⟨rfl, .inl ⟨rfl, rfl, hwle, badW_no (by rw [← HWL.out]; exact hf)⟩⟩])
            generalize (if (true = true ∧ ((1 : Int) = 1 ∧ 0 = 0 ∧ wn ≤ 1000 ∧ badW W = false ∨ (1 : Int) = 2 ∧ wn = 0 ∧ 0 ≤ 1000)) then (0 : Int) else 2) = R at *
            go_enter Try.func20, Try.ntmps20
            go_wp2_with (go_at_call 39; refine HN.out.mono ?_; rintro e w' ⟨rfl, rfl⟩)
            go_loopw [5] (fun i wr => ∃ k : Nat, k ≤ wn ∧ i = .int .i64 k ∧ Hid (∀ j, j < k → refIs (W.getD j 0) = true) ∧ (w.alloc (.cells #[.int .i64 cls, .int .i64 1, .slice wa wn wc, .slice ba 0 bc] 25)) = wr) (fun i _ => wn - (intOf i).toNat)
            case atStart => exact ⟨0, Nat.zero_le _, rfl, fun j hj => by omega, rfl⟩
            case round =>
              obtain ⟨k, hk, rfl, hz, rfl⟩ := hrel
              by_cases hlt : k < wn
              · obtain ⟨b0, o0, rfl, _, hc0⟩ := HW.out.at (by simp; have := HWL.out; omega)
                have k0 := hc0 k _ (getD_map8 (by have := HWL.out; omega))
                have HF2 := Lib.hid (HF.out k hlt)
                have HN2 := Lib.hid (fun h : refIs (W.getD k 0) = true => (by
                  intro j hj
                  by_cases hjk : j = k
                  · subst hjk; exact h
                  · exact hz.out j (by omega) : ∀ j, j < k + 1 → refIs (W.getD j 0) = true))
                clear hc0 hz
                generalize W.getD k 0 = y at *
                have HC := Lib.hid (fun w => c_rref y w)
                cases hy : refIs y with
                | true =>
                  have HN3 := Lib.hid (HN2.out hy)
                  rw [hy] at HC
                  clear HN2 HF2 hy
                  go_wp2_with (go_at_call 40; refine (HC.out _).mono ?_; rintro e w' ⟨rfl, rfl⟩)
                  go_roundw
                  case rel => exact ⟨k + 1, by omega, by go_num, HN3.out, by first | rfl | trivial⟩
                  case measure => simp [intOf]; omega
                | false =>
                  have HN3 := Lib.hid (HF2.out hy)
                  rw [hy] at HC
                  clear HN2 HF2 hy
                  go_wp2_with (go_at_call 40; refine (HC.out _).mono ?_; rintro e w' ⟨rfl, rfl⟩)
                  go_ret
                  exact ⟨by rw [HN3.out]; rfl, HB.out⟩
              · obtain rfl : k = wn := by omega
                go_wp2
                go_ret
                exact ⟨by rw [HT.out hz.out]; rfl, HB.out⟩
          · rw [if_neg (by omega)]
            have g1 : ((wn : Int) > 1000) = False := eq_false (by omega)
            have g2 : ((1000 : Int) < wn) = False := eq_false (by omega)
            have f1 : ((bn : Int) > 1000) = False := eq_false (by omega)
            have f2 : ((1000 : Int) < bn) = False := eq_false (by omega)
            have f3 : ((bn : Int) > 0) = True := eq_true (by omega)
            have f4 : ((0 : Int) < bn) = True := eq_true (by omega)
            go_enter Try.func20, Try.ntmps20
            go_wp2_with (go_at_call 39; refine HN.out.mono ?_; rintro e w' ⟨rfl, rfl⟩)
            go_ret
            exact ⟨rfl, HB.out⟩
    · by_cases k2 : kind = 2
      · subst k2
        by_cases hw : wn > 1000
        · rw [if_neg (by omega)]
          have g1 : ((wn : Int) > 1000) = True := eq_true (by omega)
          have g2 : ((1000 : Int) < wn) = True := eq_true (by omega)
          go_enter Try.func20, Try.ntmps20
          go_wp2_with (go_at_call 39; refine HN.out.mono ?_; rintro e w' ⟨rfl, rfl⟩)
          go_ret
          exact ⟨rfl, HB.out⟩
        · by_cases hb : bn > 1000
          · rw [if_neg (by omega)]
            have g1 : ((wn : Int) > 1000) = False := eq_false (by omega)
            have g2 : ((1000 : Int) < wn) = False := eq_false (by omega)
            have f1 : ((bn : Int) > 1000) = True := eq_true (by omega)
            have f2 : ((1000 : Int) < bn) = True := eq_true (by omega)
            go_enter Try.func20, Try.ntmps20
            go_wp2_with (go_at_call 39; refine HN.out.mono ?_; rintro e w' ⟨rfl, rfl⟩)
            go_ret
            exact ⟨rfl, HB.out⟩
          · by_cases hw0 : wn = 0
            · subst hw0
              rw [if_pos ⟨rfl, .inr ⟨rfl, rfl, by omega⟩⟩]
              have f1 : ((bn : Int) > 1000) = False := eq_false (by omega)
              have f2 : ((1000 : Int) < bn) = False := eq_false (by omega)
              clear hw hb
              go_enter Try.func20, Try.ntmps20
              go_wp2_with (go_at_call 39; refine HN.out.mono ?_; rintro e w' ⟨rfl, rfl⟩)
              go_loopw [5] (fun i wr => i = .int .i64 0 ∧ Hid (Below w.heap.size w wr) ∧ Hid (Row wr w.heap.size 25 [.int .i64 cls, .int .i64 2, .slice wa 0 wc, .slice ba bn bc])) (fun i _ => 1)
              case atStart => exact ⟨rfl, HB.out, Row.made w _ _⟩
              case round =>
                obtain ⟨rfl, hb, hr⟩ := hrel
                have j2 := hr.out.cell (i := 2) rfl
                go_wp2
                go_ret
                exact ⟨rfl, hb.out⟩
            · rw [if_neg (by omega)]
              have g1 : ((wn : Int) > 1000) = False := eq_false (by omega)
              have g2 : ((1000 : Int) < wn) = False := eq_false (by omega)
              have f1 : ((bn : Int) > 1000) = False := eq_false (by omega)
              have f2 : ((1000 : Int) < bn) = False := eq_false (by omega)
              have f3 : ((wn : Int) > 0) = True := eq_true (by omega)
              have f4 : ((0 : Int) < wn) = True := eq_true (by omega)
              go_enter Try.func20, Try.ntmps20
              go_wp2_with (go_at_call 39; refine HN.out.mono ?_; rintro e w' ⟨rfl, rfl⟩)
              go_ret
              exact ⟨rfl, HB.out⟩
      · rw [if_neg (by omega)]
        have q1 : (kind == 1) = false := by simp [k1]
        have q2 : (kind == 2) = false := by simp [k2]
        have q3 : (kind != 1) = true := by simp [k1]
        have q4 : (kind != 2) = true := by simp [k2]
        go_enter Try.func20, Try.ntmps20
        go_wp2_with (go_at_call 39; refine HN.out.mono ?_; rintro e w' ⟨rfl, rfl⟩)
        go_ret
        exact ⟨rfl, HB.out⟩

end Go.Proofs.Ytdedidjobjdekaa
