/-
  The law HeapNone.
-/
import Derived.Test.YtcecegcbkcdpjaaHeapQ
namespace Go.Proofs.Ytcecegcbkcdpjaa
open Go.RowKit
set_option linter.unusedVariables false
set_option maxHeartbeats 4000000

section
variable {w : World} {B h g : Nat} {vb : Value} {S : HpS}
theorem c_ReadNo (H : HpAt w B h g vb S) (k i : Int) (hk : hasB S k = false) : Calls Try.prog 35 #[.pointer (some ⟨h, 0, none⟩), .int .i64 k, .int .i64 i] w fun e w' => e = .returned (.tuple #[.int .i64 0, .int .i64 4]) ∧ w = w' := by
  have HC := Lib.hid (c_has H k)
  rw [hk] at HC
  clear H hk
  go_enter Try.func35, Try.ntmps35
  go_wp2_with (go_at_call 42; refine HC.out.mono ?_; rintro e w' ⟨rfl, rfl⟩)
  go_ret2
  exact ⟨rfl, rfl⟩
theorem x_Write (H : HX w B h g S) (m : Nat) (hm : m < S.bl.length) (hu : S.bl[m].used = true) (p : Nat) (hp : S.bl[m].at_ = p) (hN : p + S.bl[m].n ≤ S.N) (i : Nat) (a : Option Addr) (n c : Nat) (l : List Int) (e0 : n = l.length) (hn : i + n ≤ S.bl[m].n) (hr : Reads w a c (l.map (Value.int .i64))) (hg : ∀ x, a = some x → x.block ≠ g) (hb : badH l = false) :
    Calls Try.prog 34 #[.pointer (some ⟨h, 0, none⟩), .int .i64 m, .int .i64 i, .slice a n c] w fun e w' => e = .returned (.int .i64 0) ∧ HX w' B h g (wsS S (p + i) l) ∧ HUpd B w w' := by
  subst hp
  obtain ⟨vb, H⟩ := H
  refine (c_Write H m hm hu hN i a n c l e0 hn hr hg hb).mono ?_
  rintro e w' ⟨rfl, hx, hu⟩
  exact ⟨rfl, ⟨vb, hx⟩, hu⟩
theorem x_WriteBad (H : HX w B h g S) (m : Nat) (hm : m < S.bl.length) (hu : S.bl[m].used = true) (hq : S.bl[m].n ≤ 32768) (i : Nat) (a : Option Addr) (n c : Nat) (l : List Int) (e0 : n = l.length) (hn : i + n ≤ S.bl[m].n) (hr : Reads w a c (l.map (Value.int .i64))) (hb : badH l = true) : Calls Try.prog 34 #[.pointer (some ⟨h, 0, none⟩), .int .i64 m, .int .i64 i, .slice a n c] w fun e w' => e = .returned (.int .i64 2) ∧ w = w' := by
  obtain ⟨vb, H⟩ := H
  exact c_WriteBad H m hm hu hq i a n c l e0 hn hr hb
theorem x_Read (H : HX w B h g S) (m : Nat) (hm : m < S.bl.length) (hu : S.bl[m].used = true) (i : Nat) (hi : i < S.bl[m].n) (hN : S.bl[m].at_ + S.bl[m].n ≤ S.N) (x : Int) (hx : S.ws.getD (S.bl[m].at_ + i) 0 = x) :
    Calls Try.prog 35 #[.pointer (some ⟨h, 0, none⟩), .int .i64 m, .int .i64 i] w fun e w' => e = .returned (.tuple #[.int .i64 x, .int .i64 0]) ∧ Below w.heap.size w w' := by
  subst hx
  obtain ⟨vb, H⟩ := H
  exact c_Read H m hm hu i hi hN
theorem HX.lt (H : HX w B h g S) : g < w.heap.size ∧ h < w.heap.size := by
  obtain ⟨vb, H⟩ := H
  exact ⟨H.data.lt, H.head.lt⟩
end

theorem gaps1 (N m : Nat) (h : m ≤ N) (h0 : 0 < N) : placeI (gapsOf (newH N) (usedL (newH N))) m = (0 : Nat) := by
  rw [gaps_new, if_pos h0]
  unfold placeI
  split
  · rfl
  · simp [h]
def oneS (m : Nat) : HpS := allocS (newH 300) 0 m
theorem oneS_ws (m : Nat) (h : m ≤ 300) : (oneS m).ws = List.replicate 300 0 := by
  show splice (List.replicate 300 0) 0 (List.replicate m 0) = _
  unfold splice
  simp only [List.take_zero, List.nil_append, List.length_replicate, Nat.zero_add, List.drop_replicate, List.replicate_append_replicate]
  rw [show m + (300 - m) = 300 by omega]
theorem oneS_bl (m : Nat) : (oneS m).bl = [⟨0, m, true⟩] := rfl
theorem oneS_has (m : Nat) (k : Int) (hk : ¬ k = 0) (l : List Int) : hasB (wsS (oneS m) 0 l) k = false ∧ hasB (oneS m) k = false := by
  have h : ∀ S : HpS, S.bl = [⟨0, m, true⟩] → hasB S k = false := by
    intro S hS
    cases hb : hasB S k with
    | false => rfl
    | true =>
      obtain ⟨j, hj, rfl, _⟩ := hasB_yes hb
      rw [hS] at hj
      simp at hj
      subst hj
      exact absurd rfl hk
  exact ⟨h _ rfl, h _ rfl⟩

theorem law_HeapNone (n k ww : Int) (w : World) (w0 : (Lit.int .u8 n).wf = true) (w1 : (Lit.int .i64 k).wf = true) (w2 : (Lit.int .i64 ww).wf = true) : Calls Try.prog 11 #[.int .u8 n, .int .i64 k, .int .i64 ww] w fun e w' => e = .returned (.bool true) ∧ Below w.heap.size w w' := by
  obtain ⟨b0, b1⟩ := bounds_u8 w0
  obtain ⟨c0, c1⟩ := bounds_i64 w1
  obtain ⟨d0, d1⟩ := bounds_i64 w2
  clear w0 w1 w2
  obtain ⟨m, rfl⟩ := Int.eq_ofNat_of_zero_le b0
  have hm : 1 + m ≤ 256 := by omega
  go_enter Try.func11, Try.ntmps11
  go_wp2_with fail
  refine (x_New 300 _ (by decide)).mono ?_
  rintro e w1 ⟨h, g, rfl, h1, u1⟩
  have H1 := Lib.hid h1
  have U1 := Lib.hid u1
  clear h1 u1
  have HAL : Hid (Calls Try.prog 26 #[.pointer (some ⟨h, 0, none⟩), .int .i64 (1 + (m : Int))] w1 fun e w' => e = .returned (.tuple #[.int .i64 0, .int .i64 0]) ∧ HX w' w.heap.size h g (oneS (1 + m)) ∧ HUpd w.heap.size w1 w') := by
    have := x_HAlloc H1.out (good_new 300) (1 + m) 0 (by omega) (by decide) (gaps1 300 (1 + m) (by omega) (by decide)) 0 rfl
    rw [show ((1 + m : Nat) : Int) = 1 + (m : Int) by omega] at this
    exact this
  go_wp2_with fail
  refine HAL.out.mono ?_
  rintro e w2 ⟨rfl, h2, u2⟩
  have H2 := Lib.hid h2
  have U2 := Lib.hid (U1.out.trans u2)
  clear h2 u2 H1 U1 HAL
  by_cases hr : 0 ≤ ww ∧ ww ≤ 65535
  · obtain ⟨r0, r1⟩ := hr
    have HNO := Lib.hid (fun h => (oneS_has (1 + m) k h [ww]).1)
    have HWS := Lib.hid (show (wsS (oneS (1 + m)) 0 [ww]).ws.getD 0 0 = ww from rfl)
    go_wp2_with fail
    refine (x_Write (H2.out.below ((Below.refl _ _).alloc (Nat.le_refl _) _)) 0 (by exact Nat.zero_lt_one) rfl 0 rfl (by show 0 + (1 + m) ≤ 300; omega) 0 _ 1 1 [ww] rfl (by show 0 + 1 ≤ 1 + m; omega) (Reads.madeAt rfl) (fun x hx => by cases hx; have := H2.out.lt.1; simp; omega) (badH_iff.2 (fun x hx => by simp at hx; subst hx; exact ⟨r0, r1⟩))).mono ?_
    rintro e w3 ⟨rfl, h3, u3⟩
    have H3 := Lib.hid h3
    have U3 := Lib.hid (U2.out.trans ((HUpd.of_below ((Below.refl _ _).alloc (Nat.le_refl _) _)).trans u3))
    clear h3 u3 H2 U2
    have HRE : Hid (Calls Try.prog 35 #[.pointer (some ⟨h, 0, none⟩), .int .i64 0, .int .i64 0] w3 fun e w' => e = .returned (.tuple #[.int .i64 ww, .int .i64 0]) ∧ Below w3.heap.size w3 w') :=
      x_Read H3.out 0 (by exact Nat.zero_lt_one) rfl 0 (by show 0 < 1 + m; omega) (by show 0 + (1 + m) ≤ 300; omega) ww HWS.out
    go_wp2_with fail
    refine HRE.out.mono ?_
    rintro e w4 ⟨rfl, hb4⟩
    have H4 := Lib.hid (H3.out.below hb4)
    have U4 := Lib.hid (U3.out.trans (.of_below hb4))
    clear hb4 H3 U3 HRE HWS
    by_cases hk : k = 0
    · subst hk
      have HSZ : Hid (Calls Try.prog 33 #[.pointer (some ⟨h, 0, none⟩), .int .i64 0] w4 fun e w' => e = .returned (.int .i64 (1 + (m : Int))) ∧ w4 = w') := by
        have := x_Size H4.out 0 (by exact Nat.zero_lt_one) rfl (1 + m) rfl
        rw [show ((1 + m : Nat) : Int) = 1 + (m : Int) by omega] at this
        exact this
      go_wp2_with fail
      refine HSZ.out.mono ?_
      rintro e w' ⟨rfl, rfl⟩
      go_wp2_with fail
      refine (c_known07 _).mono ?_
      rintro e w9 ⟨rfl, hb9⟩
      have U9 := Lib.hid (U4.out.trans (.of_below hb9))
      clear hb9
      go_wp2
      go_ret
      exact ⟨rfl, U9.out.belowB (Nat.le_refl _)⟩
    · have hno := HNO.out hk
      obtain ⟨vb, hv⟩ := H4.out
      have HRD := Lib.hid (c_ReadNo hv k 0 hno)
      go_wp2_with fail
      refine HRD.out.mono ?_
      rintro e w' ⟨rfl, rfl⟩
      go_wp2_with fail
      refine (c_WriteNo1 (hv.below ((Below.refl _ _).alloc (Nat.le_refl _) _)) k 0 hno _ 1 1).mono ?_
      rintro e w' ⟨rfl, rfl⟩
      have hv2 := hv.below ((Below.refl _ _).alloc (Nat.le_refl _) (.cells #[.int .i64 1] 3))
      go_wp2_with fail
      refine (c_FreeNo hv2 k hno).mono ?_
      rintro e w' ⟨rfl, rfl⟩
      go_wp2_with fail
      refine (c_SizeNo hv2 k hno).mono ?_
      rintro e w' ⟨rfl, rfl⟩
      go_wp2_with fail
      refine (c_HBlocks hv2).mono ?_
      rintro e w8 ⟨v, rfl, ho, hb8⟩
      obtain ⟨va, vc, rfl, hr, -, -⟩ := owns_reads ho
      have HRD8 := Lib.hid hr
      have HB8 := Lib.hid hb8
      clear ho hb8 hr hv hv2 HRD
      go_wp2_with fail
      refine (c_SameInts _ _ _ 1 _ 1 _ [0] _ rfl rfl (HRD8.out.alloc _) (Reads.madeAt rfl) (by show (1 : Nat) ≤ 1000000000; decide) (by decide)).mono ?_
      rintro e w7 ⟨rfl, hb7⟩
      have U7 := Lib.hid (U4.out.trans ((HUpd.of_below (((Below.refl _ _).alloc (Nat.le_refl _) _).trans (HB8.out.mono (by simp)))).trans (.of_below (((Below.refl _ _).alloc (Nat.le_refl _) _).trans (hb7.mono (by simp))))))
      clear hb7
      rw [show decide (usedTo (wsS (oneS (1 + m)) (0 + 0) [ww]).bl (wsS (oneS (1 + m)) (0 + 0) [ww]).bl.length = [0]) = true from rfl]
      go_wp2_with fail
      refine (c_known07 _).mono ?_
      rintro e w9 ⟨rfl, hb9⟩
      have U9 := Lib.hid (U7.out.trans (.of_below hb9))
      clear hb9
      go_wp2
      go_ret
      exact ⟨rfl, U9.out.belowB (Nat.le_refl _)⟩
  · have HNO := Lib.hid (fun h => (oneS_has (1 + m) k h []).2)
    have HRF : Hid (¬ (0 ≤ ww ∧ ww ≤ 65535)) := hr
    have HWS := Lib.hid (show (oneS (1 + m)).ws.getD 0 0 = 0 by rw [oneS_ws _ (by omega)]; rfl)
    have hor : ww < 0 ∨ 65535 < ww := by omega
    clear hr
    go_wp2_with fail
    refine (x_WriteBad (H2.out.below ((Below.refl _ _).alloc (Nat.le_refl _) _)) 0 (by exact Nat.zero_lt_one) rfl (by show 1 + m ≤ 32768; omega) 0 _ 1 1 [ww] rfl (by show 0 + 1 ≤ 1 + m; omega) (Reads.madeAt rfl) (by
      cases hb : badH [ww] with
      | true => rfl
      | false => exact absurd (badH_iff.1 hb ww (by simp)) HRF.out)).mono ?_
    rintro e w' ⟨rfl, rfl⟩
    have HRE : Hid (Calls Try.prog 35 #[.pointer (some ⟨h, 0, none⟩), .int .i64 0, .int .i64 0] (w2.alloc (.cells #[.int .i64 ww] 3)) fun e w' => e = .returned (.tuple #[.int .i64 0, .int .i64 0]) ∧ Below (w2.alloc (.cells #[.int .i64 ww] 3)).heap.size (w2.alloc (.cells #[.int .i64 ww] 3)) w') :=
      x_Read (H2.out.below ((Below.refl _ _).alloc (Nat.le_refl _) _)) 0 (by exact Nat.zero_lt_one) rfl 0 (by show 0 < 1 + m; omega) (by show 0 + (1 + m) ≤ 300; omega) 0 HWS.out
    go_wp2_with fail
    refine HRE.out.mono ?_
    rintro e w4 ⟨rfl, hb4⟩
    have H4 := Lib.hid ((H2.out.below ((Below.refl _ _).alloc (Nat.le_refl _) _)).below hb4)
    have U4 := Lib.hid (U2.out.trans ((HUpd.of_below ((Below.refl _ _).alloc (Nat.le_refl _) _)).trans (.of_below hb4)))
    clear hb4 H2 U2 HRE HWS
    rcases hor with hor | hor
    all_goals
      by_cases hk : k = 0
      · subst hk
        have HSZ : Hid (Calls Try.prog 33 #[.pointer (some ⟨h, 0, none⟩), .int .i64 0] w4 fun e w' => e = .returned (.int .i64 (1 + (m : Int))) ∧ w4 = w') := by
          have := x_Size H4.out 0 (by exact Nat.zero_lt_one) rfl (1 + m) rfl
          rw [show ((1 + m : Nat) : Int) = 1 + (m : Int) by omega] at this
          exact this
        go_wp2_with fail
        refine HSZ.out.mono ?_
        rintro e w' ⟨rfl, rfl⟩
        go_wp2_with fail
        refine (c_known07 _).mono ?_
        rintro e w9 ⟨rfl, hb9⟩
        have U9 := Lib.hid (U4.out.trans (.of_below hb9))
        clear hb9
        go_wp2
        go_ret
        exact ⟨rfl, U9.out.belowB (Nat.le_refl _)⟩
      · have hno := HNO.out hk
        obtain ⟨vb, hv⟩ := H4.out
        have HRD := Lib.hid (c_ReadNo hv k 0 hno)
        go_wp2_with fail
        refine HRD.out.mono ?_
        rintro e w' ⟨rfl, rfl⟩
        go_wp2_with fail
        refine (c_WriteNo1 (hv.below ((Below.refl _ _).alloc (Nat.le_refl _) _)) k 0 hno _ 1 1).mono ?_
        rintro e w' ⟨rfl, rfl⟩
        have hv2 := hv.below ((Below.refl _ _).alloc (Nat.le_refl _) (.cells #[.int .i64 1] 3))
        go_wp2_with fail
        refine (c_FreeNo hv2 k hno).mono ?_
        rintro e w' ⟨rfl, rfl⟩
        go_wp2_with fail
        refine (c_SizeNo hv2 k hno).mono ?_
        rintro e w' ⟨rfl, rfl⟩
        go_wp2_with fail
        refine (c_HBlocks hv2).mono ?_
        rintro e w8 ⟨v, rfl, ho, hb8⟩
        obtain ⟨va, vc, rfl, hr, -, -⟩ := owns_reads ho
        have HRD8 := Lib.hid hr
        have HB8 := Lib.hid hb8
        clear ho hb8 hr hv hv2 HRD
        go_wp2_with fail
        refine (c_SameInts _ _ _ 1 _ 1 _ [0] _ rfl rfl (HRD8.out.alloc _) (Reads.madeAt rfl) (by show (1 : Nat) ≤ 1000000000; decide) (by decide)).mono ?_
        rintro e w7 ⟨rfl, hb7⟩
        have U7 := Lib.hid (U4.out.trans ((HUpd.of_below (((Below.refl _ _).alloc (Nat.le_refl _) _).trans (HB8.out.mono (by simp)))).trans (.of_below (((Below.refl _ _).alloc (Nat.le_refl _) _).trans (hb7.mono (by simp))))))
        clear hb7
        rw [show decide (usedTo (oneS (1 + m)).bl (oneS (1 + m)).bl.length = [0]) = true from rfl]
        go_wp2_with fail
        refine (c_known07 _).mono ?_
        rintro e w9 ⟨rfl, hb9⟩
        have U9 := Lib.hid (U7.out.trans (.of_below hb9))
        clear hb9
        go_wp2
        go_ret
        exact ⟨rfl, U9.out.belowB (Nat.le_refl _)⟩

end Go.Proofs.Ytcecegcbkcdpjaa
