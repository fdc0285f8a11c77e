/-
  The walk of the law DiskTwice.
-/
import Derived.Test.YtbmenldopeplcaaDiskLaws
namespace Go.Proofs.Ytbmenldopeplcaa
open Go.RowKit Go.ChangeShapes Go.ChangeAt
set_option linter.unusedVariables false

set_option maxHeartbeats 1000000

theorem filled_take {b : List Int} : (filled b).take b.length = b := by simp [filled]

/-- Whatever the call owns is written over; what it has besides stays. -/
theorem c_SpoilOwn (base n : Nat) (v : Value) (l : List Int) (w : World) (h : w.ownsRow base 5 1 v n (l.map (Value.int .u8))) (hn : n ≤ 1000000) :
    Calls Try.prog 17 #[v] w fun e w' => e = .returned (.tuple #[]) ∧ ∃ g, base ≤ g ∧ Upd [g] w w' := by
  rcases h.2 with ⟨rfl, rfl⟩ | ⟨g, cap, cur, rfl, hb, hg, hc⟩
  · exact (c_SpoilNil w).mono fun e w' ⟨h1, h2⟩ => ⟨h1, base, Nat.le_refl _, h2 ▸ Upd.refl _ _⟩
  · exact (c_Spoil base g n cap l w h hn).mono fun e w' ⟨h1, h2⟩ => ⟨h1, g, hb, h2⟩

theorem law_DiskTwice (a0 : Option Addr) (len0 cap0 : Nat) (z0 : List Int) (a1 : Option Addr) (len1 cap1 : Nat) (z1 : List Int) (w : World) (w0 : Came .u8 w a0 len0 cap0 z0) (w1 : Came .u8 w a1 len1 cap1 z1) :
    Calls Try.prog 3 #[.slice a0 len0 cap0, .slice a1 len1 cap1] w fun e w' => e = .returned (.bool true) ∧ Below w.heap.size w w' := by
  obtain ⟨l, el, hc0, hm0, hr0, hw0⟩ := w0.reads
  obtain ⟨m, em, hc1, hm1, hr1, hw1⟩ := w1.reads
  have hl : Byt l := fun x hx => bounds_u8 (hw0 x hx)
  have hm : Byt m := fun x hx => bounds_u8 (hw1 x hx)
  clear w0 w1 hw0 hw1
  unfold maxLen at hm0 hm1
  have EL := Lib.hid el
  have EM := Lib.hid em
  clear el em
  by_cases h0 : 64 < len0 ∨ 64 < len1
  · clear hr0 hr1 hl hm
    by_cases h1 : 64 < len0
    all_goals
      (try have h2 : 64 < len1 := by omega)
      clear h0
      go_enter Try.func3, Try.ntmps3
      go_wp2_with (go_at_call 13; refine (c_known03 _).mono ?_; rintro e w' ⟨rfl, hbel⟩)
      go_ret
      exact ⟨rfl, hbel⟩
  · have h1 : len0 ≤ 64 := by omega
    have h2 : len1 ≤ 64 := by omega
    clear h0
    have HR0 := Lib.hid hr0
    have HR1 := Lib.hid hr1
    have HL := Lib.hid hl
    have HM := Lib.hid hm
    clear hr0 hr1 hl hm
    go_enter Try.func3, Try.ntmps3
    go_wp2_with fail
    refine (c_NewYes 1 _ (by omega)).mono ?_
    rintro e w1 ⟨d, g, rfl, hd, hg, D1, U1⟩
    have HD1 := Lib.hid D1
    have HU1 := Lib.hid (U1.mono (m := [d, g]) (by simp))
    have hin : ∀ k ∈ [d, g], w.heap.size ≤ k := fun k hk => by simp at hk; rcases hk with rfl | rfl <;> assumption
    have HIN := Lib.hid hin
    clear D1 U1 hin
    go_wp2_with fail
    refine (c_Write d g 1 0 0 _ _ HD1.out (by omega) 0 (by omega) a0 _ cap0 l EL.out HL.out (HR0.out.below (HU1.out.below (Nat.le_refl _) HIN.out)) h1).mono ?_
    rintro e w2 ⟨rfl, D2, U2⟩
    have HD2 := Lib.hid D2
    have HU2 := Lib.hid (HU1.out.trans U2)
    clear D2 U2
    go_wp2_with fail
    refine (c_Copy a1 len1 cap1 m _ EM.out (HR1.out.below (HU2.out.below (Nat.le_refl _) HIN.out)) (by omega)).mono ?_
    rintro e w3 ⟨v, rfl, own3, bel3⟩
    rw [← EM.out] at own3
    obtain ⟨av, cv, rfl, rd3, hcv, _⟩ := owns_reads own3
    have HO3 := Lib.hid own3
    have HR3 := Lib.hid rd3
    have HD3 := Lib.hid (HD2.out.keep (l := []) (.of_below bel3) (by simp) (by simp))
    have HU3 := Lib.hid (HU2.out.trans (.of_below bel3))
    have hd2 : d < w2.heap.size := HD2.out.head.lt
    have hg2 : g < w2.heap.size := HD2.out.data.lt
    have hs23 := bel3.size
    clear own3 rd3 bel3
    go_wp2_with fail
    refine (c_Write d g 1 0 1 _ _ HD3.out (by omega) 0 (by omega) av len1 cv m EM.out HM.out HR3.out h2).mono ?_
    rintro e w4 ⟨rfl, D4, U4⟩
    have HD4 := Lib.hid D4
    have HU4 := Lib.hid (HU3.out.trans U4)
    have HO4 := Lib.hid (U4.ownsAbove HO3.out (fun k hk => by simp at hk; rcases hk with rfl | rfl <;> omega))
    have hs34 := U4.size
    clear D4 U4
    go_wp2_with fail
    refine (c_SpoilOwn _ _ _ _ _ HO4.out (by omega)).mono ?_
    rintro e w5 ⟨rfl, gs, hgs, U5⟩
    have hgsd : d ∉ [gs] := by simp; omega
    have hgsg : g ∉ [gs] := by simp; omega
    have HD5 := Lib.hid (HD4.out.keep U5 hgsd hgsg)
    have HU5 := Lib.hid ((HU4.out.mono (m := [gs, d, g]) (fun k hk => by simp at hk ⊢; exact .inr hk)).trans (U5.mono (by simp)))
    clear U5 hgsd hgsg
    go_wp2_with fail
    refine (c_Read d g 1 0 2 _ _ HD5.out (by omega) 0 (by omega)).mono ?_
    rintro e w6 ⟨v6, rfl, own6, D6, U6⟩
    have HS6 := Lib.hid (sector_splice (bs := splice (List.replicate (64 * 1) 0) (64 * 0) (filled l)) (n := 1) (i := 0) (by rw [length_splice _ _ _ (by rw [filled_len (by rw [← EL.out]; exact h1)]; simp)]; simp) (by omega) (filled_len (b := m) (by rw [← EM.out]; exact h2)))
    rw [HS6.out] at own6
    obtain ⟨g6, c6, rfl, hg6, hl6, hc6, hcell6⟩ := owns_at own6 (by omega)
    have HR6 := Lib.hid (show Reads w6 (some ⟨g6, 0, none⟩) c6 ((filled m).map (Value.int .u8)) from .inr ⟨_, rfl, fun i u hu => by rw [add_flat, Nat.zero_add]; exact hcell6 i u hu⟩)
    have HD6 := Lib.hid D6
    have HU6 := Lib.hid (HU5.out.trans (U6.mono (m := [gs, d, g]) (by simp)))
    have hs56 := U6.size
    have hd5 : d < w5.heap.size := HD5.out.head.lt
    clear D6 U6 hcell6 own6
    go_wp2_with fail
    refine (c_Read d g 1 1 2 _ _ HD6.out (by omega) 0 (by omega)).mono ?_
    rintro e w7 ⟨v7, rfl, own7, D7, U7⟩
    rw [HS6.out] at own7
    obtain ⟨g7, c7, rfl, hg7, hl7, hc7, hcell7⟩ := owns_at own7 (by omega)
    have HR7 := Lib.hid (show Reads w7 (some ⟨g7, 0, none⟩) c7 ((filled m).map (Value.int .u8)) from .inr ⟨_, rfl, fun i u hu => by rw [add_flat, Nat.zero_add]; exact hcell7 i u hu⟩)
    have HR6b := Lib.hid (U7.reads HR6.out (fun x hx => by cases hx; simp; omega))
    have HU7 := Lib.hid (HU6.out.trans (U7.mono (m := [gs, d, g]) (by simp)))
    clear D7 U7 hcell7 own7
    have hfl := filled_len (b := m) (by rw [← EM.out]; exact h2)
    have HRT := Lib.hid (show Reads w7 (some ⟨g6, 0, none⟩) c6 (m.map (Value.int .u8)) from by
      rcases HR6b.out with ⟨h, _⟩ | ⟨x, hx, h⟩
      · cases h
      · refine .inr ⟨x, hx, fun i u hu => h i u ?_⟩
        have hi : i < (m.map (Value.int .u8)).length := by
          rcases Nat.lt_or_ge i (m.map (Value.int .u8)).length with h | h
          · exact h
          · rw [List.getElem?_eq_none h] at hu; cases hu
        rw [filled, List.map_append, List.getElem?_append_left hi]
        exact hu)
    have hB : Below w.heap.size w w7 := HU7.out.below (Nat.le_refl _) (fun k hk => by
      simp at hk
      have h1 := HU1.out.size
      have h2 := HU2.out.size
      rcases hk with rfl | rfl | rfl
      · omega
      · exact hd
      · exact hg)
    have HRB := Lib.hid (HR1.out.below hB)
    have HBB := Lib.hid hB
    have HFB := Lib.hid (filled_byt HM.out)
    have hlc : len1 ≤ c6 := by omega
    have hlc2 : (len1 : Int) ≤ (c6 : Int) := by omega
    clear hB
    go_wp2_with (first
      | (go_at_call 19; (with_reducible refine (c_Same (some ⟨g6, 0, none⟩) (some ⟨g7, 0, none⟩) _ _ _ _ (filled m) (filled m) _ hfl.symm hfl.symm HR6b.out HR7.out HFB.out HFB.out).mono ?_); rintro e w' ⟨rfl, rfl⟩)
      | (go_at_call 19; (with_reducible refine (c_Same (some ⟨g6, 0, none⟩) a1 _ _ _ _ m m _ EM.out EM.out HRT.out HRB.out HM.out HM.out).mono ?_); rintro e w' ⟨rfl, rfl⟩)
      | (go_at_call 13; refine (c_known03 _).mono ?_; rintro e w' ⟨rfl, hbel⟩))
    go_ret
    exact ⟨rfl, bNext HBB.out hbel⟩

end Go.Proofs.Ytbmenldopeplcaa
