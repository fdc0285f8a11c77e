/-
  The walk of the law WordBack.
-/
import Derived.Test.YtiidbfopbkbhpaaWordLaws2
namespace Go.Proofs.Ytiidbfopbkbhpaa
open Go.RowKit Go.ChangeShapes Go.ChangeAt
set_option linter.unusedVariables false

theorem getD_app {l m : List Int} {i k : Nat} (h : k = l.length + i) : (l ++ m).getD k 0 = m.getD i 0 := by
  subst h
  rw [List.getD_eq_getElem?_getD, List.getD_eq_getElem?_getD, List.getElem?_append_right (by omega), Nat.add_sub_cancel_left]

theorem getV_snoc (l : List Int) (o : Int) : getV (l ++ put4 o) l.length = wrap32 o := by
  unfold getV
  rw [if_pos (by simp [put4]), Int.toNat_natCast, getD_app (i := 0) (k := l.length) rfl, getD_app (i := 1) (k := l.length + 1) rfl, getD_app (i := 2) (k := l.length + 2) rfl, getD_app (i := 3) (k := l.length + 3) rfl]
  show be4 (o / 16777216 % 256) (o / 65536 % 256) (o / 256 % 256) (o % 256) = wrap32 o
  unfold be4 wrap32
  omega

theorem getE_snoc (l : List Int) (o : Int) : getE (l ++ put4 o).length l.length = 0 := by
  unfold getE
  rw [if_pos (by simp [put4])]

set_option maxHeartbeats 1000000 in
theorem back_yes (n : Int) (a : Option Addr) (c : Nat) (l : List Int) (w : World) (hl : l.length ≤ 4000) (hc : l.length ≤ c) (hr : Reads w a c (l.map (Value.int .u8))) (hb : Byt l)
    (h1 : -1073741824 ≤ n) (h2 : n ≤ 1073741823) : Calls Try.prog 11 #[.int .i64 n, .slice a l.length c] w fun e w' => e = .returned (.bool true) ∧ Below w.heap.size w w' := by
  have hS := fun w => c_Small n w
  simp only [smallV_yes (show -1073741824 ≤ n ∧ n ≤ 1073741823 from ⟨h1, h2⟩), smallE_yes (show -1073741824 ≤ n ∧ n ≤ 1073741823 from ⟨h1, h2⟩)] at hS
  have hN := fun w => c_Number (2 * n + 1) w (by omega) (by omega)
  simp only [numV_yes (show (2 * n + 1) % 2 = 1 ∧ -2147483647 ≤ 2 * n + 1 ∧ 2 * n + 1 ≤ 2147483647 from by omega), numIs_yes (show (2 * n + 1) % 2 = 1 ∧ -2147483647 ≤ 2 * n + 1 ∧ 2 * n + 1 ≤ 2147483647 from by omega), show (2 * n + 1) / 2 = n from by omega] at hN
  have hD := fun w => c_Named (2 * n + 1) w (by omega) (by omega)
  simp only [namV_no (show ¬ ((2 * n + 1) % 2 = 0 ∧ 2 ≤ 2 * n + 1 ∧ 2 * n + 1 ≤ 2147483646) from by omega), namIs_no (show ¬ ((2 * n + 1) % 2 = 0 ∧ 2 ≤ 2 * n + 1 ∧ 2 * n + 1 ≤ 2147483646) from by omega)] at hD
  have hP := fun w => c_Put (2 * n + 1) w (by omega) (by omega)
  have hG := fun (av : Option Addr) (k cv : Nat) (w : World) (e0 : k = (l ++ put4 (2 * n + 1)).length) (hkc : k ≤ cv) (hm : k ≤ 4611686018427387904) (hr : Reads w av cv ((l ++ put4 (2 * n + 1)).map (Value.int .u8))) =>
    c_Get av k cv (l ++ put4 (2 * n + 1)) l.length w e0 hkc hm hr (hb.append (put4_byt _)) (by omega) (by omega)
  simp only [getV_snoc, getE_snoc, IntWalk.wrap32_in (2 * n + 1) (by omega)] at hG
  have HS := Lib.hid hS
  have HN := Lib.hid hN
  have HD := Lib.hid hD
  have HP := Lib.hid hP
  have HG := Lib.hid hG
  clear hS hN hD hP hG
  by_cases h3 : -16384 ≤ n ∧ n < 16384
  · have hW := fun w => c_Narrow (2 * n + 1) w (by omega) (by omega)
    simp only [narV_yes (show (2 * n + 1) % 2 = 1 ∧ -32767 ≤ 2 * n + 1 ∧ 2 * n + 1 ≤ 32767 from by omega), narIs_yes (show (2 * n + 1) % 2 = 1 ∧ -32767 ≤ 2 * n + 1 ∧ 2 * n + 1 ≤ 32767 from by omega)] at hW
    obtain ⟨x, hx⟩ : ∃ x, x = (2 * n + 1) / 2 * 2 % 65536 + 1 := ⟨_, rfl⟩
    rw [← hx] at hW
    have hI := fun w => c_Wide x w
    have hv : widV x = 2 * n + 1 := by rw [widV_yes (by omega)]; unfold wid16; split <;> omega
    have hi : widIs x = true := widIs_yes (by omega)
    simp only [hv, hi] at hI
    have g0 : 0 ≤ x := by omega
    have g1 : x ≤ 65535 := by omega
    obtain ⟨h3, h4⟩ := h3
    have HW := Lib.hid hW
    have HI := Lib.hid hI
    clear hW hI hx hv hi hb
    go_enter Try.func11, Try.ntmps11
    go_wp2_with (first
      | (go_at_call 14; refine (HS.out _).mono ?_; rintro e w' ⟨rfl, rfl⟩)
      | (go_at_call 17; refine (HN.out _).mono ?_; rintro e w' ⟨rfl, rfl⟩)
      | (go_at_call 19; refine (HD.out _).mono ?_; rintro e w' ⟨rfl, rfl⟩)
      | (at_builtin; refine wpList_app rfl (.tmp 41) (.tmp 42) 35 rfl w.heap.size 5 (.int .u8 0) 1 1 Try.underlying35 inf_u8 rfl (by decide) _ 0 [] rfl (World.ownsRow_nil _ _ _ _) a l.length c _ rfl (by simp) hr (ints_one _ _) (by unfold maxLen; omega) (by omega) (Nat.le_refl _) ?_))
    intro v1 w1 own1 gr1
    have bel1 : Below w.heap.size w w1 := (Below.refl _ _).grown gr1 (Nat.le_refl _) (fun k hk => by cases hk)
    have s1 := bel1.size
    clear gr1
    go_wp2_with (first
      | (go_at_call 28; refine (HP.out _).mono ?_; rintro e w' ⟨rfl, rfl⟩)
      | (at_builtin; refine wpList_app rfl (.tmp 44) (.tmp 46) 35 rfl w.heap.size 5 (.int .u8 0) 1 1 Try.underlying35 inf_u8 rfl (by decide) _ _ _ rfl (own1.alloc _) _ 4 4 _ rfl rfl (put_reads _ (2 * n + 1) 4 _) (ints_one _ _) (by unfold maxLen; omega) (by omega) (by simp; omega) ?_))
    intro v2 w2 own2 gr2
    have lt1 := own1.lt
    have bel2 : Below w.heap.size w w2 := (bel1.alloc s1 _).grown gr2 (by simp; omega) (fun k hk => (lt1 k hk).1)
    rw [← List.map_append] at own2
    obtain ⟨av, cv, rfl, rd, hcv, _⟩ := owns_reads own2
    have RD := Lib.hid rd
    clear gr2 lt1 own1 own2 rd
    go_wp2_with (first
      | (go_at_call 27; refine (HG.out _ _ _ _ (by simp [put4]) hcv (by omega) RD.out).mono ?_; rintro e w' ⟨rfl, rfl⟩)
      | (go_at_call 23; refine (HW.out _).mono ?_; rintro e w' ⟨rfl, rfl⟩)
      | (go_at_call 25; refine (HI.out _).mono ?_; rintro e w' ⟨rfl, rfl⟩)
      | (go_at_call 16; refine (c_known _).mono ?_; rintro e w' ⟨rfl, hbel⟩))
    go_ret
    exact ⟨rfl, bNext bel2 hbel⟩
  · have hW := fun w => c_Narrow (2 * n + 1) w (by omega) (by omega)
    simp only [narV_no (show ¬ ((2 * n + 1) % 2 = 1 ∧ -32767 ≤ 2 * n + 1 ∧ 2 * n + 1 ≤ 32767) from by omega), narIs_no (show ¬ ((2 * n + 1) % 2 = 1 ∧ -32767 ≤ 2 * n + 1 ∧ 2 * n + 1 ≤ 32767) from by omega)] at hW
    have hI := fun w => c_Wide 0 w
    simp only [show widV 0 = 0 from by decide, show widIs 0 = false from by decide] at hI
    have HW := Lib.hid hW
    have HI := Lib.hid hI
    clear hW hI hb
    by_cases h4 : -16384 ≤ n
    all_goals
      (try have h5 : decide (n < 16384) = false := by rw [decide_eq_false_iff_not]; omega)
      go_enter Try.func11, Try.ntmps11
      go_wp2_with (first
        | (go_at_call 14; refine (HS.out _).mono ?_; rintro e w' ⟨rfl, rfl⟩)
        | (go_at_call 17; refine (HN.out _).mono ?_; rintro e w' ⟨rfl, rfl⟩)
        | (go_at_call 19; refine (HD.out _).mono ?_; rintro e w' ⟨rfl, rfl⟩)
        | (at_builtin; refine wpList_app rfl (.tmp 41) (.tmp 42) 35 rfl w.heap.size 5 (.int .u8 0) 1 1 Try.underlying35 inf_u8 rfl (by decide) _ 0 [] rfl (World.ownsRow_nil _ _ _ _) a l.length c _ rfl (by simp) hr (ints_one _ _) (by unfold maxLen; omega) (by omega) (Nat.le_refl _) ?_))
      intro v1 w1 own1 gr1
      have bel1 : Below w.heap.size w w1 := (Below.refl _ _).grown gr1 (Nat.le_refl _) (fun k hk => by cases hk)
      have s1 := bel1.size
      clear gr1
      go_wp2_with (first
        | (go_at_call 28; refine (HP.out _).mono ?_; rintro e w' ⟨rfl, rfl⟩)
        | (at_builtin; refine wpList_app rfl (.tmp 44) (.tmp 46) 35 rfl w.heap.size 5 (.int .u8 0) 1 1 Try.underlying35 inf_u8 rfl (by decide) _ _ _ rfl (own1.alloc _) _ 4 4 _ rfl rfl (put_reads _ (2 * n + 1) 4 _) (ints_one _ _) (by unfold maxLen; omega) (by omega) (by simp; omega) ?_))
      intro v2 w2 own2 gr2
      have lt1 := own1.lt
      have bel2 : Below w.heap.size w w2 := (bel1.alloc s1 _).grown gr2 (by simp; omega) (fun k hk => (lt1 k hk).1)
      rw [← List.map_append] at own2
      obtain ⟨av, cv, rfl, rd, hcv, _⟩ := owns_reads own2
      have RD := Lib.hid rd
      clear gr2 lt1 own1 own2 rd
      go_wp2_with (first
        | (go_at_call 27; refine (HG.out _ _ _ _ (by simp [put4]) hcv (by omega) RD.out).mono ?_; rintro e w' ⟨rfl, rfl⟩)
        | (go_at_call 23; refine (HW.out _).mono ?_; rintro e w' ⟨rfl, rfl⟩)
        | (go_at_call 25; refine (HI.out _).mono ?_; rintro e w' ⟨rfl, rfl⟩)
        | (go_at_call 16; refine (c_known _).mono ?_; rintro e w' ⟨rfl, hbel⟩))
      go_ret
      exact ⟨rfl, bNext bel2 hbel⟩

theorem law_WordBack (n : Int) (a : Option Addr) (len cap : Nat) (z : List Int) (w : World) (w0 : (Lit.int .i64 n).wf = true) (w1 : Came .u8 w a len cap z) :
    Calls Try.prog 11 #[.int .i64 n, .slice a len cap] w fun e w' => e = .returned (.bool true) ∧ Below w.heap.size w w' := by
  obtain ⟨b0, b1⟩ := bounds_i64 w0
  obtain ⟨l, rfl, hc, hm, hr, hw⟩ := w1.reads
  have hb : Byt l := fun x hx => bounds_u8 (hw x hx)
  clear w0 w1 hw
  by_cases h1 : n < -1073741824 ∨ n > 1073741823
  · have hS := fun w => c_Small n w
    simp only [smallV_no h1, smallE_no h1] at hS
    have HS := Lib.hid hS
    clear hS h1 hr hb
    go_enter Try.func11, Try.ntmps11
    go_wp2_with (first
      | (go_at_call 14; refine (HS.out _).mono ?_; rintro e w' ⟨rfl, rfl⟩)
      | (go_at_call 16; refine (c_known _).mono ?_; rintro e w' ⟨rfl, hbel⟩))
    go_ret
    exact ⟨rfl, hbel⟩
  · by_cases h2 : 4000 < l.length
    · have hS := fun w => c_Small n w
      simp only [smallV_yes (show -1073741824 ≤ n ∧ n ≤ 1073741823 from by omega), smallE_yes (show -1073741824 ≤ n ∧ n ≤ 1073741823 from by omega)] at hS
      have HS := Lib.hid hS
      clear hS h1 hr hb
      go_enter Try.func11, Try.ntmps11
      go_wp2_with (first
        | (go_at_call 14; refine (HS.out _).mono ?_; rintro e w' ⟨rfl, rfl⟩)
        | (go_at_call 16; refine (c_known _).mono ?_; rintro e w' ⟨rfl, hbel⟩))
      go_ret
      exact ⟨rfl, hbel⟩
    · exact back_yes n a cap l w (by omega) hc hr hb (by omega) (by omega)

end Go.Proofs.Ytiidbfopbkbhpaa
