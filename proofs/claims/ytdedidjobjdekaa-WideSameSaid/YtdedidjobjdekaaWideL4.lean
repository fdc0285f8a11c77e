/-
  The law WideWords.
-/
import Derived.Test.YtdedidjobjdekaaWideL3
namespace Go.Proofs.Ytdedidjobjdekaa
open Go.RowKit Go.ChangeShapes Go.WideShapes Go.ChangeAt
set_option linter.unusedVariables false
set_option maxHeartbeats 1000000

/-- Check, where there are too many words. -/
theorem c_CheckBig (o : ObjD) (w : World) (h : o.ok w) (hm : 1000 < o.wn) : Calls Try.prog 19 #[o.val] w fun e w' => e = .returned (.int .i64 2) ∧ Below w.heap.size w w' := by
  obtain ⟨cls, kind, wa, wn, wc, W, ba, bn, bc, B⟩ := o
  obtain ⟨hc, hk, wl, wm, wr, wi, bl, bm, br, bb⟩ := h
  dsimp only at *
  unfold ObjD.val
  dsimp only
  have HN := Lib.hid (c_Named cls (w.alloc (.cells #[.int .i64 cls, .int .i64 kind, .slice wa wn wc, .slice ba bn bc] 25)) hc.1 hc.2)
  clear wr wi br bb wl bl
  generalize namIs cls = nam at *
  generalize namV cls = nv at *
  have HB := Lib.hid (show Below w.heap.size w (w.alloc (.cells #[.int .i64 cls, .int .i64 kind, .slice wa wn wc, .slice ba bn bc] 25)) from (Below.refl _ _).alloc (Nat.le_refl _) _)
  have hw2 : ((wn : Int) ≤ 1000) = False := eq_false (by omega)
  have hw3 : ((wn : Int) == 0) = false := by simp; omega
  by_cases k1 : kind = 1
  · subst k1
    by_cases hb0 : bn = 0
    · subst hb0
      cases nam
      all_goals
        go_enter Try.func19, Try.ntmps19
        go_wp2_with (go_at_call 35; refine HN.out.mono ?_; rintro e w' ⟨rfl, rfl⟩)
        go_ret
        exact ⟨rfl, HB.out⟩
    · have hb2 : ((bn : Int) == 0) = false := by simp; omega
      cases nam
      all_goals
        go_enter Try.func19, Try.ntmps19
        go_wp2_with (go_at_call 35; refine HN.out.mono ?_; rintro e w' ⟨rfl, rfl⟩)
        go_ret
        exact ⟨rfl, HB.out⟩
  · by_cases k2 : kind = 2
    · subst k2
      cases nam
      all_goals
        go_enter Try.func19, Try.ntmps19
        go_wp2_with (go_at_call 35; refine HN.out.mono ?_; rintro e w' ⟨rfl, rfl⟩)
        go_ret
        exact ⟨rfl, HB.out⟩
    · have q1 : (kind == 1) = false := by simp [k1]
      have q2 : (kind == 2) = false := by simp [k2]
      cases nam
      all_goals
        go_enter Try.func19, Try.ntmps19
        go_wp2_with (go_at_call 35; refine HN.out.mono ?_; rintro e w' ⟨rfl, rfl⟩)
        go_ret
        exact ⟨rfl, HB.out⟩

theorem big_not {o : ObjD} {w : World} (h : o.ok w) (hm : 1000 < o.wn) : ¬ okObj o.cls o.kind o.W o.B := fun hk => by
  have := h.wl
  rcases hk.2 with ⟨_, _, h3, _⟩ | ⟨_, h3, _⟩
  · omega
  · rw [h3] at this; simp at this; omega

/-- Encode, of whatever object. -/
theorem c_EncodeAny (o : ObjD) (w : World) (h : o.ok w) : Calls Try.prog 13 #[o.val] w (EncPost o w) := by
  by_cases hm : o.wn ≤ 1000000
  · exact c_Encode o w h hm
  · have hok := big_not h (by omega)
    have he : chkE o = 2 := by unfold chkE; rw [if_neg hok]
    have hx : encO o = [] := by unfold encO; rw [if_neg hok]
    unfold EncPost
    rw [hx, he]
    have HB0 := Lib.hid (show Below w.heap.size w (w.alloc (.cells #[.int .i64 o.cls, .int .i64 o.kind, .slice o.wa o.wn o.wc, .slice o.ba o.bn o.bc] 25)) from (Below.refl _ _).alloc (Nat.le_refl _) _)
    have HC := Lib.hid (c_CheckBig o (w.alloc (.cells #[.int .i64 o.cls, .int .i64 o.kind, .slice o.wa o.wn o.wc, .slice o.ba o.bn o.bc] 25)) (h.below HB0.out) (by omega))
    obtain ⟨cls, kind, wa, wn, wc, W, ba, bn, bc, B⟩ := o
    clear h hok he hx hm
    unfold ObjD.val at *
    dsimp only at *
    go_enter Try.func13, Try.ntmps13
    go_wp2_with fail
    refine HC.out.mono ?_
    clear HC
    rintro e w1 ⟨rfl, bel⟩
    have HB1 := Lib.hid (bNext HB0.out bel)
    clear bel
    go_wp2
    go_ret2
    exact ⟨.slice none 0 0, rfl, World.ownsRow_nil _ _ _ _, HB1.out⟩

theorem law_WideWords (o : ObjD) (w : World) (h : o.ok w) : Calls Try.prog 7 #[o.val] w fun e w' => e = .returned (.bool true) ∧ Below w.heap.size w w' := by
  have hval : o.val = .agg #[.int .i64 o.cls, .int .i64 o.kind, .slice o.wa o.wn o.wc, .slice o.ba o.bn o.bc] := rfl
  have HB0 := Lib.hid (show Below w.heap.size w (w.alloc (.cells #[.int .i64 o.cls, .int .i64 o.kind, .slice o.wa o.wn o.wc, .slice o.ba o.bn o.bc] 25)) from (Below.refl _ _).alloc (Nat.le_refl _) _)
  have HROW := Lib.hid (Row.made w [.int .i64 o.cls, .int .i64 o.kind, .slice o.wa o.wn o.wc, .slice o.ba o.bn o.bc] 25)
  have HE := Lib.hid (c_EncodeAny o (w.alloc (.cells #[.int .i64 o.cls, .int .i64 o.kind, .slice o.wa o.wn o.wc, .slice o.ba o.bn o.bc] 25)) (h.below HB0.out))
  rw [hval] at HE ⊢
  have HH := Lib.hid h
  have HV := Lib.hid hval
  clear h hval
  go_enter Try.func7, Try.ntmps7
  go_wp2_with fail
  refine HE.out.mono ?_
  clear HE
  rintro e w1 ⟨v1, rfl, own1, b1⟩
  obtain ⟨a1, c1, rfl, hr1, hc1, hv1⟩ := owns_reads own1
  have HB1 := Lib.hid (bNext HB0.out b1)
  obtain ⟨p, hp⟩ : ∃ p, p = w.heap.size := ⟨_, rfl⟩
  have R1 : Row w1 p 25 [.int .i64 o.cls, .int .i64 o.kind, .slice o.wa o.wn o.wc, .slice o.ba o.bn o.bc] := by rw [hp]; exact (b1.block _ HROW.out.lt).trans HROW.out
  rw [← hp]
  have HR1 := Lib.hid R1
  have HRD := Lib.hid hr1
  have HC1 := Lib.hid hc1
  have i0 := R1.cell (i := 0) rfl
  have i1 := R1.cell (i := 1) rfl
  have i2 := R1.cell (i := 2) rfl
  clear own1 hr1 hc1 hv1 b1 R1 hp HROW
  by_cases hbad : o.wn > 60 ∨ chkE o ≠ 0 ∨ o.kind ≠ 1
  · have hE : chkE o = 0 ∨ chkE o = 2 := by unfold chkE; split <;> simp
    by_cases g1 : o.wn > 60
    · have q1 : ((o.wn : Int) > 60) = True := eq_true (by omega)
      have q2 : ((60 : Int) < o.wn) = True := eq_true (by omega)
      have q3 : (60 < o.wn) = True := eq_true (by omega)
      generalize chkE o = E at *
      generalize (encO o).length = n at *
      clear hbad hE g1
      go_wp2_with fail
      refine (c_Known _).mono ?_
      rintro e w2 ⟨rfl, b2⟩
      have HB2 := Lib.hid (bNext HB1.out b2)
      clear b2
      go_wp2
      go_ret
      exact ⟨rfl, HB2.out⟩
    · have q1 : ((o.wn : Int) > 60) = False := eq_false (by omega)
      have q2 : ((60 : Int) < o.wn) = False := eq_false (by omega)
      have q3 : (60 < o.wn) = False := eq_false (by omega)
      generalize (encO o).length = n at *
      rcases hE with hE | hE
      · have hk : o.kind ≠ 1 := by rcases hbad with h | h | h; exact absurd h g1; exact absurd hE h; exact h
        rw [hE]
        have q4 : (o.kind == 1) = false := by simpa using hk
        have q5 : (o.kind != 1) = true := by simpa using hk
        clear hbad hE g1 hk
        go_wp2_with fail
        refine (c_Known _).mono ?_
        rintro e w2 ⟨rfl, b2⟩
        have HB2 := Lib.hid (bNext HB1.out b2)
        clear b2
        go_wp2
        go_ret
        exact ⟨rfl, HB2.out⟩
      · rw [hE]
        clear hbad hE g1
        go_wp2_with fail
        refine (c_Known _).mono ?_
        rintro e w2 ⟨rfl, b2⟩
        have HB2 := Lib.hid (bNext HB1.out b2)
        clear b2
        go_wp2
        go_ret
        exact ⟨rfl, HB2.out⟩
  · have hE : chkE o = 0 := by omega
    have hk : o.kind = 1 := by omega
    have hw : o.wn ≤ 60 := by omega
    have hok : okObj o.cls o.kind o.W o.B := by
      unfold chkE at hE
      split at hE
      · assumption
      · cases hE
    have hx : encO o = encB o.cls o.kind o.W o.B := by unfold encO; rw [if_pos hok]
    have hB : o.B = [] := by
      rcases hok.2 with ⟨_, h, _⟩ | ⟨h, _⟩
      · exact h
      · omega
    have hde := dec_enc hok
    have hel := encB_len o.cls o.kind o.W o.B
    rw [hB] at hel
    rw [← HH.out.wl] at hel
    simp only [List.length_nil, Nat.add_zero] at hel
    rw [← hB, ← hx] at hel
    have hbyt : Byt (encO o) := encO_byt HH.out.bb
    have hio : isObj (encO o) := by rw [hx]; exact isObj_enc hok
    rw [← hx] at hde
    rw [hE, hel]
    rw [hel] at HC1
    obtain ⟨L, hL⟩ : ∃ L, L = encO o := ⟨_, rfl⟩
    rw [← hL] at hde hel hbyt hio HRD
    have hWE : ∀ i : Int, wordE L i = if i < 0 ∨ i ≥ (o.wn : Int) then 4 else 0 := fun i => by
      unfold wordE
      rw [if_neg (not_not_intro hio), if_neg (by rw [hde.2.1, hk]; simp), hde.2.2.1, ← HH.out.wl]
    have HWE := Lib.hid hWE
    have HWV := Lib.hid (fun i : Nat => show i < o.wn → wordV L (i : Int) = o.W.getD i 0 from fun hi => by
      have h0 := hWE (i : Int)
      rw [if_neg (by omega)] at h0
      unfold wordV
      rw [h0, if_pos rfl, hde.2.2.1]; rfl)
    have HWC := Lib.hid (fun (i : Int) w2 (b : Below w1.heap.size w1 w2) => c_WWord a1 (12 + 4 * o.wn) c1 L i w2 hel.symm (HRD.out.below b) hbyt HC1.out (by omega))
    have HKL := Lib.hid (And.intro hk hw)
    have HIW := Lib.hid (HH.out.wr.below HB1.out)
    have HLW := Lib.hid HH.out.wl
    have HS := Lib.hid (fun w => c_WSize o w)
    rw [HV.out, hk, if_pos rfl] at HS
    have q1 : ((o.wn : Int) > 60) = False := eq_false (by omega)
    have q2 : ((60 : Int) < o.wn) = False := eq_false (by omega)
    have q3 : (60 < o.wn) = False := eq_false (by omega)
    rw [hk] at i1 HR1 ⊢
    clear hbad hE hk hok hx hB hde hel hbyt hio hL hWE
    go_wp2
    clear q1 q2 q3 i0 i1 i2
    obtain ⟨wA, rfl⟩ : ∃ z, z = w1 := ⟨_, rfl⟩
    go_loopw [5] (fun i wr => ∃ k : Nat, k ≤ o.wn ∧ i = .int .i64 k ∧ Hid (Below wA.heap.size wA wr)) (fun i _ => o.wn - (intOf i).toNat)
    case atStart => exact ⟨0, Nat.zero_le _, rfl, Below.refl _ _⟩
    case round =>
      obtain ⟨k, hk, rfl, hb⟩ := hrel
      have j2 := cellKeep hb.out (HR1.out.cell (i := 2) rfl)
      by_cases hlt : k < o.wn
      · have HLT := Lib.hid hlt
        obtain ⟨b0, o0, hb0, _, hc0⟩ := (HIW.out.below hb.out).at (by simp; have := HLW.out; omega)
        have k0 := hc0 k _ (getD_map8 (by have := HLW.out; omega))
        have HW := Lib.hid (HWC.out (k : Int) wr hb.out)
        rw [HWE.out, if_neg (by omega), HWV.out k hlt] at HW
        generalize o.W.getD k 0 = x at *
        clear hc0
        rw [hb0] at j2
        clear hb0
        go_wp2_with fail
        refine HW.out.mono ?_
        clear HW
        rintro e w2 ⟨rfl, b2⟩
        have j2' := cellKeep b2 j2
        have k0' := cellKeep b2 k0
        have HB2 := Lib.hid (bNext hb.out b2)
        clear b2 j2 k0
        go_wp2
        go_roundw
        case rel => have := HLT.out; exact ⟨k + 1, by omega, by go_num, HB2.out⟩
        case measure => have := HLT.out; simp [intOf]; omega
      · obtain rfl : k = o.wn := by omega
        have HW := Lib.hid (HWC.out (o.wn : Int) wr hb.out)
        rw [HWE.out, if_pos (by omega)] at HW
        obtain ⟨wB, rfl⟩ : ∃ z, z = wr := ⟨_, rfl⟩
        go_wp2_with fail
        refine HW.out.mono ?_
        clear HW
        rintro e w2 ⟨rfl, b2⟩
        have HB2 := Lib.hid (bNext hb.out b2)
        have HW := Lib.hid (HWC.out (-1) w2 HB2.out)
        rw [HWE.out, if_pos (by omega)] at HW
        generalize wordV L (o.wn : Int) = y at *
        clear b2 j2 hb
        go_wp2_with fail
        refine HW.out.mono ?_
        clear HW
        rintro e w3 ⟨rfl, b3⟩
        have HB3 := Lib.hid (bNext HB2.out b3)
        have HR3 : Hid (Row w3 p 25 [.int .i64 o.cls, .int .i64 1, .slice o.wa o.wn o.wc, .slice o.ba o.bn o.bc]) := (HB3.out.block _ HR1.out.lt).trans HR1.out
        generalize wordV L (-1) = y' at *
        clear b3 HB2
        have hwl := HKL.out.2
        go_wp2
        refine wp_region_planH (fun z => Row z p 25 [.int .i64 o.cls, .int .i64 1, .slice o.wa o.wn o.wc, .slice o.ba o.bn o.bc]) [(0, true), (1, true), (2, true), (3, true), (4, true), (5, true), (6, true), (7, true), (8, true), (9, true), (10, true), (11, true), (12, true), (13, true), (14, true), (15, true), (16, true), (17, true), (19, true), (20, true), (21, true), (18, false), (22, true), (23, true), (24, true), (25, false), (26, true), (27, true)] (by kernel_rfl) (by kernel_rfl) (fun _ _ _ _ _ h => h) HR3.out ?_
        have HB4 : Hid (Below wA.heap.size wA w3.drew) := bDrew HB3.out
        have HR4 : Hid (Row w3.drew p 25 [.int .i64 o.cls, .int .i64 1, .slice o.wa o.wn o.wc, .slice o.ba o.bn o.bc]) := HR3.out
        generalize w3.drew = w4 at *
        (repeat (refine wpPlanH_free rfl (fun K hK => ?_); go_simp; (try go_bits); refine hK _ ?_; clear hK K))
        refine wpPlanH_load (.slice o.wa o.wn o.wc) rfl rfl (fun z hS => by have s2 := hS.cell (i := 2) rfl; go_simp) (fun K hK => ?_)
        refine hK _ ?_
        clear hK K
        (repeat (refine wpPlanH_free rfl (fun K hK => ?_); go_simp; (try go_bits); refine hK _ ?_; clear hK K))
        refine wpPlanH_load (.agg #[.int .i64 o.cls, .int .i64 1, .slice o.wa o.wn o.wc, .slice o.ba o.bn o.bc]) rfl rfl (fun z hS => by have s0 := hS.cell (i := 0) rfl; have s1 := hS.cell (i := 1) rfl; have s2 := hS.cell (i := 2) rfl; have s3 := hS.cell (i := 3) rfl; go_simp) (fun K hK => ?_)
        refine hK _ ?_
        clear hK K
        (repeat (refine wpPlanH_free rfl (fun K hK => ?_); go_simp; (try go_bits); refine hK _ ?_; clear hK K))
        refine wpPlanH_load (.slice o.wa o.wn o.wc) rfl rfl (fun z hS => by have s2 := hS.cell (i := 2) rfl; go_simp) (fun K hK => ?_)
        refine hK _ ?_
        clear hK K
        (repeat (refine wpPlanH_free rfl (fun K hK => ?_); go_simp; (try go_bits); refine hK _ ?_; clear hK K))
        refine wpPlanH_sole rfl ?_
        go_wp2_with fail
        refine (HS.out w4).mono ?_
        rintro e w5 ⟨rfl, b5⟩
        have HB5 := Lib.hid (bNext HB4.out b5)
        have HR5 : Hid (Row w5 p 25 [.int .i64 o.cls, .int .i64 1, .slice o.wa o.wn o.wc, .slice o.ba o.bn o.bc]) := (b5.block _ HR4.out.lt).trans HR4.out
        clear b5 HR4 HB4
        go_wp2
        refine ⟨HR5.out, ?_⟩
        (repeat (refine wpPlanH_free rfl (fun K hK => ?_); go_simp; (try go_bits); refine hK _ ?_; clear hK K))
        refine wpPlanH_sole rfl ?_
        go_wp2_with fail
        refine (c_Known w5).mono ?_
        rintro e w6 ⟨rfl, b6⟩
        have HB6 := Lib.hid (bNext HB5.out b6)
        have HR6 : Hid (Row w6 p 25 [.int .i64 o.cls, .int .i64 1, .slice o.wa o.wn o.wc, .slice o.ba o.bn o.bc]) := (b6.block _ HR5.out.lt).trans HR5.out
        clear b6 HR5 HB5
        go_wp2
        refine ⟨HR6.out, ?_⟩
        (repeat (refine wpPlanH_free rfl (fun K hK => ?_); go_simp; (try go_bits); refine hK _ ?_; clear hK K))
        refine wpPlanH_nil ?_
        go_wp2
        go_ret
        exact ⟨rfl, bNext HB1.out HB6.out⟩

end Go.Proofs.Ytdedidjobjdekaa
