/-
  Contracts of the document's package websterref05: Same; of the laws: long, known.
-/
import Derived.Test.YtdedidjobjdekaaWideR2
namespace Go.Proofs.Ytdedidjobjdekaa
open Go.RowKit
set_option linter.unusedVariables false
set_option maxHeartbeats 400000

theorem r_WSame (a b : ObjD) (w : World) (ha : a.ok w) (hb : b.ok w) (m1 : a.wn ≤ 1000000000) (m2 : b.wn ≤ 1000000000) :
    Calls Try.prog 15 #[a.val, b.val] w fun e w' => e = .returned (.bool (decide (a.cls = b.cls ∧ a.kind = b.kind ∧ a.W = b.W ∧ a.B = b.B))) ∧ Below w.heap.size w w' := by
  obtain ⟨cls, kind, wa, wn, wc, W, ba, bn, bc, B⟩ := a
  obtain ⟨cls', kind', wa', wn', wc', W', ba', bn', bc', B'⟩ := b
  unfold ObjD.val
  dsimp only at m1 m2 ⊢
  obtain ⟨w2, hw2⟩ : ∃ z, z = ((w.alloc (.cells #[.int .i64 cls, .int .i64 kind, .slice wa wn wc, .slice ba bn bc] 25)).alloc (.cells #[.int .i64 cls', .int .i64 kind', .slice wa' wn' wc', .slice ba' bn' bc'] 25)) := ⟨_, rfl⟩
  have hbel : Below w.heap.size w w2 := by rw [hw2]; exact bAlloc ((Below.refl _ w).alloc (Nat.le_refl _) _)
  have ha2 := ha.below hbel
  have hb2 := hb.below hbel
  have HI := Lib.hid (c_SameInts wa wa' wn wn' wc wc' W W' w2 ha2.wl hb2.wl ha2.wr hb2.wr m1 m2)
  have HB := Lib.hid (fun wx (bx : Below w2.heap.size w2 wx) => c_Same ba ba' bn bn' bc bc' B B' wx ha2.bl hb2.bl (ha2.br.below bx) (hb2.br.below bx) ha2.bb hb2.bb)
  have HBEL := Lib.hid hbel
  have r0 : Row w2 w.heap.size 25 [.int .i64 cls, .int .i64 kind, .slice wa wn wc, .slice ba bn bc] := by
    rw [hw2]
    exact (Row.made w [.int .i64 cls, .int .i64 kind, .slice wa wn wc, .slice ba bn bc] 25).alloc _
  have r1 : Row w2 (w.heap.size + 1) 25 [.int .i64 cls', .int .i64 kind', .slice wa' wn' wc', .slice ba' bn' bc'] := by
    rw [hw2]
    have := Row.made (w.alloc (.cells #[.int .i64 cls, .int .i64 kind, .slice wa wn wc, .slice ba bn bc] 25)) [.int .i64 cls', .int .i64 kind', .slice wa' wn' wc', .slice ba' bn' bc'] 25
    simpa using this
  have HR0 := Lib.hid r0
  have HR1 := Lib.hid r1
  clear r0 r1
  rw [hw2] at HI
  have HW2 := Lib.hid hw2
  clear hbel ha2 hb2 ha hb m1 m2 hw2
  have hd : ∀ p : Prop, ∀ (i : Decidable p), p → decide p = true := fun p i h => decide_eq_true h
  by_cases h1 : cls = cls'
  · subst h1
    by_cases h2 : kind = kind'
    · subst h2
      by_cases h3 : W = W'
      · subst h3
        rw [decide_eq_true rfl] at HI
        have hr : decide (cls = cls ∧ kind = kind ∧ W = W ∧ B = B') = decide (B = B') := by simp
        rw [hr]
        generalize decide (B = B') = q at *
        clear hr hd
        go_enter Try.func15, Try.ntmps15
        go_wp2_with fail
        refine HI.out.mono ?_
        rintro e w3 ⟨rfl, b3⟩
        rw [← HW2.out] at b3
        have HC := Lib.hid (HB.out w3 b3)
        have HB3 := Lib.hid (bNext HBEL.out b3)
        have R0 := (b3.block w.heap.size HR0.out.lt).trans HR0.out
        have R1 := (b3.block (w.heap.size + 1) HR1.out.lt).trans HR1.out
        have j0 := Row.cell R0 (i := 3) rfl
        have j1 := Row.cell R1 (i := 3) rfl
        clear b3 HI HB R0 R1
        go_wp2_with fail
        refine HC.out.mono ?_
        rintro e w4 ⟨rfl, rfl⟩
        clear HC
        go_wp2
        go_ret
        exact ⟨rfl, HB3.out⟩
      · rw [decide_eq_false h3] at HI
        have hr : decide (cls = cls ∧ kind = kind ∧ W = W' ∧ B = B') = false := decide_eq_false (fun h => h3 h.2.2.1)
        rw [hr]
        clear hr hd h3
        go_enter Try.func15, Try.ntmps15
        go_wp2_with fail
        refine HI.out.mono ?_
        rintro e w3 ⟨rfl, b3⟩
        rw [← HW2.out] at b3
        have HB3 := Lib.hid (bNext HBEL.out b3)
        clear b3 HI HB
        go_wp2
        go_ret
        exact ⟨rfl, HB3.out⟩
    · have hr : decide (cls = cls ∧ kind = kind' ∧ W = W' ∧ B = B') = false := decide_eq_false (fun h => h2 h.2.1)
      rw [hr]
      have q1 : (kind == kind') = false := by simp [h2]
      have HB2 := Lib.hid HBEL.out
      rw [HW2.out] at HB2
      clear hr hd h2 HI HB
      go_enter Try.func15, Try.ntmps15
      go_wp2
      go_ret
      exact ⟨rfl, HB2.out⟩
  · have hr : decide (cls = cls' ∧ kind = kind' ∧ W = W' ∧ B = B') = false := decide_eq_false (fun h => h1 h.1)
    rw [hr]
    have q1 : (cls == cls') = false := by simp [h1]
    have HB2 := Lib.hid HBEL.out
    rw [HW2.out] at HB2
    clear hr hd h1 HI HB
    go_enter Try.func15, Try.ntmps15
    go_wp2
    go_ret
    exact ⟨rfl, HB2.out⟩


theorem isObj_enc {cls kind : Int} {W B : List Int} (h : okObj cls kind W B) : isObj (encB cls kind W B) := by
  obtain ⟨h1, h2, h3, h4⟩ := dec_enc h
  unfold isObj
  rw [h1, h2, h3, h4]
  exact ⟨by rw [encB_len]; omega, h, rfl⟩

theorem c_Long (o : ObjD) (w : World) : Calls Try.prog 11 #[o.val] w fun e w' => e = .returned (.bool (decide (o.wn > 1200 ∨ o.bn > 1200))) ∧ Below w.heap.size w w' := by
  obtain ⟨cls, kind, wa, wn, wc, W, ba, bn, bc, B⟩ := o
  unfold ObjD.val
  dsimp only
  have HB := Lib.hid (show Below w.heap.size w (w.alloc (.cells #[.int .i64 cls, .int .i64 kind, .slice wa wn wc, .slice ba bn bc] 25)) from (Below.refl _ _).alloc (Nat.le_refl _) _)
  by_cases h1 : wn > 1200
  · rw [decide_eq_true (.inl h1)]
    have q1 : ((wn : Int) > 1200) = True := eq_true (by omega)
    have q2 : ((1200 : Int) < wn) = True := eq_true (by omega)
    go_enter Try.func11, Try.ntmps11
    go_wp2
    go_ret
    exact ⟨rfl, HB.out⟩
  · have q1 : ((wn : Int) > 1200) = False := eq_false (by omega)
    have q2 : ((1200 : Int) < wn) = False := eq_false (by omega)
    by_cases h2 : bn > 1200
    · rw [decide_eq_true (.inr h2)]
      have q3 : ((bn : Int) > 1200) = True := eq_true (by omega)
      have q4 : ((1200 : Int) < bn) = True := eq_true (by omega)
      go_enter Try.func11, Try.ntmps11
      go_wp2
      go_ret
      exact ⟨rfl, HB.out⟩
    · rw [decide_eq_false (by omega)]
      have q3 : ((bn : Int) > 1200) = False := eq_false (by omega)
      have q4 : ((1200 : Int) < bn) = False := eq_false (by omega)
      go_enter Try.func11, Try.ntmps11
      go_wp2
      go_ret
      exact ⟨rfl, HB.out⟩

theorem known_bytes : encB 6 1 [3, 8] [] = [0, 0, 0, 6, 0, 0, 0, 1, 0, 0, 0, 2, 0, 0, 0, 3, 0, 0, 0, 8] := by decide
theorem known_ok : okObj 6 1 [3, 8] [] := by decide

theorem c_Known (w : World) : Calls Try.prog 12 #[] w fun e w' => e = .returned (.bool true) ∧ Below w.heap.size w w' := by
  go_enter Try.func12, Try.ntmps12
  go_wp2_with fail
  obtain ⟨wA, hwA⟩ : ∃ z, z = ((w.alloc (.cells #[.int .i64 3, .int .i64 8] 3)).alloc (.cells #[.int .i64 6, .int .i64 1, .slice (some ⟨w.heap.size, 0, none⟩) 2 2, .slice none 0 0] 25)) := ⟨_, rfl⟩
  have hA : Below w.heap.size w wA := by rw [hwA]; exact bAlloc ((Below.refl _ w).alloc (Nat.le_refl _) _)
  have hsA : wA.heap.size = w.heap.size + 2 := by rw [hwA]; simp
  have hrA : Reads wA (some ⟨w.heap.size, 0, none⟩) 2 ([3, 8].map (Value.int .i64)) := by rw [hwA]; exact (Reads.made w [.int .i64 3, .int .i64 8] 3 2).alloc _
  have hrow : Row wA (w.heap.size + 1) 25 [.int .i64 6, .int .i64 1, .slice (some ⟨w.heap.size, 0, none⟩) 2 2, .slice none 0 0] := by
    rw [hwA]
    have := Row.made (w.alloc (.cells #[.int .i64 3, .int .i64 8] 3)) [.int .i64 6, .int .i64 1, .slice (some ⟨w.heap.size, 0, none⟩) 2 2, .slice none 0 0] 25
    simpa using this
  rw [← hwA]
  obtain ⟨O, hO⟩ : ∃ O : ObjD, O = ⟨6, 1, some ⟨w.heap.size, 0, none⟩, 2, 2, [3, 8], none, 0, 0, []⟩ := ⟨_, rfl⟩
  have hok : O.ok wA := by
    rw [hO]
    exact ⟨by dsimp only; omega, by dsimp only; omega, rfl, ⟨Nat.le_refl _, by dsimp only; omega⟩, hrA, fun x hx => by simp at hx; omega, rfl, ⟨Nat.le_refl _, by dsimp only; omega⟩, Reads.nil wA, Byt.nil⟩
  have HOV := Lib.hid (show O.val = .agg #[.int .i64 6, .int .i64 1, .slice (some ⟨w.heap.size, 0, none⟩) 2 2, .slice none 0 0] from by rw [hO]; rfl)
  have HOW := Lib.hid (show O.cls = 6 ∧ O.kind = 1 ∧ O.W = [3, 8] ∧ O.B = [] ∧ O.wn = 2 from by rw [hO]; exact ⟨rfl, rfl, rfl, rfl, rfl⟩)
  have HE := Lib.hid (c_Encode O wA hok (by rw [hO]; dsimp only; omega))
  have HCK := Lib.hid (show chkE O = 0 ∧ encO O = encB 6 1 [3, 8] [] from by
    unfold chkE encO
    rw [HOW.out.1, HOW.out.2.1, HOW.out.2.2.1, HOW.out.2.2.2.1, if_pos known_ok, if_pos known_ok]
    exact ⟨rfl, rfl⟩)
  unfold EncPost at HE
  rw [HOV.out, HCK.out.1, HCK.out.2] at HE
  have HA := Lib.hid hA
  have HROW := Lib.hid hrow
  have HOK := Lib.hid hok
  have HSA := Lib.hid hsA
  obtain ⟨L, hL⟩ : ∃ L, L = encB 6 1 [3, 8] [] := ⟨_, rfl⟩
  rw [← hL] at HE
  have HL := Lib.hid hL
  obtain ⟨p, hp⟩ : ∃ p, p = w.heap.size + 1 := ⟨_, rfl⟩
  obtain ⟨p0, hp0⟩ : ∃ p, p = w.heap.size := ⟨_, rfl⟩
  rw [← hp0] at HE HROW HOV ⊢
  rw [hp0, ← hp] at HROW ⊢
  rw [← hp0] at HROW ⊢
  have HP := Lib.hid (And.intro hp hp0)
  clear hA hrow hok hsA hwA hO hrA hL hp hp0
  refine HE.out.mono ?_
  clear HE
  rintro e w1 ⟨v1, rfl, own1, bel1⟩
  obtain ⟨a1, c1, rfl, hr1, hc1, hv1⟩ := owns_reads own1
  have HB1 := Lib.hid (bNext HA.out bel1)
  have HR1 := Lib.hid hr1
  have HROW1 : Hid (Row w1 p 25 [.int .i64 6, .int .i64 1, .slice (some ⟨p0, 0, none⟩) 2 2, .slice none 0 0]) := (bel1.block _ HROW.out.lt).trans HROW.out
  have hLl : L.length = 20 := by rw [HL.out, known_bytes]; rfl
  rw [hLl] at hc1
  have HOK1 := Lib.hid (HOK.out.below bel1)
  have hbl : Byt L := by rw [HL.out]; exact encB_byt Byt.nil
  have HBL := Lib.hid hbl
  have HD := Lib.hid (c_Decode a1 20 c1 L w1 hLl.symm hr1 hbl hc1 (by omega))
  rw [hLl]
  have HC1 := Lib.hid hc1
  have HLL := Lib.hid hLl
  clear own1 hv1 bel1 hr1 hc1 hLl hbl HA HOK HROW
  go_wp2_with fail
  refine HD.out.mono ?_
  clear HD
  rintro e w2 ⟨bel2, ⟨hi, o, rfl, ok, h1, h2, h3, h4⟩ | ⟨hi, rfl⟩⟩
  rotate_left
  · exact absurd (by rw [HL.out]; exact isObj_enc known_ok) hi
  have hde := dec_enc known_ok
  rw [← HL.out] at hde
  have hwlen : o.wn = 2 := by rw [ok.wl, h3, hde.2.2.1]; rfl
  have HOO := Lib.hid (And.intro (h1.trans hde.1) (And.intro (h2.trans hde.2.1) (And.intro (h3.trans hde.2.2.1) (h4.trans hde.2.2.2))))
  have HWL := Lib.hid hwlen
  have HOKo := Lib.hid ok
  have hval : o.val = .agg #[.int .i64 o.cls, .int .i64 o.kind, .slice o.wa o.wn o.wc, .slice o.ba o.bn o.bc] := rfl
  have HV := Lib.hid hval
  have HB2 := Lib.hid (bNext HB1.out bel2)
  have HROW2 : Hid (Row w2 p 25 [.int .i64 6, .int .i64 1, .slice (some ⟨p0, 0, none⟩) 2 2, .slice none 0 0]) := (bel2.block _ HROW1.out.lt).trans HROW1.out
  have HR2 := Lib.hid (HR1.out.below bel2)
  have HOK2 := Lib.hid (HOK1.out.below bel2)
  rw [hval]
  clear hi h1 h2 h3 h4 hde hwlen ok hval bel2 HROW1 HB1 HOK1 HR1
  go_wp2_with fail
  obtain ⟨w3, hw3⟩ : ∃ z, z = (w2.alloc (.cells #[.int .i64 o.cls, .int .i64 o.kind, .slice o.wa o.wn o.wc, .slice o.ba o.bn o.bc] 25)) := ⟨_, rfl⟩
  have bel3 : Below w2.heap.size w2 w3 := by rw [hw3]; exact (Below.refl _ w2).alloc (Nat.le_refl _) _
  obtain ⟨p4, hp4⟩ : ∃ z, z = w2.heap.size := ⟨_, rfl⟩
  have hrow4 : Row w3 p4 25 [.int .i64 o.cls, .int .i64 o.kind, .slice o.wa o.wn o.wc, .slice o.ba o.bn o.bc] := by rw [hw3, hp4]; exact Row.made w2 _ _
  rw [← hw3, ← hp4]
  have HR3 := Lib.hid (HR2.out.below bel3)
  have HW := Lib.hid (c_WWord a1 20 c1 L 1 w3 HLL.out.symm HR3.out HBL.out HC1.out (by omega))
  have hwe : wordE L 1 = 0 := by
    unfold wordE
    rw [if_neg (not_not_intro (by rw [HL.out]; exact isObj_enc known_ok)), if_neg (by rw [HL.out, (dec_enc known_ok).2.1]; simp), if_neg (by rw [HL.out, (dec_enc known_ok).2.2.1]; simp)]
  have hwv : wordV L 1 = 8 := by
    unfold wordV
    rw [hwe, if_pos rfl, HL.out, (dec_enc known_ok).2.2.1]; rfl
  rw [hwe, hwv] at HW
  have HB3 := Lib.hid (bNext HB2.out bel3)
  have HROW3 : Hid (Row w3 p 25 [.int .i64 6, .int .i64 1, .slice (some ⟨p0, 0, none⟩) 2 2, .slice none 0 0]) := (bel3.block _ HROW2.out.lt).trans HROW2.out
  have HROW4 := Lib.hid hrow4
  have HOK3 := Lib.hid (HOK2.out.below bel3)
  have HOKo3 := Lib.hid (HOKo.out.below bel3)
  clear hw3 bel3 hp4 hrow4 hwe hwv HROW2 HOK2 HOKo HB2 HR2
  refine HW.out.mono ?_
  rintro e w4 ⟨rfl, bel4⟩
  have HB4 := Lib.hid (bNext HB3.out bel4)
  have HR4 := HR3.out.below bel4
  have HOK4 := HOK3.out.below bel4
  have HOKo4 := HOKo3.out.below bel4
  have HRW4 : Row w4 p 25 [.int .i64 6, .int .i64 1, .slice (some ⟨p0, 0, none⟩) 2 2, .slice none 0 0] := (bel4.block _ HROW3.out.lt).trans HROW3.out
  have HRW5 : Row w4 p4 25 [.int .i64 o.cls, .int .i64 o.kind, .slice o.wa o.wn o.wc, .slice o.ba o.bn o.bc] := (bel4.block _ HROW4.out.lt).trans HROW4.out
  clear HW bel4 HB3 HR3 HOK3 HOKo3 HROW3 HROW4
  obtain ⟨w5, hw5⟩ : ∃ z, z = (w4.alloc (.cells #[.int .u8 0, .int .u8 0, .int .u8 0, .int .u8 6, .int .u8 0, .int .u8 0, .int .u8 0, .int .u8 1, .int .u8 0, .int .u8 0, .int .u8 0, .int .u8 2, .int .u8 0, .int .u8 0, .int .u8 0, .int .u8 3, .int .u8 0, .int .u8 0, .int .u8 0, .int .u8 8] 5)) := ⟨_, rfl⟩
  have bel5 : Below w4.heap.size w4 w5 := by rw [hw5]; exact (Below.refl _ w4).alloc (Nat.le_refl _) _
  have hr5 : Reads w5 (some ⟨w4.heap.size, 0, none⟩) 20 ([0, 0, 0, 6, 0, 0, 0, 1, 0, 0, 0, 2, 0, 0, 0, 3, 0, 0, 0, 8].map (Value.int .u8)) := by
    rw [hw5]; exact Reads.made w4 ([0, 0, 0, 6, 0, 0, 0, 1, 0, 0, 0, 2, 0, 0, 0, 3, 0, 0, 0, 8].map (Value.int .u8)) 5 20
  have HS := Lib.hid (c_Same a1 (some ⟨w4.heap.size, 0, none⟩) 20 20 c1 20 L [0, 0, 0, 6, 0, 0, 0, 1, 0, 0, 0, 2, 0, 0, 0, 3, 0, 0, 0, 8] w5 HLL.out.symm rfl (HR4.below bel5) hr5 HBL.out (fun x hx => by simp at hx; omega))
  rw [decide_eq_true (by rw [HL.out, known_bytes]), hw5] at HS
  have HB5 := Lib.hid (bNext HB4.out bel5)
  have HOK5 := Lib.hid (HOK4.below bel5)
  have HOKo5 := Lib.hid (HOKo4.below bel5)
  have HRA : Row w5 p 25 [.int .i64 6, .int .i64 1, .slice (some ⟨p0, 0, none⟩) 2 2, .slice none 0 0] := (bel5.block _ HRW4.lt).trans HRW4
  have HRB : Row w5 p4 25 [.int .i64 o.cls, .int .i64 o.kind, .slice o.wa o.wn o.wc, .slice o.ba o.bn o.bc] := (bel5.block _ HRW5.lt).trans HRW5
  have HRA2 := Lib.hid HRA
  have HRB2 := Lib.hid HRB
  have HW5 := Lib.hid hw5
  clear HRA HRB bel5 hr5 HOK4 HOKo4 HR4 HRW4 HRW5 hw5 HB4
  go_wp2_with fail
  refine HS.out.mono ?_
  rintro e w6 ⟨rfl, rfl⟩
  rw [← HW5.out]
  have i0 := HRA2.out.cell (i := 0) rfl
  have i1 := HRA2.out.cell (i := 1) rfl
  have i2 := HRA2.out.cell (i := 2) rfl
  have i3 := HRA2.out.cell (i := 3) rfl
  have j0 := HRB2.out.cell (i := 0) rfl
  have j1 := HRB2.out.cell (i := 1) rfl
  have j2 := HRB2.out.cell (i := 2) rfl
  have j3 := HRB2.out.cell (i := 3) rfl
  have HWS := Lib.hid (r_WSame o O w5 HOKo5.out HOK5.out (by rw [HWL.out]; omega) (by rw [HOW.out.2.2.2.2]; omega))
  rw [HOV.out, HV.out, decide_eq_true (by obtain ⟨h1, h2, h3, h4⟩ := HOO.out; obtain ⟨g1, g2, g3, g4, -⟩ := HOW.out; exact ⟨h1.trans g1.symm, h2.trans g2.symm, h3.trans g3.symm, h4.trans g4.symm⟩)] at HWS
  clear HS HW5
  go_wp2_with fail
  refine HWS.out.mono ?_
  rintro e w7 ⟨rfl, bel7⟩
  have HB7 := Lib.hid (bNext HB5.out bel7)
  have HCN := Lib.hid (c_Check ObjD.nothing w7 ⟨by unfold ObjD.nothing; dsimp only; omega, by unfold ObjD.nothing; dsimp only; omega, rfl, ⟨Nat.le_refl _, by unfold ObjD.nothing; dsimp only; omega⟩, Reads.nil w7, fun x hx => by simp [ObjD.nothing] at hx, rfl, ⟨Nat.le_refl _, by unfold ObjD.nothing; dsimp only; omega⟩, Reads.nil w7, Byt.nil⟩ (by unfold ObjD.nothing; dsimp only; omega))
  rw [show chkE ObjD.nothing = 2 from by decide, show ObjD.nothing.val = .agg #[.int .i64 0, .int .i64 0, .slice none 0 0, .slice none 0 0] from rfl] at HCN
  clear bel7 HWS i0 i1 i2 i3 j0 j1 j2 j3
  go_wp2_with fail
  refine HCN.out.mono ?_
  rintro e w8 ⟨rfl, bel8⟩
  have HB8 := Lib.hid (bNext HB7.out bel8)
  clear bel8 HCN
  go_wp2
  go_ret
  exact ⟨rfl, HB8.out⟩

end Go.Proofs.Ytdedidjobjdekaa
