/-
  The law WideWrites. (Written by w5gen.py.)
-/
import Derived.Test.YtdedidjobjdekaaWideL4
namespace Go.Proofs.Ytdedidjobjdekaa
open Go.RowKit Go.ChangeShapes Go.WideShapes Go.ChangeAt
set_option linter.unusedVariables false
set_option maxHeartbeats 4000000

theorem law_WideWrites (o : ObjD) (a1 : Option Addr) (len1 cap1 : Nat) (z1 : List Int) (w : World) (h : o.ok w) (w1 : Came .u8 w a1 len1 cap1 z1) : Calls Try.prog 9 #[o.val, .slice a1 len1 cap1] w fun e w' => e = .returned (.bool true) ∧ Below w.heap.size w w' := by
  obtain ⟨l, el, hc0, hm0, hr0, hw0⟩ := w1.reads
  have hl : Byt l := fun x hx => bounds_u8 (hw0 x hx)
  clear w1 hw0
  have hval : o.val = .agg #[.int .i64 o.cls, .int .i64 o.kind, .slice o.wa o.wn o.wc, .slice o.ba o.bn o.bc] := rfl
  have HL := Lib.hid (fun w => c_Long o w)
  rw [hval] at HL ⊢
  have HB0 := Lib.hid (show Below w.heap.size w (w.alloc (.cells #[.int .i64 o.cls, .int .i64 o.kind, .slice o.wa o.wn o.wc, .slice o.ba o.bn o.bc] 25)) from (Below.refl _ _).alloc (Nat.le_refl _) _)
  have HROW := Lib.hid (Row.made w [.int .i64 o.cls, .int .i64 o.kind, .slice o.wa o.wn o.wc, .slice o.ba o.bn o.bc] 25)
  have HH := Lib.hid h
  have HV := Lib.hid hval
  have HELL := Lib.hid el
  have HRB := Lib.hid hr0
  have HLB := Lib.hid hl
  have HCB := Lib.hid hc0
  clear h hval el hr0 hl hc0 hm0
  by_cases hl : o.wn > 1200 ∨ o.bn > 1200
  · rw [decide_eq_true hl] at HL
    clear hl
    go_enter Try.func9, Try.ntmps9
    go_wp2_with fail
    refine (HL.out _).mono ?_
    rintro e w1 ⟨rfl, b1⟩
    have HB1 := Lib.hid (bNext HB0.out b1)
    clear b1
    go_wp2_with fail
    refine (c_Known _).mono ?_
    rintro e w2 ⟨rfl, b2⟩
    have HB2 := Lib.hid (bNext HB1.out b2)
    clear b2
    go_wp2
    go_ret
    exact ⟨rfl, HB2.out⟩
  · rw [decide_eq_false hl] at HL
    have HLN := Lib.hid hl
    clear hl
    by_cases hbig : len1 > 6000
    · have q1 : ((6000 : Int) < len1) = True := eq_true (by omega)
      have q2 : ((len1 : Int) > 6000) = True := eq_true (by omega)
      have q3 : (6000 < len1) = True := eq_true (by omega)
      go_enter Try.func9, Try.ntmps9
      go_wp2_with fail
      refine (HL.out _).mono ?_
      rintro e w1 ⟨rfl, b1⟩
      have HB1 := Lib.hid (bNext HB0.out b1)
      clear b1
      go_wp2_with fail
      refine (c_Known _).mono ?_
      rintro e w2 ⟨rfl, b2⟩
      have HB2 := Lib.hid (bNext HB1.out b2)
      clear b2
      go_wp2
      go_ret
      exact ⟨rfl, HB2.out⟩
    · have q1 : ((6000 : Int) < len1) = False := eq_false (by omega)
      have q2 : ((len1 : Int) > 6000) = False := eq_false (by omega)
      have q3 : (6000 < len1) = False := eq_false (by omega)
      have HLN1 := Lib.hid hbig
      clear hbig
      obtain ⟨p, hp⟩ : ∃ p, p = w.heap.size := ⟨_, rfl⟩
      have HP := Lib.hid hp
      clear hp
      go_enter Try.func9, Try.ntmps9
      go_wp2_with fail
      refine (HL.out _).mono ?_
      rintro e w1 ⟨rfl, b1⟩
      have HB1 := Lib.hid (bNext HB0.out b1)
      have R1 : Row w1 p 25 [.int .i64 o.cls, .int .i64 o.kind, .slice o.wa o.wn o.wc, .slice o.ba o.bn o.bc] := by rw [HP.out]; exact (b1.block _ HROW.out.lt).trans HROW.out
      have HR1 := Lib.hid R1
      have i0 := HR1.out.cell (i := 0) rfl
      have i1 := HR1.out.cell (i := 1) rfl
      have i2 := HR1.out.cell (i := 2) rfl
      have i3 := HR1.out.cell (i := 3) rfl
      rw [← HP.out]
      clear b1 R1 HROW
      have HC := Lib.hid (c_Encode o w1 (HH.out.below HB1.out) (by have := HLN.out; omega))
      rw [HV.out] at HC
      go_wp2_with fail
      refine HC.out.mono ?_
      clear HC
      rintro e w2 ⟨v2, rfl, own2, b2⟩
      obtain ⟨a2, c2, rfl, hr2, hc2, hv2⟩ := owns_reads own2
      have HB2 := Lib.hid (bNext HB1.out b2)
      have HRX := Lib.hid hr2
      have HR2 : Hid (Row w2 p 25 [.int .i64 o.cls, .int .i64 o.kind, .slice o.wa o.wn o.wc, .slice o.ba o.bn o.bc]) := (b2.block _ HR1.out.lt).trans HR1.out
      clear own2 hr2 hv2 hc2 b2 i0 i1 i2 i3 HR1
      obtain ⟨n, hn⟩ : ∃ n, n = (encO o).length := ⟨_, rfl⟩
      rw [← hn]
      have HN := Lib.hid hn
      obtain ⟨E, hE⟩ : ∃ E, E = chkE o := ⟨_, rfl⟩
      rw [← hE]
      have HE := Lib.hid hE
      clear hn hE
      have i0 := HR2.out.cell (i := 0) rfl
      have i1 := HR2.out.cell (i := 1) rfl
      have i2 := HR2.out.cell (i := 2) rfl
      have i3 := HR2.out.cell (i := 3) rfl
      have HC := Lib.hid (r_Encode o w2 (HH.out.below HB2.out) (by have := HLN.out; omega) (by have := HLN.out; omega))
      rw [HV.out] at HC
      go_wp2_with fail
      refine HC.out.mono ?_
      clear HC
      rintro e w3 ⟨v3, rfl, own3, b3⟩
      obtain ⟨a3, c3, rfl, hr3, hc3, hv3⟩ := owns_reads own3
      rw [← HE.out, ← HN.out]
      have HB3 := Lib.hid (bNext HB2.out b3)
      have HRX3 := Lib.hid (HRX.out.below b3)
      have HRY3 := Lib.hid hr3
      have HR3 : Hid (Row w3 p 25 [.int .i64 o.cls, .int .i64 o.kind, .slice o.wa o.wn o.wc, .slice o.ba o.bn o.bc]) := (b3.block _ HR2.out.lt).trans HR2.out
      have HD := Lib.hid (c_Decode a1 len1 cap1 l w3 HELL.out (HRB.out.below HB3.out) HLB.out HCB.out (by have := HLN1.out; omega))
      clear own3 hr3 hv3 hc3 b3 i0 i1 i2 i3 HR2 HRX
      go_wp2_with fail
      refine HD.out.mono ?_
      clear HD
      rintro e w4 hp4
      obtain ⟨x, rfl, ok4, hx, b4⟩ := decPost_to hp4
      obtain ⟨D, hD⟩ : ∃ D, D = decErr l := ⟨_, rfl⟩
      rw [← hD, show x.val = .agg #[.int .i64 x.cls, .int .i64 x.kind, .slice x.wa x.wn x.wc, .slice x.ba x.bn x.bc] from rfl]
      have HDE := Lib.hid hD
      obtain ⟨w5, hw5⟩ : ∃ z, z = (w4.alloc (.cells #[.int .i64 x.cls, .int .i64 x.kind, .slice x.wa x.wn x.wc, .slice x.ba x.bn x.bc] 25)) := ⟨_, rfl⟩
      have b5 : Below w4.heap.size w4 w5 := by rw [hw5]; exact (Below.refl _ w4).alloc (Nat.le_refl _) _
      have b35 : Below w3.heap.size w3 w5 := bNext b4 b5
      obtain ⟨p9, hp9⟩ : ∃ z, z = w4.heap.size := ⟨_, rfl⟩
      have HXR : Hid (Row w5 p9 25 [.int .i64 x.cls, .int .i64 x.kind, .slice x.wa x.wn x.wc, .slice x.ba x.bn x.bc]) := by rw [hw5, hp9]; exact Row.made w4 _ _
      have HR5 : Hid (Row w5 p 25 [.int .i64 o.cls, .int .i64 o.kind, .slice o.wa o.wn o.wc, .slice o.ba o.bn o.bc]) := (b35.block _ HR3.out.lt).trans HR3.out
      have HB5 := Lib.hid (bNext HB3.out b35)
      have HRX5 := Lib.hid (HRX3.out.below b35)
      have HRY5 := Lib.hid (HRY3.out.below b35)
      have HOX := Lib.hid (ok4.below b5)
      have HXL := Lib.hid (decO_len hx ok4 (by have := HLN1.out; have := HELL.out; omega))
      have HXD := Lib.hid hx
      have HW5 := Lib.hid hw5
      have HP9 := Lib.hid hp9
      have HD := Lib.hid (r_Decode a1 len1 cap1 l w5 HELL.out (HRB.out.below HB5.out) HLB.out HCB.out (by have := HLN1.out; omega))
      rw [hw5] at HD
      clear hp4 ok4 hx b4 hD hw5 b5 b35 hp9 HR3 HB3 HRX3 HRY3
      go_wp2_with fail
      refine HD.out.mono ?_
      clear HD
      rw [← HW5.out]
      rintro e w6 hp6
      obtain ⟨y, rfl, ok6, hy, b6⟩ := decPost_to hp6
      rw [← HDE.out, show y.val = .agg #[.int .i64 y.cls, .int .i64 y.kind, .slice y.wa y.wn y.wc, .slice y.ba y.bn y.bc] from rfl]
      rw [← HP9.out]
      obtain ⟨w7, hw7⟩ : ∃ z, z = (w6.alloc (.cells #[.int .i64 y.cls, .int .i64 y.kind, .slice y.wa y.wn y.wc, .slice y.ba y.bn y.bc] 25)) := ⟨_, rfl⟩
      have b7 : Below w6.heap.size w6 w7 := by rw [hw7]; exact (Below.refl _ w6).alloc (Nat.le_refl _) _
      have b57 : Below w5.heap.size w5 w7 := bNext b6 b7
      obtain ⟨p11, hp11⟩ : ∃ z, z = w6.heap.size := ⟨_, rfl⟩
      have HYR : Hid (Row w7 p11 25 [.int .i64 y.cls, .int .i64 y.kind, .slice y.wa y.wn y.wc, .slice y.ba y.bn y.bc]) := by rw [hw7, hp11]; exact Row.made w6 _ _
      have HXR7 : Hid (Row w7 p9 25 [.int .i64 x.cls, .int .i64 x.kind, .slice x.wa x.wn x.wc, .slice x.ba x.bn x.bc]) := (b57.block _ HXR.out.lt).trans HXR.out
      have HR7 : Hid (Row w7 p 25 [.int .i64 o.cls, .int .i64 o.kind, .slice o.wa o.wn o.wc, .slice o.ba o.bn o.bc]) := (b57.block _ HR5.out.lt).trans HR5.out
      have HB7 := Lib.hid (bNext HB5.out b57)
      have HRX7 := Lib.hid (HRX5.out.below b57)
      have HRY7 := Lib.hid (HRY5.out.below b57)
      have HOX7 := Lib.hid (HOX.out.below b57)
      have HOY7 := Lib.hid (ok6.below b7)
      have HOO7 := Lib.hid (HH.out.below HB7.out)
      have HYL := Lib.hid (decO_len hy ok6 (by have := HLN1.out; have := HELL.out; omega))
      have HSM := Lib.hid (decO_same HXD.out hy)
      have HW7 := Lib.hid hw7
      have HP11 := Lib.hid hp11
      have i1 := HR7.out.cell (i := 1) rfl
      have i2 := HR7.out.cell (i := 2) rfl
      have i3 := HR7.out.cell (i := 3) rfl
      rw [hw7] at i1 i2 i3
      clear hp6 ok6 hy b6 hw7 b7 b57 hp11 HXR HR5 HB5 HRX5 HRY5 HOX
      have HFS := Lib.hid (fun wz (b : Below w7.heap.size w7 wz) => c_Same a2 a3 n n c2 c3 (encO o) (encO o) wz HN.out HN.out (HRX7.out.below b) (HRY7.out.below b) (encO_byt HH.out.bb) (encO_byt HH.out.bb))
      rw [decide_eq_true rfl] at HFS
      have HFC := Lib.hid (fun wz (b : Below w7.heap.size w7 wz) => c_Check o wz (HOO7.out.below b) (by have := HLN.out; omega))
      have HFD := Lib.hid (fun wz (b : Below w7.heap.size w7 wz) => r_Check o wz (HOO7.out.below b) (by have := HLN.out; omega) (by have := HLN.out; omega))
      have HFO := Lib.hid (fun wz (b : Below w7.heap.size w7 wz) => r_WSame x y wz (HOX7.out.below b) (HOY7.out.below b) (by have := HXL.out; omega) (by have := HYL.out; omega))
      rw [decide_eq_true HSM.out, show x.val = .agg #[.int .i64 x.cls, .int .i64 x.kind, .slice x.wa x.wn x.wc, .slice x.ba x.bn x.bc] from rfl, show y.val = .agg #[.int .i64 y.cls, .int .i64 y.kind, .slice y.wa y.wn y.wc, .slice y.ba y.bn y.bc] from rfl] at HFO
      have HFZ := Lib.hid (fun wz => c_WSize o wz)
      have HFR := Lib.hid (fun wz (b : Below w7.heap.size w7 wz) => c_WRefs o wz (HOO7.out.below b) (by have := HLN.out; omega))
      have HFQ := Lib.hid (fun wz (b : Below w7.heap.size w7 wz) => r_Refs o wz (HOO7.out.below b) (by have := HLN.out; omega))
      have HRL := Lib.hid (show (refsOf (o.cls :: o.W)).length ≤ 1000000000 from by
        have h1 := refsOf_len (o.cls :: o.W)
        have h2 := HLN.out
        have h3 := HH.out.wl
        simp only [List.length_cons] at h1
        omega)
      rw [HV.out] at HFC HFD HFZ HFR HFQ
      rw [← HE.out] at HFC HFD
      by_cases hk1 : o.kind = 1
      · have k1 : (o.kind == 1) = true := by rw [hk1]; rfl
        have k2 : (o.kind == 2) = false := by rw [hk1]; rfl
        rw [if_pos hk1] at HFZ
        clear hk1
        go_wp2
        rw [← HW7.out]
        clear i1 i2 i3
        try rw [← HP11.out]
        refine wp_region_planH (fun z => (Row z p 25 [.int .i64 o.cls, .int .i64 o.kind, .slice o.wa o.wn o.wc, .slice o.ba o.bn o.bc] ∧ Row z p9 25 [.int .i64 x.cls, .int .i64 x.kind, .slice x.wa x.wn x.wc, .slice x.ba x.bn x.bc] ∧ Row z p11 25 [.int .i64 y.cls, .int .i64 y.kind, .slice y.wa y.wn y.wc, .slice y.ba y.bn y.bc])) [(0, true), (1, true), (2, false), (3, true), (4, true), (5, true), (6, true), (7, true), (8, true), (9, true), (11, true), (10, false), (12, false), (13, true), (14, true), (15, true), (16, true), (17, true), (18, false), (19, true), (20, true), (21, true), (22, true), (23, true), (24, true), (25, true), (26, true), (28, true), (27, false), (29, true), (30, true), (31, true), (32, true), (34, true), (33, false), (35, false), (36, false), (37, true), (38, true), (39, false), (40, true), (41, true)] (by kernel_rfl) (by kernel_rfl) (fun _ _ _ _ _ h => h) ⟨HR7.out, HXR7.out, HYR.out⟩ ?_
        have HB8 : Hid (Below w7.heap.size w7 w7.drew) := bDrew (Below.refl _ w7)
        have HR8 : Hid (Row w7.drew p 25 [.int .i64 o.cls, .int .i64 o.kind, .slice o.wa o.wn o.wc, .slice o.ba o.bn o.bc] ∧ Row w7.drew p9 25 [.int .i64 x.cls, .int .i64 x.kind, .slice x.wa x.wn x.wc, .slice x.ba x.bn x.bc] ∧ Row w7.drew p11 25 [.int .i64 y.cls, .int .i64 y.kind, .slice y.wa y.wn y.wc, .slice y.ba y.bn y.bc]) := ⟨HR7.out, HXR7.out, HYR.out⟩
        generalize w7.drew = w8 at *
        (repeat (refine wpPlanH_free rfl (fun K hK => ?_); go_simp; (try go_bits); refine hK _ ?_; clear hK K))
        refine wpPlanH_sole rfl ?_
        go_wp2_with fail
        refine (HFS.out w8 HB8.out).mono ?_
        rintro e w9 ⟨rfl, rfl⟩
        go_wp2
        refine ⟨HR8.out, ?_⟩
        (repeat (refine wpPlanH_free rfl (fun K hK => ?_); go_simp; (try go_bits); refine hK _ ?_; clear hK K))
        refine wpPlanH_load (.agg #[.int .i64 o.cls, .int .i64 o.kind, .slice o.wa o.wn o.wc, .slice o.ba o.bn o.bc]) rfl rfl (fun z hS => by have s0 := hS.1.cell (i := 0) rfl; have s1 := hS.1.cell (i := 1) rfl; have s2 := hS.1.cell (i := 2) rfl; have s3 := hS.1.cell (i := 3) rfl; go_simp) (fun K hK => ?_)
        refine hK _ ?_
        clear hK K
        refine wpPlanH_load (.agg #[.int .i64 o.cls, .int .i64 o.kind, .slice o.wa o.wn o.wc, .slice o.ba o.bn o.bc]) rfl rfl (fun z hS => by have s0 := hS.1.cell (i := 0) rfl; have s1 := hS.1.cell (i := 1) rfl; have s2 := hS.1.cell (i := 2) rfl; have s3 := hS.1.cell (i := 3) rfl; go_simp) (fun K hK => ?_)
        refine hK _ ?_
        clear hK K
        (repeat (refine wpPlanH_free rfl (fun K hK => ?_); go_simp; (try go_bits); refine hK _ ?_; clear hK K))
        refine wpPlanH_sole rfl ?_
        go_wp2_with fail
        refine (HFC.out w8 HB8.out).mono ?_
        rintro e w9 ⟨rfl, b9⟩
        have HB9 := Lib.hid (bNext HB8.out b9)
        have HR9 : Hid (Row w9 p 25 [.int .i64 o.cls, .int .i64 o.kind, .slice o.wa o.wn o.wc, .slice o.ba o.bn o.bc] ∧ Row w9 p9 25 [.int .i64 x.cls, .int .i64 x.kind, .slice x.wa x.wn x.wc, .slice x.ba x.bn x.bc] ∧ Row w9 p11 25 [.int .i64 y.cls, .int .i64 y.kind, .slice y.wa y.wn y.wc, .slice y.ba y.bn y.bc]) := ⟨(b9.block _ HR8.out.1.lt).trans HR8.out.1, (b9.block _ HR8.out.2.1.lt).trans HR8.out.2.1, (b9.block _ HR8.out.2.2.lt).trans HR8.out.2.2⟩
        clear b9 HR8 HB8
        go_wp2
        refine ⟨HR9.out, ?_⟩
        (repeat (refine wpPlanH_free rfl (fun K hK => ?_); go_simp; (try go_bits); refine hK _ ?_; clear hK K))
        refine wpPlanH_sole rfl ?_
        go_wp2_with fail
        refine (HFD.out w9 HB9.out).mono ?_
        rintro e w10 ⟨rfl, b10⟩
        have HB10 := Lib.hid (bNext HB9.out b10)
        have HR10 : Hid (Row w10 p 25 [.int .i64 o.cls, .int .i64 o.kind, .slice o.wa o.wn o.wc, .slice o.ba o.bn o.bc] ∧ Row w10 p9 25 [.int .i64 x.cls, .int .i64 x.kind, .slice x.wa x.wn x.wc, .slice x.ba x.bn x.bc] ∧ Row w10 p11 25 [.int .i64 y.cls, .int .i64 y.kind, .slice y.wa y.wn y.wc, .slice y.ba y.bn y.bc]) := ⟨(b10.block _ HR9.out.1.lt).trans HR9.out.1, (b10.block _ HR9.out.2.1.lt).trans HR9.out.2.1, (b10.block _ HR9.out.2.2.lt).trans HR9.out.2.2⟩
        clear b10 HR9 HB9
        go_wp2
        refine ⟨HR10.out, ?_⟩
        (repeat (refine wpPlanH_free rfl (fun K hK => ?_); go_simp; (try go_bits); refine hK _ ?_; clear hK K))
        refine wpPlanH_load (.agg #[.int .i64 x.cls, .int .i64 x.kind, .slice x.wa x.wn x.wc, .slice x.ba x.bn x.bc]) rfl rfl (fun z hS => by have s0 := hS.2.1.cell (i := 0) rfl; have s1 := hS.2.1.cell (i := 1) rfl; have s2 := hS.2.1.cell (i := 2) rfl; have s3 := hS.2.1.cell (i := 3) rfl; go_simp) (fun K hK => ?_)
        refine hK _ ?_
        clear hK K
        refine wpPlanH_load (.agg #[.int .i64 y.cls, .int .i64 y.kind, .slice y.wa y.wn y.wc, .slice y.ba y.bn y.bc]) rfl rfl (fun z hS => by have s0 := hS.2.2.cell (i := 0) rfl; have s1 := hS.2.2.cell (i := 1) rfl; have s2 := hS.2.2.cell (i := 2) rfl; have s3 := hS.2.2.cell (i := 3) rfl; go_simp) (fun K hK => ?_)
        refine hK _ ?_
        clear hK K
        (repeat (refine wpPlanH_free rfl (fun K hK => ?_); go_simp; (try go_bits); refine hK _ ?_; clear hK K))
        refine wpPlanH_sole rfl ?_
        go_wp2_with fail
        refine (HFO.out w10 HB10.out).mono ?_
        rintro e w11 ⟨rfl, b11⟩
        have HB11 := Lib.hid (bNext HB10.out b11)
        have HR11 : Hid (Row w11 p 25 [.int .i64 o.cls, .int .i64 o.kind, .slice o.wa o.wn o.wc, .slice o.ba o.bn o.bc] ∧ Row w11 p9 25 [.int .i64 x.cls, .int .i64 x.kind, .slice x.wa x.wn x.wc, .slice x.ba x.bn x.bc] ∧ Row w11 p11 25 [.int .i64 y.cls, .int .i64 y.kind, .slice y.wa y.wn y.wc, .slice y.ba y.bn y.bc]) := ⟨(b11.block _ HR10.out.1.lt).trans HR10.out.1, (b11.block _ HR10.out.2.1.lt).trans HR10.out.2.1, (b11.block _ HR10.out.2.2.lt).trans HR10.out.2.2⟩
        clear b11 HR10 HB10
        go_wp2
        refine ⟨HR11.out, ?_⟩
        (repeat (refine wpPlanH_free rfl (fun K hK => ?_); go_simp; (try go_bits); refine hK _ ?_; clear hK K))
        refine wpPlanH_load (.agg #[.int .i64 o.cls, .int .i64 o.kind, .slice o.wa o.wn o.wc, .slice o.ba o.bn o.bc]) rfl rfl (fun z hS => by have s0 := hS.1.cell (i := 0) rfl; have s1 := hS.1.cell (i := 1) rfl; have s2 := hS.1.cell (i := 2) rfl; have s3 := hS.1.cell (i := 3) rfl; go_simp) (fun K hK => ?_)
        refine hK _ ?_
        clear hK K
        (repeat (refine wpPlanH_free rfl (fun K hK => ?_); go_simp; (try go_bits); refine hK _ ?_; clear hK K))
        refine wpPlanH_sole rfl ?_
        go_wp2_with fail
        refine (HFZ.out w11).mono ?_
        rintro e w12 ⟨rfl, b12⟩
        have HB12 := Lib.hid (bNext HB11.out b12)
        have HR12 : Hid (Row w12 p 25 [.int .i64 o.cls, .int .i64 o.kind, .slice o.wa o.wn o.wc, .slice o.ba o.bn o.bc] ∧ Row w12 p9 25 [.int .i64 x.cls, .int .i64 x.kind, .slice x.wa x.wn x.wc, .slice x.ba x.bn x.bc] ∧ Row w12 p11 25 [.int .i64 y.cls, .int .i64 y.kind, .slice y.wa y.wn y.wc, .slice y.ba y.bn y.bc]) := ⟨(b12.block _ HR11.out.1.lt).trans HR11.out.1, (b12.block _ HR11.out.2.1.lt).trans HR11.out.2.1, (b12.block _ HR11.out.2.2.lt).trans HR11.out.2.2⟩
        clear b12 HR11 HB11
        go_wp2
        refine ⟨HR12.out, ?_⟩
        (repeat (refine wpPlanH_free rfl (fun K hK => ?_); go_simp; (try go_bits); refine hK _ ?_; clear hK K))
        refine wpPlanH_load (.agg #[.int .i64 o.cls, .int .i64 o.kind, .slice o.wa o.wn o.wc, .slice o.ba o.bn o.bc]) rfl rfl (fun z hS => by have s0 := hS.1.cell (i := 0) rfl; have s1 := hS.1.cell (i := 1) rfl; have s2 := hS.1.cell (i := 2) rfl; have s3 := hS.1.cell (i := 3) rfl; go_simp) (fun K hK => ?_)
        refine hK _ ?_
        clear hK K
        refine wpPlanH_load (.agg #[.int .i64 o.cls, .int .i64 o.kind, .slice o.wa o.wn o.wc, .slice o.ba o.bn o.bc]) rfl rfl (fun z hS => by have s0 := hS.1.cell (i := 0) rfl; have s1 := hS.1.cell (i := 1) rfl; have s2 := hS.1.cell (i := 2) rfl; have s3 := hS.1.cell (i := 3) rfl; go_simp) (fun K hK => ?_)
        refine hK _ ?_
        clear hK K
        (repeat (refine wpPlanH_free rfl (fun K hK => ?_); go_simp; (try go_bits); refine hK _ ?_; clear hK K))
        refine wpPlanH_sole rfl ?_
        go_wp2_with fail
        refine (HFR.out w12 HB12.out).mono ?_
        rintro e w13 ⟨v13, rfl, own13, b13⟩
        obtain ⟨ar, cr, rfl, hrr, -, -⟩ := owns_reads own13
        have HRR := Lib.hid hrr
        clear own13 hrr
        have HB13 := Lib.hid (bNext HB12.out b13)
        have HR13 : Hid (Row w13 p 25 [.int .i64 o.cls, .int .i64 o.kind, .slice o.wa o.wn o.wc, .slice o.ba o.bn o.bc] ∧ Row w13 p9 25 [.int .i64 x.cls, .int .i64 x.kind, .slice x.wa x.wn x.wc, .slice x.ba x.bn x.bc] ∧ Row w13 p11 25 [.int .i64 y.cls, .int .i64 y.kind, .slice y.wa y.wn y.wc, .slice y.ba y.bn y.bc]) := ⟨(b13.block _ HR12.out.1.lt).trans HR12.out.1, (b13.block _ HR12.out.2.1.lt).trans HR12.out.2.1, (b13.block _ HR12.out.2.2.lt).trans HR12.out.2.2⟩
        clear b13 HR12 HB12
        go_wp2
        refine ⟨HR13.out, ?_⟩
        (repeat (refine wpPlanH_free rfl (fun K hK => ?_); go_simp; (try go_bits); refine hK _ ?_; clear hK K))
        refine wpPlanH_sole rfl ?_
        go_wp2_with fail
        refine (HFQ.out w13 HB13.out).mono ?_
        rintro e w14 ⟨v14, rfl, own14, b14⟩
        obtain ⟨aq, cq, rfl, hrq, -, -⟩ := owns_reads own14
        have HSI := Lib.hid (c_SameIntsYesW ar aq (refsOf (o.cls :: o.W)).length cr cq (refsOf (o.cls :: o.W)) w14 rfl (HRR.out.below b14) hrq HRL.out)
        clear own14 hrq HRR
        have HB14 := Lib.hid (bNext HB13.out b14)
        have HR14 : Hid (Row w14 p 25 [.int .i64 o.cls, .int .i64 o.kind, .slice o.wa o.wn o.wc, .slice o.ba o.bn o.bc] ∧ Row w14 p9 25 [.int .i64 x.cls, .int .i64 x.kind, .slice x.wa x.wn x.wc, .slice x.ba x.bn x.bc] ∧ Row w14 p11 25 [.int .i64 y.cls, .int .i64 y.kind, .slice y.wa y.wn y.wc, .slice y.ba y.bn y.bc]) := ⟨(b14.block _ HR13.out.1.lt).trans HR13.out.1, (b14.block _ HR13.out.2.1.lt).trans HR13.out.2.1, (b14.block _ HR13.out.2.2.lt).trans HR13.out.2.2⟩
        clear b14 HR13 HB13
        go_wp2
        refine ⟨HR14.out, ?_⟩
        (repeat (refine wpPlanH_free rfl (fun K hK => ?_); go_simp; (try go_bits); refine hK _ ?_; clear hK K))
        refine wpPlanH_sole rfl ?_
        go_wp2_with fail
        refine (HSI.out).mono ?_
        rintro e w15 ⟨rfl, b15⟩
        have HB15 := Lib.hid (bNext HB14.out b15)
        have HR15 : Hid (Row w15 p 25 [.int .i64 o.cls, .int .i64 o.kind, .slice o.wa o.wn o.wc, .slice o.ba o.bn o.bc] ∧ Row w15 p9 25 [.int .i64 x.cls, .int .i64 x.kind, .slice x.wa x.wn x.wc, .slice x.ba x.bn x.bc] ∧ Row w15 p11 25 [.int .i64 y.cls, .int .i64 y.kind, .slice y.wa y.wn y.wc, .slice y.ba y.bn y.bc]) := ⟨(b15.block _ HR14.out.1.lt).trans HR14.out.1, (b15.block _ HR14.out.2.1.lt).trans HR14.out.2.1, (b15.block _ HR14.out.2.2.lt).trans HR14.out.2.2⟩
        clear b15 HR14 HB14
        go_wp2
        refine ⟨HR15.out, ?_⟩
        (repeat (refine wpPlanH_free rfl (fun K hK => ?_); go_simp; (try go_bits); refine hK _ ?_; clear hK K))
        refine wpPlanH_sole rfl ?_
        go_wp2_with fail
        refine (c_Known w15).mono ?_
        rintro e w16 ⟨rfl, b16⟩
        have HB16 := Lib.hid (bNext HB15.out b16)
        have HR16 : Hid (Row w16 p 25 [.int .i64 o.cls, .int .i64 o.kind, .slice o.wa o.wn o.wc, .slice o.ba o.bn o.bc] ∧ Row w16 p9 25 [.int .i64 x.cls, .int .i64 x.kind, .slice x.wa x.wn x.wc, .slice x.ba x.bn x.bc] ∧ Row w16 p11 25 [.int .i64 y.cls, .int .i64 y.kind, .slice y.wa y.wn y.wc, .slice y.ba y.bn y.bc]) := ⟨(b16.block _ HR15.out.1.lt).trans HR15.out.1, (b16.block _ HR15.out.2.1.lt).trans HR15.out.2.1, (b16.block _ HR15.out.2.2.lt).trans HR15.out.2.2⟩
        clear b16 HR15 HB15
        go_wp2
        refine ⟨HR16.out, ?_⟩
        (repeat (refine wpPlanH_free rfl (fun K hK => ?_); go_simp; (try go_bits); refine hK _ ?_; clear hK K))
        refine wpPlanH_nil ?_
        go_wp2
        go_ret
        exact ⟨rfl, bNext HB7.out HB16.out⟩
      · by_cases hk2 : o.kind = 2
        · have k1 : (o.kind == 1) = false := by rw [hk2]; rfl
          have k2 : (o.kind == 2) = true := by rw [hk2]; rfl
          rw [if_neg hk1, if_pos hk2] at HFZ
          clear hk1 hk2
          go_wp2
          rw [← HW7.out]
          clear i1 i2 i3
          try rw [← HP11.out]
          refine wp_region_planH (fun z => (Row z p 25 [.int .i64 o.cls, .int .i64 o.kind, .slice o.wa o.wn o.wc, .slice o.ba o.bn o.bc] ∧ Row z p9 25 [.int .i64 x.cls, .int .i64 x.kind, .slice x.wa x.wn x.wc, .slice x.ba x.bn x.bc] ∧ Row z p11 25 [.int .i64 y.cls, .int .i64 y.kind, .slice y.wa y.wn y.wc, .slice y.ba y.bn y.bc])) [(0, true), (1, true), (2, false), (3, true), (4, true), (5, true), (6, true), (7, true), (8, true), (9, true), (11, true), (10, false), (12, false), (13, true), (14, true), (15, true), (16, true), (17, true), (18, false), (19, true), (20, true), (21, true), (22, true), (23, true), (24, true), (25, true), (26, true), (28, true), (27, false), (29, true), (30, true), (31, true), (32, true), (34, true), (33, false), (35, false), (36, false), (37, true), (38, true), (39, false), (40, true), (41, true)] (by kernel_rfl) (by kernel_rfl) (fun _ _ _ _ _ h => h) ⟨HR7.out, HXR7.out, HYR.out⟩ ?_
          have HB8 : Hid (Below w7.heap.size w7 w7.drew) := bDrew (Below.refl _ w7)
          have HR8 : Hid (Row w7.drew p 25 [.int .i64 o.cls, .int .i64 o.kind, .slice o.wa o.wn o.wc, .slice o.ba o.bn o.bc] ∧ Row w7.drew p9 25 [.int .i64 x.cls, .int .i64 x.kind, .slice x.wa x.wn x.wc, .slice x.ba x.bn x.bc] ∧ Row w7.drew p11 25 [.int .i64 y.cls, .int .i64 y.kind, .slice y.wa y.wn y.wc, .slice y.ba y.bn y.bc]) := ⟨HR7.out, HXR7.out, HYR.out⟩
          generalize w7.drew = w8 at *
          (repeat (refine wpPlanH_free rfl (fun K hK => ?_); go_simp; (try go_bits); refine hK _ ?_; clear hK K))
          refine wpPlanH_sole rfl ?_
          go_wp2_with fail
          refine (HFS.out w8 HB8.out).mono ?_
          rintro e w9 ⟨rfl, rfl⟩
          go_wp2
          refine ⟨HR8.out, ?_⟩
          (repeat (refine wpPlanH_free rfl (fun K hK => ?_); go_simp; (try go_bits); refine hK _ ?_; clear hK K))
          refine wpPlanH_load (.agg #[.int .i64 o.cls, .int .i64 o.kind, .slice o.wa o.wn o.wc, .slice o.ba o.bn o.bc]) rfl rfl (fun z hS => by have s0 := hS.1.cell (i := 0) rfl; have s1 := hS.1.cell (i := 1) rfl; have s2 := hS.1.cell (i := 2) rfl; have s3 := hS.1.cell (i := 3) rfl; go_simp) (fun K hK => ?_)
          refine hK _ ?_
          clear hK K
          refine wpPlanH_load (.agg #[.int .i64 o.cls, .int .i64 o.kind, .slice o.wa o.wn o.wc, .slice o.ba o.bn o.bc]) rfl rfl (fun z hS => by have s0 := hS.1.cell (i := 0) rfl; have s1 := hS.1.cell (i := 1) rfl; have s2 := hS.1.cell (i := 2) rfl; have s3 := hS.1.cell (i := 3) rfl; go_simp) (fun K hK => ?_)
          refine hK _ ?_
          clear hK K
          (repeat (refine wpPlanH_free rfl (fun K hK => ?_); go_simp; (try go_bits); refine hK _ ?_; clear hK K))
          refine wpPlanH_sole rfl ?_
          go_wp2_with fail
          refine (HFC.out w8 HB8.out).mono ?_
          rintro e w9 ⟨rfl, b9⟩
          have HB9 := Lib.hid (bNext HB8.out b9)
          have HR9 : Hid (Row w9 p 25 [.int .i64 o.cls, .int .i64 o.kind, .slice o.wa o.wn o.wc, .slice o.ba o.bn o.bc] ∧ Row w9 p9 25 [.int .i64 x.cls, .int .i64 x.kind, .slice x.wa x.wn x.wc, .slice x.ba x.bn x.bc] ∧ Row w9 p11 25 [.int .i64 y.cls, .int .i64 y.kind, .slice y.wa y.wn y.wc, .slice y.ba y.bn y.bc]) := ⟨(b9.block _ HR8.out.1.lt).trans HR8.out.1, (b9.block _ HR8.out.2.1.lt).trans HR8.out.2.1, (b9.block _ HR8.out.2.2.lt).trans HR8.out.2.2⟩
          clear b9 HR8 HB8
          go_wp2
          refine ⟨HR9.out, ?_⟩
          (repeat (refine wpPlanH_free rfl (fun K hK => ?_); go_simp; (try go_bits); refine hK _ ?_; clear hK K))
          refine wpPlanH_sole rfl ?_
          go_wp2_with fail
          refine (HFD.out w9 HB9.out).mono ?_
          rintro e w10 ⟨rfl, b10⟩
          have HB10 := Lib.hid (bNext HB9.out b10)
          have HR10 : Hid (Row w10 p 25 [.int .i64 o.cls, .int .i64 o.kind, .slice o.wa o.wn o.wc, .slice o.ba o.bn o.bc] ∧ Row w10 p9 25 [.int .i64 x.cls, .int .i64 x.kind, .slice x.wa x.wn x.wc, .slice x.ba x.bn x.bc] ∧ Row w10 p11 25 [.int .i64 y.cls, .int .i64 y.kind, .slice y.wa y.wn y.wc, .slice y.ba y.bn y.bc]) := ⟨(b10.block _ HR9.out.1.lt).trans HR9.out.1, (b10.block _ HR9.out.2.1.lt).trans HR9.out.2.1, (b10.block _ HR9.out.2.2.lt).trans HR9.out.2.2⟩
          clear b10 HR9 HB9
          go_wp2
          refine ⟨HR10.out, ?_⟩
          (repeat (refine wpPlanH_free rfl (fun K hK => ?_); go_simp; (try go_bits); refine hK _ ?_; clear hK K))
          refine wpPlanH_load (.agg #[.int .i64 x.cls, .int .i64 x.kind, .slice x.wa x.wn x.wc, .slice x.ba x.bn x.bc]) rfl rfl (fun z hS => by have s0 := hS.2.1.cell (i := 0) rfl; have s1 := hS.2.1.cell (i := 1) rfl; have s2 := hS.2.1.cell (i := 2) rfl; have s3 := hS.2.1.cell (i := 3) rfl; go_simp) (fun K hK => ?_)
          refine hK _ ?_
          clear hK K
          refine wpPlanH_load (.agg #[.int .i64 y.cls, .int .i64 y.kind, .slice y.wa y.wn y.wc, .slice y.ba y.bn y.bc]) rfl rfl (fun z hS => by have s0 := hS.2.2.cell (i := 0) rfl; have s1 := hS.2.2.cell (i := 1) rfl; have s2 := hS.2.2.cell (i := 2) rfl; have s3 := hS.2.2.cell (i := 3) rfl; go_simp) (fun K hK => ?_)
          refine hK _ ?_
          clear hK K
          (repeat (refine wpPlanH_free rfl (fun K hK => ?_); go_simp; (try go_bits); refine hK _ ?_; clear hK K))
          refine wpPlanH_sole rfl ?_
          go_wp2_with fail
          refine (HFO.out w10 HB10.out).mono ?_
          rintro e w11 ⟨rfl, b11⟩
          have HB11 := Lib.hid (bNext HB10.out b11)
          have HR11 : Hid (Row w11 p 25 [.int .i64 o.cls, .int .i64 o.kind, .slice o.wa o.wn o.wc, .slice o.ba o.bn o.bc] ∧ Row w11 p9 25 [.int .i64 x.cls, .int .i64 x.kind, .slice x.wa x.wn x.wc, .slice x.ba x.bn x.bc] ∧ Row w11 p11 25 [.int .i64 y.cls, .int .i64 y.kind, .slice y.wa y.wn y.wc, .slice y.ba y.bn y.bc]) := ⟨(b11.block _ HR10.out.1.lt).trans HR10.out.1, (b11.block _ HR10.out.2.1.lt).trans HR10.out.2.1, (b11.block _ HR10.out.2.2.lt).trans HR10.out.2.2⟩
          clear b11 HR10 HB10
          go_wp2
          refine ⟨HR11.out, ?_⟩
          (repeat (refine wpPlanH_free rfl (fun K hK => ?_); go_simp; (try go_bits); refine hK _ ?_; clear hK K))
          refine wpPlanH_load (.agg #[.int .i64 o.cls, .int .i64 o.kind, .slice o.wa o.wn o.wc, .slice o.ba o.bn o.bc]) rfl rfl (fun z hS => by have s0 := hS.1.cell (i := 0) rfl; have s1 := hS.1.cell (i := 1) rfl; have s2 := hS.1.cell (i := 2) rfl; have s3 := hS.1.cell (i := 3) rfl; go_simp) (fun K hK => ?_)
          refine hK _ ?_
          clear hK K
          (repeat (refine wpPlanH_free rfl (fun K hK => ?_); go_simp; (try go_bits); refine hK _ ?_; clear hK K))
          refine wpPlanH_sole rfl ?_
          go_wp2_with fail
          refine (HFZ.out w11).mono ?_
          rintro e w12 ⟨rfl, b12⟩
          have HB12 := Lib.hid (bNext HB11.out b12)
          have HR12 : Hid (Row w12 p 25 [.int .i64 o.cls, .int .i64 o.kind, .slice o.wa o.wn o.wc, .slice o.ba o.bn o.bc] ∧ Row w12 p9 25 [.int .i64 x.cls, .int .i64 x.kind, .slice x.wa x.wn x.wc, .slice x.ba x.bn x.bc] ∧ Row w12 p11 25 [.int .i64 y.cls, .int .i64 y.kind, .slice y.wa y.wn y.wc, .slice y.ba y.bn y.bc]) := ⟨(b12.block _ HR11.out.1.lt).trans HR11.out.1, (b12.block _ HR11.out.2.1.lt).trans HR11.out.2.1, (b12.block _ HR11.out.2.2.lt).trans HR11.out.2.2⟩
          clear b12 HR11 HB11
          go_wp2
          refine ⟨HR12.out, ?_⟩
          (repeat (refine wpPlanH_free rfl (fun K hK => ?_); go_simp; (try go_bits); refine hK _ ?_; clear hK K))
          refine wpPlanH_load (.agg #[.int .i64 o.cls, .int .i64 o.kind, .slice o.wa o.wn o.wc, .slice o.ba o.bn o.bc]) rfl rfl (fun z hS => by have s0 := hS.1.cell (i := 0) rfl; have s1 := hS.1.cell (i := 1) rfl; have s2 := hS.1.cell (i := 2) rfl; have s3 := hS.1.cell (i := 3) rfl; go_simp) (fun K hK => ?_)
          refine hK _ ?_
          clear hK K
          refine wpPlanH_load (.agg #[.int .i64 o.cls, .int .i64 o.kind, .slice o.wa o.wn o.wc, .slice o.ba o.bn o.bc]) rfl rfl (fun z hS => by have s0 := hS.1.cell (i := 0) rfl; have s1 := hS.1.cell (i := 1) rfl; have s2 := hS.1.cell (i := 2) rfl; have s3 := hS.1.cell (i := 3) rfl; go_simp) (fun K hK => ?_)
          refine hK _ ?_
          clear hK K
          (repeat (refine wpPlanH_free rfl (fun K hK => ?_); go_simp; (try go_bits); refine hK _ ?_; clear hK K))
          refine wpPlanH_sole rfl ?_
          go_wp2_with fail
          refine (HFR.out w12 HB12.out).mono ?_
          rintro e w13 ⟨v13, rfl, own13, b13⟩
          obtain ⟨ar, cr, rfl, hrr, -, -⟩ := owns_reads own13
          have HRR := Lib.hid hrr
          clear own13 hrr
          have HB13 := Lib.hid (bNext HB12.out b13)
          have HR13 : Hid (Row w13 p 25 [.int .i64 o.cls, .int .i64 o.kind, .slice o.wa o.wn o.wc, .slice o.ba o.bn o.bc] ∧ Row w13 p9 25 [.int .i64 x.cls, .int .i64 x.kind, .slice x.wa x.wn x.wc, .slice x.ba x.bn x.bc] ∧ Row w13 p11 25 [.int .i64 y.cls, .int .i64 y.kind, .slice y.wa y.wn y.wc, .slice y.ba y.bn y.bc]) := ⟨(b13.block _ HR12.out.1.lt).trans HR12.out.1, (b13.block _ HR12.out.2.1.lt).trans HR12.out.2.1, (b13.block _ HR12.out.2.2.lt).trans HR12.out.2.2⟩
          clear b13 HR12 HB12
          go_wp2
          refine ⟨HR13.out, ?_⟩
          (repeat (refine wpPlanH_free rfl (fun K hK => ?_); go_simp; (try go_bits); refine hK _ ?_; clear hK K))
          refine wpPlanH_sole rfl ?_
          go_wp2_with fail
          refine (HFQ.out w13 HB13.out).mono ?_
          rintro e w14 ⟨v14, rfl, own14, b14⟩
          obtain ⟨aq, cq, rfl, hrq, -, -⟩ := owns_reads own14
          have HSI := Lib.hid (c_SameIntsYesW ar aq (refsOf (o.cls :: o.W)).length cr cq (refsOf (o.cls :: o.W)) w14 rfl (HRR.out.below b14) hrq HRL.out)
          clear own14 hrq HRR
          have HB14 := Lib.hid (bNext HB13.out b14)
          have HR14 : Hid (Row w14 p 25 [.int .i64 o.cls, .int .i64 o.kind, .slice o.wa o.wn o.wc, .slice o.ba o.bn o.bc] ∧ Row w14 p9 25 [.int .i64 x.cls, .int .i64 x.kind, .slice x.wa x.wn x.wc, .slice x.ba x.bn x.bc] ∧ Row w14 p11 25 [.int .i64 y.cls, .int .i64 y.kind, .slice y.wa y.wn y.wc, .slice y.ba y.bn y.bc]) := ⟨(b14.block _ HR13.out.1.lt).trans HR13.out.1, (b14.block _ HR13.out.2.1.lt).trans HR13.out.2.1, (b14.block _ HR13.out.2.2.lt).trans HR13.out.2.2⟩
          clear b14 HR13 HB13
          go_wp2
          refine ⟨HR14.out, ?_⟩
          (repeat (refine wpPlanH_free rfl (fun K hK => ?_); go_simp; (try go_bits); refine hK _ ?_; clear hK K))
          refine wpPlanH_sole rfl ?_
          go_wp2_with fail
          refine (HSI.out).mono ?_
          rintro e w15 ⟨rfl, b15⟩
          have HB15 := Lib.hid (bNext HB14.out b15)
          have HR15 : Hid (Row w15 p 25 [.int .i64 o.cls, .int .i64 o.kind, .slice o.wa o.wn o.wc, .slice o.ba o.bn o.bc] ∧ Row w15 p9 25 [.int .i64 x.cls, .int .i64 x.kind, .slice x.wa x.wn x.wc, .slice x.ba x.bn x.bc] ∧ Row w15 p11 25 [.int .i64 y.cls, .int .i64 y.kind, .slice y.wa y.wn y.wc, .slice y.ba y.bn y.bc]) := ⟨(b15.block _ HR14.out.1.lt).trans HR14.out.1, (b15.block _ HR14.out.2.1.lt).trans HR14.out.2.1, (b15.block _ HR14.out.2.2.lt).trans HR14.out.2.2⟩
          clear b15 HR14 HB14
          go_wp2
          refine ⟨HR15.out, ?_⟩
          (repeat (refine wpPlanH_free rfl (fun K hK => ?_); go_simp; (try go_bits); refine hK _ ?_; clear hK K))
          refine wpPlanH_sole rfl ?_
          go_wp2_with fail
          refine (c_Known w15).mono ?_
          rintro e w16 ⟨rfl, b16⟩
          have HB16 := Lib.hid (bNext HB15.out b16)
          have HR16 : Hid (Row w16 p 25 [.int .i64 o.cls, .int .i64 o.kind, .slice o.wa o.wn o.wc, .slice o.ba o.bn o.bc] ∧ Row w16 p9 25 [.int .i64 x.cls, .int .i64 x.kind, .slice x.wa x.wn x.wc, .slice x.ba x.bn x.bc] ∧ Row w16 p11 25 [.int .i64 y.cls, .int .i64 y.kind, .slice y.wa y.wn y.wc, .slice y.ba y.bn y.bc]) := ⟨(b16.block _ HR15.out.1.lt).trans HR15.out.1, (b16.block _ HR15.out.2.1.lt).trans HR15.out.2.1, (b16.block _ HR15.out.2.2.lt).trans HR15.out.2.2⟩
          clear b16 HR15 HB15
          go_wp2
          refine ⟨HR16.out, ?_⟩
          (repeat (refine wpPlanH_free rfl (fun K hK => ?_); go_simp; (try go_bits); refine hK _ ?_; clear hK K))
          refine wpPlanH_nil ?_
          go_wp2
          go_ret
          exact ⟨rfl, bNext HB7.out HB16.out⟩
        · have k1 : (o.kind == 1) = false := by simpa using hk1
          have k2 : (o.kind == 2) = false := by simpa using hk2
          rw [if_neg hk1, if_neg hk2] at HFZ
          clear hk1 hk2
          go_wp2
          rw [← HW7.out]
          clear i1 i2 i3
          try rw [← HP11.out]
          refine wp_region_planH (fun z => (Row z p 25 [.int .i64 o.cls, .int .i64 o.kind, .slice o.wa o.wn o.wc, .slice o.ba o.bn o.bc] ∧ Row z p9 25 [.int .i64 x.cls, .int .i64 x.kind, .slice x.wa x.wn x.wc, .slice x.ba x.bn x.bc] ∧ Row z p11 25 [.int .i64 y.cls, .int .i64 y.kind, .slice y.wa y.wn y.wc, .slice y.ba y.bn y.bc])) [(0, true), (1, true), (2, false), (3, true), (4, true), (5, true), (6, true), (7, true), (8, true), (9, true), (11, true), (10, false), (12, false), (13, true), (14, true), (15, true), (16, true), (17, true), (18, false), (19, true), (20, true), (21, true), (22, true), (23, true), (24, true), (25, true), (26, true), (28, true), (27, false), (29, true), (30, true), (31, true), (32, true), (34, true), (33, false), (35, false), (36, false), (37, true), (38, true), (39, false), (40, true), (41, true)] (by kernel_rfl) (by kernel_rfl) (fun _ _ _ _ _ h => h) ⟨HR7.out, HXR7.out, HYR.out⟩ ?_
          have HB8 : Hid (Below w7.heap.size w7 w7.drew) := bDrew (Below.refl _ w7)
          have HR8 : Hid (Row w7.drew p 25 [.int .i64 o.cls, .int .i64 o.kind, .slice o.wa o.wn o.wc, .slice o.ba o.bn o.bc] ∧ Row w7.drew p9 25 [.int .i64 x.cls, .int .i64 x.kind, .slice x.wa x.wn x.wc, .slice x.ba x.bn x.bc] ∧ Row w7.drew p11 25 [.int .i64 y.cls, .int .i64 y.kind, .slice y.wa y.wn y.wc, .slice y.ba y.bn y.bc]) := ⟨HR7.out, HXR7.out, HYR.out⟩
          generalize w7.drew = w8 at *
          (repeat (refine wpPlanH_free rfl (fun K hK => ?_); go_simp; (try go_bits); refine hK _ ?_; clear hK K))
          refine wpPlanH_sole rfl ?_
          go_wp2_with fail
          refine (HFS.out w8 HB8.out).mono ?_
          rintro e w9 ⟨rfl, rfl⟩
          go_wp2
          refine ⟨HR8.out, ?_⟩
          (repeat (refine wpPlanH_free rfl (fun K hK => ?_); go_simp; (try go_bits); refine hK _ ?_; clear hK K))
          refine wpPlanH_load (.agg #[.int .i64 o.cls, .int .i64 o.kind, .slice o.wa o.wn o.wc, .slice o.ba o.bn o.bc]) rfl rfl (fun z hS => by have s0 := hS.1.cell (i := 0) rfl; have s1 := hS.1.cell (i := 1) rfl; have s2 := hS.1.cell (i := 2) rfl; have s3 := hS.1.cell (i := 3) rfl; go_simp) (fun K hK => ?_)
          refine hK _ ?_
          clear hK K
          refine wpPlanH_load (.agg #[.int .i64 o.cls, .int .i64 o.kind, .slice o.wa o.wn o.wc, .slice o.ba o.bn o.bc]) rfl rfl (fun z hS => by have s0 := hS.1.cell (i := 0) rfl; have s1 := hS.1.cell (i := 1) rfl; have s2 := hS.1.cell (i := 2) rfl; have s3 := hS.1.cell (i := 3) rfl; go_simp) (fun K hK => ?_)
          refine hK _ ?_
          clear hK K
          (repeat (refine wpPlanH_free rfl (fun K hK => ?_); go_simp; (try go_bits); refine hK _ ?_; clear hK K))
          refine wpPlanH_sole rfl ?_
          go_wp2_with fail
          refine (HFC.out w8 HB8.out).mono ?_
          rintro e w9 ⟨rfl, b9⟩
          have HB9 := Lib.hid (bNext HB8.out b9)
          have HR9 : Hid (Row w9 p 25 [.int .i64 o.cls, .int .i64 o.kind, .slice o.wa o.wn o.wc, .slice o.ba o.bn o.bc] ∧ Row w9 p9 25 [.int .i64 x.cls, .int .i64 x.kind, .slice x.wa x.wn x.wc, .slice x.ba x.bn x.bc] ∧ Row w9 p11 25 [.int .i64 y.cls, .int .i64 y.kind, .slice y.wa y.wn y.wc, .slice y.ba y.bn y.bc]) := ⟨(b9.block _ HR8.out.1.lt).trans HR8.out.1, (b9.block _ HR8.out.2.1.lt).trans HR8.out.2.1, (b9.block _ HR8.out.2.2.lt).trans HR8.out.2.2⟩
          clear b9 HR8 HB8
          go_wp2
          refine ⟨HR9.out, ?_⟩
          (repeat (refine wpPlanH_free rfl (fun K hK => ?_); go_simp; (try go_bits); refine hK _ ?_; clear hK K))
          refine wpPlanH_sole rfl ?_
          go_wp2_with fail
          refine (HFD.out w9 HB9.out).mono ?_
          rintro e w10 ⟨rfl, b10⟩
          have HB10 := Lib.hid (bNext HB9.out b10)
          have HR10 : Hid (Row w10 p 25 [.int .i64 o.cls, .int .i64 o.kind, .slice o.wa o.wn o.wc, .slice o.ba o.bn o.bc] ∧ Row w10 p9 25 [.int .i64 x.cls, .int .i64 x.kind, .slice x.wa x.wn x.wc, .slice x.ba x.bn x.bc] ∧ Row w10 p11 25 [.int .i64 y.cls, .int .i64 y.kind, .slice y.wa y.wn y.wc, .slice y.ba y.bn y.bc]) := ⟨(b10.block _ HR9.out.1.lt).trans HR9.out.1, (b10.block _ HR9.out.2.1.lt).trans HR9.out.2.1, (b10.block _ HR9.out.2.2.lt).trans HR9.out.2.2⟩
          clear b10 HR9 HB9
          go_wp2
          refine ⟨HR10.out, ?_⟩
          (repeat (refine wpPlanH_free rfl (fun K hK => ?_); go_simp; (try go_bits); refine hK _ ?_; clear hK K))
          refine wpPlanH_load (.agg #[.int .i64 x.cls, .int .i64 x.kind, .slice x.wa x.wn x.wc, .slice x.ba x.bn x.bc]) rfl rfl (fun z hS => by have s0 := hS.2.1.cell (i := 0) rfl; have s1 := hS.2.1.cell (i := 1) rfl; have s2 := hS.2.1.cell (i := 2) rfl; have s3 := hS.2.1.cell (i := 3) rfl; go_simp) (fun K hK => ?_)
          refine hK _ ?_
          clear hK K
          refine wpPlanH_load (.agg #[.int .i64 y.cls, .int .i64 y.kind, .slice y.wa y.wn y.wc, .slice y.ba y.bn y.bc]) rfl rfl (fun z hS => by have s0 := hS.2.2.cell (i := 0) rfl; have s1 := hS.2.2.cell (i := 1) rfl; have s2 := hS.2.2.cell (i := 2) rfl; have s3 := hS.2.2.cell (i := 3) rfl; go_simp) (fun K hK => ?_)
          refine hK _ ?_
          clear hK K
          (repeat (refine wpPlanH_free rfl (fun K hK => ?_); go_simp; (try go_bits); refine hK _ ?_; clear hK K))
          refine wpPlanH_sole rfl ?_
          go_wp2_with fail
          refine (HFO.out w10 HB10.out).mono ?_
          rintro e w11 ⟨rfl, b11⟩
          have HB11 := Lib.hid (bNext HB10.out b11)
          have HR11 : Hid (Row w11 p 25 [.int .i64 o.cls, .int .i64 o.kind, .slice o.wa o.wn o.wc, .slice o.ba o.bn o.bc] ∧ Row w11 p9 25 [.int .i64 x.cls, .int .i64 x.kind, .slice x.wa x.wn x.wc, .slice x.ba x.bn x.bc] ∧ Row w11 p11 25 [.int .i64 y.cls, .int .i64 y.kind, .slice y.wa y.wn y.wc, .slice y.ba y.bn y.bc]) := ⟨(b11.block _ HR10.out.1.lt).trans HR10.out.1, (b11.block _ HR10.out.2.1.lt).trans HR10.out.2.1, (b11.block _ HR10.out.2.2.lt).trans HR10.out.2.2⟩
          clear b11 HR10 HB10
          go_wp2
          refine ⟨HR11.out, ?_⟩
          (repeat (refine wpPlanH_free rfl (fun K hK => ?_); go_simp; (try go_bits); refine hK _ ?_; clear hK K))
          refine wpPlanH_load (.agg #[.int .i64 o.cls, .int .i64 o.kind, .slice o.wa o.wn o.wc, .slice o.ba o.bn o.bc]) rfl rfl (fun z hS => by have s0 := hS.1.cell (i := 0) rfl; have s1 := hS.1.cell (i := 1) rfl; have s2 := hS.1.cell (i := 2) rfl; have s3 := hS.1.cell (i := 3) rfl; go_simp) (fun K hK => ?_)
          refine hK _ ?_
          clear hK K
          (repeat (refine wpPlanH_free rfl (fun K hK => ?_); go_simp; (try go_bits); refine hK _ ?_; clear hK K))
          refine wpPlanH_sole rfl ?_
          go_wp2_with fail
          refine (HFZ.out w11).mono ?_
          rintro e w12 ⟨rfl, b12⟩
          have HB12 := Lib.hid (bNext HB11.out b12)
          have HR12 : Hid (Row w12 p 25 [.int .i64 o.cls, .int .i64 o.kind, .slice o.wa o.wn o.wc, .slice o.ba o.bn o.bc] ∧ Row w12 p9 25 [.int .i64 x.cls, .int .i64 x.kind, .slice x.wa x.wn x.wc, .slice x.ba x.bn x.bc] ∧ Row w12 p11 25 [.int .i64 y.cls, .int .i64 y.kind, .slice y.wa y.wn y.wc, .slice y.ba y.bn y.bc]) := ⟨(b12.block _ HR11.out.1.lt).trans HR11.out.1, (b12.block _ HR11.out.2.1.lt).trans HR11.out.2.1, (b12.block _ HR11.out.2.2.lt).trans HR11.out.2.2⟩
          clear b12 HR11 HB11
          go_wp2
          refine ⟨HR12.out, ?_⟩
          (repeat (refine wpPlanH_free rfl (fun K hK => ?_); go_simp; (try go_bits); refine hK _ ?_; clear hK K))
          refine wpPlanH_load (.agg #[.int .i64 o.cls, .int .i64 o.kind, .slice o.wa o.wn o.wc, .slice o.ba o.bn o.bc]) rfl rfl (fun z hS => by have s0 := hS.1.cell (i := 0) rfl; have s1 := hS.1.cell (i := 1) rfl; have s2 := hS.1.cell (i := 2) rfl; have s3 := hS.1.cell (i := 3) rfl; go_simp) (fun K hK => ?_)
          refine hK _ ?_
          clear hK K
          refine wpPlanH_load (.agg #[.int .i64 o.cls, .int .i64 o.kind, .slice o.wa o.wn o.wc, .slice o.ba o.bn o.bc]) rfl rfl (fun z hS => by have s0 := hS.1.cell (i := 0) rfl; have s1 := hS.1.cell (i := 1) rfl; have s2 := hS.1.cell (i := 2) rfl; have s3 := hS.1.cell (i := 3) rfl; go_simp) (fun K hK => ?_)
          refine hK _ ?_
          clear hK K
          (repeat (refine wpPlanH_free rfl (fun K hK => ?_); go_simp; (try go_bits); refine hK _ ?_; clear hK K))
          refine wpPlanH_sole rfl ?_
          go_wp2_with fail
          refine (HFR.out w12 HB12.out).mono ?_
          rintro e w13 ⟨v13, rfl, own13, b13⟩
          obtain ⟨ar, cr, rfl, hrr, -, -⟩ := owns_reads own13
          have HRR := Lib.hid hrr
          clear own13 hrr
          have HB13 := Lib.hid (bNext HB12.out b13)
          have HR13 : Hid (Row w13 p 25 [.int .i64 o.cls, .int .i64 o.kind, .slice o.wa o.wn o.wc, .slice o.ba o.bn o.bc] ∧ Row w13 p9 25 [.int .i64 x.cls, .int .i64 x.kind, .slice x.wa x.wn x.wc, .slice x.ba x.bn x.bc] ∧ Row w13 p11 25 [.int .i64 y.cls, .int .i64 y.kind, .slice y.wa y.wn y.wc, .slice y.ba y.bn y.bc]) := ⟨(b13.block _ HR12.out.1.lt).trans HR12.out.1, (b13.block _ HR12.out.2.1.lt).trans HR12.out.2.1, (b13.block _ HR12.out.2.2.lt).trans HR12.out.2.2⟩
          clear b13 HR12 HB12
          go_wp2
          refine ⟨HR13.out, ?_⟩
          (repeat (refine wpPlanH_free rfl (fun K hK => ?_); go_simp; (try go_bits); refine hK _ ?_; clear hK K))
          refine wpPlanH_sole rfl ?_
          go_wp2_with fail
          refine (HFQ.out w13 HB13.out).mono ?_
          rintro e w14 ⟨v14, rfl, own14, b14⟩
          obtain ⟨aq, cq, rfl, hrq, -, -⟩ := owns_reads own14
          have HSI := Lib.hid (c_SameIntsYesW ar aq (refsOf (o.cls :: o.W)).length cr cq (refsOf (o.cls :: o.W)) w14 rfl (HRR.out.below b14) hrq HRL.out)
          clear own14 hrq HRR
          have HB14 := Lib.hid (bNext HB13.out b14)
          have HR14 : Hid (Row w14 p 25 [.int .i64 o.cls, .int .i64 o.kind, .slice o.wa o.wn o.wc, .slice o.ba o.bn o.bc] ∧ Row w14 p9 25 [.int .i64 x.cls, .int .i64 x.kind, .slice x.wa x.wn x.wc, .slice x.ba x.bn x.bc] ∧ Row w14 p11 25 [.int .i64 y.cls, .int .i64 y.kind, .slice y.wa y.wn y.wc, .slice y.ba y.bn y.bc]) := ⟨(b14.block _ HR13.out.1.lt).trans HR13.out.1, (b14.block _ HR13.out.2.1.lt).trans HR13.out.2.1, (b14.block _ HR13.out.2.2.lt).trans HR13.out.2.2⟩
          clear b14 HR13 HB13
          go_wp2
          refine ⟨HR14.out, ?_⟩
          (repeat (refine wpPlanH_free rfl (fun K hK => ?_); go_simp; (try go_bits); refine hK _ ?_; clear hK K))
          refine wpPlanH_sole rfl ?_
          go_wp2_with fail
          refine (HSI.out).mono ?_
          rintro e w15 ⟨rfl, b15⟩
          have HB15 := Lib.hid (bNext HB14.out b15)
          have HR15 : Hid (Row w15 p 25 [.int .i64 o.cls, .int .i64 o.kind, .slice o.wa o.wn o.wc, .slice o.ba o.bn o.bc] ∧ Row w15 p9 25 [.int .i64 x.cls, .int .i64 x.kind, .slice x.wa x.wn x.wc, .slice x.ba x.bn x.bc] ∧ Row w15 p11 25 [.int .i64 y.cls, .int .i64 y.kind, .slice y.wa y.wn y.wc, .slice y.ba y.bn y.bc]) := ⟨(b15.block _ HR14.out.1.lt).trans HR14.out.1, (b15.block _ HR14.out.2.1.lt).trans HR14.out.2.1, (b15.block _ HR14.out.2.2.lt).trans HR14.out.2.2⟩
          clear b15 HR14 HB14
          go_wp2
          refine ⟨HR15.out, ?_⟩
          (repeat (refine wpPlanH_free rfl (fun K hK => ?_); go_simp; (try go_bits); refine hK _ ?_; clear hK K))
          refine wpPlanH_sole rfl ?_
          go_wp2_with fail
          refine (c_Known w15).mono ?_
          rintro e w16 ⟨rfl, b16⟩
          have HB16 := Lib.hid (bNext HB15.out b16)
          have HR16 : Hid (Row w16 p 25 [.int .i64 o.cls, .int .i64 o.kind, .slice o.wa o.wn o.wc, .slice o.ba o.bn o.bc] ∧ Row w16 p9 25 [.int .i64 x.cls, .int .i64 x.kind, .slice x.wa x.wn x.wc, .slice x.ba x.bn x.bc] ∧ Row w16 p11 25 [.int .i64 y.cls, .int .i64 y.kind, .slice y.wa y.wn y.wc, .slice y.ba y.bn y.bc]) := ⟨(b16.block _ HR15.out.1.lt).trans HR15.out.1, (b16.block _ HR15.out.2.1.lt).trans HR15.out.2.1, (b16.block _ HR15.out.2.2.lt).trans HR15.out.2.2⟩
          clear b16 HR15 HB15
          go_wp2
          refine ⟨HR16.out, ?_⟩
          (repeat (refine wpPlanH_free rfl (fun K hK => ?_); go_simp; (try go_bits); refine hK _ ?_; clear hK K))
          refine wpPlanH_nil ?_
          go_wp2
          go_ret
          exact ⟨rfl, bNext HB7.out HB16.out⟩

end Go.Proofs.Ytdedidjobjdekaa
