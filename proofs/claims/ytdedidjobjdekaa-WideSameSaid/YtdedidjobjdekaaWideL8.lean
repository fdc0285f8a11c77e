/-
  The law WideSame. (Written by w8gen.py.)
-/
import Derived.Test.YtdedidjobjdekaaWideL7
namespace Go.Proofs.Ytdedidjobjdekaa
open Go.RowKit Go.ChangeShapes Go.WideShapes Go.ChangeAt
set_option linter.unusedVariables false
set_option maxHeartbeats 4000000
set_option maxRecDepth 10000

theorem law_WideSame (a b : ObjD) (w : World) (ha : a.ok w) (hb : b.ok w) : Calls Try.prog 8 #[a.val, b.val] w fun e w' => e = .returned (.bool true) ∧ Below w.heap.size w w' := by
  have hva : a.val = .agg #[.int .i64 a.cls, .int .i64 a.kind, .slice a.wa a.wn a.wc, .slice a.ba a.bn a.bc] := rfl
  have hvb : b.val = .agg #[.int .i64 b.cls, .int .i64 b.kind, .slice b.wa b.wn b.wc, .slice b.ba b.bn b.bc] := rfl
  have HLa := Lib.hid (fun w => c_Long a w)
  have HLb := Lib.hid (fun w => c_Long b w)
  rw [hva, hvb]
  rw [hva] at HLa
  rw [hvb] at HLb
  obtain ⟨w0, hw0⟩ : ∃ z, z = ((w.alloc (.cells #[.int .i64 a.cls, .int .i64 a.kind, .slice a.wa a.wn a.wc, .slice a.ba a.bn a.bc] 25)).alloc (.cells #[.int .i64 b.cls, .int .i64 b.kind, .slice b.wa b.wn b.wc, .slice b.ba b.bn b.bc] 25)) := ⟨_, rfl⟩
  have hbel : Below w.heap.size w w0 := by rw [hw0]; exact bAlloc ((Below.refl _ w).alloc (Nat.le_refl _) _)
  have hsz : w0.heap.size = w.heap.size + 2 := by rw [hw0]; simp
  have r0 : Row w0 w.heap.size 25 [.int .i64 a.cls, .int .i64 a.kind, .slice a.wa a.wn a.wc, .slice a.ba a.bn a.bc] := by
    rw [hw0]
    exact (Row.made w [.int .i64 a.cls, .int .i64 a.kind, .slice a.wa a.wn a.wc, .slice a.ba a.bn a.bc] 25).alloc _
  have r1 : Row w0 (w.heap.size + 1) 25 [.int .i64 b.cls, .int .i64 b.kind, .slice b.wa b.wn b.wc, .slice b.ba b.bn b.bc] := by
    rw [hw0]
    have := Row.made (w.alloc (.cells #[.int .i64 a.cls, .int .i64 a.kind, .slice a.wa a.wn a.wc, .slice a.ba a.bn a.bc] 25)) [.int .i64 b.cls, .int .i64 b.kind, .slice b.wa b.wn b.wc, .slice b.ba b.bn b.bc] 25
    simpa using this
  obtain ⟨p0, hp0⟩ : ∃ z, z = w.heap.size := ⟨_, rfl⟩
  obtain ⟨p1, hp1⟩ : ∃ z, z = w.heap.size + 1 := ⟨_, rfl⟩
  rw [← hp1] at r1
  rw [← hp0] at r0
  have HB0 := Lib.hid hbel
  have HR0 : Hid (Row w0 p0 25 [.int .i64 a.cls, .int .i64 a.kind, .slice a.wa a.wn a.wc, .slice a.ba a.bn a.bc] ∧ Row w0 p1 25 [.int .i64 b.cls, .int .i64 b.kind, .slice b.wa b.wn b.wc, .slice b.ba b.bn b.bc]) := ⟨r0, r1⟩
  have HP := Lib.hid (And.intro hp0 (And.intro hp1 hsz))
  have HP2 := Lib.hid (And.intro hp0 hp1)
  have HW0 := Lib.hid hw0
  have HA := Lib.hid ha
  have HBo := Lib.hid hb
  have HVa := Lib.hid hva
  have HVb := Lib.hid hvb
  clear hbel hsz r0 r1 hp0 hp1 hw0 ha hb hva hvb
  by_cases la : a.wn > 1200 ∨ a.bn > 1200
  · rw [decide_eq_true la] at HLa
    clear la
    go_enter Try.func8, Try.ntmps8
    go_wp2_with fail
    rw [← HW0.out, ← HP2.out.2, ← HP2.out.1]
    refine (HLa.out _).mono ?_
    rintro e w1 ⟨rfl, b1⟩
    have HB1 := Lib.hid (bNext HB0.out b1)
    clear b1
    go_wp2_with fail
    refine (c_Known _).mono ?_
    rintro e wk ⟨rfl, bk⟩
    have HBk := Lib.hid (bNext HB1.out bk)
    clear bk
    go_wp2
    go_ret
    exact ⟨rfl, HBk.out⟩
  · have HNa := Lib.hid la
    rw [decide_eq_false la] at HLa
    clear la
    by_cases lb : b.wn > 1200 ∨ b.bn > 1200
    · rw [decide_eq_true lb] at HLb
      clear lb
      go_enter Try.func8, Try.ntmps8
      go_wp2_with fail
      rw [← HW0.out, ← HP2.out.2, ← HP2.out.1]
      refine (HLa.out _).mono ?_
      rintro e w1 ⟨rfl, b1⟩
      have HB1 := Lib.hid (bNext HB0.out b1)
      have HR1 : Hid (Row w1 p0 25 [.int .i64 a.cls, .int .i64 a.kind, .slice a.wa a.wn a.wc, .slice a.ba a.bn a.bc] ∧ Row w1 p1 25 [.int .i64 b.cls, .int .i64 b.kind, .slice b.wa b.wn b.wc, .slice b.ba b.bn b.bc]) := ⟨(b1.block _ HR0.out.1.lt).trans HR0.out.1, (b1.block _ HR0.out.2.lt).trans HR0.out.2⟩
      clear b1
      have i0 := HR1.out.1.cell (i := 0) rfl
      have i1 := HR1.out.1.cell (i := 1) rfl
      have i2 := HR1.out.1.cell (i := 2) rfl
      have i3 := HR1.out.1.cell (i := 3) rfl
      have j0 := HR1.out.2.cell (i := 0) rfl
      have j1 := HR1.out.2.cell (i := 1) rfl
      have j2 := HR1.out.2.cell (i := 2) rfl
      have j3 := HR1.out.2.cell (i := 3) rfl
      go_wp2_with fail
      refine (HLb.out _).mono ?_
      rintro e w2 ⟨rfl, b2⟩
      have HB2 := Lib.hid (bNext HB1.out b2)
      clear b2
      go_wp2_with fail
      refine (c_Known _).mono ?_
      rintro e wk ⟨rfl, bk⟩
      have HBk := Lib.hid (bNext HB2.out bk)
      clear bk
      go_wp2
      go_ret
      exact ⟨rfl, HBk.out⟩
    · have HNb := Lib.hid lb
      rw [decide_eq_false lb] at HLb
      clear lb
      go_enter Try.func8, Try.ntmps8
      go_wp2_with fail
      rw [← HW0.out, ← HP2.out.2, ← HP2.out.1]
      refine (HLa.out _).mono ?_
      rintro e w1 ⟨rfl, b1⟩
      have HB1 := Lib.hid (bNext HB0.out b1)
      have HR1 : Hid (Row w1 p0 25 [.int .i64 a.cls, .int .i64 a.kind, .slice a.wa a.wn a.wc, .slice a.ba a.bn a.bc] ∧ Row w1 p1 25 [.int .i64 b.cls, .int .i64 b.kind, .slice b.wa b.wn b.wc, .slice b.ba b.bn b.bc]) := ⟨(b1.block _ HR0.out.1.lt).trans HR0.out.1, (b1.block _ HR0.out.2.lt).trans HR0.out.2⟩
      clear b1
      have i0 := HR1.out.1.cell (i := 0) rfl
      have i1 := HR1.out.1.cell (i := 1) rfl
      have i2 := HR1.out.1.cell (i := 2) rfl
      have i3 := HR1.out.1.cell (i := 3) rfl
      have j0 := HR1.out.2.cell (i := 0) rfl
      have j1 := HR1.out.2.cell (i := 1) rfl
      have j2 := HR1.out.2.cell (i := 2) rfl
      have j3 := HR1.out.2.cell (i := 3) rfl
      go_wp2_with fail
      refine (HLb.out _).mono ?_
      rintro e w2 ⟨rfl, b2⟩
      have HB2 := Lib.hid (bNext HB1.out b2)
      have HR2 : Hid (Row w2 p0 25 [.int .i64 a.cls, .int .i64 a.kind, .slice a.wa a.wn a.wc, .slice a.ba a.bn a.bc] ∧ Row w2 p1 25 [.int .i64 b.cls, .int .i64 b.kind, .slice b.wa b.wn b.wc, .slice b.ba b.bn b.bc]) := ⟨(b2.block _ HR1.out.1.lt).trans HR1.out.1, (b2.block _ HR1.out.2.lt).trans HR1.out.2⟩
      clear i0 i1 i2 i3 j0 j1 j2 j3
      clear b2
      have i0 := HR2.out.1.cell (i := 0) rfl
      have i1 := HR2.out.1.cell (i := 1) rfl
      have i2 := HR2.out.1.cell (i := 2) rfl
      have i3 := HR2.out.1.cell (i := 3) rfl
      have j0 := HR2.out.2.cell (i := 0) rfl
      have j1 := HR2.out.2.cell (i := 1) rfl
      have j2 := HR2.out.2.cell (i := 2) rfl
      have j3 := HR2.out.2.cell (i := 3) rfl
      obtain ⟨S, hS⟩ : ∃ S, S = decide (a.cls = b.cls ∧ a.kind = b.kind ∧ a.W = b.W ∧ a.B = b.B) := ⟨_, rfl⟩
      have hSc : decide (b.cls = a.cls ∧ b.kind = a.kind ∧ b.W = a.W ∧ b.B = a.B) = S := by
        rw [hS]
        apply decide_eq_decide.2
        constructor
        · rintro ⟨h1, h2, h3, h4⟩; exact ⟨h1.symm, h2.symm, h3.symm, h4.symm⟩
        · rintro ⟨h1, h2, h3, h4⟩; exact ⟨h1.symm, h2.symm, h3.symm, h4.symm⟩
      have HS := Lib.hid hS
      have HSc := Lib.hid hSc
      have HF1 := Lib.hid (c_WSame a b w2 (HA.out.below HB2.out) (HBo.out.below HB2.out) (by have := HNa.out; omega) (by have := HNb.out; omega) (by have := HNa.out; omega) (by have := HNb.out; omega))
      rw [HVa.out, HVb.out, ← hS] at HF1
      clear hS hSc
      go_wp2_with fail
      refine HF1.out.mono ?_
      clear HF1
      rintro e w3 ⟨rfl, b3⟩
      have HB3 := Lib.hid (bNext HB2.out b3)
      have HR3 : Hid (Row w3 p0 25 [.int .i64 a.cls, .int .i64 a.kind, .slice a.wa a.wn a.wc, .slice a.ba a.bn a.bc] ∧ Row w3 p1 25 [.int .i64 b.cls, .int .i64 b.kind, .slice b.wa b.wn b.wc, .slice b.ba b.bn b.bc]) := ⟨(b3.block _ HR2.out.1.lt).trans HR2.out.1, (b3.block _ HR2.out.2.lt).trans HR2.out.2⟩
      clear i0 i1 i2 i3 j0 j1 j2 j3
      clear b3
      have i0 := HR3.out.1.cell (i := 0) rfl
      have i1 := HR3.out.1.cell (i := 1) rfl
      have i2 := HR3.out.1.cell (i := 2) rfl
      have i3 := HR3.out.1.cell (i := 3) rfl
      have j0 := HR3.out.2.cell (i := 0) rfl
      have j1 := HR3.out.2.cell (i := 1) rfl
      have j2 := HR3.out.2.cell (i := 2) rfl
      have j3 := HR3.out.2.cell (i := 3) rfl
      have HF2 := Lib.hid (c_WCopy a w3 (HA.out.below HB3.out) (by have := HNa.out; omega) (by have := HNa.out; omega))
      rw [HVa.out] at HF2
      go_wp2_with fail
      refine HF2.out.mono ?_
      clear HF2
      rintro e w4 ⟨c, rfl, okc, hcc, hck, hcW, hcB, ownW, ownB, hdis, b4⟩
      have HVc := Lib.hid (show c.val = .agg #[.int .i64 c.cls, .int .i64 c.kind, .slice c.wa c.wn c.wc, .slice c.ba c.bn c.bc] from rfl)
      rw [HVc.out]
      obtain ⟨w5, hw5⟩ : ∃ z, z = (w4.alloc (.cells #[.int .i64 c.cls, .int .i64 c.kind, .slice c.wa c.wn c.wc, .slice c.ba c.bn c.bc] 25)) := ⟨_, rfl⟩
      have b45 : Below w4.heap.size w4 w5 := by rw [hw5]; exact (Below.refl _ w4).alloc (Nat.le_refl _) _
      have b5 : Below w3.heap.size w3 w5 := bNext b4 b45
      obtain ⟨p6, hp6⟩ : ∃ z, z = w4.heap.size := ⟨_, rfl⟩
      have HC5 := Lib.hid (show Row w5 p6 25 [.int .i64 c.cls, .int .i64 c.kind, .slice c.wa c.wn c.wc, .slice c.ba c.bn c.bc] from by rw [hw5, hp6]; exact Row.made w4 _ _)
      have HB5 := Lib.hid (bNext HB3.out b5)
      have HR5 : Hid (Row w5 p0 25 [.int .i64 a.cls, .int .i64 a.kind, .slice a.wa a.wn a.wc, .slice a.ba a.bn a.bc] ∧ Row w5 p1 25 [.int .i64 b.cls, .int .i64 b.kind, .slice b.wa b.wn b.wc, .slice b.ba b.bn b.bc]) := ⟨(b5.block _ HR3.out.1.lt).trans HR3.out.1, (b5.block _ HR3.out.2.lt).trans HR3.out.2⟩
      have HOWl := Lib.hid (fun k hk => ownW.lt k hk)
      have HOBl := Lib.hid (fun k hk => ownB.lt k hk)
      have HOW5 := Lib.hid (ownsSame ownW (fun k hk => b45.block k (ownW.lt k hk).2))
      have HOB5 := Lib.hid (ownsSame ownB (fun k hk => b45.block k (ownB.lt k hk).2))
      have HOKc5 := Lib.hid (okc.below b45)
      have HSZ5 := Lib.hid (show p1 < w3.heap.size ∧ w4.heap.size ≤ w5.heap.size ∧ p0 < w3.heap.size ∧ w.heap.size ≤ w3.heap.size from ⟨HR3.out.2.lt, b45.size, HR3.out.1.lt, HB3.out.size⟩)
      have HCW := Lib.hid (And.intro hcc (And.intro hck (And.intro hcW hcB)))
      have HDIS := Lib.hid hdis
      have hcn : c.wn = a.wn := by rw [okc.wl, HA.out.wl, hcW]
      have hcn2 : c.bn = a.bn := by rw [okc.bl, HA.out.bl, hcB]
      have HCN := Lib.hid (And.intro hcn hcn2)
      have HP6 := Lib.hid hp6
      have HW5 := Lib.hid hw5
      clear i0 i1 i2 i3 j0 j1 j2 j3
      clear okc hcc hck hcW hcB ownW ownB hdis b4 b45 b5 hp6 hw5 hcn hcn2
      have i0 := HR5.out.1.cell (i := 0) rfl
      have i1 := HR5.out.1.cell (i := 1) rfl
      have i2 := HR5.out.1.cell (i := 2) rfl
      have i3 := HR5.out.1.cell (i := 3) rfl
      have j0 := HR5.out.2.cell (i := 0) rfl
      have j1 := HR5.out.2.cell (i := 1) rfl
      have j2 := HR5.out.2.cell (i := 2) rfl
      have j3 := HR5.out.2.cell (i := 3) rfl
      have c0 := HC5.out.cell (i := 0) rfl
      have c1 := HC5.out.cell (i := 1) rfl
      have c2 := HC5.out.cell (i := 2) rfl
      have c3 := HC5.out.cell (i := 3) rfl
      have HG1 := Lib.hid (r_WSame a b w5 (HA.out.below HB5.out) (HBo.out.below HB5.out) (by have := HNa.out; omega) (by have := HNb.out; omega))
      rw [HVa.out, HVb.out, ← HS.out] at HG1
      rw [HW5.out] at HG1 i0 i1 i2 i3 j0 j1 j2 j3 c0 c1 c2 c3
      rw [HP6.out] at c0 c1 c2 c3
      go_wp2_with fail
      refine HG1.out.mono ?_
      clear HG1
      rw [← HW5.out, ← HP6.out]
      rintro e w6 ⟨rfl, b6⟩
      have HB6 := Lib.hid (bNext HB5.out b6)
      have HR6 : Hid (Row w6 p0 25 [.int .i64 a.cls, .int .i64 a.kind, .slice a.wa a.wn a.wc, .slice a.ba a.bn a.bc] ∧ Row w6 p1 25 [.int .i64 b.cls, .int .i64 b.kind, .slice b.wa b.wn b.wc, .slice b.ba b.bn b.bc]) := ⟨(b6.block _ HR5.out.1.lt).trans HR5.out.1, (b6.block _ HR5.out.2.lt).trans HR5.out.2⟩
      have HC6 : Hid (Row w6 p6 25 [.int .i64 c.cls, .int .i64 c.kind, .slice c.wa c.wn c.wc, .slice c.ba c.bn c.bc]) := (b6.block _ HC5.out.lt).trans HC5.out
      have HK6 := Lib.hid b6
      clear i0 i1 i2 i3 j0 j1 j2 j3 c0 c1 c2 c3 b6
      have i0 := HR6.out.1.cell (i := 0) rfl
      have i1 := HR6.out.1.cell (i := 1) rfl
      have i2 := HR6.out.1.cell (i := 2) rfl
      have i3 := HR6.out.1.cell (i := 3) rfl
      have j0 := HR6.out.2.cell (i := 0) rfl
      have j1 := HR6.out.2.cell (i := 1) rfl
      have j2 := HR6.out.2.cell (i := 2) rfl
      have j3 := HR6.out.2.cell (i := 3) rfl
      have c0 := HC6.out.cell (i := 0) rfl
      have c1 := HC6.out.cell (i := 1) rfl
      have c2 := HC6.out.cell (i := 2) rfl
      have c3 := HC6.out.cell (i := 3) rfl
      have HG2 := Lib.hid (r_WSame c a w6 (HOKc5.out.below HK6.out) (HA.out.below HB6.out) (by have := HNa.out; have := HCN.out; omega) (by have := HNa.out; omega))
      rw [HVc.out, HVa.out, decide_eq_true HCW.out] at HG2
      go_wp2_with fail
      refine HG2.out.mono ?_
      clear HG2
      rintro e w7 ⟨rfl, b7⟩
      have HB7 := Lib.hid (bNext HB6.out b7)
      have HR7 : Hid (Row w7 p0 25 [.int .i64 a.cls, .int .i64 a.kind, .slice a.wa a.wn a.wc, .slice a.ba a.bn a.bc] ∧ Row w7 p1 25 [.int .i64 b.cls, .int .i64 b.kind, .slice b.wa b.wn b.wc, .slice b.ba b.bn b.bc]) := ⟨(b7.block _ HR6.out.1.lt).trans HR6.out.1, (b7.block _ HR6.out.2.lt).trans HR6.out.2⟩
      have HC7 : Hid (Row w7 p6 25 [.int .i64 c.cls, .int .i64 c.kind, .slice c.wa c.wn c.wc, .slice c.ba c.bn c.bc]) := (b7.block _ HC6.out.lt).trans HC6.out
      have HK7 := Lib.hid (bNext HK6.out b7)
      clear i0 i1 i2 i3 j0 j1 j2 j3 c0 c1 c2 c3 b7
      have i0 := HR7.out.1.cell (i := 0) rfl
      have i1 := HR7.out.1.cell (i := 1) rfl
      have i2 := HR7.out.1.cell (i := 2) rfl
      have i3 := HR7.out.1.cell (i := 3) rfl
      have j0 := HR7.out.2.cell (i := 0) rfl
      have j1 := HR7.out.2.cell (i := 1) rfl
      have j2 := HR7.out.2.cell (i := 2) rfl
      have j3 := HR7.out.2.cell (i := 3) rfl
      have c0 := HC7.out.cell (i := 0) rfl
      have c1 := HC7.out.cell (i := 1) rfl
      have c2 := HC7.out.cell (i := 2) rfl
      have c3 := HC7.out.cell (i := 3) rfl
      have HG3 := Lib.hid (c_WSame b a w7 (HBo.out.below HB7.out) (HA.out.below HB7.out) (by have := HNb.out; omega) (by have := HNa.out; omega) (by have := HNb.out; omega) (by have := HNa.out; omega))
      rw [HVb.out, HVa.out, HSc.out] at HG3
      go_wp2_with fail
      refine HG3.out.mono ?_
      clear HG3
      rintro e w8 ⟨rfl, b8⟩
      have HB8 := Lib.hid (bNext HB7.out b8)
      have HR8 : Hid (Row w8 p0 25 [.int .i64 a.cls, .int .i64 a.kind, .slice a.wa a.wn a.wc, .slice a.ba a.bn a.bc] ∧ Row w8 p1 25 [.int .i64 b.cls, .int .i64 b.kind, .slice b.wa b.wn b.wc, .slice b.ba b.bn b.bc]) := ⟨(b8.block _ HR7.out.1.lt).trans HR7.out.1, (b8.block _ HR7.out.2.lt).trans HR7.out.2⟩
      have HC8 : Hid (Row w8 p6 25 [.int .i64 c.cls, .int .i64 c.kind, .slice c.wa c.wn c.wc, .slice c.ba c.bn c.bc]) := (b8.block _ HC7.out.lt).trans HC7.out
      have HK8 := Lib.hid (bNext HK7.out b8)
      clear i0 i1 i2 i3 j0 j1 j2 j3 c0 c1 c2 c3 b8
      have i0 := HR8.out.1.cell (i := 0) rfl
      have i1 := HR8.out.1.cell (i := 1) rfl
      have i2 := HR8.out.1.cell (i := 2) rfl
      have i3 := HR8.out.1.cell (i := 3) rfl
      have j0 := HR8.out.2.cell (i := 0) rfl
      have j1 := HR8.out.2.cell (i := 1) rfl
      have j2 := HR8.out.2.cell (i := 2) rfl
      have j3 := HR8.out.2.cell (i := 3) rfl
      have c0 := HC8.out.cell (i := 0) rfl
      have c1 := HC8.out.cell (i := 1) rfl
      have c2 := HC8.out.cell (i := 2) rfl
      have c3 := HC8.out.cell (i := 3) rfl
      have HG4 := Lib.hid (c_WSame a a w8 (HA.out.below HB8.out) (HA.out.below HB8.out) (by have := HNa.out; omega) (by have := HNa.out; omega) (by have := HNa.out; omega) (by have := HNa.out; omega))
      rw [HVa.out, decide_eq_true ⟨rfl, rfl, rfl, rfl⟩] at HG4
      go_wp2_with fail
      refine HG4.out.mono ?_
      clear HG4
      rintro e w9 ⟨rfl, b9⟩
      have HB9 := Lib.hid (bNext HB8.out b9)
      have HR9 : Hid (Row w9 p0 25 [.int .i64 a.cls, .int .i64 a.kind, .slice a.wa a.wn a.wc, .slice a.ba a.bn a.bc] ∧ Row w9 p1 25 [.int .i64 b.cls, .int .i64 b.kind, .slice b.wa b.wn b.wc, .slice b.ba b.bn b.bc]) := ⟨(b9.block _ HR8.out.1.lt).trans HR8.out.1, (b9.block _ HR8.out.2.lt).trans HR8.out.2⟩
      have HC9 : Hid (Row w9 p6 25 [.int .i64 c.cls, .int .i64 c.kind, .slice c.wa c.wn c.wc, .slice c.ba c.bn c.bc]) := (b9.block _ HC8.out.lt).trans HC8.out
      have HK9 := Lib.hid (bNext HK8.out b9)
      clear i0 i1 i2 i3 j0 j1 j2 j3 c0 c1 c2 c3 b9
      have i0 := HR9.out.1.cell (i := 0) rfl
      have i1 := HR9.out.1.cell (i := 1) rfl
      have i2 := HR9.out.1.cell (i := 2) rfl
      have i3 := HR9.out.1.cell (i := 3) rfl
      have j0 := HR9.out.2.cell (i := 0) rfl
      have j1 := HR9.out.2.cell (i := 1) rfl
      have j2 := HR9.out.2.cell (i := 2) rfl
      have j3 := HR9.out.2.cell (i := 3) rfl
      have HX := Lib.hid (c_Encode a w9 (HA.out.below HB9.out) (by have := HNa.out; omega))
      unfold EncPost at HX
      rw [HVa.out] at HX
      go_wp2_with fail
      refine HX.out.mono ?_
      clear HX
      rintro e w10 ⟨v10, rfl, own10, b10⟩
      obtain ⟨ax, cx, rfl, hrx, hcx, hvx⟩ := owns_reads own10
      have HB10 := Lib.hid (bNext HB9.out b10)
      have HR10 : Hid (Row w10 p0 25 [.int .i64 a.cls, .int .i64 a.kind, .slice a.wa a.wn a.wc, .slice a.ba a.bn a.bc] ∧ Row w10 p1 25 [.int .i64 b.cls, .int .i64 b.kind, .slice b.wa b.wn b.wc, .slice b.ba b.bn b.bc]) := ⟨(b10.block _ HR9.out.1.lt).trans HR9.out.1, (b10.block _ HR9.out.2.lt).trans HR9.out.2⟩
      have HC10 : Hid (Row w10 p6 25 [.int .i64 c.cls, .int .i64 c.kind, .slice c.wa c.wn c.wc, .slice c.ba c.bn c.bc]) := (b10.block _ HC9.out.lt).trans HC9.out
      have HK10 := Lib.hid (bNext HK9.out b10)
      have HRX10 := Lib.hid hrx
      have HXB := Lib.hid (show ∀ x, ax = some x → w9.heap.size ≤ x.block from fun x hx => (hvx x hx).1)
      obtain ⟨n, hn⟩ : ∃ n, n = (encO a).length := ⟨_, rfl⟩
      obtain ⟨Ea, hEa⟩ : ∃ z, z = chkE a := ⟨_, rfl⟩
      rw [← hn, ← hEa]
      have HN := Lib.hid hn
      have HEa := Lib.hid hEa
      have HS9 := Lib.hid (show w4.heap.size ≤ w9.heap.size ∧ w9.heap.size ≤ w10.heap.size from ⟨by have := HK9.out.size; have := HSZ5.out; omega, b10.size⟩)
      clear i0 i1 i2 i3 j0 j1 j2 j3 own10 hrx hcx hvx b10 hn hEa
      have c3 := HC10.out.cell (i := 3) rfl
      have hoB10 := ownsSame HOB5.out (fun k hk => HK10.out.block k (by have := HOBl.out k hk; have := HSZ5.out; omega))
      have HSP := Lib.hid (c_SpoilA w3.heap.size c.bn (.slice c.ba c.bn c.bc) c.B w10 hoB10 (by have := HNa.out; have := HCN.out; omega))
      clear hoB10
      go_wp2_with fail
      refine HSP.out.mono ?_
      clear HSP
      rintro e w11 ⟨rfl, L, hL, u11⟩
      have hL3 : ∀ k ∈ L, w3.heap.size ≤ k ∧ k < w4.heap.size := fun k hk => HOBl.out k (hL k hk)
      have HR11 : Hid (Row w11 p0 25 [.int .i64 a.cls, .int .i64 a.kind, .slice a.wa a.wn a.wc, .slice a.ba a.bn a.bc] ∧ Row w11 p1 25 [.int .i64 b.cls, .int .i64 b.kind, .slice b.wa b.wn b.wc, .slice b.ba b.bn b.bc]) := ⟨HR10.out.1.keep u11 (fun hm => by have := hL3 _ hm; have := HSZ5.out; omega), HR10.out.2.keep u11 (fun hm => by have := hL3 _ hm; have := HSZ5.out; omega)⟩
      have HC11 : Hid (Row w11 p6 25 [.int .i64 c.cls, .int .i64 c.kind, .slice c.wa c.wn c.wc, .slice c.ba c.bn c.bc]) := HC10.out.keep u11 (fun hm => by have := hL3 _ hm; have := HP6.out; omega)
      have HB11 := Lib.hid (HB10.out.trans (u11.below HB10.out.size (fun k hk => by have := hL3 k hk; have := HSZ5.out; omega)))
      have HRX11 := Lib.hid (u11.reads HRX10.out (fun x hx hm => by have := hL3 _ hm; have := HXB.out x hx; have := HS9.out; omega))
      have hoW10 := ownsSame HOW5.out (fun k hk => HK10.out.block k (by have := HOWl.out k hk; have := HSZ5.out; omega))
      have hoW11 := u11.owns hoW10 (fun k hk hm => by
        have h1 := hL k hm
        have hd := HDIS.out
        cases hwa : c.wa with
        | none => rw [hwa] at hk; cases hk
        | some x =>
          cases hba : c.ba with
          | none => rw [hba] at h1; cases h1
          | some y =>
            rw [hwa] at hk
            rw [hba] at h1
            simp only [Value.ownBlock, Option.some.injEq] at hk h1
            exact hd x y hwa hba (hk.trans h1.symm))
      have HOW11 := Lib.hid hoW11
      have HWN := Lib.hid (show c.wn ≤ 1200 from by have := HNa.out; have := HCN.out; omega)
      clear u11 hL hL3 hoW10 hoW11 c3
      go_wp2
      go_loopw [9] (fun i wr => ∃ (k : Nat) (m : List Int), k ≤ c.wn ∧ i = .int .i64 k ∧ Hid (wr.ownsRow w3.heap.size 3 1 (.slice c.wa c.wn c.wc) c.wn (m.map (Value.int .i64))) ∧ Hid (∃ G : List Nat, (∀ g ∈ G, w3.heap.size ≤ g ∧ g < w4.heap.size) ∧ Upd G w11 wr)) (fun i _ => c.wn - (intOf i).toNat)
      case atStart => exact ⟨0, c.W, Nat.zero_le _, rfl, HOW11.out, [], fun g hg => by simp at hg, Upd.refl _ _⟩
      case round =>
        obtain ⟨k, m, hk, rfl, hown, hup⟩ := hrel
        have HCr : Hid (Row wr p6 25 [.int .i64 c.cls, .int .i64 c.kind, .slice c.wa c.wn c.wc, .slice c.ba c.bn c.bc]) := by
          obtain ⟨G, hG, u⟩ := hup.out
          exact HC11.out.keep u (fun hm => by have := hG _ hm; have := HP6.out; omega)
        have c2 := HCr.out.cell (i := 2) rfl
        by_cases hlt : k < c.wn
        · have HLT := Lib.hid hlt
          have hkb : k ≤ 1200 := by have := HWN.out; omega
          have hml : m.length = c.wn := by have := hown.out.1; simpa using this
          obtain ⟨g, hg⟩ : ∃ g, c.wa = some ⟨g, 0, none⟩ := by
            rcases hown.out.2 with ⟨h, _⟩ | ⟨g, cap, cur, h, _⟩
            · simp only [Value.slice.injEq] at h; omega
            · simp only [Value.slice.injEq] at h; exact ⟨g, h.1⟩
          have hw9 := hown.out
          rw [hg] at hw9 c2
          have hcell := hw9.cellAt k (by omega)
          have hfro := hw9.frozenAt k
          rw [getD_map8 (by omega)] at hcell
          have hgb : w3.heap.size ≤ g ∧ g < w4.heap.size := HOWl.out g (by rw [hg]; rfl)
          have HST := Lib.hid (hw9.stored k (.int .i64 (-8)))
          have HGB := Lib.hid hgb
          have HG := Lib.hid hg
          clear hml hg hw9 hgb hown
          generalize m.getD k 0 = x at *
          go_wp2
          go_roundw
          case rel =>
            refine ⟨k + 1, m.set k (-8), HLT.out, by go_num, ?_, ?_⟩
            · show World.ownsRow _ _ _ _ _ _ _
              rw [List.map_set, HG.out]
              exact HST.out.1
            · obtain ⟨G, hG, u⟩ := hup.out
              exact ⟨g :: G, fun q hq => by
                rcases List.mem_cons.1 hq with rfl | h
                · exact HGB.out
                · exact hG q h, (u.mono (m := g :: G) (fun q hq => List.mem_cons_of_mem _ hq)).setCell (p := ⟨g, k, none⟩) (by simp) _⟩
          case measure => have := HLT.out; simp [intOf]; omega
        · obtain ⟨G, hG, u⟩ := hup.out
          have HR12 : Hid (Row wr p0 25 [.int .i64 a.cls, .int .i64 a.kind, .slice a.wa a.wn a.wc, .slice a.ba a.bn a.bc] ∧ Row wr p1 25 [.int .i64 b.cls, .int .i64 b.kind, .slice b.wa b.wn b.wc, .slice b.ba b.bn b.bc]) := ⟨HR11.out.1.keep u (fun hm => by have := hG _ hm; have := HSZ5.out; omega), HR11.out.2.keep u (fun hm => by have := hG _ hm; have := HSZ5.out; omega)⟩
          have HB12 := Lib.hid (HB11.out.trans (u.below HB11.out.size (fun k hk => by have := hG k hk; have := HSZ5.out; omega)))
          have HRX12 := Lib.hid (u.reads HRX11.out (fun x hx hm => by have := hG _ hm; have := HXB.out x hx; have := HS9.out; omega))
          obtain ⟨w12, rfl⟩ : ∃ z, z = wr := ⟨_, rfl⟩
          have HF := Lib.hid (c_Encode b w12 (HBo.out.below HB12.out) (by have := HNb.out; omega))
          unfold EncPost at HF
          rw [HVb.out] at HF
          have j0 := HR12.out.2.cell (i := 0) rfl
          have j1 := HR12.out.2.cell (i := 1) rfl
          have j2 := HR12.out.2.cell (i := 2) rfl
          have j3 := HR12.out.2.cell (i := 3) rfl
          have hkw : k = c.wn := by omega
          clear hown hup hG u hlt
          go_wp2_with fail
          refine HF.out.mono ?_
          clear HF
          rintro e w13 ⟨v13, rfl, own13, b13⟩
          obtain ⟨ay, cy, rfl, hry, -, -⟩ := owns_reads own13
          have HB13 := Lib.hid (bNext HB12.out b13)
          have HR13 : Hid (Row w13 p0 25 [.int .i64 a.cls, .int .i64 a.kind, .slice a.wa a.wn a.wc, .slice a.ba a.bn a.bc] ∧ Row w13 p1 25 [.int .i64 b.cls, .int .i64 b.kind, .slice b.wa b.wn b.wc, .slice b.ba b.bn b.bc]) := ⟨(b13.block _ HR12.out.1.lt).trans HR12.out.1, (b13.block _ HR12.out.2.lt).trans HR12.out.2⟩
          have HRX13 := Lib.hid (HRX12.out.below b13)
          have HRY13 := Lib.hid hry
          obtain ⟨n2, hn2⟩ : ∃ n, n = (encO b).length := ⟨_, rfl⟩
          obtain ⟨Eb, hEb⟩ : ∃ z, z = chkE b := ⟨_, rfl⟩
          rw [← hn2, ← hEb]
          have HN2 := Lib.hid hn2
          have HEb := Lib.hid hEb
          clear own13 hry b13 hn2 hEb j0 j1 j2 j3 c2
          have HF := Lib.hid (c_Encode a w13 (HA.out.below HB13.out) (by have := HNa.out; omega))
          unfold EncPost at HF
          rw [HVa.out] at HF
          have i0 := HR13.out.1.cell (i := 0) rfl
          have i1 := HR13.out.1.cell (i := 1) rfl
          have i2 := HR13.out.1.cell (i := 2) rfl
          have i3 := HR13.out.1.cell (i := 3) rfl
          go_wp2_with fail
          refine HF.out.mono ?_
          clear HF
          rintro e w14 ⟨v14, rfl, own14, b14⟩
          obtain ⟨az, cz, rfl, hrz, -, -⟩ := owns_reads own14
          rw [← HN.out, ← HEa.out]
          have HB14 := Lib.hid (bNext HB13.out b14)
          have HF1 := Lib.hid (c_Same ax az n n cx cz (encO a) (encO a) w14 HN.out HN.out (HRX13.out.below b14) hrz (encO_byt HA.out.bb) (encO_byt HA.out.bb))
          rw [decide_eq_true rfl] at HF1
          have HF2 := Lib.hid (c_Same ax ay n n2 cx cy (encO a) (encO b) w14 HN.out HN2.out (HRX13.out.below b14) (HRY13.out.below b14) (encO_byt HA.out.bb) (encO_byt HBo.out.bb))
          clear own14 hrz b14 i0 i1 i2 i3
          go_wp2_with fail
          refine HF1.out.mono ?_
          clear HF1
          rintro e w15 ⟨rfl, rfl⟩
          have KN := Lib.hid (c_Known w14)
          by_cases ea : okObj a.cls a.kind a.W a.B
          · have e1 : Ea = 0 := by rw [HEa.out]; unfold chkE; rw [if_pos ea]
            subst e1
            by_cases eb : okObj b.cls b.kind b.W b.B
            · have e2 : Eb = 0 := by rw [HEb.out]; unfold chkE; rw [if_pos eb]
              subst e2
              have hsame : decide (encO a = encO b) = S := by
                rw [HS.out]
                apply decide_eq_decide.2
                have da := dec_enc ea
                have db := dec_enc eb
                have xa : encO a = encB a.cls a.kind a.W a.B := by unfold encO; rw [if_pos ea]
                have xb : encO b = encB b.cls b.kind b.W b.B := by unfold encO; rw [if_pos eb]
                rw [xa, xb]
                constructor
                · intro h
                  rw [h] at da
                  exact ⟨da.1.symm.trans db.1, da.2.1.symm.trans db.2.1, da.2.2.1.symm.trans db.2.2.1, da.2.2.2.symm.trans db.2.2.2⟩
                · rintro ⟨h1, h2, h3, h4⟩
                  rw [h1, h2, h3, h4]
              rw [hsame] at HF2
              clear hsame ea eb
              go_wp2_with fail
              refine HF2.out.mono ?_
              clear HF2
              rintro e w15 ⟨rfl, rfl⟩
              go_wp2_with fail
              refine KN.out.mono ?_
              rintro e w16 ⟨rfl, b16⟩
              have HB16 := Lib.hid (bNext HB14.out b16)
              clear b16
              go_wp2
              go_ret
              exact ⟨rfl, HB16.out⟩
            · have e2 : Eb = 2 := by rw [HEb.out]; unfold chkE; rw [if_neg eb]
              subst e2
              clear ea eb HF2
              go_wp2_with fail
              refine KN.out.mono ?_
              rintro e w16 ⟨rfl, b16⟩
              have HB16 := Lib.hid (bNext HB14.out b16)
              clear b16
              go_wp2
              go_ret
              exact ⟨rfl, HB16.out⟩
          · have e1 : Ea = 2 := by rw [HEa.out]; unfold chkE; rw [if_neg ea]
            subst e1
            clear ea HF2
            go_wp2_with fail
            refine KN.out.mono ?_
            rintro e w16 ⟨rfl, b16⟩
            have HB16 := Lib.hid (bNext HB14.out b16)
            clear b16
            go_wp2
            go_ret
            exact ⟨rfl, HB16.out⟩

end Go.Proofs.Ytdedidjobjdekaa
