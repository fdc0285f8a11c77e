/-
  The law ExtentSet. (Written by exsetgen.py.)
-/
import Derived.Test.YtpbokmmobepolaaExtR
import Derived.Test.YtpbokmmobepolaaExtF
import Derived.Test.YtpbokmmobepolaaPlanU
namespace Go.Proofs.Ytpbokmmobepolaa
open Go.RowKit Go.Maps
set_option linter.unusedVariables false
set_option maxHeartbeats 4000000
set_option maxRecDepth 20000

theorem law_ExtentSet (a0 : Int) (a1 : Option Addr) (len1 cap1 : Nat) (z1 : List Int) (a2 : Option Addr) (len2 cap2 : Nat) (z2 : List Int) (a3 : Option Addr) (len3 cap3 : Nat) (z3 : List Int) (w : World) (w0 : (Lit.int .u8 a0).wf = true) (w1 : Came .u8 w a1 len1 cap1 z1) (w2 : Came .u8 w a2 len2 cap2 z2) (w3 : Came .u8 w a3 len3 cap3 z3) (s1 : len1 ≤ 140737488351232) (s2 : len2 ≤ 140737488351232) (s3 : len3 ≤ 140737488351232) :
    Calls Try.prog 6 #[.int .u8 a0, .slice a1 len1 cap1, .slice a2 len2 cap2, .slice a3 len3 cap3] w fun e w' => e = .returned (.bool true) ∧ Below w.heap.size w w' := by
  obtain ⟨b0, b1⟩ := bounds_u8 w0
  obtain ⟨N, rfl⟩ := Int.eq_ofNat_of_zero_le b0
  have hN : N ≤ 255 := by omega
  obtain ⟨l1, e1, hc1, hm1, r1, y1⟩ := w1.reads
  obtain ⟨l2, e2, hc2, hm2, r2, y2⟩ := w2.reads
  obtain ⟨l3, e3, hc3, hm3, r3, y3⟩ := w3.reads
  unfold maxLen at hm1 hm2 hm3
  have HR1 := Lib.hid r1
  have HBY1 : Hid (Byt l1) := fun x hx => bounds_u8 (y1 x hx)
  have HE1 := Lib.hid e1
  clear r1 y1 e1
  have HR2 := Lib.hid r2
  have HBY2 : Hid (Byt l2) := fun x hx => bounds_u8 (y2 x hx)
  have HE2 := Lib.hid e2
  clear r2 y2 e2
  have HR3 := Lib.hid r3
  have HBY3 : Hid (Byt l3) := fun x hx => bounds_u8 (y3 x hx)
  have HE3 := Lib.hid e3
  clear r3 y3 e3
  clear w0 w1 w2 w3 b0 b1
  by_cases hl : (4000 : Int) < (len1 : Int) + (len2 : Int) + (len3 : Int)
  · go_enter Try.func6, Try.ntmps6
    go_wp2_with fail
    refine (c_known04 _).mono ?_
    rintro e w' ⟨rfl, bk⟩
    go_wp2
    go_ret
    exact ⟨rfl, bk⟩
  have l1000 : len1 ≤ 4000 := by omega
  have l2000 : len2 ≤ 4000 := by omega
  have l3000 : len3 ≤ 4000 := by omega
  go_enter Try.func6, Try.ntmps6
  go_wp2_with fail
  refine (gNew N _ (by omega)).mono ?_
  rintro e v0 ⟨I, rfl, hg, hi, hb⟩
  have HG := Lib.hid hg
  have HI := Lib.hid hi
  have HB := Lib.hid hb
  generalize hM : w.heap.size = M at *
  have HM := Lib.hid hM
  clear hg hi hb hM
  go_wp2_with fail
  refine (gPut HG.out (by omega) (by omega) l1 a1 len1 cap1 HE1.out (by omega) HBY1.out (HR1.out.below (by rw [HM.out]; exact HB.out)) hc1 (argOut HR1.out HE1.out HM.out HI.out)).mono ?_
  rintro e v1 (⟨hf, rfl, hg, ku⟩ | ⟨F, hf, rfl, hg, ku⟩)
  · have HG := Lib.hid hg
    have HB := Lib.hid (HB.out.trans (ku.below (by have h1 := HB.out.size; have h2 := HM.out; omega) HI.out))
    clear hf hg ku
    unfold exA
    obtain ⟨W1, hW⟩ : ∃ z, z = v1.alloc (.cells #[.int .i64 0, .int .i64 0, .int .i64 0] 34) := ⟨_, rfl⟩
    obtain ⟨X1, hX⟩ : ∃ z, z = v1.heap.size := ⟨_, rfl⟩
    have hb : Below v1.heap.size v1 W1 := by rw [hW]; exact (Below.refl _ _).alloc (Nat.le_refl _) _
    have rr : Row W1 X1 34 [.int .i64 0, .int .i64 0, .int .i64 0] := by rw [hW, hX]; exact Row.made v1 _ _
    have HNX1 : Hid (X1 ∉ I.all) := fun hm => by have := HG.out.lt _ hm; omega
    have HX1 := Lib.hid rr
    have HG := Lib.hid (HG.out.below hb)
    have HB := Lib.hid (HB.out.trans (hb.mono (by have h1 := HB.out.size; have h2 := HM.out; omega)))
    have HWW := Lib.hid hW
    have HXX := Lib.hid hX
    clear hb rr hW hX
    go_wp2_with fail
    rw [← HWW.out, ← HXX.out]
    clear HWW HXX
    refine (gPut HG.out (by omega) (by omega) l2 a2 len2 cap2 HE2.out (by omega) HBY2.out (HR2.out.below (by rw [HM.out]; exact HB.out)) hc2 (argOut HR2.out HE2.out HM.out HI.out)).mono ?_
    rintro e v2 (⟨hf, rfl, hg, ku⟩ | ⟨G, hf, rfl, hg, ku⟩)
    · have HG := Lib.hid hg
      have HB := Lib.hid (HB.out.trans (ku.below (by have h1 := HB.out.size; have h2 := HM.out; omega) HI.out))
      clear hf hg ku
      unfold exA
      obtain ⟨W2, hW⟩ : ∃ z, z = v2.alloc (.cells #[.int .i64 0, .int .i64 0, .int .i64 0] 34) := ⟨_, rfl⟩
      obtain ⟨X2, hX⟩ : ∃ z, z = v2.heap.size := ⟨_, rfl⟩
      have hb : Below v2.heap.size v2 W2 := by rw [hW]; exact (Below.refl _ _).alloc (Nat.le_refl _) _
      have rr : Row W2 X2 34 [.int .i64 0, .int .i64 0, .int .i64 0] := by rw [hW, hX]; exact Row.made v2 _ _
      have HNX2 : Hid (X2 ∉ I.all) := fun hm => by have := HG.out.lt _ hm; omega
      have HX2 := Lib.hid rr
      have HG := Lib.hid (HG.out.below hb)
      have HB := Lib.hid (HB.out.trans (hb.mono (by have h1 := HB.out.size; have h2 := HM.out; omega)))
      have HWW := Lib.hid hW
      have HXX := Lib.hid hX
      clear hb rr hW hX
      go_wp2_with fail
      rw [← HWW.out]
      refine (c_known04 _).mono ?_
      rintro e w' ⟨rfl, bk⟩
      have HB := Lib.hid (HB.out.trans (bk.mono (by have h1 := HB.out.size; have h2 := HM.out; omega)))
      clear bk
      go_wp2
      go_ret
      exact ⟨rfl, by rw [HM.out]; exact HB.out⟩

    · have HG := Lib.hid hg
      have HB := Lib.hid (HB.out.trans (ku.below (by have h1 := HB.out.size; have h2 := HM.out; omega) HI.out))
      clear hf hg ku
      unfold exA
      obtain ⟨W2, hW⟩ : ∃ z, z = v2.alloc (.cells #[.int .i64 G, .int .i64 (secs l2.length : Nat), .int .i64 (l2.length : Nat)] 34) := ⟨_, rfl⟩
      obtain ⟨X2, hX⟩ : ∃ z, z = v2.heap.size := ⟨_, rfl⟩
      have hb : Below v2.heap.size v2 W2 := by rw [hW]; exact (Below.refl _ _).alloc (Nat.le_refl _) _
      have rr : Row W2 X2 34 [.int .i64 G, .int .i64 (secs l2.length : Nat), .int .i64 (l2.length : Nat)] := by rw [hW, hX]; exact Row.made v2 _ _
      have HNX2 : Hid (X2 ∉ I.all) := fun hm => by have := HG.out.lt _ hm; omega
      have HX2 := Lib.hid rr
      have HG := Lib.hid (HG.out.below hb)
      have HB := Lib.hid (HB.out.trans (hb.mono (by have h1 := HB.out.size; have h2 := HM.out; omega)))
      have HWW := Lib.hid hW
      have HXX := Lib.hid hX
      clear hb rr hW hX
      go_wp2_with fail
      rw [← HWW.out]
      refine (c_known04 _).mono ?_
      rintro e w' ⟨rfl, bk⟩
      have HB := Lib.hid (HB.out.trans (bk.mono (by have h1 := HB.out.size; have h2 := HM.out; omega)))
      clear bk
      go_wp2
      go_ret
      exact ⟨rfl, by rw [HM.out]; exact HB.out⟩
  have HG := Lib.hid hg
  have HF := Lib.hid hf
  have HB := Lib.hid (HB.out.trans (ku.below (by have h1 := HB.out.size; have h2 := HM.out; omega) HI.out))
  clear hf hg ku
  unfold exA
  obtain ⟨W1, hW⟩ : ∃ z, z = v1.alloc (.cells #[.int .i64 F, .int .i64 (secs l1.length : Nat), .int .i64 (l1.length : Nat)] 34) := ⟨_, rfl⟩
  obtain ⟨X1, hX⟩ : ∃ z, z = v1.heap.size := ⟨_, rfl⟩
  have hb : Below v1.heap.size v1 W1 := by rw [hW]; exact (Below.refl _ _).alloc (Nat.le_refl _) _
  have rr : Row W1 X1 34 [.int .i64 F, .int .i64 (secs l1.length : Nat), .int .i64 (l1.length : Nat)] := by rw [hW, hX]; exact Row.made v1 _ _
  have HNX1 : Hid (X1 ∉ I.all) := fun hm => by have := HG.out.lt _ hm; omega
  have HX1 := Lib.hid rr
  have HG := Lib.hid (HG.out.below hb)
  have HB := Lib.hid (HB.out.trans (hb.mono (by have h1 := HB.out.size; have h2 := HM.out; omega)))
  have HWW := Lib.hid hW
  have HXX := Lib.hid hX
  clear hb rr hW hX
  go_wp2_with fail
  rw [← HWW.out, ← HXX.out]
  clear HWW HXX
  refine (gPut HG.out (by omega) (by omega) l2 a2 len2 cap2 HE2.out (by omega) HBY2.out (HR2.out.below (by rw [HM.out]; exact HB.out)) hc2 (argOut HR2.out HE2.out HM.out HI.out)).mono ?_
  rintro e v2 (⟨hf, rfl, hg, ku⟩ | ⟨G, hf, rfl, hg, ku⟩)
  · have HG := Lib.hid hg
    have HB := Lib.hid (HB.out.trans (ku.below (by have h1 := HB.out.size; have h2 := HM.out; omega) HI.out))
    clear hf hg ku
    unfold exA
    obtain ⟨W2, hW⟩ : ∃ z, z = v2.alloc (.cells #[.int .i64 0, .int .i64 0, .int .i64 0] 34) := ⟨_, rfl⟩
    obtain ⟨X2, hX⟩ : ∃ z, z = v2.heap.size := ⟨_, rfl⟩
    have hb : Below v2.heap.size v2 W2 := by rw [hW]; exact (Below.refl _ _).alloc (Nat.le_refl _) _
    have rr : Row W2 X2 34 [.int .i64 0, .int .i64 0, .int .i64 0] := by rw [hW, hX]; exact Row.made v2 _ _
    have HNX2 : Hid (X2 ∉ I.all) := fun hm => by have := HG.out.lt _ hm; omega
    have HX2 := Lib.hid rr
    have HG := Lib.hid (HG.out.below hb)
    have HB := Lib.hid (HB.out.trans (hb.mono (by have h1 := HB.out.size; have h2 := HM.out; omega)))
    have HWW := Lib.hid hW
    have HXX := Lib.hid hX
    clear hb rr hW hX
    go_wp2_with fail
    rw [← HWW.out]
    refine (c_known04 _).mono ?_
    rintro e w' ⟨rfl, bk⟩
    have HB := Lib.hid (HB.out.trans (bk.mono (by have h1 := HB.out.size; have h2 := HM.out; omega)))
    clear bk
    go_wp2
    go_ret
    exact ⟨rfl, by rw [HM.out]; exact HB.out⟩

  have HG : Hid (SG v2 I [(F, l1), (G, l2)] N 2) := hg
  have HF2 := Lib.hid hf
  have HB := Lib.hid (HB.out.trans (ku.below (by have h1 := HB.out.size; have h2 := HM.out; omega) HI.out))
  have HX1 := Lib.hid (HX1.out.keep ku HNX1.out)
  clear hf hg ku
  unfold exA
  obtain ⟨W2, hW⟩ : ∃ z, z = v2.alloc (.cells #[.int .i64 G, .int .i64 (secs l2.length : Nat), .int .i64 (l2.length : Nat)] 34) := ⟨_, rfl⟩
  obtain ⟨X2, hX⟩ : ∃ z, z = v2.heap.size := ⟨_, rfl⟩
  have hb : Below v2.heap.size v2 W2 := by rw [hW]; exact (Below.refl _ _).alloc (Nat.le_refl _) _
  have rr : Row W2 X2 34 [.int .i64 G, .int .i64 (secs l2.length : Nat), .int .i64 (l2.length : Nat)] := by rw [hW, hX]; exact Row.made v2 _ _
  have HNX2 : Hid (X2 ∉ I.all) := fun hm => by have := HG.out.lt _ hm; omega
  have HX2 := Lib.hid rr
  have HG := Lib.hid (HG.out.below hb)
  have HB := Lib.hid (HB.out.trans (hb.mono (by have h1 := HB.out.size; have h2 := HM.out; omega)))
  have HX1 := Lib.hid (HX1.out.keep (l := []) (.of_below hb) (by simp))
  have HWW := Lib.hid hW
  have HXX := Lib.hid hX
  clear hb rr hW hX
  go_wp2_with fail
  rw [← HWW.out, ← HXX.out]
  clear HWW HXX
  refine (gUsed HG.out).mono ?_
  rintro e w' ⟨rfl, rfl⟩
  obtain ⟨U, hU⟩ : ∃ U, U = ([(F, l1), (G, l2)].map rN).sum := ⟨_, rfl⟩
  rw [← hU]
  have HU := Lib.hid hU
  clear hU
  have c10 := HX1.out.cell (i := 0) rfl
  have c11 := HX1.out.cell (i := 1) rfl
  have c12 := HX1.out.cell (i := 2) rfl
  go_wp2_with fail
  refine (gSet HG.out (by omega) (by omega) (j := 0) (x := (F, l1)) rfl (by have := HE1.out; show l1.length ≤ _; omega) l3 a3 len3 cap3 HE3.out (by omega) HBY3.out (HR3.out.below (by rw [HM.out]; exact HB.out)) hc3 (argOut HR3.out HE3.out HM.out HI.out)).mono ?_
  clear c10 c11 c12
  rintro e v3 ⟨ku, h⟩
  have HB := Lib.hid (HB.out.trans (ku.below (by have h1 := HB.out.size; have h2 := HM.out; omega) HI.out))
  have HX1 := Lib.hid (HX1.out.keep ku HNX1.out)
  have HX2 := Lib.hid (HX2.out.keep ku HNX2.out)
  clear ku
  rcases h with ⟨ks, rfl, hg⟩ | ⟨ks, kf, rfl, hg⟩ | ⟨ks, G2, kf, rfl, hg⟩
  · have HG : Hid (SG v3 I [(G, l2), (F, l3)] N 3) := hg
    clear ks hg
    unfold exA
    obtain ⟨W3, hW⟩ : ∃ z, z = v3.alloc (.cells #[.int .i64 F, .int .i64 (secs l3.length : Nat), .int .i64 (l3.length : Nat)] 34) := ⟨_, rfl⟩
    obtain ⟨X3, hX⟩ : ∃ z, z = v3.heap.size := ⟨_, rfl⟩
    have hb : Below v3.heap.size v3 W3 := by rw [hW]; exact (Below.refl _ _).alloc (Nat.le_refl _) _
    have rr : Row W3 X3 34 [.int .i64 F, .int .i64 (secs l3.length : Nat), .int .i64 (l3.length : Nat)] := by rw [hW, hX]; exact Row.made v3 _ _
    have HNX3 : Hid (X3 ∉ I.all) := fun hm => by have := HG.out.lt _ hm; omega
    have HX3 := Lib.hid rr
    have HG := Lib.hid (HG.out.below hb)
    have HB := Lib.hid (HB.out.trans (hb.mono (by have h1 := HB.out.size; have h2 := HM.out; omega)))
    have HX1 := Lib.hid (HX1.out.keep (l := []) (.of_below hb) (by simp))
    have HX2 := Lib.hid (HX2.out.keep (l := []) (.of_below hb) (by simp))
    have HWW := Lib.hid hW
    have HXX := Lib.hid hX
    clear hb rr hW hX
    have c20 := HX2.out.cell (i := 0) rfl
    have c21 := HX2.out.cell (i := 1) rfl
    have c22 := HX2.out.cell (i := 2) rfl
    rw [HWW.out] at c20 c21 c22
    go_wp2_with fail
    rw [← HWW.out, ← HXX.out]
    clear HWW HXX
    refine (gGet HG.out (by omega) (by omega) (x := (G, l2)) (by simp)).mono ?_
    clear c20 c21 c22
    rintro e v4 ⟨ga, gc, rfl, hgr, hgb, hg, ku⟩
    have HG := Lib.hid hg
    have HGR := Lib.hid hgr
    have HB := Lib.hid (HB.out.trans (ku.below (by have h1 := HB.out.size; have h2 := HM.out; omega) HI.out))
    have HX1 := Lib.hid (HX1.out.keep ku HNX1.out)
    have HX2 := Lib.hid (HX2.out.keep ku HNX2.out)
    have HX3 := Lib.hid (HX3.out.keep ku HNX3.out)
    clear hg ku hgr hgb
    go_wp2_with fail
    have hSM := c_Same ga a2 _ len2 gc cap2 l2 l2 _ rfl HE2.out HGR.out (HR2.out.below (by rw [HM.out]; exact HB.out)) HBY2.out HBY2.out
    rw [show decide (l2 = l2) = true from decide_eq_true rfl] at hSM
    refine hSM.mono ?_
    clear hSM
    rintro e w' ⟨rfl, rfl⟩
    have c30 := HX3.out.cell (i := 0) rfl
    have c31 := HX3.out.cell (i := 1) rfl
    have c32 := HX3.out.cell (i := 2) rfl
    go_wp2_with fail
    refine (gGet HG.out (by omega) (by omega) (x := (F, l3)) (by simp)).mono ?_
    clear c30 c31 c32
    rintro e v5 ⟨ga, gc, rfl, hgr, hgb, hg, ku⟩
    have HG := Lib.hid hg
    have HGR := Lib.hid hgr
    have HB := Lib.hid (HB.out.trans (ku.below (by have h1 := HB.out.size; have h2 := HM.out; omega) HI.out))
    have HX2 := Lib.hid (HX2.out.keep ku HNX2.out)
    clear hg ku hgr hgb
    have c21 := HX2.out.cell (i := 1) rfl
    go_wp2_with fail
    refine wp_region_U (fun z : World => z.cell? ⟨X2, 1, none⟩ = some (.int .i64 (secs l2.length : Nat))) [0, 1, 2, 3, 4, 5, 6, 7, 8, 9, 10, 11, 12, 13, 14, 15, 16, 17, 18] (.load 0 (.load 1 (.load 2 (.load 3 (.load 4 (.sole 5 (.load 6 (.load 7 (.load 8 (.load 10 (.load 11 (.load 12 (.load 13 (.sole 9 (.sole 14 (.load 15 (.load 16 (.load 17 (.load 18 (.late 19 (.free 20 (.free 21 .fin)))))))))))))))))))))) (by kernel_rfl) (by kernel_rfl) (fun _ _ _ _ _ h => h) ?_
    have HS : (fun z : World => z.cell? ⟨X2, 1, none⟩ = some (.int .i64 (secs l2.length : Nat))) v5.drew := c21
    clear c21
    have HG := Lib.hid (HG.out.below (bDrew (Below.refl _ v5)))
    have HGR := Lib.hid (HGR.out.below (bDrew (Below.refl _ v5)))
    have HB := Lib.hid HB.out.drew
    have HU2 := Lib.hid (gUsed HG.out)
    have HSUM : Hid (([(G, l2), (F, l3)].map rN).sum = secs l2.length + secs l3.length) := by unfold Hid; simp [rN]
    rw [HSUM.out] at HU2
    generalize v5.drew = v6 at HS HG HGR HB HU2 ⊢
    (repeat (refine wpU_pure HS rfl (fun K hK => ?_); go_simp; (try go_bits); refine hK _ ?_; clear hK K))
    refine wpU_sole rfl ?_
    go_wp2_with fail
    have hSM := c_Same ga a3 _ len3 gc cap3 l3 l3 _ rfl HE3.out HGR.out (HR3.out.below (by rw [HM.out]; exact HB.out)) HBY3.out HBY3.out
    rw [show decide (l3 = l3) = true from decide_eq_true rfl] at hSM
    refine hSM.mono ?_
    clear hSM
    rintro e w' ⟨rfl, rfl⟩
    go_wp2
    refine ⟨HS, ?_⟩
    (repeat (refine wpU_pure HS rfl (fun K hK => ?_); go_simp; (try go_bits); refine hK _ ?_; clear hK K))
    refine wpU_load (.int .i64 (secs l2.length : Nat)) HS rfl rfl (fun x hS => by go_simp) (fun K hK => ?_)
    refine hK _ ?_
    clear hK K
    (repeat (refine wpU_pure HS rfl (fun K hK => ?_); go_simp; (try go_bits); refine hK _ ?_; clear hK K))
    refine wpU_sole rfl ?_
    go_wp2_with fail
    refine HU2.out.mono ?_
    rintro e w' ⟨rfl, rfl⟩
    go_wp2
    refine ⟨HS, ?_⟩
    refine wpU_sole rfl ?_
    go_wp2_with fail
    have hRS : Calls Try.prog 9 #[.int .i64 len3] v6 fun e w' => e = .returned (.int .i64 (secs l3.length : Nat)) ∧ v6 = w' := by
      have := c_RSectors len3 v6 (by omega)
      rw [HE3.out] at this ⊢
      exact this
    refine hRS.mono ?_
    rintro e w' ⟨rfl, rfl⟩
    clear hRS
    go_wp2
    refine ⟨HS, ?_⟩
    have hw : RowKit.wrap64 (((secs l2.length : Nat) : Int) + ((secs l3.length : Nat) : Int)) = ((secs l2.length : Nat) : Int) + ((secs l3.length : Nat) : Int) := by
      have q1 := secs_le l2.length
      have q2 := secs_le l3.length
      have q3 := HE2.out
      have q4 := HE3.out
      unfold RowKit.wrap64
      omega
    (repeat (refine wpU_pure HS rfl (fun K hK => ?_); go_simp; (try go_bits); refine hK _ ?_; clear hK K))
    refine wpU_late rfl ?_
    go_wp2_with fail
    refine (c_known04 _).mono ?_
    rintro e w' ⟨rfl, bk⟩
    have HB := Lib.hid (HB.out.trans (bk.mono (by have h1 := HB.out.size; have h2 := HM.out; omega)))
    clear bk
    go_wp2
    (repeat (refine wpU_free rfl (fun K hK => ?_); go_simp; (try go_bits); refine hK _ ?_; clear hK K))
    refine wpU_fin ?_
    go_wp2
    go_ret
    exact ⟨rfl, by rw [HM.out]; exact HB.out⟩
  · clear ks kf
    have HG := Lib.hid hg
    clear hg
    unfold exA
    obtain ⟨W3, hW⟩ : ∃ z, z = v3.alloc (.cells #[.int .i64 0, .int .i64 0, .int .i64 0] 34) := ⟨_, rfl⟩
    obtain ⟨X3, hX⟩ : ∃ z, z = v3.heap.size := ⟨_, rfl⟩
    have hb : Below v3.heap.size v3 W3 := by rw [hW]; exact (Below.refl _ _).alloc (Nat.le_refl _) _
    have rr : Row W3 X3 34 [.int .i64 0, .int .i64 0, .int .i64 0] := by rw [hW, hX]; exact Row.made v3 _ _
    have HNX3 : Hid (X3 ∉ I.all) := fun hm => by have := HG.out.lt _ hm; omega
    have HX3 := Lib.hid rr
    have HG := Lib.hid (HG.out.below hb)
    have HB := Lib.hid (HB.out.trans (hb.mono (by have h1 := HB.out.size; have h2 := HM.out; omega)))
    have HX1 := Lib.hid (HX1.out.keep (l := []) (.of_below hb) (by simp))
    have HX2 := Lib.hid (HX2.out.keep (l := []) (.of_below hb) (by simp))
    have HWW := Lib.hid hW
    have HXX := Lib.hid hX
    clear hb rr hW hX
    have c20 := HX2.out.cell (i := 0) rfl
    have c21 := HX2.out.cell (i := 1) rfl
    have c22 := HX2.out.cell (i := 2) rfl
    rw [HWW.out] at c20 c21 c22
    go_wp2_with fail
    rw [← HWW.out, ← HXX.out]
    clear HWW HXX
    refine (gGet HG.out (by omega) (by omega) (x := (G, l2)) (by simp)).mono ?_
    clear c20 c21 c22
    rintro e v4 ⟨ga, gc, rfl, hgr, hgb, hg, ku⟩
    have HG := Lib.hid hg
    have HGR := Lib.hid hgr
    have HB := Lib.hid (HB.out.trans (ku.below (by have h1 := HB.out.size; have h2 := HM.out; omega) HI.out))
    have HX1 := Lib.hid (HX1.out.keep ku HNX1.out)
    clear hg ku hgr hgb
    go_wp2_with fail
    have hSM := c_Same ga a2 _ len2 gc cap2 l2 l2 _ rfl HE2.out HGR.out (HR2.out.below (by rw [HM.out]; exact HB.out)) HBY2.out HBY2.out
    rw [show decide (l2 = l2) = true from decide_eq_true rfl] at hSM
    refine hSM.mono ?_
    clear hSM
    rintro e w' ⟨rfl, rfl⟩
    have c10 := HX1.out.cell (i := 0) rfl
    have c11 := HX1.out.cell (i := 1) rfl
    have c12 := HX1.out.cell (i := 2) rfl
    go_wp2_with fail
    refine (gGet HG.out (by omega) (by omega) (x := (F, l1)) (by simp)).mono ?_
    clear c10 c11 c12
    rintro e v5 ⟨ga, gc, rfl, hgr, hgb, hg, ku⟩
    have HG := Lib.hid hg
    have HGR := Lib.hid hgr
    have HB := Lib.hid (HB.out.trans (ku.below (by have h1 := HB.out.size; have h2 := HM.out; omega) HI.out))
    clear hg ku hgr hgb
    go_wp2_with fail
    have hSM := c_Same ga a1 _ len1 gc cap1 l1 l1 _ rfl HE1.out HGR.out (HR1.out.below (by rw [HM.out]; exact HB.out)) HBY1.out HBY1.out
    rw [show decide (l1 = l1) = true from decide_eq_true rfl] at hSM
    refine hSM.mono ?_
    clear hSM
    rintro e w' ⟨rfl, rfl⟩
    go_wp2_with fail
    refine (gUsed HG.out).mono ?_
    rintro e w' ⟨rfl, rfl⟩
    rw [← HU.out]
    go_wp2_with fail
    refine (c_known04 _).mono ?_
    rintro e w' ⟨rfl, bk⟩
    have HB := Lib.hid (HB.out.trans (bk.mono (by have h1 := HB.out.size; have h2 := HM.out; omega)))
    clear bk
    go_wp2
    go_ret
    exact ⟨rfl, by rw [HM.out]; exact HB.out⟩
  · have HG : Hid (SG v3 I [(G, l2), (G2, l3)] N 3) := hg
    clear ks hg kf
    unfold exA
    obtain ⟨W3, hW⟩ : ∃ z, z = v3.alloc (.cells #[.int .i64 G2, .int .i64 (secs l3.length : Nat), .int .i64 (l3.length : Nat)] 34) := ⟨_, rfl⟩
    obtain ⟨X3, hX⟩ : ∃ z, z = v3.heap.size := ⟨_, rfl⟩
    have hb : Below v3.heap.size v3 W3 := by rw [hW]; exact (Below.refl _ _).alloc (Nat.le_refl _) _
    have rr : Row W3 X3 34 [.int .i64 G2, .int .i64 (secs l3.length : Nat), .int .i64 (l3.length : Nat)] := by rw [hW, hX]; exact Row.made v3 _ _
    have HNX3 : Hid (X3 ∉ I.all) := fun hm => by have := HG.out.lt _ hm; omega
    have HX3 := Lib.hid rr
    have HG := Lib.hid (HG.out.below hb)
    have HB := Lib.hid (HB.out.trans (hb.mono (by have h1 := HB.out.size; have h2 := HM.out; omega)))
    have HX1 := Lib.hid (HX1.out.keep (l := []) (.of_below hb) (by simp))
    have HX2 := Lib.hid (HX2.out.keep (l := []) (.of_below hb) (by simp))
    have HWW := Lib.hid hW
    have HXX := Lib.hid hX
    clear hb rr hW hX
    have c20 := HX2.out.cell (i := 0) rfl
    have c21 := HX2.out.cell (i := 1) rfl
    have c22 := HX2.out.cell (i := 2) rfl
    rw [HWW.out] at c20 c21 c22
    go_wp2_with fail
    rw [← HWW.out, ← HXX.out]
    clear HWW HXX
    refine (gGet HG.out (by omega) (by omega) (x := (G, l2)) (by simp)).mono ?_
    clear c20 c21 c22
    rintro e v4 ⟨ga, gc, rfl, hgr, hgb, hg, ku⟩
    have HG := Lib.hid hg
    have HGR := Lib.hid hgr
    have HB := Lib.hid (HB.out.trans (ku.below (by have h1 := HB.out.size; have h2 := HM.out; omega) HI.out))
    have HX1 := Lib.hid (HX1.out.keep ku HNX1.out)
    have HX2 := Lib.hid (HX2.out.keep ku HNX2.out)
    have HX3 := Lib.hid (HX3.out.keep ku HNX3.out)
    clear hg ku hgr hgb
    go_wp2_with fail
    have hSM := c_Same ga a2 _ len2 gc cap2 l2 l2 _ rfl HE2.out HGR.out (HR2.out.below (by rw [HM.out]; exact HB.out)) HBY2.out HBY2.out
    rw [show decide (l2 = l2) = true from decide_eq_true rfl] at hSM
    refine hSM.mono ?_
    clear hSM
    rintro e w' ⟨rfl, rfl⟩
    have c30 := HX3.out.cell (i := 0) rfl
    have c31 := HX3.out.cell (i := 1) rfl
    have c32 := HX3.out.cell (i := 2) rfl
    go_wp2_with fail
    refine (gGet HG.out (by omega) (by omega) (x := (G2, l3)) (by simp)).mono ?_
    clear c30 c31 c32
    rintro e v5 ⟨ga, gc, rfl, hgr, hgb, hg, ku⟩
    have HG := Lib.hid hg
    have HGR := Lib.hid hgr
    have HB := Lib.hid (HB.out.trans (ku.below (by have h1 := HB.out.size; have h2 := HM.out; omega) HI.out))
    have HX2 := Lib.hid (HX2.out.keep ku HNX2.out)
    clear hg ku hgr hgb
    have c21 := HX2.out.cell (i := 1) rfl
    go_wp2_with fail
    refine wp_region_U (fun z : World => z.cell? ⟨X2, 1, none⟩ = some (.int .i64 (secs l2.length : Nat))) [0, 1, 2, 3, 4, 5, 6, 7, 8, 9, 10, 11, 12, 13, 14, 15, 16, 17, 18] (.load 0 (.load 1 (.load 2 (.load 3 (.load 4 (.sole 5 (.load 6 (.load 7 (.load 8 (.load 10 (.load 11 (.load 12 (.load 13 (.sole 9 (.sole 14 (.load 15 (.load 16 (.load 17 (.load 18 (.late 19 (.free 20 (.free 21 .fin)))))))))))))))))))))) (by kernel_rfl) (by kernel_rfl) (fun _ _ _ _ _ h => h) ?_
    have HS : (fun z : World => z.cell? ⟨X2, 1, none⟩ = some (.int .i64 (secs l2.length : Nat))) v5.drew := c21
    clear c21
    have HG := Lib.hid (HG.out.below (bDrew (Below.refl _ v5)))
    have HGR := Lib.hid (HGR.out.below (bDrew (Below.refl _ v5)))
    have HB := Lib.hid HB.out.drew
    have HU2 := Lib.hid (gUsed HG.out)
    have HSUM : Hid (([(G, l2), (G2, l3)].map rN).sum = secs l2.length + secs l3.length) := by unfold Hid; simp [rN]
    rw [HSUM.out] at HU2
    generalize v5.drew = v6 at HS HG HGR HB HU2 ⊢
    (repeat (refine wpU_pure HS rfl (fun K hK => ?_); go_simp; (try go_bits); refine hK _ ?_; clear hK K))
    refine wpU_sole rfl ?_
    go_wp2_with fail
    have hSM := c_Same ga a3 _ len3 gc cap3 l3 l3 _ rfl HE3.out HGR.out (HR3.out.below (by rw [HM.out]; exact HB.out)) HBY3.out HBY3.out
    rw [show decide (l3 = l3) = true from decide_eq_true rfl] at hSM
    refine hSM.mono ?_
    clear hSM
    rintro e w' ⟨rfl, rfl⟩
    go_wp2
    refine ⟨HS, ?_⟩
    (repeat (refine wpU_pure HS rfl (fun K hK => ?_); go_simp; (try go_bits); refine hK _ ?_; clear hK K))
    refine wpU_load (.int .i64 (secs l2.length : Nat)) HS rfl rfl (fun x hS => by go_simp) (fun K hK => ?_)
    refine hK _ ?_
    clear hK K
    (repeat (refine wpU_pure HS rfl (fun K hK => ?_); go_simp; (try go_bits); refine hK _ ?_; clear hK K))
    refine wpU_sole rfl ?_
    go_wp2_with fail
    refine HU2.out.mono ?_
    rintro e w' ⟨rfl, rfl⟩
    go_wp2
    refine ⟨HS, ?_⟩
    refine wpU_sole rfl ?_
    go_wp2_with fail
    have hRS : Calls Try.prog 9 #[.int .i64 len3] v6 fun e w' => e = .returned (.int .i64 (secs l3.length : Nat)) ∧ v6 = w' := by
      have := c_RSectors len3 v6 (by omega)
      rw [HE3.out] at this ⊢
      exact this
    refine hRS.mono ?_
    rintro e w' ⟨rfl, rfl⟩
    clear hRS
    go_wp2
    refine ⟨HS, ?_⟩
    have hw : RowKit.wrap64 (((secs l2.length : Nat) : Int) + ((secs l3.length : Nat) : Int)) = ((secs l2.length : Nat) : Int) + ((secs l3.length : Nat) : Int) := by
      have q1 := secs_le l2.length
      have q2 := secs_le l3.length
      have q3 := HE2.out
      have q4 := HE3.out
      unfold RowKit.wrap64
      omega
    (repeat (refine wpU_pure HS rfl (fun K hK => ?_); go_simp; (try go_bits); refine hK _ ?_; clear hK K))
    refine wpU_late rfl ?_
    go_wp2_with fail
    refine (c_known04 _).mono ?_
    rintro e w' ⟨rfl, bk⟩
    have HB := Lib.hid (HB.out.trans (bk.mono (by have h1 := HB.out.size; have h2 := HM.out; omega)))
    clear bk
    go_wp2
    (repeat (refine wpU_free rfl (fun K hK => ?_); go_simp; (try go_bits); refine hK _ ?_; clear hK K))
    refine wpU_fin ?_
    go_wp2
    go_ret
    exact ⟨rfl, by rw [HM.out]; exact HB.out⟩

end Go.Proofs.Ytpbokmmobepolaa
