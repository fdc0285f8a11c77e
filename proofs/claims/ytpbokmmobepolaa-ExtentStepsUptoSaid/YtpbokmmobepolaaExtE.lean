/-
  Contracts of package extent: New, Used; what the chapter's example fixes; the law ExtentSectors.
-/
import Derived.Test.YtpbokmmobepolaaExtD
namespace Go.Proofs.Ytpbokmmobepolaa
open Go.RowKit Go.Maps
set_option linter.unusedVariables false
set_option maxHeartbeats 2000000

def newS (n : Nat) : SpS := ⟨n, 0, 0, List.replicate (64 * n) 0, fun _ => false, 0, fun _ => false⟩

theorem c_ENew (n : Nat) (w : World) (hn : n ≤ 20000) : Calls Try.prog 11 #[.int .i64 n] w fun e w' => ∃ I, e = .returned (.tuple #[.pointer (some ⟨I.m, 0, none⟩), .int .i64 0]) ∧ SpAt w' I (newS n) ∧ (∀ k ∈ I.all, w.heap.size ≤ k) ∧ Upd [] w w' := by
  have hmm := @run_makeMap Try.prog
  have HN := Lib.hid (c_NewYes n w hn)
  go_enter Try.func11, Try.ntmps11
  go_wp2_with fail
  refine HN.out.mono ?_
  rintro e w1 ⟨d, dg, rfl, h1, h2, hd, hu⟩
  have HD := Lib.hid hd
  have HU := Lib.hid hu
  have HG := Lib.hid (And.intro h1 h2)
  clear HN hd hu h1 h2
  have HB := Lib.hid (c_BNewYes n w1 (by omega))
  go_wp2_with fail
  refine HB.out.mono ?_
  rintro e w2 ⟨bm, bg, rfl, h1, h2, hm, hu⟩
  have HM := Lib.hid hm
  have HU2 := Lib.hid hu
  have HG2 := Lib.hid (And.intro h1 h2)
  clear HB hm hu h1 h2
  go_wp2_with fail
  obtain ⟨w4, hw4⟩ : ∃ w4, w4 = ((w2.alloc (.map #[] 0)).alloc (.cells #[.pointer (some ⟨d, 0, none⟩), .pointer (some ⟨bm, 0, none⟩), .map (some w2.heap.size)] 68)) := ⟨_, rfl⟩
  rw [← hw4]
  go_ret2
  have hb : Below w2.heap.size w2 w4 := by rw [hw4]; exact ((Below.refl _ _).alloc (Nat.le_refl _) _).alloc (by simp) _
  have hd2 := HD.out.keep HU2.out (by simp) (by simp)
  have l1 := HD.out.head.lt
  have l2 := HD.out.data.lt
  have l3 := HM.out.head.lt
  have l4 := HM.out.data.lt
  have g1 := HG.out
  have g2 := HG2.out
  have s1 := HU.out.size
  have s2 := HU2.out.size
  have n1 := HD.out.ne
  have n2 := HM.out.ne
  refine ⟨⟨w2.heap.size + 1, d, dg, bm, bg, w2.heap.size⟩, rfl, ⟨?_, hd2.keep (l := []) (.of_below hb) (by simp) (by simp), HM.out.keep (l := []) (.of_below hb) (by simp) (by simp), ?_, ?_⟩, ?_, (HU.out.trans HU2.out).trans (.of_below hb)⟩
  · rw [hw4]
    have := Row.made (w2.alloc (.map #[] 0)) [.pointer (some ⟨d, 0, none⟩), .pointer (some ⟨bm, 0, none⟩), .map (some w2.heap.size)] 68
    simpa using this
  · rw [hw4]
    exact (LiveAt.made w2).keep (l := []) ((Upd.refl _ _).alloc _) (by simp)
  · simp [SpI.all]
    omega
  · intro k hk
    simp [SpI.all] at hk
    omega

theorem c_EUsed {w : World} {I : SpI} {S : SpS} (h : SpAt w I S) : Calls Try.prog 15 #[.pointer (some ⟨I.m, 0, none⟩)] w fun e w' => e = .returned (.int .i64 (cntF S.b S.N)) ∧ w = w' := by
  have k1 := h.row.cell (i := 1) rfl
  have HT := Lib.hid (c_Taken _ _ _ _ w h.bt)
  clear h
  go_enter Try.func15, Try.ntmps15
  go_wp2_with fail
  refine HT.out.mono ?_
  rintro e w' ⟨rfl, rfl⟩
  go_wp2
  go_ret
  exact ⟨rfl, rfl⟩

theorem c_EFreeNil (a : Option Addr) (n c : Nat) (w : World) : Calls Try.prog 16 #[.pointer none, .slice a n c] w fun e w' => e = .returned (.int .i64 1) ∧ w = w' := by
  go_enter Try.func16, Try.ntmps16
  go_wp2
  go_ret
  exact ⟨rfl, rfl⟩

theorem c_EPutYes {w : World} {I : SpI} {S : SpS} (h : SpAt w I S) (b : List Int) (n F : Nat) (hn : n = secs b.length) (hf : FirstIs S.b S.N n (some F)) (hq : S.q + secs b.length < 1000000) (hcS : S.c < 999999) (a : Option Addr) (len cap : Nat) (e0 : len = b.length) (hl : len ≤ 1000000)
    (hb : Byt b) (hr : Reads w a cap (b.map (Value.int .u8))) (hcap : len ≤ cap) (hd : 0 < len → ∀ y, a = some y → y.block ∉ I.all) :
    Calls Try.prog 12 #[.pointer (some ⟨I.m, 0, none⟩), .slice a len cap] w fun e w' => e = .returned (.tuple #[.agg #[.int .i64 F, .int .i64 n, .int .i64 len], .int .i64 0]) ∧ SpAt w' I (putS S F b) ∧ Upd [I.d, I.dg, I.mp, I.bg] w w' := by
  refine (c_EPut h b hq hcS a len cap e0 hl hb hr hcap hd).mono ?_
  rintro e w' (⟨h1, -⟩ | ⟨F', h1, rfl, h2, h3⟩)
  · rw [← hn] at h1
    have := h1.eq hf
    cases this
  · rw [← hn] at h1
    have := h1.eq hf
    cases this
    exact ⟨by rw [hn, e0]; rfl, h2, h3⟩
theorem c_EPutNo {w : World} {I : SpI} {S : SpS} (h : SpAt w I S) (b : List Int) (n : Nat) (hn : n = secs b.length) (hf : FirstIs S.b S.N n none) (hq : S.q + secs b.length < 1000000) (hcS : S.c < 999999) (a : Option Addr) (len cap : Nat) (e0 : len = b.length) (hl : len ≤ 1000000)
    (hb : Byt b) (hr : Reads w a cap (b.map (Value.int .u8))) (hcap : len ≤ cap) (hd : 0 < len → ∀ y, a = some y → y.block ∉ I.all) :
    Calls Try.prog 12 #[.pointer (some ⟨I.m, 0, none⟩), .slice a len cap] w fun e w' => e = .returned (.tuple #[.agg #[.int .i64 0, .int .i64 0, .int .i64 0], .int .i64 3]) ∧ SpAt w' I S ∧ Upd [] w w' := by
  refine (c_EPut h b hq hcS a len cap e0 hl hb hr hcap hd).mono ?_
  rintro e w' (⟨h1, rfl, h2, h3⟩ | ⟨F', h1, -⟩)
  · exact ⟨rfl, h2, h3⟩
  · rw [← hn] at h1
    have := h1.eq hf
    cases this

/-! ### What the chapter's example fixes -/

def kb1 : Nat → Bool := fill (fun _ => false) 0 2 true
def kb2 : Nat → Bool := fill kb1 2 1 true
def kz65 : List Int := List.replicate 65 0
def ks1 : SpS := putS (newS 3) 0 kz65
def ks2 : SpS := putS ks1 2 []
theorem kf1 : FirstIs (newS 3).b (newS 3).N 2 (some 0) := by show FirstIs (fun _ => false) 3 2 (some 0); decide
theorem kf2 : FirstIs ks1.b ks1.N 1 (some 2) := by show FirstIs kb1 3 1 (some 2); decide
theorem kf3 : FirstIs ks2.b ks2.N 1 none := by
  show FirstIs kb2 3 1 none
  intro a h
  have : a = 0 ∨ a = 1 ∨ a = 2 := by omega
  rcases this with rfl | rfl | rfl <;> decide
theorem kf4 : cntF ks2.b ks2.N = 3 := by show cntF kb2 3 = 3; decide

theorem SpI.ge_bel {I : SpI} {b : Nat} {l : List Nat} {w w' : World} (hI : ∀ k ∈ I.all, b ≤ k) (hb : b ≤ w.heap.size) (u : Upd l w w') (hl : ∀ k ∈ l, k ∈ I.all) : Below b w w' := u.below hb (fun k hk => hI k (hl k hk))

theorem c_known04 (w : World) : Calls Try.prog 10 #[] w fun e w' => e = .returned (.bool true) ∧ Below w.heap.size w w' := by
  go_enter Try.func10, Try.ntmps10
  go_wp2_with fail
  refine (c_ENew 3 _ (by omega)).mono ?_
  rintro e w1 ⟨I, rfl, hs, hI, hu⟩
  have HS := Lib.hid hs
  have HI := Lib.hid hI
  have HB := Lib.hid (show Below w.heap.size w w1 from hu.below (Nat.le_refl _) (by simp))
  have HL := Lib.hid hs.lt
  clear hs hI hu
  go_wp2_with (at_make; refine wpList_mk rfl _ _ 27 rfl 5 (.int .u8 0) 1 Try.underlying27 (by kernel_rfl) rfl .i64 .i64 _ _ 65 rfl rfl rfl rfl (by omega) (by unfold maxLen; omega) ?_)
  intro w2 row upd
  have HRr := Lib.hid row
  have hb12 : Below w1.heap.size w1 w2 := upd.below (Nat.le_refl _) (by simp)
  have HS2 := Lib.hid (HS.out.below hb12)
  have HB2 := Lib.hid (HB.out.trans (hb12.mono HB.out.size))
  have hrd : Reads w2 (some ⟨w1.heap.size, 0, none⟩) 65 (kz65.map (Value.int .u8)) := row.reads (fun i u hu => by rw [Nat.zero_add]; unfold kz65 at hu; rw [List.map_replicate] at hu; exact hu)
  have hP := c_EPutYes HS2.out kz65 2 0 (by decide) kf1 (by decide) (by decide) (some ⟨w1.heap.size, 0, none⟩) 65 65 (by decide) (by omega) (fun x hx => by rw [List.eq_of_mem_replicate hx]; omega) hrd (by omega) (fun _ y hy hm => by cases hy; have := HL.out _ hm; simp at this)
  rw [show ((0 : Nat) : Int) = 0 from rfl, show ((2 : Nat) : Int) = 2 from rfl, show ((65 : Nat) : Int) = 65 from rfl] at hP
  have HP := Lib.hid hP
  clear hP hrd row upd hb12
  go_wp2_with fail
  refine HP.out.mono ?_
  rintro e w3 ⟨rfl, hs, hu⟩
  have HS3 : Hid (SpAt w3 I ks1) := hs
  have HB3 := Lib.hid (HB2.out.trans (SpI.ge_bel HI.out HB2.out.size hu (by simp [SpI.all])))
  clear hs hu HP
  go_wp2_with fail
  obtain ⟨W3, hW3⟩ : ∃ z, z = w3.alloc (.cells #[.int .i64 0, .int .i64 2, .int .i64 65] 34) := ⟨_, rfl⟩
  obtain ⟨X3, hX3⟩ : ∃ z, z = w3.heap.size := ⟨_, rfl⟩
  rw [← hW3, ← hX3]
  have hb : Below w3.heap.size w3 W3 := by rw [hW3]; exact (Below.refl _ _).alloc (Nat.le_refl _) _
  have r3 : Row W3 X3 34 [.int .i64 0, .int .i64 2, .int .i64 65] := by rw [hW3, hX3]; exact Row.made w3 _ _
  have hn3 : ∀ k ∈ I.all, k ≠ X3 := fun k hk e => by have := HS3.out.lt k hk; omega
  have HN3 := Lib.hid hn3
  have HR3 := Lib.hid r3
  have HSA := Lib.hid (HS3.out.below hb)
  have HBA := Lib.hid (HB3.out.trans (hb.mono HB3.out.size))
  clear hW3 hX3 hb r3 hn3
  have hP := c_EPutYes HSA.out [] 1 2 (by decide) kf2 (by decide) (by decide) none 0 0 rfl (by omega) (fun x hx => by cases hx) (Reads.nil _) (by omega) (fun h0 => by omega)
  rw [show ((0 : Nat) : Int) = 0 from rfl, show ((2 : Nat) : Int) = 2 from rfl, show ((1 : Nat) : Int) = 1 from rfl] at hP
  refine hP.mono ?_
  clear hP
  rintro e w4 ⟨rfl, hs, hu⟩
  have HS4 : Hid (SpAt w4 I ks2) := hs
  have HR34 := Lib.hid (HR3.out.keep hu (fun hm => HN3.out X3 (by simp [SpI.all]; simp at hm; omega) rfl))
  have HB4 := Lib.hid (HBA.out.trans (SpI.ge_bel HI.out HBA.out.size hu (by simp [SpI.all])))
  clear hs hu
  go_wp2_with fail
  obtain ⟨W4, hW4⟩ : ∃ z, z = w4.alloc (.cells #[.int .i64 2, .int .i64 1, .int .i64 0] 34) := ⟨_, rfl⟩
  obtain ⟨X4, hX4⟩ : ∃ z, z = w4.heap.size := ⟨_, rfl⟩
  rw [← hW4, ← hX4]
  have hb : Below w4.heap.size w4 W4 := by rw [hW4]; exact (Below.refl _ _).alloc (Nat.le_refl _) _
  have r4 : Row W4 X4 34 [.int .i64 2, .int .i64 1, .int .i64 0] := by rw [hW4, hX4]; exact Row.made w4 _ _
  have hsz : X4 + 1 = W4.heap.size := by rw [hW4, hX4]; simp
  have HSZ := Lib.hid hsz
  have HR4 := Lib.hid r4
  have HR35 := Lib.hid (HR34.out.keep (l := []) (.of_below hb) (by simp))
  have HSB := Lib.hid (HS4.out.below hb)
  have HBB := Lib.hid (HB4.out.trans (hb.mono HB4.out.size))
  clear hW4 hX4 hb r4 hsz
  have hb : Below W4.heap.size W4 (W4.alloc (.cells #[.int .u8 1] 5)) := (Below.refl _ _).alloc (Nat.le_refl _) _
  have hP := c_EPutNo (HSB.out.below hb) [1] 1 (by decide) kf3 (by decide) (by decide) (some ⟨X4 + 1, 0, none⟩) 1 1 rfl (by omega) (fun x hx => by simp at hx; omega) (Reads.madeAt HSZ.out) (by omega) (fun _ y hy hm => by cases hy; have h1 := HSB.out.lt _ hm; have h2 := HSZ.out; simp at h1; omega)
  refine hP.mono ?_
  clear hP
  rintro e w5 ⟨rfl, hs, hu⟩
  have HS5 := Lib.hid hs
  have HR36 := Lib.hid ((HR35.out.keep (l := []) (.of_below hb) (by simp)).keep hu (by simp))
  have HR46 := Lib.hid ((HR4.out.keep (l := []) (.of_below hb) (by simp)).keep hu (by simp))
  have HB5 := Lib.hid ((HBB.out.trans (hb.mono HBB.out.size)).trans (hu.below (Nat.le_trans HBB.out.size hb.size) (by simp)))
  clear hs hu hb
  obtain ⟨W5, hW5⟩ : ∃ z, z = w5.alloc (.cells #[.int .i64 0, .int .i64 0, .int .i64 0] 34) := ⟨_, rfl⟩
  have hb : Below w5.heap.size w5 W5 := by rw [hW5]; exact (Below.refl _ _).alloc (Nat.le_refl _) _
  have r3 := HR36.out.keep (l := []) (.of_below hb) (by simp)
  have r4 := HR46.out.keep (l := []) (.of_below hb) (by simp)
  have HS6 := Lib.hid (HS5.out.below hb)
  have HB6 := Lib.hid (HB5.out.trans (hb.mono HB5.out.size))
  have HW5 := Lib.hid hW5
  have a0 := r3.cell (i := 0) rfl
  have a1 := r3.cell (i := 1) rfl
  have a2 := r3.cell (i := 2) rfl
  have d0 := r4.cell (i := 0) rfl
  have d1 := r4.cell (i := 1) rfl
  have d2 := r4.cell (i := 2) rfl
  rw [hW5] at a0 a1 a2 d0 d1 d2
  clear hW5 hb r3 r4
  go_wp2_with fail
  rw [← HW5.out]
  have hU := c_EUsed HS6.out
  rw [kf4] at hU
  refine hU.mono ?_
  clear hU
  rintro e w' ⟨rfl, rfl⟩
  go_wp2_with fail
  refine (c_EFreeNil _ _ _ _).mono ?_
  rintro e w' ⟨rfl, rfl⟩
  go_wp2
  go_ret
  exact ⟨rfl, HB6.out⟩

end Go.Proofs.Ytpbokmmobepolaa
