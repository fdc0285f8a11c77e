/-
  Contracts of the document's package websterref05: Decode. (Written by r6gen.py.)
-/
import Derived.Test.YtdedidjobjdekaaWideR5
namespace Go.Proofs.Ytdedidjobjdekaa
open Go.RowKit
set_option linter.unusedVariables false
set_option maxHeartbeats 2000000

theorem getE_yes {n : Nat} {p : Int} (h : 0 ≤ p ∧ p + 4 ≤ n) : getE n p = 0 := by unfold getE; rw [if_pos h]
theorem getE_no {n : Nat} {p : Int} (h : ¬ (0 ≤ p ∧ p + 4 ≤ n)) : getE n p = 2 := by unfold getE; rw [if_neg h]

theorem r_DecBad (a : Option Addr) (n c : Nat) (l : List Int) (w : World) (e0 : n = l.length) (h : Reads w a c (l.map (Value.int .u8))) (hb : Byt l) (hm : n ≤ 100000) (hn : n < 12) : Calls Try.prog 22 #[.slice a n c] w (DecPost l w) := by
  subst e0
  have HG := Lib.hid (fun w' (h' : Reads w' a c (l.map (Value.int .u8))) p (hp : -9223372036854775808 ≤ p ∧ p ≤ 9223372036854775807) => r_Get a l.length c l p w' rfl (by omega) h' hb hp.1 hp.2)
  have HR := Lib.hid h
  clear h
  obtain ⟨C, hC⟩ : ∃ C, C = getV l 0 := ⟨_, rfl⟩
  obtain ⟨K, hK⟩ : ∃ K, K = getV l 4 := ⟨_, rfl⟩
  obtain ⟨N, hN⟩ : ∃ N, N = getV l 8 := ⟨_, rfl⟩
  have hCr : -2147483648 ≤ C ∧ C ≤ 2147483647 := by rw [hC]; exact getV_range (p := 0)
  have hKr : -2147483648 ≤ K ∧ K ≤ 2147483647 := by rw [hK]; exact getV_range (p := 4)
  have hNr : -2147483648 ≤ N ∧ N ≤ 2147483647 := by rw [hN]; exact getV_range (p := 8)
  have HCR := Lib.hid (And.intro hCr hKr)
  have HCK := Lib.hid (And.intro hC (And.intro hK hN))
  clear hC hK hN hCr
  have HNO := Lib.hid (show ¬ isObj l from fun h => by have := h.1; omega)
  obtain ⟨w2, hw2⟩ : ∃ z, z = ((w.alloc (.cells #[.int .i64 0, .int .i64 0, .slice none 0 0, .slice none 0 0] 25)).alloc (.cells #[.int .i64 C, .int .i64 K, .slice none 0 0, .slice none 0 0] 25)) := ⟨_, rfl⟩
  have hrow : Row w2 (w.heap.size + 1) 25 [.int .i64 C, .int .i64 K, .slice none 0 0, .slice none 0 0] := by
    rw [hw2]
    have := Row.made (w.alloc (.cells #[.int .i64 0, .int .i64 0, .slice none 0 0, .slice none 0 0] 25)) [.int .i64 C, .int .i64 K, .slice none 0 0, .slice none 0 0] 25
    simpa using this
  have hrow0 : Row w2 w.heap.size 25 [.int .i64 0, .int .i64 0, .slice none 0 0, .slice none 0 0] := by
    rw [hw2]
    exact (Row.made w [.int .i64 0, .int .i64 0, .slice none 0 0, .slice none 0 0] 25).alloc _
  have hbel : Below w.heap.size w w2 := by rw [hw2]; exact bAlloc ((Below.refl _ w).alloc (Nat.le_refl _) _)
  have hsz : w2.heap.size = w.heap.size + 2 := by rw [hw2]; simp
  have HW2 := Lib.hid hw2
  have HROW := Lib.hid hrow
  have HROW0 := Lib.hid hrow0
  have HBEL := Lib.hid hbel
  obtain ⟨p0, hp0⟩ : ∃ p, p = w.heap.size := ⟨_, rfl⟩
  obtain ⟨p1, hp1⟩ : ∃ p, p = w.heap.size + 1 := ⟨_, rfl⟩
  rw [← hp1] at HROW
  rw [← hp0] at HROW0
  have HP := Lib.hid (And.intro hp0 (And.intro hp1 hsz))
  clear hrow hrow0 hbel hw2 hsz hp0 hp1
  have key : (getE l.length 0 = 2 ∧ getE l.length 4 = 2 ∧ getE l.length 8 = 2) ∨ (getE l.length 0 = 0 ∧ getE l.length 4 = 2 ∧ getE l.length 8 = 2) ∨ (getE l.length 0 = 0 ∧ getE l.length 4 = 0 ∧ getE l.length 8 = 2) := by
    have h8 : getE l.length 8 = 2 := getE_no (by omega)
    by_cases h1 : l.length < 4
    · exact .inl ⟨getE_no (by omega), getE_no (by omega), h8⟩
    · by_cases h2 : l.length < 8
      · exact .inr (.inl ⟨getE_yes (by omega), getE_no (by omega), h8⟩)
      · exact .inr (.inr ⟨getE_yes (by omega), getE_yes (by omega), h8⟩)
  rcases key with key | key | key
  all_goals
    have EE := Lib.hid key
    clear key
    go_enter Try.func22, Try.ntmps22
    go_wp2_with fail
    refine (HG.out _ ((HR.out.alloc _)) 0 (by decide)).mono ?_
    rintro e w' ⟨rfl, rfl⟩
    rw [← HCK.out.1, EE.out.1]
    go_wp2_with fail
    refine (HG.out _ ((HR.out.alloc _)) 4 (by decide)).mono ?_
    rintro e w' ⟨rfl, rfl⟩
    rw [← HCK.out.2.1, EE.out.2.1]
    go_wp2_with fail
    refine (HG.out _ ((HR.out.alloc _)) 8 (by decide)).mono ?_
    rintro e w' ⟨rfl, rfl⟩
    rw [← HCK.out.2.2, EE.out.2.2]
    dsimp only
    have R05 := HROW0.out
    have HB5 := HBEL
    rw [HP.out.1] at R05
    rw [HW2.out] at R05 HB5
    have o0 := R05.cell (i := 0) rfl
    have o1 := R05.cell (i := 1) rfl
    have o2 := R05.cell (i := 2) rfl
    have o3 := R05.cell (i := 3) rfl
    go_wp2
    (try simp only [Exit.inBlock, Exit.then])
    refine bodyPost_ret (by rw [results_cell_tmp rfl]; go_simp; rfl) rfl ?_
    exact ⟨HB5.out, .inr ⟨HNO.out, rfl⟩⟩

theorem r_DecSize (a : Option Addr) (n c : Nat) (l : List Int) (w : World) (e0 : n = l.length) (h : Reads w a c (l.map (Value.int .u8))) (hb : Byt l) (hm : n ≤ 100000) (hn : 12 ≤ n) (hsz : ¬ (0 ≤ getV l 8 ∧ getV l 8 ≤ 1000) ∨ (decK l = 1 → (n : Int) ≠ 12 + 4 * getV l 8) ∧ (decK l ≠ 1 → (n : Int) ≠ 12 + getV l 8)) : Calls Try.prog 22 #[.slice a n c] w (DecPost l w) := by
  subst e0
  have HG := Lib.hid (fun w' (h' : Reads w' a c (l.map (Value.int .u8))) p (hp : -9223372036854775808 ≤ p ∧ p ≤ 9223372036854775807) => r_Get a l.length c l p w' rfl (by omega) h' hb hp.1 hp.2)
  have HR := Lib.hid h
  clear h
  obtain ⟨C, hC⟩ : ∃ C, C = getV l 0 := ⟨_, rfl⟩
  obtain ⟨K, hK⟩ : ∃ K, K = getV l 4 := ⟨_, rfl⟩
  obtain ⟨N, hN⟩ : ∃ N, N = getV l 8 := ⟨_, rfl⟩
  have hCr : -2147483648 ≤ C ∧ C ≤ 2147483647 := by rw [hC]; exact getV_range (p := 0)
  have hKr : -2147483648 ≤ K ∧ K ≤ 2147483647 := by rw [hK]; exact getV_range (p := 4)
  have hNr : -2147483648 ≤ N ∧ N ≤ 2147483647 := by rw [hN]; exact getV_range (p := 8)
  have HCR := Lib.hid (And.intro hCr hKr)
  have HCK := Lib.hid (And.intro hC (And.intro hK hN))
  clear hC hK hN hCr
  have key : getE l.length 0 = 0 ∧ getE l.length 4 = 0 ∧ getE l.length 8 = 0 := ⟨getE_yes (by omega), getE_yes (by omega), getE_yes (by omega)⟩
  have EE := Lib.hid key
  clear key
  have HREF := Lib.hid (isObj_iff hb)
  obtain ⟨w2, hw2⟩ : ∃ z, z = ((w.alloc (.cells #[.int .i64 0, .int .i64 0, .slice none 0 0, .slice none 0 0] 25)).alloc (.cells #[.int .i64 C, .int .i64 K, .slice none 0 0, .slice none 0 0] 25)) := ⟨_, rfl⟩
  have hrow : Row w2 (w.heap.size + 1) 25 [.int .i64 C, .int .i64 K, .slice none 0 0, .slice none 0 0] := by
    rw [hw2]
    have := Row.made (w.alloc (.cells #[.int .i64 0, .int .i64 0, .slice none 0 0, .slice none 0 0] 25)) [.int .i64 C, .int .i64 K, .slice none 0 0, .slice none 0 0] 25
    simpa using this
  have hrow0 : Row w2 w.heap.size 25 [.int .i64 0, .int .i64 0, .slice none 0 0, .slice none 0 0] := by
    rw [hw2]
    exact (Row.made w [.int .i64 0, .int .i64 0, .slice none 0 0, .slice none 0 0] 25).alloc _
  have hbel : Below w.heap.size w w2 := by rw [hw2]; exact bAlloc ((Below.refl _ w).alloc (Nat.le_refl _) _)
  have hsz : w2.heap.size = w.heap.size + 2 := by rw [hw2]; simp
  have HW2 := Lib.hid hw2
  have HROW := Lib.hid hrow
  have HROW0 := Lib.hid hrow0
  have HBEL := Lib.hid hbel
  obtain ⟨p0, hp0⟩ : ∃ p, p = w.heap.size := ⟨_, rfl⟩
  obtain ⟨p1, hp1⟩ : ∃ p, p = w.heap.size + 1 := ⟨_, rfl⟩
  rw [← hp1] at HROW
  rw [← hp0] at HROW0
  have HP := Lib.hid (And.intro hp0 (And.intro hp1 hsz))
  clear hrow hrow0 hbel hw2 hsz hp0 hp1
  have hsz : ¬ (0 ≤ N ∧ N ≤ 1000) ∨ (K = 1 → (l.length : Int) ≠ 12 + 4 * N) ∧ (K ≠ 1 → (l.length : Int) ≠ 12 + N) := by
    rw [HCK.out.2.2, HCK.out.2.1]; exact hsz
  by_cases hN0 : N < 0 ∨ N > 1000
  · have HNO := Lib.hid (show ¬ isObj l from fun h => by
      have h2 := (HREF.out.1 h).2.1
      rw [← HCK.out.2.2] at h2
      omega)
    by_cases hN1 : N < 0
    · clear hN0
      go_enter Try.func22, Try.ntmps22
      go_wp2_with fail
      refine (HG.out _ ((HR.out.alloc _)) 0 (by decide)).mono ?_
      rintro e w' ⟨rfl, rfl⟩
      rw [← HCK.out.1, EE.out.1]
      go_wp2_with fail
      refine (HG.out _ ((HR.out.alloc _)) 4 (by decide)).mono ?_
      rintro e w' ⟨rfl, rfl⟩
      rw [← HCK.out.2.1, EE.out.2.1]
      go_wp2_with fail
      refine (HG.out _ ((HR.out.alloc _)) 8 (by decide)).mono ?_
      rintro e w' ⟨rfl, rfl⟩
      rw [← HCK.out.2.2, EE.out.2.2]
      dsimp only
      have R05 := HROW0.out
      have HB5 := HBEL
      rw [HP.out.1] at R05
      rw [HW2.out] at R05 HB5
      have o0 := R05.cell (i := 0) rfl
      have o1 := R05.cell (i := 1) rfl
      have o2 := R05.cell (i := 2) rfl
      have o3 := R05.cell (i := 3) rfl
      go_wp2
      (try simp only [Exit.inBlock, Exit.then])
      refine bodyPost_ret (by rw [results_cell_tmp rfl]; go_simp; rfl) rfl ?_
      exact ⟨HB5.out, .inr ⟨HNO.out, rfl⟩⟩
    · have hN2 : N > 1000 := by omega
      have hN3 : (1000 : Int) < N := hN2
      have hN4 : (N < 0) = False := eq_false hN1
      clear hN0 hN1
      go_enter Try.func22, Try.ntmps22
      go_wp2_with fail
      refine (HG.out _ ((HR.out.alloc _)) 0 (by decide)).mono ?_
      rintro e w' ⟨rfl, rfl⟩
      rw [← HCK.out.1, EE.out.1]
      go_wp2_with fail
      refine (HG.out _ ((HR.out.alloc _)) 4 (by decide)).mono ?_
      rintro e w' ⟨rfl, rfl⟩
      rw [← HCK.out.2.1, EE.out.2.1]
      go_wp2_with fail
      refine (HG.out _ ((HR.out.alloc _)) 8 (by decide)).mono ?_
      rintro e w' ⟨rfl, rfl⟩
      rw [← HCK.out.2.2, EE.out.2.2]
      dsimp only
      have R05 := HROW0.out
      have HB5 := HBEL
      rw [HP.out.1] at R05
      rw [HW2.out] at R05 HB5
      have o0 := R05.cell (i := 0) rfl
      have o1 := R05.cell (i := 1) rfl
      have o2 := R05.cell (i := 2) rfl
      have o3 := R05.cell (i := 3) rfl
      go_wp2
      (try simp only [Exit.inBlock, Exit.then])
      refine bodyPost_ret (by rw [results_cell_tmp rfl]; go_simp; rfl) rfl ?_
      exact ⟨HB5.out, .inr ⟨HNO.out, rfl⟩⟩
  · have hN1 : (N < 0) = False := eq_false (by omega)
    have hN2 : (N > 1000) = False := eq_false (by omega)
    have hN3 : ((1000 : Int) < N) = False := eq_false (by omega)
    by_cases hK : K = 1
    · have hs : (l.length : Int) ≠ 12 + 4 * N := (hsz.resolve_left (by omega)).1 hK
      have HNO := Lib.hid (show ¬ isObj l from fun h => by
        rcases (HREF.out.1 h).2.2.1 with ⟨h1, h2⟩ | ⟨h1, h2⟩
        · rw [← HCK.out.2.2] at h2; omega
        · exact h1 (by rw [← hK, HCK.out.2.1]; rfl))
      have q1 : ((l.length : Int) == 12 + 4 * N) = false := by simpa using hs
      have q2 : ((l.length : Int) != 12 + 4 * N) = true := by simpa using hs
      subst hK
      go_enter Try.func22, Try.ntmps22
      go_wp2_with fail
      refine (HG.out _ ((HR.out.alloc _)) 0 (by decide)).mono ?_
      rintro e w' ⟨rfl, rfl⟩
      rw [← HCK.out.1, EE.out.1]
      go_wp2_with fail
      refine (HG.out _ ((HR.out.alloc _)) 4 (by decide)).mono ?_
      rintro e w' ⟨rfl, rfl⟩
      rw [← HCK.out.2.1, EE.out.2.1]
      go_wp2_with fail
      refine (HG.out _ ((HR.out.alloc _)) 8 (by decide)).mono ?_
      rintro e w' ⟨rfl, rfl⟩
      rw [← HCK.out.2.2, EE.out.2.2]
      dsimp only
      have R05 := HROW0.out
      have HB5 := HBEL
      rw [HP.out.1] at R05
      rw [HW2.out] at R05 HB5
      have o0 := R05.cell (i := 0) rfl
      have o1 := R05.cell (i := 1) rfl
      have o2 := R05.cell (i := 2) rfl
      have o3 := R05.cell (i := 3) rfl
      go_wp2
      (try simp only [Exit.inBlock, Exit.then])
      refine bodyPost_ret (by rw [results_cell_tmp rfl]; go_simp; rfl) rfl ?_
      exact ⟨HB5.out, .inr ⟨HNO.out, rfl⟩⟩
    · have hs : (l.length : Int) ≠ 12 + N := (hsz.resolve_left (by omega)).2 hK
      have HNO := Lib.hid (show ¬ isObj l from fun h => by
        rcases (HREF.out.1 h).2.2.1 with ⟨h1, h2⟩ | ⟨h1, h2⟩
        · exact hK (by rw [HCK.out.2.1]; exact h1)
        · rw [← HCK.out.2.2] at h2; omega)
      have q1 : ((l.length : Int) == 12 + N) = false := by simpa using hs
      have q2 : ((l.length : Int) != 12 + N) = true := by simpa using hs
      have q3 : (K == 1) = false := by simpa using hK
      go_enter Try.func22, Try.ntmps22
      go_wp2_with fail
      refine (HG.out _ ((HR.out.alloc _)) 0 (by decide)).mono ?_
      rintro e w' ⟨rfl, rfl⟩
      rw [← HCK.out.1, EE.out.1]
      go_wp2_with fail
      refine (HG.out _ ((HR.out.alloc _)) 4 (by decide)).mono ?_
      rintro e w' ⟨rfl, rfl⟩
      rw [← HCK.out.2.1, EE.out.2.1]
      go_wp2_with fail
      refine (HG.out _ ((HR.out.alloc _)) 8 (by decide)).mono ?_
      rintro e w' ⟨rfl, rfl⟩
      rw [← HCK.out.2.2, EE.out.2.2]
      dsimp only
      have R05 := HROW0.out
      have HB5 := HBEL
      rw [HP.out.1] at R05
      rw [HW2.out] at R05 HB5
      have o0 := R05.cell (i := 0) rfl
      have o1 := R05.cell (i := 1) rfl
      have o2 := R05.cell (i := 2) rfl
      have o3 := R05.cell (i := 3) rfl
      go_wp2
      (try simp only [Exit.inBlock, Exit.then])
      refine bodyPost_ret (by rw [results_cell_tmp rfl]; go_simp; rfl) rfl ?_
      exact ⟨HB5.out, .inr ⟨HNO.out, rfl⟩⟩

end Go.Proofs.Ytdedidjobjdekaa
