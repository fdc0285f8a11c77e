/-
  Contracts of package wide: Decode, of a kind that is none.
-/
import Derived.Test.YtdedidjobjdekaaWide6
namespace Go.Proofs.Ytdedidjobjdekaa
open Go.RowKit
set_option linter.unusedVariables false
set_option maxHeartbeats 400000

/-- Decode, where the kind is neither. -/
theorem c_Dec0 (a : Option Addr) (n c : Nat) (l : List Int) (w : World) (e0 : n = l.length) (h : Reads w a c (l.map (Value.int .u8))) (hb : Byt l) (hn : 12 ≤ n) (hc : n ≤ c) (hm : n ≤ 100000) (k1 : decK l ≠ 1) (k2 : decK l ≠ 2) : Calls Try.prog 14 #[.slice a n c] w (DecPost l w) := by
  subst e0
  have HG := Lib.hid (fun w' (h' : Reads w' a c (l.map (Value.int .u8))) p (hp : -9223372036854775808 ≤ p ∧ p ≤ 9223372036854775807) => c_Get a l.length c l p w' rfl hc (by omega) h' hb hp.1 hp.2)
  have HR := Lib.hid h
  clear h
  obtain ⟨C, hC⟩ : ∃ C, C = getV l 0 := ⟨_, rfl⟩
  obtain ⟨K, hK⟩ : ∃ K, K = getV l 4 := ⟨_, rfl⟩
  have q1 : (K == 1) = false := by rw [hK]; exact beq_eq_false_iff_ne.2 k1
  have q2 : (K == 2) = false := by rw [hK]; exact beq_eq_false_iff_ne.2 k2
  have hKr : -2147483648 ≤ K ∧ K ≤ 2147483647 := by rw [hK]; exact getV_range (p := 4)
  have HNO := Lib.hid (show ¬ isObj l from fun h => by
    rcases h.2.1.2 with ⟨h1, _⟩ | ⟨h1, _⟩
    · exact k1 h1
    · exact k2 h1)
  have hk1 : K ≠ 1 := by rw [hK]; exact k1
  have hk2 : K ≠ 2 := by rw [hK]; exact k2
  have HK12 := Lib.hid (And.intro hk1 hk2)
  clear k1 k2 hk1 hk2
  go_enter Try.func14, Try.ntmps14
  go_wp2_with fail
  refine (HG.out _ ((HR.out.alloc _)) 0 (by decide)).mono ?_
  rintro e w' ⟨rfl, rfl⟩
  rw [← hC]
  have HCC := Lib.hid hC
  clear hC
  go_wp2_with fail
  refine (HG.out _ ((HR.out.alloc _)) 4 (by decide)).mono ?_
  rintro e w' ⟨rfl, rfl⟩
  rw [← hK]
  have HKK := Lib.hid hK
  clear hK
  go_wp2_with fail
  obtain ⟨w2, hw2⟩ : ∃ z, z = ((w.alloc (.cells #[.int .i64 0, .int .i64 0, .slice none 0 0, .slice none 0 0] 25)).alloc (.cells #[.int .i64 C, .int .i64 K, .slice none 0 0, .slice none 0 0] 25)) := ⟨_, rfl⟩
  have hrow : Row w2 (w.heap.size + 1) 25 [.int .i64 C, .int .i64 K, .slice none 0 0, .slice none 0 0] := by
    rw [hw2]
    have := Row.made (w.alloc (.cells #[.int .i64 0, .int .i64 0, .slice none 0 0, .slice none 0 0] 25)) [.int .i64 C, .int .i64 K, .slice none 0 0, .slice none 0 0] 25
    simpa using this
  have hrow0 : Row w2 w.heap.size 25 [.int .i64 0, .int .i64 0, .slice none 0 0, .slice none 0 0] := by
    rw [hw2]
    exact (Row.made w [.int .i64 0, .int .i64 0, .slice none 0 0, .slice none 0 0] 25).alloc _
  have hbel : Below w.heap.size w w2 := by rw [hw2]; exact bAlloc ((Below.refl _ w).alloc (Nat.le_refl _) _)
  have hsz : w2.heap.size = w.heap.size + 2 := by rw [hw2]; simp
  rw [← hw2]
  have HROW := Lib.hid hrow
  have HROW0 := Lib.hid hrow0
  have HBEL := Lib.hid hbel
  obtain ⟨p0, hp0⟩ : ∃ p, p = w.heap.size := ⟨_, rfl⟩
  obtain ⟨p1, hp1⟩ : ∃ p, p = w.heap.size + 1 := ⟨_, rfl⟩
  rw [← hp1] at HROW ⊢
  rw [← hp0] at HROW0 ⊢
  have HP := Lib.hid (And.intro hp0 (And.intro hp1 hsz))
  clear hrow hrow0 hbel hw2 hsz hp0 hp1
  go_loopw [9] (fun i wr => i = .int .i64 12 ∧ w2 = wr) (fun i _ => 1 - (intOf i).toNat)
  case atStart => exact ⟨rfl, rfl⟩
  case round =>
    obtain ⟨rfl, rfl⟩ := hrel
    obtain ⟨o, ho⟩ : ∃ o : ObjD, o = ⟨C, K, none, 0, 0, [], none, 0, 0, []⟩ := ⟨_, rfl⟩
    have hok : o.ok w2 := by
      rw [ho]
      have hcr : -2147483648 ≤ C ∧ C ≤ 2147483647 := by rw [HCC.out]; exact getV_range (p := 0)
      exact ⟨by dsimp only; omega, by dsimp only; omega, rfl, ⟨Nat.le_refl _, by dsimp only; omega⟩, Reads.nil w2, fun x hx => by simp at hx, rfl, ⟨Nat.le_refl _, by dsimp only; omega⟩, Reads.nil w2, Byt.nil⟩
    have hE : chkE o = 2 := by
      unfold chkE
      rw [if_neg]
      rintro ⟨_, h | h⟩
      · exact HK12.out.1 (by have := h.1; rw [ho] at this; exact this)
      · exact HK12.out.2 (by have := h.1; rw [ho] at this; exact this)
    have HE := Lib.hid (c_Encode o w2 hok (by rw [ho]; dsimp only; omega))
    have hv : o.val = .agg #[.int .i64 C, .int .i64 K, .slice none 0 0, .slice none 0 0] := by rw [ho]; rfl
    rw [hv] at HE
    have HEE := Lib.hid hE
    have HB := Lib.hid HBEL.out
    have j0 := HROW.out.cell (i := 0) rfl
    have j1 := HROW.out.cell (i := 1) rfl
    have j2 := HROW.out.cell (i := 2) rfl
    have j3 := HROW.out.cell (i := 3) rfl
    clear hok hv hE ho
    go_wp2_with fail
    refine HE.out.mono ?_
    rintro e w4 ⟨v4, rfl, own4, b4⟩
    obtain ⟨a4, c4, rfl, hr4, -, -⟩ := owns_reads own4
    have R0 : Row w4 p0 25 [.int .i64 0, .int .i64 0, .slice none 0 0, .slice none 0 0] := (b4.block p0 HROW0.out.lt).trans HROW0.out
    have HB4 := Lib.hid (bNext HB.out b4)
    rw [HEE.out]
    generalize (encO o).length = n4 at *
    clear own4 hr4 b4 j0 j1 j2 j3 HE HB
    obtain ⟨w5, rfl⟩ : ∃ z, z = w4 := ⟨_, rfl⟩
    have R05 := R0
    have HB5 := HB4
    have o0 := R05.cell (i := 0) rfl
    have o1 := R05.cell (i := 1) rfl
    have o2 := R05.cell (i := 2) rfl
    have o3 := R05.cell (i := 3) rfl
    have f0 := R05.free 0
    have f1 := R05.free 1
    have f2 := R05.free 2
    have f3 := R05.free 3
    go_wp2
    obtain ⟨w6, hw6⟩ : ∃ z, z = (((w5.setCell ⟨p0, 0, none⟩ (.int .i64 0)).setCell ⟨p0, 1, none⟩ (.int .i64 0)).setCell ⟨p0, 2, none⟩ (.slice none 0 0)).setCell ⟨p0, 3, none⟩ (.slice none 0 0) := ⟨_, rfl⟩
    have R6 : Row w6 p0 25 [.int .i64 0, .int .i64 0, .slice none 0 0, .slice none 0 0] := by rw [hw6]; exact (((R05.set 0 _).set 1 _).set 2 _).set 3 _
    have U6 : Upd [p0] w5 w6 := by rw [hw6]; exact ((((Upd.refl [p0] w5).setCell (by simp) _).setCell (by simp) _).setCell (by simp) _).setCell (by simp) _
    rw [← hw6]
    clear hw6
    have z0 := R6.cell (i := 0) rfl
    have z1 := R6.cell (i := 1) rfl
    have z2 := R6.cell (i := 2) rfl
    have z3 := R6.cell (i := 3) rfl
    (try simp only [Exit.inBlock, Exit.then])
    refine bodyPost_ret (by rw [results_cell_tmp rfl]; go_simp; rfl) rfl ?_
    have hp := HP.out.1
    exact ⟨HB5.out.trans (U6.below HB5.out.size (fun k hk => by simp at hk; omega)), .inr ⟨HNO.out, rfl⟩⟩


end Go.Proofs.Ytdedidjobjdekaa
