/-
  The law LargeAdd. (Written by laddgen.py.)
-/
import Derived.Test.YtdafncaehjipbaaLargeAD
namespace Go.Proofs.Ytdafncaehjipbaa
open Go.RowKit Go.ChangeShapes Go.WideShapes Go.ChangeAt
set_option linter.unusedVariables false
set_option maxHeartbeats 2000000
set_option maxRecDepth 20000

/-- Rows of bytes that came in. -/
def SlDs (w : World) (a : Option Addr) (n c : Nat) (ds : List SlD) : Prop := n = ds.length ∧ n ≤ c ∧ c ≤ maxLen ∧ Reads w a c (ds.map SlD.val) ∧ ∀ d ∈ ds, SlAt w d.a d.n d.c d.l

theorem open_slds {H : Type} {enc : TypeId × Value → H} {w : World} {base : Nat} {spare : Nat → Bool} {held : Bool} {fuel : Nat} {cs : List Value} {x : DataW H × List MemPlace}
    (h : DataW.trod enc Try.prog w base spare held fuel 42 cs = some x) : ∃ (a : Option Addr) (n c : Nat) (ds : List SlD), cs = [.slice a n c] ∧ SlDs w a n c ds := by
  obtain ⟨a, n, c, rfl, h0, hn, hc, he⟩ := open_elems Try.underlying42 (S := 1) (by kernel_rfl) h
  have hd : ∀ i, i < n → ∃ d : SlD, (∃ ad, a = some ad ∧ w.cell? (ad.add i) = some d.val) ∧ SlAt w d.a d.n d.c d.l := fun i hi => by
    obtain ⟨ad, vs, m, y, had, hl, hcell, ht⟩ := he i hi
    obtain ⟨v, rfl⟩ : ∃ v, vs = [v] := List.length_eq_one_iff.1 hl
    obtain ⟨b, bn, bc, l, rfl, hb⟩ := cell_ints Try.underlying22 Try.underlying5 (by kernel_rfl) ht
    refine ⟨⟨b, bn, bc, l⟩, ⟨ad, had, ?_⟩, ⟨hb.1, hb.2.2.2.1, fun z hz => bounds_u8 (hb.2.2.2.2 z hz), hb.2.1, by have := hb.2.2.1; unfold maxLen at this; exact this⟩⟩
    have := hcell 0 _ rfl
    simp only [Nat.mul_one, Nat.add_zero] at this
    exact this
  obtain ⟨ds, hdl, hds⟩ := list_of hd
  refine ⟨a, n, c, ds, rfl, hdl.symm, hn, hc, ?_, fun d hm => ?_⟩
  · cases a with
    | none =>
      obtain ⟨h1, h2⟩ := h0 rfl
      subst h1
      have : ds = [] := List.eq_nil_of_length_eq_zero hdl
      subst this
      exact .inl ⟨rfl, h2, rfl⟩
    | some ad =>
      refine .inr ⟨ad, rfl, fun i u hu => ?_⟩
      rw [List.getElem?_map] at hu
      cases hdi : ds[i]? with
      | none => rw [hdi] at hu; cases hu
      | some d =>
        rw [hdi] at hu
        simp only [Option.map_some, Option.some.injEq] at hu
        obtain ⟨⟨ad', had', hcell⟩, -⟩ := hds i d hdi
        cases had'
        rw [← hu]; exact hcell
  · obtain ⟨i, hi, rfl⟩ := List.getElem_of_mem hm
    exact (hds i _ (List.getElem?_eq_getElem hi)).2

theorem law_LargeAdd (a0 : Option Addr) (len0 cap0 : Nat) (z0 : List Int) (a1 : Option Addr) (len1 cap1 : Nat) (z1 : List SlD) (w : World) (w0 : Came .u8 w a0 len0 cap0 z0) (w1 : SlDs w a1 len1 cap1 z1) :
    Calls Try.prog 8 #[.slice a0 len0 cap0, .slice a1 len1 cap1] w fun e w' => e = .returned (.bool true) ∧ Below w.heap.size w w' := by
  obtain ⟨l, hl⟩ := w0.sl
  obtain ⟨ds, hd⟩ : ∃ ds, ds = z1 := ⟨_, rfl⟩
  subst hd
  have hds := w1
  clear w0 w1
  by_cases hblen0 : len0 > 420
  · have qllen0 : ((420 : Int) < len0) = True := eq_true (by omega)
    have qglen0 : ((len0 : Int) > 420) = True := eq_true (by omega)
    clear hl hds
    go_enter Try.func8, Try.ntmps8
    go_wp2_with fail
    refine (c_known13 _).mono ?_
    rintro e w2 ⟨rfl, b2⟩
    have HB2 := Lib.hid b2
    clear b2
    go_wp2
    go_ret
    exact ⟨rfl, HB2.out⟩
  · have qllen0 : ((420 : Int) < len0) = False := eq_false (by omega)
    have qglen0 : ((len0 : Int) > 420) = False := eq_false (by omega)
    by_cases hblen1 : len1 > 8
    · have qllen1 : ((8 : Int) < len1) = True := eq_true (by omega)
      have qglen1 : ((len1 : Int) > 8) = True := eq_true (by omega)
      clear hl hds
      go_enter Try.func8, Try.ntmps8
      go_wp2_with fail
      refine (c_known13 _).mono ?_
      rintro e w2 ⟨rfl, b2⟩
      have HB2 := Lib.hid b2
      clear b2
      go_wp2
      go_ret
      exact ⟨rfl, HB2.out⟩
    · have qllen1 : ((8 : Int) < len1) = False := eq_false (by omega)
      have qglen1 : ((len1 : Int) > 8) = False := eq_false (by omega)
      have HL := Lib.hid hl
      have HDS := Lib.hid hds
      have HN1 := Lib.hid (show len1 = ds.length from hds.1)
      have HRD := Lib.hid (fun (wz : World) (b : Below w.heap.size w wz) => hds.2.2.2.1.below b)
      obtain ⟨EA, hEA⟩ : ∃ E, E = addE l ds := ⟨_, rfl⟩
      have HEA := Lib.hid hEA
      have g0 : (EA == EA) = true := by simp
      clear hl hds hEA
      go_enter Try.func8, Try.ntmps8
      go_wp2
      go_loop [5] (fun i => ∃ k : Nat, k ≤ len1 ∧ i = .int .i64 k ∧ Hid (∀ q (hq : q < ds.length), q < k → ds[q].n ≤ 420)) (fun i => len1 - (intOf i).toNat)
      case atStart => exact ⟨0, Nat.zero_le _, rfl, fun q _ hq => by omega⟩
      case round =>
        obtain ⟨k, hk, rfl, hz⟩ := hrel
        by_cases hkn : k < len1
        · have hki : (k : Int) < (len1 : Int) := by omega
          have hkd : k < ds.length := by have := HN1.out; omega
          obtain ⟨b, off, rfl, hblt, hc⟩ := HDS.out.2.2.2.1.at (by simp; omega)
          have hcell := hc k _ (vals_at hkd)
          have HY := Lib.hid (fun h : ds[k].n ≤ 420 => (by
            intro q hq hqj
            by_cases hqk : q = k
            · subst hqk; exact h
            · exact hz.out q hq (by omega) : ∀ q (hq : q < ds.length), q < k + 1 → ds[q].n ≤ 420))
          generalize ds[k] = x at *
          obtain ⟨xa, xn, xc, xl⟩ := x
          dsimp only at hcell HY
          clear hc hz
          by_cases hx : xn > 420
          · have q3 : ((420 : Int) < xn) = True := eq_true (by omega)
            have q4 : ((xn : Int) > 420) = True := eq_true (by omega)
            clear HY
            go_wp2_with fail
            refine (c_known13 _).mono ?_
            rintro e w2 ⟨rfl, b2⟩
            have HB2 := Lib.hid b2
            clear b2
            go_wp2
            go_ret
            exact ⟨rfl, HB2.out⟩
          · have q3 : ((420 : Int) < xn) = False := eq_false (by omega)
            have q4 : ((xn : Int) > 420) = False := eq_false (by omega)
            have HYY := Lib.hid (HY.out (by omega))
            go_wp2
            go_round
            case rel => exact ⟨k + 1, by omega, by go_num, HYY.out⟩
            case measure => simp [intOf]; omega
        · have hki : ((k : Int) < (len1 : Int)) = False := eq_false (by omega)
          have hkn2 : (k < len1) = False := eq_false hkn
          have HOK := Lib.hid (fun (wz : World) (b : Below w.heap.size w wz) => show ∀ d ∈ ds, d.ok wz from fun d hd => by
            obtain ⟨q, hq, rfl⟩ := List.getElem_of_mem hd
            have h1 := hz.out q hq (by have := HN1.out; omega)
            exact ⟨(HDS.out.2.2.2.2 _ (List.getElem_mem hq)).below b, by omega⟩)
          clear hz hkn
          have HB0 := Lib.hid (Below.refl w.heap.size w)
          go_wp2_with fail
          refine (c_Add HL.out (by omega) HN1.out (HRD.out _ HB0.out) (HOK.out _ HB0.out) (by omega)).mono ?_
          rw [← HEA.out]
          rintro e wy1 ⟨a1, k1, c1, rfl, hn1, b1⟩
          have hb1 : Below w.heap.size w wy1 := b1
          have HL := Lib.hid (HL.out.below hb1)
          have HB1 := Lib.hid (bNext HB0.out hb1)
          have HX1 := Lib.hid hn1.sl
          clear b1 hb1 hn1
          go_wp2_with fail
          refine (r_Add HL.out (by omega) HN1.out (HRD.out _ HB1.out) (HOK.out _ HB1.out) (by omega)).mono ?_
          rw [← HEA.out]
          rintro e wy2 ⟨a2, k2, c2, rfl, hn2, b2⟩
          have hb2 : Below wy1.heap.size wy1 wy2 := b2
          have HL := Lib.hid (HL.out.below hb2)
          have HX1 := Lib.hid (HX1.out.below hb2)
          have HB2 := Lib.hid (bNext HB1.out hb2)
          have HX2 := Lib.hid hn2.sl
          clear b2 hb2 hn2
          go_wp2_with fail
          refine (s_Same HX1.out HX2.out).mono ?_
          rintro e wz3 ⟨rfl, rfl⟩
          rw [decide_eq_true rfl]
          go_wp2_with fail
          refine (c_known13 _).mono ?_
          rintro e wy4 ⟨rfl, b4⟩
          have hb4 : Below wy2.heap.size wy2 wy4 := b4
          have HL := Lib.hid (HL.out.below hb4)
          have HX1 := Lib.hid (HX1.out.below hb4)
          have HX2 := Lib.hid (HX2.out.below hb4)
          have HB4 := Lib.hid (bNext HB2.out hb4)
          clear b4 hb4 
          go_wp2
          go_ret
          exact ⟨rfl, HB4.out⟩

end Go.Proofs.Ytdafncaehjipbaa
