/-
  Contracts of the document's package websterref13: product, Mul.
-/
import Derived.Test.YtdafncaehjipbaaLargeS
namespace Go.Proofs.Ytdafncaehjipbaa
open Go.RowKit
set_option linter.unusedVariables false
set_option maxHeartbeats 2000000
set_option maxRecDepth 20000

/-- So many products are in, and t of them. -/
def ProTo (l m s : List Int) (M i k t : Nat) : Prop := s.length = M ∧ valZ s = ((valI (l.take i) * valI m + 256 ^ i * dg l i * valI (m.take k) : Nat) : Int) ∧ ∀ p, 0 ≤ s.getD p 0 ∧ s.getD p 0 ≤ t * 65025
theorem ProTo.start (l m : List Int) (M : Nat) : ProTo l m (List.replicate M 0) M 0 0 0 :=
  ⟨List.length_replicate, by rw [valZ_zeros]; simp [valI], fun p => by
    rw [List.getD_eq_getElem?_getD, List.getElem?_replicate]; split <;> simp⟩
theorem ProTo.next {l m s : List Int} {M i k t : Nat} (hl : Byt l) (hb : Byt m) (h : ProTo l m s M i k t) (hk : i + k < M) : ProTo l m (s.set (i + k) (s.getD (i + k) 0 + l.getD i 0 * m.getD k 0)) M i (k + 1) (t + 1) := by
  obtain ⟨h1, h2, h3⟩ := h
  have hm := byte_in hb k
  have hx := byte_in hl i
  have hxy : 0 ≤ l.getD i 0 * m.getD k 0 ∧ l.getD i 0 * m.getD k 0 ≤ 65025 := by
    refine ⟨Int.mul_nonneg hx.1 hm.1, ?_⟩
    have := Int.mul_le_mul hx.2 hm.2 hm.1 (by omega)
    omega
  have e1 : l.getD i 0 = ((dg l i : Nat) : Int) := by unfold dg; omega
  have e2 : m.getD k 0 = ((dg m k : Nat) : Int) := by unfold dg; omega
  refine ⟨by rw [List.length_set]; exact h1, ?_, fun p => ?_⟩
  · rw [valZ_set _ (by omega), h2, val_take, show ∀ a b : Int, a + b - a = b from fun a b => by omega, e1, e2, Nat.pow_add, Nat.mul_add]
    simp only [Int.natCast_add, Int.natCast_mul]
    have : ((256 ^ i : Nat) : Int) * ((256 ^ k : Nat) : Int) * (((dg l i : Nat) : Int) * ((dg m k : Nat) : Int)) = ((256 ^ i : Nat) : Int) * ((dg l i : Nat) : Int) * (((256 ^ k : Nat) : Int) * ((dg m k : Nat) : Int)) := by
      generalize ((256 ^ i : Nat) : Int) = a
      generalize ((256 ^ k : Nat) : Int) = b
      generalize ((dg l i : Nat) : Int) = c
      generalize ((dg m k : Nat) : Int) = d
      rw [Int.mul_assoc, Int.mul_assoc]
      congr 1
      rw [← Int.mul_assoc, ← Int.mul_assoc, Int.mul_comm b c]
    rw [this]
    omega
  · by_cases hp : p < M
    · rw [getD_set2 (by omega)]
      have := h3 p
      by_cases e : i + k = p
      · subst e
        rw [if_pos rfl]
        omega
      · rw [if_neg e]
        omega
    · rw [List.getD_eq_getElem?_getD, List.getElem?_eq_none (by rw [List.length_set]; omega)]
      simp
      omega
theorem ProTo.row {l m s : List Int} {M i t : Nat} (h : ProTo l m s M i m.length t) : ProTo l m s M (i + 1) 0 t := by
  obtain ⟨h1, h2, h3⟩ := h
  refine ⟨h1, ?_, h3⟩
  rw [h2, val_take, List.take_of_length_le (Nat.le_refl _), List.take_zero]
  simp only [valI, Nat.mul_zero, Nat.add_zero]
  rw [Nat.add_mul]
theorem ProTo.done {l m s : List Int} {M t : Nat} (h : ProTo l m s M l.length 0 t) : valZ s = ((valI l * valI m : Nat) : Int) := by
  rw [h.2.1, List.take_of_length_le (Nat.le_refl _)]
  simp [valI]

theorem r_product {a0 a1 : Option Addr} {n0 n1 c0 c1 : Nat} {l m : List Int} {w : World} (h0 : SlAt w a0 n0 c0 l) (h1 : SlAt w a1 n1 c1 m) (hm0 : n0 ≤ 1000) (hm1 : n1 ≤ 1000) :
    Calls Try.prog 43 #[.slice a0 n0 c0, .slice a1 n1 c1] w (NumPost w (valI l * valI m)) := by
  have HH := Lib.hid (And.intro h0 h1)
  clear h0 h1
  go_enter Try.func43, Try.ntmps43
  go_wp2_with (at_make; refine wpList_mk rfl _ _ 54 rfl 3 (.int .i64 0) 8 Try.underlying54 inf_i64L rfl .i64 .i64 _ _ (n0 + n1 + 1) rfl rfl ?c1 ?c2 (by omega) (by unfold maxLen; omega) ?_)
  case c1 => omega
  case c2 => omega
  intro w1 row1 upd1
  have HB1 := Lib.hid (upd1.below (Nat.le_refl _) (by simp))
  obtain ⟨g, hg⟩ : ∃ g, g = w.heap.size := ⟨_, rfl⟩
  obtain ⟨M, hM⟩ : ∃ N, N = n0 + n1 + 1 := ⟨_, rfl⟩
  rw [← hg] at row1 ⊢
  rw [← hM] at row1 ⊢
  have hM2 : M ≤ 100000 := by omega
  have hMi : ((n0 : Int) + (n1 : Int) + 1) = (M : Int) := by omega
  have HRW := Lib.hid row1
  have HG := Lib.hid hg
  have HM := Lib.hid hM
  clear row1 upd1 hg hM
  go_wp2
  try rw [hMi]
  clear hMi
  go_loopw [6, 7] (fun i kk wr => ∃ (j : Nat) (s : List Int), j ≤ n0 ∧ i = .int .i64 j ∧ Hid (Row wr g 3 (s.map (Value.int .i64))) ∧ Hid (ProTo l m s M j 0 (j * n1)) ∧ Hid (Below w.heap.size w wr)) (fun i _ _ => n0 - (intOf i).toNat)
  case atStart =>
    refine ⟨0, List.replicate M 0, Nat.zero_le _, rfl, ?_, by show ProTo _ _ _ _ _ _ _; rw [Nat.zero_mul]; exact ProTo.start _ _ _, HB1.out⟩
    show Row _ _ _ _
    rw [List.map_replicate]; exact HRW.out
  case round =>
    obtain ⟨j, s, hj, rfl, hrow, hto, hbel⟩ := hrel
    by_cases hjn : j < n0
    · have hji : (j : Int) < (n0 : Int) := by omega
      have hjm : j * n1 + n1 ≤ 1000000 := by
        have : (j + 1) * n1 ≤ 1000 * 1000 := Nat.mul_le_mul (by omega) hm1
        rw [Nat.add_mul] at this; omega
      obtain ⟨x, hx⟩ : ∃ x, x = l.getD j 0 := ⟨_, rfl⟩
      have hxb : 0 ≤ x ∧ x ≤ 255 := by rw [hx]; exact byte_in HH.out.1.byt j
      have HX := Lib.hid hx
      have HJM := Lib.hid hjm
      clear hx hjm
      go_wp2
      go_loopw [7] (fun kk wr2 => ∃ (k : Nat) (s2 : List Int), k ≤ n1 ∧ kk = .int .i64 k ∧ Hid (Row wr2 g 3 (s2.map (Value.int .i64))) ∧ Hid (ProTo l m s2 M j k (j * n1 + k)) ∧ Hid (Below w.heap.size w wr2)) (fun kk _ => n1 - (intOf kk).toNat)
      case atStart => exact ⟨0, s, Nat.zero_le _, rfl, hrow.out, by show ProTo _ _ _ _ _ _ _; rw [Nat.add_zero]; exact hto.out, hbel.out⟩
      case round =>
        obtain ⟨k, s2, hk, rfl, hrow2, hto2, hbel2⟩ := hrel
        by_cases hkn : k < n1
        · have hki : (k : Int) < (n1 : Int) := by omega
          obtain ⟨q, hq⟩ : ∃ q, q = j + k := ⟨_, rfl⟩
          have hqi : (j : Int) + (k : Int) = (q : Int) := by omega
          have hqM : q < M := by have := HM.out; omega
          have hqMi : (q : Int) < (M : Int) := by omega
          have ha := HH.out.1.rd.below hbel2.out
          have hb := HH.out.2.rd.below hbel2.out
          obtain ⟨b0, o0, ea0, _, hc0⟩ := ha.at (by simp; have := HH.out.1.len; omega)
          obtain ⟨b1, o1, ea1, _, hc1⟩ := hb.at (by simp; have := HH.out.2.len; omega)
          have k0 := hc0 j _ (getD_map8 (by have := HH.out.1.len; omega))
          have k1 := hc1 k _ (getD_map8 (by have := HH.out.2.len; omega))
          rw [← HX.out] at k0
          have hyb := byte_in HH.out.2.byt k
          have hsb := hto2.out.2.2 q
          have hsb0 := hsb.1
          have hsb1 : s2.getD q 0 ≤ 65025000000 := by have := hsb.2; have := HJM.out; omega
          have HNX := Lib.hid (hto2.out.next HH.out.1.byt HH.out.2.byt (by rw [← hq]; exact hqM))
          have cg := hrow2.out.cell (i := q) (getD_map64 (by rw [hto2.out.1]; omega))
          have fg := hrow2.out.free q
          obtain ⟨z, hz⟩ : ∃ z, z = x * m.getD k 0 := ⟨_, rfl⟩
          have hzb : 0 ≤ z ∧ z ≤ 65025 := by
            rw [hz]
            refine ⟨Int.mul_nonneg hxb.1 hyb.1, ?_⟩
            have := Int.mul_le_mul hxb.2 hyb.2 hyb.1 (by omega)
            omega
          have hzi : x * m.getD k 0 = z := hz.symm
          have HP := Lib.hid (row_put64 hrow2.out q (s2.getD q 0 + z))
          have HBB := Lib.hid (hbel2.out.setCell (p := ⟨g, q, none⟩) (by show w.heap.size ≤ g; exact Nat.le_of_eq HG.out.symm) (.int .i64 (s2.getD q 0 + z)))
          rw [← hq, ← HX.out, hzi] at HNX
          have HQ := Lib.hid hq
          subst ea0
          subst ea1
          clear hc0 hc1 hsb ha hb hq hz
          generalize m.getD k 0 = y at *
          generalize s2.getD q 0 = v at *
          go_wp2
          go_region
          go_wp2
          go_roundw
          case rel => exact ⟨k + 1, s2.set q (v + z), by omega, by go_num, HP.out, HNX.out, HBB.out.drew⟩
          case measure => simp [intOf]; omega
        · have hki : ((k : Int) < (n1 : Int)) = False := eq_false (by omega)
          have hkn2 : (k < n1) = False := eq_false hkn
          have hke : k = n1 := by omega
          have HNR := Lib.hid (show ProTo l m s2 M (j + 1) 0 ((j + 1) * n1) from by
            have h := hto2.out
            rw [Nat.add_mul, Nat.one_mul]
            rw [hke] at h
            have hl := HH.out.2.len
            have h2 : ProTo l m s2 M j m.length (j * n1 + n1) := by rw [← hl]; exact h
            exact h2.row)
          clear hkn hke
          go_wp2
          go_roundw
          case rel => exact ⟨j + 1, s2, by omega, by go_num, hrow2.out, HNR.out, hbel2.out⟩
          case measure => simp [intOf]; omega
    · have hji : ((j : Int) < (n0 : Int)) = False := eq_false (by omega)
      have hjn2 : (j < n0) = False := eq_false hjn
      have hje : j = n0 := by omega
      have hv := hto.out
      have hjm : j * n1 ≤ 1000000 := by
        have : j * n1 ≤ 1000 * 1000 := Nat.mul_le_mul (by omega) hm1
        omega
      have HST := Lib.hid (r_settle (w := wr) (a := some ⟨g, 0, none⟩) (n := M) (c := M) (l := s) hto.out.1.symm (row_reads hrow.out M) (bound_mem (fun p => by have := hto.out.2.2 p; exact ⟨by omega, by omega⟩)) hM2 (by rw [hto.out.2.1]; exact Int.natCast_nonneg _))
      have HV := Lib.hid (show (valZ s).toNat = valI l * valI m from by
        have h := hto.out
        have hl := HH.out.1.len
        have h2 : ProTo l m s M l.length 0 (j * n1) := by rw [← hl, ← hje]; exact h
        rw [h2.done]; exact Int.toNat_natCast _)
      clear hjn hje hv hjm
      go_wp2_with fail
      refine HST.out.mono ?_
      rintro e w5 ⟨a5, k5, c5, rfl, hn5, hf5, b5⟩
      rw [HV.out] at hn5
      have HN5 := Lib.hid hn5
      have HF5 := Lib.hid (fun x hx => Nat.le_trans hbel.out.size (hf5 x hx))
      have HB5 := Lib.hid (bNext hbel.out b5)
      clear hn5 b5 hf5
      go_wp2
      go_ret
      exact ⟨a5, k5, c5, rfl, HN5.out, HF5.out, HB5.out⟩

theorem r_Mul {a0 a1 : Option Addr} {n0 n1 c0 c1 : Nat} {l m : List Int} {w : World} (h0 : SlAt w a0 n0 c0 l) (h1 : SlAt w a1 n1 c1 m) (hm0 : n0 ≤ 1000) (hm1 : n1 ≤ 1000) :
    Calls Try.prog 27 #[.slice a0 n0 c0, .slice a1 n1 c1] w (ResPost w (mulE l m) (valI l * valI m)) := by
  have HR0 := Lib.hid (r_Right a0 n0 c0 l w h0.len h0.rd (by omega))
  have HR1 := Lib.hid (r_Right a1 n1 c1 m w h1.len h1.rd (by omega))
  have HP := Lib.hid (r_product h0 h1 hm0 hm1)
  have HL := Lib.hid (show (digs (valI l * valI m)).length ≤ 100000 from by
    refine Nat.le_trans (digs_len (k := l.length + m.length) ?_) (by have := h0.len; have := h1.len; omega)
    rw [Nat.pow_add]
    have a := valI_lt h0.byt
    have b := valI_lt h1.byt
    exact Nat.mul_lt_mul_of_lt_of_lt a b)
  have HH := Lib.hid (And.intro h0 h1)
  clear h0 h1
  cases hr0 : rightB l with
  | false =>
    have hE : mulE l m = 2 := by unfold mulE; rw [if_pos (.inl hr0)]
    rw [hE]
    rw [hr0] at HR0
    clear hr0 hE
    go_enter Try.func27, Try.ntmps27
    go_wp2_with fail
    refine HR0.out.mono ?_
    rintro e w' ⟨rfl, rfl⟩
    go_wp2
    go_ret2
    exact ⟨none, 0, 0, rfl, by rw [if_neg (by decide)]; exact numAt_nil w, Below.refl _ _⟩
  | true =>
    rw [hr0] at HR0
    cases hr1 : rightB m with
    | false =>
      have hE : mulE l m = 2 := by unfold mulE; rw [if_pos (.inr hr1)]
      rw [hE]
      rw [hr1] at HR1
      clear hr0 hr1 hE
      go_enter Try.func27, Try.ntmps27
      go_wp2_with fail
      refine HR0.out.mono ?_
      rintro e w' ⟨rfl, rfl⟩
      go_wp2_with fail
      refine HR1.out.mono ?_
      rintro e w' ⟨rfl, rfl⟩
      go_wp2
      go_ret2
      exact ⟨none, 0, 0, rfl, by rw [if_neg (by decide)]; exact numAt_nil w, Below.refl _ _⟩
    | true =>
      rw [hr1] at HR1
      have hE : mulE l m = fullE (valI l * valI m) := by unfold mulE; rw [if_neg (by rw [hr0, hr1]; simp)]
      rw [hE]
      clear hr0 hr1 hE
      go_enter Try.func27, Try.ntmps27
      go_wp2_with fail
      refine HR0.out.mono ?_
      rintro e w' ⟨rfl, rfl⟩
      go_wp2_with fail
      refine HR1.out.mono ?_
      rintro e w' ⟨rfl, rfl⟩
      go_wp2_with fail
      refine HP.out.mono ?_
      rintro e w1 ⟨a5, k5, c5, rfl, hn5, -, b5⟩
      have HT := Lib.hid (r_told hn5 (by rw [hn5.1]; have := HL.out; omega))
      have HB := Lib.hid b5
      clear hn5 b5
      go_wp2_with fail
      refine HT.out.mono ?_
      rintro e w2 ⟨a6, k6, c6, rfl, hn6, b6⟩
      have HN := Lib.hid hn6
      have HB2 := Lib.hid (bNext HB.out b6)
      clear hn6 b6
      go_wp2
      go_ret2
      exact ⟨a6, k6, c6, rfl, HN.out, HB2.out⟩

end Go.Proofs.Ytdafncaehjipbaa
