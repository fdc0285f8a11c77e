/-
  Contracts of the document's package websterref13: Sub, product, Mul.
-/
import Derived.Test.YtdafncaehjipbaaLargeR
namespace Go.Proofs.Ytdafncaehjipbaa
open Go.RowKit
set_option linter.unusedVariables false
set_option maxHeartbeats 2000000
set_option maxRecDepth 20000

theorem valZ_zeros (n : Nat) : valZ (List.replicate n 0) = 0 := by
  induction n with
  | zero => rfl
  | succ n ih => rw [List.replicate_succ, valZ, ih]; rfl
theorem valZ_rowL {l : List Int} (hb : Byt l) (M : Nat) : valZ (rowL l M) = valI l := by
  unfold rowL
  rw [valZ_append, valZ_zeros, valZ_byt hb]; simp
theorem rowL_len {l : List Int} {M : Nat} (h : l.length ≤ M) : (rowL l M).length = M := by
  unfold rowL
  rw [List.length_append, List.length_replicate]; omega
theorem rowL_in {l : List Int} (hb : Byt l) (M p : Nat) : 0 ≤ (rowL l M).getD p 0 ∧ (rowL l M).getD p 0 ≤ 255 := by
  have : Byt (rowL l M) := hb.append (byt_zeros _)
  exact byte_in this p

/-- So many are taken away. -/
def SubTo (l m s : List Int) (M k : Nat) : Prop := s.length = M ∧ valZ s = (valI l : Int) - (valI (m.take k) : Int) ∧ ∀ p, -255 ≤ s.getD p 0 ∧ s.getD p 0 ≤ 255 ∧ (k ≤ p → 0 ≤ s.getD p 0)
theorem SubTo.start {l : List Int} (m : List Int) {M : Nat} (hb : Byt l) (hl : l.length ≤ M) : SubTo l m (rowL l M) M 0 :=
  ⟨rowL_len hl, by rw [valZ_rowL hb]; simp [valI], fun p => by have := rowL_in hb M p; exact ⟨by omega, this.2, fun _ => this.1⟩⟩
theorem SubTo.next {l m s : List Int} {M k : Nat} (hb : Byt m) (h : SubTo l m s M k) (hk : k < M) : SubTo l m (s.set k (s.getD k 0 - m.getD k 0)) M (k + 1) := by
  obtain ⟨h1, h2, h3⟩ := h
  have hm := byte_in hb k
  refine ⟨by rw [List.length_set]; exact h1, ?_, fun p => ?_⟩
  · rw [valZ_set _ (by omega), h2, val_take]
    have : ((dg m k : Nat) : Int) = m.getD k 0 := by unfold dg; omega
    rw [Int.natCast_add, Int.natCast_mul, this]
    have e : (256 ^ k : Nat) * (s.getD k 0 - m.getD k 0 - s.getD k 0) = -((256 ^ k : Nat) * m.getD k 0) := by rw [← Int.mul_neg]; congr 1; omega
    rw [e]; omega
  · by_cases hp : p < M
    · rw [getD_set2 (by omega)]
      have := h3 p
      by_cases e : k = p
      · subst e
        rw [if_pos rfl]
        have := this.2.2 (Nat.le_refl _)
        exact ⟨by omega, by omega, fun h => by omega⟩
      · rw [if_neg e]
        exact ⟨this.1, this.2.1, fun h => this.2.2 (by omega)⟩
    · rw [List.getD_eq_getElem?_getD, List.getElem?_eq_none (by rw [List.length_set]; omega)]
      simp
theorem bound_mem {s : List Int} {lo hi : Int} (h : ∀ p, lo ≤ s.getD p 0 ∧ s.getD p 0 ≤ hi) : ∀ x ∈ s, lo ≤ x ∧ x ≤ hi := fun x hx => by
  obtain ⟨i, hi', rfl⟩ := List.getElem_of_mem hx
  have := h i
  rw [List.getD_eq_getElem?_getD, List.getElem?_eq_getElem hi'] at this
  exact this

theorem NumPost.res {w : World} {a : Option Addr} {k c N : Nat} {w' : World} (h : NumAt w' a k c N) (b : Below w.heap.size w w') : ResPost w 0 N (.returned (.tuple #[.slice a k c, .int .i64 0])) w' :=
  ⟨a, k, c, rfl, by rw [if_pos rfl]; exact h, b⟩

theorem r_Sub {a0 a1 : Option Addr} {n0 n1 c0 c1 : Nat} {l m : List Int} {w : World} (h0 : SlAt w a0 n0 c0 l) (h1 : SlAt w a1 n1 c1 m) (hm0 : n0 ≤ 100000) (hm1 : n1 ≤ 100000) :
    Calls Try.prog 15 #[.slice a0 n0 c0, .slice a1 n1 c1] w (ResPost w (subE l m) (valI l - valI m)) := by
  have HR0 := Lib.hid (r_Right a0 n0 c0 l w h0.len h0.rd (by omega))
  have HR1 := Lib.hid (r_Right a1 n1 c1 m w h1.len h1.rd (by omega))
  have HCM := Lib.hid (r_Cmp h0 h1 hm0 hm1)
  have HH := Lib.hid (And.intro h0 h1)
  clear h0 h1
  cases hr0 : rightB l with
  | false =>
    have hE : subE l m = 2 := by unfold subE; rw [if_pos (.inl hr0)]
    rw [hE]
    rw [hr0] at HR0
    clear hr0 hE
    go_enter Try.func15, Try.ntmps15
    go_wp2_with fail
    refine HR0.out.mono ?_
    rintro e w' ⟨rfl, rfl⟩
    go_wp2
    go_ret2
    exact ⟨none, 0, 0, rfl, by rw [if_neg (by decide)]; exact numAt_nil w, Below.refl _ _⟩
  | true =>
    rw [hr0] at HR0
    cases hr1 : rightB m with
    | false =>
      have hE : subE l m = 2 := by unfold subE; rw [if_pos (.inr hr1)]
      rw [hE]
      rw [hr1] at HR1
      clear hr0 hr1 hE
      go_enter Try.func15, Try.ntmps15
      go_wp2_with fail
      refine HR0.out.mono ?_
      rintro e w' ⟨rfl, rfl⟩
      go_wp2_with fail
      refine HR1.out.mono ?_
      rintro e w' ⟨rfl, rfl⟩
      go_wp2
      go_ret2
      exact ⟨none, 0, 0, rfl, by rw [if_neg (by decide)]; exact numAt_nil w, Below.refl _ _⟩
    | true =>
      rw [hr1] at HR1
      have d0 := right_digs HH.out.1.byt hr0
      have d1 := right_digs HH.out.2.byt hr1
      by_cases hlt : valI l < valI m
      · have hE : subE l m = 4 := by unfold subE; rw [if_neg (by rw [hr0, hr1]; simp), if_pos hlt]
        have hC : cmpI (valI l) (valI m) = -1 := by unfold cmpI; rw [if_pos hlt]
        rw [hE]
        rw [hC] at HCM
        clear hr0 hr1 hE hC hlt d0 d1
        go_enter Try.func15, Try.ntmps15
        go_wp2_with fail
        refine HR0.out.mono ?_
        rintro e w' ⟨rfl, rfl⟩
        go_wp2_with fail
        refine HR1.out.mono ?_
        rintro e w' ⟨rfl, rfl⟩
        go_wp2_with fail
        refine HCM.out.mono ?_
        rintro e w1 ⟨rfl, rfl⟩
        go_wp2
        go_ret2
        exact ⟨none, 0, 0, rfl, by rw [if_neg (by decide)]; exact numAt_nil w, Below.refl _ _⟩
      · have hE : subE l m = 0 := by unfold subE; rw [if_neg (by rw [hr0, hr1]; simp), if_neg hlt]
        have hC : cmpI (valI l) (valI m) = 0 ∨ cmpI (valI l) (valI m) = 1 := by
          unfold cmpI
          rw [if_neg hlt]
          split
          · exact .inr rfl
          · exact .inl rfl
        have hle : valI m ≤ valI l := by omega
        have HLE := Lib.hid hle
        have HRW := Lib.hid (r_row (N := n1) HH.out.1 hm0 hm1)
        rw [hE]
        clear hr0 hr1 hE hle hlt d0 d1
        have hcn : (cmpI (valI l) (valI m) < 0) = False := eq_false (by omega)
        clear hC
        generalize cmpI (valI l) (valI m) = C at *
        go_enter Try.func15, Try.ntmps15
        go_wp2_with fail
        refine HR0.out.mono ?_
        rintro e w' ⟨rfl, rfl⟩
        go_wp2_with fail
        refine HR1.out.mono ?_
        rintro e w' ⟨rfl, rfl⟩
        go_wp2_with fail
        refine HCM.out.mono ?_
        rintro e w1 ⟨rfl, rfl⟩
        go_wp2_with fail
        refine HRW.out.mono ?_
        rintro e w2 ⟨g, M, rfl, hM, hrow, hg, bel⟩
        have hM5 : M ≤ 100000 := by omega
        have hMn0 : n0 ≤ M := by omega
        have hMn1 : n1 ≤ M := by omega
        have HR := Lib.hid hrow
        have HG := Lib.hid hg
        have HB := Lib.hid bel
        clear HRW HCM HR0 HR1 hcn hM hrow hg bel
        go_wp2
        go_loopw [7] (fun i wr => ∃ (k : Nat) (s : List Int), k ≤ n1 ∧ i = .int .i64 k ∧ Hid (Row wr g 3 (s.map (Value.int .i64))) ∧ Hid (SubTo l m s M k) ∧ Hid (Below w.heap.size w wr)) (fun i _ => n1 - (intOf i).toNat)
        case atStart => exact ⟨0, rowL l M, Nat.zero_le _, rfl, HR.out, SubTo.start m HH.out.1.byt (by have := HH.out.1.len; omega), HB.out⟩
        case round =>
          obtain ⟨k, s, hk, rfl, hrow, hto, hbel⟩ := hrel
          by_cases hkn : k < n1
          · have hki : (k : Int) < (n1 : Int) := by omega
            have hkM : k < M := by omega
            have hkMi : (k : Int) < (M : Int) := by omega
            obtain ⟨b0, o0, rfl, _, hc0⟩ := (HH.out.2.rd.below hbel.out).at (by simp; have := HH.out.2.len; omega)
            have k0 := hc0 k _ (getD_map8 (by have := HH.out.2.len; omega))
            have hxb := byte_in HH.out.2.byt k
            have hsb := hto.out.2.2 k
            have hsb1 := hsb.1
            have hsb2 := hsb.2.1
            have HNX := Lib.hid (hto.out.next HH.out.2.byt hkM)
            have cg := hrow.out.cell (i := k) (getD_map64 (by rw [hto.out.1]; omega))
            have fg := hrow.out.free k
            have HP := Lib.hid (row_put64 hrow.out k (s.getD k 0 - m.getD k 0))
            have HBB := Lib.hid (hbel.out.setCell (p := ⟨g, k, none⟩) (by show w.heap.size ≤ g; exact HG.out) (.int .i64 (s.getD k 0 - m.getD k 0)))
            clear hc0 hsb
            generalize m.getD k 0 = x at *
            generalize s.getD k 0 = y at *
            go_wp2
            go_region
            go_wp2
            go_roundw
            case rel => exact ⟨k + 1, s.set k (y - x), by omega, by go_num, HP.out, HNX.out, HBB.out.drew⟩
            case measure => simp [intOf]; omega
          · have hki : ((k : Int) < (n1 : Int)) = False := eq_false (by omega)
            have hkn2 : (k < n1) = False := eq_false hkn
            have hke : k = n1 := by omega
            have hv := hto.out.2.1
            rw [List.take_of_length_le (by have := HH.out.2.len; omega)] at hv
            have HST := Lib.hid (r_settle (w := wr) (a := some ⟨g, 0, none⟩) (n := M) (c := M) (l := s) hto.out.1.symm (row_reads hrow.out M) (bound_mem (fun p => by have := hto.out.2.2 p; exact ⟨by omega, by omega⟩)) hM5 (by have := HLE.out; omega))
            have HV := Lib.hid hv
            clear hkn hke hv
            go_wp2_with fail
            refine HST.out.mono ?_
            rintro e w5 ⟨a5, k5, c5, rfl, hn5, -, b5⟩
            rw [HV.out] at hn5
            have HN5 := Lib.hid (show NumAt w5 a5 k5 c5 (valI l - valI m) from by
              have e : ((valI l : Int) - (valI m : Int)).toNat = valI l - valI m := by omega
              rw [← e]; exact hn5)
            have HB5 := Lib.hid (bNext hbel.out b5)
            clear hn5 b5
            go_wp2
            go_ret2
            exact NumPost.res HN5.out HB5.out

end Go.Proofs.Ytdafncaehjipbaa
