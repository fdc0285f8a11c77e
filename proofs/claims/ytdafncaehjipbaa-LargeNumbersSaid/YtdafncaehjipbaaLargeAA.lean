/-
  Contracts of the document's package websterref13: Add. And Add of two.
-/
import Derived.Test.YtdafncaehjipbaaLargeZ
namespace Go.Proofs.Ytdafncaehjipbaa
open Go.RowKit
set_option linter.unusedVariables false
set_option maxHeartbeats 2000000
set_option maxRecDepth 20000

/-- So many are summed up, and k digits of the next one. -/
def AddTo (l : List Int) (S : Nat) (xl s : List Int) (M i k : Nat) : Prop := s.length = M ∧ valZ s = ((S + valI (xl.take k) : Nat) : Int) ∧ ∀ p, 0 ≤ s.getD p 0 ∧ s.getD p 0 ≤ 255 * ((i : Int) + 2) ∧ (k ≤ p → s.getD p 0 ≤ 255 * ((i : Int) + 1))
theorem AddTo.start {l : List Int} {M : Nat} (hb : Byt l) (hl : l.length ≤ M) (xl : List Int) : AddTo l (valI l) xl (rowL l M) M 0 0 :=
  ⟨rowL_len hl, by rw [valZ_rowL hb]; simp [valI], fun p => by have := rowL_in hb M p; exact ⟨by omega, by omega, fun _ => by omega⟩⟩
theorem AddTo.next {l xl s : List Int} {S M i k : Nat} (hb : Byt xl) (h : AddTo l S xl s M i k) (hk : k < M) : AddTo l S xl (s.set k (s.getD k 0 + xl.getD k 0)) M i (k + 1) := by
  obtain ⟨h1, h2, h3⟩ := h
  have hm := byte_in hb k
  refine ⟨by rw [List.length_set]; exact h1, ?_, fun p => ?_⟩
  · rw [valZ_set _ (by omega), h2, val_take]
    have : ((dg xl k : Nat) : Int) = xl.getD k 0 := by unfold dg; omega
    rw [show ∀ a b : Int, a + b - a = b from fun a b => by omega, ← this]
    simp only [Int.natCast_add, Int.natCast_mul]
    omega
  · by_cases hp : p < M
    · rw [getD_set2 (by omega)]
      have := h3 p
      by_cases e : k = p
      · subst e
        rw [if_pos rfl]
        have := this.2.2 (Nat.le_refl _)
        exact ⟨by omega, by omega, fun h => by omega⟩
      · rw [if_neg e]
        exact ⟨this.1, this.2.1, fun h => this.2.2 (by omega)⟩
    · rw [List.getD_eq_getElem?_getD, List.getElem?_eq_none (by rw [List.length_set]; omega)]
      simp
      omega
theorem AddTo.row {l xl s : List Int} {S M i : Nat} (h : AddTo l S xl s M i xl.length) (yl : List Int) : AddTo l (S + valI xl) yl s M (i + 1) 0 := by
  obtain ⟨h1, h2, h3⟩ := h
  refine ⟨h1, ?_, fun p => ?_⟩
  · rw [h2, List.take_of_length_le (Nat.le_refl _)]; simp [valI]
  · have := h3 p
    exact ⟨this.1, by omega, fun _ => by omega⟩
theorem AddTo.any {l xl s : List Int} {S M i : Nat} (h : AddTo l S xl s M i 0) (yl : List Int) : AddTo l S yl s M i 0 := by
  obtain ⟨h1, h2, h3⟩ := h
  exact ⟨h1, by rw [h2]; simp, h3⟩

theorem sum_all {l : List Int} {ds : List SlD} {F : Nat} (hl : (digs (valI l)).length ≤ F) (hd : ∀ d ∈ ds, valI d.l < 256 ^ F) : ∀ k, k ≤ ds.length → (digs (valI l + sumR (ds.take k))).length ≤ F + k
  | 0, _ => by simpa [sumR] using hl
  | k + 1, h => by
    rw [sumR_take (by omega), ← Nat.add_assoc]
    exact sum_len (sum_all hl hd k (by omega)) (hd _ (List.getElem_mem _))

theorem r_Add {a0 a1 : Option Addr} {n0 n1 c0 c1 : Nat} {l : List Int} {ds : List SlD} {w : World} (h0 : SlAt w a0 n0 c0 l) (hm0 : n0 ≤ 1000000000000) (e1 : n1 = ds.length) (h1 : Reads w a1 c1 (ds.map SlD.val)) (hd : ∀ d ∈ ds, d.ok w) (hm1 : n1 ≤ 1000) :
    Calls Try.prog 25 #[.slice a0 n0 c0, .slice a1 n1 c1] w (ResPost w (addE l ds) (valI l + sumR ds)) := by
  have HR0 := Lib.hid (r_Right a0 n0 c0 l w h0.len h0.rd hm0)
  have HH := Lib.hid h0
  have HR := Lib.hid h1
  have HD := Lib.hid hd
  have HE1 := Lib.hid e1
  clear h0 h1 hd e1
  cases hr0 : rightB l with
  | false =>
    have hE : addE l ds = 2 := by unfold addE; rw [if_pos (.inl hr0)]
    rw [hE]
    rw [hr0] at HR0
    clear hr0 hE
    go_enter Try.func25, Try.ntmps25
    go_wp2_with fail
    refine HR0.out.mono ?_
    rintro e w' ⟨rfl, rfl⟩
    go_wp2
    go_ret2
    exact ⟨none, 0, 0, rfl, by rw [if_neg (by decide)]; exact numAt_nil w, Below.refl _ _⟩
  | true =>
    rw [hr0] at HR0
    have HD0 := Lib.hid (right_digs HH.out.byt hr0)
    have HAE := Lib.hid (show addE l ds = if badR ds = true then 2 else fullE (valI l + sumR ds) from by
      unfold addE
      rw [hr0]
      by_cases hb : badR ds = true
      · rw [if_pos (.inr hb), if_pos hb]
      · rw [if_neg (by simp [hb]), if_neg hb])
    have hn4 : n0 ≤ 400 := by have := HD0.out.2; have := HH.out.len; omega
    have HRW := Lib.hid (r_row (N := 402) HH.out (by omega) (by omega))
    rw [show (((402 : Nat)) : Int) = 402 from rfl] at HRW
    clear hr0
    go_enter Try.func25, Try.ntmps25
    go_wp2_with fail
    refine HR0.out.mono ?_
    rintro e w' ⟨rfl, rfl⟩
    go_wp2_with fail
    refine HRW.out.mono ?_
    rintro e w2 ⟨g, M, rfl, hM, hrow, hg, bel⟩
    have hM2 : M = 402 := by omega
    have HM2 := Lib.hid hM2
    have HRR := Lib.hid hrow
    have HG := Lib.hid hg
    have HB := Lib.hid bel
    have hMb : M ≤ 402 := by omega
    have hMb2 : 402 ≤ M := by omega
    clear hM hM2 hrow hg bel HRW HR0
    go_wp2
    go_loopw [7, 8] (fun i kk wr => ∃ (j : Nat) (s : List Int), j ≤ n1 ∧ i = .int .i64 j ∧ Hid (Row wr g 3 (s.map (Value.int .i64))) ∧ Hid (AddTo l (valI l + sumR (ds.take j)) [] s M j 0) ∧ Hid (∀ q (hq : q < ds.length), q < j → rightB ds[q].l = true) ∧ Hid (Below w.heap.size w wr)) (fun i _ _ => n1 - (intOf i).toNat)
    case atStart => exact ⟨0, rowL l M, Nat.zero_le _, rfl, HRR.out, AddTo.start HH.out.byt (by have := HH.out.len; omega) [], (fun q _ hq => by omega : ∀ q (hq : q < ds.length), q < 0 → rightB ds[q].l = true), HB.out⟩
    case round =>
      obtain ⟨j, s, hj, rfl, hrow, hto, hrt, hbel⟩ := hrel
      by_cases hjn : j < n1
      · have hji : (j : Int) < (n1 : Int) := by omega
        have hjd : j < ds.length := by have := HE1.out; omega
        have hro := HR.out.below hbel.out
        obtain ⟨b, off, ea1, hblt, hc⟩ := hro.at (by simp; omega)
        have HRL := Lib.hid (fun (wz : World) (bz : Below w.heap.size w wz) => show wz.cell? ⟨b, off + j, none⟩ = some (.slice ds[j].a ds[j].n ds[j].c) from by
          have h := HR.out.below bz
          obtain ⟨b', off', e', -, hc'⟩ := h.at (by simp; omega)
          rw [ea1] at e'
          simp only [Option.some.injEq, Addr.mk.injEq, and_true] at e'
          obtain ⟨rfl, rfl⟩ := e'
          exact hc' j _ (vals_at hjd))
        have hcell := hc j _ (vals_at hjd)
        have HOK := Lib.hid (HD.out _ (List.getElem_mem hjd))
        have HT := Lib.hid (sumR_take hjd)
        have HNO := Lib.hid (fun h : rightB ds[j].l = false => badR_yes hjd h)
        have HYS := Lib.hid (fun h : rightB ds[j].l = true => (by
          intro q hq hqj
          by_cases hqk : q = j
          · subst hqk; exact h
          · exact hrt.out q hq (by omega) : ∀ q (hq : q < ds.length), q < j + 1 → rightB ds[q].l = true))
        generalize ds[j] = x at *
        obtain ⟨xa, xn, xc, xl⟩ := x
        dsimp only at hcell HT HNO HYS HRL
        have HOS := Lib.hid (show SlAt w xa xn xc xl from HOK.out.1)
        have HRX := Lib.hid (r_Right xa xn xc xl wr HOS.out.len (HOS.out.rd.below hbel.out) HOK.out.2)
        subst ea1
        clear hc hro
        cases hrx : rightB xl with
        | false =>
          rw [hrx] at HRX
          have HBD := Lib.hid (HNO.out hrx)
          clear hrx HNO HYS
          go_wp2_with fail
          refine HRX.out.mono ?_
          rintro e w' ⟨rfl, rfl⟩
          go_wp2
          go_ret2
          have hA2 : addE l ds = 2 := by rw [HAE.out, if_pos HBD.out]
          exact ⟨none, 0, 0, by rw [hA2]; rfl, by rw [hA2, if_neg (by decide)]; exact numAt_nil wr, hbel.out⟩
        | true =>
          rw [hrx] at HRX
          have HYY := Lib.hid (HYS.out hrx)
          have hx4 : xn ≤ 400 := by
            have h1 : xn = xl.length := HOS.out.len
            have h2 : xl.length ≤ 400 := (right_digs HOS.out.byt hrx).2
            omega
          clear hrx HNO HYS
          go_wp2_with fail
          refine HRX.out.mono ?_
          rintro e w' ⟨rfl, rfl⟩
          go_wp2
          go_loopw [8] (fun kk wr2 => ∃ (k : Nat) (s2 : List Int), k ≤ xn ∧ kk = .int .i64 k ∧ Hid (Row wr2 g 3 (s2.map (Value.int .i64))) ∧ Hid (AddTo l (valI l + sumR (ds.take j)) xl s2 M j k) ∧ Hid (Below w.heap.size w wr2)) (fun kk _ => xn - (intOf kk).toNat)
          case atStart => exact ⟨0, s, Nat.zero_le _, rfl, hrow.out, hto.out.any xl, hbel.out⟩
          case round =>
            obtain ⟨k, s2, hk, rfl, hrow2, hto2, hbel2⟩ := hrel
            have hcl := HRL.out _ hbel2.out
            by_cases hkn : k < xn
            · have hki : (k : Int) < (xn : Int) := by omega
              have hkM : k < M := by omega
              have hkMi : (k : Int) < (M : Int) := by omega
              obtain ⟨b1, o1, ex, _, hc1⟩ := (HOS.out.rd.below hbel2.out).at (by simp; have : xn = xl.length := HOS.out.len; omega)
              have k1 := hc1 k _ (getD_map8 (by have : xn = xl.length := HOS.out.len; omega))
              have hyb := byte_in HOS.out.byt k
              have hsb := hto2.out.2.2 k
              have hsb0 := hsb.1
              have hsb1 : s2.getD k 0 ≤ 255510 := by have := hsb.2.1; omega
              have HNX := Lib.hid (hto2.out.next HOS.out.byt hkM)
              have cg := hrow2.out.cell (i := k) (getD_map64 (by rw [hto2.out.1]; omega))
              have fg := hrow2.out.free k
              have HP := Lib.hid (row_put64 hrow2.out k (s2.getD k 0 + xl.getD k 0))
              have HBB := Lib.hid (hbel2.out.setCell (p := ⟨g, k, none⟩) (by show w.heap.size ≤ g; exact HG.out) (.int .i64 (s2.getD k 0 + xl.getD k 0)))
              subst ex
              clear hc1 hsb
              generalize xl.getD k 0 = y at *
              generalize s2.getD k 0 = v at *
              go_wp2
              go_region
              go_wp2
              go_roundw
              case rel => exact ⟨k + 1, s2.set k (v + y), by omega, by go_num, HP.out, HNX.out, HBB.out.drew⟩
              case measure => simp [intOf]; omega
            · have hki : ((k : Int) < (xn : Int)) = False := eq_false (by omega)
              have hkn2 : (k < xn) = False := eq_false hkn
              have hke : k = xn := by omega
              have HNR := Lib.hid (show AddTo l (valI l + sumR (ds.take (j + 1))) [] s2 M (j + 1) 0 from by
                have h := hto2.out
                rw [hke] at h
                have hl : xn = xl.length := HOS.out.len
                rw [hl] at h
                have := h.row []
                rw [HT.out, ← Nat.add_assoc]; exact this)
              clear hkn hke
              go_wp2
              go_roundw
              case rel => exact ⟨j + 1, s2, by omega, by go_num, hrow2.out, HNR.out, HYY.out, hbel2.out⟩
              case measure => simp [intOf]; omega
      · have hji : ((j : Int) < (n1 : Int)) = False := eq_false (by omega)
        have hjn2 : (j < n1) = False := eq_false hjn
        have HBR := Lib.hid (show badR ds = false from badR_no (fun q hq => hrt.out q hq (by have := HE1.out; omega)))
        have hv := hto.out
        have HV := Lib.hid (show (valZ s).toNat = valI l + sumR ds from by
          rw [hv.2.1, Int.toNat_natCast, List.take_of_length_le (l := ds) (by have := HE1.out; omega)]
          simp [valI])
        have HST := Lib.hid (r_settle (w := wr) (a := some ⟨g, 0, none⟩) (n := M) (c := M) (l := s) hv.1.symm (row_reads hrow.out M) (bound_mem (fun p => by have := hv.2.2 p; exact ⟨by omega, by omega⟩)) (by omega) (by rw [hv.2.1]; exact Int.natCast_nonneg _))
        have HLN := Lib.hid (show (digs (valI l + sumR ds)).length ≤ 100000 from by
          obtain ⟨F, hF⟩ : ∃ F, F = 400 := ⟨_, rfl⟩
          have h := sum_all (F := F) (l := l) (ds := ds) (by rw [HD0.out.1, hF]; exact HD0.out.2) (fun d hd => by
            have hr : rightB d.l = true := badR_iff HBR.out d hd
            have hok := (HD.out d hd).1
            exact Nat.lt_of_lt_of_le (valI_lt hok.byt) (Nat.pow_le_pow_right (by omega) (by rw [hF]; exact (right_digs hok.byt hr).2))) ds.length (Nat.le_refl _)
          rw [List.take_of_length_le (Nat.le_refl _)] at h
          have := HE1.out
          omega)
        have HA2 := Lib.hid (show addE l ds = fullE (valI l + sumR ds) from by rw [HAE.out, if_neg (by rw [HBR.out]; simp)])
        clear hjn hv
        go_wp2_with fail
        refine HST.out.mono ?_
        rintro e w5 ⟨a5, k5, c5, rfl, hn5, -, b5⟩
        rw [HV.out] at hn5
        have HT := Lib.hid (r_told hn5 (by rw [hn5.1]; have := HLN.out; omega))
        have HB5 := Lib.hid (bNext hbel.out b5)
        clear hn5 b5
        go_wp2_with fail
        refine HT.out.mono ?_
        rintro e w6 ⟨a6, k6, c6, rfl, hn6, b6⟩
        have HN6 := Lib.hid hn6
        have HB6 := Lib.hid (bNext HB5.out b6)
        clear hn6 b6
        go_wp2
        go_ret2
        exact ⟨a6, k6, c6, by rw [HA2.out]; rfl, by rw [HA2.out]; exact HN6.out, HB6.out⟩

def add2E (l m : List Int) : Int := if rightB l = false ∨ rightB m = false then 2 else fullE (valI l + valI m)
theorem addE_one (l : List Int) (d : SlD) : addE l [d] = add2E l d.l ∧ sumR [d] = valI d.l := by
  have h : sumR [d] = valI d.l := by simp [sumR]
  refine ⟨?_, h⟩
  unfold addE add2E
  rw [h]
  have : (badR [d] = true) ↔ (rightB d.l = false) := by simp [badR]
  by_cases h1 : rightB l = false
  · rw [if_pos (.inl h1), if_pos (.inl h1)]
  · by_cases h2 : rightB d.l = false
    · rw [if_pos (.inr (this.2 h2)), if_pos (.inr h2)]
    · rw [if_neg (by rintro (h | h); exact h1 h; exact h2 (this.1 h)), if_neg (by rintro (h | h); exact h1 h; exact h2 h)]
theorem s_Add1 {a0 xa : Option Addr} {n0 c0 xn xc b : Nat} {l m : List Int} {w : World} (h0 : SlAt w a0 n0 c0 l) (hm0 : n0 ≤ 1000000000000) (h1 : SlAt w xa xn xc m) (hm1 : xn ≤ 1000000000000) (hr : Reads w (some ⟨b, 0, none⟩) 1 [.slice xa xn xc]) :
    Calls Try.prog 24 #[.slice a0 n0 c0, .slice (some ⟨b, 0, none⟩) 1 1] w (ResPost w (add2E l m) (valI l + valI m)) := by
  have := c_Add (ds := [⟨xa, xn, xc, m⟩]) h0 hm0 rfl hr (fun d hd => by simp only [List.mem_singleton] at hd; subst hd; exact ⟨h1, hm1⟩) (Nat.succ_le_succ (Nat.zero_le _))
  rw [(addE_one l ⟨xa, xn, xc, m⟩).1, (addE_one l ⟨xa, xn, xc, m⟩).2] at this
  exact this
theorem r_Add1 {a0 xa : Option Addr} {n0 c0 xn xc b : Nat} {l m : List Int} {w : World} (h0 : SlAt w a0 n0 c0 l) (hm0 : n0 ≤ 1000000000000) (h1 : SlAt w xa xn xc m) (hm1 : xn ≤ 1000000000000) (hr : Reads w (some ⟨b, 0, none⟩) 1 [.slice xa xn xc]) :
    Calls Try.prog 25 #[.slice a0 n0 c0, .slice (some ⟨b, 0, none⟩) 1 1] w (ResPost w (add2E l m) (valI l + valI m)) := by
  have := r_Add (ds := [⟨xa, xn, xc, m⟩]) h0 hm0 rfl hr (fun d hd => by simp only [List.mem_singleton] at hd; subst hd; exact ⟨h1, hm1⟩) (Nat.succ_le_succ (Nat.zero_le _))
  rw [(addE_one l ⟨xa, xn, xc, m⟩).1, (addE_one l ⟨xa, xn, xc, m⟩).2] at this
  exact this

end Go.Proofs.Ytdafncaehjipbaa
