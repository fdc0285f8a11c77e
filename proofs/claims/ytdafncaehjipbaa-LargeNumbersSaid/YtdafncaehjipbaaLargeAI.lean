/-
  Contracts of the document's package websterref13: Read (of a text that is not long).
-/
import Derived.Test.YtdafncaehjipbaaLargeAH
namespace Go.Proofs.Ytdafncaehjipbaa
open Go.RowKit
set_option linter.unusedVariables false
set_option maxHeartbeats 2000000
set_option maxRecDepth 20000

theorem fullE_LB {N k : Nat} (h : LB N k) (hk : k ≤ 400) : fullE N = 0 := fullE_ok h hk

theorem r_Read (s : ByteArray) (w : World) (hs : s.size ≤ 300) : Calls Try.prog 31 #[.string s] w (ResPost w (readE s) (numS (lets s))) := by
  go_enter Try.func31, Try.ntmps31
  go_wp2
  go_loop [4] (fun i => ∃ k : Nat, k ≤ s.size ∧ i = .int .i64 k ∧ Hid (∀ c ∈ (lets s).take k, isDig c = true)) (fun i => s.size - (intOf i).toNat)
  case atStart => exact ⟨0, Nat.zero_le _, rfl, fun c hc => by simp at hc⟩
  case round =>
    obtain ⟨k, hk, rfl, hdg⟩ := hrel
    by_cases hlt : k < s.size
    · obtain ⟨c, hc⟩ : ∃ c, c = s[k].toNat := ⟨_, rfl⟩
      have hts := lets_take s k hlt
      have hla := lets_at s k hlt
      rw [← hc] at hts hla
      have hci : ((s[k].toNat : Nat) : Int) = (c : Int) := by rw [hc]
      by_cases hd : 48 ≤ c ∧ c ≤ 57
      · have hd1 : ((c : Int) < 48) = False := eq_false (by omega)
        have hd2 : ((57 : Int) < c) = False := eq_false (by omega)
        have HDG := Lib.hid (show ∀ z ∈ (lets s).take (k + 1), isDig z = true from by
          rw [hts]
          intro z hz
          rcases List.mem_append.1 hz with hz | hz
          · exact hdg.out z hz
          · simp only [List.mem_singleton] at hz
            rw [hz]; exact decide_eq_true hd)
        clear hc hts hla hd
        go_wp2
        go_round
        case rel => exact ⟨k + 1, by omega, by go_num, HDG.out⟩
        case measure => simp [intOf]; omega
      · have HE := Lib.hid (show readE s = 5 from by
          unfold readE
          rw [readOK_bad (l := lets s) (k := k) (by rw [lets_len]; exact hlt) (by rw [hla]; exact decide_eq_false hd)]; rfl)
        by_cases hd1 : c < 48
        · have hd2 : (c : Int) < 48 := by omega
          clear hc hts hla hd
          go_wp2
          go_ret2
          exact ⟨none, 0, 0, by rw [HE.out]; rfl, by rw [HE.out, if_neg (by decide)]; exact numAt_nil w, Below.refl _ _⟩
        · have hd2 : ((c : Int) < 48) = False := eq_false (by omega)
          have hd3 : (57 : Int) < c := by omega
          clear hc hts hla hd
          go_wp2
          go_ret2
          exact ⟨none, 0, 0, by rw [HE.out]; rfl, by rw [HE.out, if_neg (by decide)]; exact numAt_nil w, Below.refl _ _⟩
    · have hki : ((k : Int) < (s.size : Int)) = False := eq_false (by omega)
      have hkn2 : (k < s.size) = False := eq_false hlt
      have hke : (lets s).take k = lets s := List.take_of_length_le (by rw [lets_len]; omega)
      rw [hke] at hdg
      have HDA := Lib.hid hdg.out
      clear hke hdg hlt
      by_cases h0 : s.size = 0
      · have hE : readE s = 5 := by unfold readE; rw [List.eq_nil_of_length_eq_zero (l := lets s) (by rw [lets_len]; exact h0), readOK_nil]; rfl
        have HE := Lib.hid hE
        have hse : s = ⟨#[]⟩ := ByteArray.ext (Array.eq_empty_of_size_eq_zero h0)
        have n1 : (s.toList = []) = True := eq_true (by rw [hse, ByteArray.toList_eq])
        have n2 : s.toList.isEmpty = true := by rw [hse, ByteArray.toList_eq]; rfl
        clear hE h0 hse
        go_wp2
        go_ret2
        exact ⟨none, 0, 0, by rw [HE.out]; rfl, by rw [HE.out, if_neg (by decide)]; exact numAt_nil w, Below.refl _ _⟩
      · have hpos : 0 < s.size := by omega
        have hTL : s.toList = s.data.toList := ByteArray.toList_eq s
        obtain ⟨T, hT⟩ : ∃ T, T = s.toList := ⟨_, rfl⟩
        have hTn : T ≠ [] := by
          rw [hT, hTL]
          intro h
          have h5 : s.data.toList.length = s.size := by simp
          rw [h] at h5
          simp at h5
          omega
        have n1 : (s.toList = []) = False := by rw [← hT]; exact eq_false hTn
        have n2 : s.toList.isEmpty = false := by
          rw [← hT]; cases T with
          | nil => exact absurd rfl hTn
          | cons a b => rfl
        by_cases hz : (lets s).head? = some 48 ∧ 1 < (lets s).length
        · have hE : readE s = 5 := by unfold readE; rw [readOK_zero hz.1 hz.2]; rfl
          have HE := Lib.hid hE
          rw [lets_head s hpos] at hz
          have hc : ((s[0].toNat : Nat) : Int) = 48 := by have := hz.1; simp only [Option.some.injEq] at this; omega
          have h1s : 1 < s.size := by have := hz.2; rw [lets_len] at this; exact this
          have h1i : (1 : Int) < (s.size : Int) := by omega
          clear hE hz hT hTn hTL
          go_wp2
          go_ret2
          exact ⟨none, 0, 0, by rw [HE.out]; rfl, by rw [HE.out, if_neg (by decide)]; exact numAt_nil w, Below.refl _ _⟩
        · have HE := Lib.hid (show readE s = 0 from by
            unfold readE
            rw [readOK_yes (fun h => by have := lets_len s; rw [h] at this; simp at this; omega) HDA.out hz]; rfl)
          have hcond : ¬ ((s[0].toNat : Nat) : Int) = 48 ∨ (((s[0].toNat : Nat) : Int) = 48 ∧ s.size = 1) := by
            by_cases hc : s[0].toNat = 48
            · right
              refine ⟨by omega, ?_⟩
              by_cases h : s.size = 1
              · exact h
              · exact absurd ⟨by rw [lets_head s hpos, hc], by rw [lets_len]; omega⟩ hz
            · left; omega
          clear hz hT hTn hTL
          rcases hcond with hc | ⟨hc, h1s⟩
          · have hc2 : ((((s[0].toNat : Nat) : Int)) == 48) = false := by simpa using hc
            go_wp2_with fail
            go_loopw [5, 6] (fun v i wr => ∃ (k : Nat) (a : Option Addr) (ka ca : Nat), k ≤ s.size ∧ i = .int .i64 k ∧ v = .slice a ka ca ∧ ka ≤ 150 ∧ Hid (NumAt wr a ka ca (numS ((lets s).take k))) ∧ Hid (Below w.heap.size w wr)) (fun _ i _ => s.size - (intOf i).toNat)
            case atStart => exact ⟨0, none, 0, 0, Nat.zero_le _, rfl, rfl, by omega, by show NumAt _ _ _ _ _; simp only [List.take_zero, numS, List.foldl_nil]; exact numAt_nil w, Below.refl _ _⟩
            case round =>
              obtain ⟨k, a, ka, ca, hk, rfl, rfl, hka, hsl, hbel⟩ := hrel
              by_cases hlt : k < s.size
              · have hlti : (k : Int) < (s.size : Int) := by omega
                obtain ⟨c, hc⟩ : ∃ c, c = s[k].toNat := ⟨_, rfl⟩
                have hts := lets_take s k hlt
                rw [← hc] at hts
                have hci : ((s[k].toNat : Nat) : Int) = (c : Int) := by rw [hc]
                have HDG := Lib.hid (show ∀ z ∈ (lets s).take (k + 1), isDig z = true from fun z hz => HDA.out z (List.mem_of_mem_take hz))
                have hcd := of_decide_eq_true (HDG.out c (by rw [hts]; simp))
                obtain ⟨d, hdd⟩ : ∃ d, c = d + 48 := ⟨c - 48, by omega⟩
                have hd9 : d ≤ 9 := by omega
                have HNX := Lib.hid (show numS ((lets s).take (k + 1)) = numS ((lets s).take k) * 10 + d from by
                  rw [hts, numS_snoc, Nat.mul_comm, show c - 48 = d from by omega])
                have hci2 : ((s[k].toNat : Nat) : Int) = (d : Int) + 48 := by omega
                have HLB := Lib.hid (num_LB HDG.out (by rw [List.length_take]; omega))
                have HLA := Lib.hid (num_LB (fun z hz => HDA.out z (List.mem_of_mem_take hz) : ∀ z ∈ (lets s).take k, isDig z = true) (by rw [List.length_take]; omega))
                obtain ⟨A, hA⟩ : ∃ A, A = numS ((lets s).take k) := ⟨_, rfl⟩
                rw [← hA] at hsl HNX HLA
                clear hc hts hcd hA hdd hci
                go_wp2_with fail
                refine (r_product (l := digs A) (m := [10]) (hsl.out.sl.alloc _) (sl1 _ 10 _ _ rfl (by omega)) (by omega) (by omega)).mono ?_
                rw [valI_digs, show valI [10] = 10 from by decide]
                rintro e wy1 ⟨a1, k1, c1, rfl, hn1, -, b1⟩
                have hb1 : Below wr.heap.size wr wy1 := ((Below.refl _ wr).alloc (Nat.le_refl _) _).trans (b1.mono (by simp))
                have HB1 := Lib.hid (bNext hbel.out hb1)
                have hk1 : k1 ≤ 151 := by rw [hn1.1]; exact HLA.out.mul (j := 1) (LB.of (by omega))
                have HRW := Lib.hid (r_row (N := 1) hn1.sl (by omega) (by omega))
                rw [show (((1 : Nat)) : Int) = 1 from rfl] at HRW
                have HLEN := Lib.hid hn1.1
                clear hn1 b1 hb1
                go_wp2_with fail
                refine HRW.out.mono ?_
                clear HRW
                rintro e wy2 ⟨g, M, rfl, hM, hrow, hg, b2⟩
                have hM1 : 1 ≤ M := by omega
                have hM0 : 0 < M := by omega
                have hMb : M ≤ 152 := by omega
                have HB2 := Lib.hid (bNext HB1.out b2)
                have hgw : w.heap.size ≤ g := Nat.le_trans HB1.out.size hg
                have HGW := Lib.hid hgw
                have hrl : (rowL (digs (A * 10)) M).length = M := rowL_len (by rw [← HLEN.out]; omega)
                have hri := rowL_in (byt_digs (A * 10)) M
                obtain ⟨r, hr⟩ : ∃ r, r = rowL (digs (A * 10)) M := ⟨_, rfl⟩
                rw [← hr] at hrow hrl hri
                have hvz : valZ r = ((A * 10 : Nat) : Int) := by rw [hr, valZ_rowL (byt_digs _), valI_digs]
                have cg := hrow.cell (i := 0) (getD_map64 (by omega))
                have fg := hrow.free 0
                have hr0 := hri 0
                have HP := Lib.hid (row_put64 hrow 0 (r.getD 0 0 + (d : Int)))
                have HBB := Lib.hid (HB2.out.setCell (p := ⟨g, 0, none⟩) (by show w.heap.size ≤ g; exact hgw) (.int .i64 (r.getD 0 0 + (d : Int))))
                have HR := Lib.hid (And.intro hrl (And.intro hri hvz))
                have hsum : r.getD 0 0 + ((d : Int) + 48) - 48 = r.getD 0 0 + (d : Int) := by omega
                have HVZ := Lib.hid (show valZ (r.set 0 (r.getD 0 0 + (d : Int))) = ((A * 10 + d : Nat) : Int) from by
                  rw [valZ_set _ (by omega), hvz, show ∀ a b : Int, a + b - a = b from fun a b => by omega, Nat.pow_zero]
                  omega)
                have HBD := Lib.hid (show ∀ x ∈ r.set 0 (r.getD 0 0 + (d : Int)), -1099511627776 ≤ x ∧ x ≤ 1099511627776 from by
                  intro x hx
                  rcases List.mem_or_eq_of_mem_set hx with h | h
                  · have := bound_mem (lo := 0) (hi := 255) hri x h
                    omega
                  · omega)
                have HRL := Lib.hid (show M = (r.set 0 (r.getD 0 0 + (d : Int))).length from by rw [List.length_set, hrl])
                clear hM hrow hg b2 hrl hri hr hvz hgw
                generalize r.getD 0 0 = y at *
                go_wp2
                go_region
                go_wp2_with fail
                refine (r_settle (a := some ⟨g, 0, none⟩) (n := M) (c := M) (l := r.set 0 (y + (d : Int))) HRL.out (row_reads (Row.drew HP.out) M) HBD.out (by omega) (by rw [HVZ.out]; exact Int.natCast_nonneg _)).mono ?_
                rw [HVZ.out, Int.toNat_natCast, ← HNX.out]
                rintro e wy5 ⟨a3, k3, c3, rfl, hn3, -, b3⟩
                have HN3 := Lib.hid hn3
                have hk3 : k3 ≤ 150 := by rw [hn3.1]; exact HLB.out
                have HB3 := Lib.hid (bNext (bDrew HBB.out) b3)
                clear hn3 b3
                go_wp2
                go_roundw
                case rel => exact ⟨k + 1, a3, k3, c3, by omega, by go_num, rfl, hk3, HN3.out, HB3.out⟩
                case measure => simp [intOf]; omega
              · have hki : ((k : Int) < (s.size : Int)) = False := eq_false (by omega)
                have hke : (lets s).take k = lets s := List.take_of_length_le (by rw [lets_len]; omega)
                rw [hke] at hsl
                have HLB := Lib.hid (num_LB HDA.out (by rw [lets_len]; exact hs))
                have HT := Lib.hid (r_told hsl.out (by omega))
                rw [fullE_LB HLB.out (by omega)] at HT
                clear hke hlt
                go_wp2_with fail
                refine HT.out.mono ?_
                rintro e wy5 ⟨a5, k5, c5, rfl, hn5, b5⟩
                rw [if_pos rfl] at hn5
                have HN5 := Lib.hid hn5
                have HB5 := Lib.hid (bNext hbel.out b5)
                clear hn5 b5
                go_wp2
                go_ret2
                exact ⟨a5, k5, c5, by rw [HE.out]; rfl, by rw [HE.out, if_pos rfl]; exact HN5.out, HB5.out⟩
          · have h1i : ((1 : Int) < (s.size : Int)) = False := eq_false (by omega)
            have h1j : (1 < s.size) = False := eq_false (by omega)
            have H1 := Lib.hid h1s
            clear h1s
            go_wp2_with fail
            go_loopw [5, 6] (fun v i wr => ∃ (k : Nat) (a : Option Addr) (ka ca : Nat), k ≤ s.size ∧ i = .int .i64 k ∧ v = .slice a ka ca ∧ ka ≤ 150 ∧ Hid (NumAt wr a ka ca (numS ((lets s).take k))) ∧ Hid (Below w.heap.size w wr)) (fun _ i _ => s.size - (intOf i).toNat)
            case atStart => exact ⟨0, none, 0, 0, Nat.zero_le _, rfl, rfl, by omega, by show NumAt _ _ _ _ _; simp only [List.take_zero, numS, List.foldl_nil]; exact numAt_nil w, Below.refl _ _⟩
            case round =>
              obtain ⟨k, a, ka, ca, hk, rfl, rfl, hka, hsl, hbel⟩ := hrel
              by_cases hlt : k < s.size
              · have hlti : (k : Int) < (s.size : Int) := by omega
                obtain ⟨c, hc⟩ : ∃ c, c = s[k].toNat := ⟨_, rfl⟩
                have hts := lets_take s k hlt
                rw [← hc] at hts
                have hci : ((s[k].toNat : Nat) : Int) = (c : Int) := by rw [hc]
                have HDG := Lib.hid (show ∀ z ∈ (lets s).take (k + 1), isDig z = true from fun z hz => HDA.out z (List.mem_of_mem_take hz))
                have hcd := of_decide_eq_true (HDG.out c (by rw [hts]; simp))
                obtain ⟨d, hdd⟩ : ∃ d, c = d + 48 := ⟨c - 48, by omega⟩
                have hd9 : d ≤ 9 := by omega
                have HNX := Lib.hid (show numS ((lets s).take (k + 1)) = numS ((lets s).take k) * 10 + d from by
                  rw [hts, numS_snoc, Nat.mul_comm, show c - 48 = d from by omega])
                have hci2 : ((s[k].toNat : Nat) : Int) = (d : Int) + 48 := by omega
                have HLB := Lib.hid (num_LB HDG.out (by rw [List.length_take]; omega))
                have HLA := Lib.hid (num_LB (fun z hz => HDA.out z (List.mem_of_mem_take hz) : ∀ z ∈ (lets s).take k, isDig z = true) (by rw [List.length_take]; omega))
                obtain ⟨A, hA⟩ : ∃ A, A = numS ((lets s).take k) := ⟨_, rfl⟩
                rw [← hA] at hsl HNX HLA
                clear hc hts hcd hA hdd hci
                go_wp2_with fail
                refine (r_product (l := digs A) (m := [10]) (hsl.out.sl.alloc _) (sl1 _ 10 _ _ rfl (by omega)) (by omega) (by omega)).mono ?_
                rw [valI_digs, show valI [10] = 10 from by decide]
                rintro e wy1 ⟨a1, k1, c1, rfl, hn1, -, b1⟩
                have hb1 : Below wr.heap.size wr wy1 := ((Below.refl _ wr).alloc (Nat.le_refl _) _).trans (b1.mono (by simp))
                have HB1 := Lib.hid (bNext hbel.out hb1)
                have hk1 : k1 ≤ 151 := by rw [hn1.1]; exact HLA.out.mul (j := 1) (LB.of (by omega))
                have HRW := Lib.hid (r_row (N := 1) hn1.sl (by omega) (by omega))
                rw [show (((1 : Nat)) : Int) = 1 from rfl] at HRW
                have HLEN := Lib.hid hn1.1
                clear hn1 b1 hb1
                go_wp2_with fail
                refine HRW.out.mono ?_
                clear HRW
                rintro e wy2 ⟨g, M, rfl, hM, hrow, hg, b2⟩
                have hM1 : 1 ≤ M := by omega
                have hM0 : 0 < M := by omega
                have hMb : M ≤ 152 := by omega
                have HB2 := Lib.hid (bNext HB1.out b2)
                have hgw : w.heap.size ≤ g := Nat.le_trans HB1.out.size hg
                have HGW := Lib.hid hgw
                have hrl : (rowL (digs (A * 10)) M).length = M := rowL_len (by rw [← HLEN.out]; omega)
                have hri := rowL_in (byt_digs (A * 10)) M
                obtain ⟨r, hr⟩ : ∃ r, r = rowL (digs (A * 10)) M := ⟨_, rfl⟩
                rw [← hr] at hrow hrl hri
                have hvz : valZ r = ((A * 10 : Nat) : Int) := by rw [hr, valZ_rowL (byt_digs _), valI_digs]
                have cg := hrow.cell (i := 0) (getD_map64 (by omega))
                have fg := hrow.free 0
                have hr0 := hri 0
                have HP := Lib.hid (row_put64 hrow 0 (r.getD 0 0 + (d : Int)))
                have HBB := Lib.hid (HB2.out.setCell (p := ⟨g, 0, none⟩) (by show w.heap.size ≤ g; exact hgw) (.int .i64 (r.getD 0 0 + (d : Int))))
                have HR := Lib.hid (And.intro hrl (And.intro hri hvz))
                have hsum : r.getD 0 0 + ((d : Int) + 48) - 48 = r.getD 0 0 + (d : Int) := by omega
                have HVZ := Lib.hid (show valZ (r.set 0 (r.getD 0 0 + (d : Int))) = ((A * 10 + d : Nat) : Int) from by
                  rw [valZ_set _ (by omega), hvz, show ∀ a b : Int, a + b - a = b from fun a b => by omega, Nat.pow_zero]
                  omega)
                have HBD := Lib.hid (show ∀ x ∈ r.set 0 (r.getD 0 0 + (d : Int)), -1099511627776 ≤ x ∧ x ≤ 1099511627776 from by
                  intro x hx
                  rcases List.mem_or_eq_of_mem_set hx with h | h
                  · have := bound_mem (lo := 0) (hi := 255) hri x h
                    omega
                  · omega)
                have HRL := Lib.hid (show M = (r.set 0 (r.getD 0 0 + (d : Int))).length from by rw [List.length_set, hrl])
                clear hM hrow hg b2 hrl hri hr hvz hgw
                generalize r.getD 0 0 = y at *
                go_wp2
                go_region
                go_wp2_with fail
                refine (r_settle (a := some ⟨g, 0, none⟩) (n := M) (c := M) (l := r.set 0 (y + (d : Int))) HRL.out (row_reads (Row.drew HP.out) M) HBD.out (by omega) (by rw [HVZ.out]; exact Int.natCast_nonneg _)).mono ?_
                rw [HVZ.out, Int.toNat_natCast, ← HNX.out]
                rintro e wy5 ⟨a3, k3, c3, rfl, hn3, -, b3⟩
                have HN3 := Lib.hid hn3
                have hk3 : k3 ≤ 150 := by rw [hn3.1]; exact HLB.out
                have HB3 := Lib.hid (bNext (bDrew HBB.out) b3)
                clear hn3 b3
                go_wp2
                go_roundw
                case rel => exact ⟨k + 1, a3, k3, c3, by omega, by go_num, rfl, hk3, HN3.out, HB3.out⟩
                case measure => simp [intOf]; omega
              · have hki : ((k : Int) < (s.size : Int)) = False := eq_false (by omega)
                have hke : (lets s).take k = lets s := List.take_of_length_le (by rw [lets_len]; omega)
                rw [hke] at hsl
                have HLB := Lib.hid (num_LB HDA.out (by rw [lets_len]; exact hs))
                have HT := Lib.hid (r_told hsl.out (by omega))
                rw [fullE_LB HLB.out (by omega)] at HT
                clear hke hlt
                go_wp2_with fail
                refine HT.out.mono ?_
                rintro e wy5 ⟨a5, k5, c5, rfl, hn5, b5⟩
                rw [if_pos rfl] at hn5
                have HN5 := Lib.hid hn5
                have HB5 := Lib.hid (bNext hbel.out b5)
                clear hn5 b5
                go_wp2
                go_ret2
                exact ⟨a5, k5, c5, by rw [HE.out]; rfl, by rw [HE.out, if_pos rfl]; exact HN5.out, HB5.out⟩

end Go.Proofs.Ytdafncaehjipbaa
