/-
  Contracts of the document's package websterref13: Int, Text.
-/
import Derived.Test.YtdafncaehjipbaaLargeAG
namespace Go.Proofs.Ytdafncaehjipbaa
open Go.RowKit
set_option linter.unusedVariables false
set_option maxHeartbeats 2000000
set_option maxRecDepth 20000

theorem val_drop_le (l : List Int) (i : Nat) : 256 ^ i * valI (l.drop i) ≤ valI l := by
  by_cases hi : i ≤ l.length
  · have hs := valI_append (l.take i) (l.drop i)
    rw [List.take_append_drop] at hs
    have : (l.take i).length = i := by rw [List.length_take]; omega
    rw [this] at hs
    omega
  · rw [List.drop_of_length_le (by omega)]; simp [valI]

theorem r_Int {a : Option Addr} {n c : Nat} {l : List Int} {w : World} (hs : SlAt w a n c l) (hm : n ≤ 100000) :
    Calls Try.prog 35 #[.slice a n c] w fun e w' => e = .returned (.tuple #[.int .i64 (if intO l then valI l else 0 : Nat), .bool (intO l)]) ∧ w = w' := by
  have HR := Lib.hid (r_Right a n c l w hs.len hs.rd (by omega))
  have HS := Lib.hid hs
  clear hs
  cases hr : rightB l with
  | false =>
    have hi : intO l = false := by unfold intO; rw [hr]; rfl
    rw [hr] at HR
    rw [hi]
    clear hr hi
    go_enter Try.func35, Try.ntmps35
    go_wp2_with fail
    refine HR.out.mono ?_
    rintro e w' ⟨rfl, rfl⟩
    go_wp2
    go_ret2
    exact ⟨rfl, rfl⟩
  | true =>
    rw [hr] at HR
    obtain ⟨RV, hRV⟩ : ∃ RV, RV = (if intO l = true then valI l else 0) := ⟨_, rfl⟩
    obtain ⟨RB, hRB⟩ : ∃ RB, RB = intO l := ⟨_, rfl⟩
    rw [← hRV, ← hRB]
    have HRV := Lib.hid hRV
    have HRB := Lib.hid hRB
    clear hRV hRB
    have HI := Lib.hid (show intO l = decide (valI l < 9223372036854775808) from by unfold intO; rw [hr]; rfl)
    clear hr
    go_enter Try.func35, Try.ntmps35
    go_wp2_with fail
    refine HR.out.mono ?_
    rintro e w' ⟨rfl, rfl⟩
    go_wp2
    go_loop [4, 5] (fun v i => ∃ (j H : Nat), j ≤ n ∧ H < 9223372036854775808 ∧ v = .int .i64 H ∧ i = .int .i64 ((j : Int) - 1) ∧ Hid (H = valI (l.drop j))) (fun _ i => (intOf i + 1).toNat)
    case atStart => exact ⟨n, 0, Nat.le_refl _, by omega, rfl, rfl, by show _ = _; rw [List.drop_of_length_le (by have := HS.out.len; omega)]; rfl⟩
    case round =>
      obtain ⟨j, H, hj, hH, rfl, rfl, hv⟩ := hrel
      by_cases hj0 : j = 0
      · subst hj0
        have hvl : H = valI l := by have := hv.out; rwa [List.drop_zero] at this
        have HII := Lib.hid (show intO l = true from by rw [HI.out, ← hvl, decide_eq_true hH])
        have HVL := Lib.hid hvl
        clear hvl hv
        go_wp2
        go_ret2
        exact ⟨by rw [HRV.out, HRB.out, HII.out, if_pos rfl, ← HVL.out]; rfl, rfl⟩
      · obtain ⟨p, rfl⟩ : ∃ p, j = p + 1 := ⟨j - 1, by omega⟩
        have hpi : ((p + 1 : Nat) : Int) - 1 = (p : Int) := by omega
        rw [hpi]
        by_cases hbig : H > 36028797018963967
        · have HII := Lib.hid (show intO l = false from by
            rw [HI.out]
            refine decide_eq_false ?_
            have h1 := val_drop_le l (p + 1)
            rw [← hv.out] at h1
            have h2 : 256 ^ 1 * H ≤ 256 ^ (p + 1) * H := Nat.mul_le_mul_right _ (Nat.pow_le_pow_right (by omega) (by omega))
            omega)
          have q1 : ((36028797018963967 : Int) < H) = True := eq_true (by omega)
          have q2 : ((H : Int) > 36028797018963967) = True := eq_true (by omega)
          clear hv hj0 hpi
          go_wp2
          go_ret2
          exact ⟨by rw [HRV.out, HRB.out, HII.out]; rfl, rfl⟩
        · have q1 : ((36028797018963967 : Int) < H) = False := eq_false (by omega)
          have q2 : ((H : Int) > 36028797018963967) = False := eq_false (by omega)
          have hpn : (p : Int) < (n : Int) := by omega
          have hpn2 : p < n := by omega
          obtain ⟨b0, o0, rfl, _, hc0⟩ := HS.out.rd.at (by simp; have := HS.out.len; omega)
          have k0 := hc0 p _ (getD_map8 (by have := HS.out.len; omega))
          obtain ⟨x, hx⟩ : ∃ x, x = dg l p := ⟨_, rfl⟩
          have hxi : l.getD p 0 = (x : Int) := by have := byte_in HS.out.byt p; rw [hx]; unfold dg; omega
          rw [hxi] at k0
          have hx255 : x ≤ 255 := by rw [hx]; exact dg_le HS.out.byt p
          have HNV := Lib.hid (show 256 * H + x = valI (l.drop p) from by rw [val_drop (by have := HS.out.len; omega), hx, hv.out]; omega)
          have hbd : H ≤ 36028797018963967 := by omega
          clear hv hj0 hpi hc0 hx hxi hbig
          go_wp2
          go_round
          case rel => exact ⟨p, 256 * H + x, by omega, by omega, by go_num, by go_num, HNV.out⟩
          case measure => simp [intOf]

theorem str_app (a b : List Int) : str a ++ str b = str (a ++ b) := by
  apply ByteArray.ext
  rw [ByteArray.data_append]
  simp [str]
theorem str_size (a : List Int) : (str a).size = a.length := by simp [str, ByteArray.size]
def sizeV : Value → Nat
  | .string b => b.size
  | _ => 0
theorem str_nil {a : List Int} : ((str a).toList == ([] : List UInt8)) = decide (a = []) := by
  rw [ByteArray.toList_eq]
  cases a with
  | nil => rfl
  | cons x y => simp [str]

theorem divE_ten {q : Nat} (h : LB q 400) : divE (digs q) [10] = 0 := by
  unfold divE
  rw [h.right (by omega), show rightB [10] = true from by decide, if_neg (by simp), if_neg (by simp)]

theorem r_Text {a : Option Addr} {n c : Nat} {l : List Int} {w : World} (hs : SlAt w a n c l) (hm : n ≤ 1000000000000) :
    Calls Try.prog 33 #[.slice a n c] w fun e w' => e = .returned (.string (str (textL l))) ∧ Below w.heap.size w w' := by
  have HR := Lib.hid (r_Right a n c l w hs.len hs.rd hm)
  unfold textL
  cases hr : rightB l with
  | false =>
    rw [hr] at HR
    rw [if_neg (by simp)]
    clear hr hs
    go_enter Try.func33, Try.ntmps33
    go_wp2_with fail
    refine HR.out.mono ?_
    rintro e w' ⟨rfl, rfl⟩
    go_wp2
    go_ret
    exact ⟨rfl, Below.refl _ _⟩
  | true =>
    rw [hr] at HR
    rw [if_pos rfl]
    obtain ⟨hdg, hl4⟩ := right_digs hs.byt hr
    obtain ⟨N, hN⟩ : ∃ N, N = valI l := ⟨_, rfl⟩
    rw [← hN] at hdg ⊢
    have HS := Lib.hid (show SlAt w a n c (digs N) from by rw [hdg]; exact hs)
    have hn4 : n ≤ 400 := by have := hs.len; omega
    have HLN := Lib.hid (show LB N 400 from by show (digs N).length ≤ 400; rw [hdg]; exact hl4)
    obtain ⟨L, hL⟩ : ∃ L, L = (dec N).length := ⟨_, rfl⟩
    have HL := Lib.hid hL
    have HL2 := Lib.hid (show L ≤ 3 * n + 1 from by rw [hL]; exact dec_len256 (LB.lt (show (digs N).length ≤ n from by have := HS.out.len; omega)))
    clear hr hs hdg hl4 hN hm hL
    go_enter Try.func33, Try.ntmps33
    go_wp2_with fail
    refine HR.out.mono ?_
    rintro e w' ⟨rfl, rfl⟩
    clear HR
    go_wp2
    go_loopw [3, 4] (fun v r wr => ∃ (q : Nat) (o : List Int) (ar : Option Addr) (kr cr : Nat), r = .slice ar kr cr ∧ kr ≤ 400 ∧ v = .string (str o.reverse) ∧ Hid (q ≤ N) ∧ Hid (SlAt wr ar kr cr (digs q)) ∧ Hid (DecAt N q o) ∧ Hid (Below w.heap.size w wr)) (fun v _ _ => L - sizeV v)
    case atStart => exact ⟨N, [], a, n, c, rfl, hn4, rfl, Nat.le_refl _, HS.out, by show DecAt _ _ _; unfold DecAt; rw [if_pos (.inl rfl)]; rfl, Below.refl _ _⟩
    case round =>
      obtain ⟨q, o, ar, kr, cr, rfl, hk4, rfl, hqn, hsl, hdec, hbel⟩ := hrel
      have hso := str_nil (a := o.reverse)
      have hq0 : kr = 0 ↔ q = 0 := by
        rw [hsl.out.len, ← digs_nil (n := q)]
        exact List.length_eq_zero_iff
      obtain ⟨S, hS⟩ : ∃ S, S = str o.reverse := ⟨_, rfl⟩
      rw [← hS] at hso ⊢
      have HSS := Lib.hid hS
      by_cases hgo : o = [] ∨ q ≠ 0
      · have hgo2 : (S.toList = []) = True ∧ S.toList.isEmpty = true ∨ ((S.toList = []) = False ∧ S.toList.isEmpty = false) ∧ 0 < kr := by
          by_cases ho : o = []
          · left
            rw [ho] at hso
            have : S.toList = [] := by simpa using hso
            rw [this]; exact ⟨eq_true rfl, rfl⟩
          · right
            have : S.toList ≠ [] := by
              intro h
              rw [h] at hso
              simp [ho] at hso
            refine ⟨⟨eq_false this, ?_⟩, ?_⟩
            · cases hT : S.toList with
              | nil => exact absurd hT this
              | cons x y => rfl
            · have : q ≠ 0 := by rcases hgo with h | h; exact absurd h ho; exact h
              omega
        have HNX := Lib.hid (hdec.out.next hgo)
        have HRM := Lib.hid (show o.length + 1 ≤ L from by rw [HL.out]; exact hdec.out.room hgo)
        have HLQ := Lib.hid (HLN.out.mono hqn.out)
        clear hso hq0 hgo hdec hS
        rcases hgo2 with ⟨t1, t2⟩ | ⟨⟨t1, t2⟩, hkp⟩
        · go_wp2_with fail
          refine (r_Div (l := digs q) (m := [10]) (hsl.out.alloc _) (sl1 _ 10 _ _ rfl (by omega)) (by omega) (by omega)).mono ?_
          rw [valI_digs, show valI [10] = 10 from by decide, divE_ten HLQ.out]
          rintro e wy1 ⟨a1, k1, c1, b1, j1, d1, rfl, hn1, ho1, be1⟩
          rw [if_pos rfl] at hn1 ho1
          have HQ1 := Lib.hid hn1
          have hk1 : k1 ≤ 400 := by
            rw [hn1.1]; exact Nat.le_trans (digs_mono (Nat.div_le_self q 10)) HLQ.out
          have HB1 := Lib.hid (bNext hbel.out (((Below.refl wr.heap.size wr).alloc (Nat.le_refl _) _).trans (be1.mono (by simp))))
          obtain ⟨dd, hdd⟩ : ∃ dd, dd = q % 10 := ⟨_, rfl⟩
          rw [← hdd] at HNX ho1
          have hd9 : dd ≤ 9 := by omega
          have hcv := run_str (P := Try.prog) (wy1.alloc (.cells #[.int .u8 (48 + (dd : Int))] 5)) 22 9 5 (some ⟨wy1.heap.size, 0, none⟩) 1 1 [48 + (dd : Int)] Try.underlying22 Try.underlying5 Try.underlying9 rfl (Reads.made wy1 [.int .u8 (48 + (dd : Int))] 5 1)
          have HN1 := Lib.hid (hn1.sl.alloc (.cells #[.int .u8 (48 + (dd : Int))] 5))
          have HST := Lib.hid (show str [48 + (dd : Int)] ++ S = str ((o ++ [((48 + dd : Nat) : Int)]).reverse) from by
            rw [HSS.out, str_app, List.reverse_append]; rfl)
          have hsz : (str [48 + (dd : Int)] ++ S).size = o.length + 1 := by rw [HST.out, str_size]; simp
          have HSZ := Lib.hid hsz
          have HS0 := Lib.hid (show S.size = o.length from by rw [HSS.out, str_size]; simp)
          have hsz1 : S.size ≤ 2000 := by have := HS0.out; have := HRM.out; have := HL2.out; omega
          obtain ⟨V, hV⟩ : ∃ V, V = str [48 + (dd : Int)] := ⟨_, rfl⟩
          have hsz2 : V.size = 1 := by rw [hV, str_size]; rfl
          rw [← hV] at hcv HST HSZ
          clear hn1 be1 hdd hsz hV
          by_cases hd0 : dd = 0
          · have hj1 : j1 = 0 := by rw [ho1.1, hd0, digs_0]; rfl
            subst hj1
            rw [hd0] at hcv HST HN1
            simp only [Int.natCast_zero, Int.add_zero] at hcv HST HN1
            subst hd0
            clear ho1
            go_wp2
            go_roundw
            case rel => exact ⟨q / 10, o ++ [((48 + 0 : Nat) : Int)], a1, k1, c1, rfl, hk1, by rw [← HST.out], Nat.le_trans (Nat.div_le_self q 10) hqn.out, HN1.out, HNX.out, bAlloc HB1.out⟩
            case measure =>
              have h1 := HRM.out
              have h2 := HS0.out
              have h3 := HSZ.out
              simp only [sizeV]
              omega
          · have hj1 : j1 = 1 := by
              rw [ho1.1, digs_pos hd0, List.length_cons, show dd / 256 = 0 from by omega, digs_0]; rfl
            obtain ⟨bb, oo, rfl, hcell⟩ := dg_cell (p := 0) ho1 (by omega)
            rw [show dd / 256 ^ 0 % 256 = dd from by simp; omega, Nat.add_zero] at hcell
            subst hj1
            clear ho1
            go_wp2
            go_roundw
            case rel => exact ⟨q / 10, o ++ [((48 + dd : Nat) : Int)], a1, k1, c1, rfl, hk1, by rw [← HST.out], Nat.le_trans (Nat.div_le_self q 10) hqn.out, HN1.out, HNX.out, bAlloc HB1.out⟩
            case measure =>
              have h1 := HRM.out
              have h2 := HS0.out
              have h3 := HSZ.out
              simp only [sizeV]
              omega
        · go_wp2_with fail
          refine (r_Div (l := digs q) (m := [10]) (hsl.out.alloc _) (sl1 _ 10 _ _ rfl (by omega)) (by omega) (by omega)).mono ?_
          rw [valI_digs, show valI [10] = 10 from by decide, divE_ten HLQ.out]
          rintro e wy1 ⟨a1, k1, c1, b1, j1, d1, rfl, hn1, ho1, be1⟩
          rw [if_pos rfl] at hn1 ho1
          have HQ1 := Lib.hid hn1
          have hk1 : k1 ≤ 400 := by
            rw [hn1.1]; exact Nat.le_trans (digs_mono (Nat.div_le_self q 10)) HLQ.out
          have HB1 := Lib.hid (bNext hbel.out (((Below.refl wr.heap.size wr).alloc (Nat.le_refl _) _).trans (be1.mono (by simp))))
          obtain ⟨dd, hdd⟩ : ∃ dd, dd = q % 10 := ⟨_, rfl⟩
          rw [← hdd] at HNX ho1
          have hd9 : dd ≤ 9 := by omega
          have hcv := run_str (P := Try.prog) (wy1.alloc (.cells #[.int .u8 (48 + (dd : Int))] 5)) 22 9 5 (some ⟨wy1.heap.size, 0, none⟩) 1 1 [48 + (dd : Int)] Try.underlying22 Try.underlying5 Try.underlying9 rfl (Reads.made wy1 [.int .u8 (48 + (dd : Int))] 5 1)
          have HN1 := Lib.hid (hn1.sl.alloc (.cells #[.int .u8 (48 + (dd : Int))] 5))
          have HST := Lib.hid (show str [48 + (dd : Int)] ++ S = str ((o ++ [((48 + dd : Nat) : Int)]).reverse) from by
            rw [HSS.out, str_app, List.reverse_append]; rfl)
          have hsz : (str [48 + (dd : Int)] ++ S).size = o.length + 1 := by rw [HST.out, str_size]; simp
          have HSZ := Lib.hid hsz
          have HS0 := Lib.hid (show S.size = o.length from by rw [HSS.out, str_size]; simp)
          have hsz1 : S.size ≤ 2000 := by have := HS0.out; have := HRM.out; have := HL2.out; omega
          obtain ⟨V, hV⟩ : ∃ V, V = str [48 + (dd : Int)] := ⟨_, rfl⟩
          have hsz2 : V.size = 1 := by rw [hV, str_size]; rfl
          rw [← hV] at hcv HST HSZ
          clear hn1 be1 hdd hsz hV
          by_cases hd0 : dd = 0
          · have hj1 : j1 = 0 := by rw [ho1.1, hd0, digs_0]; rfl
            subst hj1
            rw [hd0] at hcv HST HN1
            simp only [Int.natCast_zero, Int.add_zero] at hcv HST HN1
            subst hd0
            clear ho1
            go_wp2
            go_roundw
            case rel => exact ⟨q / 10, o ++ [((48 + 0 : Nat) : Int)], a1, k1, c1, rfl, hk1, by rw [← HST.out], Nat.le_trans (Nat.div_le_self q 10) hqn.out, HN1.out, HNX.out, bAlloc HB1.out⟩
            case measure =>
              have h1 := HRM.out
              have h2 := HS0.out
              have h3 := HSZ.out
              simp only [sizeV]
              omega
          · have hj1 : j1 = 1 := by
              rw [ho1.1, digs_pos hd0, List.length_cons, show dd / 256 = 0 from by omega, digs_0]; rfl
            obtain ⟨bb, oo, rfl, hcell⟩ := dg_cell (p := 0) ho1 (by omega)
            rw [show dd / 256 ^ 0 % 256 = dd from by simp; omega, Nat.add_zero] at hcell
            subst hj1
            clear ho1
            go_wp2
            go_roundw
            case rel => exact ⟨q / 10, o ++ [((48 + dd : Nat) : Int)], a1, k1, c1, rfl, hk1, by rw [← HST.out], Nat.le_trans (Nat.div_le_self q 10) hqn.out, HN1.out, HNX.out, bAlloc HB1.out⟩
            case measure =>
              have h1 := HRM.out
              have h2 := HS0.out
              have h3 := HSZ.out
              simp only [sizeV]
              omega
      · have ho : ¬ o = [] := fun h => hgo (.inl h)
        have hq : q = 0 := by
          by_cases h : q = 0
          · exact h
          · exact absurd (.inr h) hgo
        have HEQ := Lib.hid (hdec.out.end_ hgo)
        have t0 : S.toList ≠ [] := by
          intro h
          rw [h] at hso
          simp [ho] at hso
        have t1 : (S.toList = []) = False := eq_false t0
        have t2 : S.toList.isEmpty = false := by
          cases hT : S.toList with
          | nil => exact absurd hT t0
          | cons x y => rfl
        have hk0 : kr = 0 := hq0.2 hq
        subst hk0
        clear hso hq0 hgo hdec hS ho hq t0
        go_wp2
        go_ret
        exact ⟨by rw [HEQ.out, ← HSS.out]; rfl, hbel.out⟩

end Go.Proofs.Ytdafncaehjipbaa
