/-
  Contracts of the document's package websterref13: Div.
-/
import Derived.Test.YtdafncaehjipbaaLargeW
namespace Go.Proofs.Ytdafncaehjipbaa
open Go.RowKit
set_option linter.unusedVariables false
set_option maxHeartbeats 4000000
set_option maxRecDepth 20000

theorem own_oneAt {w : World} {base b : Nat} {e : TypeId} {x : Value} (hb : base ≤ w.heap.size) (h : b = w.heap.size) : (w.alloc (.cells #[x] e)).ownsRow base e 1 (.slice (some ⟨b, 0, none⟩) 1 1) 1 [x] := by
  subst h
  exact ⟨by simp, .inr ⟨w.heap.size, 1, #[x], rfl, hb, heap_alloc_new w _, Nat.le_refl _, by unfold maxLen; omega, by simp, by simp⟩⟩
theorem reads_set {w : World} {a : Option Addr} {c : Nat} {xs : List Value} (h : Reads w a c xs) {p : Addr} (v : Value) (hp : ∀ x, a = some x → x.block ≠ p.block) : Reads (w.setCell p v) a c xs := by
  by_cases hl : 0 < xs.length
  · obtain ⟨b, off, rfl, hlt, hc⟩ := h.at hl
    refine .inr ⟨_, rfl, fun i u hu => ?_⟩
    rw [add_flat]
    refine (World.cell?_of_block ?_).trans (hc i u hu)
    exact Below.heap_setCell _ _ _ _ (hp ⟨b, off, none⟩ rfl)
  · have : xs = [] := List.eq_nil_of_length_eq_zero (by omega)
    subst this
    rcases h with h | ⟨x, rfl, _⟩
    · exact .inl h
    · exact .inr ⟨x, rfl, fun i u hu => by simp at hu⟩

/-- A digit's division, the highest first. -/
theorem div_dig {A M p Q R L : Nat} (h : A / 256 ^ (p + 1) = Q * M + R) (h1 : L * M ≤ A / 256 ^ p % 256 + 256 * R) (h2 : A / 256 ^ p % 256 + 256 * R < (L + 1) * M) :
    A / 256 ^ p = (256 * Q + L) * M + (A / 256 ^ p % 256 + 256 * R - M * L) ∧ A / 256 ^ p % 256 + 256 * R - M * L < M := by
  rw [div_next] at h
  generalize A / 256 ^ p = z at *
  have e1 : (256 * Q + L) * M = 256 * (Q * M) + L * M := by rw [Nat.add_mul, Nat.mul_assoc]
  have e2 : (L + 1) * M = L * M + M := by rw [Nat.add_mul, Nat.one_mul]
  have e3 : M * L = L * M := Nat.mul_comm _ _
  rw [e1, e3]
  omega
theorem dig_le {A M p Q R : Nat} (h : A / 256 ^ (p + 1) = Q * M + R) : A / 256 ^ p % 256 + 256 * R ≤ A := by
  have h0 := Nat.div_le_self A (256 ^ p)
  rw [div_next] at h
  have : R ≤ A / 256 ^ p / 256 := by omega
  omega
theorem div_end256 {a b q r : Nat} (h : a / 256 ^ 0 = q * b + r) (hr : r < b) : q = a / b ∧ r = a % b := div_end (by simpa using h) hr
theorem val_put0 {o : List Int} {p : Nat} (hb : Byt o) (hp : p < o.length) {Q : Nat} (hv : valI o = Q * 256 ^ (p + 1)) (L : Nat) : valI (o.set p (L : Int)) = (256 * Q + L) * 256 ^ p := by
  have h0 : dg o p = 0 := by
    rw [dg_all hb p, hv, Nat.pow_succ, Nat.mul_comm (256 ^ p) 256, ← Nat.mul_assoc, Nat.mul_div_cancel _ (Nat.pow_pos (by omega))]
    omega
  have := val_set (o := o) (i := p) (L : Int) hp
  rw [h0, hv, Int.toNat_natCast] at this
  rw [Nat.pow_succ] at this
  have e : (256 * Q + L) * 256 ^ p = Q * (256 ^ p * 256) + 256 ^ p * L := by
    generalize 256 ^ p = z
    rw [Nat.add_mul, Nat.mul_comm L z, Nat.mul_comm z 256, ← Nat.mul_assoc, Nat.mul_comm Q 256]
  omega

theorem r_Div {a0 a1 : Option Addr} {n0 n1 c0 c1 : Nat} {l m : List Int} {w : World} (h0 : SlAt w a0 n0 c0 l) (h1 : SlAt w a1 n1 c1 m) (hm0 : n0 ≤ 1000) (hm1 : n1 ≤ 1000) :
    Calls Try.prog 20 #[.slice a0 n0 c0, .slice a1 n1 c1] w (DivPost w (divE l m) (valI l / valI m) (valI l % valI m)) := by
  have HR0 := Lib.hid (r_Right a0 n0 c0 l w h0.len h0.rd (by omega))
  have HR1 := Lib.hid (r_Right a1 n1 c1 m w h1.len h1.rd (by omega))
  have HH := Lib.hid (And.intro h0 h1)
  clear h0 h1
  cases hr0 : rightB l with
  | false =>
    have hE : divE l m = 2 := by unfold divE; rw [if_pos (.inl hr0)]
    rw [hE]
    rw [hr0] at HR0
    clear hr0 hE
    go_enter Try.func20, Try.ntmps20
    go_wp2_with fail
    refine HR0.out.mono ?_
    rintro e w' ⟨rfl, rfl⟩
    go_wp2
    go_ret3
    exact ⟨none, 0, 0, none, 0, 0, rfl, by rw [if_neg (by decide)]; exact numAt_nil w, by rw [if_neg (by decide)]; exact numAt_nil w, Below.refl _ _⟩
  | true =>
    rw [hr0] at HR0
    cases hr1 : rightB m with
    | false =>
      have hE : divE l m = 2 := by unfold divE; rw [if_pos (.inr hr1)]
      rw [hE]
      rw [hr1] at HR1
      clear hr0 hr1 hE
      go_enter Try.func20, Try.ntmps20
      go_wp2_with fail
      refine HR0.out.mono ?_
      rintro e w' ⟨rfl, rfl⟩
      go_wp2_with fail
      refine HR1.out.mono ?_
      rintro e w' ⟨rfl, rfl⟩
      go_wp2
      go_ret3
      exact ⟨none, 0, 0, none, 0, 0, rfl, by rw [if_neg (by decide)]; exact numAt_nil w, by rw [if_neg (by decide)]; exact numAt_nil w, Below.refl _ _⟩
    | true =>
      rw [hr1] at HR1
      by_cases hm : m = []
      · have hE : divE l m = 4 := by unfold divE; rw [if_neg (by rw [hr0, hr1]; simp), if_pos hm]
        rw [hE]
        have hn1 : n1 = 0 := by have := HH.out.2.len; rw [hm] at this; exact this
        subst hn1
        clear hr0 hr1 hE hm
        go_enter Try.func20, Try.ntmps20
        go_wp2_with fail
        refine HR0.out.mono ?_
        rintro e w' ⟨rfl, rfl⟩
        go_wp2_with fail
        refine HR1.out.mono ?_
        rintro e w' ⟨rfl, rfl⟩
        go_wp2
        go_ret3
        exact ⟨none, 0, 0, none, 0, 0, rfl, by rw [if_neg (by decide)]; exact numAt_nil w, by rw [if_neg (by decide)]; exact numAt_nil w, Below.refl _ _⟩
      · have hE : divE l m = 0 := by unfold divE; rw [if_neg (by rw [hr0, hr1]; simp), if_neg hm]
        rw [hE]
        have HD0 := Lib.hid (right_digs HH.out.1.byt hr0)
        have HD1 := Lib.hid (right_digs HH.out.2.byt hr1)
        have hB0 : 0 < valI m := by
          rcases Nat.eq_zero_or_pos (valI m) with h | h
          · have := HD1.out.1; rw [h, digs_0] at this; exact absurd this.symm hm
          · exact h
        have hn1 : n1 ≠ 0 := by
          intro h
          exact hm (List.eq_nil_of_length_eq_zero (by rw [← HH.out.2.len]; exact h))
        have hq : ((n1 : Int) == 0) = false := by simp; omega
        have HB0 := Lib.hid hB0
        obtain ⟨A, hA⟩ : ∃ A, A = valI l := ⟨_, rfl⟩
        obtain ⟨B, hB⟩ : ∃ A, A = valI m := ⟨_, rfl⟩
        rw [← hA, ← hB]
        rw [← hB] at HB0
        have HA := Lib.hid hA
        have HB := Lib.hid hB
        have hn04 : n0 ≤ 400 := by have := HD0.out.2; have := HH.out.1.len; omega
        clear hr0 hr1 hE hm hB0 hA hB
        go_enter Try.func20, Try.ntmps20
        go_wp2_with fail
        refine HR0.out.mono ?_
        rintro e w' ⟨rfl, rfl⟩
        go_wp2_with fail
        refine HR1.out.mono ?_
        rintro e w' ⟨rfl, rfl⟩
        go_wp2_with (at_make; refine wpList_mk rfl _ _ 22 rfl 5 (.int .u8 0) 1 Try.underlying22 inf_u8L rfl .i64 .i64 _ _ n0 rfl rfl rfl rfl (by omega) (by unfold maxLen; omega) ?_)
        intro w1 row1 upd1
        have HB1 := Lib.hid (upd1.below (Nat.le_refl _) (by simp))
        obtain ⟨g, hg⟩ : ∃ g, g = w.heap.size := ⟨_, rfl⟩
        rw [← hg] at row1 ⊢
        have HRW := Lib.hid row1
        have HG := Lib.hid hg
        clear row1 upd1 hg hq hn1
        go_wp2
        go_loopw [8, 9] (fun rv i wr => ∃ (j : Nat) (o : List Int) (ar : Option Addr) (kr cr R Q : Nat), j ≤ n0 ∧ kr ≤ 400 ∧ rv = .slice ar kr cr ∧ i = .int .i64 ((j : Int) - 1) ∧ Hid (Row wr g 5 (o.map (Value.int .u8))) ∧ Hid (o.length = n0 ∧ Byt o ∧ valI o = Q * 256 ^ j) ∧ Hid (NumAt wr ar kr cr R) ∧ Hid (A / 256 ^ j = Q * B + R ∧ R < B) ∧ Hid (Below w.heap.size w wr)) (fun _ i _ => (intOf i + 1).toNat)
        case atStart =>
          refine ⟨n0, List.replicate n0 0, none, 0, 0, 0, 0, Nat.le_refl _, by omega, rfl, by go_num, ?_, ?_, numAt_nil w1, ?_, HB1.out⟩
          · show Row _ _ _ _
            rw [List.map_replicate]; exact HRW.out
          · exact ⟨List.length_replicate, byt_zeros _, by rw [val_zeros]; simp⟩
          · refine ⟨?_, HB0.out⟩
            have := valI_lt HH.out.1.byt
            rw [← HH.out.1.len, ← HA.out] at this
            rw [Nat.div_eq_of_lt this]; simp
        case round =>
          obtain ⟨j, o, ar, kr, cr, R, Q, hj, hkr, rfl, rfl, hrow, hout, hrest, hdiv, hbel⟩ := hrel
          by_cases hj0 : j = 0
          · subst hj0
            have hde := div_end256 hdiv.out.1 hdiv.out.2
            have hov : valI o = A / B := by rw [hout.out.2.2, hde.1]; simp
            have HCT := Lib.hid (r_bare (w := wr) (a := some ⟨g, 0, none⟩) (n := n0) (c := n0) (l := o) ⟨hout.out.1.symm, row_reads hrow.out n0, hout.out.2.1, Nat.le_refl _, by omega⟩ (by omega))
            rw [hov] at HCT
            have HRS : Hid (NumAt wr ar kr cr (A % B)) := by rw [← hde.2]; exact hrest.out
            clear hde hov hdiv hrest hout hrow
            have hm1' : ((0 : Nat) : Int) - 1 = -1 := by omega
            rw [hm1']
            clear hm1'
            go_wp2_with fail
            refine HCT.out.mono ?_
            rintro e w' ⟨⟨kk, rfl, hq⟩, rfl⟩
            have HQ := Lib.hid hq
            clear hq
            go_wp2
            go_ret3
            exact ⟨_, _, _, _, _, _, rfl, by rw [if_pos rfl]; exact HQ.out, by rw [if_pos rfl]; exact HRS.out, hbel.out⟩
          · obtain ⟨p, rfl⟩ : ∃ p, j = p + 1 := ⟨j - 1, by omega⟩
            have hpi : ((p + 1 : Nat) : Int) - 1 = (p : Int) := by omega
            rw [hpi]
            have hpn : p < n0 := by omega
            have hpni : (p : Int) < (n0 : Int) := by omega
            obtain ⟨b0, o0, ea0, _, hc0⟩ := (HH.out.1.rd.below hbel.out).at (by simp; have := HH.out.1.len; omega)
            have k0 := hc0 p _ (getD_map8 (by have := HH.out.1.len; omega))
            obtain ⟨x, hx⟩ : ∃ x, x = dg l p := ⟨_, rfl⟩
            have hxi : l.getD p 0 = (x : Int) := by have := byte_in HH.out.1.byt p; rw [hx]; unfold dg; omega
            rw [hxi] at k0
            have hx255 : x ≤ 255 := by rw [hx]; exact dg_le HH.out.1.byt p
            have HX := Lib.hid (show x = A / 256 ^ p % 256 from by rw [hx, HA.out]; exact dg_all HH.out.1.byt p)
            have HGS := Lib.hid (show g < wr.heap.size from hrow.out.lt)
            subst ea0
            clear hc0 hx hxi hpi hj hj0
            go_wp2_with (at_builtin; refine wpList_app rfl _ _ 22 rfl wr.heap.size 5 (.int .u8 0) 1 1 Try.underlying22 inf_u8L rfl (by decide) _ _ _ rfl (own_oneAt (Nat.le_refl _) rfl) _ kr cr ((digs R).map (Value.int .u8)) rfl (by rw [List.length_map, ← hrest.out.1]; simp) (hrest.out.2.2.2.alloc _) (ints_one _ _) (by unfold maxLen; omega) (by omega) (by simp) ?_)
            intro v' w3 own3 gr3
            have hB3 : Below wr.heap.size wr w3 := ((Below.refl wr.heap.size wr).alloc (Nat.le_refl _) (.cells [.int .u8 (x : Int)].toArray 5)).grown gr3 (by simp) (fun k hk => by
              have : wr.heap.size = k := by simpa [Value.ownBlock] using hk
              omega)
            have hown : w3.ownsRow wr.heap.size 5 1 v' (1 + kr) ((((x : Int) :: digs R)).map (Value.int .u8)) := own3
            obtain ⟨a4, c4, rfl, hr4, hc4, hf4⟩ := owns_reads hown
            have hbx : Byt ((x : Int) :: digs R) := (byt_digs R).cons (by omega)
            obtain ⟨R2, hR2⟩ : ∃ R2, R2 = x + 256 * R := ⟨_, rfl⟩
            have hvx : valI ((x : Int) :: digs R) = R2 := by rw [valI, valI_digs, Int.toNat_natCast, hR2]
            have HBA := Lib.hid (r_bare (w := w3) (a := a4) (n := 1 + kr) (c := c4) (l := (x : Int) :: digs R) ⟨by rw [List.length_cons, ← hrest.out.1]; omega, hr4, hbx, hc4, owns_cap hown⟩ (by omega))
            rw [hvx] at HBA
            have HF4 := Lib.hid (show ∀ z : Addr, a4 = some z → z.block ≠ g from fun z hz => by have := (hf4 z hz).1; have := HGS.out; omega)
            have HB3 := Lib.hid hB3
            have HRW3 := Lib.hid ((hB3.block g HGS.out).trans hrow.out)
            have hdl := dig_le hdiv.out.1
            rw [← HX.out, ← hR2] at hdl
            have HDL := Lib.hid hdl
            have HR2 := Lib.hid hR2
            clear own3 gr3 hB3 hown hr4 hc4 hf4 hbx hvx hrow hrest hdl hR2
            go_wp2_with fail
            refine HBA.out.mono ?_
            rintro e w' ⟨⟨kk, rfl, hq⟩, rfl⟩
            have HQ := Lib.hid hq
            have hkk : kk ≤ 400 := by
              have h1 := hq.1
              have h2 := digs_mono HDL.out
              have h3 := HD0.out
              rw [← HA.out] at h3
              rw [h3.1] at h2
              omega
            clear hq HBA
            go_wp2
            go_loopw [11, 12] (fun lo hi wr2 => ∃ (L H : Nat), L < H ∧ H ≤ 256 ∧ lo = .int .i64 L ∧ hi = .int .i64 H ∧ Hid (L * B ≤ R2 ∧ R2 < H * B) ∧ Hid (Below w3.heap.size w3 wr2)) (fun lo hi _ => (intOf hi - intOf lo).toNat)
            case atStart => exact ⟨0, 256, by omega, by omega, rfl, rfl, ⟨by omega, by have := hdiv.out.2; have := HR2.out; omega⟩, Below.refl _ _⟩
            case round =>
              obtain ⟨L, H, hLH, hH, rfl, rfl, hLR, hbel2⟩ := hrel
              have HSM := Lib.hid (HH.out.2.below (hbel.out.trans (HB3.out.mono hbel.out.size) |>.trans (hbel2.out.mono (Nat.le_trans hbel.out.size HB3.out.size))))
              by_cases h1 : L + 1 < H
              · obtain ⟨md, hmd⟩ : ∃ md, md = (L + H) / 2 := ⟨_, rfl⟩
                have hmi : ((L : Int) + (H : Int)) / 2 = (md : Int) := by omega
                have hmb : L < md ∧ md < H := by omega
                have hmb1 := hmb.1
                have hmb2 : md ≤ 255 := by omega
                have hgt : ((1 : Int) < (H : Int) - (L : Int)) := by omega
                have HMD := Lib.hid hmd
                clear hmd
                have HPR := Lib.hid (r_product (w := wr.alloc (.cells #[.int .u8 (md : Int)] 5)) (l := m) (m := [(md : Int)]) (HSM.out.alloc _) (sl1 _ (md : Int) _ _ rfl (by omega)) hm1 (by omega))
                rw [show valI m * valI [(md : Int)] = md * B from by rw [← HB.out]; simp [valI, Nat.mul_comm]] at HPR
                go_wp2_with fail
                refine HPR.out.mono ?_
                clear HPR
                rintro e w4 ⟨a5, k5, c5, rfl, hn5, -, b5⟩
                have hb4 : Below wr.heap.size wr w4 := ((Below.refl _ wr).alloc (Nat.le_refl _) _).trans (b5.mono (by simp))
                have HB4 := Lib.hid (bNext hbel2.out hb4)
                have hk5 : k5 ≤ 100000 := by
                  rw [hn5.1]
                  refine Nat.le_trans (digs_len (k := n1 + 1) ?_) (by omega)
                  have hv := valI_lt HH.out.2.byt
                  rw [← HH.out.2.len, ← HB.out] at hv
                  rw [Nat.pow_succ, Nat.mul_comm]
                  exact Nat.mul_lt_mul_of_lt_of_le hv (by omega) (by omega)
                have HCM := Lib.hid (r_Cmp (w := w4) hn5.sl ((HQ.out.below HB4.out).sl) hk5 (by omega))
                rw [valI_digs, valI_digs] at HCM
                clear hn5 b5 hb4
                by_cases hle : md * B ≤ R2
                · have hC : (cmpI (md * B) R2 ≤ 0) = True := eq_true (by rcases cmpI_le hle with h | h <;> omega)
                  generalize cmpI (md * B) R2 = C at *
                  go_wp2_with fail
                  refine HCM.out.mono ?_
                  rintro e w5 ⟨rfl, rfl⟩
                  have HLE := Lib.hid hle
                  clear hle
                  go_wp2
                  go_roundw
                  case rel => exact ⟨md, H, hmb.2, hH, by go_num, by go_num, ⟨HLE.out, hLR.out.2⟩, HB4.out⟩
                  case measure => simp [intOf]; omega
                · have hC : (cmpI (md * B) R2 ≤ 0) = False := eq_false (by
                    unfold cmpI
                    rw [if_neg (by omega), if_pos (by omega)]
                    omega)
                  generalize cmpI (md * B) R2 = C at *
                  go_wp2_with fail
                  refine HCM.out.mono ?_
                  rintro e w5 ⟨rfl, rfl⟩
                  have HLE := Lib.hid hle
                  clear hle
                  go_wp2
                  go_roundw
                  case rel => exact ⟨L, md, hmb.1, by omega, by go_num, by go_num, ⟨hLR.out.1, by have := HLE.out; omega⟩, HB4.out⟩
                  case measure => simp [intOf]; omega
              · have hH1 : H = L + 1 := by omega
                subst hH1
                have hngt : ((1 : Int) < ((L + 1 : Nat) : Int) - (L : Int)) = False := eq_false (by omega)
                have hgL : ((L + 1 : Nat) : Int) - (L : Int) = 1 := by omega
                have hL255 : L ≤ 255 := by omega
                have hrow2 : Row wr g 5 (o.map (Value.int .u8)) := (hbel2.out.block g (by have := HB3.out.size; have := HGS.out; omega)).trans HRW3.out
                have hq2 := HQ.out.below hbel2.out
                obtain ⟨old, cg⟩ : ∃ old, wr.cell? ⟨g, p, none⟩ = some old := ⟨_, hrow2.cell (List.getElem?_eq_getElem (by rw [List.length_map, hout.out.1]; exact hpn))⟩
                have fg := hrow2.free p
                have HDD := Lib.hid (div_dig (M := B) (L := L) hdiv.out.1 (by rw [← HX.out, ← HR2.out]; exact hLR.out.1) (by rw [← HX.out, ← HR2.out]; exact hLR.out.2))
                rw [← HX.out, ← HR2.out] at HDD
                obtain ⟨w5, hw5⟩ : ∃ z, z = wr.setCell ⟨g, p, none⟩ (.int .u8 (L : Int)) := ⟨_, rfl⟩
                have HRW5 := Lib.hid (show Row w5 g 5 ((o.set p (L : Int)).map (Value.int .u8)) from by rw [hw5]; exact row_put hrow2 p _)
                have HQ5 := Lib.hid (show NumAt w5 a4 kk c4 R2 from by rw [hw5]; exact ⟨hq2.1, hq2.2.1, hq2.2.2.1, reads_set hq2.2.2.2 _ HF4.out⟩)
                have hbw2 : Below w.heap.size w wr := hbel.out.trans (HB3.out.mono hbel.out.size) |>.trans (hbel2.out.mono (Nat.le_trans hbel.out.size HB3.out.size))
                have HB5 := Lib.hid (show Below w.heap.size w w5 from by rw [hw5]; exact hbw2.setCell (p := ⟨g, p, none⟩) (by show w.heap.size ≤ g; exact Nat.le_of_eq HG.out.symm) _)
                have HSM5 := Lib.hid (HH.out.2.below HB5.out)
                have HBL := Lib.hid (r_bare (w := w5.alloc (.cells #[.int .u8 (L : Int)] 5)) (l := [(L : Int)]) (sl1 _ (L : Int) _ _ rfl (by omega)) (by omega))
                rw [show valI [(L : Int)] = L from by simp [valI]] at HBL
                have HNO := Lib.hid (val_put0 hout.out.2.1 (by rw [hout.out.1]; exact hpn) hout.out.2.2 L)
                have HBO := Lib.hid (byt_set hout.out.2.1 p (d := (L : Int)) (by omega))
                have HGS5 := Lib.hid HRW5.out.lt
                have hs5 : w5.heap.size = wr.heap.size := by rw [hw5]; simp
                have HS5 := Lib.hid hs5
                have HW5 := Lib.hid hw5
                clear hrow2 hq2 hw5 hbw2 h1 hs5
                go_wp2_with fail
                rw [← HW5.out, ← HS5.out]
                refine HBL.out.mono ?_
                rintro e w' ⟨⟨k6, rfl, hq6⟩, rfl⟩
                have hk6 : k6 ≤ 1 := by
                  rw [hq6.1]; exact digs_len (by omega)
                have HPR := Lib.hid (r_product (w := w5.alloc (.cells #[.int .u8 (L : Int)] 5)) (l := m) (m := digs L) (HSM5.out.alloc _) hq6.sl hm1 (by omega))
                rw [valI_digs, ← HB.out] at HPR
                clear hq6 HBL
                go_wp2_with fail
                refine HPR.out.mono ?_
                clear HPR
                rintro e w6 ⟨a7, k7, c7, rfl, hn7, -, b7⟩
                have hb56 : Below w5.heap.size w5 w6 := ((Below.refl _ w5).alloc (Nat.le_refl _) _).trans (b7.mono (by simp))
                have hQ6 := HQ5.out.below hb56
                have HMR := Lib.hid (show B * L ≤ R2 from by have := hLR.out.1; rw [Nat.mul_comm]; exact this)
                have hk7 : k7 ≤ 400 := by
                  rw [hn7.1]
                  have h := digs_mono HMR.out
                  have := HQ.out.1
                  omega
                have HSB := Lib.hid (r_Sub (w := w6) hQ6.sl hn7.sl (by omega) (by omega))
                rw [valI_digs, valI_digs, show subE (digs R2) (digs (B * L)) = 0 from by
                  unfold subE
                  rw [rightB_digs (by rw [← hQ6.1]; exact hkk), rightB_digs (by rw [← hn7.1]; exact hk7), valI_digs, valI_digs, if_neg (by simp), if_neg (by have := HMR.out; omega)]] at HSB
                have HB6 := Lib.hid (bNext HB5.out hb56)
                have HRW6 := Lib.hid ((hb56.block g HGS5.out).trans HRW5.out)
                have hgl6 : g < w6.heap.size := by have := hb56.size; have := HGS5.out; omega
                have HGL6 := Lib.hid hgl6
                clear hn7 b7 hb56 hQ6 hgl6
                go_wp2_with fail
                refine HSB.out.mono ?_
                clear HSB
                rintro e w7 ⟨a8, k8, c8, rfl, hn8, b8⟩
                rw [if_pos rfl] at hn8
                have HN8 := Lib.hid hn8
                have hk8 : k8 ≤ 400 := by
                  rw [hn8.1]
                  have h := digs_mono (Nat.sub_le R2 (B * L))
                  have := HQ.out.1
                  omega
                have HB7 := Lib.hid (bNext HB6.out b8)
                have HRW7 := Lib.hid ((b8.block g HGL6.out).trans HRW6.out)
                clear hn8 b8
                go_wp2
                go_roundw
                case rel => exact ⟨p, o.set p (L : Int), a8, k8, c8, R2 - B * L, 256 * Q + L, by omega, hk8, rfl, by go_num, HRW7.out, ⟨by rw [List.length_set]; exact hout.out.1, HBO.out, HNO.out⟩, HN8.out, HDD.out, HB7.out⟩
                case measure => simp [intOf]

end Go.Proofs.Ytdafncaehjipbaa
