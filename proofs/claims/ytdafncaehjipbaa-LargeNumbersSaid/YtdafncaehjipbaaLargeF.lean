/-
  Contracts of package large: Div. (Written by lfgen.py.)
-/
import Derived.Test.YtdafncaehjipbaaLargeE
namespace Go.Proofs.Ytdafncaehjipbaa
open Go.RowKit
set_option linter.unusedVariables false
set_option maxHeartbeats 1500000
set_option maxRecDepth 20000

def divE (l m : List Int) : Int := if rightB l = false ∨ rightB m = false then 2 else if m = [] then 4 else 0
def DivPost (w : World) (E : Int) (Q R : Nat) (e : Ending) (w' : World) : Prop := ∃ a k c b j d, e = .returned (.tuple #[.slice a k c, .slice b j d, .int .i64 E]) ∧ NumAt w' a k c (if E = 0 then Q else 0) ∧ NumAt w' b j d (if E = 0 then R else 0) ∧ Below w.heap.size w w'

theorem and8 {d s : Nat} (hd : d ≤ 255) (hs : s < 8) : bits .and .u8 ((d : Int) / 2 ^ s) 1 = ((d / 2 ^ s % 2 : Nat) : Int) := by
  have key : ∀ d : Fin 256, ∀ s : Fin 8, bits .and .u8 ((d.val : Int) / 2 ^ s.val) 1 = ((d.val / 2 ^ s.val % 2 : Nat) : Int) := by decide +kernel
  exact key ⟨d, by omega⟩ ⟨s, hs⟩
theorem or8 {d s : Nat} (hd : d ≤ 255) (hs : s < 8) (h0 : d % 2 ^ (s + 1) = 0) : bits .or .u8 (d : Int) (2 ^ s % 256) = ((d + 2 ^ s : Nat) : Int) := by
  have key : ∀ d : Fin 256, ∀ s : Fin 8, d.val % 2 ^ (s.val + 1) = 0 → bits .or .u8 (d.val : Int) (2 ^ s.val % 256) = ((d.val + 2 ^ s.val : Nat) : Int) := by decide +kernel
  exact key ⟨d, by omega⟩ ⟨s, hs⟩ h0
theorem or8_le {d s : Nat} (hd : d ≤ 255) (hs : s < 8) (h0 : d % 2 ^ (s + 1) = 0) : d + 2 ^ s ≤ 255 := by
  have key : ∀ d : Fin 256, ∀ s : Fin 8, d.val % 2 ^ (s.val + 1) = 0 → d.val + 2 ^ s.val ≤ 255 := by decide +kernel
  exact key ⟨d, by omega⟩ ⟨s, hs⟩ h0

theorem pow_at (i : Nat) : 256 ^ (i / 8) * 2 ^ (i % 8) = 2 ^ i := by
  rw [show (256 : Nat) = 2 ^ 8 from rfl, ← Nat.pow_mul, ← Nat.pow_add]
  congr 1
  omega
theorem pow_at1 (i : Nat) : 256 ^ (i / 8) * 2 ^ (i % 8 + 1) = 2 ^ (i + 1) := by
  rw [Nat.pow_succ, ← Nat.mul_assoc, pow_at, Nat.pow_succ]
theorem dg_eq {l : List Int} (hb : Byt l) {p : Nat} (hp : p < l.length) : dg l p = valI l / 256 ^ p % 256 := by
  have h := valI_split hp
  have h1 := valI_lt (take_bytL hb p)
  rw [List.length_take, Nat.min_eq_left (by omega)] at h1
  have hd := dg_le hb p
  have he : (l.getD p 0).toNat = dg l p := rfl
  rw [he] at h
  rw [h, Nat.add_mul_div_left _ _ (Nat.pow_pos (by omega)), Nat.div_eq_of_lt h1, Nat.zero_add]
  omega
theorem bit_at {l : List Int} (hb : Byt l) {i : Nat} (hp : i / 8 < l.length) : dg l (i / 8) / 2 ^ (i % 8) % 2 = valI l / 2 ^ i % 2 := by
  rw [dg_eq hb hp, ← pow_at i, ← Nat.div_div_eq_div_mul]
  generalize valI l / 256 ^ (i / 8) = V
  have hs : i % 8 < 8 := Nat.mod_lt _ (by omega)
  generalize i % 8 = s at *
  match s, hs with
  | 0, _ => omega
  | 1, _ => omega
  | 2, _ => omega
  | 3, _ => omega
  | 4, _ => omega
  | 5, _ => omega
  | 6, _ => omega
  | 7, _ => omega
theorem low_zero {o : List Int} (hb : Byt o) {i Q : Nat} (hp : i / 8 < o.length) (hv : valI o = Q * 2 ^ (i + 1)) : dg o (i / 8) % 2 ^ (i % 8 + 1) = 0 := by
  rw [dg_eq hb hp, hv, ← pow_at1 i, ← Nat.mul_assoc, Nat.mul_comm Q, Nat.mul_assoc, Nat.mul_div_cancel_left _ (Nat.pow_pos (by omega))]
  have hs : i % 8 < 8 := Nat.mod_lt _ (by omega)
  have hd : 2 ^ (i % 8 + 1) ∣ 256 := by
    rw [show (256 : Nat) = 2 ^ 8 from rfl]
    exact Nat.pow_dvd_pow 2 (by omega)
  rw [Nat.mod_mod_of_dvd _ hd, Nat.mul_mod_left]
theorem val_or {o : List Int} (hb : Byt o) {i Q : Nat} (hp : i / 8 < o.length) (hv : valI o = Q * 2 ^ (i + 1)) : valI (o.set (i / 8) ((dg o (i / 8) + 2 ^ (i % 8) : Nat) : Int)) = (2 * Q + 1) * 2 ^ i := by
  have h := val_set (o := o) ((dg o (i / 8) + 2 ^ (i % 8) : Nat) : Int) hp
  rw [Int.toNat_natCast, Nat.mul_add, pow_at, hv, Nat.pow_succ] at h
  have e : (2 * Q + 1) * 2 ^ i = Q * (2 ^ i * 2) + 2 ^ i := by
    rw [Nat.add_mul, Nat.one_mul, Nat.mul_comm (2 ^ i) 2, ← Nat.mul_assoc, Nat.mul_comm Q 2]
  rw [e]
  omega

theorem c_Div (a0 a1 : Option Addr) (n0 n1 c0 c1 : Nat) (l m : List Int) (w : World) (e0 : n0 = l.length) (e1 : n1 = m.length) (h0 : Reads w a0 c0 (l.map (Value.int .u8))) (h1 : Reads w a1 c1 (m.map (Value.int .u8))) (b0 : Byt l) (b1 : Byt m) (hc1 : n1 ≤ c1) (hm0 : n0 ≤ 100000) (hm1 : n1 ≤ 100000) :
    Calls Try.prog 19 #[.slice a0 n0 c0, .slice a1 n1 c1] w (DivPost w (divE l m) (valI l / valI m) (valI l % valI m)) := by
  have HR0 := Lib.hid (fun wz (b : Below w.heap.size w wz) => c_Right a0 n0 c0 l wz e0 (h0.below b) (by omega))
  have HR1 := Lib.hid (fun wz (b : Below w.heap.size w wz) => c_Right a1 n1 c1 m wz e1 (h1.below b) (by omega))
  have HH := Lib.hid (And.intro h0 (And.intro h1 (And.intro b0 (And.intro b1 (And.intro e0 (And.intro e1 hc1))))))
  clear h0 h1 b0 b1 e0 e1 hc1
  cases hr0 : rightB l with
  | false =>
    have hE : divE l m = 2 := by unfold divE; rw [if_pos (.inl hr0)]
    have HE := Lib.hid hE
    rw [hr0] at HR0
    clear hr0 hE
    go_enter Try.func19, Try.ntmps19
    go_wp2_with fail
    refine (HR0.out w (Below.refl _ _)).mono ?_
    rintro e w' ⟨rfl, rfl⟩
    go_wp2
    go_ret3
    exact ⟨none, 0, 0, none, 0, 0, by rw [HE.out]; rfl, by rw [HE.out, if_neg (by decide)]; exact numAt_nil w, by rw [HE.out, if_neg (by decide)]; exact numAt_nil w, Below.refl _ _⟩
  | true =>
    rw [hr0] at HR0
    cases hr1 : rightB m with
    | false =>
      have hE : divE l m = 2 := by unfold divE; rw [if_pos (.inr hr1)]
      have HE := Lib.hid hE
      rw [hr1] at HR1
      clear hr0 hr1 hE
      go_enter Try.func19, Try.ntmps19
      go_wp2_with fail
      refine (HR0.out w (Below.refl _ _)).mono ?_
      rintro e w' ⟨rfl, rfl⟩
      go_wp2_with fail
      refine (HR1.out w (Below.refl _ _)).mono ?_
      rintro e w' ⟨rfl, rfl⟩
      go_wp2
      go_ret3
      exact ⟨none, 0, 0, none, 0, 0, by rw [HE.out]; rfl, by rw [HE.out, if_neg (by decide)]; exact numAt_nil w, by rw [HE.out, if_neg (by decide)]; exact numAt_nil w, Below.refl _ _⟩
    | true =>
      rw [hr1] at HR1
      have HRM := Lib.hid (right_digs HH.out.2.2.2.1 hr1)
      by_cases hm : m = []
      · have hE : divE l m = 4 := by unfold divE; rw [if_neg (by rw [hr0, hr1]; simp), if_pos hm]
        have HE := Lib.hid hE
        have hn1 : n1 = 0 := by have := HH.out.2.2.2.2.2.1; rw [hm] at this; exact this
        have hq : ((n1 : Int) == 0) = true := by rw [hn1]; rfl
        clear hr0 hr1 hE hm hn1
        go_enter Try.func19, Try.ntmps19
        go_wp2_with fail
        refine (HR0.out w (Below.refl _ _)).mono ?_
        rintro e w' ⟨rfl, rfl⟩
        go_wp2_with fail
        refine (HR1.out w (Below.refl _ _)).mono ?_
        rintro e w' ⟨rfl, rfl⟩
        go_wp2
        go_ret3
        exact ⟨none, 0, 0, none, 0, 0, by rw [HE.out]; rfl, by rw [HE.out, if_neg (by decide)]; exact numAt_nil w, by rw [HE.out, if_neg (by decide)]; exact numAt_nil w, Below.refl _ _⟩
      · have hE : divE l m = 0 := by unfold divE; rw [if_neg (by rw [hr0, hr1]; simp), if_neg hm]
        have HE := Lib.hid hE
        have hB0 : 0 < valI m := by
          rcases Nat.eq_zero_or_pos (valI m) with h | h
          · have := HRM.out.1; rw [h, digs_0] at this; exact absurd this.symm hm
          · exact h
        have hn1 : n1 ≠ 0 := by
          intro h
          exact hm (List.eq_nil_of_length_eq_zero (by rw [← HH.out.2.2.2.2.2.1]; exact h))
        have hq : ((n1 : Int) == 0) = false := by simp; omega
        have HB0 := Lib.hid hB0
        clear hr0 hr1 hE hm hB0
        go_enter Try.func19, Try.ntmps19
        go_wp2_with fail
        refine (HR0.out w (Below.refl _ _)).mono ?_
        rintro e w' ⟨rfl, rfl⟩
        go_wp2_with fail
        refine (HR1.out w (Below.refl _ _)).mono ?_
        rintro e w' ⟨rfl, rfl⟩
        go_wp2_with (at_make; refine wpList_mk rfl _ _ 22 rfl 5 (.int .u8 0) 1 Try.underlying22 inf_u8L rfl .i64 .i64 _ _ n0 rfl rfl rfl rfl (by omega) (by unfold maxLen; omega) ?_)
        intro w1 row1 upd1
        have HB1' := Lib.hid (upd1.below (Nat.le_refl _) (by simp))
        obtain ⟨g, hg⟩ : ∃ g, g = w.heap.size := ⟨_, rfl⟩
        rw [← hg] at row1 ⊢
        have HRW := Lib.hid row1
        have HG := Lib.hid hg
        clear row1 upd1 hg hq hn1
        go_wp2
        go_loopw [8, 9] (fun rv i wr => ∃ (j : Nat) (o : List Int) (ar : Option Addr) (kr cr R Q : Nat), j ≤ 8 * n0 ∧ rv = .slice ar kr cr ∧ i = .int .i64 ((j : Int) - 1) ∧ Hid (Row wr g 5 (o.map (Value.int .u8))) ∧ Hid (o.length = n0 ∧ Byt o ∧ valI o = Q * 2 ^ j) ∧ Hid (NumAt wr ar kr cr R) ∧ Hid (∀ x, ar = some x → x.block ≠ g) ∧ Hid (valI l / 2 ^ j = Q * valI m + R ∧ R < valI m) ∧ Hid (Below w.heap.size w wr)) (fun _ i _ => (intOf i + 1).toNat)
        case atStart =>
          refine ⟨8 * n0, List.replicate n0 0, none, 0, 0, 0, 0, Nat.le_refl _, rfl, by go_num, ?_, ?_, numAt_nil w1, Lib.hid (fun (x : Addr) (hx : none = some x) => by cases hx), ?_, HB1'.out⟩
          · show Row _ _ _ _
            rw [List.map_replicate]; exact HRW.out
          · exact ⟨List.length_replicate, byt_zeros _, by rw [val_zeros]; simp⟩
          · refine ⟨?_, HB0.out⟩
            have := valI_lt HH.out.2.2.1
            rw [← HH.out.2.2.2.2.1] at this
            have e : (2 : Nat) ^ (8 * n0) = 256 ^ n0 := by rw [Nat.pow_mul]
            rw [e, Nat.div_eq_of_lt this]; simp
        case round =>
          obtain ⟨j, o, ar, kr, cr, R, Q, hj, rfl, rfl, hrow, hout, hrest, hdj, hdiv, hbel⟩ := hrel
          by_cases hj0 : j = 0
          · subst hj0
            have hde := div_end hdiv.out.1 hdiv.out.2
            have hov : valI o = valI l / valI m := by rw [hout.out.2.2, hde.1]; simp
            have HCT := Lib.hid (c_cut (some ⟨g, 0, none⟩) n0 n0 o wr hout.out.1.symm (row_reads hrow.out n0) hout.out.2.1 (Nat.le_refl _) (by omega))
            rw [hov] at HCT
            have HRS : Hid (NumAt wr ar kr cr (valI l % valI m)) := by rw [← hde.2]; exact hrest.out
            clear hde hov hdiv hrest hout hrow hdj
            have hm1' : ((0 : Nat) : Int) - 1 = -1 := by omega
            rw [hm1']
            clear hm1'
            go_wp2_with fail
            refine HCT.out.mono ?_
            clear HCT
            rintro e w' ⟨⟨q, rfl, hq⟩, rfl⟩
            have HQ := Lib.hid hq
            clear hq
            go_wp2
            go_ret3
            exact ⟨_, q, q, ar, kr, cr, by rw [HE.out]; rfl, by rw [HE.out, if_pos rfl]; exact HQ.out, by rw [HE.out, if_pos rfl]; exact HRS.out, hbel.out⟩
          · obtain ⟨i, rfl⟩ : ∃ i, j = i + 1 := ⟨j - 1, by omega⟩
            have hii : (((i + 1 : Nat) : Int) - 1) = (i : Int) := by omega
            rw [hii]
            clear hii
            have hrl : (digs R).length ≤ n1 := by
              have h1 := HRM.out.1
              have h2 := hdiv.out.2
              by_cases h : (digs R).length ≤ n1
              · exact h
              · have := digs_len_lt (a := valI m) (b := R) (by rw [h1, ← HH.out.2.2.2.2.2.1]; omega)
                omega
            have hkr : kr ≤ 100000 := by rw [hrest.out.1]; omega
            have HP := Lib.hid (c_plus ar ar kr kr cr cr (digs R) (digs R) wr hrest.out.1 hrest.out.1 hrest.out.2.2.2 hrest.out.2.2.2 (byt_digs _) (byt_digs _) hkr hkr)
            rw [valI_digs] at HP
            have hi0 : ((i : Int) ≥ 0) = True := eq_true (by omega)
            have hi1 : (0 ≤ (i : Int)) = True := eq_true (by omega)
            go_wp2_with fail
            refine HP.out.mono ?_
            clear HP
            rintro e w2 ⟨a2, k2, c2, rfl, hq2, hnb, b2⟩
            have HD2 : Hid (∀ x, a2 = some x → x.block ≠ g) := fun x hx => by have h1 := hnb x hx; have h2 := hrow.out.lt; omega
            clear hnb
            have HQ2 := Lib.hid hq2
            have HB2 := Lib.hid (bNext hbel.out b2)
            have HR2 : Hid (Row w2 g 5 (o.map (Value.int .u8))) := (b2.block _ hrow.out.lt).trans hrow.out
            have hpi : i / 8 < n0 := by omega
            obtain ⟨bb, oo, ha0, _, hcc⟩ := (HH.out.1.below HB2.out).at (by simp; have := HH.out.2.2.2.2.1; omega)
            have kc := hcc (i / 8) _ (getD_map8 (by have := HH.out.2.2.2.2.1; omega))
            have hcr : 0 ≤ l.getD (i / 8) 0 ∧ l.getD (i / 8) 0 ≤ 255 := by rw [List.getD_eq_getElem?_getD]; exact byte_at HH.out.2.2.1 _
            have hcd : l.getD (i / 8) 0 = ((dg l (i / 8) : Nat) : Int) := by unfold dg; omega
            have hc2 := dg_le HH.out.2.2.1 (i / 8)
            rw [hcd] at kc
            obtain ⟨d, hd⟩ : ∃ d, d = dg l (i / 8) := ⟨_, rfl⟩
            rw [← hd] at kc hc2
            have HDD := Lib.hid hd
            subst ha0
            clear hcc hcr hcd hd hq2 b2 hrow hrest hbel hrl hkr hj0
            have hdv : (i : Int).tdiv 8 = ((i / 8 : Nat) : Int) := by rw [Int.tdiv_eq_ediv_of_nonneg (by omega)]; simp
            have hmd : (i : Int).tmod 8 = ((i % 8 : Nat) : Int) := by rw [Int.tmod_eq_emod_of_nonneg (by omega)]; simp
            have hm8 : i % 8 < 8 := Nat.mod_lt _ (by omega)
            have hbv : bits .and .u8 ((d : Int) / 2 ^ (i % 8)) 1 = ((valI l / 2 ^ i % 2 : Nat) : Int) := by
              rw [and8 hc2 hm8, HDD.out, bit_at HH.out.2.2.1 (by have := HH.out.2.2.2.2.1; omega)]
            obtain ⟨bt, hbt⟩ : ∃ bt, bt = valI l / 2 ^ i % 2 := ⟨_, rfl⟩
            rw [← hbt] at hbv
            have HDB := Lib.hid (div_bit HB0.out hdiv.out.1 hdiv.out.2)
            rw [← hbt] at HDB
            have hR1b : 2 * R + bt < 256 ^ (n1 + 1) := by
              have h1 := valI_lt HH.out.2.2.2.1
              rw [← HH.out.2.2.2.2.2.1] at h1
              have h2 := hdiv.out.2
              have h3 : bt < 2 := by rw [hbt]; exact Nat.mod_lt _ (by omega)
              rw [Nat.pow_succ]
              omega
            have HLEN := Lib.hid (digs_len hR1b)
            have hb2 : bt = 0 ∨ bt = 1 := by have h3 : bt < 2 := by rw [hbt]; exact Nat.mod_lt _ (by omega)
                                             omega
            clear hbt hR1b hdiv
            rcases hb2 with rfl | rfl
            · have hbf : (bits .and .u8 ((d : Int) / 2 ^ (i % 8)) 1 == 1) = false := by rw [hbv]; rfl
              have HHB := Lib.hid hbv
              clear hbv
              obtain ⟨w3, rfl⟩ : ∃ z, z = w2 := ⟨_, rfl⟩
              obtain ⟨a3, rfl⟩ : ∃ z, z = a2 := ⟨_, rfl⟩
              obtain ⟨k3, rfl⟩ : ∃ z, z = k2 := ⟨_, rfl⟩
              obtain ⟨c3, rfl⟩ : ∃ z, z = c2 := ⟨_, rfl⟩
              have HQ3 : Hid (NumAt w3 a3 k3 c3 (2 * R + 0)) := by rw [Nat.add_zero, Nat.two_mul]; exact HQ2.out
              have HB3 := HB2
              have HR3 := HR2
              have HD3 := HD2
              have hk3 : k3 ≤ 401 := by have := HQ3.out.1; have := HLEN.out; have := HRM.out.2; have := HH.out.2.2.2.2.2.1; omega
              have HCM := Lib.hid (c_Cmp a3 a1 k3 n1 c3 c1 (digs (2 * R + 0)) m w3 HQ3.out.1 HH.out.2.2.2.2.2.1 HQ3.out.2.2.2 (HH.out.2.1.below HB3.out) (byt_digs _) HH.out.2.2.2.1 HQ3.out.2.1 HH.out.2.2.2.2.2.2 (by omega) (by omega))
              rw [valI_digs] at HCM
              by_cases hlt : 2 * R + 0 < valI m
              · have hC : cmpI (2 * R + 0) (valI m) = -1 := by unfold cmpI; rw [if_pos hlt]
                rw [hC] at HCM
                have HDB2 := Lib.hid (HDB.out.2 hlt)
                have HLT := Lib.hid hlt
                clear hC hlt
                go_wp2_with fail
                refine HCM.out.mono ?_
                clear HCM
                rintro e w4 ⟨rfl, b4⟩
                have HB4 := Lib.hid (bNext HB3.out b4)
                have HQ4 := Lib.hid (HQ3.out.below b4)
                have HR4 : Hid (Row w4 g 5 (o.map (Value.int .u8))) := (b4.block _ HR3.out.lt).trans HR3.out
                clear b4
                go_wp2
                go_roundw
                case rel => exact ⟨i, o, a3, k3, c3, 2 * R + 0, 2 * Q, by omega, rfl, by go_num, HR4.out, ⟨hout.out.1, hout.out.2.1, by rw [hout.out.2.2, Nat.pow_succ, Nat.mul_comm (2 ^ i) 2, ← Nat.mul_assoc, Nat.mul_comm Q 2]⟩, HQ4.out, HD3.out, ⟨HDB2.out, HLT.out⟩, HB4.out⟩
                case measure => simp [intOf] <;> omega
              · have hC : cmpI (2 * R + 0) (valI m) = 0 ∨ cmpI (2 * R + 0) (valI m) = 1 := by
                  unfold cmpI
                  rw [if_neg hlt]
                  split
                  · exact .inr rfl
                  · exact .inl rfl
                have hge : (cmpI (2 * R + 0) (valI m) ≥ 0) = True := eq_true (by omega)
                have hge2 : (0 ≤ cmpI (2 * R + 0) (valI m)) = True := eq_true (by omega)
                have HDB2 := Lib.hid (HDB.out.1 (by omega))
                have hle : valI m ≤ 2 * R + 0 := by omega
                have hln : n1 ≤ k3 := by
                  by_cases h : n1 ≤ k3
                  · exact h
                  · have := digs_len_lt (a := 2 * R + 0) (b := valI m) (by rw [HRM.out.1, ← HQ3.out.1, ← HH.out.2.2.2.2.2.1]; omega)
                    omega
                have HMN := Lib.hid (fun wz (b : Below w3.heap.size w3 wz) => c_minus a3 a1 k3 n1 c3 c1 (digs (2 * R + 0)) m wz HQ3.out.1 HH.out.2.2.2.2.2.1 (HQ3.out.2.2.2.below b) (HH.out.2.1.below (bNext HB3.out b)) (byt_digs _) HH.out.2.2.2.1 (by omega) hln (by rw [valI_digs]; exact hle))
                rw [valI_digs] at HMN
                clear hC hlt hle hln
                generalize cmpI (2 * R + 0) (valI m) = C at *
                go_wp2_with fail
                refine HCM.out.mono ?_
                clear HCM
                rintro e w4 ⟨rfl, b4⟩
                have HB34 := Lib.hid b4
                have HB4 := Lib.hid (bNext HB3.out b4)
                have HR4 : Hid (Row w4 g 5 (o.map (Value.int .u8))) := (b4.block _ HR3.out.lt).trans HR3.out
                clear b4
                go_wp2_with fail
                refine (HMN.out w4 HB34.out).mono ?_
                clear HMN
                rintro e w5 ⟨a5, k5, c5, rfl, hq5, hnb, b5⟩
                have HD5 : Hid (∀ x, a5 = some x → x.block ≠ g) := fun x hx => by have h1 := hnb x hx; have h2 := HR4.out.lt; omega
                clear hnb
                have HB5 := Lib.hid (bNext HB4.out b5)
                have HQ5 := Lib.hid hq5
                have HR5 : Hid (Row w5 g 5 (o.map (Value.int .u8))) := (b5.block _ HR4.out.lt).trans HR4.out
                have hol : i / 8 < o.length := by rw [hout.out.1]; omega
                have hcell := HR5.out.cell (i := i / 8) (getD_map8 hol)
                have hf := HR5.out.free (i / 8)
                have hoe : o.getD (i / 8) 0 = ((dg o (i / 8) : Nat) : Int) := by
                  have := byte_at hout.out.2.1 (i / 8)
                  unfold dg
                  rw [List.getD_eq_getElem?_getD]; omega
                rw [hoe] at hcell
                have hx0 := dg_le hout.out.2.1 (i / 8)
                have HLZ := Lib.hid (low_zero hout.out.2.1 hol hout.out.2.2)
                have HVS := Lib.hid (val_or hout.out.2.1 hol hout.out.2.2)
                obtain ⟨x, hx⟩ : ∃ x, x = dg o (i / 8) := ⟨_, rfl⟩
                rw [← hx] at hcell hx0 HLZ HVS
                have hor := or8 hx0 hm8 HLZ.out
                have hxb : x + 2 ^ (i % 8) ≤ 255 := or8_le hx0 hm8 HLZ.out
                have HXB := Lib.hid hxb
                have HOL := Lib.hid hol
                clear hq5 b5 hoe hx hge hge2 hxb hol
                go_wp2
                go_region
                go_wp2
                go_roundw
                case rel =>
                  have U : Upd [g] w5 (w5.setCell ⟨g, i / 8, none⟩ (.int .u8 ((x : Int) + 2 ^ (i % 8)))).drew := ((Upd.refl [g] w5).setCell (p := ⟨g, i / 8, none⟩) (by simp) _).drew
                  refine ⟨i, o.set (i / 8) ((x + 2 ^ (i % 8) : Nat) : Int), a5, k5, c5, 2 * R + 0 - valI m, 2 * Q + 1, by omega, rfl, by go_num, ?_, ⟨by rw [List.length_set]; exact hout.out.1, byt_set hout.out.2.1 _ ⟨Int.natCast_nonneg _, Int.ofNat_le.2 HXB.out⟩, HVS.out⟩, ?_, HD5.out, HDB2.out, U.below HB5.out.size (fun k hk => by simp at hk; have := HG.out; omega) |> HB5.out.trans⟩
                  · show Row _ _ _ _
                    rw [show (x : Int) + 2 ^ (i % 8) = ((x + 2 ^ (i % 8) : Nat) : Int) from by simp]
                    exact row_put HR5.out (i / 8) _
                  · exact ⟨HQ5.out.1, HQ5.out.2.1, HQ5.out.2.2.1, U.reads HQ5.out.2.2.2 (fun x hx => by simpa using HD5.out x hx)⟩
                case measure => simp [intOf] <;> omega
            · have hbf : (bits .and .u8 ((d : Int) / 2 ^ (i % 8)) 1 == 1) = true := by rw [hbv]; rfl
              have HHB := Lib.hid hbv
              clear hbv
              have hk2 : k2 ≤ 100000 := by
                have := HQ2.out.1
                have h2 := HLEN.out
                have h5 := HRM.out.2
                have h6 := HH.out.2.2.2.2.2.1
                have h3 : (digs (R + R)).length ≤ (digs (2 * R + 1)).length := by
                  by_cases h : (digs (R + R)).length ≤ (digs (2 * R + 1)).length
                  · exact h
                  · have := digs_len_lt (a := 2 * R + 1) (b := R + R) (by omega)
                    omega
                omega
              have HPL := Lib.hid (c_plus a2 (some ⟨w2.heap.size, 0, none⟩) k2 1 c2 1 (digs (R + R)) [1] (w2.alloc (.cells #[.int .u8 1] 5)) HQ2.out.1 rfl (HQ2.out.2.2.2.alloc _) (Reads.made w2 [.int .u8 1] 5 1) (byt_digs _) (fun x hx => by simp at hx; omega) hk2 (by omega))
              rw [valI_digs, show valI [1] = 1 from rfl] at HPL
              go_wp2_with fail
              refine HPL.out.mono ?_
              clear HPL
              rintro e w3 ⟨a3, k3, c3, rfl, hq3, hnb, b3⟩
              have b23 : Below w2.heap.size w2 w3 := bNext ((Below.refl _ w2).alloc (Nat.le_refl _) _) b3
              have HQ3 : Hid (NumAt w3 a3 k3 c3 (2 * R + 1)) := by rw [Nat.two_mul]; exact hq3
              have HB3 := Lib.hid (bNext HB2.out b23)
              have HR3 : Hid (Row w3 g 5 (o.map (Value.int .u8))) := (b23.block _ HR2.out.lt).trans HR2.out
              have HD3 : Hid (∀ x, a3 = some x → x.block ≠ g) := fun x hx => by have h1 := hnb x hx; have h2 := HR2.out.lt; simp at h1; omega
              clear hnb hq3 b3 b23 hk2
              have hk3 : k3 ≤ 401 := by have := HQ3.out.1; have := HLEN.out; have := HRM.out.2; have := HH.out.2.2.2.2.2.1; omega
              have HCM := Lib.hid (c_Cmp a3 a1 k3 n1 c3 c1 (digs (2 * R + 1)) m w3 HQ3.out.1 HH.out.2.2.2.2.2.1 HQ3.out.2.2.2 (HH.out.2.1.below HB3.out) (byt_digs _) HH.out.2.2.2.1 HQ3.out.2.1 HH.out.2.2.2.2.2.2 (by omega) (by omega))
              rw [valI_digs] at HCM
              by_cases hlt : 2 * R + 1 < valI m
              · have hC : cmpI (2 * R + 1) (valI m) = -1 := by unfold cmpI; rw [if_pos hlt]
                rw [hC] at HCM
                have HDB2 := Lib.hid (HDB.out.2 hlt)
                have HLT := Lib.hid hlt
                clear hC hlt
                go_wp2_with fail
                refine HCM.out.mono ?_
                clear HCM
                rintro e w4 ⟨rfl, b4⟩
                have HB4 := Lib.hid (bNext HB3.out b4)
                have HQ4 := Lib.hid (HQ3.out.below b4)
                have HR4 : Hid (Row w4 g 5 (o.map (Value.int .u8))) := (b4.block _ HR3.out.lt).trans HR3.out
                clear b4
                go_wp2
                go_roundw
                case rel => exact ⟨i, o, a3, k3, c3, 2 * R + 1, 2 * Q, by omega, rfl, by go_num, HR4.out, ⟨hout.out.1, hout.out.2.1, by rw [hout.out.2.2, Nat.pow_succ, Nat.mul_comm (2 ^ i) 2, ← Nat.mul_assoc, Nat.mul_comm Q 2]⟩, HQ4.out, HD3.out, ⟨HDB2.out, HLT.out⟩, HB4.out⟩
                case measure => simp [intOf] <;> omega
              · have hC : cmpI (2 * R + 1) (valI m) = 0 ∨ cmpI (2 * R + 1) (valI m) = 1 := by
                  unfold cmpI
                  rw [if_neg hlt]
                  split
                  · exact .inr rfl
                  · exact .inl rfl
                have hge : (cmpI (2 * R + 1) (valI m) ≥ 0) = True := eq_true (by omega)
                have hge2 : (0 ≤ cmpI (2 * R + 1) (valI m)) = True := eq_true (by omega)
                have HDB2 := Lib.hid (HDB.out.1 (by omega))
                have hle : valI m ≤ 2 * R + 1 := by omega
                have hln : n1 ≤ k3 := by
                  by_cases h : n1 ≤ k3
                  · exact h
                  · have := digs_len_lt (a := 2 * R + 1) (b := valI m) (by rw [HRM.out.1, ← HQ3.out.1, ← HH.out.2.2.2.2.2.1]; omega)
                    omega
                have HMN := Lib.hid (fun wz (b : Below w3.heap.size w3 wz) => c_minus a3 a1 k3 n1 c3 c1 (digs (2 * R + 1)) m wz HQ3.out.1 HH.out.2.2.2.2.2.1 (HQ3.out.2.2.2.below b) (HH.out.2.1.below (bNext HB3.out b)) (byt_digs _) HH.out.2.2.2.1 (by omega) hln (by rw [valI_digs]; exact hle))
                rw [valI_digs] at HMN
                clear hC hlt hle hln
                generalize cmpI (2 * R + 1) (valI m) = C at *
                go_wp2_with fail
                refine HCM.out.mono ?_
                clear HCM
                rintro e w4 ⟨rfl, b4⟩
                have HB34 := Lib.hid b4
                have HB4 := Lib.hid (bNext HB3.out b4)
                have HR4 : Hid (Row w4 g 5 (o.map (Value.int .u8))) := (b4.block _ HR3.out.lt).trans HR3.out
                clear b4
                go_wp2_with fail
                refine (HMN.out w4 HB34.out).mono ?_
                clear HMN
                rintro e w5 ⟨a5, k5, c5, rfl, hq5, hnb, b5⟩
                have HD5 : Hid (∀ x, a5 = some x → x.block ≠ g) := fun x hx => by have h1 := hnb x hx; have h2 := HR4.out.lt; omega
                clear hnb
                have HB5 := Lib.hid (bNext HB4.out b5)
                have HQ5 := Lib.hid hq5
                have HR5 : Hid (Row w5 g 5 (o.map (Value.int .u8))) := (b5.block _ HR4.out.lt).trans HR4.out
                have hol : i / 8 < o.length := by rw [hout.out.1]; omega
                have hcell := HR5.out.cell (i := i / 8) (getD_map8 hol)
                have hf := HR5.out.free (i / 8)
                have hoe : o.getD (i / 8) 0 = ((dg o (i / 8) : Nat) : Int) := by
                  have := byte_at hout.out.2.1 (i / 8)
                  unfold dg
                  rw [List.getD_eq_getElem?_getD]; omega
                rw [hoe] at hcell
                have hx0 := dg_le hout.out.2.1 (i / 8)
                have HLZ := Lib.hid (low_zero hout.out.2.1 hol hout.out.2.2)
                have HVS := Lib.hid (val_or hout.out.2.1 hol hout.out.2.2)
                obtain ⟨x, hx⟩ : ∃ x, x = dg o (i / 8) := ⟨_, rfl⟩
                rw [← hx] at hcell hx0 HLZ HVS
                have hor := or8 hx0 hm8 HLZ.out
                have hxb : x + 2 ^ (i % 8) ≤ 255 := or8_le hx0 hm8 HLZ.out
                have HXB := Lib.hid hxb
                have HOL := Lib.hid hol
                clear hq5 b5 hoe hx hge hge2 hxb hol
                go_wp2
                go_region
                go_wp2
                go_roundw
                case rel =>
                  have U : Upd [g] w5 (w5.setCell ⟨g, i / 8, none⟩ (.int .u8 ((x : Int) + 2 ^ (i % 8)))).drew := ((Upd.refl [g] w5).setCell (p := ⟨g, i / 8, none⟩) (by simp) _).drew
                  refine ⟨i, o.set (i / 8) ((x + 2 ^ (i % 8) : Nat) : Int), a5, k5, c5, 2 * R + 1 - valI m, 2 * Q + 1, by omega, rfl, by go_num, ?_, ⟨by rw [List.length_set]; exact hout.out.1, byt_set hout.out.2.1 _ ⟨Int.natCast_nonneg _, Int.ofNat_le.2 HXB.out⟩, HVS.out⟩, ?_, HD5.out, HDB2.out, U.below HB5.out.size (fun k hk => by simp at hk; have := HG.out; omega) |> HB5.out.trans⟩
                  · show Row _ _ _ _
                    rw [show (x : Int) + 2 ^ (i % 8) = ((x + 2 ^ (i % 8) : Nat) : Int) from by simp]
                    exact row_put HR5.out (i / 8) _
                  · exact ⟨HQ5.out.1, HQ5.out.2.1, HQ5.out.2.2.1, U.reads HQ5.out.2.2.2 (fun x hx => by simpa using HD5.out x hx)⟩
                case measure => simp [intOf] <;> omega

end Go.Proofs.Ytdafncaehjipbaa
