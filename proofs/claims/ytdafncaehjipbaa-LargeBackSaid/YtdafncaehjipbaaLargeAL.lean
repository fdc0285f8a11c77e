/-
  The law LargeBack. (Written by lbackgen.py.)
-/
import Derived.Test.YtdafncaehjipbaaLargeAI
namespace Go.Proofs.Ytdafncaehjipbaa
open Go.RowKit
set_option linter.unusedVariables false
set_option maxHeartbeats 8000000
set_option maxRecDepth 20000

/-- Letters as a text's bytes. -/
def asInts (l : List Nat) : List Int := l.map (fun (c : Nat) => (c : Int))
theorem lets_str {l : List Nat} (h : ∀ c ∈ l, c ≤ 255) : lets (str (asInts l)) = l := by
  unfold lets str asInts
  simp only [List.map_map]
  conv => rhs; rw [← List.map_id l]
  apply List.map_congr_left
  intro c hc
  have := h c hc
  simp only [Function.comp, Int.toNat_natCast, id]
  rw [UInt8.toNat_ofNat', Nat.mod_eq_of_lt (by omega)]
theorem str_lets (s : ByteArray) : str (asInts (lets s)) = s := by
  apply ByteArray.ext
  unfold lets str asInts
  simp only [List.map_map]
  have : (fun b : UInt8 => b) = (fun n : Int => UInt8.ofNat n.toNat) ∘ (fun c : Nat => (c : Int)) ∘ UInt8.toNat := by
    funext b
    simp [Function.comp]
  rw [← this]
  simp
def decN (N : Nat) : List Nat := (dec N).reverse.map Int.toNat
theorem dec_lets : ∀ (k : Nat) {N : Nat}, N ≤ k → decN N = (if N < 10 then [48 + N] else decN (N / 10) ++ [48 + N % 10]) ∧ asInts (decN N) = (dec N).reverse := by
  intro k
  induction k with
  | zero =>
    intro N h
    have : N = 0 := by omega
    subst this
    unfold decN
    rw [dec_small (by omega)]
    exact ⟨rfl, rfl⟩
  | succ k ih =>
    intro N h
    by_cases h1 : N < 10
    · unfold decN
      rw [dec_small h1, if_pos h1]
      exact ⟨by simp; omega, by simp [asInts]; omega⟩
    · have h2 := (ih (N := N / 10) (by omega)).2
      rw [if_neg h1]
      unfold decN at h2 ⊢
      rw [dec_big h1, List.reverse_cons, List.map_append]
      refine ⟨by simp; omega, ?_⟩
      unfold asInts at h2 ⊢
      rw [List.map_append, h2]
      simp
      omega
theorem decN_eq (N : Nat) : decN N = (if N < 10 then [48 + N] else decN (N / 10) ++ [48 + N % 10]) := (dec_lets N (Nat.le_refl _)).1
theorem decN_ints (N : Nat) : asInts (decN N) = (dec N).reverse := (dec_lets N (Nat.le_refl _)).2
theorem decN_small {N : Nat} (h : N < 10) : decN N = [48 + N] := by rw [decN_eq, if_pos h]
theorem decN_big {N : Nat} (h : ¬ N < 10) : decN N = decN (N / 10) ++ [48 + N % 10] := by rw [decN_eq, if_neg h]
theorem decN_all : ∀ (k : Nat) {N : Nat}, N ≤ k → (∀ c ∈ decN N, isDig c = true) ∧ numS (decN N) = N ∧ decN N ≠ [] ∧ ((decN N).head? = some 48 → N = 0) := by
  intro k
  induction k with
  | zero =>
    intro N h
    have : N = 0 := by omega
    subst this
    rw [decN_small (by omega)]
    exact ⟨by decide, by decide, by decide, fun _ => rfl⟩
  | succ k ih =>
    intro N h
    by_cases h1 : N < 10
    · rw [decN_small h1]
      refine ⟨fun c hc => ?_, by simp [numS], by simp, fun h2 => by simp at h2; omega⟩
      simp only [List.mem_singleton] at hc
      subst hc
      exact decide_eq_true ⟨by omega, by omega⟩
    · obtain ⟨i1, i2, i3, i4⟩ := ih (N := N / 10) (by omega)
      rw [decN_big h1]
      refine ⟨fun c hc => ?_, by rw [numS_snoc, i2]; omega, by simp, fun h2 => ?_⟩
      · rcases List.mem_append.1 hc with hc | hc
        · exact i1 c hc
        · simp only [List.mem_singleton] at hc
          subst hc
          exact decide_eq_true ⟨by omega, by omega⟩
      · rw [List.head?_append] at h2
        cases hh : (decN (N / 10)).head? with
        | none => exact absurd (List.head?_eq_none_iff.1 hh) i3
        | some x =>
          rw [hh] at h2
          simp only [Option.some_or, Option.some.injEq] at h2
          subst h2
          have := i4 hh
          omega
theorem decN_read (N : Nat) : readOK (decN N) = true := by
  obtain ⟨h1, h2, h3, h4⟩ := decN_all N (Nat.le_refl _)
  refine readOK_yes h3 h1 ?_
  rintro ⟨h5, h6⟩
  have := h4 h5
  rw [decN_small (by omega)] at h6
  simp at h6
theorem readOK_parts {l : List Nat} (h : readOK l = true) : l ≠ [] ∧ (∀ c ∈ l, isDig c = true) ∧ ¬ (l.head? = some 48 ∧ 1 < l.length) := by
  unfold readOK at h
  simp only [Bool.and_eq_true, Bool.not_eq_true', Bool.and_eq_false_iff, decide_eq_true_eq, decide_eq_false_iff_not, List.all_eq_true] at h
  exact ⟨h.1.1, h.1.2, fun h2 => by rcases h.2 with h3 | h3; exact h3 h2.1; exact h3 h2.2⟩
/-- Digits without a nought ahead are their number's. -/
theorem read_dec : ∀ (k : Nat) {l : List Nat}, l.length = k → l ≠ [] → (∀ c ∈ l, isDig c = true) → ¬ (l.head? = some 48 ∧ 1 < l.length) → decN (numS l) = l ∧ (l.head? ≠ some 48 → 1 ≤ numS l) := by
  intro k
  induction k with
  | zero => intro l hl h0; exact absurd (List.eq_nil_of_length_eq_zero hl) h0
  | succ k ih =>
    intro l hl h0 hd hz
    rcases List.eq_nil_or_concat l with rfl | ⟨q, x, rfl⟩
    · exact absurd rfl h0
    · rw [List.concat_eq_append] at *
      have hx := of_decide_eq_true (hd x (by simp))
      by_cases hq : q = []
      · subst hq
        simp only [List.nil_append] at *
        have hn : numS [x] = x - 48 := by simp [numS]
        rw [hn, decN_small (by omega)]
        refine ⟨by congr 1; omega, fun h => ?_⟩
        simp at h
        omega
      · have hhd : q.head? ≠ some 48 := by
          intro h
          refine hz ⟨?_, ?_⟩
          · rw [List.head?_append, h]; rfl
          · have : q.length ≠ 0 := fun h => hq (List.eq_nil_of_length_eq_zero h)
            simp; omega
        obtain ⟨i1, i2⟩ := ih (l := q) (by simpa using hl) hq (fun c hc => hd c (by simp [hc])) (fun h => hhd h.1)
        have h1 := i2 hhd
        rw [numS_snoc, decN_big (by omega), show (10 * numS q + (x - 48)) / 10 = numS q from by omega, i1, show 48 + (10 * numS q + (x - 48)) % 10 = x from by omega]
        exact ⟨rfl, fun _ => by omega⟩
theorem isDig_le {l : List Nat} (h : ∀ c ∈ l, isDig c = true) : ∀ c ∈ l, c ≤ 255 := fun c hc => by
  have := of_decide_eq_true (h c hc)
  omega
/-- A number's text is read as the number. -/
theorem text_read {l : List Int} (hr : rightB l = true) : readE (str (textL l)) = 0 ∧ numS (lets (str (textL l))) = valI l := by
  unfold textL
  rw [if_pos hr, ← decN_ints]
  have h := decN_all (valI l) (Nat.le_refl _)
  rw [lets_str (isDig_le h.1)]
  exact ⟨by unfold readE; rw [lets_str (isDig_le h.1), decN_read]; rfl, h.2.1⟩
/-- A text that is read is the number's text. -/
theorem read_text {s : ByteArray} (h : readE s = 0) (hl : s.size ≤ 300) : str (textL (digs (numS (lets s)))) = s := by
  have hok : readOK (lets s) = true := by
    unfold readE at h
    cases hr : readOK (lets s) with
    | true => rfl
    | false => rw [hr] at h; simp at h
  obtain ⟨h1, h2, h3⟩ := readOK_parts hok
  have hlb := num_LB h2 (by rw [lets_len]; exact hl)
  unfold textL
  rw [if_pos (hlb.right (by omega)), valI_digs, ← decN_ints, (read_dec _ rfl h1 h2 h3).1, str_lets]
theorem text_size {l : List Int} (hb : Byt l) (h : l.length ≤ 60) : (str (textL l)).size ≤ 300 := by
  rw [str_size]
  unfold textL
  split
  · rw [List.length_reverse]
    have := dec_len256 (valI_lt hb)
    omega
  · simp

theorem law_LargeBack (a0 : Option Addr) (len0 cap0 : Nat) (z0 : List Int) (st : ByteArray) (x y : Int) (w : World) (w0 : Came .u8 w a0 len0 cap0 z0) (w1 : st.size ≤ maxLen) (w2 : (Lit.int .u32 x).wf = true) (w3 : (Lit.int .u32 y).wf = true) :
    Calls Try.prog 12 #[.slice a0 len0 cap0, .string st, .int .u32 x, .int .u32 y] w fun e w' => e = .returned (.bool true) ∧ Below w.heap.size w w' := by
  obtain ⟨l, hl⟩ := w0.sl
  have hx := bounds_u32 w2
  have hy := bounds_u32 w3
  clear w0 w2 w3
  unfold maxLen at w1
  by_cases hblen0 : len0 > 60
  · have qllen0 : ((60 : Int) < len0) = True := eq_true (by omega)
    have qglen0 : ((len0 : Int) > 60) = True := eq_true (by omega)
    clear hl
    go_enter Try.func12, Try.ntmps12
    go_wp2_with fail
    refine (c_known13 _).mono ?_
    rintro e w2 ⟨rfl, b2⟩
    have HB2 := Lib.hid b2
    clear b2
    go_wp2
    go_ret
    exact ⟨rfl, HB2.out⟩
  · have qllen0 : ((60 : Int) < len0) = False := eq_false (by omega)
    have qglen0 : ((len0 : Int) > 60) = False := eq_false (by omega)
    by_cases hbsz : st.size > 120
    · have qlsz : ((120 : Int) < st.size) = True := eq_true (by omega)
      have qgsz : ((st.size : Int) > 120) = True := eq_true (by omega)
      clear hl
      go_enter Try.func12, Try.ntmps12
      go_wp2_with fail
      refine (c_known13 _).mono ?_
      rintro e w2 ⟨rfl, b2⟩
      have HB2 := Lib.hid b2
      clear b2
      go_wp2
      go_ret
      exact ⟨rfl, HB2.out⟩
    · have qlsz : ((120 : Int) < st.size) = False := eq_false (by omega)
      have qgsz : ((st.size : Int) > 120) = False := eq_false (by omega)
      have HL := Lib.hid hl
      have HR := Lib.hid (s_Right hl (by omega))
      obtain ⟨X, rfl⟩ := Int.eq_ofNat_of_zero_le hx.1
      obtain ⟨Y, rfl⟩ := Int.eq_ofNat_of_zero_le hy.1
      have hX : X ≤ 4294967295 := by omega
      have hY : Y ≤ 4294967295 := by omega
      have HLX := Lib.hid (LB.of (show X < 256 ^ 4 by omega))
      have HLY := Lib.hid (LB.of (show Y < 256 ^ 4 by omega))
      have HIS := Lib.hid (intO_digs (show X + Y < 9223372036854775808 by omega)).1
      obtain ⟨IV, hIV⟩ : ∃ E, E = (if intO (digs (X * Y)) = true then X * Y else 0) := ⟨_, rfl⟩
      have HIV := Lib.hid hIV
      obtain ⟨IB, hIB⟩ : ∃ E, E = intO (digs (X * Y)) := ⟨_, rfl⟩
      have HIB := Lib.hid hIB
      have hsum : (((X + Y : Nat) : Int) == (X : Int) + (Y : Int)) = true := by simp
      have hsum2 : (((X : Int) + (Y : Int)) == (X : Int) + (Y : Int)) = true := by simp
      have hle : X * Y < 9223372036854775808 → IB = true ∧ IV = X * Y := fun h => by
        have := (intO_digs h).1
        rw [hIB, hIV, this]; exact ⟨rfl, rfl⟩
      clear hl hIV hIB hx hy
      by_cases hf : X < 2147483648
      · have hm : X * Y < 9223372036854775808 := by
          have : X * Y ≤ 2147483647 * 4294967295 := Nat.mul_le_mul (by omega) hY
          omega
        obtain ⟨e1, e2⟩ := hle hm
        obtain ⟨P, hP⟩ : ∃ P, P = X * Y := ⟨_, rfl⟩
        have hpi : (X : Int) * (Y : Int) = (P : Int) := by rw [hP]; simp
        rw [e1] at HIB
        have HIV := Lib.hid ((hP.trans e2.symm).trans HIV.out)
        have qf1 : ((X : Int) < 2147483648) = True := eq_true (by omega)
        have hPb : P ≤ 9223372036854775807 := by omega
        have hpe : ((P : Int) == (P : Int)) = true := by simp
        have HPX := Lib.hid hP
        clear hle e1 e2 hm hP hf
        cases hr : rightB l with
        | false =>
          rw [hr] at HR
          clear hr
          by_cases hE : readE st = 0
          · have HST := Lib.hid (read_text hE (by omega))
            have HSE := Lib.hid hE
            have HNB := Lib.hid (num_LB (readOK_parts (show readOK (lets st) = true from by
              unfold readE at hE
              cases hr : readOK (lets st) with
              | true => rfl
              | false => rw [hr] at hE; simp at hE)).2.1 (by rw [lets_len]; omega))
            have gst : (st.toList == st.toList) = true := by simp
            clear hE
            go_enter Try.func12, Try.ntmps12
            have HB0 := Lib.hid (Below.refl w.heap.size w)
            go_wp2_with fail
            refine (HR.out).mono ?_
            rintro e wz1 ⟨rfl, rfl⟩
            go_wp2_with fail
            refine (c_Read st w (by omega)).mono ?_
            rw [HSE.out]
            rintro e wy2 ⟨a2, k2, c2, rfl, hn2, b2⟩
            have hb2 : Below w.heap.size w wy2 := b2
            have HL := Lib.hid (HL.out.below hb2)
            have HB2 := Lib.hid (bNext HB0.out hb2)
            rw [if_pos rfl] at hn2
            have HX2 := Lib.hid hn2.sl
            have hk2 : k2 ≤ 150 := by rw [hn2.1]; exact HNB.out
            clear b2 hb2 hn2
            go_wp2_with fail
            refine (s_Text HX2.out (by omega)).mono ?_
            rw [HST.out]
            rintro e wy3 ⟨rfl, b3⟩
            have hb3 : Below wy2.heap.size wy2 wy3 := b3
            have HL := Lib.hid (HL.out.below hb3)
            have HX2 := Lib.hid (HX2.out.below hb3)
            have HB3 := Lib.hid (bNext HB2.out hb3)
            clear b3 hb3 
            go_wp2_with fail
            refine (c_Of X wy3 (by omega)).mono ?_
            rintro e wy4 ⟨a4, k4, c4, rfl, hn4, b4⟩
            have hb4 : Below wy3.heap.size wy3 wy4 := b4
            have HL := Lib.hid (HL.out.below hb4)
            have HX2 := Lib.hid (HX2.out.below hb4)
            have HB4 := Lib.hid (bNext HB3.out hb4)
            rw [if_pos rfl] at hn4
            have HX4 := Lib.hid hn4.sl
            clear b4 hb4 hn4
            go_wp2_with fail
            refine (c_Of Y wy4 (by omega)).mono ?_
            rintro e wy5 ⟨a5, k5, c5, rfl, hn5, b5⟩
            have hb5 : Below wy4.heap.size wy4 wy5 := b5
            have HL := Lib.hid (HL.out.below hb5)
            have HX2 := Lib.hid (HX2.out.below hb5)
            have HX4 := Lib.hid (HX4.out.below hb5)
            have HB5 := Lib.hid (bNext HB4.out hb5)
            rw [if_pos rfl] at hn5
            have HX5 := Lib.hid hn5.sl
            clear b5 hb5 hn5
            go_wp2_with fail
            refine (n_Mul HX4.out HX5.out HLX.out HLY.out (by omega)).mono ?_
            rintro e wy6 ⟨a6, k6, c6, rfl, hn6, b6⟩
            have hb6 : Below wy5.heap.size wy5 wy6 := b6
            have HL := Lib.hid (HL.out.below hb6)
            have HX2 := Lib.hid (HX2.out.below hb6)
            have HX4 := Lib.hid (HX4.out.below hb6)
            have HX5 := Lib.hid (HX5.out.below hb6)
            have HB6 := Lib.hid (bNext HB5.out hb6)
            rw [if_pos rfl] at hn6
            have HX6 := Lib.hid hn6.sl
            have hk6 : k6 ≤ 100 := by rw [hn6.1]; exact Nat.le_trans (HLX.out.mul HLY.out) (by omega)
            clear b6 hb6 hn6
            go_wp2_with fail
            refine (c_Int _ _ _ (digs (X * Y)) wy6 HX6.out (by omega)).mono ?_
            rw [valI_digs, ← HIV.out, ← HIB.out]
            rintro e wy7 ⟨rfl, b7⟩
            have hb7 : Below wy6.heap.size wy6 wy7 := b7
            have HL := Lib.hid (HL.out.below hb7)
            have HX2 := Lib.hid (HX2.out.below hb7)
            have HX4 := Lib.hid (HX4.out.below hb7)
            have HX5 := Lib.hid (HX5.out.below hb7)
            have HX6 := Lib.hid (HX6.out.below hb7)
            have HB7 := Lib.hid (bNext HB6.out hb7)
            clear b7 hb7 
            go_wp2_with fail
            refine (n_Add1 (HX4.out.alloc _) (HX5.out.alloc _) (Reads.madeAt rfl) (HLX.out.le (by omega)) (HLY.out.le (by omega))).mono ?_
            rintro e wy8 ⟨a8, k8, c8, rfl, hn8, b8⟩
            have hb8 : Below wy7.heap.size wy7 wy8 := ((Below.refl _ wy7).alloc (Nat.le_refl _) _).trans (b8.mono (by simp))
            have HL := Lib.hid (HL.out.below hb8)
            have HX2 := Lib.hid (HX2.out.below hb8)
            have HX4 := Lib.hid (HX4.out.below hb8)
            have HX5 := Lib.hid (HX5.out.below hb8)
            have HX6 := Lib.hid (HX6.out.below hb8)
            have HB8 := Lib.hid (bNext HB7.out hb8)
            rw [if_pos rfl] at hn8
            have HX8 := Lib.hid hn8.sl
            have hk8 : k8 ≤ 100 := by rw [hn8.1]; exact Nat.le_trans (HLX.out.add HLY.out) (by omega)
            clear b8 hb8 hn8
            go_wp2_with fail
            refine (c_Int _ _ _ (digs (X + Y)) wy8 HX8.out (by omega)).mono ?_
            rw [HIS.out, if_pos rfl, valI_digs]
            rintro e wy9 ⟨rfl, b9⟩
            have hb9 : Below wy8.heap.size wy8 wy9 := b9
            have HL := Lib.hid (HL.out.below hb9)
            have HX2 := Lib.hid (HX2.out.below hb9)
            have HX4 := Lib.hid (HX4.out.below hb9)
            have HX5 := Lib.hid (HX5.out.below hb9)
            have HX6 := Lib.hid (HX6.out.below hb9)
            have HX8 := Lib.hid (HX8.out.below hb9)
            have HB9 := Lib.hid (bNext HB8.out hb9)
            clear b9 hb9 
            go_wp2_with fail
            refine (c_known13 _).mono ?_
            rintro e wy10 ⟨rfl, b10⟩
            have hb10 : Below wy9.heap.size wy9 wy10 := b10
            have HL := Lib.hid (HL.out.below hb10)
            have HX2 := Lib.hid (HX2.out.below hb10)
            have HX4 := Lib.hid (HX4.out.below hb10)
            have HX5 := Lib.hid (HX5.out.below hb10)
            have HX6 := Lib.hid (HX6.out.below hb10)
            have HX8 := Lib.hid (HX8.out.below hb10)
            have HB10 := Lib.hid (bNext HB9.out hb10)
            clear b10 hb10 
            go_wp2
            go_ret
            exact ⟨rfl, HB10.out⟩
          · have HSE := Lib.hid (show readE st = 5 from by
              unfold readE at hE ⊢
              cases hr : readOK (lets st) with
              | true => rw [hr] at hE; simp at hE
              | false => rfl)
            clear hE
            go_enter Try.func12, Try.ntmps12
            have HB0 := Lib.hid (Below.refl w.heap.size w)
            go_wp2_with fail
            refine (HR.out).mono ?_
            rintro e wz1 ⟨rfl, rfl⟩
            go_wp2_with fail
            refine (c_Read st w (by omega)).mono ?_
            rw [HSE.out]
            rintro e wy2 ⟨a2, k2, c2, rfl, hn2, b2⟩
            have hb2 : Below w.heap.size w wy2 := b2
            have HL := Lib.hid (HL.out.below hb2)
            have HB2 := Lib.hid (bNext HB0.out hb2)
            clear b2 hb2 hn2
            go_wp2_with fail
            refine (c_Of X wy2 (by omega)).mono ?_
            rintro e wy3 ⟨a3, k3, c3, rfl, hn3, b3⟩
            have hb3 : Below wy2.heap.size wy2 wy3 := b3
            have HL := Lib.hid (HL.out.below hb3)
            have HB3 := Lib.hid (bNext HB2.out hb3)
            rw [if_pos rfl] at hn3
            have HX3 := Lib.hid hn3.sl
            clear b3 hb3 hn3
            go_wp2_with fail
            refine (c_Of Y wy3 (by omega)).mono ?_
            rintro e wy4 ⟨a4, k4, c4, rfl, hn4, b4⟩
            have hb4 : Below wy3.heap.size wy3 wy4 := b4
            have HL := Lib.hid (HL.out.below hb4)
            have HX3 := Lib.hid (HX3.out.below hb4)
            have HB4 := Lib.hid (bNext HB3.out hb4)
            rw [if_pos rfl] at hn4
            have HX4 := Lib.hid hn4.sl
            clear b4 hb4 hn4
            go_wp2_with fail
            refine (n_Mul HX3.out HX4.out HLX.out HLY.out (by omega)).mono ?_
            rintro e wy5 ⟨a5, k5, c5, rfl, hn5, b5⟩
            have hb5 : Below wy4.heap.size wy4 wy5 := b5
            have HL := Lib.hid (HL.out.below hb5)
            have HX3 := Lib.hid (HX3.out.below hb5)
            have HX4 := Lib.hid (HX4.out.below hb5)
            have HB5 := Lib.hid (bNext HB4.out hb5)
            rw [if_pos rfl] at hn5
            have HX5 := Lib.hid hn5.sl
            have hk5 : k5 ≤ 100 := by rw [hn5.1]; exact Nat.le_trans (HLX.out.mul HLY.out) (by omega)
            clear b5 hb5 hn5
            go_wp2_with fail
            refine (c_Int _ _ _ (digs (X * Y)) wy5 HX5.out (by omega)).mono ?_
            rw [valI_digs, ← HIV.out, ← HIB.out]
            rintro e wy6 ⟨rfl, b6⟩
            have hb6 : Below wy5.heap.size wy5 wy6 := b6
            have HL := Lib.hid (HL.out.below hb6)
            have HX3 := Lib.hid (HX3.out.below hb6)
            have HX4 := Lib.hid (HX4.out.below hb6)
            have HX5 := Lib.hid (HX5.out.below hb6)
            have HB6 := Lib.hid (bNext HB5.out hb6)
            clear b6 hb6 
            go_wp2_with fail
            refine (n_Add1 (HX3.out.alloc _) (HX4.out.alloc _) (Reads.madeAt rfl) (HLX.out.le (by omega)) (HLY.out.le (by omega))).mono ?_
            rintro e wy7 ⟨a7, k7, c7, rfl, hn7, b7⟩
            have hb7 : Below wy6.heap.size wy6 wy7 := ((Below.refl _ wy6).alloc (Nat.le_refl _) _).trans (b7.mono (by simp))
            have HL := Lib.hid (HL.out.below hb7)
            have HX3 := Lib.hid (HX3.out.below hb7)
            have HX4 := Lib.hid (HX4.out.below hb7)
            have HX5 := Lib.hid (HX5.out.below hb7)
            have HB7 := Lib.hid (bNext HB6.out hb7)
            rw [if_pos rfl] at hn7
            have HX7 := Lib.hid hn7.sl
            have hk7 : k7 ≤ 100 := by rw [hn7.1]; exact Nat.le_trans (HLX.out.add HLY.out) (by omega)
            clear b7 hb7 hn7
            go_wp2_with fail
            refine (c_Int _ _ _ (digs (X + Y)) wy7 HX7.out (by omega)).mono ?_
            rw [HIS.out, if_pos rfl, valI_digs]
            rintro e wy8 ⟨rfl, b8⟩
            have hb8 : Below wy7.heap.size wy7 wy8 := b8
            have HL := Lib.hid (HL.out.below hb8)
            have HX3 := Lib.hid (HX3.out.below hb8)
            have HX4 := Lib.hid (HX4.out.below hb8)
            have HX5 := Lib.hid (HX5.out.below hb8)
            have HX7 := Lib.hid (HX7.out.below hb8)
            have HB8 := Lib.hid (bNext HB7.out hb8)
            clear b8 hb8 
            go_wp2_with fail
            refine (c_known13 _).mono ?_
            rintro e wy9 ⟨rfl, b9⟩
            have hb9 : Below wy8.heap.size wy8 wy9 := b9
            have HL := Lib.hid (HL.out.below hb9)
            have HX3 := Lib.hid (HX3.out.below hb9)
            have HX4 := Lib.hid (HX4.out.below hb9)
            have HX5 := Lib.hid (HX5.out.below hb9)
            have HX7 := Lib.hid (HX7.out.below hb9)
            have HB9 := Lib.hid (bNext HB8.out hb9)
            clear b9 hb9 
            go_wp2
            go_ret
            exact ⟨rfl, HB9.out⟩
        | true =>
          rw [hr] at HR
          have htr := text_read hr
          obtain ⟨TT, hTT⟩ : ∃ E, E = str (textL l) := ⟨_, rfl⟩
          have hsz : TT.size ≤ 300 := by rw [hTT]; exact text_size HL.out.byt (by have := HL.out.len; omega)
          rw [← hTT] at htr
          have HTT := Lib.hid hTT
          have HTE := Lib.hid htr.1
          have HTN := Lib.hid htr.2
          have HLD := Lib.hid (right_digs HL.out.byt hr).1
          clear htr hTT
          clear hr
          by_cases hE : readE st = 0
          · have HST := Lib.hid (read_text hE (by omega))
            have HSE := Lib.hid hE
            have HNB := Lib.hid (num_LB (readOK_parts (show readOK (lets st) = true from by
              unfold readE at hE
              cases hr : readOK (lets st) with
              | true => rfl
              | false => rw [hr] at hE; simp at hE)).2.1 (by rw [lets_len]; omega))
            have gst : (st.toList == st.toList) = true := by simp
            clear hE
            go_enter Try.func12, Try.ntmps12
            have HB0 := Lib.hid (Below.refl w.heap.size w)
            go_wp2_with fail
            refine (HR.out).mono ?_
            rintro e wz1 ⟨rfl, rfl⟩
            go_wp2_with fail
            refine (s_Text HL.out (by omega)).mono ?_
            rw [← HTT.out]
            rintro e wy2 ⟨rfl, b2⟩
            have hb2 : Below w.heap.size w wy2 := b2
            have HL := Lib.hid (HL.out.below hb2)
            have HB2 := Lib.hid (bNext HB0.out hb2)
            clear b2 hb2 
            go_wp2_with fail
            refine (c_Read TT wy2 (by omega)).mono ?_
            rw [HTE.out, HTN.out]
            rintro e wy3 ⟨a3, k3, c3, rfl, hn3, b3⟩
            have hb3 : Below wy2.heap.size wy2 wy3 := b3
            have HL := Lib.hid (HL.out.below hb3)
            have HB3 := Lib.hid (bNext HB2.out hb3)
            rw [if_pos rfl] at hn3
            have HX3 := Lib.hid hn3.sl
            clear b3 hb3 hn3
            go_wp2_with fail
            refine (s_Same HL.out HX3.out).mono ?_
            rintro e wz4 ⟨rfl, rfl⟩
            rw [decide_eq_true HLD.out.symm]
            go_wp2_with fail
            refine (c_Read st wy3 (by omega)).mono ?_
            rw [HSE.out]
            rintro e wy5 ⟨a5, k5, c5, rfl, hn5, b5⟩
            have hb5 : Below wy3.heap.size wy3 wy5 := b5
            have HL := Lib.hid (HL.out.below hb5)
            have HX3 := Lib.hid (HX3.out.below hb5)
            have HB5 := Lib.hid (bNext HB3.out hb5)
            rw [if_pos rfl] at hn5
            have HX5 := Lib.hid hn5.sl
            have hk5 : k5 ≤ 150 := by rw [hn5.1]; exact HNB.out
            clear b5 hb5 hn5
            go_wp2_with fail
            refine (s_Text HX5.out (by omega)).mono ?_
            rw [HST.out]
            rintro e wy6 ⟨rfl, b6⟩
            have hb6 : Below wy5.heap.size wy5 wy6 := b6
            have HL := Lib.hid (HL.out.below hb6)
            have HX3 := Lib.hid (HX3.out.below hb6)
            have HX5 := Lib.hid (HX5.out.below hb6)
            have HB6 := Lib.hid (bNext HB5.out hb6)
            clear b6 hb6 
            go_wp2_with fail
            refine (c_Of X wy6 (by omega)).mono ?_
            rintro e wy7 ⟨a7, k7, c7, rfl, hn7, b7⟩
            have hb7 : Below wy6.heap.size wy6 wy7 := b7
            have HL := Lib.hid (HL.out.below hb7)
            have HX3 := Lib.hid (HX3.out.below hb7)
            have HX5 := Lib.hid (HX5.out.below hb7)
            have HB7 := Lib.hid (bNext HB6.out hb7)
            rw [if_pos rfl] at hn7
            have HX7 := Lib.hid hn7.sl
            clear b7 hb7 hn7
            go_wp2_with fail
            refine (c_Of Y wy7 (by omega)).mono ?_
            rintro e wy8 ⟨a8, k8, c8, rfl, hn8, b8⟩
            have hb8 : Below wy7.heap.size wy7 wy8 := b8
            have HL := Lib.hid (HL.out.below hb8)
            have HX3 := Lib.hid (HX3.out.below hb8)
            have HX5 := Lib.hid (HX5.out.below hb8)
            have HX7 := Lib.hid (HX7.out.below hb8)
            have HB8 := Lib.hid (bNext HB7.out hb8)
            rw [if_pos rfl] at hn8
            have HX8 := Lib.hid hn8.sl
            clear b8 hb8 hn8
            go_wp2_with fail
            refine (n_Mul HX7.out HX8.out HLX.out HLY.out (by omega)).mono ?_
            rintro e wy9 ⟨a9, k9, c9, rfl, hn9, b9⟩
            have hb9 : Below wy8.heap.size wy8 wy9 := b9
            have HL := Lib.hid (HL.out.below hb9)
            have HX3 := Lib.hid (HX3.out.below hb9)
            have HX5 := Lib.hid (HX5.out.below hb9)
            have HX7 := Lib.hid (HX7.out.below hb9)
            have HX8 := Lib.hid (HX8.out.below hb9)
            have HB9 := Lib.hid (bNext HB8.out hb9)
            rw [if_pos rfl] at hn9
            have HX9 := Lib.hid hn9.sl
            have hk9 : k9 ≤ 100 := by rw [hn9.1]; exact Nat.le_trans (HLX.out.mul HLY.out) (by omega)
            clear b9 hb9 hn9
            go_wp2_with fail
            refine (c_Int _ _ _ (digs (X * Y)) wy9 HX9.out (by omega)).mono ?_
            rw [valI_digs, ← HIV.out, ← HIB.out]
            rintro e wy10 ⟨rfl, b10⟩
            have hb10 : Below wy9.heap.size wy9 wy10 := b10
            have HL := Lib.hid (HL.out.below hb10)
            have HX3 := Lib.hid (HX3.out.below hb10)
            have HX5 := Lib.hid (HX5.out.below hb10)
            have HX7 := Lib.hid (HX7.out.below hb10)
            have HX8 := Lib.hid (HX8.out.below hb10)
            have HX9 := Lib.hid (HX9.out.below hb10)
            have HB10 := Lib.hid (bNext HB9.out hb10)
            clear b10 hb10 
            go_wp2_with fail
            refine (n_Add1 (HX7.out.alloc _) (HX8.out.alloc _) (Reads.madeAt rfl) (HLX.out.le (by omega)) (HLY.out.le (by omega))).mono ?_
            rintro e wy11 ⟨a11, k11, c11, rfl, hn11, b11⟩
            have hb11 : Below wy10.heap.size wy10 wy11 := ((Below.refl _ wy10).alloc (Nat.le_refl _) _).trans (b11.mono (by simp))
            have HL := Lib.hid (HL.out.below hb11)
            have HX3 := Lib.hid (HX3.out.below hb11)
            have HX5 := Lib.hid (HX5.out.below hb11)
            have HX7 := Lib.hid (HX7.out.below hb11)
            have HX8 := Lib.hid (HX8.out.below hb11)
            have HX9 := Lib.hid (HX9.out.below hb11)
            have HB11 := Lib.hid (bNext HB10.out hb11)
            rw [if_pos rfl] at hn11
            have HX11 := Lib.hid hn11.sl
            have hk11 : k11 ≤ 100 := by rw [hn11.1]; exact Nat.le_trans (HLX.out.add HLY.out) (by omega)
            clear b11 hb11 hn11
            go_wp2_with fail
            refine (c_Int _ _ _ (digs (X + Y)) wy11 HX11.out (by omega)).mono ?_
            rw [HIS.out, if_pos rfl, valI_digs]
            rintro e wy12 ⟨rfl, b12⟩
            have hb12 : Below wy11.heap.size wy11 wy12 := b12
            have HL := Lib.hid (HL.out.below hb12)
            have HX3 := Lib.hid (HX3.out.below hb12)
            have HX5 := Lib.hid (HX5.out.below hb12)
            have HX7 := Lib.hid (HX7.out.below hb12)
            have HX8 := Lib.hid (HX8.out.below hb12)
            have HX9 := Lib.hid (HX9.out.below hb12)
            have HX11 := Lib.hid (HX11.out.below hb12)
            have HB12 := Lib.hid (bNext HB11.out hb12)
            clear b12 hb12 
            go_wp2_with fail
            refine (c_known13 _).mono ?_
            rintro e wy13 ⟨rfl, b13⟩
            have hb13 : Below wy12.heap.size wy12 wy13 := b13
            have HL := Lib.hid (HL.out.below hb13)
            have HX3 := Lib.hid (HX3.out.below hb13)
            have HX5 := Lib.hid (HX5.out.below hb13)
            have HX7 := Lib.hid (HX7.out.below hb13)
            have HX8 := Lib.hid (HX8.out.below hb13)
            have HX9 := Lib.hid (HX9.out.below hb13)
            have HX11 := Lib.hid (HX11.out.below hb13)
            have HB13 := Lib.hid (bNext HB12.out hb13)
            clear b13 hb13 
            go_wp2
            go_ret
            exact ⟨rfl, HB13.out⟩
          · have HSE := Lib.hid (show readE st = 5 from by
              unfold readE at hE ⊢
              cases hr : readOK (lets st) with
              | true => rw [hr] at hE; simp at hE
              | false => rfl)
            clear hE
            go_enter Try.func12, Try.ntmps12
            have HB0 := Lib.hid (Below.refl w.heap.size w)
            go_wp2_with fail
            refine (HR.out).mono ?_
            rintro e wz1 ⟨rfl, rfl⟩
            go_wp2_with fail
            refine (s_Text HL.out (by omega)).mono ?_
            rw [← HTT.out]
            rintro e wy2 ⟨rfl, b2⟩
            have hb2 : Below w.heap.size w wy2 := b2
            have HL := Lib.hid (HL.out.below hb2)
            have HB2 := Lib.hid (bNext HB0.out hb2)
            clear b2 hb2 
            go_wp2_with fail
            refine (c_Read TT wy2 (by omega)).mono ?_
            rw [HTE.out, HTN.out]
            rintro e wy3 ⟨a3, k3, c3, rfl, hn3, b3⟩
            have hb3 : Below wy2.heap.size wy2 wy3 := b3
            have HL := Lib.hid (HL.out.below hb3)
            have HB3 := Lib.hid (bNext HB2.out hb3)
            rw [if_pos rfl] at hn3
            have HX3 := Lib.hid hn3.sl
            clear b3 hb3 hn3
            go_wp2_with fail
            refine (s_Same HL.out HX3.out).mono ?_
            rintro e wz4 ⟨rfl, rfl⟩
            rw [decide_eq_true HLD.out.symm]
            go_wp2_with fail
            refine (c_Read st wy3 (by omega)).mono ?_
            rw [HSE.out]
            rintro e wy5 ⟨a5, k5, c5, rfl, hn5, b5⟩
            have hb5 : Below wy3.heap.size wy3 wy5 := b5
            have HL := Lib.hid (HL.out.below hb5)
            have HX3 := Lib.hid (HX3.out.below hb5)
            have HB5 := Lib.hid (bNext HB3.out hb5)
            clear b5 hb5 hn5
            go_wp2_with fail
            refine (c_Of X wy5 (by omega)).mono ?_
            rintro e wy6 ⟨a6, k6, c6, rfl, hn6, b6⟩
            have hb6 : Below wy5.heap.size wy5 wy6 := b6
            have HL := Lib.hid (HL.out.below hb6)
            have HX3 := Lib.hid (HX3.out.below hb6)
            have HB6 := Lib.hid (bNext HB5.out hb6)
            rw [if_pos rfl] at hn6
            have HX6 := Lib.hid hn6.sl
            clear b6 hb6 hn6
            go_wp2_with fail
            refine (c_Of Y wy6 (by omega)).mono ?_
            rintro e wy7 ⟨a7, k7, c7, rfl, hn7, b7⟩
            have hb7 : Below wy6.heap.size wy6 wy7 := b7
            have HL := Lib.hid (HL.out.below hb7)
            have HX3 := Lib.hid (HX3.out.below hb7)
            have HX6 := Lib.hid (HX6.out.below hb7)
            have HB7 := Lib.hid (bNext HB6.out hb7)
            rw [if_pos rfl] at hn7
            have HX7 := Lib.hid hn7.sl
            clear b7 hb7 hn7
            go_wp2_with fail
            refine (n_Mul HX6.out HX7.out HLX.out HLY.out (by omega)).mono ?_
            rintro e wy8 ⟨a8, k8, c8, rfl, hn8, b8⟩
            have hb8 : Below wy7.heap.size wy7 wy8 := b8
            have HL := Lib.hid (HL.out.below hb8)
            have HX3 := Lib.hid (HX3.out.below hb8)
            have HX6 := Lib.hid (HX6.out.below hb8)
            have HX7 := Lib.hid (HX7.out.below hb8)
            have HB8 := Lib.hid (bNext HB7.out hb8)
            rw [if_pos rfl] at hn8
            have HX8 := Lib.hid hn8.sl
            have hk8 : k8 ≤ 100 := by rw [hn8.1]; exact Nat.le_trans (HLX.out.mul HLY.out) (by omega)
            clear b8 hb8 hn8
            go_wp2_with fail
            refine (c_Int _ _ _ (digs (X * Y)) wy8 HX8.out (by omega)).mono ?_
            rw [valI_digs, ← HIV.out, ← HIB.out]
            rintro e wy9 ⟨rfl, b9⟩
            have hb9 : Below wy8.heap.size wy8 wy9 := b9
            have HL := Lib.hid (HL.out.below hb9)
            have HX3 := Lib.hid (HX3.out.below hb9)
            have HX6 := Lib.hid (HX6.out.below hb9)
            have HX7 := Lib.hid (HX7.out.below hb9)
            have HX8 := Lib.hid (HX8.out.below hb9)
            have HB9 := Lib.hid (bNext HB8.out hb9)
            clear b9 hb9 
            go_wp2_with fail
            refine (n_Add1 (HX6.out.alloc _) (HX7.out.alloc _) (Reads.madeAt rfl) (HLX.out.le (by omega)) (HLY.out.le (by omega))).mono ?_
            rintro e wy10 ⟨a10, k10, c10, rfl, hn10, b10⟩
            have hb10 : Below wy9.heap.size wy9 wy10 := ((Below.refl _ wy9).alloc (Nat.le_refl _) _).trans (b10.mono (by simp))
            have HL := Lib.hid (HL.out.below hb10)
            have HX3 := Lib.hid (HX3.out.below hb10)
            have HX6 := Lib.hid (HX6.out.below hb10)
            have HX7 := Lib.hid (HX7.out.below hb10)
            have HX8 := Lib.hid (HX8.out.below hb10)
            have HB10 := Lib.hid (bNext HB9.out hb10)
            rw [if_pos rfl] at hn10
            have HX10 := Lib.hid hn10.sl
            have hk10 : k10 ≤ 100 := by rw [hn10.1]; exact Nat.le_trans (HLX.out.add HLY.out) (by omega)
            clear b10 hb10 hn10
            go_wp2_with fail
            refine (c_Int _ _ _ (digs (X + Y)) wy10 HX10.out (by omega)).mono ?_
            rw [HIS.out, if_pos rfl, valI_digs]
            rintro e wy11 ⟨rfl, b11⟩
            have hb11 : Below wy10.heap.size wy10 wy11 := b11
            have HL := Lib.hid (HL.out.below hb11)
            have HX3 := Lib.hid (HX3.out.below hb11)
            have HX6 := Lib.hid (HX6.out.below hb11)
            have HX7 := Lib.hid (HX7.out.below hb11)
            have HX8 := Lib.hid (HX8.out.below hb11)
            have HX10 := Lib.hid (HX10.out.below hb11)
            have HB11 := Lib.hid (bNext HB10.out hb11)
            clear b11 hb11 
            go_wp2_with fail
            refine (c_known13 _).mono ?_
            rintro e wy12 ⟨rfl, b12⟩
            have hb12 : Below wy11.heap.size wy11 wy12 := b12
            have HL := Lib.hid (HL.out.below hb12)
            have HX3 := Lib.hid (HX3.out.below hb12)
            have HX6 := Lib.hid (HX6.out.below hb12)
            have HX7 := Lib.hid (HX7.out.below hb12)
            have HX8 := Lib.hid (HX8.out.below hb12)
            have HX10 := Lib.hid (HX10.out.below hb12)
            have HB12 := Lib.hid (bNext HB11.out hb12)
            clear b12 hb12 
            go_wp2
            go_ret
            exact ⟨rfl, HB12.out⟩
      · have qf1 : ((X : Int) < 2147483648) = False := eq_false (by omega)
        by_cases hg : Y < 2147483648
        · have hm : X * Y < 9223372036854775808 := by
            have : X * Y ≤ 4294967295 * 2147483647 := Nat.mul_le_mul hX (by omega)
            omega
          obtain ⟨e1, e2⟩ := hle hm
          obtain ⟨P, hP⟩ : ∃ P, P = X * Y := ⟨_, rfl⟩
          have hpi : (X : Int) * (Y : Int) = (P : Int) := by rw [hP]; simp
          rw [e1] at HIB
          have HIV := Lib.hid ((hP.trans e2.symm).trans HIV.out)
          have qf2 : ((Y : Int) < 2147483648) = True := eq_true (by omega)
          have hPb : P ≤ 9223372036854775807 := by omega
          have hpe : ((P : Int) == (P : Int)) = true := by simp
          have HPX := Lib.hid hP
          clear hle e1 e2 hm hP hf hg
          cases hr : rightB l with
          | false =>
            rw [hr] at HR
            clear hr
            by_cases hE : readE st = 0
            · have HST := Lib.hid (read_text hE (by omega))
              have HSE := Lib.hid hE
              have HNB := Lib.hid (num_LB (readOK_parts (show readOK (lets st) = true from by
                unfold readE at hE
                cases hr : readOK (lets st) with
                | true => rfl
                | false => rw [hr] at hE; simp at hE)).2.1 (by rw [lets_len]; omega))
              have gst : (st.toList == st.toList) = true := by simp
              clear hE
              go_enter Try.func12, Try.ntmps12
              have HB0 := Lib.hid (Below.refl w.heap.size w)
              go_wp2_with fail
              refine (HR.out).mono ?_
              rintro e wz1 ⟨rfl, rfl⟩
              go_wp2_with fail
              refine (c_Read st w (by omega)).mono ?_
              rw [HSE.out]
              rintro e wy2 ⟨a2, k2, c2, rfl, hn2, b2⟩
              have hb2 : Below w.heap.size w wy2 := b2
              have HL := Lib.hid (HL.out.below hb2)
              have HB2 := Lib.hid (bNext HB0.out hb2)
              rw [if_pos rfl] at hn2
              have HX2 := Lib.hid hn2.sl
              have hk2 : k2 ≤ 150 := by rw [hn2.1]; exact HNB.out
              clear b2 hb2 hn2
              go_wp2_with fail
              refine (s_Text HX2.out (by omega)).mono ?_
              rw [HST.out]
              rintro e wy3 ⟨rfl, b3⟩
              have hb3 : Below wy2.heap.size wy2 wy3 := b3
              have HL := Lib.hid (HL.out.below hb3)
              have HX2 := Lib.hid (HX2.out.below hb3)
              have HB3 := Lib.hid (bNext HB2.out hb3)
              clear b3 hb3 
              go_wp2_with fail
              refine (c_Of X wy3 (by omega)).mono ?_
              rintro e wy4 ⟨a4, k4, c4, rfl, hn4, b4⟩
              have hb4 : Below wy3.heap.size wy3 wy4 := b4
              have HL := Lib.hid (HL.out.below hb4)
              have HX2 := Lib.hid (HX2.out.below hb4)
              have HB4 := Lib.hid (bNext HB3.out hb4)
              rw [if_pos rfl] at hn4
              have HX4 := Lib.hid hn4.sl
              clear b4 hb4 hn4
              go_wp2_with fail
              refine (c_Of Y wy4 (by omega)).mono ?_
              rintro e wy5 ⟨a5, k5, c5, rfl, hn5, b5⟩
              have hb5 : Below wy4.heap.size wy4 wy5 := b5
              have HL := Lib.hid (HL.out.below hb5)
              have HX2 := Lib.hid (HX2.out.below hb5)
              have HX4 := Lib.hid (HX4.out.below hb5)
              have HB5 := Lib.hid (bNext HB4.out hb5)
              rw [if_pos rfl] at hn5
              have HX5 := Lib.hid hn5.sl
              clear b5 hb5 hn5
              go_wp2_with fail
              refine (n_Mul HX4.out HX5.out HLX.out HLY.out (by omega)).mono ?_
              rintro e wy6 ⟨a6, k6, c6, rfl, hn6, b6⟩
              have hb6 : Below wy5.heap.size wy5 wy6 := b6
              have HL := Lib.hid (HL.out.below hb6)
              have HX2 := Lib.hid (HX2.out.below hb6)
              have HX4 := Lib.hid (HX4.out.below hb6)
              have HX5 := Lib.hid (HX5.out.below hb6)
              have HB6 := Lib.hid (bNext HB5.out hb6)
              rw [if_pos rfl] at hn6
              have HX6 := Lib.hid hn6.sl
              have hk6 : k6 ≤ 100 := by rw [hn6.1]; exact Nat.le_trans (HLX.out.mul HLY.out) (by omega)
              clear b6 hb6 hn6
              go_wp2_with fail
              refine (c_Int _ _ _ (digs (X * Y)) wy6 HX6.out (by omega)).mono ?_
              rw [valI_digs, ← HIV.out, ← HIB.out]
              rintro e wy7 ⟨rfl, b7⟩
              have hb7 : Below wy6.heap.size wy6 wy7 := b7
              have HL := Lib.hid (HL.out.below hb7)
              have HX2 := Lib.hid (HX2.out.below hb7)
              have HX4 := Lib.hid (HX4.out.below hb7)
              have HX5 := Lib.hid (HX5.out.below hb7)
              have HX6 := Lib.hid (HX6.out.below hb7)
              have HB7 := Lib.hid (bNext HB6.out hb7)
              clear b7 hb7 
              go_wp2_with fail
              refine (n_Add1 (HX4.out.alloc _) (HX5.out.alloc _) (Reads.madeAt rfl) (HLX.out.le (by omega)) (HLY.out.le (by omega))).mono ?_
              rintro e wy8 ⟨a8, k8, c8, rfl, hn8, b8⟩
              have hb8 : Below wy7.heap.size wy7 wy8 := ((Below.refl _ wy7).alloc (Nat.le_refl _) _).trans (b8.mono (by simp))
              have HL := Lib.hid (HL.out.below hb8)
              have HX2 := Lib.hid (HX2.out.below hb8)
              have HX4 := Lib.hid (HX4.out.below hb8)
              have HX5 := Lib.hid (HX5.out.below hb8)
              have HX6 := Lib.hid (HX6.out.below hb8)
              have HB8 := Lib.hid (bNext HB7.out hb8)
              rw [if_pos rfl] at hn8
              have HX8 := Lib.hid hn8.sl
              have hk8 : k8 ≤ 100 := by rw [hn8.1]; exact Nat.le_trans (HLX.out.add HLY.out) (by omega)
              clear b8 hb8 hn8
              go_wp2_with fail
              refine (c_Int _ _ _ (digs (X + Y)) wy8 HX8.out (by omega)).mono ?_
              rw [HIS.out, if_pos rfl, valI_digs]
              rintro e wy9 ⟨rfl, b9⟩
              have hb9 : Below wy8.heap.size wy8 wy9 := b9
              have HL := Lib.hid (HL.out.below hb9)
              have HX2 := Lib.hid (HX2.out.below hb9)
              have HX4 := Lib.hid (HX4.out.below hb9)
              have HX5 := Lib.hid (HX5.out.below hb9)
              have HX6 := Lib.hid (HX6.out.below hb9)
              have HX8 := Lib.hid (HX8.out.below hb9)
              have HB9 := Lib.hid (bNext HB8.out hb9)
              clear b9 hb9 
              go_wp2_with fail
              refine (c_known13 _).mono ?_
              rintro e wy10 ⟨rfl, b10⟩
              have hb10 : Below wy9.heap.size wy9 wy10 := b10
              have HL := Lib.hid (HL.out.below hb10)
              have HX2 := Lib.hid (HX2.out.below hb10)
              have HX4 := Lib.hid (HX4.out.below hb10)
              have HX5 := Lib.hid (HX5.out.below hb10)
              have HX6 := Lib.hid (HX6.out.below hb10)
              have HX8 := Lib.hid (HX8.out.below hb10)
              have HB10 := Lib.hid (bNext HB9.out hb10)
              clear b10 hb10 
              go_wp2
              go_ret
              exact ⟨rfl, HB10.out⟩
            · have HSE := Lib.hid (show readE st = 5 from by
                unfold readE at hE ⊢
                cases hr : readOK (lets st) with
                | true => rw [hr] at hE; simp at hE
                | false => rfl)
              clear hE
              go_enter Try.func12, Try.ntmps12
              have HB0 := Lib.hid (Below.refl w.heap.size w)
              go_wp2_with fail
              refine (HR.out).mono ?_
              rintro e wz1 ⟨rfl, rfl⟩
              go_wp2_with fail
              refine (c_Read st w (by omega)).mono ?_
              rw [HSE.out]
              rintro e wy2 ⟨a2, k2, c2, rfl, hn2, b2⟩
              have hb2 : Below w.heap.size w wy2 := b2
              have HL := Lib.hid (HL.out.below hb2)
              have HB2 := Lib.hid (bNext HB0.out hb2)
              clear b2 hb2 hn2
              go_wp2_with fail
              refine (c_Of X wy2 (by omega)).mono ?_
              rintro e wy3 ⟨a3, k3, c3, rfl, hn3, b3⟩
              have hb3 : Below wy2.heap.size wy2 wy3 := b3
              have HL := Lib.hid (HL.out.below hb3)
              have HB3 := Lib.hid (bNext HB2.out hb3)
              rw [if_pos rfl] at hn3
              have HX3 := Lib.hid hn3.sl
              clear b3 hb3 hn3
              go_wp2_with fail
              refine (c_Of Y wy3 (by omega)).mono ?_
              rintro e wy4 ⟨a4, k4, c4, rfl, hn4, b4⟩
              have hb4 : Below wy3.heap.size wy3 wy4 := b4
              have HL := Lib.hid (HL.out.below hb4)
              have HX3 := Lib.hid (HX3.out.below hb4)
              have HB4 := Lib.hid (bNext HB3.out hb4)
              rw [if_pos rfl] at hn4
              have HX4 := Lib.hid hn4.sl
              clear b4 hb4 hn4
              go_wp2_with fail
              refine (n_Mul HX3.out HX4.out HLX.out HLY.out (by omega)).mono ?_
              rintro e wy5 ⟨a5, k5, c5, rfl, hn5, b5⟩
              have hb5 : Below wy4.heap.size wy4 wy5 := b5
              have HL := Lib.hid (HL.out.below hb5)
              have HX3 := Lib.hid (HX3.out.below hb5)
              have HX4 := Lib.hid (HX4.out.below hb5)
              have HB5 := Lib.hid (bNext HB4.out hb5)
              rw [if_pos rfl] at hn5
              have HX5 := Lib.hid hn5.sl
              have hk5 : k5 ≤ 100 := by rw [hn5.1]; exact Nat.le_trans (HLX.out.mul HLY.out) (by omega)
              clear b5 hb5 hn5
              go_wp2_with fail
              refine (c_Int _ _ _ (digs (X * Y)) wy5 HX5.out (by omega)).mono ?_
              rw [valI_digs, ← HIV.out, ← HIB.out]
              rintro e wy6 ⟨rfl, b6⟩
              have hb6 : Below wy5.heap.size wy5 wy6 := b6
              have HL := Lib.hid (HL.out.below hb6)
              have HX3 := Lib.hid (HX3.out.below hb6)
              have HX4 := Lib.hid (HX4.out.below hb6)
              have HX5 := Lib.hid (HX5.out.below hb6)
              have HB6 := Lib.hid (bNext HB5.out hb6)
              clear b6 hb6 
              go_wp2_with fail
              refine (n_Add1 (HX3.out.alloc _) (HX4.out.alloc _) (Reads.madeAt rfl) (HLX.out.le (by omega)) (HLY.out.le (by omega))).mono ?_
              rintro e wy7 ⟨a7, k7, c7, rfl, hn7, b7⟩
              have hb7 : Below wy6.heap.size wy6 wy7 := ((Below.refl _ wy6).alloc (Nat.le_refl _) _).trans (b7.mono (by simp))
              have HL := Lib.hid (HL.out.below hb7)
              have HX3 := Lib.hid (HX3.out.below hb7)
              have HX4 := Lib.hid (HX4.out.below hb7)
              have HX5 := Lib.hid (HX5.out.below hb7)
              have HB7 := Lib.hid (bNext HB6.out hb7)
              rw [if_pos rfl] at hn7
              have HX7 := Lib.hid hn7.sl
              have hk7 : k7 ≤ 100 := by rw [hn7.1]; exact Nat.le_trans (HLX.out.add HLY.out) (by omega)
              clear b7 hb7 hn7
              go_wp2_with fail
              refine (c_Int _ _ _ (digs (X + Y)) wy7 HX7.out (by omega)).mono ?_
              rw [HIS.out, if_pos rfl, valI_digs]
              rintro e wy8 ⟨rfl, b8⟩
              have hb8 : Below wy7.heap.size wy7 wy8 := b8
              have HL := Lib.hid (HL.out.below hb8)
              have HX3 := Lib.hid (HX3.out.below hb8)
              have HX4 := Lib.hid (HX4.out.below hb8)
              have HX5 := Lib.hid (HX5.out.below hb8)
              have HX7 := Lib.hid (HX7.out.below hb8)
              have HB8 := Lib.hid (bNext HB7.out hb8)
              clear b8 hb8 
              go_wp2_with fail
              refine (c_known13 _).mono ?_
              rintro e wy9 ⟨rfl, b9⟩
              have hb9 : Below wy8.heap.size wy8 wy9 := b9
              have HL := Lib.hid (HL.out.below hb9)
              have HX3 := Lib.hid (HX3.out.below hb9)
              have HX4 := Lib.hid (HX4.out.below hb9)
              have HX5 := Lib.hid (HX5.out.below hb9)
              have HX7 := Lib.hid (HX7.out.below hb9)
              have HB9 := Lib.hid (bNext HB8.out hb9)
              clear b9 hb9 
              go_wp2
              go_ret
              exact ⟨rfl, HB9.out⟩
          | true =>
            rw [hr] at HR
            have htr := text_read hr
            obtain ⟨TT, hTT⟩ : ∃ E, E = str (textL l) := ⟨_, rfl⟩
            have hsz : TT.size ≤ 300 := by rw [hTT]; exact text_size HL.out.byt (by have := HL.out.len; omega)
            rw [← hTT] at htr
            have HTT := Lib.hid hTT
            have HTE := Lib.hid htr.1
            have HTN := Lib.hid htr.2
            have HLD := Lib.hid (right_digs HL.out.byt hr).1
            clear htr hTT
            clear hr
            by_cases hE : readE st = 0
            · have HST := Lib.hid (read_text hE (by omega))
              have HSE := Lib.hid hE
              have HNB := Lib.hid (num_LB (readOK_parts (show readOK (lets st) = true from by
                unfold readE at hE
                cases hr : readOK (lets st) with
                | true => rfl
                | false => rw [hr] at hE; simp at hE)).2.1 (by rw [lets_len]; omega))
              have gst : (st.toList == st.toList) = true := by simp
              clear hE
              go_enter Try.func12, Try.ntmps12
              have HB0 := Lib.hid (Below.refl w.heap.size w)
              go_wp2_with fail
              refine (HR.out).mono ?_
              rintro e wz1 ⟨rfl, rfl⟩
              go_wp2_with fail
              refine (s_Text HL.out (by omega)).mono ?_
              rw [← HTT.out]
              rintro e wy2 ⟨rfl, b2⟩
              have hb2 : Below w.heap.size w wy2 := b2
              have HL := Lib.hid (HL.out.below hb2)
              have HB2 := Lib.hid (bNext HB0.out hb2)
              clear b2 hb2 
              go_wp2_with fail
              refine (c_Read TT wy2 (by omega)).mono ?_
              rw [HTE.out, HTN.out]
              rintro e wy3 ⟨a3, k3, c3, rfl, hn3, b3⟩
              have hb3 : Below wy2.heap.size wy2 wy3 := b3
              have HL := Lib.hid (HL.out.below hb3)
              have HB3 := Lib.hid (bNext HB2.out hb3)
              rw [if_pos rfl] at hn3
              have HX3 := Lib.hid hn3.sl
              clear b3 hb3 hn3
              go_wp2_with fail
              refine (s_Same HL.out HX3.out).mono ?_
              rintro e wz4 ⟨rfl, rfl⟩
              rw [decide_eq_true HLD.out.symm]
              go_wp2_with fail
              refine (c_Read st wy3 (by omega)).mono ?_
              rw [HSE.out]
              rintro e wy5 ⟨a5, k5, c5, rfl, hn5, b5⟩
              have hb5 : Below wy3.heap.size wy3 wy5 := b5
              have HL := Lib.hid (HL.out.below hb5)
              have HX3 := Lib.hid (HX3.out.below hb5)
              have HB5 := Lib.hid (bNext HB3.out hb5)
              rw [if_pos rfl] at hn5
              have HX5 := Lib.hid hn5.sl
              have hk5 : k5 ≤ 150 := by rw [hn5.1]; exact HNB.out
              clear b5 hb5 hn5
              go_wp2_with fail
              refine (s_Text HX5.out (by omega)).mono ?_
              rw [HST.out]
              rintro e wy6 ⟨rfl, b6⟩
              have hb6 : Below wy5.heap.size wy5 wy6 := b6
              have HL := Lib.hid (HL.out.below hb6)
              have HX3 := Lib.hid (HX3.out.below hb6)
              have HX5 := Lib.hid (HX5.out.below hb6)
              have HB6 := Lib.hid (bNext HB5.out hb6)
              clear b6 hb6 
              go_wp2_with fail
              refine (c_Of X wy6 (by omega)).mono ?_
              rintro e wy7 ⟨a7, k7, c7, rfl, hn7, b7⟩
              have hb7 : Below wy6.heap.size wy6 wy7 := b7
              have HL := Lib.hid (HL.out.below hb7)
              have HX3 := Lib.hid (HX3.out.below hb7)
              have HX5 := Lib.hid (HX5.out.below hb7)
              have HB7 := Lib.hid (bNext HB6.out hb7)
              rw [if_pos rfl] at hn7
              have HX7 := Lib.hid hn7.sl
              clear b7 hb7 hn7
              go_wp2_with fail
              refine (c_Of Y wy7 (by omega)).mono ?_
              rintro e wy8 ⟨a8, k8, c8, rfl, hn8, b8⟩
              have hb8 : Below wy7.heap.size wy7 wy8 := b8
              have HL := Lib.hid (HL.out.below hb8)
              have HX3 := Lib.hid (HX3.out.below hb8)
              have HX5 := Lib.hid (HX5.out.below hb8)
              have HX7 := Lib.hid (HX7.out.below hb8)
              have HB8 := Lib.hid (bNext HB7.out hb8)
              rw [if_pos rfl] at hn8
              have HX8 := Lib.hid hn8.sl
              clear b8 hb8 hn8
              go_wp2_with fail
              refine (n_Mul HX7.out HX8.out HLX.out HLY.out (by omega)).mono ?_
              rintro e wy9 ⟨a9, k9, c9, rfl, hn9, b9⟩
              have hb9 : Below wy8.heap.size wy8 wy9 := b9
              have HL := Lib.hid (HL.out.below hb9)
              have HX3 := Lib.hid (HX3.out.below hb9)
              have HX5 := Lib.hid (HX5.out.below hb9)
              have HX7 := Lib.hid (HX7.out.below hb9)
              have HX8 := Lib.hid (HX8.out.below hb9)
              have HB9 := Lib.hid (bNext HB8.out hb9)
              rw [if_pos rfl] at hn9
              have HX9 := Lib.hid hn9.sl
              have hk9 : k9 ≤ 100 := by rw [hn9.1]; exact Nat.le_trans (HLX.out.mul HLY.out) (by omega)
              clear b9 hb9 hn9
              go_wp2_with fail
              refine (c_Int _ _ _ (digs (X * Y)) wy9 HX9.out (by omega)).mono ?_
              rw [valI_digs, ← HIV.out, ← HIB.out]
              rintro e wy10 ⟨rfl, b10⟩
              have hb10 : Below wy9.heap.size wy9 wy10 := b10
              have HL := Lib.hid (HL.out.below hb10)
              have HX3 := Lib.hid (HX3.out.below hb10)
              have HX5 := Lib.hid (HX5.out.below hb10)
              have HX7 := Lib.hid (HX7.out.below hb10)
              have HX8 := Lib.hid (HX8.out.below hb10)
              have HX9 := Lib.hid (HX9.out.below hb10)
              have HB10 := Lib.hid (bNext HB9.out hb10)
              clear b10 hb10 
              go_wp2_with fail
              refine (n_Add1 (HX7.out.alloc _) (HX8.out.alloc _) (Reads.madeAt rfl) (HLX.out.le (by omega)) (HLY.out.le (by omega))).mono ?_
              rintro e wy11 ⟨a11, k11, c11, rfl, hn11, b11⟩
              have hb11 : Below wy10.heap.size wy10 wy11 := ((Below.refl _ wy10).alloc (Nat.le_refl _) _).trans (b11.mono (by simp))
              have HL := Lib.hid (HL.out.below hb11)
              have HX3 := Lib.hid (HX3.out.below hb11)
              have HX5 := Lib.hid (HX5.out.below hb11)
              have HX7 := Lib.hid (HX7.out.below hb11)
              have HX8 := Lib.hid (HX8.out.below hb11)
              have HX9 := Lib.hid (HX9.out.below hb11)
              have HB11 := Lib.hid (bNext HB10.out hb11)
              rw [if_pos rfl] at hn11
              have HX11 := Lib.hid hn11.sl
              have hk11 : k11 ≤ 100 := by rw [hn11.1]; exact Nat.le_trans (HLX.out.add HLY.out) (by omega)
              clear b11 hb11 hn11
              go_wp2_with fail
              refine (c_Int _ _ _ (digs (X + Y)) wy11 HX11.out (by omega)).mono ?_
              rw [HIS.out, if_pos rfl, valI_digs]
              rintro e wy12 ⟨rfl, b12⟩
              have hb12 : Below wy11.heap.size wy11 wy12 := b12
              have HL := Lib.hid (HL.out.below hb12)
              have HX3 := Lib.hid (HX3.out.below hb12)
              have HX5 := Lib.hid (HX5.out.below hb12)
              have HX7 := Lib.hid (HX7.out.below hb12)
              have HX8 := Lib.hid (HX8.out.below hb12)
              have HX9 := Lib.hid (HX9.out.below hb12)
              have HX11 := Lib.hid (HX11.out.below hb12)
              have HB12 := Lib.hid (bNext HB11.out hb12)
              clear b12 hb12 
              go_wp2_with fail
              refine (c_known13 _).mono ?_
              rintro e wy13 ⟨rfl, b13⟩
              have hb13 : Below wy12.heap.size wy12 wy13 := b13
              have HL := Lib.hid (HL.out.below hb13)
              have HX3 := Lib.hid (HX3.out.below hb13)
              have HX5 := Lib.hid (HX5.out.below hb13)
              have HX7 := Lib.hid (HX7.out.below hb13)
              have HX8 := Lib.hid (HX8.out.below hb13)
              have HX9 := Lib.hid (HX9.out.below hb13)
              have HX11 := Lib.hid (HX11.out.below hb13)
              have HB13 := Lib.hid (bNext HB12.out hb13)
              clear b13 hb13 
              go_wp2
              go_ret
              exact ⟨rfl, HB13.out⟩
            · have HSE := Lib.hid (show readE st = 5 from by
                unfold readE at hE ⊢
                cases hr : readOK (lets st) with
                | true => rw [hr] at hE; simp at hE
                | false => rfl)
              clear hE
              go_enter Try.func12, Try.ntmps12
              have HB0 := Lib.hid (Below.refl w.heap.size w)
              go_wp2_with fail
              refine (HR.out).mono ?_
              rintro e wz1 ⟨rfl, rfl⟩
              go_wp2_with fail
              refine (s_Text HL.out (by omega)).mono ?_
              rw [← HTT.out]
              rintro e wy2 ⟨rfl, b2⟩
              have hb2 : Below w.heap.size w wy2 := b2
              have HL := Lib.hid (HL.out.below hb2)
              have HB2 := Lib.hid (bNext HB0.out hb2)
              clear b2 hb2 
              go_wp2_with fail
              refine (c_Read TT wy2 (by omega)).mono ?_
              rw [HTE.out, HTN.out]
              rintro e wy3 ⟨a3, k3, c3, rfl, hn3, b3⟩
              have hb3 : Below wy2.heap.size wy2 wy3 := b3
              have HL := Lib.hid (HL.out.below hb3)
              have HB3 := Lib.hid (bNext HB2.out hb3)
              rw [if_pos rfl] at hn3
              have HX3 := Lib.hid hn3.sl
              clear b3 hb3 hn3
              go_wp2_with fail
              refine (s_Same HL.out HX3.out).mono ?_
              rintro e wz4 ⟨rfl, rfl⟩
              rw [decide_eq_true HLD.out.symm]
              go_wp2_with fail
              refine (c_Read st wy3 (by omega)).mono ?_
              rw [HSE.out]
              rintro e wy5 ⟨a5, k5, c5, rfl, hn5, b5⟩
              have hb5 : Below wy3.heap.size wy3 wy5 := b5
              have HL := Lib.hid (HL.out.below hb5)
              have HX3 := Lib.hid (HX3.out.below hb5)
              have HB5 := Lib.hid (bNext HB3.out hb5)
              clear b5 hb5 hn5
              go_wp2_with fail
              refine (c_Of X wy5 (by omega)).mono ?_
              rintro e wy6 ⟨a6, k6, c6, rfl, hn6, b6⟩
              have hb6 : Below wy5.heap.size wy5 wy6 := b6
              have HL := Lib.hid (HL.out.below hb6)
              have HX3 := Lib.hid (HX3.out.below hb6)
              have HB6 := Lib.hid (bNext HB5.out hb6)
              rw [if_pos rfl] at hn6
              have HX6 := Lib.hid hn6.sl
              clear b6 hb6 hn6
              go_wp2_with fail
              refine (c_Of Y wy6 (by omega)).mono ?_
              rintro e wy7 ⟨a7, k7, c7, rfl, hn7, b7⟩
              have hb7 : Below wy6.heap.size wy6 wy7 := b7
              have HL := Lib.hid (HL.out.below hb7)
              have HX3 := Lib.hid (HX3.out.below hb7)
              have HX6 := Lib.hid (HX6.out.below hb7)
              have HB7 := Lib.hid (bNext HB6.out hb7)
              rw [if_pos rfl] at hn7
              have HX7 := Lib.hid hn7.sl
              clear b7 hb7 hn7
              go_wp2_with fail
              refine (n_Mul HX6.out HX7.out HLX.out HLY.out (by omega)).mono ?_
              rintro e wy8 ⟨a8, k8, c8, rfl, hn8, b8⟩
              have hb8 : Below wy7.heap.size wy7 wy8 := b8
              have HL := Lib.hid (HL.out.below hb8)
              have HX3 := Lib.hid (HX3.out.below hb8)
              have HX6 := Lib.hid (HX6.out.below hb8)
              have HX7 := Lib.hid (HX7.out.below hb8)
              have HB8 := Lib.hid (bNext HB7.out hb8)
              rw [if_pos rfl] at hn8
              have HX8 := Lib.hid hn8.sl
              have hk8 : k8 ≤ 100 := by rw [hn8.1]; exact Nat.le_trans (HLX.out.mul HLY.out) (by omega)
              clear b8 hb8 hn8
              go_wp2_with fail
              refine (c_Int _ _ _ (digs (X * Y)) wy8 HX8.out (by omega)).mono ?_
              rw [valI_digs, ← HIV.out, ← HIB.out]
              rintro e wy9 ⟨rfl, b9⟩
              have hb9 : Below wy8.heap.size wy8 wy9 := b9
              have HL := Lib.hid (HL.out.below hb9)
              have HX3 := Lib.hid (HX3.out.below hb9)
              have HX6 := Lib.hid (HX6.out.below hb9)
              have HX7 := Lib.hid (HX7.out.below hb9)
              have HX8 := Lib.hid (HX8.out.below hb9)
              have HB9 := Lib.hid (bNext HB8.out hb9)
              clear b9 hb9 
              go_wp2_with fail
              refine (n_Add1 (HX6.out.alloc _) (HX7.out.alloc _) (Reads.madeAt rfl) (HLX.out.le (by omega)) (HLY.out.le (by omega))).mono ?_
              rintro e wy10 ⟨a10, k10, c10, rfl, hn10, b10⟩
              have hb10 : Below wy9.heap.size wy9 wy10 := ((Below.refl _ wy9).alloc (Nat.le_refl _) _).trans (b10.mono (by simp))
              have HL := Lib.hid (HL.out.below hb10)
              have HX3 := Lib.hid (HX3.out.below hb10)
              have HX6 := Lib.hid (HX6.out.below hb10)
              have HX7 := Lib.hid (HX7.out.below hb10)
              have HX8 := Lib.hid (HX8.out.below hb10)
              have HB10 := Lib.hid (bNext HB9.out hb10)
              rw [if_pos rfl] at hn10
              have HX10 := Lib.hid hn10.sl
              have hk10 : k10 ≤ 100 := by rw [hn10.1]; exact Nat.le_trans (HLX.out.add HLY.out) (by omega)
              clear b10 hb10 hn10
              go_wp2_with fail
              refine (c_Int _ _ _ (digs (X + Y)) wy10 HX10.out (by omega)).mono ?_
              rw [HIS.out, if_pos rfl, valI_digs]
              rintro e wy11 ⟨rfl, b11⟩
              have hb11 : Below wy10.heap.size wy10 wy11 := b11
              have HL := Lib.hid (HL.out.below hb11)
              have HX3 := Lib.hid (HX3.out.below hb11)
              have HX6 := Lib.hid (HX6.out.below hb11)
              have HX7 := Lib.hid (HX7.out.below hb11)
              have HX8 := Lib.hid (HX8.out.below hb11)
              have HX10 := Lib.hid (HX10.out.below hb11)
              have HB11 := Lib.hid (bNext HB10.out hb11)
              clear b11 hb11 
              go_wp2_with fail
              refine (c_known13 _).mono ?_
              rintro e wy12 ⟨rfl, b12⟩
              have hb12 : Below wy11.heap.size wy11 wy12 := b12
              have HL := Lib.hid (HL.out.below hb12)
              have HX3 := Lib.hid (HX3.out.below hb12)
              have HX6 := Lib.hid (HX6.out.below hb12)
              have HX7 := Lib.hid (HX7.out.below hb12)
              have HX8 := Lib.hid (HX8.out.below hb12)
              have HX10 := Lib.hid (HX10.out.below hb12)
              have HB12 := Lib.hid (bNext HB11.out hb12)
              clear b12 hb12 
              go_wp2
              go_ret
              exact ⟨rfl, HB12.out⟩
        · have qf2 : ((Y : Int) < 2147483648) = False := eq_false (by omega)
          clear hle hf hg
          cases hr : rightB l with
          | false =>
            rw [hr] at HR
            clear hr
            by_cases hE : readE st = 0
            · have HST := Lib.hid (read_text hE (by omega))
              have HSE := Lib.hid hE
              have HNB := Lib.hid (num_LB (readOK_parts (show readOK (lets st) = true from by
                unfold readE at hE
                cases hr : readOK (lets st) with
                | true => rfl
                | false => rw [hr] at hE; simp at hE)).2.1 (by rw [lets_len]; omega))
              have gst : (st.toList == st.toList) = true := by simp
              clear hE
              go_enter Try.func12, Try.ntmps12
              have HB0 := Lib.hid (Below.refl w.heap.size w)
              go_wp2_with fail
              refine (HR.out).mono ?_
              rintro e wz1 ⟨rfl, rfl⟩
              go_wp2_with fail
              refine (c_Read st w (by omega)).mono ?_
              rw [HSE.out]
              rintro e wy2 ⟨a2, k2, c2, rfl, hn2, b2⟩
              have hb2 : Below w.heap.size w wy2 := b2
              have HL := Lib.hid (HL.out.below hb2)
              have HB2 := Lib.hid (bNext HB0.out hb2)
              rw [if_pos rfl] at hn2
              have HX2 := Lib.hid hn2.sl
              have hk2 : k2 ≤ 150 := by rw [hn2.1]; exact HNB.out
              clear b2 hb2 hn2
              go_wp2_with fail
              refine (s_Text HX2.out (by omega)).mono ?_
              rw [HST.out]
              rintro e wy3 ⟨rfl, b3⟩
              have hb3 : Below wy2.heap.size wy2 wy3 := b3
              have HL := Lib.hid (HL.out.below hb3)
              have HX2 := Lib.hid (HX2.out.below hb3)
              have HB3 := Lib.hid (bNext HB2.out hb3)
              clear b3 hb3 
              go_wp2_with fail
              refine (c_Of X wy3 (by omega)).mono ?_
              rintro e wy4 ⟨a4, k4, c4, rfl, hn4, b4⟩
              have hb4 : Below wy3.heap.size wy3 wy4 := b4
              have HL := Lib.hid (HL.out.below hb4)
              have HX2 := Lib.hid (HX2.out.below hb4)
              have HB4 := Lib.hid (bNext HB3.out hb4)
              rw [if_pos rfl] at hn4
              have HX4 := Lib.hid hn4.sl
              clear b4 hb4 hn4
              go_wp2_with fail
              refine (c_Of Y wy4 (by omega)).mono ?_
              rintro e wy5 ⟨a5, k5, c5, rfl, hn5, b5⟩
              have hb5 : Below wy4.heap.size wy4 wy5 := b5
              have HL := Lib.hid (HL.out.below hb5)
              have HX2 := Lib.hid (HX2.out.below hb5)
              have HX4 := Lib.hid (HX4.out.below hb5)
              have HB5 := Lib.hid (bNext HB4.out hb5)
              rw [if_pos rfl] at hn5
              have HX5 := Lib.hid hn5.sl
              clear b5 hb5 hn5
              go_wp2_with fail
              refine (n_Mul HX4.out HX5.out HLX.out HLY.out (by omega)).mono ?_
              rintro e wy6 ⟨a6, k6, c6, rfl, hn6, b6⟩
              have hb6 : Below wy5.heap.size wy5 wy6 := b6
              have HL := Lib.hid (HL.out.below hb6)
              have HX2 := Lib.hid (HX2.out.below hb6)
              have HX4 := Lib.hid (HX4.out.below hb6)
              have HX5 := Lib.hid (HX5.out.below hb6)
              have HB6 := Lib.hid (bNext HB5.out hb6)
              rw [if_pos rfl] at hn6
              have HX6 := Lib.hid hn6.sl
              have hk6 : k6 ≤ 100 := by rw [hn6.1]; exact Nat.le_trans (HLX.out.mul HLY.out) (by omega)
              clear b6 hb6 hn6
              go_wp2_with fail
              refine (c_Int _ _ _ (digs (X * Y)) wy6 HX6.out (by omega)).mono ?_
              rw [valI_digs, ← HIV.out, ← HIB.out]
              rintro e wy7 ⟨rfl, b7⟩
              have hb7 : Below wy6.heap.size wy6 wy7 := b7
              have HL := Lib.hid (HL.out.below hb7)
              have HX2 := Lib.hid (HX2.out.below hb7)
              have HX4 := Lib.hid (HX4.out.below hb7)
              have HX5 := Lib.hid (HX5.out.below hb7)
              have HX6 := Lib.hid (HX6.out.below hb7)
              have HB7 := Lib.hid (bNext HB6.out hb7)
              clear b7 hb7 
              go_wp2_with fail
              refine (n_Add1 (HX4.out.alloc _) (HX5.out.alloc _) (Reads.madeAt rfl) (HLX.out.le (by omega)) (HLY.out.le (by omega))).mono ?_
              rintro e wy8 ⟨a8, k8, c8, rfl, hn8, b8⟩
              have hb8 : Below wy7.heap.size wy7 wy8 := ((Below.refl _ wy7).alloc (Nat.le_refl _) _).trans (b8.mono (by simp))
              have HL := Lib.hid (HL.out.below hb8)
              have HX2 := Lib.hid (HX2.out.below hb8)
              have HX4 := Lib.hid (HX4.out.below hb8)
              have HX5 := Lib.hid (HX5.out.below hb8)
              have HX6 := Lib.hid (HX6.out.below hb8)
              have HB8 := Lib.hid (bNext HB7.out hb8)
              rw [if_pos rfl] at hn8
              have HX8 := Lib.hid hn8.sl
              have hk8 : k8 ≤ 100 := by rw [hn8.1]; exact Nat.le_trans (HLX.out.add HLY.out) (by omega)
              clear b8 hb8 hn8
              go_wp2_with fail
              refine (c_Int _ _ _ (digs (X + Y)) wy8 HX8.out (by omega)).mono ?_
              rw [HIS.out, if_pos rfl, valI_digs]
              rintro e wy9 ⟨rfl, b9⟩
              have hb9 : Below wy8.heap.size wy8 wy9 := b9
              have HL := Lib.hid (HL.out.below hb9)
              have HX2 := Lib.hid (HX2.out.below hb9)
              have HX4 := Lib.hid (HX4.out.below hb9)
              have HX5 := Lib.hid (HX5.out.below hb9)
              have HX6 := Lib.hid (HX6.out.below hb9)
              have HX8 := Lib.hid (HX8.out.below hb9)
              have HB9 := Lib.hid (bNext HB8.out hb9)
              clear b9 hb9 
              go_wp2_with fail
              refine (c_known13 _).mono ?_
              rintro e wy10 ⟨rfl, b10⟩
              have hb10 : Below wy9.heap.size wy9 wy10 := b10
              have HL := Lib.hid (HL.out.below hb10)
              have HX2 := Lib.hid (HX2.out.below hb10)
              have HX4 := Lib.hid (HX4.out.below hb10)
              have HX5 := Lib.hid (HX5.out.below hb10)
              have HX6 := Lib.hid (HX6.out.below hb10)
              have HX8 := Lib.hid (HX8.out.below hb10)
              have HB10 := Lib.hid (bNext HB9.out hb10)
              clear b10 hb10 
              go_wp2
              go_ret
              exact ⟨rfl, HB10.out⟩
            · have HSE := Lib.hid (show readE st = 5 from by
                unfold readE at hE ⊢
                cases hr : readOK (lets st) with
                | true => rw [hr] at hE; simp at hE
                | false => rfl)
              clear hE
              go_enter Try.func12, Try.ntmps12
              have HB0 := Lib.hid (Below.refl w.heap.size w)
              go_wp2_with fail
              refine (HR.out).mono ?_
              rintro e wz1 ⟨rfl, rfl⟩
              go_wp2_with fail
              refine (c_Read st w (by omega)).mono ?_
              rw [HSE.out]
              rintro e wy2 ⟨a2, k2, c2, rfl, hn2, b2⟩
              have hb2 : Below w.heap.size w wy2 := b2
              have HL := Lib.hid (HL.out.below hb2)
              have HB2 := Lib.hid (bNext HB0.out hb2)
              clear b2 hb2 hn2
              go_wp2_with fail
              refine (c_Of X wy2 (by omega)).mono ?_
              rintro e wy3 ⟨a3, k3, c3, rfl, hn3, b3⟩
              have hb3 : Below wy2.heap.size wy2 wy3 := b3
              have HL := Lib.hid (HL.out.below hb3)
              have HB3 := Lib.hid (bNext HB2.out hb3)
              rw [if_pos rfl] at hn3
              have HX3 := Lib.hid hn3.sl
              clear b3 hb3 hn3
              go_wp2_with fail
              refine (c_Of Y wy3 (by omega)).mono ?_
              rintro e wy4 ⟨a4, k4, c4, rfl, hn4, b4⟩
              have hb4 : Below wy3.heap.size wy3 wy4 := b4
              have HL := Lib.hid (HL.out.below hb4)
              have HX3 := Lib.hid (HX3.out.below hb4)
              have HB4 := Lib.hid (bNext HB3.out hb4)
              rw [if_pos rfl] at hn4
              have HX4 := Lib.hid hn4.sl
              clear b4 hb4 hn4
              go_wp2_with fail
              refine (n_Mul HX3.out HX4.out HLX.out HLY.out (by omega)).mono ?_
              rintro e wy5 ⟨a5, k5, c5, rfl, hn5, b5⟩
              have hb5 : Below wy4.heap.size wy4 wy5 := b5
              have HL := Lib.hid (HL.out.below hb5)
              have HX3 := Lib.hid (HX3.out.below hb5)
              have HX4 := Lib.hid (HX4.out.below hb5)
              have HB5 := Lib.hid (bNext HB4.out hb5)
              rw [if_pos rfl] at hn5
              have HX5 := Lib.hid hn5.sl
              have hk5 : k5 ≤ 100 := by rw [hn5.1]; exact Nat.le_trans (HLX.out.mul HLY.out) (by omega)
              clear b5 hb5 hn5
              go_wp2_with fail
              refine (c_Int _ _ _ (digs (X * Y)) wy5 HX5.out (by omega)).mono ?_
              rw [valI_digs, ← HIV.out, ← HIB.out]
              rintro e wy6 ⟨rfl, b6⟩
              have hb6 : Below wy5.heap.size wy5 wy6 := b6
              have HL := Lib.hid (HL.out.below hb6)
              have HX3 := Lib.hid (HX3.out.below hb6)
              have HX4 := Lib.hid (HX4.out.below hb6)
              have HX5 := Lib.hid (HX5.out.below hb6)
              have HB6 := Lib.hid (bNext HB5.out hb6)
              clear b6 hb6 
              go_wp2_with fail
              refine (n_Add1 (HX3.out.alloc _) (HX4.out.alloc _) (Reads.madeAt rfl) (HLX.out.le (by omega)) (HLY.out.le (by omega))).mono ?_
              rintro e wy7 ⟨a7, k7, c7, rfl, hn7, b7⟩
              have hb7 : Below wy6.heap.size wy6 wy7 := ((Below.refl _ wy6).alloc (Nat.le_refl _) _).trans (b7.mono (by simp))
              have HL := Lib.hid (HL.out.below hb7)
              have HX3 := Lib.hid (HX3.out.below hb7)
              have HX4 := Lib.hid (HX4.out.below hb7)
              have HX5 := Lib.hid (HX5.out.below hb7)
              have HB7 := Lib.hid (bNext HB6.out hb7)
              rw [if_pos rfl] at hn7
              have HX7 := Lib.hid hn7.sl
              have hk7 : k7 ≤ 100 := by rw [hn7.1]; exact Nat.le_trans (HLX.out.add HLY.out) (by omega)
              clear b7 hb7 hn7
              go_wp2_with fail
              refine (c_Int _ _ _ (digs (X + Y)) wy7 HX7.out (by omega)).mono ?_
              rw [HIS.out, if_pos rfl, valI_digs]
              rintro e wy8 ⟨rfl, b8⟩
              have hb8 : Below wy7.heap.size wy7 wy8 := b8
              have HL := Lib.hid (HL.out.below hb8)
              have HX3 := Lib.hid (HX3.out.below hb8)
              have HX4 := Lib.hid (HX4.out.below hb8)
              have HX5 := Lib.hid (HX5.out.below hb8)
              have HX7 := Lib.hid (HX7.out.below hb8)
              have HB8 := Lib.hid (bNext HB7.out hb8)
              clear b8 hb8 
              go_wp2_with fail
              refine (c_known13 _).mono ?_
              rintro e wy9 ⟨rfl, b9⟩
              have hb9 : Below wy8.heap.size wy8 wy9 := b9
              have HL := Lib.hid (HL.out.below hb9)
              have HX3 := Lib.hid (HX3.out.below hb9)
              have HX4 := Lib.hid (HX4.out.below hb9)
              have HX5 := Lib.hid (HX5.out.below hb9)
              have HX7 := Lib.hid (HX7.out.below hb9)
              have HB9 := Lib.hid (bNext HB8.out hb9)
              clear b9 hb9 
              go_wp2
              go_ret
              exact ⟨rfl, HB9.out⟩
          | true =>
            rw [hr] at HR
            have htr := text_read hr
            obtain ⟨TT, hTT⟩ : ∃ E, E = str (textL l) := ⟨_, rfl⟩
            have hsz : TT.size ≤ 300 := by rw [hTT]; exact text_size HL.out.byt (by have := HL.out.len; omega)
            rw [← hTT] at htr
            have HTT := Lib.hid hTT
            have HTE := Lib.hid htr.1
            have HTN := Lib.hid htr.2
            have HLD := Lib.hid (right_digs HL.out.byt hr).1
            clear htr hTT
            clear hr
            by_cases hE : readE st = 0
            · have HST := Lib.hid (read_text hE (by omega))
              have HSE := Lib.hid hE
              have HNB := Lib.hid (num_LB (readOK_parts (show readOK (lets st) = true from by
                unfold readE at hE
                cases hr : readOK (lets st) with
                | true => rfl
                | false => rw [hr] at hE; simp at hE)).2.1 (by rw [lets_len]; omega))
              have gst : (st.toList == st.toList) = true := by simp
              clear hE
              go_enter Try.func12, Try.ntmps12
              have HB0 := Lib.hid (Below.refl w.heap.size w)
              go_wp2_with fail
              refine (HR.out).mono ?_
              rintro e wz1 ⟨rfl, rfl⟩
              go_wp2_with fail
              refine (s_Text HL.out (by omega)).mono ?_
              rw [← HTT.out]
              rintro e wy2 ⟨rfl, b2⟩
              have hb2 : Below w.heap.size w wy2 := b2
              have HL := Lib.hid (HL.out.below hb2)
              have HB2 := Lib.hid (bNext HB0.out hb2)
              clear b2 hb2 
              go_wp2_with fail
              refine (c_Read TT wy2 (by omega)).mono ?_
              rw [HTE.out, HTN.out]
              rintro e wy3 ⟨a3, k3, c3, rfl, hn3, b3⟩
              have hb3 : Below wy2.heap.size wy2 wy3 := b3
              have HL := Lib.hid (HL.out.below hb3)
              have HB3 := Lib.hid (bNext HB2.out hb3)
              rw [if_pos rfl] at hn3
              have HX3 := Lib.hid hn3.sl
              clear b3 hb3 hn3
              go_wp2_with fail
              refine (s_Same HL.out HX3.out).mono ?_
              rintro e wz4 ⟨rfl, rfl⟩
              rw [decide_eq_true HLD.out.symm]
              go_wp2_with fail
              refine (c_Read st wy3 (by omega)).mono ?_
              rw [HSE.out]
              rintro e wy5 ⟨a5, k5, c5, rfl, hn5, b5⟩
              have hb5 : Below wy3.heap.size wy3 wy5 := b5
              have HL := Lib.hid (HL.out.below hb5)
              have HX3 := Lib.hid (HX3.out.below hb5)
              have HB5 := Lib.hid (bNext HB3.out hb5)
              rw [if_pos rfl] at hn5
              have HX5 := Lib.hid hn5.sl
              have hk5 : k5 ≤ 150 := by rw [hn5.1]; exact HNB.out
              clear b5 hb5 hn5
              go_wp2_with fail
              refine (s_Text HX5.out (by omega)).mono ?_
              rw [HST.out]
              rintro e wy6 ⟨rfl, b6⟩
              have hb6 : Below wy5.heap.size wy5 wy6 := b6
              have HL := Lib.hid (HL.out.below hb6)
              have HX3 := Lib.hid (HX3.out.below hb6)
              have HX5 := Lib.hid (HX5.out.below hb6)
              have HB6 := Lib.hid (bNext HB5.out hb6)
              clear b6 hb6 
              go_wp2_with fail
              refine (c_Of X wy6 (by omega)).mono ?_
              rintro e wy7 ⟨a7, k7, c7, rfl, hn7, b7⟩
              have hb7 : Below wy6.heap.size wy6 wy7 := b7
              have HL := Lib.hid (HL.out.below hb7)
              have HX3 := Lib.hid (HX3.out.below hb7)
              have HX5 := Lib.hid (HX5.out.below hb7)
              have HB7 := Lib.hid (bNext HB6.out hb7)
              rw [if_pos rfl] at hn7
              have HX7 := Lib.hid hn7.sl
              clear b7 hb7 hn7
              go_wp2_with fail
              refine (c_Of Y wy7 (by omega)).mono ?_
              rintro e wy8 ⟨a8, k8, c8, rfl, hn8, b8⟩
              have hb8 : Below wy7.heap.size wy7 wy8 := b8
              have HL := Lib.hid (HL.out.below hb8)
              have HX3 := Lib.hid (HX3.out.below hb8)
              have HX5 := Lib.hid (HX5.out.below hb8)
              have HX7 := Lib.hid (HX7.out.below hb8)
              have HB8 := Lib.hid (bNext HB7.out hb8)
              rw [if_pos rfl] at hn8
              have HX8 := Lib.hid hn8.sl
              clear b8 hb8 hn8
              go_wp2_with fail
              refine (n_Mul HX7.out HX8.out HLX.out HLY.out (by omega)).mono ?_
              rintro e wy9 ⟨a9, k9, c9, rfl, hn9, b9⟩
              have hb9 : Below wy8.heap.size wy8 wy9 := b9
              have HL := Lib.hid (HL.out.below hb9)
              have HX3 := Lib.hid (HX3.out.below hb9)
              have HX5 := Lib.hid (HX5.out.below hb9)
              have HX7 := Lib.hid (HX7.out.below hb9)
              have HX8 := Lib.hid (HX8.out.below hb9)
              have HB9 := Lib.hid (bNext HB8.out hb9)
              rw [if_pos rfl] at hn9
              have HX9 := Lib.hid hn9.sl
              have hk9 : k9 ≤ 100 := by rw [hn9.1]; exact Nat.le_trans (HLX.out.mul HLY.out) (by omega)
              clear b9 hb9 hn9
              go_wp2_with fail
              refine (c_Int _ _ _ (digs (X * Y)) wy9 HX9.out (by omega)).mono ?_
              rw [valI_digs, ← HIV.out, ← HIB.out]
              rintro e wy10 ⟨rfl, b10⟩
              have hb10 : Below wy9.heap.size wy9 wy10 := b10
              have HL := Lib.hid (HL.out.below hb10)
              have HX3 := Lib.hid (HX3.out.below hb10)
              have HX5 := Lib.hid (HX5.out.below hb10)
              have HX7 := Lib.hid (HX7.out.below hb10)
              have HX8 := Lib.hid (HX8.out.below hb10)
              have HX9 := Lib.hid (HX9.out.below hb10)
              have HB10 := Lib.hid (bNext HB9.out hb10)
              clear b10 hb10 
              go_wp2_with fail
              refine (n_Add1 (HX7.out.alloc _) (HX8.out.alloc _) (Reads.madeAt rfl) (HLX.out.le (by omega)) (HLY.out.le (by omega))).mono ?_
              rintro e wy11 ⟨a11, k11, c11, rfl, hn11, b11⟩
              have hb11 : Below wy10.heap.size wy10 wy11 := ((Below.refl _ wy10).alloc (Nat.le_refl _) _).trans (b11.mono (by simp))
              have HL := Lib.hid (HL.out.below hb11)
              have HX3 := Lib.hid (HX3.out.below hb11)
              have HX5 := Lib.hid (HX5.out.below hb11)
              have HX7 := Lib.hid (HX7.out.below hb11)
              have HX8 := Lib.hid (HX8.out.below hb11)
              have HX9 := Lib.hid (HX9.out.below hb11)
              have HB11 := Lib.hid (bNext HB10.out hb11)
              rw [if_pos rfl] at hn11
              have HX11 := Lib.hid hn11.sl
              have hk11 : k11 ≤ 100 := by rw [hn11.1]; exact Nat.le_trans (HLX.out.add HLY.out) (by omega)
              clear b11 hb11 hn11
              go_wp2_with fail
              refine (c_Int _ _ _ (digs (X + Y)) wy11 HX11.out (by omega)).mono ?_
              rw [HIS.out, if_pos rfl, valI_digs]
              rintro e wy12 ⟨rfl, b12⟩
              have hb12 : Below wy11.heap.size wy11 wy12 := b12
              have HL := Lib.hid (HL.out.below hb12)
              have HX3 := Lib.hid (HX3.out.below hb12)
              have HX5 := Lib.hid (HX5.out.below hb12)
              have HX7 := Lib.hid (HX7.out.below hb12)
              have HX8 := Lib.hid (HX8.out.below hb12)
              have HX9 := Lib.hid (HX9.out.below hb12)
              have HX11 := Lib.hid (HX11.out.below hb12)
              have HB12 := Lib.hid (bNext HB11.out hb12)
              clear b12 hb12 
              go_wp2_with fail
              refine (c_known13 _).mono ?_
              rintro e wy13 ⟨rfl, b13⟩
              have hb13 : Below wy12.heap.size wy12 wy13 := b13
              have HL := Lib.hid (HL.out.below hb13)
              have HX3 := Lib.hid (HX3.out.below hb13)
              have HX5 := Lib.hid (HX5.out.below hb13)
              have HX7 := Lib.hid (HX7.out.below hb13)
              have HX8 := Lib.hid (HX8.out.below hb13)
              have HX9 := Lib.hid (HX9.out.below hb13)
              have HX11 := Lib.hid (HX11.out.below hb13)
              have HB13 := Lib.hid (bNext HB12.out hb13)
              clear b13 hb13 
              go_wp2
              go_ret
              exact ⟨rfl, HB13.out⟩
            · have HSE := Lib.hid (show readE st = 5 from by
                unfold readE at hE ⊢
                cases hr : readOK (lets st) with
                | true => rw [hr] at hE; simp at hE
                | false => rfl)
              clear hE
              go_enter Try.func12, Try.ntmps12
              have HB0 := Lib.hid (Below.refl w.heap.size w)
              go_wp2_with fail
              refine (HR.out).mono ?_
              rintro e wz1 ⟨rfl, rfl⟩
              go_wp2_with fail
              refine (s_Text HL.out (by omega)).mono ?_
              rw [← HTT.out]
              rintro e wy2 ⟨rfl, b2⟩
              have hb2 : Below w.heap.size w wy2 := b2
              have HL := Lib.hid (HL.out.below hb2)
              have HB2 := Lib.hid (bNext HB0.out hb2)
              clear b2 hb2 
              go_wp2_with fail
              refine (c_Read TT wy2 (by omega)).mono ?_
              rw [HTE.out, HTN.out]
              rintro e wy3 ⟨a3, k3, c3, rfl, hn3, b3⟩
              have hb3 : Below wy2.heap.size wy2 wy3 := b3
              have HL := Lib.hid (HL.out.below hb3)
              have HB3 := Lib.hid (bNext HB2.out hb3)
              rw [if_pos rfl] at hn3
              have HX3 := Lib.hid hn3.sl
              clear b3 hb3 hn3
              go_wp2_with fail
              refine (s_Same HL.out HX3.out).mono ?_
              rintro e wz4 ⟨rfl, rfl⟩
              rw [decide_eq_true HLD.out.symm]
              go_wp2_with fail
              refine (c_Read st wy3 (by omega)).mono ?_
              rw [HSE.out]
              rintro e wy5 ⟨a5, k5, c5, rfl, hn5, b5⟩
              have hb5 : Below wy3.heap.size wy3 wy5 := b5
              have HL := Lib.hid (HL.out.below hb5)
              have HX3 := Lib.hid (HX3.out.below hb5)
              have HB5 := Lib.hid (bNext HB3.out hb5)
              clear b5 hb5 hn5
              go_wp2_with fail
              refine (c_Of X wy5 (by omega)).mono ?_
              rintro e wy6 ⟨a6, k6, c6, rfl, hn6, b6⟩
              have hb6 : Below wy5.heap.size wy5 wy6 := b6
              have HL := Lib.hid (HL.out.below hb6)
              have HX3 := Lib.hid (HX3.out.below hb6)
              have HB6 := Lib.hid (bNext HB5.out hb6)
              rw [if_pos rfl] at hn6
              have HX6 := Lib.hid hn6.sl
              clear b6 hb6 hn6
              go_wp2_with fail
              refine (c_Of Y wy6 (by omega)).mono ?_
              rintro e wy7 ⟨a7, k7, c7, rfl, hn7, b7⟩
              have hb7 : Below wy6.heap.size wy6 wy7 := b7
              have HL := Lib.hid (HL.out.below hb7)
              have HX3 := Lib.hid (HX3.out.below hb7)
              have HX6 := Lib.hid (HX6.out.below hb7)
              have HB7 := Lib.hid (bNext HB6.out hb7)
              rw [if_pos rfl] at hn7
              have HX7 := Lib.hid hn7.sl
              clear b7 hb7 hn7
              go_wp2_with fail
              refine (n_Mul HX6.out HX7.out HLX.out HLY.out (by omega)).mono ?_
              rintro e wy8 ⟨a8, k8, c8, rfl, hn8, b8⟩
              have hb8 : Below wy7.heap.size wy7 wy8 := b8
              have HL := Lib.hid (HL.out.below hb8)
              have HX3 := Lib.hid (HX3.out.below hb8)
              have HX6 := Lib.hid (HX6.out.below hb8)
              have HX7 := Lib.hid (HX7.out.below hb8)
              have HB8 := Lib.hid (bNext HB7.out hb8)
              rw [if_pos rfl] at hn8
              have HX8 := Lib.hid hn8.sl
              have hk8 : k8 ≤ 100 := by rw [hn8.1]; exact Nat.le_trans (HLX.out.mul HLY.out) (by omega)
              clear b8 hb8 hn8
              go_wp2_with fail
              refine (c_Int _ _ _ (digs (X * Y)) wy8 HX8.out (by omega)).mono ?_
              rw [valI_digs, ← HIV.out, ← HIB.out]
              rintro e wy9 ⟨rfl, b9⟩
              have hb9 : Below wy8.heap.size wy8 wy9 := b9
              have HL := Lib.hid (HL.out.below hb9)
              have HX3 := Lib.hid (HX3.out.below hb9)
              have HX6 := Lib.hid (HX6.out.below hb9)
              have HX7 := Lib.hid (HX7.out.below hb9)
              have HX8 := Lib.hid (HX8.out.below hb9)
              have HB9 := Lib.hid (bNext HB8.out hb9)
              clear b9 hb9 
              go_wp2_with fail
              refine (n_Add1 (HX6.out.alloc _) (HX7.out.alloc _) (Reads.madeAt rfl) (HLX.out.le (by omega)) (HLY.out.le (by omega))).mono ?_
              rintro e wy10 ⟨a10, k10, c10, rfl, hn10, b10⟩
              have hb10 : Below wy9.heap.size wy9 wy10 := ((Below.refl _ wy9).alloc (Nat.le_refl _) _).trans (b10.mono (by simp))
              have HL := Lib.hid (HL.out.below hb10)
              have HX3 := Lib.hid (HX3.out.below hb10)
              have HX6 := Lib.hid (HX6.out.below hb10)
              have HX7 := Lib.hid (HX7.out.below hb10)
              have HX8 := Lib.hid (HX8.out.below hb10)
              have HB10 := Lib.hid (bNext HB9.out hb10)
              rw [if_pos rfl] at hn10
              have HX10 := Lib.hid hn10.sl
              have hk10 : k10 ≤ 100 := by rw [hn10.1]; exact Nat.le_trans (HLX.out.add HLY.out) (by omega)
              clear b10 hb10 hn10
              go_wp2_with fail
              refine (c_Int _ _ _ (digs (X + Y)) wy10 HX10.out (by omega)).mono ?_
              rw [HIS.out, if_pos rfl, valI_digs]
              rintro e wy11 ⟨rfl, b11⟩
              have hb11 : Below wy10.heap.size wy10 wy11 := b11
              have HL := Lib.hid (HL.out.below hb11)
              have HX3 := Lib.hid (HX3.out.below hb11)
              have HX6 := Lib.hid (HX6.out.below hb11)
              have HX7 := Lib.hid (HX7.out.below hb11)
              have HX8 := Lib.hid (HX8.out.below hb11)
              have HX10 := Lib.hid (HX10.out.below hb11)
              have HB11 := Lib.hid (bNext HB10.out hb11)
              clear b11 hb11 
              go_wp2_with fail
              refine (c_known13 _).mono ?_
              rintro e wy12 ⟨rfl, b12⟩
              have hb12 : Below wy11.heap.size wy11 wy12 := b12
              have HL := Lib.hid (HL.out.below hb12)
              have HX3 := Lib.hid (HX3.out.below hb12)
              have HX6 := Lib.hid (HX6.out.below hb12)
              have HX7 := Lib.hid (HX7.out.below hb12)
              have HX8 := Lib.hid (HX8.out.below hb12)
              have HX10 := Lib.hid (HX10.out.below hb12)
              have HB12 := Lib.hid (bNext HB11.out hb12)
              clear b12 hb12 
              go_wp2
              go_ret
              exact ⟨rfl, HB12.out⟩

end Go.Proofs.Ytdafncaehjipbaa
