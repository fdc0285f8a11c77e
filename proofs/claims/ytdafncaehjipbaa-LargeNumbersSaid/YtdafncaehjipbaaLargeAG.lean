/-
  Contracts of package large: Read (of a text that is not long).
-/
import Derived.Test.YtdafncaehjipbaaLargeAD
namespace Go.Proofs.Ytdafncaehjipbaa
open Go.RowKit
set_option linter.unusedVariables false
set_option maxHeartbeats 2000000
set_option maxRecDepth 20000

/-- A text's letters. -/
def lets (s : ByteArray) : List Nat := s.data.toList.map UInt8.toNat
theorem lets_len (s : ByteArray) : (lets s).length = s.size := by simp [lets]
theorem lets_take (s : ByteArray) (k : Nat) (h : k < s.size) : (lets s).take (k + 1) = (lets s).take k ++ [s[k].toNat] := by
  unfold lets
  rw [← List.map_take, ← List.map_take, List.take_succ_eq_append_getElem (by simpa using h), List.map_append]; rfl
theorem lets_at (s : ByteArray) (k : Nat) (h : k < s.size) : (lets s)[k]'(by rw [lets_len]; exact h) = s[k].toNat := by
  simp [lets]; rfl
def isDig (c : Nat) : Bool := decide (48 ≤ c ∧ c ≤ 57)
def numS (l : List Nat) : Nat := l.foldl (fun a c => 10 * a + (c - 48)) 0
theorem numS_snoc (l : List Nat) (c : Nat) : numS (l ++ [c]) = 10 * numS l + (c - 48) := by simp [numS]
/-- Is it a number's text? -/
def readOK (l : List Nat) : Bool := decide (l ≠ []) && l.all isDig && !(decide (l.head? = some 48) && decide (1 < l.length))
def readE (s : ByteArray) : Int := if readOK (lets s) then 0 else 5
theorem numS_lt : ∀ {l : List Nat}, (∀ c ∈ l, isDig c = true) → numS l < 10 ^ l.length := fun {l} h => by
  suffices H : ∀ (k : Nat) (l : List Nat), l.length = k → (∀ c ∈ l, isDig c = true) → numS l < 10 ^ l.length from H _ l rfl h
  intro k
  induction k with
  | zero => intro l hl _; rw [List.eq_nil_of_length_eq_zero hl]; decide
  | succ k ih =>
    intro l hl hd
    rcases List.eq_nil_or_concat l with rfl | ⟨q, x, rfl⟩
    · simp at hl
    · rw [List.concat_eq_append] at hl hd ⊢
      have hq := ih q (by simpa using hl) (fun c hc => hd c (by simp [hc]))
      have hx := of_decide_eq_true (hd x (by simp))
      rw [numS_snoc, List.length_append, List.length_singleton, Nat.pow_succ]
      omega
theorem num_LB {l : List Nat} (h : ∀ c ∈ l, isDig c = true) (hl : l.length ≤ 300) : LB (numS l) 150 := by
  refine LB.of (Nat.lt_of_lt_of_le (numS_lt h) ?_)
  refine Nat.le_trans (Nat.pow_le_pow_left (show 10 ≤ 16 by omega) _) ?_
  obtain ⟨F, hF⟩ : ∃ F, F = 150 := ⟨_, rfl⟩
  rw [← hF, show (256 : Nat) ^ F = 16 ^ (2 * F) from by rw [Nat.pow_mul]]
  exact Nat.pow_le_pow_right (by omega) (by omega)
theorem readOK_bad {l : List Nat} {k : Nat} (hk : k < l.length) (h : isDig l[k] = false) : readOK l = false := by
  unfold readOK
  have : l.all isDig = false := by
    rw [List.all_eq_false]
    exact ⟨l[k], List.getElem_mem hk, by rw [h]; simp⟩
  rw [this]; simp
theorem readOK_nil : readOK [] = false := by decide
theorem readOK_zero {l : List Nat} (h : l.head? = some 48) (h1 : 1 < l.length) : readOK l = false := by
  unfold readOK
  rw [decide_eq_true h, decide_eq_true h1]; simp
theorem readOK_yes {l : List Nat} (h0 : l ≠ []) (hd : ∀ c ∈ l, isDig c = true) (hz : ¬ (l.head? = some 48 ∧ 1 < l.length)) : readOK l = true := by
  unfold readOK
  rw [decide_eq_true h0, List.all_eq_true.2 hd]
  by_cases h : l.head? = some 48
  · have : ¬ 1 < l.length := fun h1 => hz ⟨h, h1⟩
    rw [decide_eq_false this]; simp
  · rw [decide_eq_false h]; simp
theorem lets_head (s : ByteArray) (h : 0 < s.size) : (lets s).head? = some s[0].toNat := by
  rw [List.head?_eq_getElem?, List.getElem?_eq_getElem (by rw [lets_len]; exact h)]
  exact congrArg some (lets_at s 0 h)

theorem k10 : digs 10 = [10] := by
  have := digs_of (l := [10]) (Byt.nil.cons (by omega)) (.inr (by decide))
  rwa [show valI [10] = 10 from by decide] at this

theorem c_Read (s : ByteArray) (w : World) (hs : s.size ≤ 300) : Calls Try.prog 30 #[.string s] w (ResPost w (readE s) (numS (lets s))) := by
  by_cases h0 : s.size = 0
  · have hE : readE s = 5 := by unfold readE; rw [List.eq_nil_of_length_eq_zero (l := lets s) (by rw [lets_len]; exact h0), readOK_nil]; rfl
    rw [hE]
    have hse : s = ⟨#[]⟩ := ByteArray.ext (Array.eq_empty_of_size_eq_zero h0)
    clear hE h0 hs
    subst hse
    go_enter Try.func30, Try.ntmps30
    go_wp2
    go_ret2
    exact ⟨none, 0, 0, rfl, by rw [if_neg (by decide)]; exact numAt_nil w, Below.refl _ _⟩
  · have hpos : 0 < s.size := by omega
    have hTL : s.toList = s.data.toList := ByteArray.toList_eq s
    obtain ⟨T, hT⟩ : ∃ T, T = s.toList := ⟨_, rfl⟩
    have hTn : T ≠ [] := by
      rw [hT, hTL]
      intro h
      have h5 : s.data.toList.length = s.size := by simp
      rw [h] at h5
      simp at h5
      omega
    have n1 : (s.toList = []) = False := by rw [← hT]; exact eq_false hTn
    have n2 : s.toList.isEmpty = false := by
      rw [← hT]; cases T with
      | nil => exact absurd rfl hTn
      | cons a b => rfl
    by_cases hz : (lets s).head? = some 48 ∧ 1 < (lets s).length
    · have hE : readE s = 5 := by unfold readE; rw [readOK_zero hz.1 hz.2]; rfl
      rw [hE]
      rw [lets_head s hpos] at hz
      have hc : ((s[0].toNat : Nat) : Int) = 48 := by have := hz.1; simp only [Option.some.injEq] at this; omega
      have n3 : (s.toList == [48]) = false := by
        rw [hTL]
        simp only [beq_eq_false_iff_ne, ne_eq]
        intro h
        have := congrArg List.length h
        have h2 := hz.2
        rw [lets_len] at h2
        simp at this
        omega
      clear hE hz hT hTn hTL
      go_enter Try.func30, Try.ntmps30
      go_wp2
      go_ret2
      exact ⟨none, 0, 0, rfl, by rw [if_neg (by decide)]; exact numAt_nil w, Below.refl _ _⟩
    · have HZ := Lib.hid (show lets s ≠ [] ∧ ¬ ((lets s).head? = some 48 ∧ 1 < (lets s).length) from ⟨fun h => by have := lets_len s; rw [h] at this; simp at this; omega, hz⟩)
      by_cases hc48 : s[0].toNat = 48
      · have hc : ((s[0].toNat : Nat) : Int) = 48 := by omega
        have n3 : (s.toList == [48]) = true := by
          rw [hTL]
          have h1 : s.size = 1 := by
            by_cases h : s.size = 1
            · exact h
            · exact absurd ⟨by rw [lets_head s hpos, hc48], by rw [lets_len]; omega⟩ hz
          rw [beq_iff_eq]
          have h2 : s.data.toList.length = 1 := by simpa using h1
          obtain ⟨x, hx⟩ := List.length_eq_one_iff.1 h2
          rw [hx]
          have h3 : s[0] = x := by
            show s.data[0] = x
            have : s.data.toList[0]'(by rw [h2]; omega) = x := by simp only [hx]; rfl
            simpa using this
          rw [← h3]
          congr 1
          exact UInt8.toNat_inj.1 (by rw [hc48]; rfl)
        clear hz hT hTn hTL hc48
        go_enter Try.func30, Try.ntmps30
        go_wp2_with fail
        go_loopw [4, 5, 23] (fun lg v i wr => ∃ (k : Nat) (a : Option Addr) (ka ca : Nat), k ≤ s.size ∧ lg = .bool false ∧ i = .int .i64 k ∧ v = .slice a ka ca ∧ ka ≤ 150 ∧ Hid (SlAt wr a ka ca (digs (numS ((lets s).take k)))) ∧ Hid (∀ c ∈ (lets s).take k, isDig c = true) ∧ Hid (Below w.heap.size w wr)) (fun _ _ i _ => s.size - (intOf i).toNat)
        case atStart => exact ⟨0, none, 0, 0, Nat.zero_le _, rfl, rfl, rfl, by omega, by show SlAt _ _ _ _ _; simp only [List.take_zero, numS, List.foldl_nil, digs_0]; exact SlAt.nil w, fun c hc => by simp at hc, Below.refl _ _⟩
        case round =>
          obtain ⟨k, a, ka, ca, hk, rfl, rfl, rfl, hka, hsl, hdg, hbel⟩ := hrel
          by_cases hlt : k < s.size
          · obtain ⟨c, hc⟩ : ∃ c, c = s[k].toNat := ⟨_, rfl⟩
            have hcb : c ≤ 255 := by rw [hc]; have := s[k].toNat_lt; omega
            have hts := lets_take s k hlt
            have hla := lets_at s k hlt
            rw [← hc] at hts hla
            have hci : ((s[k].toNat : Nat) : Int) = (c : Int) := by rw [hc]
            have HC := Lib.hid (And.intro hc (And.intro hts hla))
            by_cases hd : 48 ≤ c ∧ c ≤ 57
            · have hd1 : ((c : Int) < 48) = False := eq_false (by omega)
              have hd2 : ((57 : Int) < c) = False := eq_false (by omega)
              have hd3 : ((c : Int) > 57) = False := eq_false (by omega)
              obtain ⟨d, hdd⟩ : ∃ d, c = d + 48 := ⟨c - 48, by omega⟩
              have hd9 : d ≤ 9 := by omega
              have hdi : (c : Int) - 48 = (d : Int) := by omega
              have HDG := Lib.hid (show ∀ z ∈ (lets s).take (k + 1), isDig z = true from by
                rw [hts]
                intro z hz
                rcases List.mem_append.1 hz with hz | hz
                · exact hdg.out z hz
                · simp only [List.mem_singleton] at hz
                  rw [hz]; exact decide_eq_true hd)
              have HNX := Lib.hid (show numS ((lets s).take (k + 1)) = numS ((lets s).take k) * 10 + d from by
                rw [hts, numS_snoc, Nat.mul_comm, show c - 48 = d from by omega])
              have HLB := Lib.hid (num_LB HDG.out (by rw [List.length_take]; omega))
              have HLA := Lib.hid (num_LB hdg.out (by rw [List.length_take]; omega))
              obtain ⟨A, hA⟩ : ∃ A, A = numS ((lets s).take k) := ⟨_, rfl⟩
              rw [← hA] at hsl HNX HLA
              clear hc hts hla hd hA hdd
              go_wp2_with fail
              refine (n_Mul (X := A) (Y := 10) (hsl.out.alloc _) (show SlAt _ _ _ _ (digs 10) from by rw [k10]; exact sl1 _ 10 _ _ rfl (by omega)) HLA.out (LB.of (k := 1) (by omega)) (by omega)).mono ?_
              rintro e wy1 ⟨a1, k1, c1, rfl, hn1, b1⟩
              rw [if_pos rfl] at hn1
              have hb1 : Below wr.heap.size wr wy1 := ((Below.refl _ wr).alloc (Nat.le_refl _) _).trans (b1.mono (by simp))
              have HN1 := Lib.hid hn1
              have HB1 := Lib.hid (bNext hbel.out hb1)
              have hk1 : k1 ≤ 151 := by rw [hn1.1]; exact HLA.out.mul (j := 1) (LB.of (by omega))
              clear hn1 b1 hb1
              go_wp2_with fail
              have hslc := sl1 wy1 (d : Int) 5 wy1.heap.size rfl (by omega)
              refine (c_cut _ 1 1 [(d : Int)] _ rfl hslc.rd hslc.byt (by omega) (by omega)).mono ?_
              rintro e w' ⟨⟨k2, rfl, hq2⟩, rfl⟩
              rw [show valI [(d : Int)] = d from by simp [valI]] at hq2
              have hk2 : k2 ≤ 1 := by rw [hq2.1]; exact digs_len (by omega)
              have hn1a := HN1.out.below ((Below.refl _ wy1).alloc (Nat.le_refl _) (.cells #[.int .u8 (d : Int)] 5))
              have HPL := Lib.hid (c_plus a1 (some ⟨wy1.heap.size, 0, none⟩) k1 k2 c1 k2 (digs (A * 10)) (digs d) _ hn1a.1 hq2.1 hn1a.2.2.2 hq2.2.2.2 (byt_digs _) (byt_digs _) (by omega) (by omega))
              rw [valI_digs, valI_digs, ← HNX.out] at HPL
              clear hslc hq2 hn1a
              go_wp2_with fail
              refine HPL.out.mono ?_
              clear HPL
              rintro e wy2 ⟨a3, k3, c3, rfl, hn3, -, b3⟩
              have hb3 : Below wy1.heap.size wy1 wy2 := ((Below.refl _ wy1).alloc (Nat.le_refl _) _).trans (b3.mono (by simp))
              have HN3 := Lib.hid hn3.sl
              have hk3 : k3 ≤ 150 := by rw [hn3.1]; exact HLB.out
              have HB3 := Lib.hid (bNext HB1.out hb3)
              clear hn3 b3 hb3
              go_wp2
              go_roundw
              case rel => exact ⟨k + 1, a3, k3, c3, by omega, rfl, by go_num, rfl, hk3, HN3.out, HDG.out, HB3.out⟩
              case measure => simp [intOf]; omega
            · have HE := Lib.hid (show readE s = 5 from by
                unfold readE
                rw [readOK_bad (l := lets s) (k := k) (by rw [lets_len]; exact hlt) (by rw [hla]; exact decide_eq_false hd)]; rfl)
              by_cases hd1 : c < 48
              · have hd2 : (c : Int) < 48 := by omega
                clear hc hts hla hd
                go_wp2
                go_ret2
                exact ⟨none, 0, 0, by rw [HE.out]; rfl, by rw [HE.out, if_neg (by decide)]; exact numAt_nil wr, hbel.out⟩
              · have hd2 : ((c : Int) < 48) = False := eq_false (by omega)
                have hd3 : (57 : Int) < c := by omega
                clear hc hts hla hd
                go_wp2
                go_ret2
                exact ⟨none, 0, 0, by rw [HE.out]; rfl, by rw [HE.out, if_neg (by decide)]; exact numAt_nil wr, hbel.out⟩
          · have hki : ((k : Int) < (s.size : Int)) = False := eq_false (by omega)
            have hke : (lets s).take k = lets s := List.take_of_length_le (by rw [lets_len]; omega)
            rw [hke] at hsl hdg
            have HE := Lib.hid (show readE s = 0 from by
              unfold readE
              rw [readOK_yes HZ.out.1 hdg.out HZ.out.2]; rfl)
            have HLB := Lib.hid (num_LB hdg.out (by rw [lets_len]; exact hs))
            have HT := Lib.hid (c_told a ka ca (digs (numS (lets s))) wr hsl.out.len hsl.out.rd (byt_digs _) hsl.out.cap (by omega))
            rw [valI_digs, fullE_ok HLB.out (by omega)] at HT
            clear hke hlt
            go_wp2_with fail
            refine HT.out.mono ?_
            rintro e wy5 ⟨a5, k5, c5, rfl, hn5, b5⟩
            rw [if_pos rfl] at hn5
            have HN5 := Lib.hid hn5
            have HB5 := Lib.hid (bNext hbel.out b5)
            clear hn5 b5
            go_wp2
            go_ret2
            exact ⟨a5, k5, c5, by rw [HE.out]; rfl, by rw [HE.out, if_pos rfl]; exact HN5.out, HB5.out⟩
      · have hc : ¬ ((s[0].toNat : Nat) : Int) = 48 := by omega
        have hc2 : ((((s[0].toNat : Nat) : Int)) == 48) = false := by simpa using hc
        clear hz hT hTn hTL hc48
        go_enter Try.func30, Try.ntmps30
        go_wp2_with fail
        go_loopw [4, 5, 23] (fun lg v i wr => ∃ (k : Nat) (a : Option Addr) (ka ca : Nat), k ≤ s.size ∧ lg = .bool false ∧ i = .int .i64 k ∧ v = .slice a ka ca ∧ ka ≤ 150 ∧ Hid (SlAt wr a ka ca (digs (numS ((lets s).take k)))) ∧ Hid (∀ c ∈ (lets s).take k, isDig c = true) ∧ Hid (Below w.heap.size w wr)) (fun _ _ i _ => s.size - (intOf i).toNat)
        case atStart => exact ⟨0, none, 0, 0, Nat.zero_le _, rfl, rfl, rfl, by omega, by show SlAt _ _ _ _ _; simp only [List.take_zero, numS, List.foldl_nil, digs_0]; exact SlAt.nil w, fun c hc => by simp at hc, Below.refl _ _⟩
        case round =>
          obtain ⟨k, a, ka, ca, hk, rfl, rfl, rfl, hka, hsl, hdg, hbel⟩ := hrel
          by_cases hlt : k < s.size
          · obtain ⟨c, hc⟩ : ∃ c, c = s[k].toNat := ⟨_, rfl⟩
            have hcb : c ≤ 255 := by rw [hc]; have := s[k].toNat_lt; omega
            have hts := lets_take s k hlt
            have hla := lets_at s k hlt
            rw [← hc] at hts hla
            have hci : ((s[k].toNat : Nat) : Int) = (c : Int) := by rw [hc]
            have HC := Lib.hid (And.intro hc (And.intro hts hla))
            by_cases hd : 48 ≤ c ∧ c ≤ 57
            · have hd1 : ((c : Int) < 48) = False := eq_false (by omega)
              have hd2 : ((57 : Int) < c) = False := eq_false (by omega)
              have hd3 : ((c : Int) > 57) = False := eq_false (by omega)
              obtain ⟨d, hdd⟩ : ∃ d, c = d + 48 := ⟨c - 48, by omega⟩
              have hd9 : d ≤ 9 := by omega
              have hdi : (c : Int) - 48 = (d : Int) := by omega
              have HDG := Lib.hid (show ∀ z ∈ (lets s).take (k + 1), isDig z = true from by
                rw [hts]
                intro z hz
                rcases List.mem_append.1 hz with hz | hz
                · exact hdg.out z hz
                · simp only [List.mem_singleton] at hz
                  rw [hz]; exact decide_eq_true hd)
              have HNX := Lib.hid (show numS ((lets s).take (k + 1)) = numS ((lets s).take k) * 10 + d from by
                rw [hts, numS_snoc, Nat.mul_comm, show c - 48 = d from by omega])
              have HLB := Lib.hid (num_LB HDG.out (by rw [List.length_take]; omega))
              have HLA := Lib.hid (num_LB hdg.out (by rw [List.length_take]; omega))
              obtain ⟨A, hA⟩ : ∃ A, A = numS ((lets s).take k) := ⟨_, rfl⟩
              rw [← hA] at hsl HNX HLA
              clear hc hts hla hd hA hdd
              go_wp2_with fail
              refine (n_Mul (X := A) (Y := 10) (hsl.out.alloc _) (show SlAt _ _ _ _ (digs 10) from by rw [k10]; exact sl1 _ 10 _ _ rfl (by omega)) HLA.out (LB.of (k := 1) (by omega)) (by omega)).mono ?_
              rintro e wy1 ⟨a1, k1, c1, rfl, hn1, b1⟩
              rw [if_pos rfl] at hn1
              have hb1 : Below wr.heap.size wr wy1 := ((Below.refl _ wr).alloc (Nat.le_refl _) _).trans (b1.mono (by simp))
              have HN1 := Lib.hid hn1
              have HB1 := Lib.hid (bNext hbel.out hb1)
              have hk1 : k1 ≤ 151 := by rw [hn1.1]; exact HLA.out.mul (j := 1) (LB.of (by omega))
              clear hn1 b1 hb1
              go_wp2_with fail
              have hslc := sl1 wy1 (d : Int) 5 wy1.heap.size rfl (by omega)
              refine (c_cut _ 1 1 [(d : Int)] _ rfl hslc.rd hslc.byt (by omega) (by omega)).mono ?_
              rintro e w' ⟨⟨k2, rfl, hq2⟩, rfl⟩
              rw [show valI [(d : Int)] = d from by simp [valI]] at hq2
              have hk2 : k2 ≤ 1 := by rw [hq2.1]; exact digs_len (by omega)
              have hn1a := HN1.out.below ((Below.refl _ wy1).alloc (Nat.le_refl _) (.cells #[.int .u8 (d : Int)] 5))
              have HPL := Lib.hid (c_plus a1 (some ⟨wy1.heap.size, 0, none⟩) k1 k2 c1 k2 (digs (A * 10)) (digs d) _ hn1a.1 hq2.1 hn1a.2.2.2 hq2.2.2.2 (byt_digs _) (byt_digs _) (by omega) (by omega))
              rw [valI_digs, valI_digs, ← HNX.out] at HPL
              clear hslc hq2 hn1a
              go_wp2_with fail
              refine HPL.out.mono ?_
              clear HPL
              rintro e wy2 ⟨a3, k3, c3, rfl, hn3, -, b3⟩
              have hb3 : Below wy1.heap.size wy1 wy2 := ((Below.refl _ wy1).alloc (Nat.le_refl _) _).trans (b3.mono (by simp))
              have HN3 := Lib.hid hn3.sl
              have hk3 : k3 ≤ 150 := by rw [hn3.1]; exact HLB.out
              have HB3 := Lib.hid (bNext HB1.out hb3)
              clear hn3 b3 hb3
              go_wp2
              go_roundw
              case rel => exact ⟨k + 1, a3, k3, c3, by omega, rfl, by go_num, rfl, hk3, HN3.out, HDG.out, HB3.out⟩
              case measure => simp [intOf]; omega
            · have HE := Lib.hid (show readE s = 5 from by
                unfold readE
                rw [readOK_bad (l := lets s) (k := k) (by rw [lets_len]; exact hlt) (by rw [hla]; exact decide_eq_false hd)]; rfl)
              by_cases hd1 : c < 48
              · have hd2 : (c : Int) < 48 := by omega
                clear hc hts hla hd
                go_wp2
                go_ret2
                exact ⟨none, 0, 0, by rw [HE.out]; rfl, by rw [HE.out, if_neg (by decide)]; exact numAt_nil wr, hbel.out⟩
              · have hd2 : ((c : Int) < 48) = False := eq_false (by omega)
                have hd3 : (57 : Int) < c := by omega
                clear hc hts hla hd
                go_wp2
                go_ret2
                exact ⟨none, 0, 0, by rw [HE.out]; rfl, by rw [HE.out, if_neg (by decide)]; exact numAt_nil wr, hbel.out⟩
          · have hki : ((k : Int) < (s.size : Int)) = False := eq_false (by omega)
            have hke : (lets s).take k = lets s := List.take_of_length_le (by rw [lets_len]; omega)
            rw [hke] at hsl hdg
            have HE := Lib.hid (show readE s = 0 from by
              unfold readE
              rw [readOK_yes HZ.out.1 hdg.out HZ.out.2]; rfl)
            have HLB := Lib.hid (num_LB hdg.out (by rw [lets_len]; exact hs))
            have HT := Lib.hid (c_told a ka ca (digs (numS (lets s))) wr hsl.out.len hsl.out.rd (byt_digs _) hsl.out.cap (by omega))
            rw [valI_digs, fullE_ok HLB.out (by omega)] at HT
            clear hke hlt
            go_wp2_with fail
            refine HT.out.mono ?_
            rintro e wy5 ⟨a5, k5, c5, rfl, hn5, b5⟩
            rw [if_pos rfl] at hn5
            have HN5 := Lib.hid hn5
            have HB5 := Lib.hid (bNext hbel.out b5)
            clear hn5 b5
            go_wp2
            go_ret2
            exact ⟨a5, k5, c5, by rw [HE.out]; rfl, by rw [HE.out, if_pos rfl]; exact HN5.out, HB5.out⟩

end Go.Proofs.Ytdafncaehjipbaa
