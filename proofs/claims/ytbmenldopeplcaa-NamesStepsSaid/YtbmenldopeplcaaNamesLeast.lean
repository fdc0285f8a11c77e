/-
  The walk of the law NamesLeast.
-/
import Derived.Test.YtbmenldopeplcaaNamesNew
namespace Go.Proofs.Ytbmenldopeplcaa
open Go.RowKit
set_option linter.unusedVariables false
set_option maxHeartbeats 2000000
set_option maxRecDepth 100000

theorem bind_arg {l : List Int} {id : Int} (h : id < 1) : bindS l id = 0 ∧ bindE l id = 2 ∧ bindL l id = l := by
  simp only [bindS, bindE, bindL, if_pos h]
  exact ⟨trivial, trivial, trivial⟩
theorem bind_old {l : List Int} {id : Int} (h : 1 ≤ id) (hf : find8 l id ≠ 0) : bindS l id = find8 l id ∧ bindE l id = 0 ∧ bindL l id = l := by
  have h0 : ¬ id < 1 := by omega
  simp only [bindS, bindE, bindL, if_neg h0, if_pos hf]
  exact ⟨trivial, trivial, trivial⟩
theorem bind_new {l : List Int} {id : Int} {k : Nat} (h : 1 ≤ id) (hf : find8 l id = 0) (hi : idx l 0 = some k) : bindS l id = k + 1 ∧ bindE l id = 0 ∧ bindL l id = l.set k id := by
  have h0 : ¬ id < 1 := by omega
  simp only [bindS, bindE, bindL, if_neg h0, hf, ne_eq, not_true_eq_false, if_false, hi]
  exact ⟨trivial, trivial, trivial⟩
theorem bind_full {l : List Int} {id : Int} (h : 1 ≤ id) (hf : find8 l id = 0) (hi : idx l 0 = none) : bindS l id = 0 ∧ bindE l id = 3 ∧ bindL l id = l := by
  have h0 : ¬ id < 1 := by omega
  simp only [bindS, bindE, bindL, if_neg h0, hf, ne_eq, not_true_eq_false, if_false, hi]
  exact ⟨trivial, trivial, trivial⟩

/-- The first n are bound, and no others. -/
def Packed (n : Nat) (l : List Int) : Prop := n ≤ l.length ∧ (∀ i, i < n → l.getD i 0 ≠ 0) ∧ ∀ i, n ≤ i → l.getD i 0 = 0

theorem Packed.zero (N : Nat) : Packed 0 (List.replicate N 0) := ⟨Nat.zero_le _, fun i hi => by omega, fun i _ => zeros_getD _ _⟩
theorem Packed.live : ∀ {n : Nat} {l : List Int}, Packed n l → live l = n
  | 0, [], _ => rfl
  | n + 1, [], h => by have := h.1; simp at this
  | 0, a :: l, h => by
    have ha := h.2.2 0 (by omega)
    rw [List.getD_cons_zero] at ha
    rw [live_cons, if_pos ha, Packed.live (n := 0) (l := l) ⟨Nat.zero_le _, fun i hi => by omega, fun i hi => by have := h.2.2 (i + 1) (by omega); rwa [List.getD_cons_succ] at this⟩]
  | n + 1, a :: l, h => by
    have ha := h.2.1 0 (by omega)
    rw [List.getD_cons_zero] at ha
    rw [live_cons, if_neg ha, Packed.live (n := n) (l := l) ⟨by have := h.1; simp at this; omega, fun i hi => by have := h.2.1 (i + 1) (by omega); rwa [List.getD_cons_succ] at this, fun i hi => by have := h.2.2 (i + 1) (by omega); rwa [List.getD_cons_succ] at this⟩]
    omega
theorem Packed.idx {n : Nat} {l : List Int} (h : Packed n l) (hn : n < l.length) : idx l 0 = some n := idx_some hn (h.2.2 n (Nat.le_refl _)) h.2.1
theorem Packed.bind {n : Nat} {l : List Int} (h : Packed n l) (hn : n < l.length) {id : Int} (hid : id ≠ 0) : Packed (n + 1) (l.set n id) := by
  refine ⟨by rw [List.length_set]; omega, fun i hi => ?_, fun i hi => ?_⟩
  · by_cases he : n = i
    · subst he; rw [getD_set_same hn]; exact hid
    · rw [getD_set_other he]; exact h.2.1 i (by omega)
  · rw [getD_set_other (by omega)]; exact h.2.2 i (by omega)
theorem Packed.has {n : Nat} {l : List Int} (h : Packed n l) {k : Nat} (hk : k < n) : has8 l ((k : Int) + 1) = true := by
  rw [show (k : Int) + 1 = ((k + 1 : Nat) : Int) from by simp]
  exact has8_of (by have := h.1; omega) (h.2.1 k hk)

theorem find8_not {l : List Int} {id : Int} (h : find8 l id = 0) (h1 : 1 ≤ id) : id ∉ l := by
  unfold find8 at h
  rw [if_neg (by omega)] at h
  cases hi : Go.Proofs.Ytbmenldopeplcaa.idx l id with
  | none => exact idx_not hi
  | some k => rw [hi] at h; simp at h
theorem find8_no {l : List Int} {id : Int} (h : id ∉ l) : find8 l id = 0 := by
  unfold find8
  split
  · rfl
  · rw [idx_none (fun j hj he => h (by rw [← he]; exact getD_mem hj))]
theorem not_set {l : List Int} {id x : Int} {k : Nat} (h : id ∉ l) (hx : id ≠ x) : id ∉ l.set k x := fun hm => by
  rcases List.mem_or_eq_of_mem_set hm with h1 | h1
  · exact h h1
  · exact hx h1

/-- One slot of the first n is freed, and bound again. -/
theorem packed_again {n : Nat} {l : List Int} (h : Packed n l) {k : Nat} (hk : k < n) {id : Int} (h1 : 1 ≤ id) (hf : find8 l id = 0) :
    bindS (l.set k 0) id = k + 1 ∧ bindE (l.set k 0) id = 0 ∧ bindL (l.set k 0) id = l.set k id := by
  have hl := h.1
  have hn := find8_no (not_set (k := k) (find8_not hf h1) (x := 0) (by omega))
  have hi : Go.Proofs.Ytbmenldopeplcaa.idx (l.set k 0) 0 = some k := idx_some (by rw [List.length_set]; omega) (getD_set_same (by omega) 0) (fun j hj => by
    rw [getD_set_other (by omega)]; exact h.2.1 j (by omega))
  have := bind_new h1 hn hi
  rwa [List.set_set] at this

theorem Packed.put {n : Nat} {l : List Int} (h : Packed n l) {k : Nat} (hk : k < n) {id : Int} (h1 : id ≠ 0) : Packed n (l.set k id) := by
  have hl := h.1
  refine ⟨by rw [List.length_set]; exact hl, fun i hi => ?_, fun i hi => ?_⟩
  · by_cases he : k = i
    · subst he; rw [getD_set_same (by omega)]; exact h1
    · rw [getD_set_other he]; exact h.2.1 i hi
  · rw [getD_set_other (by omega)]; exact h.2.2 i hi

theorem law_NamesLeast (a0 : Option Addr) (len0 cap0 : Nat) (z0 : List Int) (a1 : Int) (a2 : Int) (w : World) (w0 : Came .i64 w a0 len0 cap0 z0) (w1 : (Lit.int .u8 a1).wf = true) (w2 : (Lit.int .i64 a2).wf = true) :
    Calls Try.prog 8 #[.slice a0 len0 cap0, .int .u8 a1, .int .i64 a2] w fun e w' => e = .returned (.bool true) ∧ Below w.heap.size w w' := by
  obtain ⟨b0, b1⟩ := bounds_u8 w1
  obtain ⟨b2, b3⟩ := bounds_i64 w2
  obtain ⟨ls, el, hc0, hm0, hr0, hw0⟩ := w0.reads
  have hI : I64 ls := fun x hx => bounds_i64 (hw0 x hx)
  unfold maxLen at hm0
  have EL := Lib.hid el
  have HI := Lib.hid hI
  have HR := Lib.hid hr0
  clear el hI hr0 hw0 w0 w1 w2
  by_cases h100 : 100 < len0
  · go_enter Try.func8, Try.ntmps8
    go_wp2_with (go_at_call 28; refine (c_known08 _).mono ?_; rintro e w' ⟨rfl, hbel⟩)
    go_ret
    exact ⟨rfl, hbel⟩
  · have hle : len0 ≤ 100 := by omega
    clear h100
    go_enter Try.func8, Try.ntmps8
    go_wp2_with fail
    refine (c_NewTYes 200 _ (by decide)).mono ?_
    rintro e w1 ⟨t, gi, gh, rfl, h1, h2, h3, T1, U1⟩
    have HIN := Lib.hid (show ∀ k ∈ [t, gi, gh], w.heap.size ≤ k from fun k hk => by simp at hk; rcases hk with rfl | rfl | rfl <;> assumption)
    have HT1 := Lib.hid T1
    have HU1 := Lib.hid (U1.mono (m := [t, gi, gh]) (by simp))
    clear T1 U1 h1 h2 h3
    go_wp2_with fail
    go_loopw [9, 10] (fun v i wr => ∃ (k n : Nat) (l : List Int), k ≤ len0 ∧ n ≤ k ∧ v = .int .i64 n ∧ i = .int .i64 k ∧ Hid (Packed n l) ∧ Hid (Tab wr t gi gh 200 l) ∧ Hid (Upd [t, gi, gh] w wr)) (fun _ i _ => len0 - (intOf i).toNat)
    case atStart => exact ⟨0, 0, _, Nat.zero_le _, Nat.le_refl _, rfl, rfl, Packed.zero _, HT1.out, HU1.out⟩
    case round =>
      obtain ⟨k, n, l, hk, hnk, rfl, rfl, HP, HT, HU⟩ := hrel
      have HB := Lib.hid (HU.out.below (Nat.le_refl _) HIN.out)
      by_cases hlt : k < len0
      · have hlt2 : k < ls.length := by have := EL.out; omega
        obtain ⟨b, off, rfl, hblt, hc⟩ := (HR.out.below HB.out).at (by simp; omega)
        have hcell := hc k _ (getD_map8 hlt2)
        have hx := HI.out _ (getD_mem hlt2)
        obtain ⟨x, hxe⟩ : ∃ x, x = ls.getD k 0 := ⟨_, rfl⟩
        rw [← hxe] at hcell hx
        have HLen := Lib.hid (c_LenT t gi gh 200 l wr HT.out)
        rw [HP.out.live] at HLen
        have HXE := Lib.hid hxe
        obtain ⟨wA, rfl⟩ : ∃ x, x = wr := ⟨_, rfl⟩
        clear hc hxe
        by_cases hx1 : x < 1
        · obtain ⟨e1, e2, e3⟩ := bind_arg (l := l) hx1
          have HBind := Lib.hid (c_BindTo t gi gh 200 l wA HT.out x hx.2 0 2 l (by rw [e1]; rfl) e2 e3)
          clear e1 e2 e3
          go_wp2_with (first
            | (go_at_call 30; refine HLen.out.mono ?_; rintro e w' ⟨rfl, rfl⟩)
            | (go_at_call 31; refine HBind.out.mono ?_))
          rintro e w4 ⟨rfl, T4, U4⟩
          have HT4 := Lib.hid T4
          have HU4 := Lib.hid (HU.out.trans U4)
          have k4 := (HR.out.below (HU4.out.below (Nat.le_refl _) HIN.out)).at (by simp; omega)
          obtain ⟨b', off', hbo, -, hc4⟩ := k4
          cases hbo
          have hcell4 := hc4 k _ (getD_map8 hlt2)
          rw [← HXE.out] at hcell4
          clear hc4 T4 U4 hcell
          go_wp2
          go_roundw
          case rel => exact ⟨k + 1, n, l, by omega, by omega, rfl, by go_num, HP.out, HT4.out, HU4.out⟩
          case measure => simp [intOf]; omega
        · have hx2 : 1 ≤ x := by omega
          have hlen := HT.out.len
          by_cases hf : find8 l x = 0
          · obtain ⟨e1, e2, e3⟩ := bind_new hx2 hf (HP.out.idx (by omega))
            have HBind := Lib.hid (c_BindTo t gi gh 200 l wA HT.out x hx.2 ((n : Int) + 1) 0 _ (by rw [e1]; rfl) e2 e3)
            have HP2 := Lib.hid (HP.out.bind (by omega) (show x ≠ 0 by omega))
            clear e1 e2 e3 hf
            go_wp2_with (first
              | (go_at_call 30; refine HLen.out.mono ?_; rintro e w' ⟨rfl, rfl⟩)
              | (go_at_call 31; refine HBind.out.mono ?_))
            rintro e w4 ⟨rfl, T4, U4⟩
            have HT4 := Lib.hid T4
            have HU4 := Lib.hid (HU.out.trans U4)
            have k4 := (HR.out.below (HU4.out.below (Nat.le_refl _) HIN.out)).at (by simp; omega)
            obtain ⟨b', off', hbo, -, hc4⟩ := k4
            cases hbo
            have hcell4 := hc4 k _ (getD_map8 hlt2)
            rw [← HXE.out] at hcell4
            have HLen4 := Lib.hid (c_LenT t gi gh 200 _ w4 HT4.out)
            rw [HP2.out.live] at HLen4
            clear hc4 T4 U4 hcell HLen
            go_wp2_with (go_at_call 30; refine HLen4.out.mono ?_; rintro e w' ⟨rfl, rfl⟩)
            go_roundw
            case rel => exact ⟨k + 1, n + 1, _, by omega, by omega, rfl, by go_num, HP2.out, HT4.out, HU4.out⟩
            case measure => simp [intOf]; omega
          · obtain ⟨e1, e2, e3⟩ := bind_old hx2 hf
            have HBind := Lib.hid (c_BindTo t gi gh 200 l wA HT.out x hx.2 (find8 l x) 0 l (by rw [e1]) e2 e3)
            clear e1 e2 e3 hf
            generalize find8 l x = s at *
            go_wp2_with (first
              | (go_at_call 30; refine HLen.out.mono ?_; rintro e w' ⟨rfl, rfl⟩)
              | (go_at_call 31; refine HBind.out.mono ?_))
            rintro e w4 ⟨rfl, T4, U4⟩
            have HT4 := Lib.hid T4
            have HU4 := Lib.hid (HU.out.trans U4)
            have k4 := (HR.out.below (HU4.out.below (Nat.le_refl _) HIN.out)).at (by simp; omega)
            obtain ⟨b', off', hbo, -, hc4⟩ := k4
            cases hbo
            have hcell4 := hc4 k _ (getD_map8 hlt2)
            rw [← HXE.out] at hcell4
            have HLen4 := Lib.hid (c_LenT t gi gh 200 _ w4 HT4.out)
            rw [HP.out.live] at HLen4
            clear hc4 T4 U4 hcell HLen
            go_wp2_with (go_at_call 30; refine HLen4.out.mono ?_; rintro e w' ⟨rfl, rfl⟩)
            go_roundw
            case rel => exact ⟨k + 1, n, l, by omega, by omega, rfl, by go_num, HP.out, HT4.out, HU4.out⟩
            case measure => simp [intOf]; omega
      · obtain rfl : len0 = k := by omega
        have HS := Lib.hid (c_Slot t gi gh 200 l wr HT.out a2 b3)
        have HL := Lib.hid (c_LenT t gi gh 200 l wr HT.out)
        rw [HP.out.live] at HL
        obtain ⟨wA, rfl⟩ : ∃ x, x = wr := ⟨_, rfl⟩
        have HK := Lib.hid (fun e w' => show (e = Ending.returned (.bool true) ∧ Below wA.heap.size wA w') → (e = Ending.returned (.bool true) ∧ Below w.heap.size w w') from fun h => ⟨h.1, bNext HB.out h.2⟩)
        by_cases hend : n = 0 ∨ find8 l a2 ≠ 0 ∨ a2 < 1
        · by_cases hn0 : n = 0
          · subst hn0
            clear hend
            generalize find8 l a2 = f at *
            go_wp2_with (first
              | (go_at_call 32; refine HS.out.mono ?_; rintro e w' ⟨rfl, rfl⟩)
              | (go_at_call 30; refine HL.out.mono ?_; rintro e w' ⟨rfl, rfl⟩)
              | (go_at_call 28; refine (c_known08 _).mono ?_; rintro e w' ⟨rfl, hbel⟩))
            go_ret
            exact ⟨rfl, bNext HB.out hbel⟩
          · have hn1 : ((n : Int) == 0) = false := by simp; omega
            by_cases hf : find8 l a2 = 0
            · have ha2 : a2 < 1 := by omega
              rw [hf] at HS
              clear hend hf
              go_wp2_with (first
                | (go_at_call 32; refine HS.out.mono ?_; rintro e w' ⟨rfl, rfl⟩)
                | (go_at_call 30; refine HL.out.mono ?_; rintro e w' ⟨rfl, rfl⟩)
                | (go_at_call 28; refine (c_known08 _).mono ?_; rintro e w' ⟨rfl, hbel⟩))
              go_ret
              exact ⟨rfl, bNext HB.out hbel⟩
            · have hf1 : (find8 l a2 != 0) = true := by simpa using hf
              rw [hf1] at HS
              clear hend hf hf1
              generalize find8 l a2 = f at *
              go_wp2_with (first
                | (go_at_call 32; refine HS.out.mono ?_; rintro e w' ⟨rfl, rfl⟩)
                | (go_at_call 30; refine HL.out.mono ?_; rintro e w' ⟨rfl, rfl⟩)
                | (go_at_call 28; refine (c_known08 _).mono ?_; rintro e w' ⟨rfl, hbel⟩))
              go_ret
              exact ⟨rfl, bNext HB.out hbel⟩
        · have hn1 : ((n : Int) == 0) = false := by simp; omega
          have hn0 : 0 < n := by omega
          have hf : find8 l a2 = 0 := by omega
          have ha2 : 1 ≤ a2 := by omega
          obtain ⟨q, hq⟩ : ∃ q : Nat, q = a1.toNat % n := ⟨_, rfl⟩
          have hqn : q < n := by rw [hq]; exact Nat.mod_lt _ hn0
          have hrem : a1 % (n : Int) = (q : Int) := by
            rw [hq]
            obtain ⟨A, rfl⟩ := Int.eq_ofNat_of_zero_le b0
            simp
          rw [hf] at HS
          have HF := Lib.hid hf
          have hlen := HT.out.len
          have HF1 := Lib.hid (c_Free1Yes t gi gh 200 l wA HT.out ((q : Int) + 1) (by omega) (by omega) _ rfl (HP.out.has hqn))
          rw [show ((q : Int) + 1 - 1).toNat = q from by omega] at HF1
          obtain ⟨e1, e2, e3⟩ := packed_again HP.out hqn ha2 hf
          have hq255 : q ≤ 300 := by omega
          have hn2 : n ≤ 200 := by omega
          have hcom : (1 : Int) + (q : Int) = (q : Int) + 1 := by omega
          clear hend hf hq
          go_wp2_with (go_at_call 32; refine HS.out.mono ?_; rintro e w' ⟨rfl, rfl⟩)
          refine HF1.out.mono ?_
          rintro e w2 ⟨rfl, T2, U2⟩
          have HBind := Lib.hid (c_BindTo t gi gh 200 _ w2 T2 a2 b3 ((q : Int) + 1) 0 (l.set q a2) (by rw [e1]; rfl) e2 e3)
          have HU2 := Lib.hid (HU.out.trans U2)
          clear T2 U2 e1 e2 e3
          go_wp2_with fail
          refine HBind.out.mono ?_
          rintro e w3 ⟨rfl, T3, U3⟩
          have HI3 := Lib.hid (c_ID t gi gh 200 _ w3 T3 ((q : Int) + 1) (by omega) (by omega))
          have HL3 := Lib.hid (c_LenT t gi gh 200 _ w3 T3)
          have HP3 := HP.out.put hqn (show a2 ≠ 0 by omega)
          rw [HP3.live] at HL3
          rw [show has8 (l.set q a2) ((q : Int) + 1) = true from HP3.has hqn, if_pos rfl, show ((q : Int) + 1 - 1).toNat = q from by omega, getD_set_same (by omega)] at HI3
          have HB3 := Lib.hid ((HU2.out.trans U3).below (Nat.le_refl _) HIN.out)
          clear T3 U3 HP3
          go_wp2_with (first
            | (go_at_call 34; refine HI3.out.mono ?_; rintro e w' ⟨rfl, rfl⟩)
            | (go_at_call 30; refine HL3.out.mono ?_; rintro e w' ⟨rfl, rfl⟩)
            | (go_at_call 28; refine (c_known08 _).mono ?_; rintro e w' ⟨rfl, hbel⟩))
          go_ret
          exact ⟨rfl, bNext HB3.out hbel⟩

end Go.Proofs.Ytbmenldopeplcaa
