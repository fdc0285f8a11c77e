/-
  The walk of the law BitsRuns.
-/
import Derived.Test.YtcecegcbkcdpjaaBitsBack
namespace Go.Proofs.Ytcecegcbkcdpjaa
open Go.RowKit Go.ChangeShapes Go.ChangeAt
set_option linter.unusedVariables false
set_option maxHeartbeats 1000000
set_option maxRecDepth 100000

/-- Runs that end below t, each where one is free. -/
def RunsT (b : Nat → Bool) : Nat → List (Nat × Nat) → Prop
  | _, [] => True
  | t, (s, c) :: r => b s = true ∧ 1 ≤ c ∧ s + c < t ∧ b (s + c) = false ∧ RunsT b s r
def RunsH (b : Nat → Bool) (i : Nat) : List (Nat × Nat) → Prop
  | [] => True
  | (s, c) :: r => b s = true ∧ 1 ≤ c ∧ s + c ≤ i ∧ (s + c < i → b (s + c) = false) ∧ RunsT b s r

theorem runsR_ok (b : Nat → Bool) : ∀ i, RunsH b i (runsR b i)
  | 0 => trivial
  | i + 1 => by
    have ih := runsR_ok b i
    rw [runsR]
    cases hb : b i with
    | false =>
      simp only [Bool.false_eq_true, if_false]
      cases hr : runsR b i with
      | nil => trivial
      | cons x r =>
        obtain ⟨s, c⟩ := x
        rw [hr] at ih
        obtain ⟨h1, h2, h3, h4, h5⟩ := ih
        refine ⟨h1, h2, by omega, fun _ => ?_, h5⟩
        by_cases he : s + c = i
        · rw [he]; exact hb
        · exact h4 (by omega)
    | true =>
      simp only [if_true]
      cases hr : runsR b i with
      | nil => exact ⟨hb, Nat.le_refl _, Nat.le_refl _, fun h => absurd h (Nat.lt_irrefl _), trivial⟩
      | cons x r =>
        obtain ⟨s, c⟩ := x
        rw [hr] at ih
        obtain ⟨h1, h2, h3, h4, h5⟩ := ih
        by_cases he : s + c = i
        · simp only [if_pos he]
          exact ⟨h1, by omega, by omega, fun h => by omega, h5⟩
        · simp only [if_neg he]
          exact ⟨hb, Nat.le_refl _, Nat.le_refl _, fun h => absurd h (Nat.lt_irrefl _), h1, h2, by omega, h4 (by omega), h5⟩

theorem runsR_all {b : Nat → Bool} {n : Nat} (h : ∀ i, n ≤ i → b i = false) : RunsT b (n + 1) (runsR b n) := by
  have := runsR_ok b n
  cases hr : runsR b n with
  | nil => trivial
  | cons x r =>
    obtain ⟨s, c⟩ := x
    rw [hr] at this
    obtain ⟨h1, h2, h3, h4, h5⟩ := this
    refine ⟨h1, h2, by omega, ?_, h5⟩
    by_cases he : s + c < n
    · exact h4 he
    · exact h _ (by omega)

theorem flatR_low {x : Nat × Nat} {r : List (Nat × Nat)} {i : Nat} (h : i < 2 * r.length) : (flatR (x :: r)).getD i 0 = (flatR r).getD i 0 := by
  obtain ⟨s, c⟩ := x
  rw [flatR, List.getD_eq_getElem?_getD, List.getElem?_append_left (by rw [flatR_len]; exact h), ← List.getD_eq_getElem?_getD]

/-- One of the runs, and the one ahead of it. -/
def RunAt (b : Nat → Bool) (F : List Int) (k : Nat) (s c : Nat) : Prop := F.getD (2 * k) 0 = (s : Int) ∧ F.getD (2 * k + 1) 0 = (c : Int)

theorem runs_at {b : Nat → Bool} : ∀ {rs : List (Nat × Nat)} {t : Nat}, RunsT b t rs → ∀ k, k < rs.length → ∃ s c : Nat, RunAt b (flatR rs) k s c ∧ b s = true ∧ 1 ≤ c ∧ s + c < t ∧ b (s + c) = false ∧ ∀ j, k = j + 1 → ∃ s' c' : Nat, RunAt b (flatR rs) j s' c' ∧ s' + c' < s
  | [], t, _, k, hk => by simp at hk
  | (s, c) :: r, t, ⟨h1, h2, h3, h4, h5⟩, k, hk => by
    have ih := runs_at (rs := r) h5
    by_cases hl : k < r.length
    · obtain ⟨s', c', ⟨e1, e2⟩, a1, a2, a3, a4, a5⟩ := ih k hl
      refine ⟨s', c', ⟨by rw [flatR_low (by omega)]; exact e1, by rw [flatR_low (by omega)]; exact e2⟩, a1, a2, by omega, a4, fun j hj => ?_⟩
      obtain ⟨s2, c2, ⟨f1, f2⟩, f3⟩ := a5 j hj
      exact ⟨s2, c2, ⟨by rw [flatR_low (by omega)]; exact f1, by rw [flatR_low (by omega)]; exact f2⟩, f3⟩
    · have hkl : k = r.length := by simp at hk; omega
      subst hkl
      refine ⟨s, c, ⟨flatR_s s c r, flatR_c s c r⟩, h1, h2, h3, h4, fun j hj => ?_⟩
      obtain ⟨s', c', ⟨e1, e2⟩, a1, a2, a3, -, -⟩ := ih j (by omega)
      exact ⟨s', c', ⟨by rw [flatR_low (by omega)]; exact e1, by rw [flatR_low (by omega)]; exact e2⟩, a3⟩

def sumF (F : List Int) : Nat → Nat
  | 0 => 0
  | k + 1 => sumF F k + (F.getD (2 * k + 1) 0).toNat
theorem sumF_mono (F : List Int) (k : Nat) : ∀ d, sumF F k ≤ sumF F (k + d)
  | 0 => Nat.le_refl _
  | d + 1 => by have := sumF_mono F k d; rw [← Nat.add_assoc, sumF]; omega
theorem sumF_low {x : Nat × Nat} {r : List (Nat × Nat)} : ∀ {k : Nat}, k ≤ r.length → sumF (flatR (x :: r)) k = sumF (flatR r) k
  | 0, _ => rfl
  | k + 1, h => by rw [sumF, sumF, sumF_low (k := k) (by omega), flatR_low (by omega)]
theorem sumF_cons (s c : Nat) (r : List (Nat × Nat)) : sumF (flatR ((s, c) :: r)) (r.length + 1) = sumF (flatR r) r.length + c := by
  rw [sumF, sumF_low (Nat.le_refl _), flatR_c, Int.toNat_natCast]
theorem runs_sum (b : Nat → Bool) : ∀ i, sumF (flatR (runsR b i)) (runsR b i).length = cntF b i
  | 0 => rfl
  | i + 1 => by
    have ih := runs_sum b i
    rw [runsR, cntF]
    cases hb : b i with
    | false => simpa using ih
    | true =>
      simp only [if_true]
      cases hr : runsR b i with
      | nil =>
        rw [hr] at ih
        simp only
        rw [show [(i, 1)].length = ([] : List (Nat × Nat)).length + 1 from rfl, sumF_cons]
        omega
      | cons x r =>
        obtain ⟨s, c⟩ := x
        rw [hr, List.length_cons, sumF_cons] at ih
        simp only
        by_cases he : s + c = i
        · rw [if_pos he, List.length_cons, sumF_cons]; omega
        · rw [if_neg he, List.length_cons, sumF_cons, List.length_cons, sumF_cons]; omega

theorem cntF_lt {b : Nat → Bool} {n p : Nat} (h : p < n) (hb : b p = false) : cntF b n < n := by
  obtain ⟨r, rfl⟩ : ∃ r, n = p + 1 + r := ⟨n - (p + 1), by omega⟩
  rw [cntF_add, cntF, hb]
  have h1 := cntF_le b p
  have h2 := cntF_le (fun i => b (p + 1 + i)) r
  simp
  omega
theorem one_none {b : Nat → Bool} {n : Nat} (h : FirstIs b n 1 none) : cntF b n = n := by
  have : runIs b 0 n true := fun i hi => by
    cases hb : b (0 + i) with
    | true => rfl
    | false => exact absurd (fun j hj => by rw [show i + j = 0 + i from by omega]; exact hb : runIs b i 1 false) (h i (by omega))
  have h2 := cntF_run this
  rw [if_pos rfl] at h2
  exact (cntF_congr (fun i _ => by rw [Nat.zero_add])).trans h2
theorem one_some {b : Nat → Bool} {n p : Nat} (h : FirstIs b n 1 (some p)) : cntF b n < n := cntF_lt (p := p) (by have := h.1; omega) (by have := h.2.1 0 (by omega); simpa using this)
theorem one_le {b : Nat → Bool} {n p Q : Nat} {o : Option Nat} (h : p + Q ≤ n) (hq : 1 ≤ Q) (hr : runIs b p Q false) (ho : FirstIs b n 1 o) : ∃ a, o = some a ∧ a ≤ p := by
  have hp : runIs b p 1 false := fun i hi => hr i (by omega)
  cases o with
  | none => exact absurd hp (ho p (by omega))
  | some a =>
    refine ⟨a, rfl, ?_⟩
    rcases Nat.lt_or_ge p a with h1 | h1
    · exact absurd hp (ho.2.2 p h1)
    · exact h1

theorem law_BitsRuns (a0 : Int) (a1 : Option Addr) (len1 cap1 : Nat) (z1 : List DoB) (a2 : Int) (w : World) (w0 : (Lit.int .i64 a0).wf = true) (w1 : DoBs w a1 len1 cap1 z1) (w2 : (Lit.int .i64 a2).wf = true) :
    Calls Try.prog 6 #[.int .i64 a0, .slice a1 len1 cap1, .int .i64 a2] w fun e w' => e = .returned (.bool true) ∧ Below w.heap.size w w' := by
  obtain ⟨b0, b1⟩ := bounds_i64 w0
  obtain ⟨q0, q1⟩ := bounds_i64 w2
  obtain ⟨ed, hc1, hm1, hr1, hok⟩ := w1
  unfold maxLen at hm1
  have ED := Lib.hid ed
  have HD := Lib.hid hr1
  have HO := Lib.hid hok
  clear ed hr1 hok w0 w2
  by_cases hbig : 3000 < a0
  · go_enter Try.func6, Try.ntmps6
    go_wp2_with (go_at_call 14; refine (c_known02 _).mono ?_; rintro e w' ⟨rfl, hbel⟩)
    go_ret
    exact ⟨rfl, hbel⟩
  · by_cases hneg : a0 < 0
    · go_enter Try.func6, Try.ntmps6
      go_wp2_with (go_at_call 14; refine (c_known02 _).mono ?_; rintro e w' ⟨rfl, hbel⟩)
      go_ret
      exact ⟨rfl, hbel⟩
    · by_cases hl : 60 < len1
      · go_enter Try.func6, Try.ntmps6
        go_wp2_with (go_at_call 14; refine (c_known02 _).mono ?_; rintro e w' ⟨rfl, hbel⟩)
        go_ret
        exact ⟨rfl, hbel⟩
      · obtain ⟨N, rfl⟩ := Int.eq_ofNat_of_zero_le (show 0 ≤ a0 from by omega)
        have hN : N ≤ 3000 := by omega
        have hle : len1 ≤ 60 := by omega
        clear hbig hneg hl
        go_enter Try.func6, Try.ntmps6
        go_wp2_with fail
        refine (c_BNewYes N _ (by omega)).mono ?_
        rintro e w1 ⟨m, g, rfl, h1, h2, T1, U1⟩
        have HW := Lib.hid (show ∀ q ∈ [g], w.heap.size ≤ q from fun q hq => by simp at hq; omega)
        have HT1 := Lib.hid T1
        have HB1 := Lib.hid (U1.below (Nat.le_refl w.heap.size) (by simp))
        clear T1 U1 h1 h2
        go_wp2_with fail
        go_loopw [9] (fun i wr => ∃ (k : Nat) (b : Nat → Bool), k ≤ len1 ∧ i = .int .i64 k ∧ Hid (MapAt wr m g N b) ∧ Hid (Below w.heap.size w wr)) (fun i _ => len1 - (intOf i).toNat)
        case atStart => exact ⟨0, _, Nat.zero_le _, rfl, HT1.out, HB1.out⟩
        case round =>
          obtain ⟨k, b, hk, rfl, HT, HB⟩ := hrel
          by_cases hlt : k < len1
          · have hlt2 : k < z1.length := by have := ED.out; omega
            obtain ⟨bb, off, rfl, hblt, hc⟩ := (HD.out.below HB.out) k _ (List.getElem?_eq_getElem hlt2)
            have hxo := HO.out _ (List.getElem_mem hlt2)
            generalize z1[k] = x at *
            have c0 := hc 0 _ rfl
            have c1 := hc 1 _ rfl
            have c2 := hc 2 _ rfl
            rw [Nat.add_zero] at c0
            have HDN := Lib.hid (c_doneB m g N b wr HT.out x hxo)
            obtain ⟨kd, fr, nm⟩ := x
            dsimp only at c0 c1 c2 HDN
            clear hc hxo
            go_wp2_with fail
            refine HDN.out.mono ?_
            rintro e w4 ⟨⟨x, rfl⟩, T4, U4⟩
            have HT4 := Lib.hid T4
            have HB4 := Lib.hid (HB.out.trans (U4.below HB.out.size HW.out))
            clear T4 U4 c0 c1 c2
            go_wp2
            go_roundw
            case rel => exact ⟨k + 1, _, by omega, by go_num, HT4.out, HB4.out⟩
            case measure => simp [intOf]; omega
          · obtain rfl : len1 = k := by omega
            obtain ⟨wA, rfl⟩ : ∃ x, x = wr := ⟨_, rfl⟩
            clear hlt hk HD HO ED HT1 HB1
            have hnb := HT.out.out
            have HTT := Lib.hid (runsR_all hnb)
            clear hnb
            go_wp2_with fail
            refine (c_Runs m g N b _ HT.out).mono ?_
            rintro e w2 ⟨v, rfl, own, bel⟩
            obtain ⟨av, cv, rfl, hr, -, -⟩ := owns_reads own
            have HR2 := Lib.hid hr
            have HT2 := Lib.hid (HT.out.keep (l := []) (.of_below bel) (by simp) (by simp))
            have HB2 := Lib.hid (bNext HB.out bel)
            clear own bel hr HT HB
            have HFL := Lib.hid (flatR_len (runsR b N))
            have hrl := runsR_len b N
            have HSUM := Lib.hid (runs_sum b N)
            have HAT := Lib.hid (fun k (hk : k < (runsR b N).length) => runs_at HTT.out k hk)
            have hcn := cntF_le b N
            clear HTT
            generalize flatR (runsR b N) = F at *
            generalize (runsR b N).length = L at *
            go_wp2_with fail
            go_loopw [11, 12] (fun v i wr => ∃ k : Nat, k ≤ L ∧ v = .int .i64 (sumF F k) ∧ i = .int .i64 k ∧ Hid (MapAt wr m g N b) ∧ Hid (Reads wr av cv (F.map (Value.int .i64))) ∧ Hid (Below w.heap.size w wr)) (fun _ i _ => L - (intOf i).toNat)
            case atStart => exact ⟨0, Nat.zero_le _, rfl, rfl, HT2.out, HR2.out, HB2.out⟩
            case round =>
              obtain ⟨k, hk, rfl, rfl, HT, HR, HB⟩ := hrel
              by_cases hlt : k < L
              · obtain ⟨s, c, ⟨hs, hc⟩, hbs, hc1, hsc, hbe, hprev⟩ := HAT.out k hlt
                obtain ⟨bb, off, rfl, hblt, hcell⟩ := HR.out.at (by have := HFL.out; simp; omega)
                have kc0 := hcell (2 * k) _ (getD_map8 (by have := HFL.out; omega))
                have kc1 := hcell (2 * k + 1) _ (getD_map8 (by have := HFL.out; omega))
                have HP := Lib.hid (fun j (hj : k = j + 1) => (⟨hcell (2 * j) _ (getD_map8 (by have := HFL.out; omega)), hcell (2 * j + 1) _ (getD_map8 (by have := HFL.out; omega))⟩ : wr.cell? ⟨bb, off + 2 * j, none⟩ = some (.int .i64 (F.getD (2 * j) 0)) ∧ wr.cell? ⟨bb, off + (2 * j + 1), none⟩ = some (.int .i64 (F.getD (2 * j + 1) 0))))
                rw [hs, show off + 2 * k = off + k * 2 from by omega] at kc0
                rw [hc, show off + (2 * k + 1) = off + k * 2 + 1 from by omega] at kc1
                have HS1 := Lib.hid (show sumF F (k + 1) = sumF F k + c from by rw [sumF, hc, Int.toNat_natCast])
                have hsle : sumF F k + c ≤ 3000 := by
                  have h1 := sumF_mono F (k + 1) (L - (k + 1))
                  rw [show k + 1 + (L - (k + 1)) = L from by omega, HSUM.out, HS1.out] at h1
                  omega
                have HPR := Lib.hid hprev
                have HTd := Lib.hid (show MapAt wr.drew m g N b from HT.out.keep (l := []) (Upd.refl _ _).drew (by simp) (by simp))
                have HC1 := Lib.hid (c_HasN m g N b wr.drew HTd.out s (by omega))
                have HC2 : Hid (Calls Try.prog 19 #[.pointer (some ⟨m, 0, none⟩), .int .i64 ((s : Int) + (c : Int))] wr.drew fun e w' => e = .returned (.bool false) ∧ wr.drew = w') := by
                  have := c_Has m g N b wr.drew HTd.out ((s + c : Nat) : Int)
                  rw [show hasB b ((s + c : Nat) : Int) = false from by unfold hasB; rw [Int.toNat_natCast, hbe]; simp] at this
                  rwa [show ((s + c : Nat) : Int) = (s : Int) + (c : Int) from by simp] at this
                rw [hbs] at HC1
                have hs63 : s ≤ 3000 := by omega
                have hc63 : c ≤ 3000 := by omega
                have hcc : ((c : Int) < 1) = False := eq_false (by omega)
                obtain ⟨S, hS⟩ : ∃ S, S = sumF F k := ⟨_, rfl⟩
                rw [← hS] at HS1 hsle ⊢
                clear hs hc hbs hbe hprev hcell hS
                cases k with
                | zero =>
                  rw [show off + 0 * 2 = off from by omega] at kc0
                  rw [show off + 0 * 2 + 1 = off + 1 from by omega] at kc1
                  go_wp2
                  refine wp_region_planH (fun z => z.cell? ⟨bb, off, none⟩ = some (.int .i64 (s : Int)) ∧ z.cell? ⟨bb, off + 1, none⟩ = some (.int .i64 (c : Int))) [(0, true), (1, true), (2, true), (3, true), (4, true), (5, true), (6, true), (7, true), (8, true), (9, true), (10, true), (11, true), (12, true), (13, true), (14, true), (15, true), (16, true), (17, true), (18, true), (19, true), (20, true), (21, true), (22, true), (23, true), (24, true), (25, true), (26, true), (27, true), (28, true), (29, true), (30, true), (31, true), (32, true), (33, true), (34, true), (35, true), (36, true), (37, true), (38, false), (39, true), (40, true), (41, true), (42, true), (43, true), (44, true), (45, true), (46, true), (47, true), (48, true), (49, true), (50, true), (51, true), (52, true), (53, true), (54, false), (55, true)] (by kernel_rfl) (by kernel_rfl) (fun _ _ _ _ _ h => h) ⟨kc0, kc1⟩ ?_
                  (repeat (refine wpPlanH_free rfl (fun K hK => ?_); go_simp; (try go_bits); refine hK _ ?_; clear hK K))
                  refine wpPlanH_load (.int .i64 (c : Int)) rfl (by first | rfl | go_simp) (fun z hS => by obtain ⟨s0, s1⟩ := hS; go_simp) (fun K hK => ?_)
                  refine hK _ ?_
                  clear hK K
                  (repeat (refine wpPlanH_free rfl (fun K hK => ?_); go_simp; (try go_bits); refine hK _ ?_; clear hK K))
                  refine wpPlanH_load (.int .i64 (s : Int)) rfl (by first | rfl | go_simp) (fun z hS => by obtain ⟨s0, s1⟩ := hS; go_simp) (fun K hK => ?_)
                  refine hK _ ?_
                  clear hK K
                  (repeat (refine wpPlanH_free rfl (fun K hK => ?_); go_simp; (try go_bits); refine hK _ ?_; clear hK K))
                  refine wpPlanH_sole rfl ?_
                  go_wp2_with fail
                  refine HC1.out.mono ?_
                  rintro e w' ⟨rfl, rfl⟩
                  go_wp2
                  refine ⟨⟨kc0, kc1⟩, ?_⟩
                  (repeat (refine wpPlanH_free rfl (fun K hK => ?_); go_simp; (try go_bits); refine hK _ ?_; clear hK K))
                  refine wpPlanH_load (.int .i64 (s : Int)) rfl (by first | rfl | go_simp) (fun z hS => by obtain ⟨s0, s1⟩ := hS; go_simp) (fun K hK => ?_)
                  refine hK _ ?_
                  clear hK K
                  (repeat (refine wpPlanH_free rfl (fun K hK => ?_); go_simp; (try go_bits); refine hK _ ?_; clear hK K))
                  refine wpPlanH_load (.int .i64 (c : Int)) rfl (by first | rfl | go_simp) (fun z hS => by obtain ⟨s0, s1⟩ := hS; go_simp) (fun K hK => ?_)
                  refine hK _ ?_
                  clear hK K
                  (repeat (refine wpPlanH_free rfl (fun K hK => ?_); go_simp; (try go_bits); refine hK _ ?_; clear hK K))
                  refine wpPlanH_sole rfl ?_
                  go_wp2_with fail
                  refine HC2.out.mono ?_
                  rintro e w' ⟨rfl, rfl⟩
                  go_wp2
                  refine ⟨⟨kc0, kc1⟩, ?_⟩
                  (repeat (refine wpPlanH_free rfl (fun K hK => ?_); go_simp; (try go_bits); refine hK _ ?_; clear hK K))
                  refine wpPlanH_nil ?_
                  go_wp2
                  exact ⟨⟨1, hlt, by rw [show sumF F 1 = S + c from HS1.out]; go_num, rfl, HTd.out, HR.out.drew, HB.out.drew⟩, by simp [intOf]; omega⟩
                | succ j =>
                  obtain ⟨s', c', ⟨hs', hc'⟩, hss⟩ := HPR.out j rfl
                  obtain ⟨kp0, kp1⟩ := HP.out j rfl
                  rw [hs', show off + 2 * j = off + j * 2 from by omega] at kp0
                  rw [hc', show off + (2 * j + 1) = off + j * 2 + 1 from by omega] at kp1
                  have hle3 : ((s : Int) ≤ (s' : Int) + (c' : Int)) = False := eq_false (by omega)
                  have hj0 : (0 : Int) ≤ (j : Int) + 1 := by omega
                  have hj1 : (j : Int) + 1 < (L : Int) := by omega
                  have hj2 : (j : Int) < (L : Int) := by omega
                  have hj3 : j < L := by omega
                  have hs3 : s' ≤ 3000 := by omega
                  have hc3 : c' ≤ 3000 := by omega
                  clear hs' hc' HP HPR
                  go_wp2
                  refine wp_region_planH (fun z => z.cell? ⟨bb, off + (j + 1) * 2, none⟩ = some (.int .i64 (s : Int)) ∧ z.cell? ⟨bb, off + (j + 1) * 2 + 1, none⟩ = some (.int .i64 (c : Int)) ∧ z.cell? ⟨bb, off + j * 2, none⟩ = some (.int .i64 (s' : Int)) ∧ z.cell? ⟨bb, off + j * 2 + 1, none⟩ = some (.int .i64 (c' : Int))) [(0, true), (1, true), (2, true), (3, true), (4, true), (5, true), (6, true), (7, true), (8, true), (9, true), (10, true), (11, true), (12, true), (13, true), (14, true), (15, true), (16, true), (17, true), (18, true), (19, true), (20, true), (21, true), (22, true), (23, true), (24, true), (25, true), (26, true), (27, true), (28, true), (29, true), (30, true), (31, true), (32, true), (33, true), (34, true), (35, true), (36, true), (37, true), (38, false), (39, true), (40, true), (41, true), (42, true), (43, true), (44, true), (45, true), (46, true), (47, true), (48, true), (49, true), (50, true), (51, true), (52, true), (53, true), (54, false), (55, true)] (by kernel_rfl) (by kernel_rfl) (fun _ _ _ _ _ h => h) ⟨kc0, kc1, kp0, kp1⟩ ?_
                  (repeat (refine wpPlanH_free rfl (fun K hK => ?_); go_simp; (try go_bits); refine hK _ ?_; clear hK K))
                  refine wpPlanH_load (.int .i64 (c : Int)) rfl (by first | rfl | go_simp) (fun z hS => by obtain ⟨s0, s1, s2, s3⟩ := hS; go_simp) (fun K hK => ?_)
                  refine hK _ ?_
                  clear hK K
                  (repeat (refine wpPlanH_free rfl (fun K hK => ?_); go_simp; (try go_bits); refine hK _ ?_; clear hK K))
                  refine wpPlanH_load (.int .i64 (s : Int)) rfl (by first | rfl | go_simp) (fun z hS => by obtain ⟨s0, s1, s2, s3⟩ := hS; go_simp) (fun K hK => ?_)
                  refine hK _ ?_
                  clear hK K
                  (repeat (refine wpPlanH_free rfl (fun K hK => ?_); go_simp; (try go_bits); refine hK _ ?_; clear hK K))
                  refine wpPlanH_load (.int .i64 (s' : Int)) rfl (by first | rfl | go_simp) (fun z hS => by obtain ⟨s0, s1, s2, s3⟩ := hS; go_simp) (fun K hK => ?_)
                  refine hK _ ?_
                  clear hK K
                  (repeat (refine wpPlanH_free rfl (fun K hK => ?_); go_simp; (try go_bits); refine hK _ ?_; clear hK K))
                  refine wpPlanH_load (.int .i64 (c' : Int)) rfl (by first | rfl | go_simp) (fun z hS => by obtain ⟨s0, s1, s2, s3⟩ := hS; go_simp) (fun K hK => ?_)
                  refine hK _ ?_
                  clear hK K
                  (repeat (refine wpPlanH_free rfl (fun K hK => ?_); go_simp; (try go_bits); refine hK _ ?_; clear hK K))
                  refine wpPlanH_load (.int .i64 (s : Int)) rfl (by first | rfl | go_simp) (fun z hS => by obtain ⟨s0, s1, s2, s3⟩ := hS; go_simp) (fun K hK => ?_)
                  refine hK _ ?_
                  clear hK K
                  (repeat (refine wpPlanH_free rfl (fun K hK => ?_); go_simp; (try go_bits); refine hK _ ?_; clear hK K))
                  refine wpPlanH_sole rfl ?_
                  go_wp2_with fail
                  refine HC1.out.mono ?_
                  rintro e w' ⟨rfl, rfl⟩
                  go_wp2
                  refine ⟨⟨kc0, kc1, kp0, kp1⟩, ?_⟩
                  (repeat (refine wpPlanH_free rfl (fun K hK => ?_); go_simp; (try go_bits); refine hK _ ?_; clear hK K))
                  refine wpPlanH_load (.int .i64 (s : Int)) rfl (by first | rfl | go_simp) (fun z hS => by obtain ⟨s0, s1, s2, s3⟩ := hS; go_simp) (fun K hK => ?_)
                  refine hK _ ?_
                  clear hK K
                  (repeat (refine wpPlanH_free rfl (fun K hK => ?_); go_simp; (try go_bits); refine hK _ ?_; clear hK K))
                  refine wpPlanH_load (.int .i64 (c : Int)) rfl (by first | rfl | go_simp) (fun z hS => by obtain ⟨s0, s1, s2, s3⟩ := hS; go_simp) (fun K hK => ?_)
                  refine hK _ ?_
                  clear hK K
                  (repeat (refine wpPlanH_free rfl (fun K hK => ?_); go_simp; (try go_bits); refine hK _ ?_; clear hK K))
                  refine wpPlanH_sole rfl ?_
                  go_wp2_with fail
                  refine HC2.out.mono ?_
                  rintro e w' ⟨rfl, rfl⟩
                  go_wp2
                  refine ⟨⟨kc0, kc1, kp0, kp1⟩, ?_⟩
                  (repeat (refine wpPlanH_free rfl (fun K hK => ?_); go_simp; (try go_bits); refine hK _ ?_; clear hK K))
                  refine wpPlanH_nil ?_
                  go_wp2
                  exact ⟨⟨j + 1 + 1, by omega, by rw [show sumF F (j + 1 + 1) = S + c from HS1.out]; go_num, by go_num, HTd.out, HR.out.drew, HB.out.drew⟩, by simp [intOf]; omega⟩
              · obtain rfl : L = k := by omega
                have HF := Lib.hid (c_First m g N b wr HT.out a2 q1)
                have HF1 := Lib.hid (c_First m g N b wr HT.out 1 (by decide))
                have HK := Lib.hid (c_Taken m g N b wr HT.out)
                rw [HSUM.out]
                obtain ⟨C, hC⟩ : ∃ C, C = cntF b N := ⟨_, rfl⟩
                rw [← hC] at HK hcn ⊢
                have HC := Lib.hid hC
                obtain ⟨wB, rfl⟩ : ∃ x, x = wr := ⟨_, rfl⟩
                clear hC hlt hk HSUM HAT HR HFL HT2 HR2 HB2
                go_wp2_with fail
                refine HF.out.mono ?_
                rintro e w' ⟨⟨o, ho, rfl⟩, rfl⟩
                cases o with
                | none =>
                  rw [show firstV none = .tuple #[.int .i64 0, .bool false] from rfl]
                  clear ho HF
                  go_wp2_with fail
                  refine HF1.out.mono ?_
                  rintro e w' ⟨⟨o1, ho1, rfl⟩, rfl⟩
                  have hfo : FirstIs b N 1 o1 := by
                    rcases ho1 with ⟨h, _⟩ | ⟨_, h⟩
                    · exact absurd h (by decide)
                    · exact h
                  clear ho1
                  cases o1 with
                  | none =>
                    rw [show firstV none = .tuple #[.int .i64 0, .bool false] from rfl]
                    have hCN : C = N := by rw [HC.out]; exact one_none hfo
                    subst hCN
                    clear hfo
                    go_wp2_with (first
                      | (go_at_call 17; refine HK.out.mono ?_; rintro e w' ⟨rfl, rfl⟩)
                      | (go_at_call 14; refine (c_known02 _).mono ?_; rintro e w' ⟨rfl, hbel⟩))
                    go_ret
                    exact ⟨rfl, bNext HB.out hbel⟩
                  | some p1 =>
                    rw [show firstV (some p1) = .tuple #[.int .i64 (p1 : Int), .bool true] from rfl]
                    have hCN : C < N := by rw [HC.out]; exact one_some hfo
                    have hCN2 : (C : Int) < (N : Int) := by omega
                    clear hfo
                    go_wp2_with (first
                      | (go_at_call 17; refine HK.out.mono ?_; rintro e w' ⟨rfl, rfl⟩)
                      | (go_at_call 14; refine (c_known02 _).mono ?_; rintro e w' ⟨rfl, hbel⟩))
                    go_ret
                    exact ⟨rfl, bNext HB.out hbel⟩
                | some p =>
                  rw [show firstV (some p) = .tuple #[.int .i64 (p : Int), .bool true] from rfl]
                  rcases ho with ⟨_, h⟩ | ⟨hq1, hfi⟩
                  · cases h
                  · obtain ⟨Q, rfl⟩ := Int.eq_ofNat_of_zero_le (show 0 ≤ a2 from by omega)
                    rw [Int.toNat_natCast] at hfi
                    have hQ1 : 1 ≤ Q := by omega
                    obtain ⟨hpq, hrun, -⟩ := hfi
                    have HRUN := Lib.hid hrun
                    clear hrun HF
                    go_wp2_with fail
                    go_loop [15] (fun i => ∃ k : Nat, k ≤ Q ∧ i = .int .i64 k) (fun i => Q - (intOf i).toNat)
                    case atStart => exact ⟨0, Nat.zero_le _, rfl⟩
                    case round =>
                      obtain ⟨k, hk, rfl⟩ := hrel
                      by_cases hlt : k < Q
                      · have HC1 := Lib.hid (c_HasN m g N b wB HT.out (p + k) (by omega))
                        rw [HRUN.out k hlt, show ((p + k : Nat) : Int) = (p : Int) + (k : Int) from by simp] at HC1
                        go_wp2_with (go_at_call 19; refine HC1.out.mono ?_; rintro e w' ⟨rfl, rfl⟩)
                        go_round
                        case rel => exact ⟨k + 1, by omega, by go_num⟩
                        case measure => simp [intOf]; omega
                      · obtain rfl : k = Q := by omega
                        go_wp2_with fail
                        refine HF1.out.mono ?_
                        rintro e w' ⟨⟨o1, ho1, rfl⟩, rfl⟩
                        have hfo : FirstIs b N 1 o1 := by
                          rcases ho1 with ⟨h, _⟩ | ⟨_, h⟩
                          · exact absurd h (by decide)
                          · exact h
                        obtain ⟨p1, rfl, hp1⟩ := one_le hpq hQ1 HRUN.out hfo
                        rw [show firstV (some p1) = .tuple #[.int .i64 (p1 : Int), .bool true] from rfl]
                        have hCN : C < N := by rw [HC.out]; exact one_some hfo
                        have hCN2 : (C : Int) < (N : Int) := by omega
                        have hp2 : ¬ (p : Int) < (p1 : Int) := by omega
                        clear hfo ho1
                        go_wp2_with (first
                          | (go_at_call 17; refine HK.out.mono ?_; rintro e w' ⟨rfl, rfl⟩)
                          | (go_at_call 14; refine (c_known02 _).mono ?_; rintro e w' ⟨rfl, hbel⟩))
                        go_ret
                        exact ⟨rfl, bNext HB.out hbel⟩

end Go.Proofs.Ytcecegcbkcdpjaa
