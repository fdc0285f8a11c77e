/-
  Sorting a row of numbers in memory: symMerge.
-/
import Derived.Test.YtcecegcbkcdpjaaHeapSD
namespace Go.Proofs.Ytcecegcbkcdpjaa
open Go.RowKit
set_option linter.unusedVariables false
set_option maxHeartbeats 8000000
set_option maxRecDepth 100000

/-- What symMerge does, of rows that have together no more than k. -/
def SymOk (B h g : Nat) (vb : Value) (S : HpS) (b n c : Nat) (rest : List Value) (k : Nat) : Prop := ∀ (w : World) (X P Q Z : List Nat), P.length + Q.length ≤ k → 0 < P.length → 0 < Q.length → HpAt w B h g vb S → Dat w b (X ++ (P ++ (Q ++ Z))) rest → n = (X ++ (P ++ (Q ++ Z))).length → Nums S (P ++ Q) → Srt S P → Srt S Q →
  ∀ a m b2 : Nat, a = X.length → m = X.length + P.length → b2 = X.length + P.length + Q.length →
  Calls Try.prog 51 #[.slice (some ⟨b, 0, none⟩) n c, .int .i64 a, .int .i64 m, .int .i64 b2, .func (.func 47) #[.pointer (some ⟨h, 0, none⟩)] #[]] w fun e w' => e = .returned (.tuple #[]) ∧ (∃ M : List Nat, M.Perm (P ++ Q) ∧ Srt S M ∧ Dat w' b (X ++ (M ++ Z)) rest) ∧ Upd [b] w w'

/-- Both halves are put in order; all of the first are no more than all of the second. -/
theorem srt_app {S : HpS} {M1 M2 L1 L2 : List Nat} (h1 : Srt S M1) (h2 : Srt S M2) (p1 : M1.Perm L1) (p2 : M2.Perm L2) (hc : ∀ x ∈ L1, ∀ y ∈ L2, atOf S x ≤ atOf S y) : Srt S (M1 ++ M2) := by
  refine List.pairwise_append.2 ⟨h1, h2, fun x hx y hy => hc x (p1.mem_iff.1 hx) y (p2.mem_iff.1 hy)⟩
theorem perm_four (P1 P2 Q1 Q2 M1 M2 : List Nat) (p1 : M1.Perm (P1 ++ Q1)) (p2 : M2.Perm (P2 ++ Q2)) : (M1 ++ M2).Perm ((P1 ++ P2) ++ (Q1 ++ Q2)) := by
  refine (p1.append p2).trans ?_
  rw [List.append_assoc, List.append_assoc]
  refine List.Perm.append_left _ ?_
  rw [← List.append_assoc, ← List.append_assoc]
  exact List.Perm.append_right _ List.perm_append_comm
theorem Srt.take {S : HpS} {L : List Nat} (h : Srt S L) (k : Nat) : Srt S (L.take k) := List.Pairwise.sublist (List.take_sublist _ _) h
theorem Srt.drop {S : HpS} {L : List Nat} (h : Srt S L) (k : Nat) : Srt S (L.drop k) := List.Pairwise.sublist (List.drop_sublist _ _) h
theorem take_le {S : HpS} {L : List Nat} (h : Srt S L) {k : Nat} (hk : k < L.length) : ∀ x ∈ L.take (k + 1), atOf S x ≤ atOf S (L.getD k 0) := by
  intro x hx
  obtain ⟨t, ht, rfl⟩ := List.getElem_of_mem hx
  rw [List.length_take] at ht
  have := h.at (i := t) (j := k) (by omega) hk
  rw [List.getD_eq_getElem?_getD, List.getElem?_eq_getElem (show t < L.length by omega)] at this
  simpa using this
theorem drop_ge {S : HpS} {L : List Nat} (h : Srt S L) {k : Nat} (hk : k < L.length) : ∀ x ∈ L.drop k, atOf S (L.getD k 0) ≤ atOf S x := by
  intro x hx
  obtain ⟨t, ht, rfl⟩ := List.getElem_of_mem hx
  rw [List.length_drop] at ht
  have := h.at (i := k) (j := k + t) (by omega) (by omega)
  rw [List.getD_eq_getElem?_getD (i := k + t), List.getElem?_eq_getElem (show k + t < L.length by omega)] at this
  simpa using this

theorem c_symN {w : World} {B h g : Nat} {vb : Value} {S : HpS} (b n c : Nat) (rest : List Value) (hsm : n ≤ 1000000) (X P Q Z : List Nat) (hI : SymOk B h g vb S b n c rest (P.length + Q.length - 1)) (H : HpAt w B h g vb S) (hD : Dat w b (X ++ (P ++ (Q ++ Z))) rest) (hn : n = (X ++ (P ++ (Q ++ Z))).length) (hN : Nums S (P ++ Q)) (hP : Srt S P) (hQ : Srt S Q) (hP0 : 1 < P.length) (hQ0 : 1 < Q.length) (a m b2 : Nat) (ha : a = X.length) (hm : m = X.length + P.length) (hb2 : b2 = X.length + P.length + Q.length) :
    Calls Try.prog 51 #[.slice (some ⟨b, 0, none⟩) n c, .int .i64 a, .int .i64 m, .int .i64 b2, .func (.func 47) #[.pointer (some ⟨h, 0, none⟩)] #[]] w fun e w' => e = .returned (.tuple #[]) ∧ (∃ M : List Nat, M.Perm (P ++ Q) ∧ Srt S M ∧ Dat w' b (X ++ (M ++ Z)) rest) ∧ Upd [b] w w' := by
  have HH := Lib.hid H
  have HD := Lib.hid hD
  have HN := Lib.hid hN
  have HP := Lib.hid hP
  have HQ := Lib.hid hQ
  have HIH := Lib.hid hI
  have HLN := Lib.hid hn
  have hn2 : X.length + P.length + Q.length + Z.length = n := by rw [hn]; simp only [List.length_append]; omega
  have HA := Lib.hid ha
  have HN2 := Lib.hid hn2
  have HMA := Lib.hid (show m = a + P.length by omega)
  have HMB := Lib.hid (show b2 = m + Q.length by omega)
  have hbn : b2 ≤ n := by omega
  have hmI : ¬ ((m : Int) - (a : Int) = 1) := by omega
  have hmB : ((m : Int) - (a : Int) == 1) = false := beq_false_of_ne hmI
  have hbI : ¬ ((b2 : Int) - (m : Int) = 1) := by omega
  have hbB : ((b2 : Int) - (m : Int) == 1) = false := beq_false_of_ne hbI
  have ham : a < m := by omega
  have hmb : m < b2 := by omega
  obtain ⟨mid, hmid⟩ : ∃ mid, mid = (a + b2) / 2 := ⟨_, rfl⟩
  have hmdI : ((a : Int) + (b2 : Int)) / 2 = (mid : Int) := by omega
  obtain ⟨nn, hnn⟩ : ∃ nn, nn = mid + m := ⟨_, rfl⟩
  have hnnI : (mid : Int) + (m : Int) = (nn : Int) := by omega
  have hmid1 : a < mid := by omega
  have hmid2 : mid < b2 := by omega
  have HMID := Lib.hid (show a + b2 ≤ 2 * mid + 1 ∧ 2 * mid ≤ a + b2 by omega)
  have HNN := Lib.hid hnn
  have hp1 : 1 ≤ nn := by omega
  have hpn : nn ≤ 2 * n := by omega
  clear H hD hN hP hQ hI hn hn2 ha hm hb2 hmid hnn
  by_cases hmm : mid < m
  · have hmmI : (mid : Int) < (m : Int) := by omega
    obtain ⟨s0, hs0⟩ : ∃ s0, s0 = nn - b2 := ⟨_, rfl⟩
    have hs0I : (nn : Int) - (b2 : Int) = (s0 : Int) := by have := HNN.out; have := HMID.out; omega
    have HSB : Hid (a ≤ s0 ∧ s0 ≤ mid ∧ mid ≤ m ∧ nn ≤ s0 + b2 ∧ mid + m ≤ nn ∧ (s0 + b2 = nn ∨ s0 = a) ∧ (mid + m = nn ∨ mid = m)) := by unfold Hid; have := HNN.out; have := HMID.out; omega
    clear hs0
    go_enter Try.func51, Try.ntmps51
    go_wp2
    go_loopw [20, 21, 23] (fun iv jv x wr => ∃ s r : Nat, s ≤ r ∧ s0 ≤ s ∧ r ≤ mid ∧ iv = .int .i64 (s : Int) ∧ jv = .int .i64 (r : Int) ∧ Hid (s = s0 ∨ (s0 < s ∧ atOf S (P.getD (s - 1 - a) 0) ≤ atOf S (Q.getD (nn - s - m) 0))) ∧ Hid (r = mid ∨ (r < mid ∧ atOf S (Q.getD (nn - 1 - r - m) 0) ≤ atOf S (P.getD (r - a) 0))) ∧ Hid (Below w.heap.size w wr)) (fun i j _ _ => (intOf j).toNat - (intOf i).toNat)
    case atStart => exact ⟨s0, mid, by have := HSB.out; omega, Nat.le_refl _, Nat.le_refl _, rfl, rfl, .inl rfl, .inl rfl, Below.refl _ _⟩
    case round =>
      obtain ⟨s, r, hsr, hs0s, hrr, rfl, rfl, H1, H2, HB⟩ := hrel
      by_cases hlt : s < r
      · have hltI : (s : Int) < (r : Int) := by omega
        obtain ⟨D, hD⟩ : ∃ D, D = (s + r) / 2 := ⟨_, rfl⟩
        have hD1 : s ≤ D ∧ D < r := by omega
        have hDI : ((s : Int) + (r : Int)) / 2 = (D : Int) := by omega
        have hdm : D < m ∧ a ≤ D := by have := HSB.out; omega
        have hde : m + D + 1 ≤ nn ∧ nn ≤ D + b2 := by have := HSB.out; omega
        obtain ⟨E, hE⟩ : ∃ E, E = nn - 1 - D := ⟨_, rfl⟩
        have hEI : (nn : Int) - 1 - (D : Int) = (E : Int) := by omega
        have hEn : E < n := by omega
        have hDn : D < n := by omega
        have HDR := HD.out.keep HB.out
        have hdp : D - a < P.length := by have := HMA.out; omega
        have hdq : E - m < Q.length := by have := HMB.out; omega
        have ky := HDR.cell (i := E) (by rw [← HLN.out]; omega)
        have kp := HDR.cell (i := D) (by rw [← HLN.out]; omega)
        have ey : (X ++ (P ++ (Q ++ Z))).getD E 0 = Q.getD (E - m) 0 := by
          have := getD_in (X := X ++ P) (Y := Q) (Z := Z) hdq
          rw [List.append_assoc, List.length_append] at this
          rw [← this]; congr 1; have := HA.out; have := HMA.out; omega
        have ep : (X ++ (P ++ (Q ++ Z))).getD D 0 = P.getD (D - a) 0 := by
          have := getD_in (X := X) (Y := P) (Z := Q ++ Z) hdp
          rw [← this]; congr 1; have := HA.out; omega
        rw [ey] at ky
        rw [ep] at kp
        have hmy := HN.out (Q.getD (E - m) 0) (List.mem_append_right _ (mem_getD hdq))
        have hmp := HN.out (P.getD (D - a) 0) (List.mem_append_left _ (mem_getD hdp))
        have HEV := Lib.hid (show Q.getD (nn - 1 - D - m) 0 = Q.getD (E - m) 0 by rw [hE])
        have HEV2 := Lib.hid (show Q.getD (nn - (D + 1) - m) 0 = Q.getD (E - m) 0 by rw [hE, show nn - (D + 1) = nn - 1 - D by omega])
        have HEV3 := Lib.hid (show P.getD (D + 1 - 1 - a) 0 = P.getD (D - a) 0 by rw [Nat.add_sub_cancel])
        have HPV := Lib.hid (rfl : P.getD (D - a) 0 = P.getD (D - a) 0)
        generalize hyq : Q.getD (E - m) 0 = y at *
        generalize hxp : P.getD (D - a) 0 = x at *
        have HXP := Lib.hid hxp
        have HYQ := Lib.hid hyq
        have HM := Lib.hid (c_cmp (HH.out.below HB.out.drew) y x hmy.1 hmp.1 hmy.2 hmp.2)
        have HBD := Lib.hid (show Below w.heap.size w wr.drew from HB.out.drew)
        obtain ⟨hD1, hD2⟩ := hD1
        clear ey ep HDR hmy hmp hE hdp hdq hyq hxp hdm hde hD HPV
        go_wp2_with fail
        refine wp_region_planH (fun z => z.cell? ⟨b, E, none⟩ = some (.int .i64 (y : Int)) ∧ z.cell? ⟨b, D, none⟩ = some (.int .i64 (x : Int))) [(0, true), (1, true), (2, true), (3, true), (4, true), (5, true), (6, true), (7, true), (8, true), (9, true), (10, true), (11, false), (12, true), (13, true)] (by kernel_rfl) (by kernel_rfl) (fun _ _ _ _ _ h => h) ⟨ky, kp⟩ ?_
        have HS : Hid (wr.drew.cell? ⟨b, E, none⟩ = some (.int .i64 (y : Int)) ∧ wr.drew.cell? ⟨b, D, none⟩ = some (.int .i64 (x : Int))) := ⟨ky, kp⟩
        clear ky kp
        generalize wr.drew = wd at *
        (repeat (refine wpPlanH_free rfl (fun K hK => ?_); go_simp; (try go_bits); refine hK _ ?_; clear hK K))
        refine wpPlanH_load (.int .i64 (y : Int)) rfl rfl (fun x hS => by obtain ⟨s0, s1⟩ := hS; go_simp) (fun K hK => ?_)
        refine hK _ ?_
        clear hK K
        (repeat (refine wpPlanH_free rfl (fun K hK => ?_); go_simp; (try go_bits); refine hK _ ?_; clear hK K))
        refine wpPlanH_load (.int .i64 (x : Int)) rfl rfl (fun x hS => by obtain ⟨s0, s1⟩ := hS; go_simp) (fun K hK => ?_)
        refine hK _ ?_
        clear hK K
        refine wpPlanH_sole rfl ?_
        go_wp2_with fail
        refine HM.out.mono ?_
        rintro e w' ⟨rfl, hb2⟩
        have HB2 := Lib.hid (HBD.out.trans (hb2.mono HBD.out.size))
        have HS2 := Lib.hid (And.intro (cellKeep hb2 HS.out.1) (cellKeep hb2 HS.out.2))
        clear hb2 HM HS
        by_cases hyp : atOf S y < atOf S x
        · have e2 : ((atOf S y : Int) - (atOf S x : Int) < 0) = True := eq_true (by omega)
          have HYP := Lib.hid hyp
          clear hyp
          generalize (atOf S y : Int) - (atOf S x : Int) = z at *
          go_wp2
          refine ⟨HS2.out, ?_⟩
          (repeat (refine wpPlanH_free rfl (fun K hK => ?_); go_simp; (try go_bits); refine hK _ ?_; clear hK K))
          refine wpPlanH_nil ?_
          go_wp2
          go_roundw
          case rel => exact ⟨s, D, by omega, by omega, by omega, rfl, rfl, H1.out, .inr ⟨by omega, by rw [HEV.out, HXP.out]; exact Nat.le_of_lt HYP.out⟩, HB2.out⟩
          case measure => simp [intOf]; omega
        · have e2 : ((atOf S y : Int) - (atOf S x : Int) < 0) = False := eq_false (by omega)
          have HYP := Lib.hid hyp
          clear hyp
          generalize (atOf S y : Int) - (atOf S x : Int) = z at *
          go_wp2
          refine ⟨HS2.out, ?_⟩
          (repeat (refine wpPlanH_free rfl (fun K hK => ?_); go_simp; (try go_bits); refine hK _ ?_; clear hK K))
          refine wpPlanH_nil ?_
          go_wp2
          go_roundw
          case rel => exact ⟨D + 1, r, by omega, by omega, by omega, by go_num, rfl, .inr ⟨by omega, by rw [HEV3.out, HEV2.out]; have := HYP.out; omega⟩, H2.out, HB2.out⟩
          case measure => simp [intOf]; omega
      · obtain rfl : s = r := by omega
        clear hlt hsr
        obtain ⟨e, he⟩ : ∃ e, e = nn - s := ⟨_, rfl⟩
        have heI : (nn : Int) - (s : Int) = (e : Int) := by have := HSB.out; omega
        have hs : a ≤ s ∧ s ≤ m ∧ m ≤ e ∧ e ≤ b2 := by have := HSB.out; omega
        have hse : e + s = mid + m := by have := HNN.out; omega
        obtain ⟨hs1, hs2, hs3, hs4⟩ := hs
        -- what stands where
        have HC : Hid (∀ x ∈ P.take (s - a) ++ Q.take (e - m), ∀ y ∈ P.drop (s - a) ++ Q.drop (e - m), atOf S x ≤ atOf S y) := by
          unfold Hid
          have hpl := HMA.out
          have hql := HMB.out
          have c1 : ∀ x ∈ P.take (s - a), ∀ y ∈ P.drop (s - a), atOf S x ≤ atOf S y := by
            have := HP.out
            rw [← List.take_append_drop (s - a) P] at this
            exact (List.pairwise_append.1 this).2.2
          have c2 : ∀ x ∈ Q.take (e - m), ∀ y ∈ Q.drop (e - m), atOf S x ≤ atOf S y := by
            have := HQ.out
            rw [← List.take_append_drop (e - m) Q] at this
            exact (List.pairwise_append.1 this).2.2
          have c3 : ∀ x ∈ P.take (s - a), ∀ y ∈ Q.drop (e - m), atOf S x ≤ atOf S y := by
            intro x hx y hy
            rcases H1.out with h1 | ⟨h1, h2⟩
            · rcases HSB.out.2.2.2.2.2.1 with h3 | h3
              · rw [List.drop_of_length_le (by omega)] at hy; simp at hy
              · rw [show s - a = 0 by omega] at hx; simp at hx
            · have h4 := take_le HP.out (k := s - 1 - a) (by omega) x (by rw [show s - 1 - a + 1 = s - a by omega]; exact hx)
              rw [← he] at h2
              by_cases h5 : e - m < Q.length
              · have h6 := drop_ge HQ.out h5 y hy
                omega
              · rw [List.drop_of_length_le (by omega)] at hy; simp at hy
          have c4 : ∀ x ∈ Q.take (e - m), ∀ y ∈ P.drop (s - a), atOf S x ≤ atOf S y := by
            intro x hx y hy
            rcases H2.out with h1 | ⟨h1, h2⟩
            · rcases HSB.out.2.2.2.2.2.2 with h3 | h3
              · rw [show e - m = 0 by omega] at hx; simp at hx
              · rw [List.drop_of_length_le (by omega)] at hy; simp at hy
            · by_cases h7 : e - m = 0
              · rw [h7] at hx; simp at hx
              · have h4 := take_le HQ.out (k := nn - 1 - s - m) (by omega) x (by rw [show nn - 1 - s - m + 1 = e - m by omega]; exact hx)
                by_cases h5 : s - a < P.length
                · have h6 := drop_ge HP.out h5 y hy
                  omega
                · rw [List.drop_of_length_le (by omega)] at hy; simp at hy
          intro x hx y hy
          rcases List.mem_append.1 hx with hx | hx
          · rcases List.mem_append.1 hy with hy | hy
            · exact c1 x hx y hy
            · exact c3 x hx y hy
          · rcases List.mem_append.1 hy with hy | hy
            · exact c4 x hx y hy
            · exact c2 x hx y hy
        have HL1 := Lib.hid (show a + (P.take (s - a)).length = s by have := HMA.out; rw [List.length_take]; omega)
        have HL2 := Lib.hid (show s + (P.drop (s - a)).length = m by have := HMA.out; rw [List.length_drop]; omega)
        have HL3 := Lib.hid (show m + (Q.take (e - m)).length = e by have := HMB.out; rw [List.length_take]; omega)
        have HL4 := Lib.hid (show e + (Q.drop (e - m)).length = b2 by have := HMB.out; rw [List.length_drop]; omega)
        have HPE := Lib.hid (List.take_append_drop (s - a) P)
        have HQE := Lib.hid (List.take_append_drop (e - m) Q)
        have HS1 := Lib.hid (HP.out.take (s - a))
        have HS2 := Lib.hid (HP.out.drop (s - a))
        have HS3 := Lib.hid (HQ.out.take (e - m))
        have HS4 := Lib.hid (HQ.out.drop (e - m))
        have HDr := Lib.hid (show Dat wr b (X ++ (P.take (s - a) ++ (P.drop (s - a) ++ (Q.take (e - m) ++ (Q.drop (e - m) ++ Z))))) rest by
          rw [← List.append_assoc (Q.take _), List.take_append_drop, ← List.append_assoc (P.take _), List.take_append_drop]; exact HD.out.keep HB.out)
        generalize P.take (s - a) = P1 at *
        generalize P.drop (s - a) = P2 at *
        generalize Q.take (e - m) = Q1 at *
        generalize Q.drop (e - m) = Q2 at *
        have HSE := Lib.hid hse
        have HLZ := Lib.hid (show b2 + Z.length = n by have := HN2.out; have := HA.out; have := HMA.out; have := HMB.out; omega)
        have HHr := Lib.hid (HH.out.below HB.out)
        have HUr := Lib.hid (show Upd [b] w wr from .of_below HB.out)
        have HN1 := Lib.hid (show Nums S (P1 ++ Q1) from fun k hk => HN.out k (by rw [← HPE.out, ← HQE.out]; rcases List.mem_append.1 hk with h | h <;> simp [h]))
        have HN3 := Lib.hid (show Nums S (P2 ++ Q2) from fun k hk => HN.out k (by rw [← HPE.out, ← HQE.out]; rcases List.mem_append.1 hk with h | h <;> simp [h]))
        clear H1 H2 he hse HD HN HP HQ HSB hs0s hrr
        by_cases A2 : s < m
        · have A2I : (s : Int) < (m : Int) := by omega
          have B2I : (mid : Int) < (e : Int) := by have := HSE.out; omega
          by_cases A3 : s < mid
          · have A3I : (s : Int) < (mid : Int) := by omega
            have B3I : (m : Int) < (e : Int) := by have := HSE.out; omega
            by_cases A1 : a < s
            · have A1I : (a : Int) < (s : Int) := by omega
              by_cases A4 : e < b2
              · have A4I : (e : Int) < (b2 : Int) := by omega
                have HRO : Hid (Calls Try.prog 52 #[.slice (some ⟨b, 0, none⟩) n c, .int .i64 s, .int .i64 m, .int .i64 e, .func (.func 47) #[.pointer (some ⟨h, 0, none⟩)] #[]] wr fun e w' => e = .returned (.tuple #[]) ∧ Dat w' b (X ++ (P1 ++ (Q1 ++ (P2 ++ (Q2 ++ Z))))) rest ∧ Upd [b] wr w') := by
                  have h0 : Dat wr b ((X ++ P1) ++ (P2 ++ (Q1 ++ (Q2 ++ Z)))) rest := by rw [List.append_assoc]; exact HDr.out
                  have := c_rotate wr b n c (X ++ P1) P2 Q1 (Q2 ++ Z) rest h0 (by have := HL1.out; have := HL2.out; have := HL3.out; have := HL4.out; have := HLZ.out; have := HA.out; simp only [List.length_append]; omega) hsm (by have := HL2.out; omega) (by have := HL3.out; omega) s m e (by have := HL1.out; have := HA.out; rw [List.length_append]; omega) (by have := HL1.out; have := HL2.out; have := HA.out; rw [List.length_append]; omega) (by have := HL1.out; have := HL2.out; have := HL3.out; have := HA.out; rw [List.length_append]; omega) (.func (.func 47) #[.pointer (some ⟨h, 0, none⟩)] #[])
                  rw [List.append_assoc] at this
                  exact this
                go_wp2_with fail
                refine HRO.out.mono ?_
                rintro e' wA ⟨rfl, hda, hua⟩
                have HDA := Lib.hid hda
                have HUA := Lib.hid (HUr.out.trans hua)
                have HHA := Lib.hid (HHr.out.upd hua HDr.out.row)
                clear hda hua HRO HDr HUr HHr
                have HLC := Lib.hid (HIH.out wA X P1 Q1 (P2 ++ (Q2 ++ Z)) (by have := HL1.out; have := HL2.out; have := HL3.out; have := HL4.out; have := HMA.out; have := HMB.out; have := HSE.out; omega) (by have := HL1.out; omega) (by have := HL3.out; have := HSE.out; omega) HHA.out HDA.out (by have := HL1.out; have := HL2.out; have := HL3.out; have := HL4.out; have := HLZ.out; have := HA.out; simp only [List.length_append]; omega) HN1.out HS1.out HS3.out a s mid HA.out (by have := HL1.out; have := HA.out; omega) (by have := HL1.out; have := HL3.out; have := HA.out; have := HSE.out; omega))
                go_wp2_with fail
                refine HLC.out.mono ?_
                rintro e' wB ⟨rfl, ⟨M1, hp1, hs1', hdb⟩, hub⟩
                have HP1 := Lib.hid hp1
                have HM1 := Lib.hid hs1'
                have HDB := Lib.hid (show Dat wB b (X ++ (M1 ++ (P2 ++ (Q2 ++ Z)))) rest from hdb)
                have HUB := Lib.hid (HUA.out.trans hub)
                have HHB := Lib.hid (HHA.out.upd hub HDA.out.row)
                clear hp1 hs1' hdb hub HLC HDA HUA HHA
                have hml : X.length + M1.length = mid := by have h1 := HP1.out.length_eq; rw [List.length_append] at h1; have := HL1.out; have := HL3.out; have := HSE.out; have := HA.out; omega
                have HML := Lib.hid hml
                clear hml
                have HRC := Lib.hid (HIH.out wB (X ++ M1) P2 Q2 Z (by have := HL1.out; have := HL2.out; have := HL3.out; have := HL4.out; have := HMA.out; have := HMB.out; have := HSE.out; omega) (by have := HL2.out; omega) (by have := HL4.out; omega) HHB.out (by rw [List.append_assoc]; exact HDB.out) (by have := HML.out; have := HL2.out; have := HL3.out; have := HL4.out; have := HLZ.out; have := HSE.out; simp only [List.length_append]; omega) HN3.out HS2.out HS4.out mid e b2 (by rw [List.length_append]; exact HML.out.symm) (by rw [List.length_append]; have := HML.out; have := HL2.out; have := HSE.out; omega) (by rw [List.length_append]; have := HML.out; have := HL2.out; have := HL4.out; have := HSE.out; omega))
                go_wp2_with fail
                refine HRC.out.mono ?_
                rintro e' wC ⟨rfl, ⟨M2, hp2, hs2', hdc⟩, huc⟩
                have HP2 := Lib.hid hp2
                have HM2 := Lib.hid hs2'
                have HDC := Lib.hid (show Dat wC b (X ++ (M1 ++ (M2 ++ Z))) rest by rw [List.append_assoc] at hdc; exact hdc)
                have HUC := Lib.hid (HUB.out.trans huc)
                clear hp2 hs2' hdc huc HRC HDB HUB HHB
                go_wp2
                go_end0
                refine ⟨rfl, ⟨M1 ++ M2, ?_, srt_app HM1.out HM2.out HP1.out HP2.out HC.out, by rw [List.append_assoc]; exact HDC.out⟩, HUC.out⟩
                rw [← HPE.out, ← HQE.out]
                exact perm_four P1 P2 Q1 Q2 M1 M2 HP1.out HP2.out
              · have A4I : ¬ (e : Int) < (b2 : Int) := by omega
                have HRO : Hid (Calls Try.prog 52 #[.slice (some ⟨b, 0, none⟩) n c, .int .i64 s, .int .i64 m, .int .i64 e, .func (.func 47) #[.pointer (some ⟨h, 0, none⟩)] #[]] wr fun e w' => e = .returned (.tuple #[]) ∧ Dat w' b (X ++ (P1 ++ (Q1 ++ (P2 ++ (Q2 ++ Z))))) rest ∧ Upd [b] wr w') := by
                  have h0 : Dat wr b ((X ++ P1) ++ (P2 ++ (Q1 ++ (Q2 ++ Z)))) rest := by rw [List.append_assoc]; exact HDr.out
                  have := c_rotate wr b n c (X ++ P1) P2 Q1 (Q2 ++ Z) rest h0 (by have := HL1.out; have := HL2.out; have := HL3.out; have := HL4.out; have := HLZ.out; have := HA.out; simp only [List.length_append]; omega) hsm (by have := HL2.out; omega) (by have := HL3.out; omega) s m e (by have := HL1.out; have := HA.out; rw [List.length_append]; omega) (by have := HL1.out; have := HL2.out; have := HA.out; rw [List.length_append]; omega) (by have := HL1.out; have := HL2.out; have := HL3.out; have := HA.out; rw [List.length_append]; omega) (.func (.func 47) #[.pointer (some ⟨h, 0, none⟩)] #[])
                  rw [List.append_assoc] at this
                  exact this
                go_wp2_with fail
                refine HRO.out.mono ?_
                rintro e' wA ⟨rfl, hda, hua⟩
                have HDA := Lib.hid hda
                have HUA := Lib.hid (HUr.out.trans hua)
                have HHA := Lib.hid (HHr.out.upd hua HDr.out.row)
                clear hda hua HRO HDr HUr HHr
                have HLC := Lib.hid (HIH.out wA X P1 Q1 (P2 ++ (Q2 ++ Z)) (by have := HL1.out; have := HL2.out; have := HL3.out; have := HL4.out; have := HMA.out; have := HMB.out; have := HSE.out; omega) (by have := HL1.out; omega) (by have := HL3.out; have := HSE.out; omega) HHA.out HDA.out (by have := HL1.out; have := HL2.out; have := HL3.out; have := HL4.out; have := HLZ.out; have := HA.out; simp only [List.length_append]; omega) HN1.out HS1.out HS3.out a s mid HA.out (by have := HL1.out; have := HA.out; omega) (by have := HL1.out; have := HL3.out; have := HA.out; have := HSE.out; omega))
                go_wp2_with fail
                refine HLC.out.mono ?_
                rintro e' wB ⟨rfl, ⟨M1, hp1, hs1', hdb⟩, hub⟩
                have HP1 := Lib.hid hp1
                have HM1 := Lib.hid hs1'
                have HDB := Lib.hid (show Dat wB b (X ++ (M1 ++ (P2 ++ (Q2 ++ Z)))) rest from hdb)
                have HUB := Lib.hid (HUA.out.trans hub)
                have HHB := Lib.hid (HHA.out.upd hub HDA.out.row)
                clear hp1 hs1' hdb hub HLC HDA HUA HHA
                have hm2' : Srt S (P2 ++ Q2) := by
                  by_cases hz : s = m
                  · have hP2 : P2 = [] := List.eq_nil_of_length_eq_zero (by have := HL2.out; have := HSE.out; omega)
                    rw [hP2]; exact HS4.out
                  · have hQ2 : Q2 = [] := List.eq_nil_of_length_eq_zero (by have := HL4.out; have := HSE.out; omega)
                    rw [hQ2, List.append_nil]; exact HS2.out
                obtain ⟨M2, HP2, HM2, HDC⟩ : ∃ M2 : List Nat, Hid (M2.Perm (P2 ++ Q2)) ∧ Hid (Srt S M2) ∧ Hid (Dat wB b (X ++ (M1 ++ (M2 ++ Z))) rest) := ⟨P2 ++ Q2, List.Perm.refl _, hm2', by unfold Hid; rw [List.append_assoc]; exact HDB.out⟩
                have HUC := HUB
                clear HDB HUB HHB hm2'
                go_wp2
                go_end0
                refine ⟨rfl, ⟨M1 ++ M2, ?_, srt_app HM1.out HM2.out HP1.out HP2.out HC.out, by rw [List.append_assoc]; exact HDC.out⟩, HUC.out⟩
                rw [← HPE.out, ← HQE.out]
                exact perm_four P1 P2 Q1 Q2 M1 M2 HP1.out HP2.out
            · have A1I : ¬ (a : Int) < (s : Int) := by omega
              by_cases A4 : e < b2
              · have A4I : (e : Int) < (b2 : Int) := by omega
                have HRO : Hid (Calls Try.prog 52 #[.slice (some ⟨b, 0, none⟩) n c, .int .i64 s, .int .i64 m, .int .i64 e, .func (.func 47) #[.pointer (some ⟨h, 0, none⟩)] #[]] wr fun e w' => e = .returned (.tuple #[]) ∧ Dat w' b (X ++ (P1 ++ (Q1 ++ (P2 ++ (Q2 ++ Z))))) rest ∧ Upd [b] wr w') := by
                  have h0 : Dat wr b ((X ++ P1) ++ (P2 ++ (Q1 ++ (Q2 ++ Z)))) rest := by rw [List.append_assoc]; exact HDr.out
                  have := c_rotate wr b n c (X ++ P1) P2 Q1 (Q2 ++ Z) rest h0 (by have := HL1.out; have := HL2.out; have := HL3.out; have := HL4.out; have := HLZ.out; have := HA.out; simp only [List.length_append]; omega) hsm (by have := HL2.out; omega) (by have := HL3.out; omega) s m e (by have := HL1.out; have := HA.out; rw [List.length_append]; omega) (by have := HL1.out; have := HL2.out; have := HA.out; rw [List.length_append]; omega) (by have := HL1.out; have := HL2.out; have := HL3.out; have := HA.out; rw [List.length_append]; omega) (.func (.func 47) #[.pointer (some ⟨h, 0, none⟩)] #[])
                  rw [List.append_assoc] at this
                  exact this
                go_wp2_with fail
                refine HRO.out.mono ?_
                rintro e' wA ⟨rfl, hda, hua⟩
                have HDA := Lib.hid hda
                have HUA := Lib.hid (HUr.out.trans hua)
                have HHA := Lib.hid (HHr.out.upd hua HDr.out.row)
                clear hda hua HRO HDr HUr HHr
                have hm1' : Srt S (P1 ++ Q1) := by
                  by_cases hz : s = a
                  · have hP1 : P1 = [] := List.eq_nil_of_length_eq_zero (by have := HL1.out; have := HSE.out; omega)
                    rw [hP1]; exact HS3.out
                  · have hQ1 : Q1 = [] := List.eq_nil_of_length_eq_zero (by have := HL3.out; have := HSE.out; omega)
                    rw [hQ1, List.append_nil]; exact HS1.out
                obtain ⟨M1, HP1, HM1, HDB⟩ : ∃ M1 : List Nat, Hid (M1.Perm (P1 ++ Q1)) ∧ Hid (Srt S M1) ∧ Hid (Dat wA b (X ++ (M1 ++ (P2 ++ (Q2 ++ Z)))) rest) := ⟨P1 ++ Q1, List.Perm.refl _, hm1', by unfold Hid; rw [List.append_assoc]; exact HDA.out⟩
                have HUB := HUA
                have HHB := HHA
                clear HDA HUA HHA hm1'
                have hml : X.length + M1.length = mid := by have h1 := HP1.out.length_eq; rw [List.length_append] at h1; have := HL1.out; have := HL3.out; have := HSE.out; have := HA.out; omega
                have HML := Lib.hid hml
                clear hml
                have HRC := Lib.hid (HIH.out wA (X ++ M1) P2 Q2 Z (by have := HL1.out; have := HL2.out; have := HL3.out; have := HL4.out; have := HMA.out; have := HMB.out; have := HSE.out; omega) (by have := HL2.out; omega) (by have := HL4.out; omega) HHB.out (by rw [List.append_assoc]; exact HDB.out) (by have := HML.out; have := HL2.out; have := HL3.out; have := HL4.out; have := HLZ.out; have := HSE.out; simp only [List.length_append]; omega) HN3.out HS2.out HS4.out mid e b2 (by rw [List.length_append]; exact HML.out.symm) (by rw [List.length_append]; have := HML.out; have := HL2.out; have := HSE.out; omega) (by rw [List.length_append]; have := HML.out; have := HL2.out; have := HL4.out; have := HSE.out; omega))
                go_wp2_with fail
                refine HRC.out.mono ?_
                rintro e' wC ⟨rfl, ⟨M2, hp2, hs2', hdc⟩, huc⟩
                have HP2 := Lib.hid hp2
                have HM2 := Lib.hid hs2'
                have HDC := Lib.hid (show Dat wC b (X ++ (M1 ++ (M2 ++ Z))) rest by rw [List.append_assoc] at hdc; exact hdc)
                have HUC := Lib.hid (HUB.out.trans huc)
                clear hp2 hs2' hdc huc HRC HDB HUB HHB
                go_wp2
                go_end0
                refine ⟨rfl, ⟨M1 ++ M2, ?_, srt_app HM1.out HM2.out HP1.out HP2.out HC.out, by rw [List.append_assoc]; exact HDC.out⟩, HUC.out⟩
                rw [← HPE.out, ← HQE.out]
                exact perm_four P1 P2 Q1 Q2 M1 M2 HP1.out HP2.out
              · have A4I : ¬ (e : Int) < (b2 : Int) := by omega
                have HRO : Hid (Calls Try.prog 52 #[.slice (some ⟨b, 0, none⟩) n c, .int .i64 s, .int .i64 m, .int .i64 e, .func (.func 47) #[.pointer (some ⟨h, 0, none⟩)] #[]] wr fun e w' => e = .returned (.tuple #[]) ∧ Dat w' b (X ++ (P1 ++ (Q1 ++ (P2 ++ (Q2 ++ Z))))) rest ∧ Upd [b] wr w') := by
                  have h0 : Dat wr b ((X ++ P1) ++ (P2 ++ (Q1 ++ (Q2 ++ Z)))) rest := by rw [List.append_assoc]; exact HDr.out
                  have := c_rotate wr b n c (X ++ P1) P2 Q1 (Q2 ++ Z) rest h0 (by have := HL1.out; have := HL2.out; have := HL3.out; have := HL4.out; have := HLZ.out; have := HA.out; simp only [List.length_append]; omega) hsm (by have := HL2.out; omega) (by have := HL3.out; omega) s m e (by have := HL1.out; have := HA.out; rw [List.length_append]; omega) (by have := HL1.out; have := HL2.out; have := HA.out; rw [List.length_append]; omega) (by have := HL1.out; have := HL2.out; have := HL3.out; have := HA.out; rw [List.length_append]; omega) (.func (.func 47) #[.pointer (some ⟨h, 0, none⟩)] #[])
                  rw [List.append_assoc] at this
                  exact this
                go_wp2_with fail
                refine HRO.out.mono ?_
                rintro e' wA ⟨rfl, hda, hua⟩
                have HDA := Lib.hid hda
                have HUA := Lib.hid (HUr.out.trans hua)
                have HHA := Lib.hid (HHr.out.upd hua HDr.out.row)
                clear hda hua HRO HDr HUr HHr
                have hm1' : Srt S (P1 ++ Q1) := by
                  by_cases hz : s = a
                  · have hP1 : P1 = [] := List.eq_nil_of_length_eq_zero (by have := HL1.out; have := HSE.out; omega)
                    rw [hP1]; exact HS3.out
                  · have hQ1 : Q1 = [] := List.eq_nil_of_length_eq_zero (by have := HL3.out; have := HSE.out; omega)
                    rw [hQ1, List.append_nil]; exact HS1.out
                obtain ⟨M1, HP1, HM1, HDB⟩ : ∃ M1 : List Nat, Hid (M1.Perm (P1 ++ Q1)) ∧ Hid (Srt S M1) ∧ Hid (Dat wA b (X ++ (M1 ++ (P2 ++ (Q2 ++ Z)))) rest) := ⟨P1 ++ Q1, List.Perm.refl _, hm1', by unfold Hid; rw [List.append_assoc]; exact HDA.out⟩
                have HUB := HUA
                have HHB := HHA
                clear HDA HUA HHA hm1'
                have hm2' : Srt S (P2 ++ Q2) := by
                  by_cases hz : s = m
                  · have hP2 : P2 = [] := List.eq_nil_of_length_eq_zero (by have := HL2.out; have := HSE.out; omega)
                    rw [hP2]; exact HS4.out
                  · have hQ2 : Q2 = [] := List.eq_nil_of_length_eq_zero (by have := HL4.out; have := HSE.out; omega)
                    rw [hQ2, List.append_nil]; exact HS2.out
                obtain ⟨M2, HP2, HM2, HDC⟩ : ∃ M2 : List Nat, Hid (M2.Perm (P2 ++ Q2)) ∧ Hid (Srt S M2) ∧ Hid (Dat wA b (X ++ (M1 ++ (M2 ++ Z))) rest) := ⟨P2 ++ Q2, List.Perm.refl _, hm2', by unfold Hid; rw [List.append_assoc]; exact HDB.out⟩
                have HUC := HUB
                clear HDB HUB HHB hm2'
                go_wp2
                go_end0
                refine ⟨rfl, ⟨M1 ++ M2, ?_, srt_app HM1.out HM2.out HP1.out HP2.out HC.out, by rw [List.append_assoc]; exact HDC.out⟩, HUC.out⟩
                rw [← HPE.out, ← HQE.out]
                exact perm_four P1 P2 Q1 Q2 M1 M2 HP1.out HP2.out
          · have A3I : ¬ (s : Int) < (mid : Int) := by omega
            have B3I : ¬ (m : Int) < (e : Int) := by have := HSE.out; omega
            have A4I : (e : Int) < (b2 : Int) := by have := HSE.out; omega
            by_cases A1 : a < s
            · have A1I : (a : Int) < (s : Int) := by omega
              have HDA : Hid (Dat wr b (X ++ (P1 ++ (Q1 ++ (P2 ++ (Q2 ++ Z))))) rest) := by
                unfold Hid
                have hQ1 : Q1 = [] := List.eq_nil_of_length_eq_zero (by have := HL3.out; have := HSE.out; omega)
                have := HDr.out
                rw [hQ1] at this ⊢
                exact this
              have HUA := HUr
              have HHA := HHr
              clear HDr HUr HHr
              have hm1' : Srt S (P1 ++ Q1) := by
                by_cases hz : s = a
                · have hP1 : P1 = [] := List.eq_nil_of_length_eq_zero (by have := HL1.out; have := HSE.out; omega)
                  rw [hP1]; exact HS3.out
                · have hQ1 : Q1 = [] := List.eq_nil_of_length_eq_zero (by have := HL3.out; have := HSE.out; omega)
                  rw [hQ1, List.append_nil]; exact HS1.out
              obtain ⟨M1, HP1, HM1, HDB⟩ : ∃ M1 : List Nat, Hid (M1.Perm (P1 ++ Q1)) ∧ Hid (Srt S M1) ∧ Hid (Dat wr b (X ++ (M1 ++ (P2 ++ (Q2 ++ Z)))) rest) := ⟨P1 ++ Q1, List.Perm.refl _, hm1', by unfold Hid; rw [List.append_assoc]; exact HDA.out⟩
              have HUB := HUA
              have HHB := HHA
              clear HDA HUA HHA hm1'
              have hml : X.length + M1.length = mid := by have h1 := HP1.out.length_eq; rw [List.length_append] at h1; have := HL1.out; have := HL3.out; have := HSE.out; have := HA.out; omega
              have HML := Lib.hid hml
              clear hml
              have HRC := Lib.hid (HIH.out wr (X ++ M1) P2 Q2 Z (by have := HL1.out; have := HL2.out; have := HL3.out; have := HL4.out; have := HMA.out; have := HMB.out; have := HSE.out; omega) (by have := HL2.out; omega) (by have := HL4.out; omega) HHB.out (by rw [List.append_assoc]; exact HDB.out) (by have := HML.out; have := HL2.out; have := HL3.out; have := HL4.out; have := HLZ.out; have := HSE.out; simp only [List.length_append]; omega) HN3.out HS2.out HS4.out mid e b2 (by rw [List.length_append]; exact HML.out.symm) (by rw [List.length_append]; have := HML.out; have := HL2.out; have := HSE.out; omega) (by rw [List.length_append]; have := HML.out; have := HL2.out; have := HL4.out; have := HSE.out; omega))
              go_wp2_with fail
              refine HRC.out.mono ?_
              rintro e' wC ⟨rfl, ⟨M2, hp2, hs2', hdc⟩, huc⟩
              have HP2 := Lib.hid hp2
              have HM2 := Lib.hid hs2'
              have HDC := Lib.hid (show Dat wC b (X ++ (M1 ++ (M2 ++ Z))) rest by rw [List.append_assoc] at hdc; exact hdc)
              have HUC := Lib.hid (HUB.out.trans huc)
              clear hp2 hs2' hdc huc HRC HDB HUB HHB
              go_wp2
              go_end0
              refine ⟨rfl, ⟨M1 ++ M2, ?_, srt_app HM1.out HM2.out HP1.out HP2.out HC.out, by rw [List.append_assoc]; exact HDC.out⟩, HUC.out⟩
              rw [← HPE.out, ← HQE.out]
              exact perm_four P1 P2 Q1 Q2 M1 M2 HP1.out HP2.out
            · have A1I : ¬ (a : Int) < (s : Int) := by omega
              have HDA : Hid (Dat wr b (X ++ (P1 ++ (Q1 ++ (P2 ++ (Q2 ++ Z))))) rest) := by
                unfold Hid
                have hQ1 : Q1 = [] := List.eq_nil_of_length_eq_zero (by have := HL3.out; have := HSE.out; omega)
                have := HDr.out
                rw [hQ1] at this ⊢
                exact this
              have HUA := HUr
              have HHA := HHr
              clear HDr HUr HHr
              have hm1' : Srt S (P1 ++ Q1) := by
                by_cases hz : s = a
                · have hP1 : P1 = [] := List.eq_nil_of_length_eq_zero (by have := HL1.out; have := HSE.out; omega)
                  rw [hP1]; exact HS3.out
                · have hQ1 : Q1 = [] := List.eq_nil_of_length_eq_zero (by have := HL3.out; have := HSE.out; omega)
                  rw [hQ1, List.append_nil]; exact HS1.out
              obtain ⟨M1, HP1, HM1, HDB⟩ : ∃ M1 : List Nat, Hid (M1.Perm (P1 ++ Q1)) ∧ Hid (Srt S M1) ∧ Hid (Dat wr b (X ++ (M1 ++ (P2 ++ (Q2 ++ Z)))) rest) := ⟨P1 ++ Q1, List.Perm.refl _, hm1', by unfold Hid; rw [List.append_assoc]; exact HDA.out⟩
              have HUB := HUA
              have HHB := HHA
              clear HDA HUA HHA hm1'
              have hml : X.length + M1.length = mid := by have h1 := HP1.out.length_eq; rw [List.length_append] at h1; have := HL1.out; have := HL3.out; have := HSE.out; have := HA.out; omega
              have HML := Lib.hid hml
              clear hml
              have HRC := Lib.hid (HIH.out wr (X ++ M1) P2 Q2 Z (by have := HL1.out; have := HL2.out; have := HL3.out; have := HL4.out; have := HMA.out; have := HMB.out; have := HSE.out; omega) (by have := HL2.out; omega) (by have := HL4.out; omega) HHB.out (by rw [List.append_assoc]; exact HDB.out) (by have := HML.out; have := HL2.out; have := HL3.out; have := HL4.out; have := HLZ.out; have := HSE.out; simp only [List.length_append]; omega) HN3.out HS2.out HS4.out mid e b2 (by rw [List.length_append]; exact HML.out.symm) (by rw [List.length_append]; have := HML.out; have := HL2.out; have := HSE.out; omega) (by rw [List.length_append]; have := HML.out; have := HL2.out; have := HL4.out; have := HSE.out; omega))
              go_wp2_with fail
              refine HRC.out.mono ?_
              rintro e' wC ⟨rfl, ⟨M2, hp2, hs2', hdc⟩, huc⟩
              have HP2 := Lib.hid hp2
              have HM2 := Lib.hid hs2'
              have HDC := Lib.hid (show Dat wC b (X ++ (M1 ++ (M2 ++ Z))) rest by rw [List.append_assoc] at hdc; exact hdc)
              have HUC := Lib.hid (HUB.out.trans huc)
              clear hp2 hs2' hdc huc HRC HDB HUB HHB
              go_wp2
              go_end0
              refine ⟨rfl, ⟨M1 ++ M2, ?_, srt_app HM1.out HM2.out HP1.out HP2.out HC.out, by rw [List.append_assoc]; exact HDC.out⟩, HUC.out⟩
              rw [← HPE.out, ← HQE.out]
              exact perm_four P1 P2 Q1 Q2 M1 M2 HP1.out HP2.out
        · exfalso; have := HSE.out; omega
  · have hmmI : ¬ (mid : Int) < (m : Int) := by omega
    have HSB : Hid (a ≤ a ∧ a ≤ m ∧ m ≤ m ∧ nn ≤ a + b2 ∧ m + m ≤ nn ∧ (a + b2 = nn ∨ a = a) ∧ (m + m = nn ∨ m = m)) := by unfold Hid; have := HNN.out; have := HMID.out; omega
    go_enter Try.func51, Try.ntmps51
    go_wp2
    go_loopw [20, 21, 23] (fun iv jv x wr => ∃ s r : Nat, s ≤ r ∧ a ≤ s ∧ r ≤ m ∧ iv = .int .i64 (s : Int) ∧ jv = .int .i64 (r : Int) ∧ Hid (s = a ∨ (a < s ∧ atOf S (P.getD (s - 1 - a) 0) ≤ atOf S (Q.getD (nn - s - m) 0))) ∧ Hid (r = m ∨ (r < m ∧ atOf S (Q.getD (nn - 1 - r - m) 0) ≤ atOf S (P.getD (r - a) 0))) ∧ Hid (Below w.heap.size w wr)) (fun i j _ _ => (intOf j).toNat - (intOf i).toNat)
    case atStart => exact ⟨a, m, by have := HSB.out; omega, Nat.le_refl _, Nat.le_refl _, rfl, rfl, .inl rfl, .inl rfl, Below.refl _ _⟩
    case round =>
      obtain ⟨s, r, hsr, hs0s, hrr, rfl, rfl, H1, H2, HB⟩ := hrel
      by_cases hlt : s < r
      · have hltI : (s : Int) < (r : Int) := by omega
        obtain ⟨D, hD⟩ : ∃ D, D = (s + r) / 2 := ⟨_, rfl⟩
        have hD1 : s ≤ D ∧ D < r := by omega
        have hDI : ((s : Int) + (r : Int)) / 2 = (D : Int) := by omega
        have hdm : D < m ∧ a ≤ D := by have := HSB.out; omega
        have hde : m + D + 1 ≤ nn ∧ nn ≤ D + b2 := by have := HSB.out; omega
        obtain ⟨E, hE⟩ : ∃ E, E = nn - 1 - D := ⟨_, rfl⟩
        have hEI : (nn : Int) - 1 - (D : Int) = (E : Int) := by omega
        have hEn : E < n := by omega
        have hDn : D < n := by omega
        have HDR := HD.out.keep HB.out
        have hdp : D - a < P.length := by have := HMA.out; omega
        have hdq : E - m < Q.length := by have := HMB.out; omega
        have ky := HDR.cell (i := E) (by rw [← HLN.out]; omega)
        have kp := HDR.cell (i := D) (by rw [← HLN.out]; omega)
        have ey : (X ++ (P ++ (Q ++ Z))).getD E 0 = Q.getD (E - m) 0 := by
          have := getD_in (X := X ++ P) (Y := Q) (Z := Z) hdq
          rw [List.append_assoc, List.length_append] at this
          rw [← this]; congr 1; have := HA.out; have := HMA.out; omega
        have ep : (X ++ (P ++ (Q ++ Z))).getD D 0 = P.getD (D - a) 0 := by
          have := getD_in (X := X) (Y := P) (Z := Q ++ Z) hdp
          rw [← this]; congr 1; have := HA.out; omega
        rw [ey] at ky
        rw [ep] at kp
        have hmy := HN.out (Q.getD (E - m) 0) (List.mem_append_right _ (mem_getD hdq))
        have hmp := HN.out (P.getD (D - a) 0) (List.mem_append_left _ (mem_getD hdp))
        have HEV := Lib.hid (show Q.getD (nn - 1 - D - m) 0 = Q.getD (E - m) 0 by rw [hE])
        have HEV2 := Lib.hid (show Q.getD (nn - (D + 1) - m) 0 = Q.getD (E - m) 0 by rw [hE, show nn - (D + 1) = nn - 1 - D by omega])
        have HEV3 := Lib.hid (show P.getD (D + 1 - 1 - a) 0 = P.getD (D - a) 0 by rw [Nat.add_sub_cancel])
        have HPV := Lib.hid (rfl : P.getD (D - a) 0 = P.getD (D - a) 0)
        generalize hyq : Q.getD (E - m) 0 = y at *
        generalize hxp : P.getD (D - a) 0 = x at *
        have HXP := Lib.hid hxp
        have HYQ := Lib.hid hyq
        have HM := Lib.hid (c_cmp (HH.out.below HB.out.drew) y x hmy.1 hmp.1 hmy.2 hmp.2)
        have HBD := Lib.hid (show Below w.heap.size w wr.drew from HB.out.drew)
        obtain ⟨hD1, hD2⟩ := hD1
        clear ey ep HDR hmy hmp hE hdp hdq hyq hxp hdm hde hD HPV
        go_wp2_with fail
        refine wp_region_planH (fun z => z.cell? ⟨b, E, none⟩ = some (.int .i64 (y : Int)) ∧ z.cell? ⟨b, D, none⟩ = some (.int .i64 (x : Int))) [(0, true), (1, true), (2, true), (3, true), (4, true), (5, true), (6, true), (7, true), (8, true), (9, true), (10, true), (11, false), (12, true), (13, true)] (by kernel_rfl) (by kernel_rfl) (fun _ _ _ _ _ h => h) ⟨ky, kp⟩ ?_
        have HS : Hid (wr.drew.cell? ⟨b, E, none⟩ = some (.int .i64 (y : Int)) ∧ wr.drew.cell? ⟨b, D, none⟩ = some (.int .i64 (x : Int))) := ⟨ky, kp⟩
        clear ky kp
        generalize wr.drew = wd at *
        (repeat (refine wpPlanH_free rfl (fun K hK => ?_); go_simp; (try go_bits); refine hK _ ?_; clear hK K))
        refine wpPlanH_load (.int .i64 (y : Int)) rfl rfl (fun x hS => by obtain ⟨s0, s1⟩ := hS; go_simp) (fun K hK => ?_)
        refine hK _ ?_
        clear hK K
        (repeat (refine wpPlanH_free rfl (fun K hK => ?_); go_simp; (try go_bits); refine hK _ ?_; clear hK K))
        refine wpPlanH_load (.int .i64 (x : Int)) rfl rfl (fun x hS => by obtain ⟨s0, s1⟩ := hS; go_simp) (fun K hK => ?_)
        refine hK _ ?_
        clear hK K
        refine wpPlanH_sole rfl ?_
        go_wp2_with fail
        refine HM.out.mono ?_
        rintro e w' ⟨rfl, hb2⟩
        have HB2 := Lib.hid (HBD.out.trans (hb2.mono HBD.out.size))
        have HS2 := Lib.hid (And.intro (cellKeep hb2 HS.out.1) (cellKeep hb2 HS.out.2))
        clear hb2 HM HS
        by_cases hyp : atOf S y < atOf S x
        · have e2 : ((atOf S y : Int) - (atOf S x : Int) < 0) = True := eq_true (by omega)
          have HYP := Lib.hid hyp
          clear hyp
          generalize (atOf S y : Int) - (atOf S x : Int) = z at *
          go_wp2
          refine ⟨HS2.out, ?_⟩
          (repeat (refine wpPlanH_free rfl (fun K hK => ?_); go_simp; (try go_bits); refine hK _ ?_; clear hK K))
          refine wpPlanH_nil ?_
          go_wp2
          go_roundw
          case rel => exact ⟨s, D, by omega, by omega, by omega, rfl, rfl, H1.out, .inr ⟨by omega, by rw [HEV.out, HXP.out]; exact Nat.le_of_lt HYP.out⟩, HB2.out⟩
          case measure => simp [intOf]; omega
        · have e2 : ((atOf S y : Int) - (atOf S x : Int) < 0) = False := eq_false (by omega)
          have HYP := Lib.hid hyp
          clear hyp
          generalize (atOf S y : Int) - (atOf S x : Int) = z at *
          go_wp2
          refine ⟨HS2.out, ?_⟩
          (repeat (refine wpPlanH_free rfl (fun K hK => ?_); go_simp; (try go_bits); refine hK _ ?_; clear hK K))
          refine wpPlanH_nil ?_
          go_wp2
          go_roundw
          case rel => exact ⟨D + 1, r, by omega, by omega, by omega, by go_num, rfl, .inr ⟨by omega, by rw [HEV3.out, HEV2.out]; have := HYP.out; omega⟩, H2.out, HB2.out⟩
          case measure => simp [intOf]; omega
      · obtain rfl : s = r := by omega
        clear hlt hsr
        obtain ⟨e, he⟩ : ∃ e, e = nn - s := ⟨_, rfl⟩
        have heI : (nn : Int) - (s : Int) = (e : Int) := by have := HSB.out; omega
        have hs : a ≤ s ∧ s ≤ m ∧ m ≤ e ∧ e ≤ b2 := by have := HSB.out; omega
        have hse : e + s = mid + m := by have := HNN.out; omega
        obtain ⟨hs1, hs2, hs3, hs4⟩ := hs
        -- what stands where
        have HC : Hid (∀ x ∈ P.take (s - a) ++ Q.take (e - m), ∀ y ∈ P.drop (s - a) ++ Q.drop (e - m), atOf S x ≤ atOf S y) := by
          unfold Hid
          have hpl := HMA.out
          have hql := HMB.out
          have c1 : ∀ x ∈ P.take (s - a), ∀ y ∈ P.drop (s - a), atOf S x ≤ atOf S y := by
            have := HP.out
            rw [← List.take_append_drop (s - a) P] at this
            exact (List.pairwise_append.1 this).2.2
          have c2 : ∀ x ∈ Q.take (e - m), ∀ y ∈ Q.drop (e - m), atOf S x ≤ atOf S y := by
            have := HQ.out
            rw [← List.take_append_drop (e - m) Q] at this
            exact (List.pairwise_append.1 this).2.2
          have c3 : ∀ x ∈ P.take (s - a), ∀ y ∈ Q.drop (e - m), atOf S x ≤ atOf S y := by
            intro x hx y hy
            rcases H1.out with h1 | ⟨h1, h2⟩
            · rcases HSB.out.2.2.2.2.2.1 with h3 | h3
              · rw [List.drop_of_length_le (by omega)] at hy; simp at hy
              · rw [show s - a = 0 by omega] at hx; simp at hx
            · have h4 := take_le HP.out (k := s - 1 - a) (by omega) x (by rw [show s - 1 - a + 1 = s - a by omega]; exact hx)
              rw [← he] at h2
              by_cases h5 : e - m < Q.length
              · have h6 := drop_ge HQ.out h5 y hy
                omega
              · rw [List.drop_of_length_le (by omega)] at hy; simp at hy
          have c4 : ∀ x ∈ Q.take (e - m), ∀ y ∈ P.drop (s - a), atOf S x ≤ atOf S y := by
            intro x hx y hy
            rcases H2.out with h1 | ⟨h1, h2⟩
            · rcases HSB.out.2.2.2.2.2.2 with h3 | h3
              · rw [show e - m = 0 by omega] at hx; simp at hx
              · rw [List.drop_of_length_le (by omega)] at hy; simp at hy
            · by_cases h7 : e - m = 0
              · rw [h7] at hx; simp at hx
              · have h4 := take_le HQ.out (k := nn - 1 - s - m) (by omega) x (by rw [show nn - 1 - s - m + 1 = e - m by omega]; exact hx)
                by_cases h5 : s - a < P.length
                · have h6 := drop_ge HP.out h5 y hy
                  omega
                · rw [List.drop_of_length_le (by omega)] at hy; simp at hy
          intro x hx y hy
          rcases List.mem_append.1 hx with hx | hx
          · rcases List.mem_append.1 hy with hy | hy
            · exact c1 x hx y hy
            · exact c3 x hx y hy
          · rcases List.mem_append.1 hy with hy | hy
            · exact c4 x hx y hy
            · exact c2 x hx y hy
        have HL1 := Lib.hid (show a + (P.take (s - a)).length = s by have := HMA.out; rw [List.length_take]; omega)
        have HL2 := Lib.hid (show s + (P.drop (s - a)).length = m by have := HMA.out; rw [List.length_drop]; omega)
        have HL3 := Lib.hid (show m + (Q.take (e - m)).length = e by have := HMB.out; rw [List.length_take]; omega)
        have HL4 := Lib.hid (show e + (Q.drop (e - m)).length = b2 by have := HMB.out; rw [List.length_drop]; omega)
        have HPE := Lib.hid (List.take_append_drop (s - a) P)
        have HQE := Lib.hid (List.take_append_drop (e - m) Q)
        have HS1 := Lib.hid (HP.out.take (s - a))
        have HS2 := Lib.hid (HP.out.drop (s - a))
        have HS3 := Lib.hid (HQ.out.take (e - m))
        have HS4 := Lib.hid (HQ.out.drop (e - m))
        have HDr := Lib.hid (show Dat wr b (X ++ (P.take (s - a) ++ (P.drop (s - a) ++ (Q.take (e - m) ++ (Q.drop (e - m) ++ Z))))) rest by
          rw [← List.append_assoc (Q.take _), List.take_append_drop, ← List.append_assoc (P.take _), List.take_append_drop]; exact HD.out.keep HB.out)
        generalize P.take (s - a) = P1 at *
        generalize P.drop (s - a) = P2 at *
        generalize Q.take (e - m) = Q1 at *
        generalize Q.drop (e - m) = Q2 at *
        have HSE := Lib.hid hse
        have HLZ := Lib.hid (show b2 + Z.length = n by have := HN2.out; have := HA.out; have := HMA.out; have := HMB.out; omega)
        have HHr := Lib.hid (HH.out.below HB.out)
        have HUr := Lib.hid (show Upd [b] w wr from .of_below HB.out)
        have HN1 := Lib.hid (show Nums S (P1 ++ Q1) from fun k hk => HN.out k (by rw [← HPE.out, ← HQE.out]; rcases List.mem_append.1 hk with h | h <;> simp [h]))
        have HN3 := Lib.hid (show Nums S (P2 ++ Q2) from fun k hk => HN.out k (by rw [← HPE.out, ← HQE.out]; rcases List.mem_append.1 hk with h | h <;> simp [h]))
        clear H1 H2 he hse HD HN HP HQ HSB hs0s hrr
        by_cases A2 : s < m
        · have A2I : (s : Int) < (m : Int) := by omega
          have B2I : (mid : Int) < (e : Int) := by have := HSE.out; omega
          by_cases A3 : s < mid
          · have A3I : (s : Int) < (mid : Int) := by omega
            have B3I : (m : Int) < (e : Int) := by have := HSE.out; omega
            by_cases A1 : a < s
            · have A1I : (a : Int) < (s : Int) := by omega
              by_cases A4 : e < b2
              · have A4I : (e : Int) < (b2 : Int) := by omega
                have HRO : Hid (Calls Try.prog 52 #[.slice (some ⟨b, 0, none⟩) n c, .int .i64 s, .int .i64 m, .int .i64 e, .func (.func 47) #[.pointer (some ⟨h, 0, none⟩)] #[]] wr fun e w' => e = .returned (.tuple #[]) ∧ Dat w' b (X ++ (P1 ++ (Q1 ++ (P2 ++ (Q2 ++ Z))))) rest ∧ Upd [b] wr w') := by
                  have h0 : Dat wr b ((X ++ P1) ++ (P2 ++ (Q1 ++ (Q2 ++ Z)))) rest := by rw [List.append_assoc]; exact HDr.out
                  have := c_rotate wr b n c (X ++ P1) P2 Q1 (Q2 ++ Z) rest h0 (by have := HL1.out; have := HL2.out; have := HL3.out; have := HL4.out; have := HLZ.out; have := HA.out; simp only [List.length_append]; omega) hsm (by have := HL2.out; omega) (by have := HL3.out; omega) s m e (by have := HL1.out; have := HA.out; rw [List.length_append]; omega) (by have := HL1.out; have := HL2.out; have := HA.out; rw [List.length_append]; omega) (by have := HL1.out; have := HL2.out; have := HL3.out; have := HA.out; rw [List.length_append]; omega) (.func (.func 47) #[.pointer (some ⟨h, 0, none⟩)] #[])
                  rw [List.append_assoc] at this
                  exact this
                go_wp2_with fail
                refine HRO.out.mono ?_
                rintro e' wA ⟨rfl, hda, hua⟩
                have HDA := Lib.hid hda
                have HUA := Lib.hid (HUr.out.trans hua)
                have HHA := Lib.hid (HHr.out.upd hua HDr.out.row)
                clear hda hua HRO HDr HUr HHr
                have HLC := Lib.hid (HIH.out wA X P1 Q1 (P2 ++ (Q2 ++ Z)) (by have := HL1.out; have := HL2.out; have := HL3.out; have := HL4.out; have := HMA.out; have := HMB.out; have := HSE.out; omega) (by have := HL1.out; omega) (by have := HL3.out; have := HSE.out; omega) HHA.out HDA.out (by have := HL1.out; have := HL2.out; have := HL3.out; have := HL4.out; have := HLZ.out; have := HA.out; simp only [List.length_append]; omega) HN1.out HS1.out HS3.out a s mid HA.out (by have := HL1.out; have := HA.out; omega) (by have := HL1.out; have := HL3.out; have := HA.out; have := HSE.out; omega))
                go_wp2_with fail
                refine HLC.out.mono ?_
                rintro e' wB ⟨rfl, ⟨M1, hp1, hs1', hdb⟩, hub⟩
                have HP1 := Lib.hid hp1
                have HM1 := Lib.hid hs1'
                have HDB := Lib.hid (show Dat wB b (X ++ (M1 ++ (P2 ++ (Q2 ++ Z)))) rest from hdb)
                have HUB := Lib.hid (HUA.out.trans hub)
                have HHB := Lib.hid (HHA.out.upd hub HDA.out.row)
                clear hp1 hs1' hdb hub HLC HDA HUA HHA
                have hml : X.length + M1.length = mid := by have h1 := HP1.out.length_eq; rw [List.length_append] at h1; have := HL1.out; have := HL3.out; have := HSE.out; have := HA.out; omega
                have HML := Lib.hid hml
                clear hml
                have HRC := Lib.hid (HIH.out wB (X ++ M1) P2 Q2 Z (by have := HL1.out; have := HL2.out; have := HL3.out; have := HL4.out; have := HMA.out; have := HMB.out; have := HSE.out; omega) (by have := HL2.out; omega) (by have := HL4.out; omega) HHB.out (by rw [List.append_assoc]; exact HDB.out) (by have := HML.out; have := HL2.out; have := HL3.out; have := HL4.out; have := HLZ.out; have := HSE.out; simp only [List.length_append]; omega) HN3.out HS2.out HS4.out mid e b2 (by rw [List.length_append]; exact HML.out.symm) (by rw [List.length_append]; have := HML.out; have := HL2.out; have := HSE.out; omega) (by rw [List.length_append]; have := HML.out; have := HL2.out; have := HL4.out; have := HSE.out; omega))
                go_wp2_with fail
                refine HRC.out.mono ?_
                rintro e' wC ⟨rfl, ⟨M2, hp2, hs2', hdc⟩, huc⟩
                have HP2 := Lib.hid hp2
                have HM2 := Lib.hid hs2'
                have HDC := Lib.hid (show Dat wC b (X ++ (M1 ++ (M2 ++ Z))) rest by rw [List.append_assoc] at hdc; exact hdc)
                have HUC := Lib.hid (HUB.out.trans huc)
                clear hp2 hs2' hdc huc HRC HDB HUB HHB
                go_wp2
                go_end0
                refine ⟨rfl, ⟨M1 ++ M2, ?_, srt_app HM1.out HM2.out HP1.out HP2.out HC.out, by rw [List.append_assoc]; exact HDC.out⟩, HUC.out⟩
                rw [← HPE.out, ← HQE.out]
                exact perm_four P1 P2 Q1 Q2 M1 M2 HP1.out HP2.out
              · have A4I : ¬ (e : Int) < (b2 : Int) := by omega
                have HRO : Hid (Calls Try.prog 52 #[.slice (some ⟨b, 0, none⟩) n c, .int .i64 s, .int .i64 m, .int .i64 e, .func (.func 47) #[.pointer (some ⟨h, 0, none⟩)] #[]] wr fun e w' => e = .returned (.tuple #[]) ∧ Dat w' b (X ++ (P1 ++ (Q1 ++ (P2 ++ (Q2 ++ Z))))) rest ∧ Upd [b] wr w') := by
                  have h0 : Dat wr b ((X ++ P1) ++ (P2 ++ (Q1 ++ (Q2 ++ Z)))) rest := by rw [List.append_assoc]; exact HDr.out
                  have := c_rotate wr b n c (X ++ P1) P2 Q1 (Q2 ++ Z) rest h0 (by have := HL1.out; have := HL2.out; have := HL3.out; have := HL4.out; have := HLZ.out; have := HA.out; simp only [List.length_append]; omega) hsm (by have := HL2.out; omega) (by have := HL3.out; omega) s m e (by have := HL1.out; have := HA.out; rw [List.length_append]; omega) (by have := HL1.out; have := HL2.out; have := HA.out; rw [List.length_append]; omega) (by have := HL1.out; have := HL2.out; have := HL3.out; have := HA.out; rw [List.length_append]; omega) (.func (.func 47) #[.pointer (some ⟨h, 0, none⟩)] #[])
                  rw [List.append_assoc] at this
                  exact this
                go_wp2_with fail
                refine HRO.out.mono ?_
                rintro e' wA ⟨rfl, hda, hua⟩
                have HDA := Lib.hid hda
                have HUA := Lib.hid (HUr.out.trans hua)
                have HHA := Lib.hid (HHr.out.upd hua HDr.out.row)
                clear hda hua HRO HDr HUr HHr
                have HLC := Lib.hid (HIH.out wA X P1 Q1 (P2 ++ (Q2 ++ Z)) (by have := HL1.out; have := HL2.out; have := HL3.out; have := HL4.out; have := HMA.out; have := HMB.out; have := HSE.out; omega) (by have := HL1.out; omega) (by have := HL3.out; have := HSE.out; omega) HHA.out HDA.out (by have := HL1.out; have := HL2.out; have := HL3.out; have := HL4.out; have := HLZ.out; have := HA.out; simp only [List.length_append]; omega) HN1.out HS1.out HS3.out a s mid HA.out (by have := HL1.out; have := HA.out; omega) (by have := HL1.out; have := HL3.out; have := HA.out; have := HSE.out; omega))
                go_wp2_with fail
                refine HLC.out.mono ?_
                rintro e' wB ⟨rfl, ⟨M1, hp1, hs1', hdb⟩, hub⟩
                have HP1 := Lib.hid hp1
                have HM1 := Lib.hid hs1'
                have HDB := Lib.hid (show Dat wB b (X ++ (M1 ++ (P2 ++ (Q2 ++ Z)))) rest from hdb)
                have HUB := Lib.hid (HUA.out.trans hub)
                have HHB := Lib.hid (HHA.out.upd hub HDA.out.row)
                clear hp1 hs1' hdb hub HLC HDA HUA HHA
                have hm2' : Srt S (P2 ++ Q2) := by
                  by_cases hz : s = m
                  · have hP2 : P2 = [] := List.eq_nil_of_length_eq_zero (by have := HL2.out; have := HSE.out; omega)
                    rw [hP2]; exact HS4.out
                  · have hQ2 : Q2 = [] := List.eq_nil_of_length_eq_zero (by have := HL4.out; have := HSE.out; omega)
                    rw [hQ2, List.append_nil]; exact HS2.out
                obtain ⟨M2, HP2, HM2, HDC⟩ : ∃ M2 : List Nat, Hid (M2.Perm (P2 ++ Q2)) ∧ Hid (Srt S M2) ∧ Hid (Dat wB b (X ++ (M1 ++ (M2 ++ Z))) rest) := ⟨P2 ++ Q2, List.Perm.refl _, hm2', by unfold Hid; rw [List.append_assoc]; exact HDB.out⟩
                have HUC := HUB
                clear HDB HUB HHB hm2'
                go_wp2
                go_end0
                refine ⟨rfl, ⟨M1 ++ M2, ?_, srt_app HM1.out HM2.out HP1.out HP2.out HC.out, by rw [List.append_assoc]; exact HDC.out⟩, HUC.out⟩
                rw [← HPE.out, ← HQE.out]
                exact perm_four P1 P2 Q1 Q2 M1 M2 HP1.out HP2.out
            · have A1I : ¬ (a : Int) < (s : Int) := by omega
              by_cases A4 : e < b2
              · have A4I : (e : Int) < (b2 : Int) := by omega
                have HRO : Hid (Calls Try.prog 52 #[.slice (some ⟨b, 0, none⟩) n c, .int .i64 s, .int .i64 m, .int .i64 e, .func (.func 47) #[.pointer (some ⟨h, 0, none⟩)] #[]] wr fun e w' => e = .returned (.tuple #[]) ∧ Dat w' b (X ++ (P1 ++ (Q1 ++ (P2 ++ (Q2 ++ Z))))) rest ∧ Upd [b] wr w') := by
                  have h0 : Dat wr b ((X ++ P1) ++ (P2 ++ (Q1 ++ (Q2 ++ Z)))) rest := by rw [List.append_assoc]; exact HDr.out
                  have := c_rotate wr b n c (X ++ P1) P2 Q1 (Q2 ++ Z) rest h0 (by have := HL1.out; have := HL2.out; have := HL3.out; have := HL4.out; have := HLZ.out; have := HA.out; simp only [List.length_append]; omega) hsm (by have := HL2.out; omega) (by have := HL3.out; omega) s m e (by have := HL1.out; have := HA.out; rw [List.length_append]; omega) (by have := HL1.out; have := HL2.out; have := HA.out; rw [List.length_append]; omega) (by have := HL1.out; have := HL2.out; have := HL3.out; have := HA.out; rw [List.length_append]; omega) (.func (.func 47) #[.pointer (some ⟨h, 0, none⟩)] #[])
                  rw [List.append_assoc] at this
                  exact this
                go_wp2_with fail
                refine HRO.out.mono ?_
                rintro e' wA ⟨rfl, hda, hua⟩
                have HDA := Lib.hid hda
                have HUA := Lib.hid (HUr.out.trans hua)
                have HHA := Lib.hid (HHr.out.upd hua HDr.out.row)
                clear hda hua HRO HDr HUr HHr
                have hm1' : Srt S (P1 ++ Q1) := by
                  by_cases hz : s = a
                  · have hP1 : P1 = [] := List.eq_nil_of_length_eq_zero (by have := HL1.out; have := HSE.out; omega)
                    rw [hP1]; exact HS3.out
                  · have hQ1 : Q1 = [] := List.eq_nil_of_length_eq_zero (by have := HL3.out; have := HSE.out; omega)
                    rw [hQ1, List.append_nil]; exact HS1.out
                obtain ⟨M1, HP1, HM1, HDB⟩ : ∃ M1 : List Nat, Hid (M1.Perm (P1 ++ Q1)) ∧ Hid (Srt S M1) ∧ Hid (Dat wA b (X ++ (M1 ++ (P2 ++ (Q2 ++ Z)))) rest) := ⟨P1 ++ Q1, List.Perm.refl _, hm1', by unfold Hid; rw [List.append_assoc]; exact HDA.out⟩
                have HUB := HUA
                have HHB := HHA
                clear HDA HUA HHA hm1'
                have hml : X.length + M1.length = mid := by have h1 := HP1.out.length_eq; rw [List.length_append] at h1; have := HL1.out; have := HL3.out; have := HSE.out; have := HA.out; omega
                have HML := Lib.hid hml
                clear hml
                have HRC := Lib.hid (HIH.out wA (X ++ M1) P2 Q2 Z (by have := HL1.out; have := HL2.out; have := HL3.out; have := HL4.out; have := HMA.out; have := HMB.out; have := HSE.out; omega) (by have := HL2.out; omega) (by have := HL4.out; omega) HHB.out (by rw [List.append_assoc]; exact HDB.out) (by have := HML.out; have := HL2.out; have := HL3.out; have := HL4.out; have := HLZ.out; have := HSE.out; simp only [List.length_append]; omega) HN3.out HS2.out HS4.out mid e b2 (by rw [List.length_append]; exact HML.out.symm) (by rw [List.length_append]; have := HML.out; have := HL2.out; have := HSE.out; omega) (by rw [List.length_append]; have := HML.out; have := HL2.out; have := HL4.out; have := HSE.out; omega))
                go_wp2_with fail
                refine HRC.out.mono ?_
                rintro e' wC ⟨rfl, ⟨M2, hp2, hs2', hdc⟩, huc⟩
                have HP2 := Lib.hid hp2
                have HM2 := Lib.hid hs2'
                have HDC := Lib.hid (show Dat wC b (X ++ (M1 ++ (M2 ++ Z))) rest by rw [List.append_assoc] at hdc; exact hdc)
                have HUC := Lib.hid (HUB.out.trans huc)
                clear hp2 hs2' hdc huc HRC HDB HUB HHB
                go_wp2
                go_end0
                refine ⟨rfl, ⟨M1 ++ M2, ?_, srt_app HM1.out HM2.out HP1.out HP2.out HC.out, by rw [List.append_assoc]; exact HDC.out⟩, HUC.out⟩
                rw [← HPE.out, ← HQE.out]
                exact perm_four P1 P2 Q1 Q2 M1 M2 HP1.out HP2.out
              · have A4I : ¬ (e : Int) < (b2 : Int) := by omega
                have HRO : Hid (Calls Try.prog 52 #[.slice (some ⟨b, 0, none⟩) n c, .int .i64 s, .int .i64 m, .int .i64 e, .func (.func 47) #[.pointer (some ⟨h, 0, none⟩)] #[]] wr fun e w' => e = .returned (.tuple #[]) ∧ Dat w' b (X ++ (P1 ++ (Q1 ++ (P2 ++ (Q2 ++ Z))))) rest ∧ Upd [b] wr w') := by
                  have h0 : Dat wr b ((X ++ P1) ++ (P2 ++ (Q1 ++ (Q2 ++ Z)))) rest := by rw [List.append_assoc]; exact HDr.out
                  have := c_rotate wr b n c (X ++ P1) P2 Q1 (Q2 ++ Z) rest h0 (by have := HL1.out; have := HL2.out; have := HL3.out; have := HL4.out; have := HLZ.out; have := HA.out; simp only [List.length_append]; omega) hsm (by have := HL2.out; omega) (by have := HL3.out; omega) s m e (by have := HL1.out; have := HA.out; rw [List.length_append]; omega) (by have := HL1.out; have := HL2.out; have := HA.out; rw [List.length_append]; omega) (by have := HL1.out; have := HL2.out; have := HL3.out; have := HA.out; rw [List.length_append]; omega) (.func (.func 47) #[.pointer (some ⟨h, 0, none⟩)] #[])
                  rw [List.append_assoc] at this
                  exact this
                go_wp2_with fail
                refine HRO.out.mono ?_
                rintro e' wA ⟨rfl, hda, hua⟩
                have HDA := Lib.hid hda
                have HUA := Lib.hid (HUr.out.trans hua)
                have HHA := Lib.hid (HHr.out.upd hua HDr.out.row)
                clear hda hua HRO HDr HUr HHr
                have hm1' : Srt S (P1 ++ Q1) := by
                  by_cases hz : s = a
                  · have hP1 : P1 = [] := List.eq_nil_of_length_eq_zero (by have := HL1.out; have := HSE.out; omega)
                    rw [hP1]; exact HS3.out
                  · have hQ1 : Q1 = [] := List.eq_nil_of_length_eq_zero (by have := HL3.out; have := HSE.out; omega)
                    rw [hQ1, List.append_nil]; exact HS1.out
                obtain ⟨M1, HP1, HM1, HDB⟩ : ∃ M1 : List Nat, Hid (M1.Perm (P1 ++ Q1)) ∧ Hid (Srt S M1) ∧ Hid (Dat wA b (X ++ (M1 ++ (P2 ++ (Q2 ++ Z)))) rest) := ⟨P1 ++ Q1, List.Perm.refl _, hm1', by unfold Hid; rw [List.append_assoc]; exact HDA.out⟩
                have HUB := HUA
                have HHB := HHA
                clear HDA HUA HHA hm1'
                have hm2' : Srt S (P2 ++ Q2) := by
                  by_cases hz : s = m
                  · have hP2 : P2 = [] := List.eq_nil_of_length_eq_zero (by have := HL2.out; have := HSE.out; omega)
                    rw [hP2]; exact HS4.out
                  · have hQ2 : Q2 = [] := List.eq_nil_of_length_eq_zero (by have := HL4.out; have := HSE.out; omega)
                    rw [hQ2, List.append_nil]; exact HS2.out
                obtain ⟨M2, HP2, HM2, HDC⟩ : ∃ M2 : List Nat, Hid (M2.Perm (P2 ++ Q2)) ∧ Hid (Srt S M2) ∧ Hid (Dat wA b (X ++ (M1 ++ (M2 ++ Z))) rest) := ⟨P2 ++ Q2, List.Perm.refl _, hm2', by unfold Hid; rw [List.append_assoc]; exact HDB.out⟩
                have HUC := HUB
                clear HDB HUB HHB hm2'
                go_wp2
                go_end0
                refine ⟨rfl, ⟨M1 ++ M2, ?_, srt_app HM1.out HM2.out HP1.out HP2.out HC.out, by rw [List.append_assoc]; exact HDC.out⟩, HUC.out⟩
                rw [← HPE.out, ← HQE.out]
                exact perm_four P1 P2 Q1 Q2 M1 M2 HP1.out HP2.out
          · have A3I : ¬ (s : Int) < (mid : Int) := by omega
            have B3I : ¬ (m : Int) < (e : Int) := by have := HSE.out; omega
            have A4I : (e : Int) < (b2 : Int) := by have := HSE.out; omega
            by_cases A1 : a < s
            · have A1I : (a : Int) < (s : Int) := by omega
              have HDA : Hid (Dat wr b (X ++ (P1 ++ (Q1 ++ (P2 ++ (Q2 ++ Z))))) rest) := by
                unfold Hid
                have hQ1 : Q1 = [] := List.eq_nil_of_length_eq_zero (by have := HL3.out; have := HSE.out; omega)
                have := HDr.out
                rw [hQ1] at this ⊢
                exact this
              have HUA := HUr
              have HHA := HHr
              clear HDr HUr HHr
              have hm1' : Srt S (P1 ++ Q1) := by
                by_cases hz : s = a
                · have hP1 : P1 = [] := List.eq_nil_of_length_eq_zero (by have := HL1.out; have := HSE.out; omega)
                  rw [hP1]; exact HS3.out
                · have hQ1 : Q1 = [] := List.eq_nil_of_length_eq_zero (by have := HL3.out; have := HSE.out; omega)
                  rw [hQ1, List.append_nil]; exact HS1.out
              obtain ⟨M1, HP1, HM1, HDB⟩ : ∃ M1 : List Nat, Hid (M1.Perm (P1 ++ Q1)) ∧ Hid (Srt S M1) ∧ Hid (Dat wr b (X ++ (M1 ++ (P2 ++ (Q2 ++ Z)))) rest) := ⟨P1 ++ Q1, List.Perm.refl _, hm1', by unfold Hid; rw [List.append_assoc]; exact HDA.out⟩
              have HUB := HUA
              have HHB := HHA
              clear HDA HUA HHA hm1'
              have hml : X.length + M1.length = mid := by have h1 := HP1.out.length_eq; rw [List.length_append] at h1; have := HL1.out; have := HL3.out; have := HSE.out; have := HA.out; omega
              have HML := Lib.hid hml
              clear hml
              have HRC := Lib.hid (HIH.out wr (X ++ M1) P2 Q2 Z (by have := HL1.out; have := HL2.out; have := HL3.out; have := HL4.out; have := HMA.out; have := HMB.out; have := HSE.out; omega) (by have := HL2.out; omega) (by have := HL4.out; omega) HHB.out (by rw [List.append_assoc]; exact HDB.out) (by have := HML.out; have := HL2.out; have := HL3.out; have := HL4.out; have := HLZ.out; have := HSE.out; simp only [List.length_append]; omega) HN3.out HS2.out HS4.out mid e b2 (by rw [List.length_append]; exact HML.out.symm) (by rw [List.length_append]; have := HML.out; have := HL2.out; have := HSE.out; omega) (by rw [List.length_append]; have := HML.out; have := HL2.out; have := HL4.out; have := HSE.out; omega))
              go_wp2_with fail
              refine HRC.out.mono ?_
              rintro e' wC ⟨rfl, ⟨M2, hp2, hs2', hdc⟩, huc⟩
              have HP2 := Lib.hid hp2
              have HM2 := Lib.hid hs2'
              have HDC := Lib.hid (show Dat wC b (X ++ (M1 ++ (M2 ++ Z))) rest by rw [List.append_assoc] at hdc; exact hdc)
              have HUC := Lib.hid (HUB.out.trans huc)
              clear hp2 hs2' hdc huc HRC HDB HUB HHB
              go_wp2
              go_end0
              refine ⟨rfl, ⟨M1 ++ M2, ?_, srt_app HM1.out HM2.out HP1.out HP2.out HC.out, by rw [List.append_assoc]; exact HDC.out⟩, HUC.out⟩
              rw [← HPE.out, ← HQE.out]
              exact perm_four P1 P2 Q1 Q2 M1 M2 HP1.out HP2.out
            · have A1I : ¬ (a : Int) < (s : Int) := by omega
              have HDA : Hid (Dat wr b (X ++ (P1 ++ (Q1 ++ (P2 ++ (Q2 ++ Z))))) rest) := by
                unfold Hid
                have hQ1 : Q1 = [] := List.eq_nil_of_length_eq_zero (by have := HL3.out; have := HSE.out; omega)
                have := HDr.out
                rw [hQ1] at this ⊢
                exact this
              have HUA := HUr
              have HHA := HHr
              clear HDr HUr HHr
              have hm1' : Srt S (P1 ++ Q1) := by
                by_cases hz : s = a
                · have hP1 : P1 = [] := List.eq_nil_of_length_eq_zero (by have := HL1.out; have := HSE.out; omega)
                  rw [hP1]; exact HS3.out
                · have hQ1 : Q1 = [] := List.eq_nil_of_length_eq_zero (by have := HL3.out; have := HSE.out; omega)
                  rw [hQ1, List.append_nil]; exact HS1.out
              obtain ⟨M1, HP1, HM1, HDB⟩ : ∃ M1 : List Nat, Hid (M1.Perm (P1 ++ Q1)) ∧ Hid (Srt S M1) ∧ Hid (Dat wr b (X ++ (M1 ++ (P2 ++ (Q2 ++ Z)))) rest) := ⟨P1 ++ Q1, List.Perm.refl _, hm1', by unfold Hid; rw [List.append_assoc]; exact HDA.out⟩
              have HUB := HUA
              have HHB := HHA
              clear HDA HUA HHA hm1'
              have hml : X.length + M1.length = mid := by have h1 := HP1.out.length_eq; rw [List.length_append] at h1; have := HL1.out; have := HL3.out; have := HSE.out; have := HA.out; omega
              have HML := Lib.hid hml
              clear hml
              have HRC := Lib.hid (HIH.out wr (X ++ M1) P2 Q2 Z (by have := HL1.out; have := HL2.out; have := HL3.out; have := HL4.out; have := HMA.out; have := HMB.out; have := HSE.out; omega) (by have := HL2.out; omega) (by have := HL4.out; omega) HHB.out (by rw [List.append_assoc]; exact HDB.out) (by have := HML.out; have := HL2.out; have := HL3.out; have := HL4.out; have := HLZ.out; have := HSE.out; simp only [List.length_append]; omega) HN3.out HS2.out HS4.out mid e b2 (by rw [List.length_append]; exact HML.out.symm) (by rw [List.length_append]; have := HML.out; have := HL2.out; have := HSE.out; omega) (by rw [List.length_append]; have := HML.out; have := HL2.out; have := HL4.out; have := HSE.out; omega))
              go_wp2_with fail
              refine HRC.out.mono ?_
              rintro e' wC ⟨rfl, ⟨M2, hp2, hs2', hdc⟩, huc⟩
              have HP2 := Lib.hid hp2
              have HM2 := Lib.hid hs2'
              have HDC := Lib.hid (show Dat wC b (X ++ (M1 ++ (M2 ++ Z))) rest by rw [List.append_assoc] at hdc; exact hdc)
              have HUC := Lib.hid (HUB.out.trans huc)
              clear hp2 hs2' hdc huc HRC HDB HUB HHB
              go_wp2
              go_end0
              refine ⟨rfl, ⟨M1 ++ M2, ?_, srt_app HM1.out HM2.out HP1.out HP2.out HC.out, by rw [List.append_assoc]; exact HDC.out⟩, HUC.out⟩
              rw [← HPE.out, ← HQE.out]
              exact perm_four P1 P2 Q1 Q2 M1 M2 HP1.out HP2.out
        · have A2I : ¬ (s : Int) < (m : Int) := by omega
          have B2I : ¬ (mid : Int) < (e : Int) := by have := HSE.out; omega
          have A1I : (a : Int) < (s : Int) := by omega
          by_cases A3 : s < mid
          · have A3I : (s : Int) < (mid : Int) := by omega
            have HDA : Hid (Dat wr b (X ++ (P1 ++ (Q1 ++ (P2 ++ (Q2 ++ Z))))) rest) := by
              unfold Hid
              have hP2 : P2 = [] := List.eq_nil_of_length_eq_zero (by have := HL2.out; have := HSE.out; omega)
              have := HDr.out
              rw [hP2] at this ⊢
              exact this
            have HUA := HUr
            have HHA := HHr
            clear HDr HUr HHr
            have HLC := Lib.hid (HIH.out wr X P1 Q1 (P2 ++ (Q2 ++ Z)) (by have := HL1.out; have := HL2.out; have := HL3.out; have := HL4.out; have := HMA.out; have := HMB.out; have := HSE.out; omega) (by have := HL1.out; omega) (by have := HL3.out; have := HSE.out; omega) HHA.out HDA.out (by have := HL1.out; have := HL2.out; have := HL3.out; have := HL4.out; have := HLZ.out; have := HA.out; simp only [List.length_append]; omega) HN1.out HS1.out HS3.out a s mid HA.out (by have := HL1.out; have := HA.out; omega) (by have := HL1.out; have := HL3.out; have := HA.out; have := HSE.out; omega))
            go_wp2_with fail
            refine HLC.out.mono ?_
            rintro e' wB ⟨rfl, ⟨M1, hp1, hs1', hdb⟩, hub⟩
            have HP1 := Lib.hid hp1
            have HM1 := Lib.hid hs1'
            have HDB := Lib.hid (show Dat wB b (X ++ (M1 ++ (P2 ++ (Q2 ++ Z)))) rest from hdb)
            have HUB := Lib.hid (HUA.out.trans hub)
            have HHB := Lib.hid (HHA.out.upd hub HDA.out.row)
            clear hp1 hs1' hdb hub HLC HDA HUA HHA
            have hm2' : Srt S (P2 ++ Q2) := by
              by_cases hz : s = m
              · have hP2 : P2 = [] := List.eq_nil_of_length_eq_zero (by have := HL2.out; have := HSE.out; omega)
                rw [hP2]; exact HS4.out
              · have hQ2 : Q2 = [] := List.eq_nil_of_length_eq_zero (by have := HL4.out; have := HSE.out; omega)
                rw [hQ2, List.append_nil]; exact HS2.out
            obtain ⟨M2, HP2, HM2, HDC⟩ : ∃ M2 : List Nat, Hid (M2.Perm (P2 ++ Q2)) ∧ Hid (Srt S M2) ∧ Hid (Dat wB b (X ++ (M1 ++ (M2 ++ Z))) rest) := ⟨P2 ++ Q2, List.Perm.refl _, hm2', by unfold Hid; rw [List.append_assoc]; exact HDB.out⟩
            have HUC := HUB
            clear HDB HUB HHB hm2'
            go_wp2
            go_end0
            refine ⟨rfl, ⟨M1 ++ M2, ?_, srt_app HM1.out HM2.out HP1.out HP2.out HC.out, by rw [List.append_assoc]; exact HDC.out⟩, HUC.out⟩
            rw [← HPE.out, ← HQE.out]
            exact perm_four P1 P2 Q1 Q2 M1 M2 HP1.out HP2.out
          · have A3I : ¬ (s : Int) < (mid : Int) := by omega
            have HDA : Hid (Dat wr b (X ++ (P1 ++ (Q1 ++ (P2 ++ (Q2 ++ Z))))) rest) := by
              unfold Hid
              have hP2 : P2 = [] := List.eq_nil_of_length_eq_zero (by have := HL2.out; have := HSE.out; omega)
              have := HDr.out
              rw [hP2] at this ⊢
              exact this
            have HUA := HUr
            have HHA := HHr
            clear HDr HUr HHr
            have hm1' : Srt S (P1 ++ Q1) := by
              by_cases hz : s = a
              · have hP1 : P1 = [] := List.eq_nil_of_length_eq_zero (by have := HL1.out; have := HSE.out; omega)
                rw [hP1]; exact HS3.out
              · have hQ1 : Q1 = [] := List.eq_nil_of_length_eq_zero (by have := HL3.out; have := HSE.out; omega)
                rw [hQ1, List.append_nil]; exact HS1.out
            obtain ⟨M1, HP1, HM1, HDB⟩ : ∃ M1 : List Nat, Hid (M1.Perm (P1 ++ Q1)) ∧ Hid (Srt S M1) ∧ Hid (Dat wr b (X ++ (M1 ++ (P2 ++ (Q2 ++ Z)))) rest) := ⟨P1 ++ Q1, List.Perm.refl _, hm1', by unfold Hid; rw [List.append_assoc]; exact HDA.out⟩
            have HUB := HUA
            have HHB := HHA
            clear HDA HUA HHA hm1'
            have hm2' : Srt S (P2 ++ Q2) := by
              by_cases hz : s = m
              · have hP2 : P2 = [] := List.eq_nil_of_length_eq_zero (by have := HL2.out; have := HSE.out; omega)
                rw [hP2]; exact HS4.out
              · have hQ2 : Q2 = [] := List.eq_nil_of_length_eq_zero (by have := HL4.out; have := HSE.out; omega)
                rw [hQ2, List.append_nil]; exact HS2.out
            obtain ⟨M2, HP2, HM2, HDC⟩ : ∃ M2 : List Nat, Hid (M2.Perm (P2 ++ Q2)) ∧ Hid (Srt S M2) ∧ Hid (Dat wr b (X ++ (M1 ++ (M2 ++ Z))) rest) := ⟨P2 ++ Q2, List.Perm.refl _, hm2', by unfold Hid; rw [List.append_assoc]; exact HDB.out⟩
            have HUC := HUB
            clear HDB HUB HHB hm2'
            go_wp2
            go_end0
            refine ⟨rfl, ⟨M1 ++ M2, ?_, srt_app HM1.out HM2.out HP1.out HP2.out HC.out, by rw [List.append_assoc]; exact HDC.out⟩, HUC.out⟩
            rw [← HPE.out, ← HQE.out]
            exact perm_four P1 P2 Q1 Q2 M1 M2 HP1.out HP2.out

end Go.Proofs.Ytcecegcbkcdpjaa
