/-
  Sorting a row of numbers in memory: symMerge, one on the left.
-/
import Derived.Test.YtcecegcbkcdpjaaHeapSB
namespace Go.Proofs.Ytcecegcbkcdpjaa
open Go.RowKit
set_option linter.unusedVariables false
set_option maxHeartbeats 4000000
set_option maxRecDepth 100000

theorem HpAt.upd {w w' : World} {B h g b : Nat} {vb : Value} {S : HpS} (H : HpAt w B h g vb S) (u : Upd [b] w w') {ys : List Value} (hb : Row w b 3 ys) : HpAt w' B h g vb S :=
  ⟨H.head.keep u (by simp; exact typ_ne H.head hb (by decide)), H.data.keep u (by simp; exact typ_ne H.data hb (by decide)), u.owns H.own (fun k hk => by
    obtain ⟨_, zs, hz⟩ := owns_row H.own k hk
    simp
    exact typ_ne hz hb (by decide)), H.len, H.small, H.few, H.lo, H.word⟩

/-- Numbers of blocks. -/
def Nums (S : HpS) (L : List Nat) : Prop := ∀ k ∈ L, k < S.bl.length ∧ atOf S k ≤ 32768
def Srt (S : HpS) (L : List Nat) : Prop := L.Pairwise (fun x y => atOf S x ≤ atOf S y)
theorem Srt.at {S : HpS} {L : List Nat} (h : Srt S L) {i j : Nat} (hij : i ≤ j) (hj : j < L.length) : atOf S (L.getD i 0) ≤ atOf S (L.getD j 0) := by
  rcases Nat.lt_or_eq_of_le hij with hlt | rfl
  · have := List.pairwise_iff_getElem.1 h i j (by omega) hj hlt
    rw [List.getD_eq_getElem?_getD, List.getD_eq_getElem?_getD, List.getElem?_eq_getElem hj, List.getElem?_eq_getElem (show i < L.length by omega)]
    exact this
  · exact Nat.le_refl _
theorem mem_getD {L : List Nat} {i : Nat} (h : i < L.length) : L.getD i 0 ∈ L := by
  rw [List.getD_eq_getElem?_getD, List.getElem?_eq_getElem h]; exact List.getElem_mem h
theorem getD_in {X Y Z : List Nat} {i : Nat} (h : i < Y.length) : (X ++ (Y ++ Z)).getD (X.length + i) 0 = Y.getD i 0 := by
  rw [List.getD_eq_getElem?_getD, List.getElem?_append_right (by omega), show X.length + i - X.length = i by omega, List.getElem?_append_left h, List.getD_eq_getElem?_getD]

theorem chain_step (X Q R : List Nat) (p : Nat) {t : Nat} (ht : t < Q.length) : swp (X ++ (Q.take t ++ (p :: (Q.drop t ++ R)))) (X.length + t) (X.length + t + 1) = X ++ (Q.take (t + 1) ++ (p :: (Q.drop (t + 1) ++ R))) := by
  have e := swp_mid (X ++ Q.take t) [] (Q.drop (t + 1) ++ R) p Q[t]
  have e1 : (X ++ Q.take t).length = X.length + t := by simp; omega
  rw [e1, List.length_nil, Nat.add_zero] at e
  rw [List.drop_eq_getElem_cons ht, List.take_succ_eq_append_getElem ht]
  simp only [List.append_assoc, List.cons_append, List.nil_append] at e ⊢
  exact e

section
variable {w : World} {B h g : Nat} {vb : Value} {S : HpS}
theorem c_sym1 (H : HpAt w B h g vb S) (b n c : Nat) (X : List Nat) (p : Nat) (Q Z : List Nat) (rest : List Value) (hD : Dat w b (X ++ (p :: (Q ++ Z))) rest) (hn : n = (X ++ (p :: (Q ++ Z))).length) (hsm : n ≤ 1000000) (hN : Nums S (p :: Q)) (hQ : Srt S Q) (hQ0 : 0 < Q.length) (a m b2 : Nat) (ha : a = X.length) (hm : m = X.length + 1) (hb2 : b2 = X.length + 1 + Q.length) :
    Calls Try.prog 51 #[.slice (some ⟨b, 0, none⟩) n c, .int .i64 a, .int .i64 m, .int .i64 b2, .func (.func 47) #[.pointer (some ⟨h, 0, none⟩)] #[]] w fun e w' => e = .returned (.tuple #[]) ∧ (∃ Q1 Q2, Q = Q1 ++ Q2 ∧ (∀ q ∈ Q1, atOf S q ≤ atOf S p) ∧ (∀ q ∈ Q2, atOf S p ≤ atOf S q) ∧ Dat w' b (X ++ (Q1 ++ (p :: (Q2 ++ Z)))) rest) ∧ Upd [b] w w' := by
  have HH := Lib.hid H
  have HD := Lib.hid hD
  have HN := Lib.hid hN
  have HQ := Lib.hid hQ
  have HLN := Lib.hid hn
  have hn2 : X.length + 1 + Q.length + Z.length = n := by rw [hn]; simp only [List.length_append, List.length_cons]; omega
  have HA := Lib.hid ha
  have HN2 := Lib.hid hn2
  have HMA := Lib.hid (show m = a + 1 by omega)
  have HB3 := Lib.hid (show b2 = a + 1 + Q.length by omega)
  have hbn : b2 ≤ n := by omega
  have hmI : (m : Int) - (a : Int) = 1 := by omega
  obtain ⟨hpl, hps⟩ := hN p (by simp)
  clear H hD hN hQ hn hn2 ha hm hb2
  go_enter Try.func51, Try.ntmps51
  go_wp2
  go_loopw [10, 11, 12] (fun iv jv x wr => ∃ i j s r : Nat, i ≤ j ∧ j ≤ b2 ∧ iv = .int .i64 (i : Int) ∧ jv = .int .i64 (j : Int) ∧ Hid (i = a + 1 + s) ∧ Hid (j = a + 1 + r) ∧ Hid (∀ t, t < s → atOf S (Q.getD t 0) ≤ atOf S p) ∧ Hid (∀ t, r ≤ t → t < Q.length → atOf S p ≤ atOf S (Q.getD t 0)) ∧ Hid (Below w.heap.size w wr)) (fun i j _ _ => (intOf j).toNat - (intOf i).toNat)
  case atStart => exact ⟨m, b2, 0, Q.length, by have := HMA.out; have := HB3.out; omega, Nat.le_refl _, rfl, rfl, HMA.out, HB3.out, fun t ht => by omega, fun t h1 h2 => by omega, Below.refl _ _⟩
  case round =>
    obtain ⟨i, j, s, r, hij, hjb, rfl, rfl, HI, HJ, H1, H2, HB⟩ := hrel
    by_cases hlt : i < j
    · have hltI : (i : Int) < (j : Int) := by omega
      obtain ⟨D, hD⟩ : ∃ D, D = (i + j) / 2 := ⟨_, rfl⟩
      have hD1 : i ≤ D ∧ D < j := by omega
      obtain ⟨d, hd⟩ : ∃ d, D = a + 1 + d := ⟨D - (a + 1), by have := HI.out; omega⟩
      go_wp2_with fail
      rw [show ((i : Int) + (j : Int)) / 2 = (D : Int) by omega]
      clear hD
      have HDR := HD.out.keep HB.out
      have hdq : d < Q.length := by have := HB3.out; omega
      have ky := HDR.cell (i := a + 1 + d) (by rw [← HLN.out]; omega)
      have kp := HDR.cell (i := a) (by rw [← HLN.out]; omega)
      have ey : (X ++ p :: (Q ++ Z)).getD (a + 1 + d) 0 = Q.getD d 0 := by
        have := getD_in (X := X ++ [p]) (Y := Q) (Z := Z) hdq
        rw [List.length_append, List.append_assoc] at this
        rw [HA.out]; exact this
      have ep : (X ++ p :: (Q ++ Z)).getD a 0 = p := by rw [HA.out, List.getD_eq_getElem?_getD]; simp
      rw [ey, ← hd] at ky
      rw [ep] at kp
      have hmem := HN.out (Q.getD d 0) (List.mem_cons_of_mem _ (mem_getD hdq))
      have HDD := Lib.hid hd
      have HDQ := Lib.hid hdq
      clear hd hdq
      have HSR := Lib.hid (fun t ht => HQ.out.at (i := t) (j := d) ht HDQ.out)
      have HSR2 := Lib.hid (fun t ht ht2 => HQ.out.at (i := d) (j := t) ht ht2)
      generalize Q.getD d 0 = y at *
      have HM := Lib.hid (c_cmp (HH.out.below HB.out.drew) y p hmem.1 hpl hmem.2 hps)
      have HBD := Lib.hid (show Below w.heap.size w wr.drew from HB.out.drew)
      have hIb : D < n := by omega
      have hIa : a < n := by have := HMA.out; have := HB3.out; omega
      clear ey ep HDR hmem
      refine wp_region_planH (fun z => z.cell? ⟨b, D, none⟩ = some (.int .i64 (y : Int)) ∧ z.cell? ⟨b, a, none⟩ = some (.int .i64 (p : Int))) [(0, true), (1, true), (2, true), (3, true), (4, true), (5, true), (6, true), (7, true), (8, true), (9, false), (10, true)] (by kernel_rfl) (by kernel_rfl) (fun _ _ _ _ _ h => h) ⟨ky, kp⟩ ?_
      have HS : Hid (wr.drew.cell? ⟨b, D, none⟩ = some (.int .i64 (y : Int)) ∧ wr.drew.cell? ⟨b, a, none⟩ = some (.int .i64 (p : Int))) := ⟨ky, kp⟩
      clear ky kp
      generalize wr.drew = wd at *
      (repeat (refine wpPlanH_free rfl (fun K hK => ?_); go_simp; (try go_bits); refine hK _ ?_; clear hK K))
      refine wpPlanH_load (.int .i64 (y : Int)) rfl rfl (fun x hS => by obtain ⟨s0, s1⟩ := hS; go_simp) (fun K hK => ?_)
      refine hK _ ?_
      clear hK K
      (repeat (refine wpPlanH_free rfl (fun K hK => ?_); go_simp; (try go_bits); refine hK _ ?_; clear hK K))
      refine wpPlanH_load (.int .i64 (p : Int)) rfl rfl (fun x hS => by obtain ⟨s0, s1⟩ := hS; go_simp) (fun K hK => ?_)
      refine hK _ ?_
      clear hK K
      refine wpPlanH_sole rfl ?_
      go_wp2_with fail
      refine HM.out.mono ?_
      rintro e w' ⟨rfl, hb2⟩
      have HB2 := Lib.hid (HBD.out.trans (hb2.mono HBD.out.size))
      have HS2 := Lib.hid (And.intro (cellKeep hb2 HS.out.1) (cellKeep hb2 HS.out.2))
      clear hb2 HM HS
      by_cases hyp : atOf S y < atOf S p
      · have e2 : decide ((atOf S y : Int) - (atOf S p : Int) < 0) = true := decide_eq_true (by omega)
        have HYP := Lib.hid hyp
        clear hyp
        generalize (atOf S y : Int) - (atOf S p : Int) = z at *
        go_wp2
        refine ⟨HS2.out, ?_⟩
        (repeat (refine wpPlanH_free rfl (fun K hK => ?_); go_simp; (try go_bits); refine hK _ ?_; clear hK K))
        refine wpPlanH_nil ?_
        go_wp2
        go_roundw
        case rel => exact ⟨D + 1, j, d + 1, r, by omega, hjb, by go_num, rfl, by unfold Hid; have := HDD.out; omega, HJ.out, fun t ht => Nat.le_trans (HSR.out t (by omega)) (Nat.le_of_lt HYP.out), H2.out, HB2.out⟩
        case measure => simp [intOf]; omega
      · have e2 : decide ((atOf S y : Int) - (atOf S p : Int) < 0) = false := decide_eq_false (by omega)
        have HYP := Lib.hid hyp
        clear hyp
        generalize (atOf S y : Int) - (atOf S p : Int) = z at *
        go_wp2
        refine ⟨HS2.out, ?_⟩
        (repeat (refine wpPlanH_free rfl (fun K hK => ?_); go_simp; (try go_bits); refine hK _ ?_; clear hK K))
        refine wpPlanH_nil ?_
        go_wp2
        go_roundw
        case rel => exact ⟨i, D, s, d, by omega, by omega, rfl, rfl, HI.out, HDD.out, H1.out, fun t h1 h2 => Nat.le_trans (by have := HYP.out; omega) (HSR2.out t h1 h2), HB2.out⟩
        case measure => simp [intOf]; omega
    · obtain rfl : i = j := by omega
      obtain rfl : s = r := by have := HI.out; have := HJ.out; omega
      have hs : s ≤ Q.length := by have := HI.out; have := HB3.out; omega
      have hq1 : (Q.take s).length = s := by rw [List.length_take]; omega
      have HR1 := Lib.hid (show ∀ q ∈ Q.take s, atOf S q ≤ atOf S p from fun q hq => by
        obtain ⟨t, ht, rfl⟩ := List.getElem_of_mem hq
        rw [hq1] at ht
        have := H1.out t ht
        rw [List.getD_eq_getElem?_getD, List.getElem?_eq_getElem (show t < Q.length by omega)] at this
        simpa using this)
      have HR2 := Lib.hid (show ∀ q ∈ Q.drop s, atOf S p ≤ atOf S q from fun q hq => by
        obtain ⟨t, ht, rfl⟩ := List.getElem_of_mem hq
        rw [List.length_drop] at ht
        have := H2.out (s + t) (by omega) (by omega)
        rw [List.getD_eq_getElem?_getD, List.getElem?_eq_getElem (show s + t < Q.length by omega)] at this
        simpa using this)
      have HQ1 := Lib.hid (List.take_append_drop s Q)
      have HD1 := Lib.hid (show Dat wr b (X ++ (p :: (Q.take s ++ (Q.drop s ++ Z)))) rest by rw [← List.append_assoc (Q.take s), List.take_append_drop]; exact HD.out.keep HB.out)
      have hsn : s + (Q.drop s ++ Z).length + 1 + a = n := by have := HN2.out; have := HA.out; simp; omega
      have HLQ := Lib.hid hq1
      generalize Q.take s = Q1 at *
      generalize Q.drop s = Q2 at *
      have HSN := Lib.hid hsn
      clear H1 H2 hlt hs hij hq1 HD hsn
      go_wp2
      go_loopw [13] (fun kv w2 => ∃ k t : Nat, k < i ∧ kv = .int .i64 (k : Int) ∧ Hid (k = a + t) ∧ Hid (Dat w2 b (X ++ (Q1.take t ++ (p :: (Q1.drop t ++ (Q2 ++ Z))))) rest) ∧ Hid (Upd [b] wr w2)) (fun kv _ => i - (intOf kv).toNat)
      case atStart => exact ⟨a, 0, by have := HI.out; omega, rfl, rfl, HD1.out, Upd.refl _ _⟩
      case round =>
        clear HD1
        obtain ⟨k, t, hki, rfl, HK, HD, HU⟩ := hrel
        by_cases hlt : k + 1 < i
        · have hkI : ((k : Nat) : Int) < (i : Int) - 1 := by omega
          have hi1 : (1 : Int) ≤ (i : Int) := by omega
          have hin : i ≤ n := by omega
          have hL : Hid ((X ++ (Q1.take t ++ (p :: (Q1.drop t ++ (Q2 ++ Z))))).length = n) := by
            unfold Hid
            have := HSN.out; have := HA.out; have := HLQ.out
            simp only [List.length_append, List.length_take, List.length_drop, List.length_cons] at *
            omega
          have hts : t < Q1.length := by have := HI.out; have := HK.out; have := HLQ.out; omega
          have HST := Lib.hid (show swp (X ++ (Q1.take t ++ (p :: (Q1.drop t ++ (Q2 ++ Z))))) k (k + 1) = X ++ (Q1.take (t + 1) ++ (p :: (Q1.drop (t + 1) ++ (Q2 ++ Z)))) by rw [HK.out, HA.out]; exact chain_step X Q1 (Q2 ++ Z) p hts)
          have k1 := HD.out.cell (i := k) (by rw [hL.out]; omega)
          have k2 := HD.out.cell (i := k + 1) (by rw [hL.out]; omega)
          have f1 := HD.out.free k
          have f2 := HD.out.free (k + 1)
          have HSW := Lib.hid (fun x y hx hy => HD.out.drew.swap (i := k) (j := k + 1) (by rw [hL.out]; omega) (by rw [hL.out]; omega) (x := x) (y := y) hx hy)
          generalize hx : (X ++ (Q1.take t ++ (p :: (Q1.drop t ++ (Q2 ++ Z))))).getD k 0 = x at *
          generalize hy : (X ++ (Q1.take t ++ (p :: (Q1.drop t ++ (Q2 ++ Z))))).getD (k + 1) 0 = y at *
          have HSW2 := Lib.hid (HSW.out x y (by first | exact hx | rfl) (by first | exact hy | rfl))
          clear hx hy HSW hts
          go_wp2_with fail
          go_region
          go_wp2
          refine ⟨⟨k + 1, t + 1, by omega, by go_num, by unfold Hid; have := HK.out; omega, ?_, ((HU.out.setCell (by simp) _).setCell (by simp) _).drew⟩, by simp [intOf]; omega⟩
          show Dat _ _ _ _
          rw [← HST.out]
          exact HSW2.out
        · have hkI : ¬ ((k : Nat) : Int) < (i : Int) - 1 := by omega
          have hi1 : (1 : Int) ≤ (i : Int) := by omega
          have hts : t = Q1.length := by have := HI.out; have := HK.out; have := HLQ.out; omega
          have HTS := Lib.hid hts
          clear hts
          go_wp2
          refine bodyPost_ret (results_none rfl _ _ _) rfl ?_
          refine ⟨rfl, ⟨Q1, Q2, HQ1.out.symm, HR1.out, HR2.out, ?_⟩, (Upd.of_below HB.out).trans HU.out⟩
          have := HD.out
          rw [HTS.out, List.take_length, List.drop_length] at this
          exact this
end

end Go.Proofs.Ytcecegcbkcdpjaa
