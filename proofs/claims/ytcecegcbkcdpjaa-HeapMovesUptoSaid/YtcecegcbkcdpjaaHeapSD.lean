/-
  Sorting a row of numbers in memory: symMerge, one on the right.
-/
import Derived.Test.YtcecegcbkcdpjaaHeapSC
namespace Go.Proofs.Ytcecegcbkcdpjaa
open Go.RowKit
set_option linter.unusedVariables false
set_option maxHeartbeats 4000000
set_option maxRecDepth 100000

theorem swp_comm (L : List Nat) {i j : Nat} (hi : i < L.length) (hj : j < L.length) : swp L i j = swp L j i := by
  apply List.ext_getElem?
  intro t
  rw [swp_get L hi hj, swp_get L hj hi]
  by_cases h1 : t = j
  · subst h1
    rw [if_pos rfl]
    by_cases h2 : t = i
    · subst h2; rw [if_pos rfl]
    · rw [if_neg h2, if_pos rfl]
  · rw [if_neg h1]
    by_cases h2 : t = i
    · subst h2; rw [if_pos rfl, if_pos rfl]
    · rw [if_neg h2, if_neg h2, if_neg h1]
theorem chain_back (X Q R : List Nat) (p : Nat) {u : Nat} (hu : u < Q.length) : swp (X ++ (Q.take (u + 1) ++ (p :: (Q.drop (u + 1) ++ R)))) (X.length + u + 1) (X.length + u) = X ++ (Q.take u ++ (p :: (Q.drop u ++ R))) := by
  have e := swp_mid (X ++ Q.take u) [] (Q.drop (u + 1) ++ R) Q[u] p
  have e1 : (X ++ Q.take u).length = X.length + u := by simp; omega
  rw [e1, List.length_nil, Nat.add_zero] at e
  rw [swp_comm _ (by simp; omega) (by simp; omega)]
  rw [List.drop_eq_getElem_cons hu, List.take_succ_eq_append_getElem hu]
  simp only [List.append_assoc, List.cons_append, List.nil_append] at e ⊢
  exact e

section
variable {w : World} {B h g : Nat} {vb : Value} {S : HpS}
theorem c_sym2 (H : HpAt w B h g vb S) (b n c : Nat) (X P : List Nat) (q : Nat) (Z : List Nat) (rest : List Value) (hD : Dat w b (X ++ (P ++ (q :: Z))) rest) (hn : n = (X ++ (P ++ (q :: Z))).length) (hsm : n ≤ 1000000) (hN : Nums S (q :: P)) (hP : Srt S P) (hP0 : 1 < P.length) (a m b2 : Nat) (ha : a = X.length) (hm : m = X.length + P.length) (hb2 : b2 = X.length + P.length + 1) :
    Calls Try.prog 51 #[.slice (some ⟨b, 0, none⟩) n c, .int .i64 a, .int .i64 m, .int .i64 b2, .func (.func 47) #[.pointer (some ⟨h, 0, none⟩)] #[]] w fun e w' => e = .returned (.tuple #[]) ∧ (∃ P1 P2, P = P1 ++ P2 ∧ (∀ y ∈ P1, atOf S y ≤ atOf S q) ∧ (∀ y ∈ P2, atOf S q ≤ atOf S y) ∧ Dat w' b (X ++ (P1 ++ (q :: (P2 ++ Z)))) rest) ∧ Upd [b] w w' := by
  have HH := Lib.hid H
  have HD := Lib.hid hD
  have HN := Lib.hid hN
  have HP := Lib.hid hP
  have HLN := Lib.hid hn
  have hn2 : X.length + P.length + 1 + Z.length = n := by rw [hn]; simp only [List.length_append, List.length_cons]; omega
  have HA := Lib.hid ha
  have HN2 := Lib.hid hn2
  have HMA := Lib.hid (show m = a + P.length by omega)
  have hbn : b2 ≤ n := by omega
  have hmI : ¬ ((m : Int) - (a : Int) = 1) := by omega
  have hmB : ((m : Int) - (a : Int) == 1) = false := beq_false_of_ne hmI
  have hbI : (b2 : Int) - (m : Int) = 1 := by omega
  have ham : a ≤ m := by omega
  have hmn : m < n := by omega
  obtain ⟨hpl, hps⟩ := hN q (by simp)
  clear H hD hN hP hn hn2 ha hm hb2
  go_enter Try.func51, Try.ntmps51
  go_wp2
  go_loopw [14, 15, 16] (fun iv jv x wr => ∃ i j s r : Nat, i ≤ j ∧ j ≤ m ∧ iv = .int .i64 (i : Int) ∧ jv = .int .i64 (j : Int) ∧ Hid (i = a + s) ∧ Hid (j = a + r) ∧ Hid (∀ t, t < s → atOf S (P.getD t 0) ≤ atOf S q) ∧ Hid (∀ t, r ≤ t → t < P.length → atOf S q ≤ atOf S (P.getD t 0)) ∧ Hid (Below w.heap.size w wr)) (fun i j _ _ => (intOf j).toNat - (intOf i).toNat)
  case atStart => exact ⟨a, m, 0, P.length, ham, Nat.le_refl _, rfl, rfl, rfl, HMA.out, fun t ht => by omega, fun t h1 h2 => by omega, Below.refl _ _⟩
  case round =>
    obtain ⟨i, j, s, r, hij, hjb, rfl, rfl, HI, HJ, H1, H2, HB⟩ := hrel
    by_cases hlt : i < j
    · have hltI : (i : Int) < (j : Int) := by omega
      obtain ⟨D, hD⟩ : ∃ D, D = (i + j) / 2 := ⟨_, rfl⟩
      have hD1 : i ≤ D ∧ D < j := by omega
      obtain ⟨d, hd⟩ : ∃ d, D = a + d := ⟨D - a, by have := HI.out; omega⟩
      go_wp2_with fail
      rw [show ((i : Int) + (j : Int)) / 2 = (D : Int) by omega]
      clear hD
      have HDR := HD.out.keep HB.out
      have hdq : d < P.length := by have := HMA.out; omega
      have ky := HDR.cell (i := a + d) (by rw [← HLN.out]; omega)
      have kp := HDR.cell (i := m) (by rw [← HLN.out]; omega)
      have ey : (X ++ (P ++ (q :: Z))).getD (a + d) 0 = P.getD d 0 := by
        have := getD_in (X := X) (Y := P) (Z := q :: Z) hdq
        rw [HA.out]; exact this
      have ep : (X ++ (P ++ (q :: Z))).getD m 0 = q := by
        rw [HMA.out, HA.out, ← List.append_assoc, ← List.length_append, List.getD_eq_getElem?_getD, List.getElem?_append_right (Nat.le_refl _), Nat.sub_self]
        rfl
      rw [ey, ← hd] at ky
      rw [ep] at kp
      have hmem := HN.out (P.getD d 0) (List.mem_cons_of_mem _ (mem_getD hdq))
      have HDD := Lib.hid hd
      have HDQ := Lib.hid hdq
      clear hd hdq
      have HSR := Lib.hid (fun t ht => HP.out.at (i := t) (j := d) ht HDQ.out)
      have HSR2 := Lib.hid (fun t ht ht2 => HP.out.at (i := d) (j := t) ht ht2)
      generalize P.getD d 0 = y at *
      have HM := Lib.hid (c_cmp (HH.out.below HB.out.drew) q y hpl hmem.1 hps hmem.2)
      have HBD := Lib.hid (show Below w.heap.size w wr.drew from HB.out.drew)
      have hIb : D < n := by omega
      clear ey ep HDR hmem
      refine wp_region_planH (fun z => z.cell? ⟨b, m, none⟩ = some (.int .i64 (q : Int)) ∧ z.cell? ⟨b, D, none⟩ = some (.int .i64 (y : Int))) [(0, true), (1, true), (2, true), (3, true), (4, true), (5, true), (6, true), (7, true), (8, true), (9, false), (10, true), (11, true)] (by kernel_rfl) (by kernel_rfl) (fun _ _ _ _ _ h => h) ⟨kp, ky⟩ ?_
      have HS : Hid (wr.drew.cell? ⟨b, m, none⟩ = some (.int .i64 (q : Int)) ∧ wr.drew.cell? ⟨b, D, none⟩ = some (.int .i64 (y : Int))) := ⟨kp, ky⟩
      clear ky kp
      generalize wr.drew = wd at *
      (repeat (refine wpPlanH_free rfl (fun K hK => ?_); go_simp; (try go_bits); refine hK _ ?_; clear hK K))
      refine wpPlanH_load (.int .i64 (q : Int)) rfl rfl (fun x hS => by obtain ⟨s0, s1⟩ := hS; go_simp) (fun K hK => ?_)
      refine hK _ ?_
      clear hK K
      (repeat (refine wpPlanH_free rfl (fun K hK => ?_); go_simp; (try go_bits); refine hK _ ?_; clear hK K))
      refine wpPlanH_load (.int .i64 (y : Int)) rfl rfl (fun x hS => by obtain ⟨s0, s1⟩ := hS; go_simp) (fun K hK => ?_)
      refine hK _ ?_
      clear hK K
      refine wpPlanH_sole rfl ?_
      go_wp2_with fail
      refine HM.out.mono ?_
      rintro e w' ⟨rfl, hb2⟩
      have HB2 := Lib.hid (HBD.out.trans (hb2.mono HBD.out.size))
      have HS2 := Lib.hid (And.intro (cellKeep hb2 HS.out.1) (cellKeep hb2 HS.out.2))
      clear hb2 HM HS
      by_cases hyp : atOf S q < atOf S y
      · have e2 : ((atOf S q : Int) - (atOf S y : Int) < 0) = True := eq_true (by omega)
        have HYP := Lib.hid hyp
        clear hyp
        generalize (atOf S q : Int) - (atOf S y : Int) = z at *
        go_wp2
        refine ⟨HS2.out, ?_⟩
        (repeat (refine wpPlanH_free rfl (fun K hK => ?_); go_simp; (try go_bits); refine hK _ ?_; clear hK K))
        refine wpPlanH_nil ?_
        go_wp2
        go_roundw
        case rel => exact ⟨i, D, s, d, by omega, by omega, rfl, rfl, HI.out, HDD.out, H1.out, fun t h1 h2 => Nat.le_trans (by have := HYP.out; omega) (HSR2.out t h1 h2), HB2.out⟩
        case measure => simp [intOf]; omega
      · have e2 : ((atOf S q : Int) - (atOf S y : Int) < 0) = False := eq_false (by omega)
        have HYP := Lib.hid hyp
        clear hyp
        generalize (atOf S q : Int) - (atOf S y : Int) = z at *
        go_wp2
        refine ⟨HS2.out, ?_⟩
        (repeat (refine wpPlanH_free rfl (fun K hK => ?_); go_simp; (try go_bits); refine hK _ ?_; clear hK K))
        refine wpPlanH_nil ?_
        go_wp2
        go_roundw
        case rel => exact ⟨D + 1, j, d + 1, r, by omega, hjb, by go_num, rfl, by unfold Hid; have := HDD.out; omega, HJ.out, fun t ht => Nat.le_trans (HSR.out t (by omega)) (by have := HYP.out; omega), H2.out, HB2.out⟩
        case measure => simp [intOf]; omega
    · obtain rfl : i = j := by omega
      obtain rfl : s = r := by have := HI.out; have := HJ.out; omega
      have hs : s ≤ P.length := by have := HI.out; have := HMA.out; omega
      have hq1 : (P.take s).length = s := by rw [List.length_take]; omega
      have hq2 : (P.drop s).length + s = P.length := by rw [List.length_drop]; omega
      have HR1 := Lib.hid (show ∀ y ∈ P.take s, atOf S y ≤ atOf S q from fun y hy => by
        obtain ⟨t, ht, rfl⟩ := List.getElem_of_mem hy
        rw [hq1] at ht
        have := H1.out t ht
        rw [List.getD_eq_getElem?_getD, List.getElem?_eq_getElem (show t < P.length by omega)] at this
        simpa using this)
      have HR2 := Lib.hid (show ∀ y ∈ P.drop s, atOf S q ≤ atOf S y from fun y hy => by
        obtain ⟨t, ht, rfl⟩ := List.getElem_of_mem hy
        rw [List.length_drop] at ht
        have := H2.out (s + t) (by omega) (by omega)
        rw [List.getD_eq_getElem?_getD, List.getElem?_eq_getElem (show s + t < P.length by omega)] at this
        simpa using this)
      have HQ1 := Lib.hid (List.take_append_drop s P)
      have HD1 := Lib.hid (show Dat wr b ((X ++ P.take s) ++ (P.drop s ++ (q :: Z))) rest by rw [List.append_assoc X, ← List.append_assoc (P.take s), List.take_append_drop]; exact HD.out.keep HB.out)
      have hsn : i + (P.drop s).length = m := by have := HI.out; have := HMA.out; omega
      have hxn : (X ++ P.take s).length = i := by have := HI.out; have := HA.out; rw [List.length_append, hq1]; omega
      generalize P.take s = P1 at *
      generalize P.drop s = P2 at *
      have HSN := Lib.hid hsn
      have HXN := Lib.hid hxn
      have HZN := Lib.hid (show m + 1 + Z.length = n by have := HN2.out; have := HA.out; have := HMA.out; omega)
      clear H1 H2 hlt hs hij hq1 hq2 HD hsn hxn
      go_wp2
      go_loopw [17] (fun kv w2 => ∃ k u : Nat, i ≤ k ∧ k ≤ m ∧ kv = .int .i64 (k : Int) ∧ Hid (k = i + u) ∧ Hid (Dat w2 b ((X ++ P1) ++ (P2.take u ++ (q :: (P2.drop u ++ Z)))) rest) ∧ Hid (Upd [b] wr w2)) (fun kv _ => (intOf kv).toNat)
      case atStart => exact ⟨m, P2.length, hjb, Nat.le_refl _, rfl, HSN.out.symm, by unfold Hid; rw [List.take_length, List.drop_length]; exact HD1.out, Upd.refl _ _⟩
      case round =>
        clear HD1
        obtain ⟨k, u, hik, hkm, rfl, HK, HD, HU⟩ := hrel
        by_cases hlt : i < k
        · obtain ⟨k', rfl⟩ : ∃ k', k = k' + 1 := ⟨k - 1, by omega⟩
          obtain ⟨u', rfl⟩ : ∃ u', u = u' + 1 := ⟨u - 1, by have := HK.out; omega⟩
          have hkI : (i : Int) < ((k' : Nat) : Int) + 1 := by omega
          have hkn : k' + 1 < n := by omega
          have hus : u' < P2.length := by have := HSN.out; have := HK.out; omega
          have hL : Hid (((X ++ P1) ++ (P2.take (u' + 1) ++ (q :: (P2.drop (u' + 1) ++ Z)))).length = n) := by
            unfold Hid
            have := HXN.out; have := HZN.out; have := HSN.out
            rw [List.length_append, HXN.out]
            simp only [List.length_append, List.length_take, List.length_drop, List.length_cons]
            omega
          have HST := Lib.hid (show swp ((X ++ P1) ++ (P2.take (u' + 1) ++ (q :: (P2.drop (u' + 1) ++ Z)))) (k' + 1) k' = (X ++ P1) ++ (P2.take u' ++ (q :: (P2.drop u' ++ Z))) by
            have := chain_back (X ++ P1) P2 Z q hus
            rw [HXN.out] at this
            rw [show k' = i + u' by have := HK.out; omega]
            exact this)
          have k1 := HD.out.cell (i := k') (by rw [hL.out]; omega)
          have k2 := HD.out.cell (i := k' + 1) (by rw [hL.out]; omega)
          have f1 := HD.out.free k'
          have f2 := HD.out.free (k' + 1)
          have HSW := Lib.hid (fun x y hx hy => HD.out.drew.swap (i := k' + 1) (j := k') (by rw [hL.out]; omega) (by rw [hL.out]; omega) (x := x) (y := y) hx hy)
          generalize hy : ((X ++ P1) ++ (P2.take (u' + 1) ++ (q :: (P2.drop (u' + 1) ++ Z)))).getD k' 0 = y at *
          generalize hx : ((X ++ P1) ++ (P2.take (u' + 1) ++ (q :: (P2.drop (u' + 1) ++ Z)))).getD (k' + 1) 0 = x at *
          have HSW2 := Lib.hid (HSW.out x y (by first | exact hx | rfl) (by first | exact hy | rfl))
          clear hx hy HSW hus
          go_wp2_with fail
          go_region
          go_wp2
          refine ⟨⟨k', u', by omega, by omega, rfl, by unfold Hid; have := HK.out; omega, ?_, ((HU.out.setCell (by simp) _).setCell (by simp) _).drew⟩, by simp [intOf]⟩
          show Dat _ _ _ _
          rw [← HST.out]
          exact HSW2.out
        · have hkI : ¬ (i : Int) < (k : Int) := by omega
          have hts : u = 0 := by have := HK.out; omega
          subst hts
          go_wp2
          refine bodyPost_ret (results_none rfl _ _ _) rfl ?_
          refine ⟨rfl, ⟨P1, P2, HQ1.out.symm, HR1.out, HR2.out, ?_⟩, (Upd.of_below HB.out).trans HU.out⟩
          have := HD.out
          rw [List.take_zero, List.drop_zero, List.nil_append, List.append_assoc] at this
          exact this
end

end Go.Proofs.Ytcecegcbkcdpjaa
