/-
  Sorting a row of numbers in memory: symMerge whole; insertion sort.
-/
import Derived.Test.YtcecegcbkcdpjaaHeapSE
namespace Go.Proofs.Ytcecegcbkcdpjaa
open Go.RowKit
set_option linter.unusedVariables false
set_option maxHeartbeats 4000000
set_option maxRecDepth 100000

theorem sym_ok {B h g : Nat} {vb : Value} {S : HpS} (b n c : Nat) (rest : List Value) (hsm : n ≤ 1000000) : ∀ k, SymOk B h g vb S b n c rest k
  | 0 => fun w X P Q Z hk hP hQ => by omega
  | k + 1 => fun w X P Q Z hk hP0 hQ0 H hD hn hN hP hQ a m b2 ha hm hb2 => by
    by_cases h1 : P.length = 1
    · obtain ⟨p, rfl⟩ := List.length_eq_one_iff.1 h1
      refine (c_sym1 H b n c X p Q Z rest hD hn hsm hN hQ hQ0 a m b2 ha hm hb2).mono ?_
      rintro e w' ⟨rfl, ⟨Q1, Q2, rfl, h2, h3, hd⟩, hu⟩
      refine ⟨rfl, ⟨Q1 ++ p :: Q2, ?_, ?_, by rw [List.append_assoc]; exact hd⟩, hu⟩
      · exact List.perm_middle
      · obtain ⟨s1, s2, s3⟩ := List.pairwise_append.1 hQ
        refine List.pairwise_append.2 ⟨s1, List.pairwise_cons.2 ⟨h3, s2⟩, fun x hx y hy => ?_⟩
        rcases List.mem_cons.1 hy with rfl | hy
        · exact h2 x hx
        · exact s3 x hx y hy
    · by_cases h2 : Q.length = 1
      · obtain ⟨q, rfl⟩ := List.length_eq_one_iff.1 h2
        refine (c_sym2 H b n c X P q Z rest hD hn hsm (fun x hx => hN x (by rcases List.mem_cons.1 hx with rfl | hx <;> simp_all)) hP (by omega) a m b2 ha hm hb2).mono ?_
        rintro e w' ⟨rfl, ⟨P1, P2, rfl, h2, h3, hd⟩, hu⟩
        refine ⟨rfl, ⟨P1 ++ q :: P2, ?_, ?_, by rw [List.append_assoc]; exact hd⟩, hu⟩
        · rw [List.append_assoc]
          exact List.Perm.append_left _ (List.perm_append_comm (l₁ := [q]) (l₂ := P2))
        · obtain ⟨s1, s2, s3⟩ := List.pairwise_append.1 hP
          refine List.pairwise_append.2 ⟨s1, List.pairwise_cons.2 ⟨h3, s2⟩, fun x hx y hy => ?_⟩
          rcases List.mem_cons.1 hy with rfl | hy
          · exact h2 x hx
          · exact s3 x hx y hy
      · have hI : SymOk B h g vb S b n c rest (P.length + Q.length - 1) := fun w X P' Q' Z hk' => sym_ok b n c rest hsm k w X P' Q' Z (by omega)
        exact c_symN b n c rest hsm X P Q Z hI H hD hn hN hP hQ (by omega) (by omega) a m b2 ha hm hb2

theorem ins_srt {S : HpS} {M : List Nat} (h : Srt S M) (y u : Nat) (h1 : ∀ z ∈ M.take u, atOf S z ≤ atOf S y) (h2 : ∀ z ∈ M.drop u, atOf S y ≤ atOf S z) : Srt S (M.take u ++ y :: M.drop u) := by
  have h3 := h
  rw [← List.take_append_drop u M] at h3
  obtain ⟨s1, s2, s3⟩ := List.pairwise_append.1 h3
  refine List.pairwise_append.2 ⟨s1, List.pairwise_cons.2 ⟨h2, s2⟩, fun x hx z hz => ?_⟩
  rcases List.mem_cons.1 hz with rfl | hz
  · exact h1 x hx
  · exact s3 x hx z hz
theorem ins_perm {M Y : List Nat} {t : Nat} (y u : Nat) (h : M.Perm (Y.take t)) (hy : Y.take (t + 1) = Y.take t ++ [y]) : (M.take u ++ y :: M.drop u).Perm (Y.take (t + 1)) := by
  refine List.perm_middle.trans ?_
  rw [List.take_append_drop, hy]
  exact (h.cons y).trans (List.perm_append_comm (l₁ := [y]))

section
variable {w : World} {B h g : Nat} {vb : Value} {S : HpS}
theorem c_insG (H : HpAt w B h g vb S) (b n c : Nat) (X Y Z : List Nat) (rest : List Value) (hD : Dat w b (X ++ (Y ++ Z)) rest) (hn : n = (X ++ (Y ++ Z)).length) (hsm : n ≤ 1000000) (hN : Nums S Y) (a b2 : Nat) (ha : a = X.length) (hb2 : b2 = X.length + Y.length) :
    Calls Try.prog 50 #[.slice (some ⟨b, 0, none⟩) n c, .int .i64 a, .int .i64 b2, .func (.func 47) #[.pointer (some ⟨h, 0, none⟩)] #[]] w fun e w' => e = .returned (.tuple #[]) ∧ (∃ M : List Nat, M.Perm Y ∧ Srt S M ∧ Dat w' b (X ++ (M ++ Z)) rest) ∧ Upd [b] w w' := by
  have HH := Lib.hid H
  have HD := Lib.hid hD
  have HN := Lib.hid hN
  have HR0 := Lib.hid hD.row
  have HA := Lib.hid ha
  have HLN := Lib.hid (show X.length + Y.length + Z.length = n by rw [hn]; simp only [List.length_append]; omega)
  have HB2 := Lib.hid (show b2 = a + Y.length by omega)
  have hbn : b2 ≤ n := by have := HLN.out; omega
  have han : a ≤ n := by have := HLN.out; omega
  clear H hD hN hn ha hb2
  go_enter Try.func50, Try.ntmps50
  go_wp2
  go_loopw [8] (fun iv wr => ∃ i t : Nat, ∃ M : List Nat, iv = .int .i64 (i : Int) ∧ a < i ∧ i ≤ n + 1 ∧ Hid (i = a + t) ∧ Hid (M.Perm (Y.take t)) ∧ Hid (Srt S M) ∧ Hid (Dat wr b (X ++ (M ++ (Y.drop t ++ Z))) rest) ∧ Hid (Upd [b] w wr)) (fun iv _ => n + 1 - (intOf iv).toNat)
  case atStart =>
    refine ⟨a + 1, 1, Y.take 1, by go_num, by omega, by omega, rfl, List.Perm.refl _, ?_, ?_, Upd.refl _ _⟩
    · unfold Hid
      cases Y with
      | nil => exact List.Pairwise.nil
      | cons y Y => exact List.pairwise_singleton _ _
    · unfold Hid
      rw [← List.append_assoc (Y.take 1), List.take_append_drop]; exact HD.out
  case round =>
    clear HD
    obtain ⟨i, t, M, rfl, hai, hin, HI, HPM, HSM, HD, HU⟩ := hrel
    by_cases hlt : i < b2
    · have hltI : (i : Int) < (b2 : Int) := by omega
      have hty : t < Y.length := by have := HI.out; have := HB2.out; omega
      have HTY := Lib.hid hty
      have hml : M.length = t := by have := HPM.out.length_eq; rw [List.length_take] at this; omega
      have HML := Lib.hid hml
      have hy1 := HN.out Y[t] (List.getElem_mem hty)
      have HTK := Lib.hid (List.take_succ_eq_append_getElem hty)
      have HDR := Lib.hid (List.drop_eq_getElem_cons hty)
      have HNM := Lib.hid (show Nums S M from fun k hk => HN.out k (List.mem_of_mem_take (HPM.out.mem_iff.1 hk)))
      generalize Y[t] = y at *
      have HD1 := Lib.hid (show Dat wr b (X ++ (M.take t ++ (y :: (M.drop t ++ (Y.drop (t + 1) ++ Z))))) rest by
        rw [← HML.out, List.take_length, List.drop_length, HML.out]
        have := HD.out
        rw [HDR.out] at this
        exact this)
      clear hty hml HD
      go_wp2
      go_loopw [9] (fun jv w2 => ∃ j u : Nat, jv = .int .i64 (j : Int) ∧ a ≤ j ∧ j ≤ i ∧ Hid (j = a + u) ∧ Hid (∀ x ∈ M.drop u, atOf S y ≤ atOf S x) ∧ Hid (Dat w2 b (X ++ (M.take u ++ (y :: (M.drop u ++ (Y.drop (t + 1) ++ Z))))) rest) ∧ Hid (Upd [b] wr w2)) (fun jv _ => (intOf jv).toNat)
      case atStart => exact ⟨i, t, rfl, by omega, Nat.le_refl _, HI.out, by unfold Hid; rw [← HML.out, List.drop_length]; simp, HD1.out, Upd.refl _ _⟩
      case round =>
        clear HD1
        obtain ⟨j, u, rfl, haj, hji, HJ, HGT, HD, HV⟩ := hrel
        have hut : Hid (u ≤ t) := by unfold Hid; have := HI.out; have := HJ.out; omega
        have hL : Hid ((X ++ (M.take u ++ (y :: (M.drop u ++ (Y.drop (t + 1) ++ Z))))).length = n) := by
          unfold Hid
          have := HLN.out; have := HML.out; have := HTY.out; have := hut.out
          simp only [List.length_append, List.length_take, List.length_drop, List.length_cons]
          omega
        by_cases hja : a < j
        · obtain ⟨j', rfl⟩ : ∃ j', j = j' + 1 := ⟨j - 1, by omega⟩
          obtain ⟨u', rfl⟩ : ∃ u', u = u' + 1 := ⟨u - 1, by have := HJ.out; omega⟩
          have e1 : decide ((a : Int) < (j' : Int) + 1) = true := decide_eq_true (by omega)
          have hjn : j' + 1 < n := by have := HLN.out; have := HI.out; have := HTY.out; have := HA.out; omega
          have hum : u' < M.length := by have := HML.out; have := hut.out; omega
          have ky := HD.out.cell (i := j' + 1) (by rw [hL.out]; omega)
          have kx := HD.out.cell (i := j') (by rw [hL.out]; omega)
          have ey : (X ++ (M.take (u' + 1) ++ (y :: (M.drop (u' + 1) ++ (Y.drop (t + 1) ++ Z))))).getD (j' + 1) 0 = y := by
            have h1 : j' + 1 = (X ++ M.take (u' + 1)).length := by rw [List.length_append, List.length_take]; have := HJ.out; have := HA.out; omega
            rw [← List.append_assoc, h1, List.getD_eq_getElem?_getD, List.getElem?_append_right (Nat.le_refl _), Nat.sub_self]; rfl
          have ex : (X ++ (M.take (u' + 1) ++ (y :: (M.drop (u' + 1) ++ (Y.drop (t + 1) ++ Z))))).getD j' 0 = M.getD u' 0 := by
            have h1 := getD_in (X := X) (Y := M.take (u' + 1)) (Z := y :: (M.drop (u' + 1) ++ (Y.drop (t + 1) ++ Z))) (i := u') (by rw [List.length_take]; omega)
            rw [show j' = X.length + u' by have := HJ.out; have := HA.out; omega, h1, List.getD_eq_getElem?_getD, List.getElem?_take, if_pos (by omega), List.getD_eq_getElem?_getD]
          rw [ey] at ky
          rw [ex] at kx
          have hx1 := HNM.out (M.getD u' 0) (mem_getD hum)
          have HXL := Lib.hid (take_le HSM.out hum)
          have HXG := Lib.hid (fun hyx : atOf S y ≤ atOf S (M.getD u' 0) => (show ∀ z ∈ M.drop u', atOf S y ≤ atOf S z from fun z hz => Nat.le_trans hyx (drop_ge HSM.out hum z hz)))
          have HST := Lib.hid (show swp (X ++ (M.take (u' + 1) ++ (y :: (M.drop (u' + 1) ++ (Y.drop (t + 1) ++ Z))))) (j' + 1) j' = X ++ (M.take u' ++ (y :: (M.drop u' ++ (Y.drop (t + 1) ++ Z)))) by
            have := chain_back X M (Y.drop (t + 1) ++ Z) y hum
            rw [show j' = X.length + u' by have := HJ.out; have := HA.out; omega]
            exact this)
          have hx2 : M.getD u' 0 = M.getD u' 0 := rfl
          generalize M.getD u' 0 = x at *
          have HM := Lib.hid (c_cmp ((HH.out.upd (HU.out.trans HV.out) HR0.out).below (Below.refl _ wr).drew) y x hy1.1 hx1.1 hy1.2 hx1.2)
          have HDW := Lib.hid (show Dat wr.drew b (X ++ (M.take (u' + 1) ++ (y :: (M.drop (u' + 1) ++ (Y.drop (t + 1) ++ Z))))) rest from HD.out.drew)
          have HVW := Lib.hid (HV.out.drew)
          clear hum hx2
          have EY := Lib.hid ey
          have EX := Lib.hid ex
          have hx0 : (0 : Int) ≤ (j' : Int) := by omega
          have hx3 : (0 : Int) ≤ (j' : Int) + 1 := by omega
          have hx4 : (j' : Int) + 1 < (n : Int) := by omega
          have hjn2 : j' < n := by omega
          clear ey ex hx1 HD HV
          go_wp2_with fail
          refine wp_region_planH (fun z => z.cell? ⟨b, j' + 1, none⟩ = some (.int .i64 (y : Int)) ∧ z.cell? ⟨b, j', none⟩ = some (.int .i64 (x : Int))) [(0, true), (1, true), (2, true), (3, true), (4, true), (5, true), (6, true), (7, true), (8, true), (9, true), (10, true), (11, true), (12, true), (13, true), (14, false), (15, true), (16, true)] (by kernel_rfl) (by kernel_rfl) (fun _ _ _ _ _ h => h) ⟨ky, kx⟩ ?_
          have HS : Hid (wr.drew.cell? ⟨b, j' + 1, none⟩ = some (.int .i64 (y : Int)) ∧ wr.drew.cell? ⟨b, j', none⟩ = some (.int .i64 (x : Int))) := ⟨ky, kx⟩
          clear ky kx
          generalize wr.drew = wd at *
          (repeat (refine wpPlanH_free rfl (fun K hK => ?_); go_simp; (try go_bits); refine hK _ ?_; clear hK K))
          refine wpPlanH_load (.int .i64 (y : Int)) rfl rfl (fun x hS => by obtain ⟨s0, s1⟩ := hS; go_simp) (fun K hK => ?_)
          refine hK _ ?_
          clear hK K
          (repeat (refine wpPlanH_free rfl (fun K hK => ?_); go_simp; (try go_bits); refine hK _ ?_; clear hK K))
          refine wpPlanH_load (.int .i64 (x : Int)) rfl rfl (fun x hS => by obtain ⟨s0, s1⟩ := hS; go_simp) (fun K hK => ?_)
          refine hK _ ?_
          clear hK K
          refine wpPlanH_sole rfl ?_
          go_wp2_with fail
          refine HM.out.mono ?_
          rintro e w' ⟨rfl, hb2⟩
          have HS2 := Lib.hid (And.intro (cellKeep hb2 HS.out.1) (cellKeep hb2 HS.out.2))
          have HD2 := Lib.hid (HDW.out.keep hb2)
          have HV2 := Lib.hid (HVW.out.trans (.of_below hb2))
          clear hb2 HM HS HDW HVW
          by_cases hyp : atOf S y < atOf S x
          · have e2 : decide ((atOf S y : Int) - (atOf S x : Int) < 0) = true := decide_eq_true (by omega)
            have HYP := Lib.hid hyp
            clear hyp
            generalize (atOf S y : Int) - (atOf S x : Int) = z at *
            go_wp2
            refine ⟨HS2.out, ?_⟩
            (repeat (refine wpPlanH_free rfl (fun K hK => ?_); go_simp; (try go_bits); refine hK _ ?_; clear hK K))
            refine wpPlanH_nil ?_
            have k1 := HS2.out.1
            have k2 := HS2.out.2
            have f1 := HD2.out.free (j' + 1)
            have f2 := HD2.out.free j'
            have HSW2 := Lib.hid (HD2.out.drew.swap (i := j' + 1) (j := j') (by rw [hL.out]; omega) (by rw [hL.out]; omega) (x := y) (y := x) EY.out EX.out)
            have hXG := HXG.out (Nat.le_of_lt HYP.out)
            have HXG2 := Lib.hid hXG
            clear HXG hXG
            go_wp2_with fail
            go_region
            go_wp2
            refine ⟨⟨j', u', rfl, by omega, by omega, by unfold Hid; have := HJ.out; omega, HXG2.out, ?_, ((HV2.out.setCell (by simp) _).setCell (by simp) _).drew⟩, by simp [intOf]⟩
            show Dat _ _ _ _
            rw [← HST.out]
            exact HSW2.out
          · have e2 : decide ((atOf S y : Int) - (atOf S x : Int) < 0) = false := decide_eq_false (by omega)
            have HYP := Lib.hid hyp
            clear hyp
            generalize (atOf S y : Int) - (atOf S x : Int) = z at *
            go_wp2
            refine ⟨HS2.out, ?_⟩
            (repeat (refine wpPlanH_free rfl (fun K hK => ?_); go_simp; (try go_bits); refine hK _ ?_; clear hK K))
            refine wpPlanH_nil ?_
            go_wp2
            refine ⟨⟨i + 1, t + 1, M.take (u' + 1) ++ y :: M.drop (u' + 1), by go_num, by omega, by omega, by unfold Hid; have := HI.out; omega, ins_perm y (u' + 1) HPM.out HTK.out, ins_srt HSM.out y (u' + 1) (fun z hz => Nat.le_trans (HXL.out z hz) (by have := HYP.out; omega)) HGT.out, ?_, HU.out.trans HV2.out⟩, by simp [intOf]; omega⟩
            show Dat _ _ _ _
            rw [List.append_assoc]
            exact HD2.out
        · have e1 : decide ((a : Int) < (j : Int)) = false := decide_eq_false (by omega)
          go_wp2_with fail
          have hu0 : u = 0 := by have := HJ.out; omega
          subst hu0
          go_region
          go_wp2
          refine ⟨⟨i + 1, t + 1, M.take 0 ++ y :: M.drop 0, by go_num, by omega, by omega, by unfold Hid; have := HI.out; omega, ins_perm y 0 HPM.out HTK.out, ins_srt HSM.out y 0 (fun z hz => by simp at hz) HGT.out, ?_, HU.out.trans HV.out.drew⟩, by simp [intOf]; omega⟩
          show Dat _ _ _ _
          rw [List.append_assoc]
          exact HD.out.drew
    · have hltI : ¬ (i : Int) < (b2 : Int) := by omega
      have hty : Y.length ≤ t := by have := HI.out; have := HB2.out; omega
      go_wp2
      go_end0
      refine ⟨rfl, ⟨M, ?_, HSM.out, ?_⟩, HU.out⟩
      · have := HPM.out
        rwa [List.take_of_length_le hty] at this
      · have := HD.out
        rwa [List.drop_of_length_le hty, List.nil_append] at this
end

end Go.Proofs.Ytcecegcbkcdpjaa
