/-
  Sorting a row of numbers in memory: the stable sort whole; order.
-/
import Derived.Test.YtcecegcbkcdpjaaHeapSF
namespace Go.Proofs.Ytcecegcbkcdpjaa
open Go.RowKit
set_option linter.unusedVariables false
set_option maxHeartbeats 4000000
set_option maxRecDepth 100000

/-- Each block of k is in order. -/
def Blks (S : HpS) (k : Nat) (A : List Nat) : Prop := ∀ j, Srt S ((A.drop (j * k)).take k)
theorem Blks.nil (S : HpS) (k : Nat) : Blks S k [] := fun j => by simp [Srt]
theorem Blks.app {S : HpS} {k q : Nat} {A M : List Nat} (h : Blks S k A) (hA : A.length = q * k) (hM : Srt S M) (hl : M.length ≤ k) : Blks S k (A ++ M) := by
  intro j
  by_cases h1 : j < q
  · have h2 : (j + 1) * k ≤ q * k := Nat.mul_le_mul_right _ h1
    rw [Nat.succ_mul] at h2
    rw [List.drop_append_of_le_length (by omega), List.take_append_of_le_length (by rw [List.length_drop]; omega)]
    exact h j
  · have h2 : q * k ≤ j * k := Nat.mul_le_mul_right _ (by omega)
    rw [List.drop_append, List.drop_of_length_le (by omega), List.nil_append]
    exact ((hM.drop _).take _)
theorem Blks.shift {S : HpS} {k : Nat} {R : List Nat} (h : Blks S k R) : Blks S k (R.drop (2 * k)) := by
  intro j
  rw [List.drop_drop, show 2 * k + j * k = (j + 2) * k by rw [Nat.add_mul]; omega]
  exact h (j + 2)
theorem Blks.b0 {S : HpS} {k : Nat} {R : List Nat} (h : Blks S k R) : Srt S (R.take k) := by
  have := h 0
  rwa [Nat.zero_mul, List.drop_zero] at this
theorem Blks.b1 {S : HpS} {k : Nat} {R : List Nat} (h : Blks S k R) : Srt S ((R.drop k).take k) := by
  have := h 1
  rwa [Nat.one_mul] at this

section
variable {w : World} {B h g : Nat} {vb : Value} {S : HpS}
theorem c_stableG (H : HpAt w B h g vb S) (b n c : Nat) (L : List Nat) (rest : List Value) (hD : Dat w b L rest) (hn : n = L.length) (hsm : n ≤ 1000000) (hN : Nums S L) :
    Calls Try.prog 49 #[.slice (some ⟨b, 0, none⟩) n c, .int .i64 n, .func (.func 47) #[.pointer (some ⟨h, 0, none⟩)] #[]] w fun e w' => e = .returned (.tuple #[]) ∧ (∃ M : List Nat, M.Perm L ∧ Srt S M ∧ Dat w' b M rest) ∧ Upd [b] w w' := by
  have HH := Lib.hid H
  have HD := Lib.hid hD
  have HN := Lib.hid hN
  have HR0 := Lib.hid hD.row
  have HLN := Lib.hid hn
  clear H hD hN hn
  go_enter Try.func49, Try.ntmps49
  go_wp2
  go_loopw [7, 8] (fun av bv wr => ∃ a b' k : Nat, ∃ A R : List Nat, av = .int .i64 (a : Int) ∧ bv = .int .i64 (b' : Int) ∧ a ≤ n ∧ a < b' ∧ Hid (b' = a + 20) ∧ Hid (a = A.length) ∧ Hid (A.length = k * 20) ∧ Hid ((A ++ R).Perm L) ∧ Hid (Blks S 20 A) ∧ Hid (Dat wr b (A ++ R) rest) ∧ Hid (Upd [b] w wr)) (fun _ bv _ => n + 20 - (intOf bv).toNat)
  case atStart => exact ⟨0, 20, 0, [], L, rfl, rfl, Nat.zero_le _, by decide, rfl, rfl, rfl, List.Perm.refl _, Blks.nil _ _, HD.out, Upd.refl _ _⟩
  case round =>
    clear HD
    obtain ⟨a, b', k, A, R, rfl, rfl, han, hab, HB', HA, HK, HPM, HBK, HD, HU⟩ := hrel
    have HLR := Lib.hid (show A.length + R.length = n by have := HPM.out.length_eq; rw [List.length_append] at this; have := HLN.out; omega)
    have HHr := Lib.hid (HH.out.upd HU.out HR0.out)
    have HNr := Lib.hid (show Nums S (A ++ R) from fun k hk => HN.out k (HPM.out.mem_iff.1 hk))
    by_cases hlt : b' ≤ n
    · have hltI : (b' : Int) ≤ (n : Int) := by omega
      have hIN := c_insG HHr.out b n c A (R.take 20) (R.drop 20) rest (by rw [List.take_append_drop]; exact HD.out) (by rw [List.take_append_drop, List.length_append]; exact HLR.out.symm) hsm (fun k hk => HNr.out k (List.mem_append_right _ (List.mem_of_mem_take hk))) a b' HA.out (by have := HB'.out; have := HA.out; have := HLR.out; rw [List.length_take]; omega)
      have HIN := Lib.hid hIN
      clear hIN
      go_wp2_with fail
      refine HIN.out.mono ?_
      rintro e w2 ⟨rfl, ⟨M, hm1, hm2, hm3⟩, hu⟩
      have HM1 := Lib.hid hm1
      have HM2 := Lib.hid hm2
      have HM3 := Lib.hid hm3
      have HU2 := Lib.hid (HU.out.trans hu)
      have HML := Lib.hid (show M.length = 20 by have := hm1.length_eq; rw [List.length_take] at this; have := HLR.out; have := HA.out; have := HB'.out; omega)
      clear hm1 hm2 hm3 hu HIN
      go_wp2
      go_roundw
      case rel =>
        refine ⟨b', b' + 20, k + 1, A ++ M, R.drop 20, rfl, by go_num, hlt, by omega, rfl, ?_, ?_, ?_, ?_, ?_, HU2.out⟩
        · unfold Hid; rw [List.length_append, HML.out]; have := HA.out; have := HB'.out; omega
        · unfold Hid; rw [List.length_append, HML.out, HK.out, Nat.succ_mul]
        · unfold Hid
          rw [List.append_assoc]
          refine List.Perm.trans ?_ HPM.out
          refine List.Perm.append_left _ ?_
          refine (List.Perm.append_right _ HM1.out).trans ?_
          rw [List.take_append_drop]
        · exact HBK.out.app HK.out HM2.out (by rw [HML.out]; exact Nat.le_refl _)
        · unfold Hid; rw [List.append_assoc]; exact HM3.out
      case measure => simp [intOf]; omega
    · have hltI : ¬ (b' : Int) ≤ (n : Int) := by omega
      have hIN := c_insG HHr.out b n c A R [] rest (by rw [List.append_nil]; exact HD.out) (by rw [List.append_nil, List.length_append]; exact HLR.out.symm) hsm (fun k hk => HNr.out k (List.mem_append_right _ hk)) a n HA.out (HLR.out.symm)
      have HIN := Lib.hid hIN
      have hrl : R.length ≤ 20 := by have := HLR.out; have := HA.out; have := HB'.out; omega
      have HRL := Lib.hid hrl
      clear hIN hrl
      go_wp2_with fail
      refine HIN.out.mono ?_
      rintro e w2 ⟨rfl, ⟨M, hm1, hm2, hm3⟩, hu⟩
      have HL2 : Hid ((A ++ M).Perm L) := (List.Perm.append_left _ hm1).trans HPM.out
      have HB2 : Hid (Blks S 20 (A ++ M)) := HBK.out.app HK.out hm2 (by rw [hm1.length_eq]; exact HRL.out)
      have HD2 : Hid (Dat w2 b (A ++ M) rest) := by unfold Hid; rw [List.append_nil] at hm3; exact hm3
      have HU2 := Lib.hid (HU.out.trans hu)
      clear hm1 hm2 hm3 hu HIN HHr HNr HBK HD HU HPM HRL HLR HK HA
      generalize A ++ M = L1 at *
      clear han hab HB' hlt hltI
      go_wp2
      go_loopw [6, 7, 8, 9] (fun sv av bv mv w3 => ∃ bs : Nat, ∃ L2 : List Nat, sv = .int .i64 (bs : Int) ∧ 0 < bs ∧ bs ≤ 2 * n + 20 ∧ Hid (L2.Perm L) ∧ Hid (Blks S bs L2) ∧ Hid (Dat w3 b L2 rest) ∧ Hid (Upd [b] w w3)) (fun sv _ _ _ _ => n - (intOf sv).toNat)
      case atStart => exact ⟨20, L1, rfl, by decide, by omega, HL2.out, HB2.out, HD2.out, HU2.out⟩
      case round =>
        clear HL2 HB2 HD2 HU2
        obtain ⟨bs, L2, rfl, hbs, hbn, HPM, HBK, HD, HU⟩ := hrel
        have HL2 := Lib.hid (show L2.length = n by rw [HPM.out.length_eq]; exact HLN.out.symm)
        by_cases hlt : bs < n
        · have hltI : (bs : Int) < (n : Int) := by omega
          have hbs2 : bs ≤ n := by omega
          have HBSN := Lib.hid (show bs ≤ n from hbs2)
          go_wp2
          go_loopw [7, 8] (fun av bv w4 => ∃ a b' k : Nat, ∃ A R : List Nat, av = .int .i64 (a : Int) ∧ bv = .int .i64 (b' : Int) ∧ a ≤ n ∧ a + bs < b' ∧ b' ≤ n + 2 * bs ∧ Hid (b' = a + 2 * bs) ∧ Hid (a = A.length) ∧ Hid (A.length = k * (2 * bs)) ∧ Hid ((A ++ R).Perm L) ∧ Hid (Blks S (2 * bs) A) ∧ Hid (Blks S bs R) ∧ Hid (Dat w4 b (A ++ R) rest) ∧ Hid (Upd [b] w w4)) (fun _ bv _ => n + 2 * bs + 1 - (intOf bv).toNat)
          case atStart => exact ⟨0, 2 * bs, 0, [], L2, rfl, congrArg (Value.int .i64) (by omega), Nat.zero_le _, by omega, by omega, by unfold Hid; omega, rfl, by unfold Hid; simp, HPM.out, Blks.nil _ _, HBK.out, HD.out, HU.out⟩
          case round =>
            clear HPM HBK HD HU HL2
            obtain ⟨a, b', k, A, R, rfl, rfl, han, hab, hbn2, HB', HA, HK, HPM, HBA, HBR, HD, HU⟩ := hrel
            have HLR := Lib.hid (show A.length + R.length = n by have := HPM.out.length_eq; rw [List.length_append] at this; have := HLN.out; omega)
            have HHr := Lib.hid (HH.out.upd HU.out HR0.out)
            have HNr := Lib.hid (show Nums S (A ++ R) from fun k hk => HN.out k (HPM.out.mem_iff.1 hk))
            by_cases hlt2 : b' ≤ n
            · have hlt2I : (b' : Int) ≤ (n : Int) := by omega
              have hrl : 2 * bs ≤ R.length := by have := HLR.out; have := HA.out; have := HB'.out; omega
              have hsp : R.take bs ++ ((R.drop bs).take bs ++ R.drop (2 * bs)) = R := by
                rw [show R.drop (2 * bs) = (R.drop bs).drop bs by rw [List.drop_drop]; congr 1; omega, List.take_append_drop, List.take_append_drop]
              have hl1 : (R.take bs).length = bs := by rw [List.length_take]; omega
              have hl2 : ((R.drop bs).take bs).length = bs := by rw [List.length_take, List.length_drop]; omega
              have HSP := Lib.hid hsp
              have hSY : Calls Try.prog 51 #[.slice (some ⟨b, 0, none⟩) n c, .int .i64 a, .int .i64 ((a : Int) + (bs : Int)), .int .i64 b', .func (.func 47) #[.pointer (some ⟨h, 0, none⟩)] #[]] _ _ :=
                sym_ok b n c rest hsm (bs + bs) _ A (R.take bs) ((R.drop bs).take bs) (R.drop (2 * bs)) (by rw [hl1, hl2]; exact Nat.le_refl _) (by rw [hl1]; exact hbs) (by rw [hl2]; exact hbs) HHr.out (by rw [hsp]; exact HD.out) (by rw [hsp, List.length_append]; exact HLR.out.symm)
                  (fun k hk => HNr.out k (List.mem_append_right _ (by rw [← hsp]; rcases List.mem_append.1 hk with h | h <;> simp only [List.mem_append] <;> simp [h])))
                  HBR.out.b0 HBR.out.b1 a (a + bs) b' HA.out (by rw [hl1]; have := HA.out; omega) (by rw [hl1, hl2]; have := HA.out; have := HB'.out; omega)
              have HSY := Lib.hid hSY
              have HL12 := Lib.hid (And.intro hl1 hl2)
              clear hSY hl1 hl2 hsp hrl
              go_wp2_with fail
              refine HSY.out.mono ?_
              rintro e w5 ⟨rfl, ⟨M, hm1, hm2, hm3⟩, hu⟩
              have HM1 := Lib.hid hm1
              have HM2 := Lib.hid hm2
              have HM3 := Lib.hid hm3
              have HU5 := Lib.hid (HU.out.trans hu)
              have HML := Lib.hid (show M.length = 2 * bs by have := hm1.length_eq; rw [List.length_append, HL12.out.1, HL12.out.2] at this; omega)
              clear hm1 hm2 hm3 hu HSY
              go_wp2
              go_roundw
              case rel =>
                refine ⟨b', b' + 2 * bs, k + 1, A ++ M, R.drop (2 * bs), rfl, congrArg (Value.int .i64) (by omega), hlt2, by omega, by omega, rfl, ?_, ?_, ?_, ?_, HBR.out.shift, ?_, HU5.out⟩
                · unfold Hid; rw [List.length_append, HML.out]; have := HA.out; have := HB'.out; omega
                · unfold Hid; rw [List.length_append, HML.out, HK.out]; exact (Nat.succ_mul k (2 * bs)).symm
                · unfold Hid
                  rw [List.append_assoc]
                  refine List.Perm.trans ?_ HPM.out
                  refine List.Perm.append_left _ ?_
                  refine (List.Perm.append_right _ HM1.out).trans ?_
                  rw [List.append_assoc, HSP.out]
                · exact HBA.out.app HK.out HM2.out (by rw [HML.out]; exact Nat.le_refl _)
                · unfold Hid; rw [List.append_assoc]; exact HM3.out
              case measure => simp [intOf]; omega
            · have hlt2I : ¬ (b' : Int) ≤ (n : Int) := by omega
              by_cases hm : a + bs < n
              · have hmI : (a : Int) + (bs : Int) < (n : Int) := by omega
                have hrl : bs < R.length ∧ R.length < 2 * bs := by have := HLR.out; have := HA.out; have := HB'.out; omega
                have hsp : R.take bs ++ (R.drop bs ++ []) = R := by rw [List.append_nil, List.take_append_drop]
                have hl1 : (R.take bs).length = bs := by rw [List.length_take]; omega
                have hl2 : (R.drop bs).length + bs = R.length := by rw [List.length_drop]; omega
                have hs2 : Srt S (R.drop bs) := by
                  have := HBR.out.b1
                  rwa [List.take_of_length_le (by omega)] at this
                have hSY : Calls Try.prog 51 #[.slice (some ⟨b, 0, none⟩) n c, .int .i64 a, .int .i64 ((a : Int) + (bs : Int)), .int .i64 n, .func (.func 47) #[.pointer (some ⟨h, 0, none⟩)] #[]] _ _ :=
                  sym_ok b n c rest hsm (bs + bs) _ A (R.take bs) (R.drop bs) [] (by omega) (by rw [hl1]; exact hbs) (by omega) HHr.out (by rw [hsp]; exact HD.out) (by rw [hsp, List.length_append]; exact HLR.out.symm)
                    (fun k hk => HNr.out k (List.mem_append_right _ (by rwa [List.take_append_drop] at hk)))
                    HBR.out.b0 hs2 a (a + bs) n HA.out (by rw [hl1]; have := HA.out; omega) (by have := HA.out; have := HLR.out; omega)
                have HSY := Lib.hid hSY
                have HRL := Lib.hid hrl
                clear hSY hl1 hl2 hsp hrl hs2
                go_wp2_with fail
                refine HSY.out.mono ?_
                rintro e w5 ⟨rfl, ⟨M, hm1, hm2, hm3⟩, hu⟩
                rw [List.take_append_drop] at hm1
                have HM1 := Lib.hid hm1
                have HM2 := Lib.hid hm2
                have HM3 := Lib.hid hm3
                have HU5 := Lib.hid (HU.out.trans hu)
                have HML := Lib.hid (show M.length ≤ 2 * bs by rw [hm1.length_eq]; have := HRL.out; omega)
                clear hm1 hm2 hm3 hu HSY
                go_wp2
                go_roundw
                case rel =>
                  refine ⟨2 * bs, A ++ M, congrArg (Value.int .i64) (by omega), by omega, by omega, (List.Perm.append_left _ HM1.out).trans HPM.out, HBA.out.app HK.out HM2.out HML.out, ?_, HU5.out⟩
                  unfold Hid
                  have := HM3.out
                  rwa [List.append_nil] at this
                case measure => simp [intOf]; omega
              · have hmI : ¬ (a : Int) + (bs : Int) < (n : Int) := by omega
                have hrl : R.length ≤ bs := by have := HLR.out; have := HA.out; have := HB'.out; omega
                have HSR : Hid (Srt S R) := by
                  unfold Hid
                  have := HBR.out.b0
                  rwa [List.take_of_length_le hrl] at this
                have HRL := Lib.hid hrl
                clear hrl
                go_wp2
                go_roundw
                case rel => exact ⟨2 * bs, A ++ R, congrArg (Value.int .i64) (by omega), by omega, by omega, HPM.out, HBA.out.app HK.out HSR.out (by have := HRL.out; omega), HD.out, HU.out⟩
                case measure => simp [intOf]; omega
        · have hltI : ¬ (bs : Int) < (n : Int) := by omega
          go_wp2
          go_end0
          refine ⟨rfl, ⟨L2, HPM.out, ?_, HD.out⟩, HU.out⟩
          have := HBK.out.b0
          rwa [List.take_of_length_le (by have := HL2.out; omega)] at this

theorem c_SortG (H : HpAt w B h g vb S) (b n c : Nat) (L : List Nat) (rest : List Value) (hD : Dat w b L rest) (hn : n = L.length) (hsm : n ≤ 1000000) (hN : Nums S L) :
    Calls Try.prog 46 #[.slice (some ⟨b, 0, none⟩) n c, .func (.func 47) #[.pointer (some ⟨h, 0, none⟩)] #[]] w fun e w' => e = .returned (.tuple #[]) ∧ (∃ M : List Nat, M.Perm L ∧ Srt S M ∧ Dat w' b M rest) ∧ Upd [b] w w' := by
  have HI := Lib.hid (c_stableG H b n c L rest hD hn hsm hN)
  clear H hD hn hN
  go_enter Try.func46, Try.ntmps46
  go_wp2_with fail
  refine HI.out.mono ?_
  rintro e w' ⟨rfl, hm, hu⟩
  have HM := Lib.hid hm
  have HU := Lib.hid hu
  clear hm hu
  go_wp2
  go_end0
  exact ⟨rfl, HM.out, HU.out⟩

theorem usedN_lt (bl : List Blk) : ∀ k, ∀ x ∈ usedN bl k, x < k
  | 0, x, hx => by simp [usedN] at hx
  | k + 1, x, hx => by
    unfold usedN at hx
    split at hx
    · rcases List.mem_append.1 hx with hx | hx
      · have := usedN_lt bl k x hx; omega
      · simp at hx; omega
    · have := usedN_lt bl k x hx; omega
theorem usedN_len (bl : List Blk) (k : Nat) : (usedN bl k).length ≤ k := by
  have := usedTo_len bl k
  rwa [usedTo_N, List.length_map] at this

/-- What order tells of whatever heap. -/
def OrdG (S : HpS) (L : List Nat) : Prop := L.Perm (usedL S) ∧ Srt S L
theorem ords_any (H : HpAt w B h g vb S) (hat : ∀ k ∈ usedL S, atOf S k ≤ 32768) : Ords (OrdG S) w h := by
  have hN : Nums S (usedL S) := fun k hk => ⟨usedN_lt S.bl S.bl.length k hk, hat k hk⟩
  have hlen : (usedL S).length ≤ 1000000 := Nat.le_trans (usedN_len _ _) H.few
  have hb := c_HBlocks H
  rw [usedTo_N, List.length_map] at hb
  have HBL : Hid (Calls Try.prog 32 #[.pointer (some ⟨h, 0, none⟩)] w fun e w' => ∃ v, e = .returned v ∧ w'.ownsRow w.heap.size 3 1 v (usedL S).length (((usedL S).map (fun k : Nat => (k : Int))).map (Value.int .i64)) ∧ Below w.heap.size w w') := hb
  have HH := Lib.hid H
  have HN := Lib.hid hN
  have HE := Lib.hid (rfl : usedL S = usedL S)
  have HQ : Hid (∀ L, L.Perm (usedL S) → Srt S L → OrdG S L) := fun L h1 h2 => ⟨h1, h2⟩
  unfold Ords
  generalize hU : usedL S = U at *
  clear H hb hN hat hU HE
  generalize OrdG S = G at *
  go_enter Try.func43, Try.ntmps43
  go_wp2_with fail
  refine HBL.out.mono ?_
  clear HBL
  rintro e w1 ⟨v, rfl, ho, hb⟩
  have HB := Lib.hid hb
  by_cases hz : U.length = 0
  · obtain ⟨a, c, rfl, hr, -, -⟩ := owns_reads ho
    have hU0 : U = [] := List.eq_nil_of_length_eq_zero hz
    have HS := Lib.hid (c_SortStable (HH.out.below hb) [] ⟨by simp, by simp, by simp⟩ (by simp) a 0 c rfl (by rw [hU0] at hr; exact hr))
    subst hU0
    have HO := Lib.hid ho
    clear ho hb hr hz
    go_wp2_with fail
    refine HS.out.mono ?_
    clear HS
    rintro e w2 ⟨rfl, hb2⟩
    have HO2 := Lib.hid ((Upd.of_below (l := []) hb2).ownsAbove HO.out (by simp))
    have HB2 := Lib.hid (bNext HB.out hb2)
    clear hb2 HO HB
    go_wp2
    go_ret
    exact ⟨_, [], HQ.out [] (List.Perm.refl _) List.Pairwise.nil, rfl, HO2.out, HB2.out⟩
  · obtain ⟨b, c, cur, rfl, hbb, hrow, htk, hnc, hcm, hcl⟩ := h_block ho (by omega)
    have hD : Dat w1 b U (cur.drop U.length) := by
      refine ⟨?_⟩
      have e1 : U.map valN = cur.take (U.length * 1) := by rw [htk, List.map_map]; rfl
      rw [e1, Nat.mul_one, List.take_append_drop]
      exact hrow
    have HS := Lib.hid (c_SortG (HH.out.below hb) b U.length c U _ hD rfl hlen HN.out)
    have HCL := Lib.hid hcl
    have HCM := Lib.hid hcm
    clear ho hb hrow htk hcl hcm hD hz
    go_wp2_with fail
    refine HS.out.mono ?_
    clear HS
    rintro e w2 ⟨rfl, ⟨M, hm1, hm2, hm3⟩, hu⟩
    have HG := Lib.hid (HQ.out M hm1 hm2)
    have HML := Lib.hid hm1.length_eq
    have HM3 := Lib.hid hm3
    have HB2 := Lib.hid (HB.out.trans (hu.below HB.out.size (by intro k hk; simp at hk; subst hk; exact hbb)))
    clear hm1 hm2 hm3 hu HB
    go_wp2
    go_ret
    refine ⟨_, M, HG.out, rfl, ?_, HB2.out⟩
    rw [HML.out]
    refine block_h hbb HM3.out.row ?_ hnc HCM.out ?_
    · rw [Nat.mul_one, List.take_append_of_le_length (by rw [List.length_map, HML.out]; exact Nat.le_refl _), List.take_of_length_le (by rw [List.length_map, HML.out]; exact Nat.le_refl _), List.map_map]
      rfl
    · rw [List.length_append, List.length_map, HML.out, List.length_drop, ← HCL.out]
      have := HCL.out
      omega
end

end Go.Proofs.Ytcecegcbkcdpjaa
