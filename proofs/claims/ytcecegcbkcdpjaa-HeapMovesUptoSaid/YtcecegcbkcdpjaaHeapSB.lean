/-
  Sorting a row of numbers in memory: rotate.
-/
import Derived.Test.YtcecegcbkcdpjaaHeapSA
namespace Go.Proofs.Ytcecegcbkcdpjaa
open Go.RowKit
set_option linter.unusedVariables false
set_option maxHeartbeats 4000000

theorem c_rotate (w : World) (b n c : Nat) (X P Q Z : List Nat) (rest : List Value) (hD : Dat w b (X ++ (P ++ (Q ++ Z))) rest) (hn : n = (X ++ (P ++ (Q ++ Z))).length) (hsm : n ≤ 1000000) (hP : 0 < P.length) (hQ : 0 < Q.length) (a m b2 : Nat) (ha : a = X.length) (hm : m = X.length + P.length) (hb2 : b2 = X.length + P.length + Q.length) (f : Value) :
    Calls Try.prog 52 #[.slice (some ⟨b, 0, none⟩) n c, .int .i64 a, .int .i64 m, .int .i64 b2, f] w fun e w' => e = .returned (.tuple #[]) ∧ Dat w' b (X ++ (Q ++ (P ++ Z))) rest ∧ Upd [b] w w' := by
  have HD := Lib.hid hD
  have HN := Lib.hid hn
  have hn2 : X.length + P.length + Q.length + Z.length = n := by rw [hn]; simp only [List.length_append]; omega
  have hb3 : b2 ≤ n := by omega
  have hma : a + P.length = m := by omega
  have hmb : m + Q.length = b2 := by omega
  have HA := Lib.hid ha
  have HM := Lib.hid hm
  have HB2 := Lib.hid hb2
  clear hD hn ha hm hb2
  have hmaI : (m : Int) - (a : Int) = ((P.length : Nat) : Int) := by omega
  have hmbI : (b2 : Int) - (m : Int) = ((Q.length : Nat) : Int) := by omega
  have HN2 := Lib.hid hn2
  have HX := Lib.hid (show a + P.length = m by exact hma)
  clear hn2 hma hmb
  go_enter Try.func52, Try.ntmps52
  go_wp2
  clear hmaI hmbI
  go_loopw [10, 11] (fun i j wr => ∃ A P' Q' C : List Nat, i = .int .i64 (P'.length : Nat) ∧ j = .int .i64 (Q'.length : Nat) ∧ 0 < P'.length ∧ 0 < Q'.length ∧ Hid (X.length + A.length + P'.length = m) ∧ Hid (A ++ (Q' ++ (P' ++ C)) = Q ++ P) ∧ Hid (Dat wr b (X ++ (A ++ (P' ++ (Q' ++ (C ++ Z))))) rest) ∧ Hid (Upd [b] w wr)) (fun i j _ => (intOf i).toNat + (intOf j).toNat)
  case atStart => exact ⟨[], P, Q, [], rfl, rfl, hP, hQ, by unfold Hid; rw [HM.out]; simp, by unfold Hid; simp, by unfold Hid; simpa using HD.out, Upd.refl _ _⟩
  case round =>
    clear HD hP hQ
    obtain ⟨A, P', Q', C, rfl, rfl, hP, hQ, HE, HQP, HD, HU⟩ := hrel
    have hln : Hid (X.length + A.length + P'.length + Q'.length + C.length + Z.length = n) := by
      unfold Hid
      have h1 := congrArg List.length HQP.out
      simp only [List.length_append] at h1
      have := HN2.out
      omega
    have HLEN : Hid (n = (X ++ (A ++ (P' ++ (Q' ++ (C ++ Z))))).length) := by unfold Hid; simp only [List.length_append]; have := hln.out; omega
    have hmi : P'.length ≤ m := by have := HE.out; omega
    have hmj : m + Q'.length ≤ n := by have := HE.out; have := hln.out; omega
    by_cases heq : P'.length = Q'.length
    · have heqI : ((P'.length : Nat) : Int) = ((Q'.length : Nat) : Int) := by omega
      have HSW : Hid (Calls Try.prog 53 #[.slice (some ⟨b, 0, none⟩) n c, .int .i64 ((m : Int) - (P'.length : Nat)), .int .i64 m, .int .i64 (P'.length : Nat), f] wr fun e w' => e = .returned (.tuple #[]) ∧ Dat w' b (X ++ (Q ++ (P ++ Z))) rest ∧ Upd [b] wr w') := by
        have h0 : Dat wr b ((X ++ A) ++ (P' ++ ([] ++ (Q' ++ (C ++ Z))))) rest := by simpa [List.append_assoc] using HD.out
        have := c_swapRange wr b n c (X ++ A) P' [] Q' (C ++ Z) rest h0 (by rw [HLEN.out]; simp) hsm (X.length + A.length) m P'.length (by simp) (by have := HE.out; simp; omega) rfl heq f
        rw [show (((X.length + A.length : Nat)) : Int) = (m : Int) - (P'.length : Nat) by have := HE.out; omega] at this
        have e : (X ++ A) ++ (Q' ++ ([] ++ (P' ++ (C ++ Z)))) = X ++ (Q ++ (P ++ Z)) := by
          have h1 := congrArg (· ++ Z) HQP.out
          simp only [List.append_assoc] at h1
          simp only [List.append_assoc, List.nil_append]
          rw [h1]
        rw [e] at this
        exact this
      rw [heqI] at HSW
      have HEQ := Lib.hid heq
      clear heq
      go_wp2_with fail
      refine HSW.out.mono ?_
      rintro e w2 ⟨rfl, hd, hu⟩
      have HD2 := Lib.hid hd
      have HU2 := Lib.hid (HU.out.trans hu)
      clear hd hu
      go_wp2
      go_end0
      exact ⟨rfl, HD2.out, HU2.out⟩
    · have heqI : ¬ ((P'.length : Nat) : Int) = ((Q'.length : Nat) : Int) := by omega
      by_cases hgt : Q'.length < P'.length
      · have hgtI : ((Q'.length : Nat) : Int) < ((P'.length : Nat) : Int) := by omega
        have HSW : Hid (Calls Try.prog 53 #[.slice (some ⟨b, 0, none⟩) n c, .int .i64 ((m : Int) - (P'.length : Nat)), .int .i64 m, .int .i64 (Q'.length : Nat), f] wr fun e w' => e = .returned (.tuple #[]) ∧ Dat w' b (X ++ ((A ++ Q') ++ (P'.drop Q'.length ++ (P'.take Q'.length ++ (C ++ Z))))) rest ∧ Upd [b] wr w') := by
          have h0 : Dat wr b ((X ++ A) ++ (P'.take Q'.length ++ (P'.drop Q'.length ++ (Q' ++ (C ++ Z))))) rest := by
            rw [← List.append_assoc (P'.take Q'.length), List.take_append_drop]
            simpa [List.append_assoc] using HD.out
          have := c_swapRange wr b n c (X ++ A) (P'.take Q'.length) (P'.drop Q'.length) Q' (C ++ Z) rest h0 (by rw [HLEN.out]; simp; omega) hsm (X.length + A.length) m Q'.length (by simp) (by have := HE.out; simp; omega) (by simp; omega) (by simp; omega) f
          rw [show (((X.length + A.length : Nat)) : Int) = (m : Int) - (P'.length : Nat) by have := HE.out; omega] at this
          simp only [List.append_assoc] at this ⊢
          exact this
        go_wp2_with fail
        refine HSW.out.mono ?_
        rintro e w2 ⟨rfl, hd, hu⟩
        have HD2 := Lib.hid hd
        have HU2 := Lib.hid (HU.out.trans hu)
        clear hd hu
        go_wp2
        go_roundw
        case rel =>
          refine ⟨A ++ Q', P'.drop Q'.length, P'.take Q'.length, C, ?_, ?_, ?_, ?_, ?_, ?_, HD2.out, HU2.out⟩
          · rw [List.length_drop]; exact congrArg (Value.int .i64) (by omega)
          · rw [List.length_take]; exact congrArg (Value.int .i64) (by omega)
          · rw [List.length_drop]; omega
          · rw [List.length_take]; omega
          · unfold Hid; have := HE.out; simp; omega
          · unfold Hid
            rw [← List.append_assoc (P'.take Q'.length), List.take_append_drop, List.append_assoc]
            exact HQP.out
        case measure => simp [intOf]; omega
      · have hgtI : ¬ ((Q'.length : Nat) : Int) < ((P'.length : Nat) : Int) := by omega
        have HSW : Hid (Calls Try.prog 53 #[.slice (some ⟨b, 0, none⟩) n c, .int .i64 ((m : Int) - (P'.length : Nat)), .int .i64 ((m : Int) + (Q'.length : Nat) - (P'.length : Nat)), .int .i64 (P'.length : Nat), f] wr fun e w' => e = .returned (.tuple #[]) ∧ Dat w' b (X ++ (A ++ (Q'.drop (Q'.length - P'.length) ++ (Q'.take (Q'.length - P'.length) ++ ((P' ++ C) ++ Z))))) rest ∧ Upd [b] wr w') := by
          have h0 : Dat wr b ((X ++ A) ++ (P' ++ (Q'.take (Q'.length - P'.length) ++ (Q'.drop (Q'.length - P'.length) ++ (C ++ Z))))) rest := by
            rw [← List.append_assoc (Q'.take (Q'.length - P'.length)), List.take_append_drop]
            simpa [List.append_assoc] using HD.out
          have := c_swapRange wr b n c (X ++ A) P' (Q'.take (Q'.length - P'.length)) (Q'.drop (Q'.length - P'.length)) (C ++ Z) rest h0 (by rw [HLEN.out]; simp; omega) hsm (X.length + A.length) (m + Q'.length - P'.length) P'.length (by simp) (by have := HE.out; simp; omega) rfl (by simp; omega) f
          rw [show (((X.length + A.length : Nat)) : Int) = (m : Int) - (P'.length : Nat) by have := HE.out; omega, show ((m + Q'.length - P'.length : Nat) : Int) = (m : Int) + (Q'.length : Nat) - (P'.length : Nat) by omega] at this
          simp only [List.append_assoc] at this ⊢
          exact this
        go_wp2_with fail
        refine HSW.out.mono ?_
        rintro e w2 ⟨rfl, hd, hu⟩
        have HD2 := Lib.hid hd
        have HU2 := Lib.hid (HU.out.trans hu)
        clear hd hu
        go_wp2
        go_roundw
        case rel =>
          refine ⟨A, Q'.drop (Q'.length - P'.length), Q'.take (Q'.length - P'.length), P' ++ C, ?_, ?_, ?_, ?_, ?_, ?_, HD2.out, HU2.out⟩
          · rw [List.length_drop]; exact congrArg (Value.int .i64) (by omega)
          · rw [List.length_take]; exact congrArg (Value.int .i64) (by omega)
          · rw [List.length_drop]; omega
          · rw [List.length_take]; omega
          · unfold Hid; have := HE.out; simp; omega
          · unfold Hid
            rw [← List.append_assoc (Q'.take _), List.take_append_drop]
            exact HQP.out
        case measure => simp [intOf]; omega

end Go.Proofs.Ytcecegcbkcdpjaa
