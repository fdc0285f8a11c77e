/-
  How many sectors the document's answer of chapter 03 finds used.
-/
import Derived.Test.YtbmenldopeplcaaDiskRef2
namespace Go.Proofs.Ytbmenldopeplcaa
open Go.RowKit Go.ChangeShapes Go.ChangeAt
set_option linter.unusedVariables false

set_option maxHeartbeats 1000000

theorem some1_take (l : List Int) (j : Nat) (h : j < l.length) : some1 (l.take (j + 1)) = (some1 (l.take j) || (l.getD j 0 != 0)) := by
  unfold some1
  rw [List.take_add_one, List.getElem?_eq_getElem h, List.any_append, List.getD_eq_getElem?_getD, List.getElem?_eq_getElem h]
  simp

theorem c_RefUsed (base n : Nat) (v : Value) (vs : List Value) (bs : List Int) (w : World) (h : RefAt w base v n vs bs) (hn : n ≤ 100000) :
    Calls Try.prog 27 #[v] w fun e w' => e = .returned (.int .i64 (usedN bs n)) ∧ w = w' := by
  have HH := Lib.hid h
  have hvl : vs.length = n := by have := h.row.1; omega
  obtain ⟨av, cv, rfl, _, hcv, _⟩ := owns_reads h.row
  clear h
  go_enter Try.func27, Try.ntmps27
  go_wp2
  go_loop [3, 4] (fun t i => ∃ k : Nat, k ≤ n ∧ i = .int .i64 k ∧ t = .int .i64 (usedN bs k)) (fun _ i => n - (intOf i).toNat)
  case atStart => exact ⟨0, Nat.zero_le _, rfl, rfl⟩
  case round =>
    obtain ⟨k, hk, rfl, rfl⟩ := hrel
    have hu := usedN_le bs k
    by_cases hlt : k < n
    · obtain ⟨gx, cx0, hvx, hgx, hgl, hcx, hcell⟩ := owns_at HH.out.row (by omega)
      cases hvx
      have hck := hcell k _ (List.getElem?_eq_getElem (by omega))
      have hok := HH.out.secs k _ (List.getElem?_eq_getElem (by omega))
      generalize vs[k] = s at *
      obtain ⟨gk, ck, rfl, _, _, hck2, hcells⟩ := owns_at hok (by omega)
      have HC := Lib.hid hcells
      have HS := Lib.hid (usedN_succ bs k)
      have hsl := sector_len HH.out.len hlt
      clear hcells hok hcell
      generalize sector bs k = z at *
      generalize usedN bs k = t at *
      go_wp2
      go_loop [5, 6] (fun s i => ∃ j : Nat, j ≤ 64 ∧ i = .int .i64 j ∧ s = .int .i64 (if some1 (z.take j) then 1 else 0)) (fun _ i => 64 - (intOf i).toNat)
      case atStart => exact ⟨0, Nat.zero_le _, rfl, rfl⟩
      case round =>
        obtain ⟨j, hj, rfl, rfl⟩ := hrel
        by_cases hl2 : j < 64
        · have hcj := HC.out j _ (getD_map8 (by omega))
          have HT := Lib.hid (some1_take z j (by omega))
          generalize z.getD j 0 = x at *
          generalize some1 (z.take j) = b at *
          by_cases hx : x = 0
          · subst hx
            go_wp2
            go_round
            case rel => exact ⟨j + 1, by omega, by go_num, by rw [HT.out]; simp⟩
            case measure => simp [intOf]; omega
          · have hxf : (x == 0) = false := by simp [hx]
            have HX := Lib.hid hx
            clear hx
            go_wp2
            go_round
            case rel => exact ⟨j + 1, by omega, by go_num, by rw [HT.out]; simp [HX.out]⟩
            case measure => simp [intOf]; omega
        · obtain rfl : 64 = j := by omega
          rw [List.take_of_length_le (by omega)]
          cases hb : some1 z
          all_goals
            rw [hb] at HS
            clear hb
            go_wp2
            go_round
            case rel => exact ⟨k + 1, by omega, by go_num, by rw [HS.out]; simp⟩
            case measure => simp [intOf]; omega
    · obtain rfl : n = k := by omega
      go_wp2
      go_ret
      exact ⟨rfl, rfl⟩

theorem step3_bs (n r q : Nat) (bs : List Int) (x : Do3) : (step3 n r q bs x).bs = (step3 n 0 0 bs x).bs := by unfold step3; repeat' split
                                                                                                               all_goals rfl
theorem step3_out (n r q : Nat) (bs : List Int) (x : Do3) : (step3 n r q bs x).out = (step3 n 0 0 bs x).out := by unfold step3; repeat' split
                                                                                                                  all_goals rfl
theorem step3_err (n r q : Nat) (bs : List Int) (x : Do3) : (step3 n r q bs x).err = (step3 n 0 0 bs x).err := by unfold step3; repeat' split
                                                                                                                  all_goals rfl

end Go.Proofs.Ytbmenldopeplcaa
