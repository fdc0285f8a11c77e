/-
  What the document's answer of chapter 03 reckons: sectors as rows of bytes of their own.
-/
import Derived.Test.YtbmenldopeplcaaDiskApart
namespace Go.Proofs.Ytbmenldopeplcaa
open Go.RowKit Go.ChangeShapes Go.ChangeAt
set_option linter.unusedVariables false

set_option maxHeartbeats 1000000

theorem Sectors.push {w4 w5 : World} {base k n : Nat} {v s : Value} {vs : List Value} {bs : List Int} {ob : Obj} (h : Sectors w4 base vs bs)
    (hs : w4.ownsRow base 5 1 s 64 ((sector bs k).map (Value.int .u8))) (o : w4.ownsRow base 22 1 v n vs) (hk : vs.length = k) (gr : (w4.alloc ob).grownBy w5 v.ownBlock) : Sectors w5 base (vs ++ [s]) bs := by
  have key : ∀ {u : Value} {ys : List Value}, w4.ownsRow base 5 1 u 64 ys → w5.ownsRow base 5 1 u 64 ys := fun {u ys} hu => by
    refine (hu.alloc ob).kept gr ?_
    cases hk : u.ownBlock with
    | none => exact .inl rfl
    | some k => exact .inr (fun he => owns_ne hu o (by decide) hk he.symm)
  intro i u hu
  by_cases hi : i < vs.length
  · rw [List.getElem?_append_left hi] at hu
    exact key (h i u hu)
  · rw [List.getElem?_append_right (by omega)] at hu
    obtain ⟨rfl, rfl⟩ : i = k ∧ s = u := by
      have : i - vs.length = 0 := by
        rcases Nat.eq_zero_or_pos (i - vs.length) with h | h
        · exact h
        · rw [List.getElem?_eq_none (by simp; omega)] at hu; cases hu
      rw [this] at hu
      exact ⟨by omega, by simpa using hu⟩
    exact key hs

/-- A list of sectors, as the document has them. -/
structure RefAt (w : World) (base : Nat) (v : Value) (n : Nat) (vs : List Value) (bs : List Int) : Prop where
  row : w.ownsRow base 22 1 v n vs
  secs : Sectors w base vs bs
  len : bs.length = 64 * n
  byt : Byt bs

def RefNewPost (n : Nat) (w : World) (e : Ending) (w' : World) : Prop :=
  ∃ v vs, e = .returned v ∧ RefAt w' w.heap.size v n vs (List.replicate (64 * n) 0) ∧ Below w.heap.size w w'

theorem c_RefNew (N : Nat) (w : World) (hN : N ≤ 1000000) : Calls Try.prog 25 #[.int .i64 N] w (RefNewPost N w) := by
  go_enter Try.func25, Try.ntmps25
  go_wp2
  go_loopw [3, 4] (fun v i wr => ∃ (k : Nat) (vs : List Value), k ≤ N ∧ i = .int .i64 k ∧ Hid (wr.ownsRow w.heap.size 22 1 v k vs) ∧ Hid (Sectors wr w.heap.size vs (List.replicate (64 * N) 0)) ∧ Hid (Below w.heap.size w wr)) (fun _ i _ => N - (intOf i).toNat)
  case atStart => exact ⟨0, [], Nat.zero_le _, rfl, World.ownsRow_nil _ _ _ _, fun i v h => by simp at h, Below.refl _ _⟩
  case round =>
    obtain ⟨k, vs, hk, rfl, HO, HS, HB⟩ := hrel
    by_cases hlt : k < N
    · go_wp2_with (at_make; refine wpList_mk rfl _ _ 22 rfl 5 (.int .u8 0) 1 Try.underlying22 inf_u8 rfl .i64 .i64 _ _ 64 rfl rfl rfl rfl (by omega) (by unfold maxLen; omega) ?_)
      intro w2 row2 U2
      obtain ⟨u, hu⟩ : ∃ u, u = wr.heap.size := ⟨_, rfl⟩
      rw [← hu] at row2
      have hsz := HB.out.size
      have hu2 := row2.lt
      have HB2 := Lib.hid (HB.out.trans (U2.below hsz (by simp)))
      have HO2 := Lib.hid (U2.owns HO.out (by simp))
      have HS2 : Hid (Sectors w2 w.heap.size vs (List.replicate (64 * N) 0)) := HS.out.keep U2 (by simp)
      have HN2 : Hid (w2.ownsRow w.heap.size 5 1 (.slice (some ⟨u, 0, none⟩) 64 64) 64 ((sector (List.replicate (64 * N) 0) k).map (Value.int .u8))) := by
        rw [sector_zeros hlt, List.map_replicate]
        have := row2.owns (base := w.heap.size) (n := 64) (c := 64) (by omega) (by simp) (by omega) (by unfold maxLen; omega)
        rwa [List.take_of_length_le (by simp)] at this
      have hvk : vs.length = k := by have := HO.out.1; omega
      have h1c : ∀ x ∈ [(.slice (some ⟨u, 0, none⟩) 64 64 : Value)], x.oneCell' = true := by intro x hx; simp at hx; subst hx; rfl
      rw [← hu]
      clear row2 U2 HS HO HB hu
      go_wp2_with (at_builtin; refine wpList_app rfl _ _ 42 rfl w.heap.size 22 (.slice none 0 0) 1 24 Try.underlying42 inf_bytes rfl (by decide) _ _ _ rfl (HO2.out.alloc _) _ 1 1 [.slice (some ⟨u, 0, none⟩) 64 64] rfl rfl (Reads.madeAt rfl) h1c (by unfold maxLen; omega) (by omega) (by have := HB2.out.size; simp; omega) ?_)
      intro v' w5 own5 gr5
      have hlt' := HO2.out.lt
      have HS5 := Lib.hid (HS2.out.push HN2.out HO2.out hvk gr5)
      have HB5 := Lib.hid ((HB2.out.alloc HB2.out.size _).grown gr5 (by have := HB2.out.size; simp; omega) (fun k hk => (hlt' k hk).1))
      have HO5 := Lib.hid own5
      clear own5 gr5 hlt'
      go_wp2
      go_roundw
      case rel => exact ⟨k + 1, vs ++ [Value.slice (some ⟨u, 0, none⟩) 64 64], by omega, by go_num, HO5.out, HS5.out, HB5.out⟩
      case measure => simp [intOf]; omega
    · obtain rfl : N = k := by omega
      go_wp2
      go_ret
      exact ⟨_, vs, rfl, ⟨HO.out, HS.out, by simp, zeros_byt _⟩, HB.out⟩

end Go.Proofs.Ytbmenldopeplcaa
