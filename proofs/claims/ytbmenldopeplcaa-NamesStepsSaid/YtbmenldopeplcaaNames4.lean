/-
  Contracts of package names: Slots, Free.
-/
import Derived.Test.YtbmenldopeplcaaNames3
namespace Go.Proofs.Ytbmenldopeplcaa
open Go.RowKit
set_option linter.unusedVariables false
set_option maxHeartbeats 1000000

/-- The slots among the first k that are not free. -/
def slotsTo (l : List Int) (k : Nat) : List Int := ((List.range k).filter (fun i => l.getD i 0 != 0)).map (fun i => ((i + 1 : Nat) : Int))
def slotsL (l : List Int) : List Int := slotsTo l l.length

theorem slotsTo_succ (l : List Int) (k : Nat) : slotsTo l (k + 1) = slotsTo l k ++ (if l.getD k 0 = 0 then [] else [((k + 1 : Nat) : Int)]) := by
  unfold slotsTo
  rw [List.range_succ, List.filter_append, List.map_append]
  by_cases h : l.getD k 0 = 0
  · rw [if_pos h, List.filter_cons_of_neg (by simpa using h)]; rfl
  · rw [if_neg h, List.filter_cons_of_pos (by simpa using h)]; rfl

theorem slotsTo_len (l : List Int) (k : Nat) : (slotsTo l k).length ≤ k := by
  unfold slotsTo
  rw [List.length_map]
  have := List.length_filter_le (fun i => l.getD i 0 != 0) (List.range k)
  simpa using this

/-- What is made, and is the call's own: a row of integers. -/
def MadeInts (w : World) (l : List Int) (e : Ending) (w' : World) : Prop :=
  ∃ v, e = .returned v ∧ w'.ownsRow w.heap.size 3 1 v l.length (l.map (Value.int .i64)) ∧ Below w.heap.size w w'

theorem c_Slots (t gi gh N : Nat) (l : List Int) (w : World) (h : Tab w t gi gh N l) :
    Calls Try.prog 35 #[.pointer (some ⟨t, 0, none⟩)] w (MadeInts w (slotsL l)) := by
  obtain ⟨hash, ht⟩ := h
  have hsm := ht.small
  have hl : l.length = N := by have := ht.good.li; simp at this; exact this
  have HT := Lib.hid ht
  have HL := Lib.hid hl
  clear ht hl
  go_enter Try.func35, Try.ntmps35
  go_wp2
  go_loopw [3, 4] (fun v i wr => ∃ k : Nat, k ≤ N ∧ i = .int .i64 ((k : Int) + 1) ∧ Hid (wr.ownsRow w.heap.size 3 1 v (slotsTo l k).length ((slotsTo l k).map (Value.int .i64))) ∧ Hid (Below w.heap.size w wr)) (fun _ i _ => N + 1 - (intOf i).toNat)
  case atStart => exact ⟨0, Nat.zero_le _, rfl, World.ownsRow_nil _ _ _ _, Below.refl _ _⟩
  case round =>
    obtain ⟨k, hk, rfl, HO, HB⟩ := hrel
    have HTr := Lib.hid (HT.out.keep (.of_below (l := []) HB.out) (by simp) (by simp) (by simp))
    by_cases hlt : k < N
    · have k0 := HTr.out.head.cell (i := 0) rfl
      have kc := HTr.out.ri.cell (getD_map8 (k := .i64) (show k + 1 < (0 :: l).length from by simp [HL.out]; exact hlt))
      rw [List.getD_cons_succ] at kc
      have hs := Lib.hid (slotsTo_succ l k)
      have hsl := slotsTo_len l k
      have hk3 : (0 : Int) ≤ (k : Int) + 1 := by omega
      by_cases hz : l.getD k 0 = 0
      · rw [hz] at kc
        rw [if_pos hz, List.append_nil] at hs
        clear hz
        go_wp2_with (go_at_call 41; refine (c_Size t gi gh N l _ ⟨_, HTr.out⟩).mono ?_; rintro e w' ⟨rfl, rfl⟩)
        go_roundw
        case rel => exact ⟨k + 1, by omega, by go_num, by rw [hs.out]; exact HO.out, HB.out⟩
        case measure => simp [intOf]; omega
      · rw [if_neg hz] at hs
        generalize l.getD k 0 = x at *
        have hsz := HB.out.size
        have hx : (x == 0) = false := by simpa using hz
        have hx2 : (x != 0) = true := by simpa using hz
        go_wp2_with (first
          | (go_at_call 41; refine (c_Size t gi gh N l _ ⟨_, HTr.out⟩).mono ?_; rintro e w' ⟨rfl, rfl⟩)
          | (at_builtin; refine wpList_app rfl _ _ 45 rfl w.heap.size 3 (.int .i64 0) 1 8 Try.underlying45 inf_int rfl (by decide) _ _ _ rfl (HO.out.alloc _) _ 1 1 [.int .i64 ((k : Int) + 1)] rfl rfl (Reads.madeAt rfl) (by simp [Value.oneCell']) (by unfold maxLen; omega) (by omega) (by simp; omega) ?_))
        intro v' w2 own2 gr2
        have hlt' := HO.out.lt
        have HB2 := Lib.hid ((HB.out.alloc hsz _).grown gr2 (by simp; omega) (fun k hk => (hlt' k hk).1))
        have HO2 : Hid (w2.ownsRow w.heap.size 3 1 v' (slotsTo l (k + 1)).length ((slotsTo l (k + 1)).map (Value.int .i64))) := by
          rw [hs.out, List.map_append, List.length_append]; exact own2
        clear own2 gr2 hlt'
        go_wp2
        go_roundw
        case rel => exact ⟨k + 1, by omega, by go_num, HO2.out, HB2.out⟩
        case measure => simp [intOf]; omega
    · obtain rfl : N = k := by omega
      go_wp2_with (go_at_call 41; refine (c_Size t gi gh N l _ ⟨_, HTr.out⟩).mono ?_; rintro e w' ⟨rfl, rfl⟩)
      go_ret
      refine ⟨_, rfl, ?_, HB.out⟩
      unfold slotsL
      rw [HL.out]
      exact HO.out

end Go.Proofs.Ytbmenldopeplcaa
