/-
  Extents: the map of those that live; how many sectors bytes take.
-/
import Derived.Test.YtpbokmmobepolaaDisk3
import Derived.Test.YtpbokmmobepolaaBits5
import Derived.Test.YtpbokmmobepolaaPlanH
import Derived.Maps.OwnSet
import Derived.DeepKeys4
namespace Go.Proofs.Ytpbokmmobepolaa
open Go.RowKit Go.Maps
set_option linter.unusedVariables false
set_option maxHeartbeats 1000000

abbrev Ext := Int × Int × Int
def exV (x : Ext) : Value := .agg #[.int .i64 x.1, .int .i64 x.2.1, .int .i64 x.2.2]
def exOk (x : Ext) : Prop := (Lit.int .i64 x.1).wf = true ∧ (Lit.int .i64 x.2.1).wf = true ∧ (Lit.int .i64 x.2.2).wf = true
def exL (x : Ext) : Lit := .string (keyBytes [.int .i64 x.1, .int .i64 x.2.1, .int .i64 x.2.2])

theorem wf_i64 {a : Int} (h0 : -9223372036854775808 ≤ a) (h1 : a ≤ 9223372036854775807) : (Lit.int .i64 a).wf = true := by
  have h2 : IntKind.i64.min = -9223372036854775808 := by decide
  have h3 : IntKind.i64.max = 9223372036854775807 := by decide
  simp [Lit.wf]; omega

theorem ext_wide : (match (Try.prog).underlying 34 with | some (.array _ _) | some (.struct _) => true | _ => false) = true := by rw [Try.underlying34]
theorem ext_law : WideMaps.KeyLaw Try.prog 34 := deep_law_laid (show laidOutB Try.prog = true by kernel_rfl) (m := 2) (by omega) (of_decide_eq_true (by kernel_rfl)) (by kernel_rfl) ext_wide
theorem ext_keyed : Keyed Try.prog 34 := Keyed.of_law ext_law
theorem ext_formed (x : Ext) : (exV x).formed Try.prog 34 = true := by
  have hc : (Try.prog).cellsOf 34 = 3 := by kernel_rfl
  simp [Value.formed, exV, Try.underlying34, hc]

theorem ext_key {x : Ext} (hx : exOk x) : keyOf Try.prog 34 (exV x) = some (exL x) := by
  have h1 : (Try.prog).keyType 34 = true := by kernel_rfl
  have hc : (Try.prog).cellsOf 34 = 3 := by kernel_rfl
  have hi : (Try.prog).cellsOf 3 = 1 := by kernel_rfl
  obtain ⟨k, hk⟩ : ∃ k, (Try.prog).types.size = k + 1 := ⟨(Try.prog).types.size - 1, by
    have : 0 < (Try.prog).types.size := of_decide_eq_true (by kernel_rfl)
    omega⟩
  unfold keyOf
  rw [Try.underlying34]
  simp only [h1, ext_formed, Bool.and_self, if_true]
  have hcells : (exV x).cells.toList = [.int .i64 x.1, .int .i64 x.2.1, .int .i64 x.2.2] := by simp [exV, Value.cells]
  rw [hcells, hk]
  obtain ⟨w1, w2, w3⟩ := hx
  simp [Program.keyLits, Try.underlying34, Try.underlying3, hc, hi, w1, w2, w3, exL]

theorem exL_ne {x y : Ext} (hx : exOk x) (hy : exOk y) (h : x ≠ y) : exL x ≠ exL y := fun e => h (by
  have h1 := ext_key hx
  rw [e] at h1
  have h2 := ext_keyed.inj h1 (ext_key hy)
  unfold exV at h2
  simp at h2
  exact Prod.ext h2.1 (Prod.ext h2.2.1 h2.2.2))

/-- The map of the extents that live. -/
def LiveAt (w : World) (mp c : Nat) (f : Ext → Bool) : Prop :=
  ∃ D : DataW Unit, w.ownsMap Try.prog 34 (plainElem Try.prog 4) mp c D ∧ IsMap D ∧ ∀ x, exOk x → D.atKey (exL x) (.lit (.bool false)) = .lit (.bool (f x))

theorem LiveAt.made (w : World) : LiveAt (w.alloc (.map #[] 0)) w.heap.size 0 (fun _ => false) :=
  ⟨.map [], World.ownsMap_made w _ _ _, isMap_empty, fun x _ => rfl⟩
theorem LiveAt.lt {w : World} {mp c : Nat} {f : Ext → Bool} (h : LiveAt w mp c f) : mp < w.heap.size := by
  obtain ⟨D, h1, -⟩ := h; exact h1.lt
theorem LiveAt.keep {w w' : World} {mp c : Nat} {f : Ext → Bool} (h : LiveAt w mp c f) {l : List Nat} (u : Upd l w w') (hm : mp ∉ l) : LiveAt w' mp c f := by
  obtain ⟨D, ⟨es, clock, hb, F, hs, hD⟩, hi, hf⟩ := h
  exact ⟨D, ⟨es, clock, u.heap hb hm, F, hs, hD⟩, hi, hf⟩
theorem zero_bool (w : World) : (zeroValue 4).run Try.prog w = .ok (.bool false) w := by kernel_rfl
theorem elem_bool_inv {v : Value} {b : Bool} {ps : List MemPlace} (h : plainElem (H := Unit) Try.prog 4 v = some (.lit (.bool b), ps)) : v = .bool b := by
  unfold plainElem at h
  rw [Try.underlying4] at h
  cases v <;> simp at h
  rw [h.1]
theorem LiveAt.look {w : World} {mp c : Nat} {f : Ext → Bool} (h : LiveAt w mp c f) {x : Ext} (hx : exOk x) : (Instr.lookup 66 (.map (some mp)) (exV x) false).run Try.prog w = .ok (.bool (f x)) w := by
  obtain ⟨D, ho, hi, hf⟩ := h
  obtain ⟨v, ps, hr, hv⟩ := ho.lookup ext_keyed Try.underlying66 (zero_bool w) (plainElem_bool Try.underlying4 false) (ext_key hx)
  rw [hf x hx] at hv
  rw [hr, elem_bool_inv hv]

def liveIn (x : Ext) (f : Ext → Bool) : Ext → Bool := fun y => decide (y = x) || f y
def liveOut (x : Ext) (f : Ext → Bool) : Ext → Bool := fun y => !decide (y = x) && f y

theorem wpList_live {w : World} {ops : Array Oper} {rest : List Oper} {o : Oper} {a : Act} {Q : Exit → Act → World → Prop}
    (hg : o.guard = none) (m x v : Operand) (hop : o.op = Op.mapUpdate 66 m x v) (mp c : Nat) (f : Ext → Bool) (hm : a.eval m = .map (some mp)) (h : LiveAt w mp c f) (hc : c < 1000000) (y : Ext) (hy : exOk y) (hx : a.eval x = exV y) (hv : a.eval v = .bool true)
    (hK : ∀ w', LiveAt w' mp (c + 1) (liveIn y f) → Upd [mp] w w' → wpList Try.prog ops Q rest (a.put o.dst undef) w') : wpList Try.prog ops Q (o :: rest) a w := by
  obtain ⟨D, ho, hi, hf⟩ := h
  refine wpList_mapUpdate_own w hg m x v _ hop _ 4 ext_keyed Try.underlying66 _ mp c D hm ho (by unfold maxLen; omega) _ _ _ hx hv (ext_key hy) (.lit (.bool true)) [] (plainElem_bool Try.underlying4 true) ?_
  intro w' h1 gr
  refine hK w' ⟨_, h1, hi.put _ _, fun z hz => ?_⟩ ⟨gr.os, gr.tape, gr.output, gr.size, fun k hk hn => gr.block k hk (fun e => hn (by simp at e; simp [e]))⟩
  unfold liveIn
  by_cases hzy : z = y
  · subst hzy
    rw [atKey_put_same hi (ext_keyed.key (ext_key hz))]; simp
  · rw [atKey_put_other (exL_ne hz hy hzy), hf z hz]; simp [hzy]

theorem wpList_dead {w : World} {ops : Array Oper} {rest : List Oper} {o : Oper} {a : Act} {Q : Exit → Act → World → Prop}
    (hg : o.guard = none) (m x : Operand) (hop : o.op = Op.call { callee := Callee.builtin Builtin.delete, args := #[m, x], argTypes := #[66, 34] }) (mp c : Nat) (f : Ext → Bool) (hm : a.eval m = .map (some mp)) (h : LiveAt w mp c f) (y : Ext) (hy : exOk y) (hx : a.eval x = exV y)
    (hK : ∀ w', LiveAt w' mp c (liveOut y f) → Upd [mp] w w' → wpList Try.prog ops Q rest (a.put o.dst (.tuple #[])) w') : wpList Try.prog ops Q (o :: rest) a w := by
  obtain ⟨D, ho, hi, hf⟩ := h
  refine wpList_delete_own (w := w) hg m x _ _ hop 4 ext_keyed Try.underlying66 _ mp c D hm ho _ _ hx (ext_key hy) ?_
  intro w' h1 tr
  have gr := tr.grown
  refine hK w' ⟨_, h1, hi.del _, fun z hz => ?_⟩ ⟨gr.os, gr.tape, gr.output, gr.size, fun k hk hn => gr.block k hk (fun e => hn (by simp at e; simp [e]))⟩
  unfold liveOut
  by_cases hzy : z = y
  · subst hzy
    rw [atKey_del_same]; simp
  · rw [atKey_del_other (exL_ne hz hy hzy), hf z hz]; simp [hzy]

/-! ### How many sectors -/

def secs (n : Nat) : Nat := max ((n + 63) / 64) 1
theorem secs_pos (n : Nat) : 1 ≤ secs n := Nat.le_max_right _ _
theorem secs_room (n : Nat) : n ≤ 64 * secs n := by unfold secs; omega
theorem secs_le (n : Nat) : secs n ≤ n + 1 := by unfold secs; omega

theorem c_Sectors (n : Nat) (w : World) (hn : n ≤ 1000000000) : Calls Try.prog 8 #[.int .i64 n] w fun e w' => e = .returned (.int .i64 (secs n)) ∧ w = w' := by
  go_enter Try.func8, Try.ntmps8
  go_wp2
  · go_ret
    exact ⟨congrArg (fun z => Ending.returned (.int .i64 z)) (by unfold secs; omega), rfl⟩
  · go_ret
    exact ⟨congrArg (fun z => Ending.returned (.int .i64 z)) (by unfold secs; omega), rfl⟩

theorem c_SectorsNeg (k : Int) (w : World) (h0 : k < 0) (h1 : -1000000000 ≤ k) : Calls Try.prog 8 #[.int .i64 k] w fun e w' => e = .returned (.int .i64 1) ∧ w = w' := by
  have hz : (k + 64 - 1).tdiv 64 ≤ 0 := by
    by_cases h : 0 ≤ k + 64 - 1
    · rw [Int.tdiv_eq_ediv_of_nonneg h]; omega
    · have h2 : 0 ≤ (-(k + 64 - 1)).tdiv 64 := Int.tdiv_nonneg (by omega) (by omega)
      rw [Int.neg_tdiv] at h2
      omega
  go_enter Try.func8, Try.ntmps8
  go_wp2
  go_ret
  exact ⟨rfl, rfl⟩

end Go.Proofs.Ytpbokmmobepolaa
