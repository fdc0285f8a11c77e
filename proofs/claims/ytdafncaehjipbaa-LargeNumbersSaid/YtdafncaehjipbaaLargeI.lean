/-
  slices.Backward at bytes: what it hands to a loop's body, round by round. (Turned from the kit's worked text of slices.All at ints.)
-/
import Derived.Test.YtdafncaehjipbaaLargeB
import Derived.RangeFuncNested
import Derived.RangeFuncBound
import Derived.RangeFuncCalls
import Derived.RangeFuncLeaves
import Derived.RangeFuncBox
import Derived.Shelf.Abstract
import Derived.Shelf.RegionOpen
import Derived.WalkKit
import Derived.OwnWalkIn
import Derived.TacticsInMore
import Derived.LoopNIn
import Derived.LoopIn
namespace Go.Proofs.Ytdafncaehjipbaa
open Go.RowKit Go.Shelf
set_option linter.unusedVariables false

attribute [local go_sem] Oper.semAt_some

/-- What has come when k rounds are over. -/
def upto {α : Type} (f : Nat → α) (k : Nat) : List α := (List.range k).map f
theorem upto_succ {α : Type} (f : Nat → α) (k : Nat) : upto f (k + 1) = upto f k ++ [f k] := by simp [upto, List.range_succ]
theorem upto_length {α : Type} (f : Nat → α) (k : Nat) : (upto f k).length = k := by simp [upto]

/-- The j-th that comes of a row, from its end. -/
def backAt (zs : List Int) (j : Nat) : Nat × Int := (zs.length - 1 - j, zs[zs.length - 1 - j]?.getD 0)

theorem byte_at {l : List Int} (h : Byt l) (j : Nat) : 0 ≤ l[j]?.getD 0 ∧ l[j]?.getD 0 ≤ 255 := by
  cases hx : l[j]? with
  | none => exact ⟨Int.le_refl 0, by decide⟩
  | some x => exact h x (List.mem_of_getElem? hx)

/-- What a round must leave: all below n₀, and the box at Bs. -/
def KpB (n₀ Bs : Nat) (W W' : World) : Prop := Below n₀ W W' ∧ W.heap.size ≤ W'.heap.size ∧ (Bs < W.heap.size → W'.heap[Bs]? = W.heap[Bs]?)
theorem KpB.trans {n₀ Bs : Nat} {A B C : World} (h : KpB n₀ Bs A B) (k : KpB n₀ Bs B C) : KpB n₀ Bs A C :=
  ⟨h.1.trans k.1, Nat.le_trans h.2.1 k.2.1, fun hl => (k.2.2 (Nat.lt_of_lt_of_le hl h.2.1)).trans (h.2.2 hl)⟩
theorem KpB.refl (n₀ Bs : Nat) (A : World) : KpB n₀ Bs A A := ⟨Below.refl _ _, Nat.le_refl _, fun _ => rfl⟩
theorem KpB.cell {n₀ Bs : Nat} {A B : World} (h : KpB n₀ Bs A B) {v : Value} (hc : A.cell? ⟨Bs, 0, none⟩ = some v) : B.cell? ⟨Bs, 0, none⟩ = some v :=
  (World.cell?_of_block (w := A) (a := ⟨Bs, 0, none⟩) (h.2.2 (World.block_lt_of_cell? A _ hc))).trans hc
theorem kpB_b {n₀ Bs : Nat} {w : World} (hn : n₀ ≤ w.heap.size) (hB : Bs < w.heap.size) (W : World) (l : Nat) (o o' : Obj) (hl : w.heap.size ≤ l) (h : W.heap[l]? = some o) (h1 : o.isCells = false) (h2 : o.isWalk = false) : KpB n₀ Bs W (W.putObj l o') := by
  have hg := grownBy_putObj' W l o'
  exact ⟨belowK_b hn W l o o' hl h h1 h2, hg.size, fun hb => hg.block Bs hb (fun e => by cases e; omega)⟩

set_option maxRecDepth 100000 in
set_option maxHeartbeats 2000000 in
/-- slices.Backward's closure, for every loop body that keeps what lay below n₀, and the box. -/
theorem back1_in (F : Fence) (n : Nat) (h8 : F.fn 53) (hro : F.round = none) (hn : 1 ≤ n) (l Bs n₀ b off len cap : Nat) (zs : List Int) (hlen : Hid (len = zs.length)) (hreach : len ≤ 1000000000) (hb : b < n₀) (J Jx : List (Nat × Int) → World → Prop)
    (hY : ∀ pre x W, J pre W → pre.length < len → YieldAt F (n - 1) Try.prog l #[.int .i64 ((x.1 % len : Nat) : Int), .int .u8 (x.2 % 256)] W fun e W' =>
      (e = .returned (.bool true) ∧ J (pre ++ [x]) W' ∧ KpB n₀ Bs W W') ∨ (e = .returned (.bool false) ∧ Jx (pre ++ [x]) W'))
    (W : World) (hBs : W.cell? ⟨Bs, 0, none⟩ = some (.slice (some ⟨b, off, none⟩) len cap)) (hc : ∀ j, j < len → W.cell? ⟨b, off + j, none⟩ = some (.int .u8 (zs[j]?.getD 0))) (hbz : Hid (Byt zs)) (h0 : J [] W) :
    CallsIn F n Try.prog 53 #[.func (.yield l) #[] #[], .pointer (some ⟨Bs, 0, none⟩)] W fun e W' => (∃ v, e = .returned v) ∧
      ((∃ ys, ys = upto (backAt zs) len ∧ J ys W') ∨ (∃ pre, (∃ k, k ≤ len ∧ pre = upto (backAt zs) k) ∧ Jx pre W')) := by
  refine callsIn_of_wp Try.func53 rfl h8 ?_ hro
  simp only [Try.ntmps53, List.size_toArray, List.length_cons, List.length_nil, Nat.reduceAdd, Nat.reduceSub, Array.replicate_succ, Array.replicate_zero, List.push_toArray, List.append_toArray, List.nil_append, List.cons_append]
  gi_wp2
  gi_loopw [3] (fun i wr => ∃ k : Nat, k ≤ len ∧ i = .int .i64 ((len : Int) - 1 - k) ∧ J (upto (backAt zs) k) wr ∧ KpB n₀ Bs W wr)
    (fun i _ => (intOf i + 1).toNat)
  case atStart => exact ⟨0, Nat.zero_le _, by simp, h0, KpB.refl _ _ _⟩
  case round =>
    obtain ⟨k, hk, rfl, hJs, hnx⟩ := hrel
    have hbs := hnx.cell hBs
    by_cases hlt : k < len
    · obtain ⟨j, hj⟩ : ∃ j, len = k + 1 + j := ⟨len - 1 - k, by omega⟩
      have hij : (len : Int) - 1 - k = (j : Int) := by omega
      have HBA := Lib.hid (show backAt zs k = (j, zs[j]?.getD 0) from by
        unfold backAt
        rw [show zs.length - 1 - k = j from by have := hlen.out; omega])
      have hcx := (hnx.1.cell (p := ⟨b, off + j, none⟩) hb).trans (hc j (by omega))
      obtain ⟨fn, tmps, assign, body, hy, hR⟩ := hY _ (j, zs[j]?.getD 0) wr hJs (by rw [upto_length]; exact hlt)
      dsimp only at hy
      rw [Nat.mod_eq_of_lt (show j < len from by omega), Int.emod_eq_of_lt (byte_at hbz.out j).1 (by have := (byte_at hbz.out j).2; omega)] at hy
      have hjl : j < len := by omega
      have HJ := Lib.hid hj
      have HLT := Lib.hid hlt
      rw [hij]
      clear hj hij hlt
      gi_wp2
      refine hR.mono ?_
      rintro e W3 (⟨rfl, hJ3, hk3⟩ | ⟨rfl, hJx3⟩)
      · gi_wp2
        go_roundw
        case rel =>
          refine ⟨k + 1, HLT.out, ?_, by rw [upto_succ, HBA.out]; exact hJ3, hnx.trans hk3⟩
          have := HJ.out
          go_num
        case measure => simp [intOf] <;> omega
      · gi_wp2
        refine bodyPost_ret (results_none rfl _ _ _) rfl ?_
        exact ⟨⟨_, rfl⟩, .inr ⟨_, ⟨k + 1, HLT.out, by rw [upto_succ, HBA.out]⟩, hJx3⟩⟩
    · obtain rfl : k = len := by omega
      have hm1 : (k : Int) - 1 - k = -1 := by omega
      rw [hm1]
      clear hm1
      gi_wp2
      go_end0
      exact ⟨⟨_, rfl⟩, .inl ⟨_, rfl, hJs⟩⟩

set_option maxRecDepth 100000 in
set_option maxHeartbeats 1000000 in
/-- .. at the nil slice: no round. -/
theorem back1_nil_in (F : Fence) (n : Nat) (h8 : F.fn 53) (hro : F.round = none) (l Bs cap : Nat) (a : Option Addr) (J : List (Nat × Int) → World → Prop) (W : World) (hBs : W.cell? ⟨Bs, 0, none⟩ = some (.slice a 0 cap)) (h0 : J [] W) :
    CallsIn F n Try.prog 53 #[.func (.yield l) #[] #[], .pointer (some ⟨Bs, 0, none⟩)] W fun e W' => (∃ v, e = .returned v) ∧ J [] W' := by
  refine callsIn_of_wp Try.func53 rfl h8 ?_ hro
  simp only [Try.ntmps53, List.size_toArray, List.length_cons, List.length_nil, Nat.reduceAdd, Nat.reduceSub, Array.replicate_succ, Array.replicate_zero, List.push_toArray, List.append_toArray, List.nil_append, List.cons_append]
  gi_wp2
  gi_loopw [3] (fun i wr => i = .int .i64 (-1) ∧ J [] wr) (fun _ _ => 0)
  case atStart => exact ⟨rfl, h0⟩
  case round =>
    obtain ⟨rfl, hJs⟩ := hrel
    gi_wp2
    go_end0
    exact ⟨⟨_, rfl⟩, hJs⟩

set_option maxHeartbeats 1000000 in
/-- slices.Backward(s): the slice is boxed; the function captures the box. -/
theorem back_in (F : Fence) (n : Nat) (h6 : F.fn 40) (hro : F.round = none) (a : Option Addr) (len cap : Nat) (w : World) :
    CallsIn F n Try.prog 40 #[.slice a len cap] w fun e w' => e = .returned (.func (.func 53) #[] #[.pointer (some ⟨w.heap.size, 0, none⟩)]) ∧ w' = w.alloc (.cells #[.slice a len cap] 22) := by
  refine callsIn_of_wp Try.func40 rfl h6 ?_ hro
  simp only [Try.ntmps40, List.size_toArray, List.length_cons, List.length_nil, Nat.reduceAdd, Nat.reduceSub, Array.replicate_succ, Array.replicate_zero, List.push_toArray, List.append_toArray, List.nil_append, List.cons_append]
  gi_wp2
  go_ret
  exact ⟨rfl, rfl⟩

/-- What slices.Backward(s) hands back stops where it should: (n - 1, zs[n - 1]), .., (0, zs[0]): all, or the first k of them. -/
theorem back_stops (F : Fence) (n : Nat) (h8 : F.fn 53) (hro : F.round = none) (hn : 1 ≤ n) (Bs n₀ len cap : Nat) (a : Option Addr) (zs : List Int) (hlen : Hid (len = zs.length)) (hreach : len ≤ 1000000000) (w : World) (hBs : Bs < w.heap.size) (hn₀ : n₀ ≤ w.heap.size)
    (hc : w.cell? ⟨Bs, 0, none⟩ = some (.slice a len cap)) (we : World) (hE : Reads we a cap (zs.map (Value.int .u8))) (hwe : we.heap.size ≤ n₀) (hR : Reads w a cap (zs.map (Value.int .u8))) (hbz : Hid (Byt zs)) :
    SeqStopsK F n Try.prog 53 #[.pointer (some ⟨Bs, 0, none⟩)] (fun x : Nat × Int => #[Value.int .i64 ((x.1 % len : Nat) : Int), Value.int .u8 (x.2 % 256)]) (KpB n₀ Bs) (fun ys => ys = upto (backAt zs) len)
      (fun pre => ∃ k, k ≤ len ∧ pre = upto (backAt zs) k) len w := fun l J Jx W hW _ _ hY h0 => by
  have hc' := (hW.cell (p := ⟨Bs, 0, none⟩) hBs).trans hc
  by_cases hz : 0 < zs.length
  · obtain ⟨b, off, rfl, hbl, hcs⟩ := hR.at (by simpa using hz)
    have hb : b < n₀ := by
      obtain ⟨b2, off2, he, hb2, -⟩ := hE.at (by simpa using hz)
      cases he
      omega
    refine back1_in F n h8 hro hn l Bs n₀ b off len cap zs hlen hreach hb J Jx hY W hc' (fun j hj => ?_) hbz h0
    have hjl : j < zs.length := by have := hlen.out; omega
    refine (hW.cell (p := ⟨b, off + j, none⟩) hbl).trans ?_
    rw [hcs j _ (getD_map8 hjl), List.getD_eq_getElem?_getD]
  · obtain rfl : zs = [] := List.eq_nil_of_length_eq_zero (by omega)
    obtain rfl : len = 0 := hlen.out
    exact (back1_nil_in F n h8 hro l Bs cap a J W hc' h0).mono fun e W' ⟨he, hj⟩ => ⟨he, .inl ⟨_, rfl, hj⟩⟩

end Go.Proofs.Ytdafncaehjipbaa
