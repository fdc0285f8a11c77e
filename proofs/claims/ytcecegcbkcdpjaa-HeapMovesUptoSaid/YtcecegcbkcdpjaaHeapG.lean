/-
  Contracts of package heap: order.
-/
import Derived.Test.YtcecegcbkcdpjaaHeapF
namespace Go.Proofs.Ytcecegcbkcdpjaa
open Go.RowKit
set_option linter.unusedVariables false
set_option maxHeartbeats 4000000

def usedN (bl : List Blk) : Nat → List Nat
  | 0 => []
  | k + 1 => if ((bl[k]?).map Blk.used).getD false then usedN bl k ++ [k] else usedN bl k
theorem usedTo_N (bl : List Blk) : ∀ k, usedTo bl k = (usedN bl k).map (fun k : Nat => (k : Int))
  | 0 => rfl
  | k + 1 => by
    unfold usedTo usedN
    rw [usedTo_N bl k]
    split
    · simp
    · rfl

theorem c_HOrder {w : World} {B h g : Nat} {vb : Value} {S : HpS} (H : HpAt w B h g vb S) (hl : InOrder S (usedN S.bl S.bl.length)) (hn : (usedN S.bl S.bl.length).length ≤ 19) :
    Calls Try.prog 43 #[.pointer (some ⟨h, 0, none⟩)] w fun e w' => ∃ v, e = .returned v ∧ w'.ownsRow w.heap.size 3 1 v (usedN S.bl S.bl.length).length (((usedN S.bl S.bl.length).map (fun k : Nat => (k : Int))).map (Value.int .i64)) ∧ Below w.heap.size w w' := by
  have hb := c_HBlocks H
  rw [usedTo_N, List.length_map] at hb
  have HBL := Lib.hid hb
  have HH := Lib.hid H
  have HL := Lib.hid hl
  clear H hl hb
  generalize usedN S.bl S.bl.length = L at *
  go_enter Try.func43, Try.ntmps43
  go_wp2_with fail
  refine HBL.out.mono ?_
  clear HBL
  rintro e w1 ⟨v, rfl, ho, hb⟩
  obtain ⟨a, c, rfl, hr, -, -⟩ := owns_reads ho
  have HO := Lib.hid ho
  have HB := Lib.hid hb
  have HS := Lib.hid (c_SortStable (HH.out.below hb) L HL.out hn a L.length c rfl hr)
  clear ho hb hr
  go_wp2_with fail
  refine HS.out.mono ?_
  clear HS
  rintro e w2 ⟨rfl, hb2⟩
  have HO2 := Lib.hid ((Upd.of_below (l := []) hb2).ownsAbove HO.out (by simp))
  have HB2 := Lib.hid (bNext HB.out hb2)
  clear hb2 HO HB
  go_wp2
  go_ret
  exact ⟨_, rfl, HO2.out, HB2.out⟩

end Go.Proofs.Ytcecegcbkcdpjaa
