/-
  Contracts of package heap: Blocks, byPlace.
-/
import Derived.Test.YtcecegcbkcdpjaaHeapB
namespace Go.Proofs.Ytcecegcbkcdpjaa
open Go.RowKit
set_option linter.unusedVariables false
set_option maxHeartbeats 4000000

theorem HpAt.below {w w' : World} {B h g : Nat} {vb : Value} {S : HpS} (H : HpAt w B h g vb S) (hb : Below w.heap.size w w') : HpAt w' B h g vb S :=
  ⟨H.head.keep (l := []) (.of_below hb) (by simp), H.data.keep (l := []) (.of_below hb) (by simp), (Upd.of_below (l := []) hb).ownsAbove H.own (by simp), H.len, H.small, H.few, H.lo, H.word⟩

/-- The numbers of the blocks in use, of the first k. -/
def usedTo (bl : List Blk) : Nat → List Int
  | 0 => []
  | k + 1 => if ((bl[k]?).map Blk.used).getD false then usedTo bl k ++ [(k : Int)] else usedTo bl k
theorem usedTo_len (bl : List Blk) : ∀ k, (usedTo bl k).length ≤ k
  | 0 => Nat.le_refl _
  | k + 1 => by
    have := usedTo_len bl k
    unfold usedTo
    split
    · simp; omega
    · omega

theorem c_HBlocks {w : World} {B h g : Nat} {vb : Value} {S : HpS} (H : HpAt w B h g vb S) :
    Calls Try.prog 32 #[.pointer (some ⟨h, 0, none⟩)] w fun e w' => ∃ v, e = .returned v ∧ w'.ownsRow w.heap.size 3 1 v (usedTo S.bl S.bl.length).length ((usedTo S.bl S.bl.length).map (Value.int .i64)) ∧ Below w.heap.size w w' := by
  have k1 := H.head.cell (i := 1) rfl
  have hfew := H.few
  obtain ⟨a, c, hv, -, -, -⟩ := owns_reads H.own
  have HH := Lib.hid H
  subst hv
  clear H
  go_enter Try.func32, Try.ntmps32
  go_wp2
  go_loopw [3, 12] (fun v i wr => ∃ k : Nat, k ≤ S.bl.length ∧ i = .int .i64 k ∧ Hid (wr.ownsRow w.heap.size 3 1 v (usedTo S.bl k).length ((usedTo S.bl k).map (Value.int .i64))) ∧ Hid (Below w.heap.size w wr)) (fun _ i _ => S.bl.length - (intOf i).toNat)
  case atStart => exact ⟨0, Nat.zero_le _, rfl, World.ownsRow_nil _ _ _ _, Below.refl _ _⟩
  case round =>
    obtain ⟨k, hk, rfl, HO, HB⟩ := hrel
    by_cases hlt : k < S.bl.length
    · have HC := Lib.hid (c_has (HH.out.below HB.out) (k : Int))
      rw [hasB_nat] at HC
      have HST : Hid (usedTo S.bl (k + 1) = if ((S.bl[k]?).map Blk.used).getD false then usedTo S.bl k ++ [(k : Int)] else usedTo S.bl k) := rfl
      obtain ⟨la, lc, rfl, -, -, -⟩ := owns_reads HO.out
      have hul := usedTo_len S.bl k
      cases hb : ((S.bl[k]?).map Blk.used).getD false with
      | false =>
        rw [hb] at HC HST
        simp only [Bool.false_eq_true, if_false] at HST
        clear hb
        have HO2 : Hid (wr.ownsRow w.heap.size 3 1 (.slice la (usedTo S.bl k).length lc) (usedTo S.bl (k + 1)).length ((usedTo S.bl (k + 1)).map (Value.int .i64))) := by unfold Hid; rw [HST.out]; exact HO.out
        clear HO HST
        generalize (usedTo S.bl k).length = L at *
        go_wp2_with fail
        refine HC.out.mono ?_
        rintro e w' ⟨rfl, rfl⟩
        go_wp2
        go_roundw
        case rel => exact ⟨k + 1, by omega, by go_num, HO2.out, HB.out⟩
        case measure => simp [intOf]; omega
      | true =>
        rw [hb] at HC HST
        simp only [if_true] at HST
        clear hb
        have hbs := HB.out.size
        have hmx : (usedTo S.bl k).length + 1 ≤ maxLen := by unfold maxLen; omega
        have hby : ((usedTo S.bl k).length + 1) * 8 ≤ 140737488355328 := by omega
        have hone : ∀ u ∈ [(.int .i64 (k : Int) : Value)], u.oneCell' = true := by intro u hu; simp at hu; rw [hu]; rfl
        generalize usedTo S.bl k = M at *
        go_wp2_with fail
        refine HC.out.mono ?_
        rintro e w' ⟨rfl, rfl⟩
        go_wp2_with (at_builtin; refine wpList_app rfl _ _ 39 rfl w.heap.size 3 (.int .i64 0) 1 8 Try.underlying39 inf_int rfl (by decide) _ M.length _ rfl (HO.out.alloc _) _ 1 1 [.int .i64 (k : Int)] rfl rfl (Reads.madeAt rfl) hone hmx hby (Nat.le_trans hbs (by simp)) ?_)
        intro v' w2 own2 gr2
        have hlt' := HO.out.lt
        have HB2 := Lib.hid ((HB.out.alloc (by simpa using hbs) _).grown gr2 (by simp; omega) (fun k hk => (hlt' k hk).1))
        have HO2 : Hid (w2.ownsRow w.heap.size 3 1 v' (usedTo S.bl (k + 1)).length ((usedTo S.bl (k + 1)).map (Value.int .i64))) := by
          unfold Hid
          rw [HST.out, List.map_append, List.length_append]
          exact own2
        clear own2 gr2 hlt' hmx hby hone hbs
        go_wp2
        go_roundw
        case rel => exact ⟨k + 1, by omega, by go_num, HO2.out, HB2.out⟩
        case measure => simp [intOf]; omega
    · obtain rfl : k = S.bl.length := by omega
      obtain ⟨la, lc, rfl, -, -, -⟩ := owns_reads HO.out
      go_wp2
      go_ret
      exact ⟨_, rfl, HO.out, HB.out⟩

end Go.Proofs.Ytcecegcbkcdpjaa
