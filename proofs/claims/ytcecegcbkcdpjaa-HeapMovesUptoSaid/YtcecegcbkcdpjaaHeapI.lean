/-
  Contracts of package heap: gaps.
-/
import Derived.Test.YtcecegcbkcdpjaaHeapH
namespace Go.Proofs.Ytcecegcbkcdpjaa
open Go.RowKit
set_option linter.unusedVariables false
set_option maxHeartbeats 4000000

theorem blk_of {S : HpS} {k : Nat} (hk : k < S.bl.length) : S.bl[k].at_ = atOf S k ∧ S.bl[k].n = nOf S k := by
  unfold atOf nOf; rw [List.getElem?_eq_getElem hk]; exact ⟨rfl, rfl⟩

/-- What order tells: a list with Q. -/
def Ords (Q : List Nat → Prop) (w : World) (h : Nat) : Prop :=
  Calls Try.prog 43 #[.pointer (some ⟨h, 0, none⟩)] w fun e w' => ∃ v L, Q L ∧ e = .returned v ∧ w'.ownsRow w.heap.size 3 1 v L.length ((L.map (fun k : Nat => (k : Int))).map (Value.int .i64)) ∧ Below w.heap.size w w'
structure OrdOk (Q : List Nat → Prop) (S : HpS) : Prop where
  few : ∀ L, Q L → L.length ≤ 1000
  lt : ∀ L, Q L → ∀ k ∈ L, k < S.bl.length
  fit : ∀ L, Q L → ∀ k ∈ L, atOf S k + nOf S k ≤ S.N

theorem owns_lower {w : World} {base base' : Nat} {e : TypeId} {size : Nat} {v : Value} {n : Nat} {xs : List Value} (h : w.ownsRow base e size v n xs) (hb : base' ≤ base) : w.ownsRow base' e size v n xs := by
  refine ⟨h.1, ?_⟩
  rcases h.2 with h2 | ⟨g, cap, cur, rfl, hbg, rest⟩
  · exact .inl h2
  · exact .inr ⟨g, cap, cur, rfl, by omega, rest⟩

theorem c_HGaps {w : World} {B h g : Nat} {vb : Value} {S : HpS} (H : HpAt w B h g vb S) {Q : List Nat → Prop} (hQ : OrdOk Q S) (hO : Ords Q w h) :
    Calls Try.prog 39 #[.pointer (some ⟨h, 0, none⟩)] w fun e w' => ∃ v L, Q L ∧ e = .returned v ∧ w'.ownsRow w.heap.size 43 2 v (gapsOf S L).length (flat2 (gapsOf S L)) ∧ Below w.heap.size w w' := by
  have HO := Lib.hid hO
  have HH := Lib.hid H
  have HF := Lib.hid hQ
  have hsm := H.small
  clear H hO hQ
  go_enter Try.func39, Try.ntmps39
  go_wp2_with fail
  refine HO.out.mono ?_
  clear HO
  rintro e w1 ⟨v, L, hq, rfl, ho, hb⟩
  obtain ⟨a, c, rfl, hr, -, -⟩ := owns_reads ho
  have HR := Lib.hid hr
  have HB1 := Lib.hid hb
  have HLT := Lib.hid (HF.out.lt L hq)
  have HFT := Lib.hid (HF.out.fit L hq)
  have hfw := HF.out.few L hq
  have HQL := Lib.hid hq
  clear ho hr hb hq HF
  go_wp2
  go_loopw [3, 4, 11] (fun v u i wr => ∃ j : Nat, j ≤ L.length ∧ i = .int .i64 j ∧ u = .int .i64 ((gapsTo S (L.take j)).2 : Nat) ∧ Hid (wr.ownsRow w1.heap.size 43 2 v (gapsTo S (L.take j)).1.length (flat2 (gapsTo S (L.take j)).1)) ∧ Hid (Below w1.heap.size w1 wr)) (fun _ _ i _ => L.length - (intOf i).toNat)
  case atStart => exact ⟨0, Nat.zero_le _, rfl, rfl, World.ownsRow_nil _ _ _ _, Below.refl _ _⟩
  case round =>
    obtain ⟨j, hj, rfl, rfl, HO, HB⟩ := hrel
    by_cases hlt : j < L.length
    · have hk := HLT.out _ (List.getElem_mem hlt)
      have hft := HFT.out _ (List.getElem_mem hlt)
      have hst := gapsTo_step S hlt
      have hlen := gapsTo_len S L j hj
      have hend := gapsTo_end HFT.out j hj
      have hbw := bNext HB1.out HB.out
      have k1 := (HH.out.below hbw).head.cell (i := 1) rfl
      obtain ⟨b, cb, hv, c0, c1, c2⟩ := blk_cells (HH.out.below hbw).own hk
      rw [(blk_of hk).1] at c0
      rw [(blk_of hk).2] at c1
      rw [hv] at k1
      obtain ⟨rb, ro, rfl, hrb, hc⟩ := (HR.out.below HB.out).at (by simp; omega)
      have kc := hc j (.int .i64 (L[j] : Nat)) (by simp [hlt])
      have HST := Lib.hid hst
      generalize hkk : L[j] = k at *
      clear hst hc hrb hkk hv hbw
      generalize S.bl[k].used = uu at *
      generalize gapsTo S (L.take j) = G at *
      obtain ⟨gs, en⟩ := G
      simp only at hlen hend
      unfold gapS at HST
      simp only at HST
      generalize atOf S k = p at *
      generalize nOf S k = q at *
      have hbs := HB.out.size
      clear HH HR HLT HFT HQL HB1
      by_cases hq : 0 < q
      · rw [if_pos hq] at HST
        have hq2 : (0 : Int) < (q : Int) := by omega
        by_cases hp : en < p
        · rw [if_pos hp] at HST
          have hp2 : (en : Int) < (p : Int) := by omega
          have hmx : gs.length + 1 ≤ maxLen := by unfold maxLen; omega
          have hby : (gs.length + 1) * 16 ≤ 140737488355328 := by omega
          have hone : ∀ u ∈ [(.int .i64 (en : Int) : Value), .int .i64 ((p : Int) - (en : Int))], u.oneCell' = true := by intro u hu; simp at hu; rcases hu with rfl | rfl <;> rfl
          have hfl : Hid (flat2 [(en, p - en)] = [.int .i64 (en : Int), .int .i64 ((p : Int) - (en : Int))]) := by
            unfold Hid
            show [Value.int .i64 (en : Nat), .int .i64 ((p - en : Nat) : Int)] = _
            rw [show ((p - en : Nat) : Int) = (p : Int) - (en : Int) by omega]
          have HO1 := Lib.hid hone
          have HMX := Lib.hid hmx
          have HBY := Lib.hid hby
          clear hone hmx hby
          simp only at HO
          go_wp2_with (at_builtin; refine wpList_app rfl _ _ 30 rfl w1.heap.size 43 (.agg #[.int .i64 0, .int .i64 0]) 2 16 Try.underlying30 inf_two rfl (by decide) _ gs.length _ rfl ((HO.out.alloc _).alloc _) _ 1 1 [.int .i64 (en : Int), .int .i64 ((p : Int) - (en : Int))] rfl rfl (Reads.madeAt (by simp)) HO1.out HMX.out HBY.out (Nat.le_trans hbs (by simp; omega)) ?_)
          intro v' w2 own2 gr2
          have hlt2 := HO.out.lt
          have HB2 := Lib.hid (((HB.out.alloc hbs _).alloc (by simp; omega) _).grown gr2 (by simp; omega) (fun k hk => (hlt2 k hk).1))
          have HO2 : Hid (w2.ownsRow w1.heap.size 43 2 v' (gapsTo S (L.take (j + 1))).1.length (flat2 (gapsTo S (L.take (j + 1))).1)) := by
            unfold Hid
            rw [HST.out]
            simp only
            rw [List.length_append, flat2_app, hfl.out]
            exact own2
          have hblk := gr2.block wr.heap.size (by simp; omega) (fun h => by have := (hlt2 _ h.symm).2; omega)
          have hrow := ((Row.made wr [.int .i64 (p : Int), .int .i64 (q : Int), .bool uu] 78).alloc (.cells #[.int .i64 (en : Int), .int .i64 ((p : Int) - (en : Int))] 43))
          have hrow2 : Row w2 wr.heap.size 78 [.int .i64 (p : Int), .int .i64 (q : Int), .bool uu] := hblk.trans hrow
          have c0' := hrow2.cell (i := 0) rfl
          have c1' := hrow2.cell (i := 1) rfl
          clear hblk hrow hrow2
          clear own2 gr2 hlt2 HO
          go_wp2
          go_roundw
          case rel => exact ⟨j + 1, by omega, by go_num, by rw [HST.out]; exact congrArg (Value.int .i64) (by omega), HO2.out, HB2.out⟩
          case measure => simp [intOf]; omega
        · rw [if_neg hp] at HST
          have hp2 : ¬ (en : Int) < (p : Int) := by omega
          have HO2 : Hid (wr.ownsRow w1.heap.size 43 2 u3 (gapsTo S (L.take (j + 1))).1.length (flat2 (gapsTo S (L.take (j + 1))).1)) := by
            unfold Hid
            rw [HST.out]
            exact HO.out
          go_wp2
          go_roundw
          case rel => exact ⟨j + 1, by omega, by go_num, by rw [HST.out]; exact congrArg (Value.int .i64) (by omega), HO2.out.alloc _, HB.out.alloc hbs _⟩
          case measure => simp [intOf]; omega
      · rw [if_neg hq] at HST
        obtain rfl : q = 0 := by omega
        have HO2 : Hid (wr.ownsRow w1.heap.size 43 2 u3 (gapsTo S (L.take (j + 1))).1.length (flat2 (gapsTo S (L.take (j + 1))).1)) := by
          unfold Hid
          rw [HST.out]
          exact HO.out
        go_wp2
        go_roundw
        case rel => exact ⟨j + 1, by omega, by go_num, by rw [HST.out], HO2.out.alloc _, HB.out.alloc hbs _⟩
        case measure => simp [intOf]; omega
    · obtain rfl : j = L.length := by omega
      rw [List.take_length] at HO ⊢
      have k0 := (HH.out.below (bNext HB1.out HB.out)).head.cell (i := 0) rfl
      have HBW := Lib.hid (bNext HB1.out HB.out)
      have hlen := gapsTo_len S L L.length (Nat.le_refl _)
      have hend := gapsTo_end HFT.out L.length (Nat.le_refl _)
      have HG : Hid (gapsOf S L = if (gapsTo S L).2 < S.N then (gapsTo S L).1 ++ [((gapsTo S L).2, S.N - (gapsTo S L).2)] else (gapsTo S L).1) := rfl
      rw [List.take_length] at hlen hend
      have hbs := HB.out.size
      have hbs1 := HB1.out.size
      generalize gapsTo S L = G at *
      obtain ⟨gs, en⟩ := G
      simp only at hlen hend HO HG
      clear hlt HB HR HLT HFT
      by_cases hp : en < S.N
      · rw [if_pos hp] at HG
        have hp2 : (en : Int) < (S.N : Int) := by omega
        have hmx : gs.length + 1 ≤ maxLen := by unfold maxLen; omega
        have hby : (gs.length + 1) * 16 ≤ 140737488355328 := by omega
        have hone : ∀ u ∈ [(.int .i64 (en : Int) : Value), .int .i64 ((S.N : Int) - (en : Int))], u.oneCell' = true := by intro u hu; simp at hu; rcases hu with rfl | rfl <;> rfl
        have hfl : Hid (flat2 [(en, S.N - en)] = [.int .i64 (en : Int), .int .i64 ((S.N : Int) - (en : Int))]) := by
          unfold Hid
          show [Value.int .i64 (en : Nat), .int .i64 ((S.N - en : Nat) : Int)] = _
          rw [show ((S.N - en : Nat) : Int) = (S.N : Int) - (en : Int) by omega]
        have HO1 := Lib.hid hone
        have HMX := Lib.hid hmx
        have HBY := Lib.hid hby
        clear hone hmx hby
        go_wp2_with (at_builtin; refine wpList_app rfl _ _ 30 rfl w1.heap.size 43 (.agg #[.int .i64 0, .int .i64 0]) 2 16 Try.underlying30 inf_two rfl (by decide) _ gs.length _ rfl (HO.out.alloc _) _ 1 1 [.int .i64 (en : Int), .int .i64 ((S.N : Int) - (en : Int))] rfl rfl (Reads.madeAt (by simp)) HO1.out HMX.out HBY.out (Nat.le_trans hbs (by simp)) ?_)
        intro v' w2 own2 gr2
        have hlt2 := HO.out.lt
        have HB2 := Lib.hid ((HBW.out.alloc (Nat.le_trans hbs1 hbs) _).grown gr2 (by simp; omega) (fun k hk => Nat.le_trans hbs1 (hlt2 k hk).1))
        have HO2 : Hid (w2.ownsRow w1.heap.size 43 2 v' (gapsOf S L).length (flat2 (gapsOf S L))) := by
          unfold Hid
          rw [HG.out]
          rw [List.length_append, flat2_app, hfl.out]
          exact own2
        clear own2 gr2 hlt2 HO
        go_wp2
        go_ret
        exact ⟨_, L, HQL.out, rfl, owns_lower HO2.out hbs1, HB2.out⟩
      · rw [if_neg hp] at HG
        have hp2 : ¬ (en : Int) < (S.N : Int) := by omega
        have HO2 : Hid (wr.ownsRow w1.heap.size 43 2 u3 (gapsOf S L).length (flat2 (gapsOf S L))) := by
          unfold Hid
          rw [HG.out]
          exact HO.out
        go_wp2
        go_ret
        exact ⟨_, L, HQL.out, rfl, owns_lower HO2.out hbs1, HBW.out⟩

end Go.Proofs.Ytcecegcbkcdpjaa
