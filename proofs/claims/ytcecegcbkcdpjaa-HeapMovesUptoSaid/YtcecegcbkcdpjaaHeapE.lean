/-
  The stable sort where all are in order .
-/
import Derived.Test.YtcecegcbkcdpjaaHeapD
namespace Go.Proofs.Ytcecegcbkcdpjaa
open Go.RowKit
set_option linter.unusedVariables false
set_option maxHeartbeats 4000000

/-- Places of blocks, by their numbers. -/
def atOf (S : HpS) (k : Nat) : Nat := ((S.bl[k]?).map Blk.at_).getD 0
/-- Numbers of blocks that are in order of places. -/
structure InOrder (S : HpS) (l : List Nat) : Prop where
  lt : ∀ k ∈ l, k < S.bl.length
  small : ∀ k ∈ l, atOf S k ≤ 32768
  up : ∀ t, t + 1 < l.length → atOf S (l.getD t 0) ≤ atOf S (l.getD (t + 1) 0)

theorem c_cmp {w : World} {B h g : Nat} {vb : Value} {S : HpS} (H : HpAt w B h g vb S) (i j : Nat) (hi : i < S.bl.length) (hj : j < S.bl.length) (h1 : atOf S i ≤ 32768) (h2 : atOf S j ≤ 32768) :
    Calls Try.prog 47 #[.pointer (some ⟨h, 0, none⟩), .int .i64 i, .int .i64 j] w fun e w' => e = .returned (.int .i64 ((atOf S i : Int) - (atOf S j : Int))) ∧ Below w.heap.size w w' := by
  have e1 : atOf S i = S.bl[i].at_ := by unfold atOf; rw [List.getElem?_eq_getElem hi]; rfl
  have e2 : atOf S j = S.bl[j].at_ := by unfold atOf; rw [List.getElem?_eq_getElem hj]; rfl
  rw [e1] at h1 ⊢
  rw [e2] at h2 ⊢
  exact c_byPlace H i j hi hj h1 h2

theorem c_Ins {w : World} {B h g : Nat} {vb : Value} {S : HpS} (H : HpAt w B h g vb S) (l : List Nat) (hl : InOrder S l) (hn : l.length ≤ 1000) (a : Option Addr) (n c lo : Nat) (e0 : n = l.length) (hlo : lo ≤ n) (hr : Reads w a c ((l.map (fun k : Nat => (k : Int))).map (Value.int .i64))) :
    Calls Try.prog 50 #[.slice a n c, .int .i64 lo, .int .i64 n, .func (.func 47) #[.pointer (some ⟨h, 0, none⟩)] #[]] w fun e w' => e = .returned (.tuple #[]) ∧ Below w.heap.size w w' := by
  have HH := Lib.hid H
  have HL := Lib.hid hl
  have HR := Lib.hid hr
  have HE := Lib.hid e0
  clear H hl hr
  rw [e0] at hlo
  subst e0
  go_enter Try.func50, Try.ntmps50
  go_wp2
  go_loopw [8] (fun i wr => ∃ k : Nat, i = .int .i64 k ∧ lo < k ∧ k ≤ l.length + 1 ∧ Hid (Below w.heap.size w wr)) (fun i _ => l.length + 1 - (intOf i).toNat)
  case atStart => exact ⟨lo + 1, by go_num, by omega, by omega, Below.refl _ _⟩
  case round =>
    obtain ⟨k, rfl, hk1, hk2, HB⟩ := hrel
    by_cases hlt : k < l.length
    · obtain ⟨b, off, rfl, hb, hc⟩ := HR.out.at (by simp; omega)
      have hx : (l.map (fun k : Nat => (k : Int))).map (Value.int .i64) = l.map (fun k : Nat => Value.int .i64 (k : Int)) := by rw [List.map_map]; rfl
      have hcell : ∀ t, t < l.length → w.cell? ⟨b, off + t, none⟩ = some (.int .i64 (l.getD t 0 : Nat)) := fun t ht => by
        refine hc t _ ?_
        rw [hx, List.getElem?_map, List.getElem?_eq_getElem ht, List.getD_eq_getElem?_getD, List.getElem?_eq_getElem ht]
        rfl
      obtain ⟨m, rfl⟩ : ∃ m, k = m + 1 := ⟨k - 1, by omega⟩
      have HC1 := Lib.hid (hcell (m + 1) hlt)
      have HC0 := Lib.hid (hcell m (by omega))
      have hm1 : l.getD (m + 1) 0 ∈ l := by rw [List.getD_eq_getElem?_getD, List.getElem?_eq_getElem hlt]; exact List.getElem_mem hlt
      have hm0 : l.getD m 0 ∈ l := by rw [List.getD_eq_getElem?_getD, List.getElem?_eq_getElem (show m < l.length by omega)]; exact List.getElem_mem _
      have hup := HL.out.up m hlt
      have h1 := HL.out.lt _ hm1
      have h0 := HL.out.lt _ hm0
      have s1 := HL.out.small _ hm1
      have s0 := HL.out.small _ hm0
      generalize l.getD (m + 1) 0 = y at *
      generalize l.getD m 0 = x at *
      have HUP := Lib.hid hup
      clear hcell hc hx hm1 hm0 hb hup
      go_wp2
      go_loopw [9] (fun j wr2 => j = .int .i64 ((m : Int) + 1) ∧ Hid (Below w.heap.size w wr2)) (fun _ _ => 0)
      case atStart => exact ⟨by go_num, HB.out⟩
      case round =>
        clear HB
        obtain ⟨rfl, HB⟩ := hrel
        have c1 := cellKeep HB.out HC1.out
        have c0 := cellKeep HB.out HC0.out
        have hbd : Below w.heap.size w wr.drew := HB.out.drew
        have HM := Lib.hid (c_cmp (HH.out.below hbd) y x h1 h0 s1 s0)
        have HBD := Lib.hid hbd
        clear hbd
        have e1 : decide ((lo : Int) < (m : Int) + 1) = true := decide_eq_true (by omega)
        have hx0 : (0 : Int) ≤ (m : Int) + 1 := by omega
        have hx1 : (0 : Int) ≤ (m : Int) := by omega
        have hx2 : m < l.length := by omega
        go_wp2_with fail
        refine wp_region_planH (fun z => z.cell? ⟨b, off + (m + 1), none⟩ = some (.int .i64 y) ∧ z.cell? ⟨b, off + m, none⟩ = some (.int .i64 x)) [(0, true), (1, true), (2, true), (3, true), (4, true), (5, true), (6, true), (7, true), (8, true), (9, true), (10, true), (11, true), (12, true), (13, true), (14, false), (15, true), (16, true)] (by kernel_rfl) (by kernel_rfl) (fun _ _ _ _ _ h => h) ⟨c1, c0⟩ ?_
        have HS : Hid (wr.drew.cell? ⟨b, off + (m + 1), none⟩ = some (.int .i64 y) ∧ wr.drew.cell? ⟨b, off + m, none⟩ = some (.int .i64 x)) := ⟨c1, c0⟩
        clear c1 c0
        generalize wr.drew = wd at *
        (repeat (refine wpPlanH_free rfl (fun K hK => ?_); go_simp; (try go_bits); refine hK _ ?_; clear hK K))
        refine wpPlanH_load (.int .i64 y) rfl rfl (fun x hS => by obtain ⟨s0, s1⟩ := hS; go_simp) (fun K hK => ?_)
        refine hK _ ?_
        clear hK K
        (repeat (refine wpPlanH_free rfl (fun K hK => ?_); go_simp; (try go_bits); refine hK _ ?_; clear hK K))
        refine wpPlanH_load (.int .i64 x) rfl rfl (fun x hS => by obtain ⟨s0, s1⟩ := hS; go_simp) (fun K hK => ?_)
        refine hK _ ?_
        clear hK K
        refine wpPlanH_sole rfl ?_
        go_wp2_with fail
        refine HM.out.mono ?_
        rintro e w' ⟨rfl, hb2⟩
        have HB2 := Lib.hid (HBD.out.trans (hb2.mono HBD.out.size))
        have HS2 := Lib.hid (And.intro (cellKeep hb2 HS.out.1) (cellKeep hb2 HS.out.2))
        have e2 : decide ((atOf S y : Int) - (atOf S x : Int) < 0) = false := decide_eq_false (by have := HUP.out; omega)
        clear hb2 HM HS
        generalize (atOf S y : Int) - (atOf S x : Int) = z at *
        go_wp2
        refine ⟨HS2.out, ?_⟩
        (repeat (refine wpPlanH_free rfl (fun K hK => ?_); go_simp; (try go_bits); refine hK _ ?_; clear hK K))
        refine wpPlanH_nil ?_
        go_wp2
        go_roundw
        case rel => exact ⟨m + 2, by go_num, by omega, by omega, HB2.out⟩
        case measure => simp [intOf]; omega
    · go_wp2
      go_end0
      exact ⟨rfl, HB.out⟩

end Go.Proofs.Ytcecegcbkcdpjaa
