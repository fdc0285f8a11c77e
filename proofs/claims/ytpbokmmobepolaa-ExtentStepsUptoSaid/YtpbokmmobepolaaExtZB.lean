/-
  The reference: First.
-/
import Derived.Test.YtpbokmmobepolaaExtZA
namespace Go.Proofs.Ytpbokmmobepolaa
open Go.RowKit Go.Maps
set_option linter.unusedVariables false
set_option maxHeartbeats 4000000

def firstI (o : Option Nat) : Int := match o with
  | some F => (F : Int)
  | none => -1
def ovB (x : Rw4) (F m : Nat) : Bool := decide (F < x.1 + rN x) && decide (x.1 < F + m)
theorem ovB_iff {x : Rw4} {F m : Nat} : ovB x F m = true ↔ Ovl x F m := by unfold ovB Ovl; simp
def okB (L : List Rw4) (k F m : Nat) : Bool := (L.take k).all (fun x => !ovB x F m)
theorem okB_step {L : List Rw4} {k : Nat} (h : k < L.length) (F m : Nat) : okB L (k + 1) F m = (okB L k F m && !ovB L[k] F m) := by
  unfold okB
  rw [List.take_add_one, List.getElem?_eq_getElem h, Option.toList_some, List.all_append]
  simp
theorem okB_all {L : List Rw4} {k F m : Nat} (hk : L.take k = L) (h : okB L k F m = true) : ∀ x ∈ L, ¬ Ovl x F m := fun x hx ho => by
  unfold okB at h
  rw [hk, List.all_eq_true] at h
  have := h x hx
  rw [ovB_iff.2 ho] at this
  cases this
theorem okB_not {L : List Rw4} {k F m : Nat} (hk : L.take k = L) (h : okB L k F m = false) : ∃ x ∈ L, Ovl x F m := by
  unfold okB at h
  rw [hk, List.all_eq_false] at h
  obtain ⟨x, hx, hn⟩ := h
  exact ⟨x, hx, ovB_iff.1 (by simpa using hn)⟩

theorem r_First {w : World} {B : Nat} {a : Option Addr} {n c : Nat} {rs : List RwB} (h : RowsAt w B a n c rs) (hm : n ≤ 1000000) (N m : Nat) (hN : N ≤ 300) (hm1 : 1 ≤ m) (hm2 : m ≤ 500000) (hfit : ∀ x ∈ Lof rs, x.1 + rN x ≤ 300) :
    Calls Try.prog 36 #[.slice a n c, .int .i64 N, .int .i64 m] w fun e w' => ∃ o, FirstL (Lof rs) N m o ∧ e = .returned (.int .i64 (firstI o)) ∧ Below w.heap.size w w' := by
  have e0 := h.len
  subst e0
  have HR := Lib.hid h
  have HFIT := Lib.hid hfit
  clear h hfit
  go_enter Try.func36, Try.ntmps36
  go_wp2
  go_loopw [7] (fun i wr => ∃ F : Nat, F ≤ N ∧ i = .int .i64 F ∧ Hid (∀ F', F' < F → ∃ x ∈ Lof rs, Ovl x F' m) ∧ Hid (Below w.heap.size w wr)) (fun i _ => N - (intOf i).toNat)
  case atStart => exact ⟨0, Nat.zero_le _, rfl, fun F' hF => by omega, Below.refl _ _⟩
  case round =>
    obtain ⟨F, hF, rfl, HZ, HB⟩ := hrel
    have hw2 := wrap_small (a := F) (b := m) (by omega)
    by_cases hfm : (F : Int) + (m : Int) ≤ (N : Int)
    · have HFN : Hid (F + m ≤ N) := by unfold Hid; omega
      go_wp2
      obtain ⟨w1, hw1⟩ : ∃ z, z = wr := ⟨_, rfl⟩
      rw [← hw1] at HB ⊢
      clear hw1
      go_loopw [8, 9] (fun ok i wr2 => ∃ k : Nat, k ≤ rs.length ∧ i = .int .i64 k ∧ ok = .bool (okB (Lof rs) k F m) ∧ Hid (Below w.heap.size w wr2)) (fun _ i _ => rs.length - (intOf i).toNat)
      case atStart => exact ⟨0, Nat.zero_le _, rfl, by simp [okB], HB.out⟩
      case round =>
        clear HB
        obtain ⟨k, hk, rfl, rfl, HB⟩ := hrel
        by_cases hlt : k < rs.length
        · obtain ⟨b, off, rfl, hb, c0, c1, -, -⟩ := row_cells (HR.out.below HB.out) hlt
          have hlt2 : k < (Lof rs).length := by simp [Lof]; exact hlt
          have hst := okB_step hlt2 F m
          have hx : (Lof rs)[k] = rs[k].x := by simp [Lof]
          have hft := HFIT.out _ (List.getElem_mem hlt2)
          rw [hx] at hst hft
          unfold ovB at hst
          generalize rs[k].x.1 = G at hst hft c0
          generalize rN rs[k].x = gn at hst hft c1
          have HST := Lib.hid hst
          have hw1 := wrap_small (a := G) (b := gn) (by omega)
          have HBD := Lib.hid HB.out.drew
          generalize okB (Lof rs) k F m = v at *
          clear hst hx hb hlt2 hft
          go_wp2_with fail
          refine wp_region_planH (fun z => z.cell? ⟨b, off + k * 4, none⟩ = some (.int .i64 G) ∧ z.cell? ⟨b, off + k * 4 + 1, none⟩ = some (.int .i64 gn)) [(0, true), (1, true), (2, true), (3, true), (4, true), (5, true), (6, true), (7, true), (8, true), (9, true), (10, true), (11, true), (12, true), (13, true), (14, true), (15, true), (16, true), (17, true), (18, true), (19, true), (20, true), (21, true), (22, true), (23, true), (24, true), (25, true), (26, true)] (by kernel_rfl) (by kernel_rfl) (fun _ _ _ _ _ h => h) ⟨c0, c1⟩ ?_
          clear c0 c1
          generalize wr.drew = wd at HBD ⊢
          by_cases hA : (F : Int) < (G : Int) + (gn : Int)
          · have e1 : decide ((F : Int) < (G : Int) + (gn : Int)) = true := decide_eq_true hA
            by_cases hB : (G : Int) < (F : Int) + (m : Int)
            · have e2 : decide ((G : Int) < (F : Int) + (m : Int)) = true := decide_eq_true hB
              have HV : Hid (okB (Lof rs) (k + 1) F m = false) := by
                unfold Hid
                rw [HST.out, decide_eq_true (show F < G + gn by omega), decide_eq_true (show G < F + m by omega)]
                simp
              (repeat (refine wpPlanH_free rfl (fun K hK => ?_); go_simp; (try go_bits); refine hK _ ?_; clear hK K))
              refine wpPlanH_load (.int .i64 G) rfl rfl (fun x hS => by obtain ⟨s0, s1⟩ := hS; go_simp) (fun K hK => ?_)
              refine hK _ ?_
              clear hK K
              (repeat (refine wpPlanH_free rfl (fun K hK => ?_); go_simp; (try go_bits); refine hK _ ?_; clear hK K))
              refine wpPlanH_load (.int .i64 gn) rfl rfl (fun x hS => by obtain ⟨s0, s1⟩ := hS; go_simp) (fun K hK => ?_)
              refine hK _ ?_
              clear hK K
              (repeat (refine wpPlanH_free rfl (fun K hK => ?_); go_simp; (try go_bits); refine hK _ ?_; clear hK K))
              refine wpPlanH_load (.int .i64 G) rfl rfl (fun x hS => by obtain ⟨s0, s1⟩ := hS; go_simp) (fun K hK => ?_)
              refine hK _ ?_
              clear hK K
              (repeat (refine wpPlanH_free rfl (fun K hK => ?_); go_simp; (try go_bits); refine hK _ ?_; clear hK K))
              refine wpPlanH_nil ?_
              go_wp2
              go_roundw
              case rel => exact ⟨k + 1, by omega, by go_num, by rw [HV.out], HBD.out⟩
              case measure => simp [intOf]; omega
            · have e2 : decide ((G : Int) < (F : Int) + (m : Int)) = false := decide_eq_false hB
              have HV : Hid (okB (Lof rs) (k + 1) F m = v) := by
                unfold Hid
                rw [HST.out, decide_eq_false (show ¬ G < F + m by omega)]
                simp
              (repeat (refine wpPlanH_free rfl (fun K hK => ?_); go_simp; (try go_bits); refine hK _ ?_; clear hK K))
              refine wpPlanH_load (.int .i64 G) rfl rfl (fun x hS => by obtain ⟨s0, s1⟩ := hS; go_simp) (fun K hK => ?_)
              refine hK _ ?_
              clear hK K
              (repeat (refine wpPlanH_free rfl (fun K hK => ?_); go_simp; (try go_bits); refine hK _ ?_; clear hK K))
              refine wpPlanH_load (.int .i64 gn) rfl rfl (fun x hS => by obtain ⟨s0, s1⟩ := hS; go_simp) (fun K hK => ?_)
              refine hK _ ?_
              clear hK K
              (repeat (refine wpPlanH_free rfl (fun K hK => ?_); go_simp; (try go_bits); refine hK _ ?_; clear hK K))
              refine wpPlanH_load (.int .i64 G) rfl rfl (fun x hS => by obtain ⟨s0, s1⟩ := hS; go_simp) (fun K hK => ?_)
              refine hK _ ?_
              clear hK K
              (repeat (refine wpPlanH_free rfl (fun K hK => ?_); go_simp; (try go_bits); refine hK _ ?_; clear hK K))
              refine wpPlanH_nil ?_
              go_wp2
              go_roundw
              case rel => exact ⟨k + 1, by omega, by go_num, by rw [HV.out], HBD.out⟩
              case measure => simp [intOf]; omega
          · have e1 : decide ((F : Int) < (G : Int) + (gn : Int)) = false := decide_eq_false hA
            have HV : Hid (okB (Lof rs) (k + 1) F m = v) := by
              unfold Hid
              rw [HST.out, decide_eq_false (show ¬ F < G + gn by omega)]
              simp
            (repeat (refine wpPlanH_free rfl (fun K hK => ?_); go_simp; (try go_bits); refine hK _ ?_; clear hK K))
            refine wpPlanH_load (.int .i64 G) rfl rfl (fun x hS => by obtain ⟨s0, s1⟩ := hS; go_simp) (fun K hK => ?_)
            refine hK _ ?_
            clear hK K
            (repeat (refine wpPlanH_free rfl (fun K hK => ?_); go_simp; (try go_bits); refine hK _ ?_; clear hK K))
            refine wpPlanH_load (.int .i64 gn) rfl rfl (fun x hS => by obtain ⟨s0, s1⟩ := hS; go_simp) (fun K hK => ?_)
            refine hK _ ?_
            clear hK K
            (repeat (refine wpPlanH_free rfl (fun K hK => ?_); go_simp; (try go_bits); refine hK _ ?_; clear hK K))
            refine wpPlanH_nil ?_
            go_wp2
            go_roundw
            case rel => exact ⟨k + 1, by omega, by go_num, by rw [HV.out], HBD.out⟩
            case measure => simp [intOf]; omega
        · obtain rfl : k = rs.length := by omega
          have HT : Hid ((Lof rs).take rs.length = Lof rs) := by unfold Hid; rw [show rs.length = (Lof rs).length by simp [Lof], List.take_length]
          cases hv : okB (Lof rs) rs.length F m with
          | true =>
            have HF : Hid (FirstL (Lof rs) N m (some F)) := ⟨HFN.out, okB_all HT.out hv, HZ.out⟩
            clear hv
            go_wp2
            go_ret
            exact ⟨_, HF.out, rfl, HB.out⟩
          | false =>
            have hno := okB_not HT.out hv
            have HZ2 : Hid (∀ F', F' < F + 1 → ∃ x ∈ Lof rs, Ovl x F' m) := fun F' hF' => by
              by_cases h1 : F' = F
              · subst h1
                exact hno
              · exact HZ.out F' (by omega)
            have HB2 := Lib.hid HB.out
            clear hv hno
            go_wp2
            go_roundw
            case rel => exact ⟨F + 1, by have := HFN.out; omega, by go_num, HZ2.out, HB2.out⟩
            case measure => simp [intOf]; have := HFN.out; omega
    · have HF : Hid (FirstL (Lof rs) N m none) := fun F' hF' => HZ.out F' (by omega)
      go_wp2
      go_ret
      exact ⟨_, HF.out, rfl, HB.out⟩

end Go.Proofs.Ytpbokmmobepolaa
