/-
  The document's answer of chapter 20: Active, At.
-/
import Derived.Test.YtbkaafbkmcgfjaaSchedQ
namespace Go.Proofs.Ytbkaafbkmcgfjaa
open Go.RowKit
set_option linter.unusedVariables false
set_option maxHeartbeats 2000000
set_option maxRecDepth 20000

def cellsP (q : Pr) : List Value := [.int .i64 q.pr, .int .i64 q.wh, .int .i64 q.si]
def flatP (P : List Pr) : List Value := P.flatMap cellsP
theorem flatP_len : ∀ (P : List Pr), (flatP P).length = P.length * 3
  | [] => rfl
  | q :: P => by
    show (cellsP q ++ flatP P).length = _
    rw [List.length_append, flatP_len P, List.length_cons]
    show 3 + _ = _
    omega
theorem flatP_get : ∀ {P : List Pr} {k : Nat} (j : Nat) {q : Pr}, P[k]? = some q → j < 3 → (flatP P)[k * 3 + j]? = (cellsP q)[j]?
  | [], k, j, q, h, _ => by simp at h
  | p :: P, 0, j, q, h, hj => by
    show (cellsP p ++ flatP P)[0 * 3 + j]? = _
    simp at h
    subst h
    rw [List.getElem?_append_left (by show _ < 3; omega), Nat.zero_mul, Nat.zero_add]
  | p :: P, k + 1, j, q, h, hj => by
    show (cellsP p ++ flatP P)[(k + 1) * 3 + j]? = _
    rw [List.getElem?_append_right (by show 3 ≤ _; omega)]
    have := flatP_get (P := P) (k := k) j (q := q) (by simpa using h) hj
    rw [← this]
    congr 1
    show (k + 1) * 3 + j - 3 = _
    omega

/-- The document's state, as a value. -/
structure RefV (w : World) (a1 : Option Addr) (c1 : Nat) (a2 : Option Addr) (c2 : Nat) (x : RS) : Prop where
  rp : Reads w a1 c1 (flatP x.P)
  rs : Reads w a2 c2 (x.sems.map (fun (n : Nat) => .int .i64 (n : Int)))
def refV (a1 : Option Addr) (c1 : Nat) (a2 : Option Addr) (c2 : Nat) (x : RS) : Value := .agg #[.slice a1 x.P.length c1, .slice a2 x.sems.length c2, .int .i64 x.now]
def refC (a1 : Option Addr) (c1 : Nat) (a2 : Option Addr) (c2 : Nat) (x : RS) : List Value := [.slice a1 x.P.length c1, .slice a2 x.sems.length c2, .int .i64 x.now]
theorem RefV.below {w w' : World} {a1 a2 : Option Addr} {c1 c2 : Nat} {x : RS} (h : RefV w a1 c1 a2 c2 x) (hb : Below w.heap.size w w') : RefV w' a1 c1 a2 c2 x := ⟨h.rp.below hb, h.rs.below hb⟩
theorem RefV.alloc {w : World} {a1 a2 : Option Addr} {c1 c2 : Nat} {x : RS} (h : RefV w a1 c1 a2 c2 x) (o : Obj) : RefV (w.alloc o) a1 c1 a2 c2 x := h.below ((Below.refl _ _).alloc (Nat.le_refl _) o)

/-- A process' three cells. -/
theorem RefV.at {w : World} {a1 a2 : Option Addr} {c1 c2 : Nat} {x : RS} (h : RefV w a1 c1 a2 c2 x) (hn : 0 < x.P.length) : ∃ b o, a1 = some ⟨b, o, none⟩ ∧ b < w.heap.size ∧ ∀ k, k < x.P.length →
    w.cell? ⟨b, o + k * 3, none⟩ = some (.int .i64 (gP x k).pr) ∧ w.cell? ⟨b, o + k * 3 + 1, none⟩ = some (.int .i64 (gP x k).wh) ∧ w.cell? ⟨b, o + k * 3 + 2, none⟩ = some (.int .i64 (gP x k).si) := by
  obtain ⟨b, o, ha, hb, hc⟩ := h.rp.at (by rw [flatP_len]; omega)
  refine ⟨b, o, ha, hb, fun k hk => ⟨?_, ?_, ?_⟩⟩
  · exact hc (k * 3 + 0) _ (flatP_get 0 (gP_get hk) (by omega))
  · rw [Nat.add_assoc]; exact hc (k * 3 + 1) _ (flatP_get 1 (gP_get hk) (by omega))
  · rw [Nat.add_assoc]; exact hc (k * 3 + 2) _ (flatP_get 2 (gP_get hk) (by omega))

theorem act_first {x : RS} {k : Nat} (hk : k < x.P.length) (hw : (gP x k).wh = 1) (hn : ∀ j, j < k → (gP x j).wh ≠ 1) : actR x = k + 1 := by
  unfold actR
  have hg : ∀ {j} (hj : j < x.P.length), x.P[j] = gP x j := fun {j} hj => by have := gP_get hj; rw [List.getElem?_eq_getElem hj] at this; exact Option.some.inj this
  have : x.P.findIdx? (fun q => q.wh == 1) = some k := by
    rw [List.findIdx?_eq_some_iff_getElem]
    refine ⟨hk, by rw [hg]; simpa using hw, fun j hj => ?_⟩
    rw [hg]
    simpa using hn j hj
  rw [this]

theorem c_rActive {w : World} {a1 a2 : Option Addr} {c1 c2 : Nat} {x : RS} (h : RefV w a1 c1 a2 c2 x) (hn : x.P.length ≤ 100) :
    Calls Try.prog 35 #[refV a1 c1 a2 c2 x] w fun e w' => e = .returned (.int .i64 (actR x)) ∧ Below w.heap.size w w' := by
  obtain ⟨W, hW⟩ : ∃ W, W = w.alloc (.cells #[.slice a1 x.P.length c1, .slice a2 x.sems.length c2, .int .i64 x.now] 41) := ⟨_, rfl⟩
  have hb : Below w.heap.size w W := by rw [hW]; exact (Below.refl _ _).alloc (Nat.le_refl _) _
  have hr : Row W w.heap.size 41 (refC a1 c1 a2 c2 x) := by rw [hW]; exact Row.made w _ _
  have HV := Lib.hid (h.below hb)
  have HB := Lib.hid hb
  have k0 : W.cell? ⟨w.heap.size, 0, none⟩ = some (.slice a1 x.P.length c1) := hr.cell rfl
  have HW := Lib.hid hW
  clear h hb hr hW
  unfold refV
  go_enter Try.func35, Try.ntmps35
  go_wp2
  rw [← HW.out]
  go_loop [3] (fun i => ∃ k : Nat, k ≤ x.P.length ∧ i = .int .i64 k ∧ Hid (∀ j, j < k → (gP x j).wh ≠ 1)) (fun i => x.P.length - (intOf i).toNat)
  case atStart => exact ⟨0, Nat.zero_le _, rfl, fun j hj => by omega⟩
  case round =>
    obtain ⟨k, hk, rfl, HZ⟩ := hrel
    by_cases hlt : k < x.P.length
    · obtain ⟨b, o, rfl, hbl, hc⟩ := HV.out.at (by omega)
      have kc := (hc k hlt).2.1
      clear hc
      by_cases hw : (gP x k).wh = 1
      · have HA := Lib.hid (act_first hlt hw HZ.out)
        rw [hw] at kc
        clear hw
        go_wp2
        go_ret
        exact ⟨by rw [HA.out]; rfl, HB.out⟩
      · have HZ2 : Hid (∀ j, j < k + 1 → (gP x j).wh ≠ 1) := fun j hj => by
          by_cases hjk : j = k
          · rw [hjk]; exact hw
          · exact HZ.out j (by omega)
        generalize (gP x k).wh = y at *
        go_wp2
        go_round
        case rel => exact ⟨k + 1, by omega, by go_num, HZ2.out⟩
        case measure => simp [intOf]; omega
    · obtain rfl : k = x.P.length := by omega
      have HA := Lib.hid (act_zero HZ.out)
      clear hlt
      go_wp2
      go_ret
      exact ⟨by rw [HA.out]; rfl, HB.out⟩

end Go.Proofs.Ytbkaafbkmcgfjaa
