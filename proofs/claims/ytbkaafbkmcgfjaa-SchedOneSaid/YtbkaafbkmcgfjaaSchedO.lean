/-
  What the chapter's example fixes.
-/
import Derived.Test.YtbkaafbkmcgfjaaSchedN
namespace Go.Proofs.Ytbkaafbkmcgfjaa
open Go.RowKit
set_option linter.unusedVariables false
set_option maxHeartbeats 2000000
set_option maxRecDepth 20000

theorem bMov {b : Nat} {w W W' : World} {m base B : Nat} {L : Lay} {A : List Nat} {x : RS} (hb : Below b w W) (hx : SX W m base B L x) (hl : b ≤ base) (hm : Mov L.B W A W') : Below b w W' :=
  hb.trans (hm.below (Nat.le_trans hl hx.bs) (fun k hk => Nat.le_trans hl (hx.ge k hk)))
theorem bBel {b : Nat} {w W W' : World} {m base B : Nat} {L : Lay} {x : RS} (hb : Below b w W) (hx : SX W m base B L x) (hl : b ≤ base) (hm : Below W.heap.size W W') : Below b w W' :=
  hb.trans (hm.mono (Nat.le_trans hl hx.bs))
theorem movB {A B : List Nat} {u v w : World} (hb : Below u.heap.size u v) (h : Mov A v B w) : Mov A u B w := ((Mov.refl A u).below2 hb).trans h

theorem c_YieldNil (w : World) : Calls Try.prog 16 #[.pointer none] w fun e w' => e = .returned (.int .i64 1) ∧ w = w' := by
  go_enter Try.func16, Try.ntmps16
  go_wp2
  go_ret
  exact ⟨rfl, rfl⟩

def kn1 : RS := spR newR 4
def kn2 : RS := spR kn1 5
def kn3 : RS := rsR kn2 [1, 2]
def kn4 : RS := suR kn3 2

theorem c_known20 (w : World) : Calls Try.prog 10 #[] w fun e w' => e = .returned (.bool true) ∧ Below w.heap.size w w' := by
  have q1 : spV newR 4 = 1 := by decide
  have q1e : spE newR 4 = 0 := by decide
  have q2 : spV kn1 5 = 2 := by decide
  have q2e : spE kn1 5 = 0 := by decide
  have q3 : rsE kn2 [1, 2] = 0 := by decide
  have q4 : ((actR kn3 : Nat) : Int) = 2 := by decide
  have q5 : atL kn3 2 4 = [1] := by decide
  have q6 : suE kn3 2 = 0 := by decide
  have q7 : ((actR kn4 : Nat) : Int) = 1 := by decide
  have Q := Lib.hid (And.intro q1 (And.intro q1e (And.intro q2 (And.intro q2e (And.intro q3 (And.intro q4 (And.intro q5 (And.intro q6 q7))))))))
  clear q1 q1e q2 q2e q3 q4 q5 q6 q7
  go_enter Try.func10, Try.ntmps10
  go_wp2_with fail
  refine (x_New _).mono ?_
  rintro e w1 ⟨L1, rfl, hx, hb⟩
  have HX := Lib.hid hx
  have HB := Lib.hid hb
  clear hx hb
  generalize hM : w.heap.size = M at *
  have HM := Lib.hid hM
  clear hM
  go_wp2_with fail
  refine (x_Spawn HX.out (by omega) 4).mono ?_
  rw [Q.out.1, Q.out.2.1]
  rintro e w2 ⟨L2, rfl, hx, hm⟩
  have HB := Lib.hid (bMov HB.out HX.out (Nat.le_refl _) hm)
  have HX : Hid (SX w2 M M 0 L2 kn1) := hx
  clear hx hm
  go_wp2_with fail
  refine (x_Spawn HX.out (by omega) 5).mono ?_
  rw [Q.out.2.2.1, Q.out.2.2.2.1]
  rintro e w3 ⟨L3, rfl, hx, hm⟩
  have HB := Lib.hid (bMov HB.out HX.out (Nat.le_refl _) hm)
  have HX : Hid (SX w3 M M 0 L3 kn2) := hx
  clear hx hm
  go_wp2_with fail
  have b1 : Below w3.heap.size w3 (w3.alloc (.cells #[.int .i64 1, .int .i64 2] 3)) := (Below.refl _ w3).alloc (Nat.le_refl _) _
  have hlt := HX.out.lt
  refine (x_Resume (HX.out.below b1) (by omega) (some ⟨w3.heap.size, 0, none⟩) 2 2 [1, 2] rfl (Reads.madeAt rfl) (Nat.le_refl _) (by omega) (fun y hy hm => by cases hy; exact absurd (hlt _ hm) (Nat.lt_irrefl _))).mono ?_
  rw [Q.out.2.2.2.2.1]
  rintro e w4 ⟨L4, rfl, hx, hm⟩
  have HB := Lib.hid (bMov (bBel HB.out HX.out (Nat.le_refl _) b1) (HX.out.below b1) (Nat.le_refl _) hm)
  have HX : Hid (SX w4 M M 0 L4 kn3) := hx
  clear hx hm b1 hlt
  go_wp2_with fail
  refine (x_Active HX.out).mono ?_
  rw [Q.out.2.2.2.2.2.1]
  rintro e w' ⟨rfl, rfl⟩
  go_wp2_with fail
  refine (x_Ready HX.out (by omega) 4 (by omega) (by omega)).mono ?_
  rw [Q.out.2.2.2.2.2.2.1]
  rintro e w5 ⟨v, rfl, own, b5⟩
  obtain ⟨a5, c5, rfl, hR, hc5, ha5⟩ := owns_reads own
  have HB := Lib.hid (bBel HB.out HX.out (Nat.le_refl _) b5)
  have hlt := HX.out.lt
  have HLT := Lib.hid hlt
  have HX := Lib.hid (HX.out.below b5)
  have hRB : ∀ y, a5 = some y → w4.heap.size ≤ y.block := fun y hy => (ha5 y hy).1
  have HR := Lib.hid hR
  have HRB := Lib.hid hRB
  clear own b5 hR ha5 hRB hlt
  go_wp2_with fail
  refine (x_Suspend HX.out (by omega) 2).mono ?_
  rw [Q.out.2.2.2.2.2.2.2.1]
  rintro e w6 ⟨L6, rfl, hx, hm⟩
  have HR := Lib.hid (hm.up.reads HR.out (fun y hy hmem => Nat.lt_irrefl _ (Nat.lt_of_lt_of_le (HLT.out _ hmem) (HRB.out y hy))))
  have HB := Lib.hid (bMov HB.out HX.out (Nat.le_refl _) hm)
  have HX : Hid (SX w6 M M 0 L6 kn4) := hx
  clear hx hm HRB HLT
  go_wp2_with fail
  refine (c_SameInts a5 (some ⟨w6.heap.size, 0, none⟩) 1 1 c5 1 [1] [1] _ rfl rfl (HR.out.alloc _) (Reads.madeAt rfl) (by decide) (by decide)).mono ?_
  rw [show decide (([1] : List Int) = [1]) = true from rfl]
  rintro e w7 ⟨rfl, b7⟩
  have b6 : Below w6.heap.size w6 w7 := ((Below.refl _ w6).alloc (Nat.le_refl _) _).trans (b7.mono (by simp))
  have HB := Lib.hid (bBel HB.out HX.out (Nat.le_refl _) b6)
  have HX := Lib.hid (HX.out.below b6)
  clear b6 b7
  go_wp2_with fail
  refine (x_Active HX.out).mono ?_
  rw [Q.out.2.2.2.2.2.2.2.2]
  rintro e w' ⟨rfl, rfl⟩
  go_wp2_with fail
  refine (c_YieldNil _).mono ?_
  rintro e w' ⟨rfl, rfl⟩
  go_wp2
  go_ret
  exact ⟨rfl, by rw [HM.out]; exact HB.out⟩

end Go.Proofs.Ytbkaafbkmcgfjaa
