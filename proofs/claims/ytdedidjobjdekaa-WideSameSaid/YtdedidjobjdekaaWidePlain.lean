/-
  Wide objects, plain: which may be, and their bytes.
-/
import Derived.Test.YtdedidjobjdekaaWord3
namespace Go.Proofs.Ytdedidjobjdekaa
set_option linter.unusedVariables false

/-- May a word stand in an object? -/
def refIs (o : Int) : Bool := numIs o || namIs o

/-- May an object be? -/
def okObj (cls kind : Int) (W B : List Int) : Prop :=
  namIs cls = true ∧ (kind = 1 ∧ B = [] ∧ W.length ≤ 1000 ∧ (∀ x ∈ W, refIs x = true) ∨ kind = 2 ∧ W = [] ∧ B.length ≤ 1000)
instance (cls kind : Int) (W B : List Int) : Decidable (okObj cls kind W B) := by unfold okObj; exact inferInstance

def sizeO (kind : Int) (W B : List Int) : Nat := if kind = 1 then W.length else if kind = 2 then B.length else 0
def encB (cls kind : Int) (W B : List Int) : List Int := put4 cls ++ (put4 kind ++ (put4 (sizeO kind W B) ++ (allB W ++ B)))

theorem refIs_yes {o : Int} (h : o % 2 = 1 ∧ -2147483647 ≤ o ∧ o ≤ 2147483647 ∨ o % 2 = 0 ∧ 2 ≤ o ∧ o ≤ 2147483646) : refIs o = true := by
  unfold refIs
  rcases h with h | h
  · rw [numIs_yes h]; rfl
  · rw [namIs_yes h, Bool.or_true]
theorem refIs_no {o : Int} (h : ¬ (o % 2 = 1 ∧ -2147483647 ≤ o ∧ o ≤ 2147483647 ∨ o % 2 = 0 ∧ 2 ≤ o ∧ o ≤ 2147483646)) : refIs o = false := by
  unfold refIs
  rw [numIs_no (fun k => h (.inl k)), namIs_no (fun k => h (.inr k))]; rfl

theorem encB_len (cls kind : Int) (W B : List Int) : (encB cls kind W B).length = 12 + 4 * W.length + B.length := by
  unfold encB
  simp only [List.length_append, put4_len, allB_len]
  omega
theorem encB_byt {cls kind : Int} {W B : List Int} (h : Byt B) : Byt (encB cls kind W B) :=
  (put4_byt _).append ((put4_byt _).append ((put4_byt _).append ((allB_byt _).append h)))

/-- The words from a place on, as many as there are. -/
def words (b : List Int) (p : Nat) : Nat → List Int
  | 0 => []
  | k + 1 => words b p k ++ [getV b ((p + 4 * k : Nat) : Int)]

end Go.Proofs.Ytdedidjobjdekaa
