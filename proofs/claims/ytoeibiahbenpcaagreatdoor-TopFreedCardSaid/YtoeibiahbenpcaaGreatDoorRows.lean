/-
  NARROWER THAN 'FOR EVERY INPUT', by the rows' own cells (each row's printed sentence says how): TopFreed: laid.
  DERIVED. THE GIVEN ROWS OF THIS SEAT. 1 by the template 'for every input the law returns true; each argument reads behind the call as it read before'; 0 by the template 'total and deterministic' (their statements: YtoeibiahbenpcaaGreatDoorTotals.lean).
  GIVEN WITH THE SEED: the statements are not yours to turn. If you find one false, say at which input.
  Laid BY PROGRAM, IN A SANDBOX (cutbox-rows.mjs): the forced cells as the released guide's own fill.sh prints them over the translation 7c8d2ecce5359d54… (all of the seat's roots in one cut). By AI agents, Wed Nov 11 2026. No macro, syntax, notation, axiom, sorry.
-/
import Derived.Test.YtoeibiahbenpcaaGreatDoorChecked
import GoSem.Claim
import GoSem.ClaimJoined
import GoSem.ClaimMapViews
import Derived.JoinedTies
import Derived.KernelRfl
namespace Go.Proofs.YtoeibiahbenpcaaGreatDoor
/- THE CELL 'sum', in the pinned program and in every row, IS THE sha256 OF THE DUMP (.gsa) THAT YtoeibiahbenpcaaGreatDoorProg.lean LOADS. Nothing in Lean hashes anything: it is a label: what it is worth is what the hold of that sum in a sandbox is worth. -/
noncomputable def Tryz.pinned : Pinned := { name := "ytoeibiahbenpcaagreatdoor", sum := "7c8d2ecce5359d5449fe1bcf3d39646714e343aca285fbba6b304fd8c4d829be", checked := Tryz.checked }
namespace Rows
def none {H : Type} : Left H := { results := [], args := [] }

/- WHAT THE LISTED PACKAGE-LEVEL VARIABLES READ AS WHEN THE CALL BEGINS. Each datum BY PROGRAM (the guide's laid-datum.mjs) off the statement by which the dump's own 'gosem.cut.vars' lays the variable. In a bare row this is a premise. The card (YtoeibiahbenpcaaGreatDoorCards.lean) ties it to the program's text. -/
def laid_webster_code_spans {H : Type} : DataW H := .agg [.agg [.lit (.int .i64 0), .lit (.int .i64 15), .lit (.int .i64 1)], .agg [.lit (.int .i64 16), .lit (.int .i64 31), .lit (.int .i64 2)], .agg [.lit (.int .i64 32), .lit (.int .i64 63), .lit (.int .i64 3)], .agg [.lit (.int .i64 64), .lit (.int .i64 95), .lit (.int .i64 4)], .agg [.lit (.int .i64 96), .lit (.int .i64 103), .lit (.int .i64 8)], .agg [.lit (.int .i64 104), .lit (.int .i64 111), .lit (.int .i64 9)], .agg [.lit (.int .i64 176), .lit (.int .i64 191), .lit (.int .i64 25)], .agg [.lit (.int .i64 192), .lit (.int .i64 207), .lit (.int .i64 26)]]
def laid_webster_code_stores {H : Type} : DataW H := .agg [.agg [.lit (.int .i64 1), .lit (.int .i64 2), .lit (.int .i64 3), .lit (.int .i64 4)], .agg [.lit (.int .i64 5), .lit (.int .i64 6), .lit (.int .i64 0), .lit (.int .i64 7)], .agg [.lit (.int .i64 8), .lit (.int .i64 9), .lit (.int .i64 0), .lit (.int .i64 10)]]

/-- 'webstertop.TopFreed': WHATEVER THE INPUT: true; the input reads as it did. -/
def topFreedSpec : ChangeSpec := { name := "topFreed", fn := fun _ => fun
  | [d1, d2, d3, d4] => { results := [.lit (.bool true)], args := [d1, d2, d3, d4] }
  | _ => none }
def topFreedRow : OpenClaim := { program := "ytoeibiahbenpcaagreatdoor", sum := "7c8d2ecce5359d5449fe1bcf3d39646714e343aca285fbba6b304fd8c4d829be", func := "webster/webstertop.TopFreed", spec := "topFreed", unfollowed := true, recurses := true, named := ["webster/code.spans", "webster/code.stores"], plainKeys := false, apart := false, laid := [("webster/code.spans", laid_webster_code_spans), ("webster/code.stores", laid_webster_code_stores)] }
def TopFreedSaid : Prop := topFreedRow.holds Tryz.pinned (OpenSpec.ofChange topFreedSpec)

/-- ITS FALSE NEIGHBOUR: 'it returns false'. Refute it at one input. -/
def topFreedWrong : ChangeSpec := { name := "topFreed", fn := fun _ => fun
  | [d1, d2, d3, d4] => { results := [.lit (.bool false)], args := [d1, d2, d3, d4] }
  | _ => none }
def TopFreedWrongFalsely : Prop := topFreedRow.holds Tryz.pinned (OpenSpec.ofChange topFreedWrong)

/- THE SECOND FORM. 'bulk': how many values and letters a reading holds, each counted each time it is reached (what is shared counts as often as it is met; a slice's spare places count too). A statement '..UptoSaid' is the law's where the arguments, and the package variables that the reading takes, are together of bulk at most 1048576: NARROWER than '..Said'. Prove '..Said' where nothing that the law and all that it calls make is longer than what came in: it says more and counts as full. Else prove '..UptoSaid'. A law counts once. -/
mutual
def uptoBulk {H : Type} : DataW H → Nat
  | .lit (.string bytes) => bytes.length + 1
  | .lit _ => 1
  | .nil => 1
  | .ptr d => uptoBulk d + 1
  | .slice elems spare => uptoBulkAll elems + uptoBulkAll spare + 1
  | .agg parts => uptoBulkAll parts + 1
  | .iface _ d => uptoBulk d + 1
  | .map entries => uptoBulkEntries entries + 1
  | .held _ => 1
def uptoBulkAll {H : Type} : List (DataW H) → Nat
  | [] => 0
  | d :: r => uptoBulk d + uptoBulkAll r
def uptoBulkEntries {H : Type} : List (Lit × DataW H) → Nat
  | [] => 0
  | x :: r => uptoBulkEntry x + uptoBulkEntries r
def uptoBulkEntry {H : Type} : Lit × DataW H → Nat
  | (.string bytes, d) => bytes.length + uptoBulk d + 1
  | (_, d) => uptoBulk d + 1
 end
def uptoSmall : (H : Type) → List (DataW H) → Bool := fun _ ds => decide (uptoBulkAll ds ≤ 1048576)
def OpenSpec.upto (s : _root_.Go.ChangeSpec) : _root_.Go.OpenSpec := { _root_.Go.OpenSpec.ofChange s with cond := some uptoSmall }

/-- 'webstertop.TopFreed', WHERE WHAT IT READS IS OF BULK AT MOST 1048576: true; the input reads as it did. -/
def topFreedUptoRow : OpenClaim := { program := "ytoeibiahbenpcaagreatdoor", sum := "7c8d2ecce5359d5449fe1bcf3d39646714e343aca285fbba6b304fd8c4d829be", func := "webster/webstertop.TopFreed", spec := "topFreed", unfollowed := true, recurses := true, named := ["webster/code.spans", "webster/code.stores"], plainKeys := false, apart := false, laid := [("webster/code.spans", laid_webster_code_spans), ("webster/code.stores", laid_webster_code_stores)], narrowed := true }
def TopFreedUptoSaid : Prop := topFreedUptoRow.holds Tryz.pinned (OpenSpec.upto topFreedSpec)

end Rows
end Go.Proofs.YtoeibiahbenpcaaGreatDoor
