/-
  No cell of these rows narrows 'for every input' (looked for: loops, veiled, ifaces, maps, wideKeys, modest, calm, conditions, laid).
  DERIVED. THE GIVEN ROWS OF THIS SEAT. 5 by the template 'for every input the law returns true; each argument reads behind the call as it read before'; 0 by the template 'total and deterministic' (their statements: YtpbokmmobepolaaTotals.lean).
  GIVEN WITH THE SEED: the statements are not yours to turn. If you find one false, say at which input.
  Laid BY PROGRAM, IN A SANDBOX (cutbox-rows.mjs): the forced cells as the released guide's own fill.sh prints them over the translation 2e0d4e31062a510c… (all of the seat's roots in one cut). By AI agents, Wed Nov 11 2026. No macro, syntax, notation, axiom, sorry.
-/
import Derived.Test.YtpbokmmobepolaaChecked
import GoSem.Claim
import GoSem.ClaimJoined
import GoSem.ClaimMapViews
import Derived.JoinedTies
import Derived.KernelRfl
namespace Go.Proofs.Ytpbokmmobepolaa
/- THE CELL 'sum', in the pinned program and in every row, IS THE sha256 OF THE DUMP (.gsa) THAT YtpbokmmobepolaaProg.lean LOADS. Nothing in Lean hashes anything: it is a label: what it is worth is what the hold of that sum in a sandbox is worth. -/
noncomputable def Try.pinned : Pinned := { name := "ytpbokmmobepolaa", sum := "2e0d4e31062a510cfdb80e94fd0aa60ec9de351ae8194d43f0bff3020a02e029", checked := Try.checked }
namespace Rows
def none {H : Type} : Left H := { results := [], args := [] }

/-- 'websterlaw04.ExtentSectors': WHATEVER THE INPUT: true; the input reads as it did. -/
def extentSectorsSpec : ChangeSpec := { name := "extentSectors", fn := fun _ => fun
  | [d] => { results := [.lit (.bool true)], args := [d] }
  | _ => none }
def extentSectorsRow : OpenClaim := { program := "ytpbokmmobepolaa", sum := "2e0d4e31062a510cfdb80e94fd0aa60ec9de351ae8194d43f0bff3020a02e029", func := "webster/websterlaw04.ExtentSectors", spec := "extentSectors", plainKeys := false, apart := false }
def ExtentSectorsSaid : Prop := extentSectorsRow.holds Try.pinned (OpenSpec.ofChange extentSectorsSpec)

/-- ITS FALSE NEIGHBOUR: 'it returns false'. Refute it at one input. -/
def extentSectorsWrong : ChangeSpec := { name := "extentSectors", fn := fun _ => fun
  | [d] => { results := [.lit (.bool false)], args := [d] }
  | _ => none }
def ExtentSectorsWrongFalsely : Prop := extentSectorsRow.holds Try.pinned (OpenSpec.ofChange extentSectorsWrong)

/-- 'websterlaw04.ExtentBack': WHATEVER THE INPUT: true; the input reads as it did. -/
def extentBackSpec : ChangeSpec := { name := "extentBack", fn := fun _ => fun
  | [d1, d2] => { results := [.lit (.bool true)], args := [d1, d2] }
  | _ => none }
def extentBackRow : OpenClaim := { program := "ytpbokmmobepolaa", sum := "2e0d4e31062a510cfdb80e94fd0aa60ec9de351ae8194d43f0bff3020a02e029", func := "webster/websterlaw04.ExtentBack", spec := "extentBack", plainKeys := false, apart := false }
def ExtentBackSaid : Prop := extentBackRow.holds Try.pinned (OpenSpec.ofChange extentBackSpec)

/-- ITS FALSE NEIGHBOUR: 'it returns false'. Refute it at one input. -/
def extentBackWrong : ChangeSpec := { name := "extentBack", fn := fun _ => fun
  | [d1, d2] => { results := [.lit (.bool false)], args := [d1, d2] }
  | _ => none }
def ExtentBackWrongFalsely : Prop := extentBackRow.holds Try.pinned (OpenSpec.ofChange extentBackWrong)

/-- 'websterlaw04.ExtentAgain': WHATEVER THE INPUT: true; the input reads as it did. -/
def extentAgainSpec : ChangeSpec := { name := "extentAgain", fn := fun _ => fun
  | [d1, d2] => { results := [.lit (.bool true)], args := [d1, d2] }
  | _ => none }
def extentAgainRow : OpenClaim := { program := "ytpbokmmobepolaa", sum := "2e0d4e31062a510cfdb80e94fd0aa60ec9de351ae8194d43f0bff3020a02e029", func := "webster/websterlaw04.ExtentAgain", spec := "extentAgain", plainKeys := false, apart := false }
def ExtentAgainSaid : Prop := extentAgainRow.holds Try.pinned (OpenSpec.ofChange extentAgainSpec)

/-- ITS FALSE NEIGHBOUR: 'it returns false'. Refute it at one input. -/
def extentAgainWrong : ChangeSpec := { name := "extentAgain", fn := fun _ => fun
  | [d1, d2] => { results := [.lit (.bool false)], args := [d1, d2] }
  | _ => none }
def ExtentAgainWrongFalsely : Prop := extentAgainRow.holds Try.pinned (OpenSpec.ofChange extentAgainWrong)

/-- 'websterlaw04.ExtentSet': WHATEVER THE INPUT: true; the input reads as it did. -/
def extentSetSpec : ChangeSpec := { name := "extentSet", fn := fun _ => fun
  | [d1, d2, d3, d4] => { results := [.lit (.bool true)], args := [d1, d2, d3, d4] }
  | _ => none }
def extentSetRow : OpenClaim := { program := "ytpbokmmobepolaa", sum := "2e0d4e31062a510cfdb80e94fd0aa60ec9de351ae8194d43f0bff3020a02e029", func := "webster/websterlaw04.ExtentSet", spec := "extentSet", plainKeys := false, apart := false }
def ExtentSetSaid : Prop := extentSetRow.holds Try.pinned (OpenSpec.ofChange extentSetSpec)

/-- ITS FALSE NEIGHBOUR: 'it returns false'. Refute it at one input. -/
def extentSetWrong : ChangeSpec := { name := "extentSet", fn := fun _ => fun
  | [d1, d2, d3, d4] => { results := [.lit (.bool false)], args := [d1, d2, d3, d4] }
  | _ => none }
def ExtentSetWrongFalsely : Prop := extentSetRow.holds Try.pinned (OpenSpec.ofChange extentSetWrong)

/-- 'websterlaw04.ExtentSteps': WHATEVER THE INPUT: true; the input reads as it did. -/
def extentStepsSpec : ChangeSpec := { name := "extentSteps", fn := fun _ => fun
  | [d1, d2] => { results := [.lit (.bool true)], args := [d1, d2] }
  | _ => none }
def extentStepsRow : OpenClaim := { program := "ytpbokmmobepolaa", sum := "2e0d4e31062a510cfdb80e94fd0aa60ec9de351ae8194d43f0bff3020a02e029", func := "webster/websterlaw04.ExtentSteps", spec := "extentSteps", plainKeys := false, apart := false }
def ExtentStepsSaid : Prop := extentStepsRow.holds Try.pinned (OpenSpec.ofChange extentStepsSpec)

/-- ITS FALSE NEIGHBOUR: 'it returns false'. Refute it at one input. -/
def extentStepsWrong : ChangeSpec := { name := "extentSteps", fn := fun _ => fun
  | [d1, d2] => { results := [.lit (.bool false)], args := [d1, d2] }
  | _ => none }
def ExtentStepsWrongFalsely : Prop := extentStepsRow.holds Try.pinned (OpenSpec.ofChange extentStepsWrong)

/- THE SECOND FORM. 'bulk': how many values and letters a reading holds, each counted each time it is reached (what is shared counts as often as it is met; a slice's spare places count too). A statement '..UptoSaid' is the law's where the arguments, and the package variables that the reading takes, are together of bulk at most 1048576: NARROWER than '..Said'. Prove '..Said' where nothing that the law and all that it calls make is longer than what came in: it says more and counts as full. Else prove '..UptoSaid'. A law counts once. -/
mutual
def uptoBulk {H : Type} : DataW H → Nat
  | .lit (.string bytes) => bytes.length + 1
  | .lit _ => 1
  | .nil => 1
  | .ptr d => uptoBulk d + 1
  | .slice elems spare => uptoBulkAll elems + uptoBulkAll spare + 1
  | .agg parts => uptoBulkAll parts + 1
  | .iface _ d => uptoBulk d + 1
  | .map entries => uptoBulkEntries entries + 1
  | .held _ => 1
def uptoBulkAll {H : Type} : List (DataW H) → Nat
  | [] => 0
  | d :: r => uptoBulk d + uptoBulkAll r
def uptoBulkEntries {H : Type} : List (Lit × DataW H) → Nat
  | [] => 0
  | x :: r => uptoBulkEntry x + uptoBulkEntries r
def uptoBulkEntry {H : Type} : Lit × DataW H → Nat
  | (.string bytes, d) => bytes.length + uptoBulk d + 1
  | (_, d) => uptoBulk d + 1
 end
def uptoSmall : (H : Type) → List (DataW H) → Bool := fun _ ds => decide (uptoBulkAll ds ≤ 1048576)
def OpenSpec.upto (s : _root_.Go.ChangeSpec) : _root_.Go.OpenSpec := { _root_.Go.OpenSpec.ofChange s with cond := some uptoSmall }

/-- 'websterlaw04.ExtentSectors', WHERE WHAT IT READS IS OF BULK AT MOST 1048576: true; the input reads as it did. -/
def extentSectorsUptoRow : OpenClaim := { program := "ytpbokmmobepolaa", sum := "2e0d4e31062a510cfdb80e94fd0aa60ec9de351ae8194d43f0bff3020a02e029", func := "webster/websterlaw04.ExtentSectors", spec := "extentSectors", plainKeys := false, apart := false, narrowed := true }
def ExtentSectorsUptoSaid : Prop := extentSectorsUptoRow.holds Try.pinned (OpenSpec.upto extentSectorsSpec)

/-- 'websterlaw04.ExtentBack', WHERE WHAT IT READS IS OF BULK AT MOST 1048576: true; the input reads as it did. -/
def extentBackUptoRow : OpenClaim := { program := "ytpbokmmobepolaa", sum := "2e0d4e31062a510cfdb80e94fd0aa60ec9de351ae8194d43f0bff3020a02e029", func := "webster/websterlaw04.ExtentBack", spec := "extentBack", plainKeys := false, apart := false, narrowed := true }
def ExtentBackUptoSaid : Prop := extentBackUptoRow.holds Try.pinned (OpenSpec.upto extentBackSpec)

/-- 'websterlaw04.ExtentAgain', WHERE WHAT IT READS IS OF BULK AT MOST 1048576: true; the input reads as it did. -/
def extentAgainUptoRow : OpenClaim := { program := "ytpbokmmobepolaa", sum := "2e0d4e31062a510cfdb80e94fd0aa60ec9de351ae8194d43f0bff3020a02e029", func := "webster/websterlaw04.ExtentAgain", spec := "extentAgain", plainKeys := false, apart := false, narrowed := true }
def ExtentAgainUptoSaid : Prop := extentAgainUptoRow.holds Try.pinned (OpenSpec.upto extentAgainSpec)

/-- 'websterlaw04.ExtentSet', WHERE WHAT IT READS IS OF BULK AT MOST 1048576: true; the input reads as it did. -/
def extentSetUptoRow : OpenClaim := { program := "ytpbokmmobepolaa", sum := "2e0d4e31062a510cfdb80e94fd0aa60ec9de351ae8194d43f0bff3020a02e029", func := "webster/websterlaw04.ExtentSet", spec := "extentSet", plainKeys := false, apart := false, narrowed := true }
def ExtentSetUptoSaid : Prop := extentSetUptoRow.holds Try.pinned (OpenSpec.upto extentSetSpec)

/-- 'websterlaw04.ExtentSteps', WHERE WHAT IT READS IS OF BULK AT MOST 1048576: true; the input reads as it did. -/
def extentStepsUptoRow : OpenClaim := { program := "ytpbokmmobepolaa", sum := "2e0d4e31062a510cfdb80e94fd0aa60ec9de351ae8194d43f0bff3020a02e029", func := "webster/websterlaw04.ExtentSteps", spec := "extentSteps", plainKeys := false, apart := false, narrowed := true }
def ExtentStepsUptoSaid : Prop := extentStepsUptoRow.holds Try.pinned (OpenSpec.upto extentStepsSpec)

end Rows
end Go.Proofs.Ytpbokmmobepolaa
