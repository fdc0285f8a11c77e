/-
  No cell of these rows narrows 'for every input' (looked for: loops, veiled, ifaces, maps, wideKeys, modest, calm, conditions, laid).
  DERIVED. THE GIVEN ROWS OF THIS SEAT. 7 by the template 'for every input the law returns true; each argument reads behind the call as it read before'; 0 by the template 'total and deterministic' (their statements: YtbkaafbkmcgfjaaTotals.lean).
  GIVEN WITH THE SEED: the statements are not yours to turn. If you find one false, say at which input.
  Laid BY PROGRAM, IN A SANDBOX (cutbox-rows.mjs): the forced cells as the released guide's own fill.sh prints them over the translation 2b422646da76ad19… (all of the seat's roots in one cut). By AI agents, Wed Nov 11 2026. No macro, syntax, notation, axiom, sorry.
-/
import Derived.Test.YtbkaafbkmcgfjaaChecked
import GoSem.Claim
import GoSem.ClaimJoined
import GoSem.ClaimMapViews
import Derived.JoinedTies
import Derived.KernelRfl
namespace Go.Proofs.Ytbkaafbkmcgfjaa
/- THE CELL 'sum', in the pinned program and in every row, IS THE sha256 OF THE DUMP (.gsa) THAT YtbkaafbkmcgfjaaProg.lean LOADS. Nothing in Lean hashes anything: it is a label: what it is worth is what the hold of that sum in a sandbox is worth. -/
noncomputable def Try.pinned : Pinned := { name := "ytbkaafbkmcgfjaa", sum := "2b422646da76ad19ad8b5420362183698be6159d81363f2f2c75f7477473daa7", checked := Try.checked }
namespace Rows
def none {H : Type} : Left H := { results := [], args := [] }

/-- 'websterlaw20.SchedGreatest': WHATEVER THE INPUT: true; the input reads as it did. -/
def schedGreatestSpec : ChangeSpec := { name := "schedGreatest", fn := fun _ => fun
  | [d] => { results := [.lit (.bool true)], args := [d] }
  | _ => none }
def schedGreatestRow : OpenClaim := { program := "ytbkaafbkmcgfjaa", sum := "2b422646da76ad19ad8b5420362183698be6159d81363f2f2c75f7477473daa7", func := "webster/websterlaw20.SchedGreatest", spec := "schedGreatest", apart := false }
def SchedGreatestSaid : Prop := schedGreatestRow.holds Try.pinned (OpenSpec.ofChange schedGreatestSpec)

/-- ITS FALSE NEIGHBOUR: 'it returns false'. Refute it at one input. -/
def schedGreatestWrong : ChangeSpec := { name := "schedGreatest", fn := fun _ => fun
  | [d] => { results := [.lit (.bool false)], args := [d] }
  | _ => none }
def SchedGreatestWrongFalsely : Prop := schedGreatestRow.holds Try.pinned (OpenSpec.ofChange schedGreatestWrong)

/-- 'websterlaw20.SchedTurns': WHATEVER THE INPUT: true; the input reads as it did. -/
def schedTurnsSpec : ChangeSpec := { name := "schedTurns", fn := fun _ => fun
  | [d1, d2, d3] => { results := [.lit (.bool true)], args := [d1, d2, d3] }
  | _ => none }
def schedTurnsRow : OpenClaim := { program := "ytbkaafbkmcgfjaa", sum := "2b422646da76ad19ad8b5420362183698be6159d81363f2f2c75f7477473daa7", func := "webster/websterlaw20.SchedTurns", spec := "schedTurns", apart := false }
def SchedTurnsSaid : Prop := schedTurnsRow.holds Try.pinned (OpenSpec.ofChange schedTurnsSpec)

/-- ITS FALSE NEIGHBOUR: 'it returns false'. Refute it at one input. -/
def schedTurnsWrong : ChangeSpec := { name := "schedTurns", fn := fun _ => fun
  | [d1, d2, d3] => { results := [.lit (.bool false)], args := [d1, d2, d3] }
  | _ => none }
def SchedTurnsWrongFalsely : Prop := schedTurnsRow.holds Try.pinned (OpenSpec.ofChange schedTurnsWrong)

/-- 'websterlaw20.SchedSteps': WHATEVER THE INPUT: true; the input reads as it did. -/
def schedStepsSpec : ChangeSpec := { name := "schedSteps", fn := fun _ => fun
  | [d] => { results := [.lit (.bool true)], args := [d] }
  | _ => none }
def schedStepsRow : OpenClaim := { program := "ytbkaafbkmcgfjaa", sum := "2b422646da76ad19ad8b5420362183698be6159d81363f2f2c75f7477473daa7", func := "webster/websterlaw20.SchedSteps", spec := "schedSteps", apart := false }
def SchedStepsSaid : Prop := schedStepsRow.holds Try.pinned (OpenSpec.ofChange schedStepsSpec)

/-- ITS FALSE NEIGHBOUR: 'it returns false'. Refute it at one input. -/
def schedStepsWrong : ChangeSpec := { name := "schedSteps", fn := fun _ => fun
  | [d] => { results := [.lit (.bool false)], args := [d] }
  | _ => none }
def SchedStepsWrongFalsely : Prop := schedStepsRow.holds Try.pinned (OpenSpec.ofChange schedStepsWrong)

/-- 'websterlaw20.SchedOne': WHATEVER THE INPUT: true; the input reads as it did. -/
def schedOneSpec : ChangeSpec := { name := "schedOne", fn := fun _ => fun
  | [d] => { results := [.lit (.bool true)], args := [d] }
  | _ => none }
def schedOneRow : OpenClaim := { program := "ytbkaafbkmcgfjaa", sum := "2b422646da76ad19ad8b5420362183698be6159d81363f2f2c75f7477473daa7", func := "webster/websterlaw20.SchedOne", spec := "schedOne", apart := false }
def SchedOneSaid : Prop := schedOneRow.holds Try.pinned (OpenSpec.ofChange schedOneSpec)

/-- ITS FALSE NEIGHBOUR: 'it returns false'. Refute it at one input. -/
def schedOneWrong : ChangeSpec := { name := "schedOne", fn := fun _ => fun
  | [d] => { results := [.lit (.bool false)], args := [d] }
  | _ => none }
def SchedOneWrongFalsely : Prop := schedOneRow.holds Try.pinned (OpenSpec.ofChange schedOneWrong)

/-- 'websterlaw20.SchedMany': WHATEVER THE INPUT: true; the input reads as it did. -/
def schedManySpec : ChangeSpec := { name := "schedMany", fn := fun _ => fun
  | [d1, d2] => { results := [.lit (.bool true)], args := [d1, d2] }
  | _ => none }
def schedManyRow : OpenClaim := { program := "ytbkaafbkmcgfjaa", sum := "2b422646da76ad19ad8b5420362183698be6159d81363f2f2c75f7477473daa7", func := "webster/websterlaw20.SchedMany", spec := "schedMany", apart := false }
def SchedManySaid : Prop := schedManyRow.holds Try.pinned (OpenSpec.ofChange schedManySpec)

/-- ITS FALSE NEIGHBOUR: 'it returns false'. Refute it at one input. -/
def schedManyWrong : ChangeSpec := { name := "schedMany", fn := fun _ => fun
  | [d1, d2] => { results := [.lit (.bool false)], args := [d1, d2] }
  | _ => none }
def SchedManyWrongFalsely : Prop := schedManyRow.holds Try.pinned (OpenSpec.ofChange schedManyWrong)

/-- 'websterlaw20.SchedSignals': WHATEVER THE INPUT: true; the input reads as it did. -/
def schedSignalsSpec : ChangeSpec := { name := "schedSignals", fn := fun _ => fun
  | [d1, d2] => { results := [.lit (.bool true)], args := [d1, d2] }
  | _ => none }
def schedSignalsRow : OpenClaim := { program := "ytbkaafbkmcgfjaa", sum := "2b422646da76ad19ad8b5420362183698be6159d81363f2f2c75f7477473daa7", func := "webster/websterlaw20.SchedSignals", spec := "schedSignals", apart := false }
def SchedSignalsSaid : Prop := schedSignalsRow.holds Try.pinned (OpenSpec.ofChange schedSignalsSpec)

/-- ITS FALSE NEIGHBOUR: 'it returns false'. Refute it at one input. -/
def schedSignalsWrong : ChangeSpec := { name := "schedSignals", fn := fun _ => fun
  | [d1, d2] => { results := [.lit (.bool false)], args := [d1, d2] }
  | _ => none }
def SchedSignalsWrongFalsely : Prop := schedSignalsRow.holds Try.pinned (OpenSpec.ofChange schedSignalsWrong)

/-- 'websterlaw20.SchedNone': WHATEVER THE INPUT: true; the input reads as it did. -/
def schedNoneSpec : ChangeSpec := { name := "schedNone", fn := fun _ => fun
  | [d1, d2] => { results := [.lit (.bool true)], args := [d1, d2] }
  | _ => none }
def schedNoneRow : OpenClaim := { program := "ytbkaafbkmcgfjaa", sum := "2b422646da76ad19ad8b5420362183698be6159d81363f2f2c75f7477473daa7", func := "webster/websterlaw20.SchedNone", spec := "schedNone", apart := false }
def SchedNoneSaid : Prop := schedNoneRow.holds Try.pinned (OpenSpec.ofChange schedNoneSpec)

/-- ITS FALSE NEIGHBOUR: 'it returns false'. Refute it at one input. -/
def schedNoneWrong : ChangeSpec := { name := "schedNone", fn := fun _ => fun
  | [d1, d2] => { results := [.lit (.bool false)], args := [d1, d2] }
  | _ => none }
def SchedNoneWrongFalsely : Prop := schedNoneRow.holds Try.pinned (OpenSpec.ofChange schedNoneWrong)

/- THE SECOND FORM. 'bulk': how many values and letters a reading holds, each counted each time it is reached (what is shared counts as often as it is met; a slice's spare places count too). A statement '..UptoSaid' is the law's where the arguments, and the package variables that the reading takes, are together of bulk at most 1048576: NARROWER than '..Said'. Prove '..Said' where nothing that the law and all that it calls make is longer than what came in: it says more and counts as full. Else prove '..UptoSaid'. A law counts once. -/
mutual
def uptoBulk {H : Type} : DataW H → Nat
  | .lit (.string bytes) => bytes.length + 1
  | .lit _ => 1
  | .nil => 1
  | .ptr d => uptoBulk d + 1
  | .slice elems spare => uptoBulkAll elems + uptoBulkAll spare + 1
  | .agg parts => uptoBulkAll parts + 1
  | .iface _ d => uptoBulk d + 1
  | .map entries => uptoBulkEntries entries + 1
  | .held _ => 1
def uptoBulkAll {H : Type} : List (DataW H) → Nat
  | [] => 0
  | d :: r => uptoBulk d + uptoBulkAll r
def uptoBulkEntries {H : Type} : List (Lit × DataW H) → Nat
  | [] => 0
  | x :: r => uptoBulkEntry x + uptoBulkEntries r
def uptoBulkEntry {H : Type} : Lit × DataW H → Nat
  | (.string bytes, d) => bytes.length + uptoBulk d + 1
  | (_, d) => uptoBulk d + 1
 end
def uptoSmall : (H : Type) → List (DataW H) → Bool := fun _ ds => decide (uptoBulkAll ds ≤ 1048576)
def OpenSpec.upto (s : _root_.Go.ChangeSpec) : _root_.Go.OpenSpec := { _root_.Go.OpenSpec.ofChange s with cond := some uptoSmall }

/-- 'websterlaw20.SchedGreatest', WHERE WHAT IT READS IS OF BULK AT MOST 1048576: true; the input reads as it did. -/
def schedGreatestUptoRow : OpenClaim := { program := "ytbkaafbkmcgfjaa", sum := "2b422646da76ad19ad8b5420362183698be6159d81363f2f2c75f7477473daa7", func := "webster/websterlaw20.SchedGreatest", spec := "schedGreatest", apart := false, narrowed := true }
def SchedGreatestUptoSaid : Prop := schedGreatestUptoRow.holds Try.pinned (OpenSpec.upto schedGreatestSpec)

/-- 'websterlaw20.SchedTurns', WHERE WHAT IT READS IS OF BULK AT MOST 1048576: true; the input reads as it did. -/
def schedTurnsUptoRow : OpenClaim := { program := "ytbkaafbkmcgfjaa", sum := "2b422646da76ad19ad8b5420362183698be6159d81363f2f2c75f7477473daa7", func := "webster/websterlaw20.SchedTurns", spec := "schedTurns", apart := false, narrowed := true }
def SchedTurnsUptoSaid : Prop := schedTurnsUptoRow.holds Try.pinned (OpenSpec.upto schedTurnsSpec)

/-- 'websterlaw20.SchedSteps', WHERE WHAT IT READS IS OF BULK AT MOST 1048576: true; the input reads as it did. -/
def schedStepsUptoRow : OpenClaim := { program := "ytbkaafbkmcgfjaa", sum := "2b422646da76ad19ad8b5420362183698be6159d81363f2f2c75f7477473daa7", func := "webster/websterlaw20.SchedSteps", spec := "schedSteps", apart := false, narrowed := true }
def SchedStepsUptoSaid : Prop := schedStepsUptoRow.holds Try.pinned (OpenSpec.upto schedStepsSpec)

/-- 'websterlaw20.SchedOne', WHERE WHAT IT READS IS OF BULK AT MOST 1048576: true; the input reads as it did. -/
def schedOneUptoRow : OpenClaim := { program := "ytbkaafbkmcgfjaa", sum := "2b422646da76ad19ad8b5420362183698be6159d81363f2f2c75f7477473daa7", func := "webster/websterlaw20.SchedOne", spec := "schedOne", apart := false, narrowed := true }
def SchedOneUptoSaid : Prop := schedOneUptoRow.holds Try.pinned (OpenSpec.upto schedOneSpec)

/-- 'websterlaw20.SchedMany', WHERE WHAT IT READS IS OF BULK AT MOST 1048576: true; the input reads as it did. -/
def schedManyUptoRow : OpenClaim := { program := "ytbkaafbkmcgfjaa", sum := "2b422646da76ad19ad8b5420362183698be6159d81363f2f2c75f7477473daa7", func := "webster/websterlaw20.SchedMany", spec := "schedMany", apart := false, narrowed := true }
def SchedManyUptoSaid : Prop := schedManyUptoRow.holds Try.pinned (OpenSpec.upto schedManySpec)

/-- 'websterlaw20.SchedSignals', WHERE WHAT IT READS IS OF BULK AT MOST 1048576: true; the input reads as it did. -/
def schedSignalsUptoRow : OpenClaim := { program := "ytbkaafbkmcgfjaa", sum := "2b422646da76ad19ad8b5420362183698be6159d81363f2f2c75f7477473daa7", func := "webster/websterlaw20.SchedSignals", spec := "schedSignals", apart := false, narrowed := true }
def SchedSignalsUptoSaid : Prop := schedSignalsUptoRow.holds Try.pinned (OpenSpec.upto schedSignalsSpec)

/-- 'websterlaw20.SchedNone', WHERE WHAT IT READS IS OF BULK AT MOST 1048576: true; the input reads as it did. -/
def schedNoneUptoRow : OpenClaim := { program := "ytbkaafbkmcgfjaa", sum := "2b422646da76ad19ad8b5420362183698be6159d81363f2f2c75f7477473daa7", func := "webster/websterlaw20.SchedNone", spec := "schedNone", apart := false, narrowed := true }
def SchedNoneUptoSaid : Prop := schedNoneUptoRow.holds Try.pinned (OpenSpec.upto schedNoneSpec)

end Rows
end Go.Proofs.Ytbkaafbkmcgfjaa
