/-
  No cell of these rows narrows 'for every input' (looked for: loops, veiled, ifaces, maps, wideKeys, modest, calm, conditions, laid).
  DERIVED. THE GIVEN ROWS OF THIS SEAT. 11 by the template 'for every input the law returns true; each argument reads behind the call as it read before'; 0 by the template 'total and deterministic' (their statements: YtiidbfopbkbhpaaTotals.lean).
  GIVEN WITH THE SEED: the statements are not yours to turn. If you find one false, say at which input.
  Laid BY PROGRAM, IN A SANDBOX (cutbox-rows.mjs): the forced cells as the released guide's own fill.sh prints them over the translation 659aee0a2557d53d… (all of the seat's roots in one cut). By AI agents, Wed Nov 11 2026. No macro, syntax, notation, axiom, sorry.
-/
import Derived.Test.YtiidbfopbkbhpaaChecked
import GoSem.Claim
import GoSem.ClaimJoined
import GoSem.ClaimMapViews
import Derived.JoinedTies
import Derived.KernelRfl
namespace Go.Proofs.Ytiidbfopbkbhpaa
/- THE CELL 'sum', in the pinned program and in every row, IS THE sha256 OF THE DUMP (.gsa) THAT YtiidbfopbkbhpaaProg.lean LOADS. Nothing in Lean hashes anything: it is a label: what it is worth is what the hold of that sum in a sandbox is worth. -/
noncomputable def Try.pinned : Pinned := { name := "ytiidbfopbkbhpaa", sum := "659aee0a2557d53d821af0c40fbdd60f33eb553f199f38a0ab4d87251f1b6f77", checked := Try.checked }
namespace Rows
def none {H : Type} : Left H := { results := [], args := [] }

/-- 'websterlaw01.WordSmall': WHATEVER THE INPUT: true; the input reads as it did. -/
def wordSmallSpec : ChangeSpec := { name := "wordSmall", fn := fun _ => fun
  | [d] => { results := [.lit (.bool true)], args := [d] }
  | _ => none }
def wordSmallRow : OpenClaim := { program := "ytiidbfopbkbhpaa", sum := "659aee0a2557d53d821af0c40fbdd60f33eb553f199f38a0ab4d87251f1b6f77", func := "webster/websterlaw01.WordSmall", spec := "wordSmall", apart := false }
def WordSmallSaid : Prop := wordSmallRow.holds Try.pinned (OpenSpec.ofChange wordSmallSpec)

/-- ITS FALSE NEIGHBOUR: 'it returns false'. Refute it at one input. -/
def wordSmallWrong : ChangeSpec := { name := "wordSmall", fn := fun _ => fun
  | [d] => { results := [.lit (.bool false)], args := [d] }
  | _ => none }
def WordSmallWrongFalsely : Prop := wordSmallRow.holds Try.pinned (OpenSpec.ofChange wordSmallWrong)

/-- 'websterlaw01.WordNumber': WHATEVER THE INPUT: true; the input reads as it did. -/
def wordNumberSpec : ChangeSpec := { name := "wordNumber", fn := fun _ => fun
  | [d] => { results := [.lit (.bool true)], args := [d] }
  | _ => none }
def wordNumberRow : OpenClaim := { program := "ytiidbfopbkbhpaa", sum := "659aee0a2557d53d821af0c40fbdd60f33eb553f199f38a0ab4d87251f1b6f77", func := "webster/websterlaw01.WordNumber", spec := "wordNumber", apart := false }
def WordNumberSaid : Prop := wordNumberRow.holds Try.pinned (OpenSpec.ofChange wordNumberSpec)

/-- ITS FALSE NEIGHBOUR: 'it returns false'. Refute it at one input. -/
def wordNumberWrong : ChangeSpec := { name := "wordNumber", fn := fun _ => fun
  | [d] => { results := [.lit (.bool false)], args := [d] }
  | _ => none }
def WordNumberWrongFalsely : Prop := wordNumberRow.holds Try.pinned (OpenSpec.ofChange wordNumberWrong)

/-- 'websterlaw01.WordNamed': WHATEVER THE INPUT: true; the input reads as it did. -/
def wordNamedSpec : ChangeSpec := { name := "wordNamed", fn := fun _ => fun
  | [d] => { results := [.lit (.bool true)], args := [d] }
  | _ => none }
def wordNamedRow : OpenClaim := { program := "ytiidbfopbkbhpaa", sum := "659aee0a2557d53d821af0c40fbdd60f33eb553f199f38a0ab4d87251f1b6f77", func := "webster/websterlaw01.WordNamed", spec := "wordNamed", apart := false }
def WordNamedSaid : Prop := wordNamedRow.holds Try.pinned (OpenSpec.ofChange wordNamedSpec)

/-- ITS FALSE NEIGHBOUR: 'it returns false'. Refute it at one input. -/
def wordNamedWrong : ChangeSpec := { name := "wordNamed", fn := fun _ => fun
  | [d] => { results := [.lit (.bool false)], args := [d] }
  | _ => none }
def WordNamedWrongFalsely : Prop := wordNamedRow.holds Try.pinned (OpenSpec.ofChange wordNamedWrong)

/-- 'websterlaw01.WordOop': WHATEVER THE INPUT: true; the input reads as it did. -/
def wordOopSpec : ChangeSpec := { name := "wordOop", fn := fun _ => fun
  | [d] => { results := [.lit (.bool true)], args := [d] }
  | _ => none }
def wordOopRow : OpenClaim := { program := "ytiidbfopbkbhpaa", sum := "659aee0a2557d53d821af0c40fbdd60f33eb553f199f38a0ab4d87251f1b6f77", func := "webster/websterlaw01.WordOop", spec := "wordOop", apart := false }
def WordOopSaid : Prop := wordOopRow.holds Try.pinned (OpenSpec.ofChange wordOopSpec)

/-- ITS FALSE NEIGHBOUR: 'it returns false'. Refute it at one input. -/
def wordOopWrong : ChangeSpec := { name := "wordOop", fn := fun _ => fun
  | [d] => { results := [.lit (.bool false)], args := [d] }
  | _ => none }
def WordOopWrongFalsely : Prop := wordOopRow.holds Try.pinned (OpenSpec.ofChange wordOopWrong)

/-- 'websterlaw01.WordNumbers': WHATEVER THE INPUT: true; the input reads as it did. -/
def wordNumbersSpec : ChangeSpec := { name := "wordNumbers", fn := fun _ => fun
  | [d] => { results := [.lit (.bool true)], args := [d] }
  | _ => none }
def wordNumbersRow : OpenClaim := { program := "ytiidbfopbkbhpaa", sum := "659aee0a2557d53d821af0c40fbdd60f33eb553f199f38a0ab4d87251f1b6f77", func := "webster/websterlaw01.WordNumbers", spec := "wordNumbers", apart := false }
def WordNumbersSaid : Prop := wordNumbersRow.holds Try.pinned (OpenSpec.ofChange wordNumbersSpec)

/-- ITS FALSE NEIGHBOUR: 'it returns false'. Refute it at one input. -/
def wordNumbersWrong : ChangeSpec := { name := "wordNumbers", fn := fun _ => fun
  | [d] => { results := [.lit (.bool false)], args := [d] }
  | _ => none }
def WordNumbersWrongFalsely : Prop := wordNumbersRow.holds Try.pinned (OpenSpec.ofChange wordNumbersWrong)

/-- 'websterlaw01.WordNarrow': WHATEVER THE INPUT: true; the input reads as it did. -/
def wordNarrowSpec : ChangeSpec := { name := "wordNarrow", fn := fun _ => fun
  | [d] => { results := [.lit (.bool true)], args := [d] }
  | _ => none }
def wordNarrowRow : OpenClaim := { program := "ytiidbfopbkbhpaa", sum := "659aee0a2557d53d821af0c40fbdd60f33eb553f199f38a0ab4d87251f1b6f77", func := "webster/websterlaw01.WordNarrow", spec := "wordNarrow", apart := false }
def WordNarrowSaid : Prop := wordNarrowRow.holds Try.pinned (OpenSpec.ofChange wordNarrowSpec)

/-- ITS FALSE NEIGHBOUR: 'it returns false'. Refute it at one input. -/
def wordNarrowWrong : ChangeSpec := { name := "wordNarrow", fn := fun _ => fun
  | [d] => { results := [.lit (.bool false)], args := [d] }
  | _ => none }
def WordNarrowWrongFalsely : Prop := wordNarrowRow.holds Try.pinned (OpenSpec.ofChange wordNarrowWrong)

/-- 'websterlaw01.WordNames': WHATEVER THE INPUT: true; the input reads as it did. -/
def wordNamesSpec : ChangeSpec := { name := "wordNames", fn := fun _ => fun
  | [d1, d2] => { results := [.lit (.bool true)], args := [d1, d2] }
  | _ => none }
def wordNamesRow : OpenClaim := { program := "ytiidbfopbkbhpaa", sum := "659aee0a2557d53d821af0c40fbdd60f33eb553f199f38a0ab4d87251f1b6f77", func := "webster/websterlaw01.WordNames", spec := "wordNames", apart := false }
def WordNamesSaid : Prop := wordNamesRow.holds Try.pinned (OpenSpec.ofChange wordNamesSpec)

/-- ITS FALSE NEIGHBOUR: 'it returns false'. Refute it at one input. -/
def wordNamesWrong : ChangeSpec := { name := "wordNames", fn := fun _ => fun
  | [d1, d2] => { results := [.lit (.bool false)], args := [d1, d2] }
  | _ => none }
def WordNamesWrongFalsely : Prop := wordNamesRow.holds Try.pinned (OpenSpec.ofChange wordNamesWrong)

/-- 'websterlaw01.WordGet': WHATEVER THE INPUT: true; the input reads as it did. -/
def wordGetSpec : ChangeSpec := { name := "wordGet", fn := fun _ => fun
  | [d1, d2] => { results := [.lit (.bool true)], args := [d1, d2] }
  | _ => none }
def wordGetRow : OpenClaim := { program := "ytiidbfopbkbhpaa", sum := "659aee0a2557d53d821af0c40fbdd60f33eb553f199f38a0ab4d87251f1b6f77", func := "webster/websterlaw01.WordGet", spec := "wordGet", apart := false }
def WordGetSaid : Prop := wordGetRow.holds Try.pinned (OpenSpec.ofChange wordGetSpec)

/-- ITS FALSE NEIGHBOUR: 'it returns false'. Refute it at one input. -/
def wordGetWrong : ChangeSpec := { name := "wordGet", fn := fun _ => fun
  | [d1, d2] => { results := [.lit (.bool false)], args := [d1, d2] }
  | _ => none }
def WordGetWrongFalsely : Prop := wordGetRow.holds Try.pinned (OpenSpec.ofChange wordGetWrong)

/-- 'websterlaw01.WordBack': WHATEVER THE INPUT: true; the input reads as it did. -/
def wordBackSpec : ChangeSpec := { name := "wordBack", fn := fun _ => fun
  | [d1, d2] => { results := [.lit (.bool true)], args := [d1, d2] }
  | _ => none }
def wordBackRow : OpenClaim := { program := "ytiidbfopbkbhpaa", sum := "659aee0a2557d53d821af0c40fbdd60f33eb553f199f38a0ab4d87251f1b6f77", func := "webster/websterlaw01.WordBack", spec := "wordBack", apart := false }
def WordBackSaid : Prop := wordBackRow.holds Try.pinned (OpenSpec.ofChange wordBackSpec)

/-- ITS FALSE NEIGHBOUR: 'it returns false'. Refute it at one input. -/
def wordBackWrong : ChangeSpec := { name := "wordBack", fn := fun _ => fun
  | [d1, d2] => { results := [.lit (.bool false)], args := [d1, d2] }
  | _ => none }
def WordBackWrongFalsely : Prop := wordBackRow.holds Try.pinned (OpenSpec.ofChange wordBackWrong)

/-- 'websterlaw01.WordBytes': WHATEVER THE INPUT: true; the input reads as it did. -/
def wordBytesSpec : ChangeSpec := { name := "wordBytes", fn := fun _ => fun
  | [d1, d2, d3] => { results := [.lit (.bool true)], args := [d1, d2, d3] }
  | _ => none }
def wordBytesRow : OpenClaim := { program := "ytiidbfopbkbhpaa", sum := "659aee0a2557d53d821af0c40fbdd60f33eb553f199f38a0ab4d87251f1b6f77", func := "webster/websterlaw01.WordBytes", spec := "wordBytes", apart := false }
def WordBytesSaid : Prop := wordBytesRow.holds Try.pinned (OpenSpec.ofChange wordBytesSpec)

/-- ITS FALSE NEIGHBOUR: 'it returns false'. Refute it at one input. -/
def wordBytesWrong : ChangeSpec := { name := "wordBytes", fn := fun _ => fun
  | [d1, d2, d3] => { results := [.lit (.bool false)], args := [d1, d2, d3] }
  | _ => none }
def WordBytesWrongFalsely : Prop := wordBytesRow.holds Try.pinned (OpenSpec.ofChange wordBytesWrong)

/-- 'websterlaw01.WordPut': WHATEVER THE INPUT: true; the input reads as it did. -/
def wordPutSpec : ChangeSpec := { name := "wordPut", fn := fun _ => fun
  | [d1, d2] => { results := [.lit (.bool true)], args := [d1, d2] }
  | _ => none }
def wordPutRow : OpenClaim := { program := "ytiidbfopbkbhpaa", sum := "659aee0a2557d53d821af0c40fbdd60f33eb553f199f38a0ab4d87251f1b6f77", func := "webster/websterlaw01.WordPut", spec := "wordPut", apart := false }
def WordPutSaid : Prop := wordPutRow.holds Try.pinned (OpenSpec.ofChange wordPutSpec)

/-- ITS FALSE NEIGHBOUR: 'it returns false'. Refute it at one input. -/
def wordPutWrong : ChangeSpec := { name := "wordPut", fn := fun _ => fun
  | [d1, d2] => { results := [.lit (.bool false)], args := [d1, d2] }
  | _ => none }
def WordPutWrongFalsely : Prop := wordPutRow.holds Try.pinned (OpenSpec.ofChange wordPutWrong)

/- THE SECOND FORM. 'bulk': how many values and letters a reading holds, each counted each time it is reached (what is shared counts as often as it is met; a slice's spare places count too). A statement '..UptoSaid' is the law's where the arguments, and the package variables that the reading takes, are together of bulk at most 1048576: NARROWER than '..Said'. Prove '..Said' where nothing that the law and all that it calls make is longer than what came in: it says more and counts as full. Else prove '..UptoSaid'. A law counts once. -/
mutual
def uptoBulk {H : Type} : DataW H → Nat
  | .lit (.string bytes) => bytes.length + 1
  | .lit _ => 1
  | .nil => 1
  | .ptr d => uptoBulk d + 1
  | .slice elems spare => uptoBulkAll elems + uptoBulkAll spare + 1
  | .agg parts => uptoBulkAll parts + 1
  | .iface _ d => uptoBulk d + 1
  | .map entries => uptoBulkEntries entries + 1
  | .held _ => 1
def uptoBulkAll {H : Type} : List (DataW H) → Nat
  | [] => 0
  | d :: r => uptoBulk d + uptoBulkAll r
def uptoBulkEntries {H : Type} : List (Lit × DataW H) → Nat
  | [] => 0
  | x :: r => uptoBulkEntry x + uptoBulkEntries r
def uptoBulkEntry {H : Type} : Lit × DataW H → Nat
  | (.string bytes, d) => bytes.length + uptoBulk d + 1
  | (_, d) => uptoBulk d + 1
 end
def uptoSmall : (H : Type) → List (DataW H) → Bool := fun _ ds => decide (uptoBulkAll ds ≤ 1048576)
def OpenSpec.upto (s : _root_.Go.ChangeSpec) : _root_.Go.OpenSpec := { _root_.Go.OpenSpec.ofChange s with cond := some uptoSmall }

/-- 'websterlaw01.WordSmall', WHERE WHAT IT READS IS OF BULK AT MOST 1048576: true; the input reads as it did. -/
def wordSmallUptoRow : OpenClaim := { program := "ytiidbfopbkbhpaa", sum := "659aee0a2557d53d821af0c40fbdd60f33eb553f199f38a0ab4d87251f1b6f77", func := "webster/websterlaw01.WordSmall", spec := "wordSmall", apart := false, narrowed := true }
def WordSmallUptoSaid : Prop := wordSmallUptoRow.holds Try.pinned (OpenSpec.upto wordSmallSpec)

/-- 'websterlaw01.WordNumber', WHERE WHAT IT READS IS OF BULK AT MOST 1048576: true; the input reads as it did. -/
def wordNumberUptoRow : OpenClaim := { program := "ytiidbfopbkbhpaa", sum := "659aee0a2557d53d821af0c40fbdd60f33eb553f199f38a0ab4d87251f1b6f77", func := "webster/websterlaw01.WordNumber", spec := "wordNumber", apart := false, narrowed := true }
def WordNumberUptoSaid : Prop := wordNumberUptoRow.holds Try.pinned (OpenSpec.upto wordNumberSpec)

/-- 'websterlaw01.WordNamed', WHERE WHAT IT READS IS OF BULK AT MOST 1048576: true; the input reads as it did. -/
def wordNamedUptoRow : OpenClaim := { program := "ytiidbfopbkbhpaa", sum := "659aee0a2557d53d821af0c40fbdd60f33eb553f199f38a0ab4d87251f1b6f77", func := "webster/websterlaw01.WordNamed", spec := "wordNamed", apart := false, narrowed := true }
def WordNamedUptoSaid : Prop := wordNamedUptoRow.holds Try.pinned (OpenSpec.upto wordNamedSpec)

/-- 'websterlaw01.WordOop', WHERE WHAT IT READS IS OF BULK AT MOST 1048576: true; the input reads as it did. -/
def wordOopUptoRow : OpenClaim := { program := "ytiidbfopbkbhpaa", sum := "659aee0a2557d53d821af0c40fbdd60f33eb553f199f38a0ab4d87251f1b6f77", func := "webster/websterlaw01.WordOop", spec := "wordOop", apart := false, narrowed := true }
def WordOopUptoSaid : Prop := wordOopUptoRow.holds Try.pinned (OpenSpec.upto wordOopSpec)

/-- 'websterlaw01.WordNumbers', WHERE WHAT IT READS IS OF BULK AT MOST 1048576: true; the input reads as it did. -/
def wordNumbersUptoRow : OpenClaim := { program := "ytiidbfopbkbhpaa", sum := "659aee0a2557d53d821af0c40fbdd60f33eb553f199f38a0ab4d87251f1b6f77", func := "webster/websterlaw01.WordNumbers", spec := "wordNumbers", apart := false, narrowed := true }
def WordNumbersUptoSaid : Prop := wordNumbersUptoRow.holds Try.pinned (OpenSpec.upto wordNumbersSpec)

/-- 'websterlaw01.WordNarrow', WHERE WHAT IT READS IS OF BULK AT MOST 1048576: true; the input reads as it did. -/
def wordNarrowUptoRow : OpenClaim := { program := "ytiidbfopbkbhpaa", sum := "659aee0a2557d53d821af0c40fbdd60f33eb553f199f38a0ab4d87251f1b6f77", func := "webster/websterlaw01.WordNarrow", spec := "wordNarrow", apart := false, narrowed := true }
def WordNarrowUptoSaid : Prop := wordNarrowUptoRow.holds Try.pinned (OpenSpec.upto wordNarrowSpec)

/-- 'websterlaw01.WordNames', WHERE WHAT IT READS IS OF BULK AT MOST 1048576: true; the input reads as it did. -/
def wordNamesUptoRow : OpenClaim := { program := "ytiidbfopbkbhpaa", sum := "659aee0a2557d53d821af0c40fbdd60f33eb553f199f38a0ab4d87251f1b6f77", func := "webster/websterlaw01.WordNames", spec := "wordNames", apart := false, narrowed := true }
def WordNamesUptoSaid : Prop := wordNamesUptoRow.holds Try.pinned (OpenSpec.upto wordNamesSpec)

/-- 'websterlaw01.WordGet', WHERE WHAT IT READS IS OF BULK AT MOST 1048576: true; the input reads as it did. -/
def wordGetUptoRow : OpenClaim := { program := "ytiidbfopbkbhpaa", sum := "659aee0a2557d53d821af0c40fbdd60f33eb553f199f38a0ab4d87251f1b6f77", func := "webster/websterlaw01.WordGet", spec := "wordGet", apart := false, narrowed := true }
def WordGetUptoSaid : Prop := wordGetUptoRow.holds Try.pinned (OpenSpec.upto wordGetSpec)

/-- 'websterlaw01.WordBack', WHERE WHAT IT READS IS OF BULK AT MOST 1048576: true; the input reads as it did. -/
def wordBackUptoRow : OpenClaim := { program := "ytiidbfopbkbhpaa", sum := "659aee0a2557d53d821af0c40fbdd60f33eb553f199f38a0ab4d87251f1b6f77", func := "webster/websterlaw01.WordBack", spec := "wordBack", apart := false, narrowed := true }
def WordBackUptoSaid : Prop := wordBackUptoRow.holds Try.pinned (OpenSpec.upto wordBackSpec)

/-- 'websterlaw01.WordBytes', WHERE WHAT IT READS IS OF BULK AT MOST 1048576: true; the input reads as it did. -/
def wordBytesUptoRow : OpenClaim := { program := "ytiidbfopbkbhpaa", sum := "659aee0a2557d53d821af0c40fbdd60f33eb553f199f38a0ab4d87251f1b6f77", func := "webster/websterlaw01.WordBytes", spec := "wordBytes", apart := false, narrowed := true }
def WordBytesUptoSaid : Prop := wordBytesUptoRow.holds Try.pinned (OpenSpec.upto wordBytesSpec)

/-- 'websterlaw01.WordPut', WHERE WHAT IT READS IS OF BULK AT MOST 1048576: true; the input reads as it did. -/
def wordPutUptoRow : OpenClaim := { program := "ytiidbfopbkbhpaa", sum := "659aee0a2557d53d821af0c40fbdd60f33eb553f199f38a0ab4d87251f1b6f77", func := "webster/websterlaw01.WordPut", spec := "wordPut", apart := false, narrowed := true }
def WordPutUptoSaid : Prop := wordPutUptoRow.holds Try.pinned (OpenSpec.upto wordPutSpec)

end Rows
end Go.Proofs.Ytiidbfopbkbhpaa
