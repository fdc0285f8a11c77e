/-
  No cell of these rows narrows 'for every input' (looked for: loops, veiled, ifaces, maps, wideKeys, modest, calm, conditions, laid).
  DERIVED. THE GIVEN ROWS OF THIS SEAT. 10 by the template 'for every input the law returns true; each argument reads behind the call as it read before'; 0 by the template 'total and deterministic' (their statements: YtcecegcbkcdpjaaTotals.lean).
  GIVEN WITH THE SEED: the statements are not yours to turn. If you find one false, say at which input.
  Laid BY PROGRAM, IN A SANDBOX (cutbox-rows.mjs): the forced cells as the released guide's own fill.sh prints them over the translation 4c71700b88106d03… (all of the seat's roots in one cut). By AI agents, Wed Nov 11 2026. No macro, syntax, notation, axiom, sorry.
-/
import Derived.Test.YtcecegcbkcdpjaaChecked
import GoSem.Claim
import GoSem.ClaimJoined
import GoSem.ClaimMapViews
import Derived.JoinedTies
import Derived.KernelRfl
namespace Go.Proofs.Ytcecegcbkcdpjaa
/- THE CELL 'sum', in the pinned program and in every row, IS THE sha256 OF THE DUMP (.gsa) THAT YtcecegcbkcdpjaaProg.lean LOADS. Nothing in Lean hashes anything: it is a label: what it is worth is what the hold of that sum in a sandbox is worth. -/
noncomputable def Try.pinned : Pinned := { name := "ytcecegcbkcdpjaa", sum := "4c71700b88106d03eb9c8792294a65e427c12f0454334050f160687977d4e3a3", checked := Try.checked }
namespace Rows
def none {H : Type} : Left H := { results := [], args := [] }

/-- 'websterlaw02.BitsNew': WHATEVER THE INPUT: true; the input reads as it did. -/
def bitsNewSpec : ChangeSpec := { name := "bitsNew", fn := fun _ => fun
  | [d] => { results := [.lit (.bool true)], args := [d] }
  | _ => none }
def bitsNewRow : OpenClaim := { program := "ytcecegcbkcdpjaa", sum := "4c71700b88106d03eb9c8792294a65e427c12f0454334050f160687977d4e3a3", func := "webster/websterlaw02.BitsNew", spec := "bitsNew", apart := false }
def BitsNewSaid : Prop := bitsNewRow.holds Try.pinned (OpenSpec.ofChange bitsNewSpec)

/-- ITS FALSE NEIGHBOUR: 'it returns false'. Refute it at one input. -/
def bitsNewWrong : ChangeSpec := { name := "bitsNew", fn := fun _ => fun
  | [d] => { results := [.lit (.bool false)], args := [d] }
  | _ => none }
def BitsNewWrongFalsely : Prop := bitsNewRow.holds Try.pinned (OpenSpec.ofChange bitsNewWrong)

/-- 'websterlaw02.BitsApart': WHATEVER THE INPUT: true; the input reads as it did. -/
def bitsApartSpec : ChangeSpec := { name := "bitsApart", fn := fun _ => fun
  | [d1, d2, d3, d4] => { results := [.lit (.bool true)], args := [d1, d2, d3, d4] }
  | _ => none }
def bitsApartRow : OpenClaim := { program := "ytcecegcbkcdpjaa", sum := "4c71700b88106d03eb9c8792294a65e427c12f0454334050f160687977d4e3a3", func := "webster/websterlaw02.BitsApart", spec := "bitsApart", apart := false }
def BitsApartSaid : Prop := bitsApartRow.holds Try.pinned (OpenSpec.ofChange bitsApartSpec)

/-- ITS FALSE NEIGHBOUR: 'it returns false'. Refute it at one input. -/
def bitsApartWrong : ChangeSpec := { name := "bitsApart", fn := fun _ => fun
  | [d1, d2, d3, d4] => { results := [.lit (.bool false)], args := [d1, d2, d3, d4] }
  | _ => none }
def BitsApartWrongFalsely : Prop := bitsApartRow.holds Try.pinned (OpenSpec.ofChange bitsApartWrong)

/-- 'websterlaw02.BitsBack': WHATEVER THE INPUT: true; the input reads as it did. -/
def bitsBackSpec : ChangeSpec := { name := "bitsBack", fn := fun _ => fun
  | [d1, d2, d3] => { results := [.lit (.bool true)], args := [d1, d2, d3] }
  | _ => none }
def bitsBackRow : OpenClaim := { program := "ytcecegcbkcdpjaa", sum := "4c71700b88106d03eb9c8792294a65e427c12f0454334050f160687977d4e3a3", func := "webster/websterlaw02.BitsBack", spec := "bitsBack", apart := false }
def BitsBackSaid : Prop := bitsBackRow.holds Try.pinned (OpenSpec.ofChange bitsBackSpec)

/-- ITS FALSE NEIGHBOUR: 'it returns false'. Refute it at one input. -/
def bitsBackWrong : ChangeSpec := { name := "bitsBack", fn := fun _ => fun
  | [d1, d2, d3] => { results := [.lit (.bool false)], args := [d1, d2, d3] }
  | _ => none }
def BitsBackWrongFalsely : Prop := bitsBackRow.holds Try.pinned (OpenSpec.ofChange bitsBackWrong)

/-- 'websterlaw02.BitsRuns': WHATEVER THE INPUT: true; the input reads as it did. -/
def bitsRunsSpec : ChangeSpec := { name := "bitsRuns", fn := fun _ => fun
  | [d1, d2, d3] => { results := [.lit (.bool true)], args := [d1, d2, d3] }
  | _ => none }
def bitsRunsRow : OpenClaim := { program := "ytcecegcbkcdpjaa", sum := "4c71700b88106d03eb9c8792294a65e427c12f0454334050f160687977d4e3a3", func := "webster/websterlaw02.BitsRuns", spec := "bitsRuns", apart := false }
def BitsRunsSaid : Prop := bitsRunsRow.holds Try.pinned (OpenSpec.ofChange bitsRunsSpec)

/-- ITS FALSE NEIGHBOUR: 'it returns false'. Refute it at one input. -/
def bitsRunsWrong : ChangeSpec := { name := "bitsRuns", fn := fun _ => fun
  | [d1, d2, d3] => { results := [.lit (.bool false)], args := [d1, d2, d3] }
  | _ => none }
def BitsRunsWrongFalsely : Prop := bitsRunsRow.holds Try.pinned (OpenSpec.ofChange bitsRunsWrong)

/-- 'websterlaw02.BitsFull': WHATEVER THE INPUT: true; the input reads as it did. -/
def bitsFullSpec : ChangeSpec := { name := "bitsFull", fn := fun _ => fun
  | [d1, d2] => { results := [.lit (.bool true)], args := [d1, d2] }
  | _ => none }
def bitsFullRow : OpenClaim := { program := "ytcecegcbkcdpjaa", sum := "4c71700b88106d03eb9c8792294a65e427c12f0454334050f160687977d4e3a3", func := "webster/websterlaw02.BitsFull", spec := "bitsFull", apart := false }
def BitsFullSaid : Prop := bitsFullRow.holds Try.pinned (OpenSpec.ofChange bitsFullSpec)

/-- ITS FALSE NEIGHBOUR: 'it returns false'. Refute it at one input. -/
def bitsFullWrong : ChangeSpec := { name := "bitsFull", fn := fun _ => fun
  | [d1, d2] => { results := [.lit (.bool false)], args := [d1, d2] }
  | _ => none }
def BitsFullWrongFalsely : Prop := bitsFullRow.holds Try.pinned (OpenSpec.ofChange bitsFullWrong)

/-- 'websterlaw07.HeapFills': WHATEVER THE INPUT: true; the input reads as it did. -/
def heapFillsSpec : ChangeSpec := { name := "heapFills", fn := fun _ => fun
  | [d1, d2] => { results := [.lit (.bool true)], args := [d1, d2] }
  | _ => none }
def heapFillsRow : OpenClaim := { program := "ytcecegcbkcdpjaa", sum := "4c71700b88106d03eb9c8792294a65e427c12f0454334050f160687977d4e3a3", func := "webster/websterlaw07.HeapFills", spec := "heapFills", unfollowed := true, recurses := true, apart := false }
def HeapFillsSaid : Prop := heapFillsRow.holds Try.pinned (OpenSpec.ofChange heapFillsSpec)

/-- ITS FALSE NEIGHBOUR: 'it returns false'. Refute it at one input. -/
def heapFillsWrong : ChangeSpec := { name := "heapFills", fn := fun _ => fun
  | [d1, d2] => { results := [.lit (.bool false)], args := [d1, d2] }
  | _ => none }
def HeapFillsWrongFalsely : Prop := heapFillsRow.holds Try.pinned (OpenSpec.ofChange heapFillsWrong)

/-- 'websterlaw07.HeapNew': WHATEVER THE INPUT: true; the input reads as it did. -/
def heapNewSpec : ChangeSpec := { name := "heapNew", fn := fun _ => fun
  | [d] => { results := [.lit (.bool true)], args := [d] }
  | _ => none }
def heapNewRow : OpenClaim := { program := "ytcecegcbkcdpjaa", sum := "4c71700b88106d03eb9c8792294a65e427c12f0454334050f160687977d4e3a3", func := "webster/websterlaw07.HeapNew", spec := "heapNew", unfollowed := true, recurses := true, apart := false }
def HeapNewSaid : Prop := heapNewRow.holds Try.pinned (OpenSpec.ofChange heapNewSpec)

/-- ITS FALSE NEIGHBOUR: 'it returns false'. Refute it at one input. -/
def heapNewWrong : ChangeSpec := { name := "heapNew", fn := fun _ => fun
  | [d] => { results := [.lit (.bool false)], args := [d] }
  | _ => none }
def HeapNewWrongFalsely : Prop := heapNewRow.holds Try.pinned (OpenSpec.ofChange heapNewWrong)

/-- 'websterlaw07.HeapWrites': WHATEVER THE INPUT: true; the input reads as it did. -/
def heapWritesSpec : ChangeSpec := { name := "heapWrites", fn := fun _ => fun
  | [d1, d2, d3] => { results := [.lit (.bool true)], args := [d1, d2, d3] }
  | _ => none }
def heapWritesRow : OpenClaim := { program := "ytcecegcbkcdpjaa", sum := "4c71700b88106d03eb9c8792294a65e427c12f0454334050f160687977d4e3a3", func := "webster/websterlaw07.HeapWrites", spec := "heapWrites", unfollowed := true, recurses := true, apart := false }
def HeapWritesSaid : Prop := heapWritesRow.holds Try.pinned (OpenSpec.ofChange heapWritesSpec)

/-- ITS FALSE NEIGHBOUR: 'it returns false'. Refute it at one input. -/
def heapWritesWrong : ChangeSpec := { name := "heapWrites", fn := fun _ => fun
  | [d1, d2, d3] => { results := [.lit (.bool false)], args := [d1, d2, d3] }
  | _ => none }
def HeapWritesWrongFalsely : Prop := heapWritesRow.holds Try.pinned (OpenSpec.ofChange heapWritesWrong)

/-- 'websterlaw07.HeapNone': WHATEVER THE INPUT: true; the input reads as it did. -/
def heapNoneSpec : ChangeSpec := { name := "heapNone", fn := fun _ => fun
  | [d1, d2, d3] => { results := [.lit (.bool true)], args := [d1, d2, d3] }
  | _ => none }
def heapNoneRow : OpenClaim := { program := "ytcecegcbkcdpjaa", sum := "4c71700b88106d03eb9c8792294a65e427c12f0454334050f160687977d4e3a3", func := "webster/websterlaw07.HeapNone", spec := "heapNone", unfollowed := true, recurses := true, apart := false }
def HeapNoneSaid : Prop := heapNoneRow.holds Try.pinned (OpenSpec.ofChange heapNoneSpec)

/-- ITS FALSE NEIGHBOUR: 'it returns false'. Refute it at one input. -/
def heapNoneWrong : ChangeSpec := { name := "heapNone", fn := fun _ => fun
  | [d1, d2, d3] => { results := [.lit (.bool false)], args := [d1, d2, d3] }
  | _ => none }
def HeapNoneWrongFalsely : Prop := heapNoneRow.holds Try.pinned (OpenSpec.ofChange heapNoneWrong)

/-- 'websterlaw07.HeapMoves': WHATEVER THE INPUT: true; the input reads as it did. -/
def heapMovesSpec : ChangeSpec := { name := "heapMoves", fn := fun _ => fun
  | [d1, d2] => { results := [.lit (.bool true)], args := [d1, d2] }
  | _ => none }
def heapMovesRow : OpenClaim := { program := "ytcecegcbkcdpjaa", sum := "4c71700b88106d03eb9c8792294a65e427c12f0454334050f160687977d4e3a3", func := "webster/websterlaw07.HeapMoves", spec := "heapMoves", unfollowed := true, recurses := true, apart := false }
def HeapMovesSaid : Prop := heapMovesRow.holds Try.pinned (OpenSpec.ofChange heapMovesSpec)

/-- ITS FALSE NEIGHBOUR: 'it returns false'. Refute it at one input. -/
def heapMovesWrong : ChangeSpec := { name := "heapMoves", fn := fun _ => fun
  | [d1, d2] => { results := [.lit (.bool false)], args := [d1, d2] }
  | _ => none }
def HeapMovesWrongFalsely : Prop := heapMovesRow.holds Try.pinned (OpenSpec.ofChange heapMovesWrong)

/- THE SECOND FORM. 'bulk': how many values and letters a reading holds, each counted each time it is reached (what is shared counts as often as it is met; a slice's spare places count too). A statement '..UptoSaid' is the law's where the arguments, and the package variables that the reading takes, are together of bulk at most 1048576: NARROWER than '..Said'. Prove '..Said' where nothing that the law and all that it calls make is longer than what came in: it says more and counts as full. Else prove '..UptoSaid'. A law counts once. -/
mutual
def uptoBulk {H : Type} : DataW H → Nat
  | .lit (.string bytes) => bytes.length + 1
  | .lit _ => 1
  | .nil => 1
  | .ptr d => uptoBulk d + 1
  | .slice elems spare => uptoBulkAll elems + uptoBulkAll spare + 1
  | .agg parts => uptoBulkAll parts + 1
  | .iface _ d => uptoBulk d + 1
  | .map entries => uptoBulkEntries entries + 1
  | .held _ => 1
def uptoBulkAll {H : Type} : List (DataW H) → Nat
  | [] => 0
  | d :: r => uptoBulk d + uptoBulkAll r
def uptoBulkEntries {H : Type} : List (Lit × DataW H) → Nat
  | [] => 0
  | x :: r => uptoBulkEntry x + uptoBulkEntries r
def uptoBulkEntry {H : Type} : Lit × DataW H → Nat
  | (.string bytes, d) => bytes.length + uptoBulk d + 1
  | (_, d) => uptoBulk d + 1
 end
def uptoSmall : (H : Type) → List (DataW H) → Bool := fun _ ds => decide (uptoBulkAll ds ≤ 1048576)
def OpenSpec.upto (s : _root_.Go.ChangeSpec) : _root_.Go.OpenSpec := { _root_.Go.OpenSpec.ofChange s with cond := some uptoSmall }

/-- 'websterlaw02.BitsNew', WHERE WHAT IT READS IS OF BULK AT MOST 1048576: true; the input reads as it did. -/
def bitsNewUptoRow : OpenClaim := { program := "ytcecegcbkcdpjaa", sum := "4c71700b88106d03eb9c8792294a65e427c12f0454334050f160687977d4e3a3", func := "webster/websterlaw02.BitsNew", spec := "bitsNew", apart := false, narrowed := true }
def BitsNewUptoSaid : Prop := bitsNewUptoRow.holds Try.pinned (OpenSpec.upto bitsNewSpec)

/-- 'websterlaw02.BitsApart', WHERE WHAT IT READS IS OF BULK AT MOST 1048576: true; the input reads as it did. -/
def bitsApartUptoRow : OpenClaim := { program := "ytcecegcbkcdpjaa", sum := "4c71700b88106d03eb9c8792294a65e427c12f0454334050f160687977d4e3a3", func := "webster/websterlaw02.BitsApart", spec := "bitsApart", apart := false, narrowed := true }
def BitsApartUptoSaid : Prop := bitsApartUptoRow.holds Try.pinned (OpenSpec.upto bitsApartSpec)

/-- 'websterlaw02.BitsBack', WHERE WHAT IT READS IS OF BULK AT MOST 1048576: true; the input reads as it did. -/
def bitsBackUptoRow : OpenClaim := { program := "ytcecegcbkcdpjaa", sum := "4c71700b88106d03eb9c8792294a65e427c12f0454334050f160687977d4e3a3", func := "webster/websterlaw02.BitsBack", spec := "bitsBack", apart := false, narrowed := true }
def BitsBackUptoSaid : Prop := bitsBackUptoRow.holds Try.pinned (OpenSpec.upto bitsBackSpec)

/-- 'websterlaw02.BitsRuns', WHERE WHAT IT READS IS OF BULK AT MOST 1048576: true; the input reads as it did. -/
def bitsRunsUptoRow : OpenClaim := { program := "ytcecegcbkcdpjaa", sum := "4c71700b88106d03eb9c8792294a65e427c12f0454334050f160687977d4e3a3", func := "webster/websterlaw02.BitsRuns", spec := "bitsRuns", apart := false, narrowed := true }
def BitsRunsUptoSaid : Prop := bitsRunsUptoRow.holds Try.pinned (OpenSpec.upto bitsRunsSpec)

/-- 'websterlaw02.BitsFull', WHERE WHAT IT READS IS OF BULK AT MOST 1048576: true; the input reads as it did. -/
def bitsFullUptoRow : OpenClaim := { program := "ytcecegcbkcdpjaa", sum := "4c71700b88106d03eb9c8792294a65e427c12f0454334050f160687977d4e3a3", func := "webster/websterlaw02.BitsFull", spec := "bitsFull", apart := false, narrowed := true }
def BitsFullUptoSaid : Prop := bitsFullUptoRow.holds Try.pinned (OpenSpec.upto bitsFullSpec)

/-- 'websterlaw07.HeapFills', WHERE WHAT IT READS IS OF BULK AT MOST 1048576: true; the input reads as it did. -/
def heapFillsUptoRow : OpenClaim := { program := "ytcecegcbkcdpjaa", sum := "4c71700b88106d03eb9c8792294a65e427c12f0454334050f160687977d4e3a3", func := "webster/websterlaw07.HeapFills", spec := "heapFills", unfollowed := true, recurses := true, apart := false, narrowed := true }
def HeapFillsUptoSaid : Prop := heapFillsUptoRow.holds Try.pinned (OpenSpec.upto heapFillsSpec)

/-- 'websterlaw07.HeapNew', WHERE WHAT IT READS IS OF BULK AT MOST 1048576: true; the input reads as it did. -/
def heapNewUptoRow : OpenClaim := { program := "ytcecegcbkcdpjaa", sum := "4c71700b88106d03eb9c8792294a65e427c12f0454334050f160687977d4e3a3", func := "webster/websterlaw07.HeapNew", spec := "heapNew", unfollowed := true, recurses := true, apart := false, narrowed := true }
def HeapNewUptoSaid : Prop := heapNewUptoRow.holds Try.pinned (OpenSpec.upto heapNewSpec)

/-- 'websterlaw07.HeapWrites', WHERE WHAT IT READS IS OF BULK AT MOST 1048576: true; the input reads as it did. -/
def heapWritesUptoRow : OpenClaim := { program := "ytcecegcbkcdpjaa", sum := "4c71700b88106d03eb9c8792294a65e427c12f0454334050f160687977d4e3a3", func := "webster/websterlaw07.HeapWrites", spec := "heapWrites", unfollowed := true, recurses := true, apart := false, narrowed := true }
def HeapWritesUptoSaid : Prop := heapWritesUptoRow.holds Try.pinned (OpenSpec.upto heapWritesSpec)

/-- 'websterlaw07.HeapNone', WHERE WHAT IT READS IS OF BULK AT MOST 1048576: true; the input reads as it did. -/
def heapNoneUptoRow : OpenClaim := { program := "ytcecegcbkcdpjaa", sum := "4c71700b88106d03eb9c8792294a65e427c12f0454334050f160687977d4e3a3", func := "webster/websterlaw07.HeapNone", spec := "heapNone", unfollowed := true, recurses := true, apart := false, narrowed := true }
def HeapNoneUptoSaid : Prop := heapNoneUptoRow.holds Try.pinned (OpenSpec.upto heapNoneSpec)

/-- 'websterlaw07.HeapMoves', WHERE WHAT IT READS IS OF BULK AT MOST 1048576: true; the input reads as it did. -/
def heapMovesUptoRow : OpenClaim := { program := "ytcecegcbkcdpjaa", sum := "4c71700b88106d03eb9c8792294a65e427c12f0454334050f160687977d4e3a3", func := "webster/websterlaw07.HeapMoves", spec := "heapMoves", unfollowed := true, recurses := true, apart := false, narrowed := true }
def HeapMovesUptoSaid : Prop := heapMovesUptoRow.holds Try.pinned (OpenSpec.upto heapMovesSpec)

end Rows
end Go.Proofs.Ytcecegcbkcdpjaa
