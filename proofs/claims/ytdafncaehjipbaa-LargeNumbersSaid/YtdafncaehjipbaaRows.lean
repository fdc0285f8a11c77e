/-
  No cell of these rows narrows 'for every input' (looked for: loops, veiled, ifaces, maps, wideKeys, modest, calm, conditions, laid).
  DERIVED. THE GIVEN ROWS OF THIS SEAT. 10 by the template 'for every input the law returns true; each argument reads behind the call as it read before'; 0 by the template 'total and deterministic' (their statements: YtdafncaehjipbaaTotals.lean).
  GIVEN WITH THE SEED: the statements are not yours to turn. If you find one false, say at which input.
  Laid BY PROGRAM, IN A SANDBOX (cutbox-rows.mjs): the forced cells as the released guide's own fill.sh prints them over the translation d5c8450b01ef038e… (all of the seat's roots in one cut). By AI agents, Wed Nov 11 2026. No macro, syntax, notation, axiom, sorry.
-/
import Derived.Test.YtdafncaehjipbaaChecked
import GoSem.Claim
import GoSem.ClaimJoined
import GoSem.ClaimMapViews
import Derived.JoinedTies
import Derived.KernelRfl
namespace Go.Proofs.Ytdafncaehjipbaa
/- THE CELL 'sum', in the pinned program and in every row, IS THE sha256 OF THE DUMP (.gsa) THAT YtdafncaehjipbaaProg.lean LOADS. Nothing in Lean hashes anything: it is a label: what it is worth is what the hold of that sum in a sandbox is worth. -/
noncomputable def Try.pinned : Pinned := { name := "ytdafncaehjipbaa", sum := "d5c8450b01ef038e4b260f7b9afc9e9a019d8949cb40ac17b97df2273d36f032", checked := Try.checked }
namespace Rows
def none {H : Type} : Left H := { results := [], args := [] }

/-- 'websterlaw13.LargeSub': WHATEVER THE INPUT: true; the input reads as it did. -/
def largeSubSpec : ChangeSpec := { name := "largeSub", fn := fun _ => fun
  | [d1, d2] => { results := [.lit (.bool true)], args := [d1, d2] }
  | _ => none }
def largeSubRow : OpenClaim := { program := "ytdafncaehjipbaa", sum := "d5c8450b01ef038e4b260f7b9afc9e9a019d8949cb40ac17b97df2273d36f032", func := "webster/websterlaw13.LargeSub", spec := "largeSub", unfollowed := true, recurses := true, apart := false }
def LargeSubSaid : Prop := largeSubRow.holds Try.pinned (OpenSpec.ofChange largeSubSpec)

/-- ITS FALSE NEIGHBOUR: 'it returns false'. Refute it at one input. -/
def largeSubWrong : ChangeSpec := { name := "largeSub", fn := fun _ => fun
  | [d1, d2] => { results := [.lit (.bool false)], args := [d1, d2] }
  | _ => none }
def LargeSubWrongFalsely : Prop := largeSubRow.holds Try.pinned (OpenSpec.ofChange largeSubWrong)

/-- 'websterlaw13.LargeDiv': WHATEVER THE INPUT: true; the input reads as it did. -/
def largeDivSpec : ChangeSpec := { name := "largeDiv", fn := fun _ => fun
  | [d1, d2] => { results := [.lit (.bool true)], args := [d1, d2] }
  | _ => none }
def largeDivRow : OpenClaim := { program := "ytdafncaehjipbaa", sum := "d5c8450b01ef038e4b260f7b9afc9e9a019d8949cb40ac17b97df2273d36f032", func := "webster/websterlaw13.LargeDiv", spec := "largeDiv", unfollowed := true, recurses := true, apart := false }
def LargeDivSaid : Prop := largeDivRow.holds Try.pinned (OpenSpec.ofChange largeDivSpec)

/-- ITS FALSE NEIGHBOUR: 'it returns false'. Refute it at one input. -/
def largeDivWrong : ChangeSpec := { name := "largeDiv", fn := fun _ => fun
  | [d1, d2] => { results := [.lit (.bool false)], args := [d1, d2] }
  | _ => none }
def LargeDivWrongFalsely : Prop := largeDivRow.holds Try.pinned (OpenSpec.ofChange largeDivWrong)

/-- 'websterlaw13.LargeInt': WHATEVER THE INPUT: true; the input reads as it did. -/
def largeIntSpec : ChangeSpec := { name := "largeInt", fn := fun _ => fun
  | [d] => { results := [.lit (.bool true)], args := [d] }
  | _ => none }
def largeIntRow : OpenClaim := { program := "ytdafncaehjipbaa", sum := "d5c8450b01ef038e4b260f7b9afc9e9a019d8949cb40ac17b97df2273d36f032", func := "webster/websterlaw13.LargeInt", spec := "largeInt", unfollowed := true, recurses := true, apart := false }
def LargeIntSaid : Prop := largeIntRow.holds Try.pinned (OpenSpec.ofChange largeIntSpec)

/-- ITS FALSE NEIGHBOUR: 'it returns false'. Refute it at one input. -/
def largeIntWrong : ChangeSpec := { name := "largeInt", fn := fun _ => fun
  | [d] => { results := [.lit (.bool false)], args := [d] }
  | _ => none }
def LargeIntWrongFalsely : Prop := largeIntRow.holds Try.pinned (OpenSpec.ofChange largeIntWrong)

/-- 'websterlaw13.LargeReckons': WHATEVER THE INPUT: true; the input reads as it did. -/
def largeReckonsSpec : ChangeSpec := { name := "largeReckons", fn := fun _ => fun
  | [d1, d2] => { results := [.lit (.bool true)], args := [d1, d2] }
  | _ => none }
def largeReckonsRow : OpenClaim := { program := "ytdafncaehjipbaa", sum := "d5c8450b01ef038e4b260f7b9afc9e9a019d8949cb40ac17b97df2273d36f032", func := "webster/websterlaw13.LargeReckons", spec := "largeReckons", unfollowed := true, recurses := true, apart := false }
def LargeReckonsSaid : Prop := largeReckonsRow.holds Try.pinned (OpenSpec.ofChange largeReckonsSpec)

/-- ITS FALSE NEIGHBOUR: 'it returns false'. Refute it at one input. -/
def largeReckonsWrong : ChangeSpec := { name := "largeReckons", fn := fun _ => fun
  | [d1, d2] => { results := [.lit (.bool false)], args := [d1, d2] }
  | _ => none }
def LargeReckonsWrongFalsely : Prop := largeReckonsRow.holds Try.pinned (OpenSpec.ofChange largeReckonsWrong)

/-- 'websterlaw13.LargeLaws': WHATEVER THE INPUT: true; the input reads as it did. -/
def largeLawsSpec : ChangeSpec := { name := "largeLaws", fn := fun _ => fun
  | [d1, d2, d3] => { results := [.lit (.bool true)], args := [d1, d2, d3] }
  | _ => none }
def largeLawsRow : OpenClaim := { program := "ytdafncaehjipbaa", sum := "d5c8450b01ef038e4b260f7b9afc9e9a019d8949cb40ac17b97df2273d36f032", func := "webster/websterlaw13.LargeLaws", spec := "largeLaws", unfollowed := true, recurses := true, apart := false }
def LargeLawsSaid : Prop := largeLawsRow.holds Try.pinned (OpenSpec.ofChange largeLawsSpec)

/-- ITS FALSE NEIGHBOUR: 'it returns false'. Refute it at one input. -/
def largeLawsWrong : ChangeSpec := { name := "largeLaws", fn := fun _ => fun
  | [d1, d2, d3] => { results := [.lit (.bool false)], args := [d1, d2, d3] }
  | _ => none }
def LargeLawsWrongFalsely : Prop := largeLawsRow.holds Try.pinned (OpenSpec.ofChange largeLawsWrong)

/-- 'websterlaw13.LargeAdd': WHATEVER THE INPUT: true; the input reads as it did. -/
def largeAddSpec : ChangeSpec := { name := "largeAdd", fn := fun _ => fun
  | [d1, d2] => { results := [.lit (.bool true)], args := [d1, d2] }
  | _ => none }
def largeAddRow : OpenClaim := { program := "ytdafncaehjipbaa", sum := "d5c8450b01ef038e4b260f7b9afc9e9a019d8949cb40ac17b97df2273d36f032", func := "webster/websterlaw13.LargeAdd", spec := "largeAdd", unfollowed := true, recurses := true, apart := false }
def LargeAddSaid : Prop := largeAddRow.holds Try.pinned (OpenSpec.ofChange largeAddSpec)

/-- ITS FALSE NEIGHBOUR: 'it returns false'. Refute it at one input. -/
def largeAddWrong : ChangeSpec := { name := "largeAdd", fn := fun _ => fun
  | [d1, d2] => { results := [.lit (.bool false)], args := [d1, d2] }
  | _ => none }
def LargeAddWrongFalsely : Prop := largeAddRow.holds Try.pinned (OpenSpec.ofChange largeAddWrong)

/-- 'websterlaw13.LargeCmp': WHATEVER THE INPUT: true; the input reads as it did. -/
def largeCmpSpec : ChangeSpec := { name := "largeCmp", fn := fun _ => fun
  | [d1, d2, d3] => { results := [.lit (.bool true)], args := [d1, d2, d3] }
  | _ => none }
def largeCmpRow : OpenClaim := { program := "ytdafncaehjipbaa", sum := "d5c8450b01ef038e4b260f7b9afc9e9a019d8949cb40ac17b97df2273d36f032", func := "webster/websterlaw13.LargeCmp", spec := "largeCmp", unfollowed := true, recurses := true, apart := false }
def LargeCmpSaid : Prop := largeCmpRow.holds Try.pinned (OpenSpec.ofChange largeCmpSpec)

/-- ITS FALSE NEIGHBOUR: 'it returns false'. Refute it at one input. -/
def largeCmpWrong : ChangeSpec := { name := "largeCmp", fn := fun _ => fun
  | [d1, d2, d3] => { results := [.lit (.bool false)], args := [d1, d2, d3] }
  | _ => none }
def LargeCmpWrongFalsely : Prop := largeCmpRow.holds Try.pinned (OpenSpec.ofChange largeCmpWrong)

/-- 'websterlaw13.LargeRead': WHATEVER THE INPUT: true; the input reads as it did. -/
def largeReadSpec : ChangeSpec := { name := "largeRead", fn := fun _ => fun
  | [d1, d2] => { results := [.lit (.bool true)], args := [d1, d2] }
  | _ => none }
def largeReadRow : OpenClaim := { program := "ytdafncaehjipbaa", sum := "d5c8450b01ef038e4b260f7b9afc9e9a019d8949cb40ac17b97df2273d36f032", func := "webster/websterlaw13.LargeRead", spec := "largeRead", unfollowed := true, recurses := true, apart := false }
def LargeReadSaid : Prop := largeReadRow.holds Try.pinned (OpenSpec.ofChange largeReadSpec)

/-- ITS FALSE NEIGHBOUR: 'it returns false'. Refute it at one input. -/
def largeReadWrong : ChangeSpec := { name := "largeRead", fn := fun _ => fun
  | [d1, d2] => { results := [.lit (.bool false)], args := [d1, d2] }
  | _ => none }
def LargeReadWrongFalsely : Prop := largeReadRow.holds Try.pinned (OpenSpec.ofChange largeReadWrong)

/-- 'websterlaw13.LargeNumbers': WHATEVER THE INPUT: true; the input reads as it did. -/
def largeNumbersSpec : ChangeSpec := { name := "largeNumbers", fn := fun _ => fun
  | [d1, d2, d3] => { results := [.lit (.bool true)], args := [d1, d2, d3] }
  | _ => none }
def largeNumbersRow : OpenClaim := { program := "ytdafncaehjipbaa", sum := "d5c8450b01ef038e4b260f7b9afc9e9a019d8949cb40ac17b97df2273d36f032", func := "webster/websterlaw13.LargeNumbers", spec := "largeNumbers", unfollowed := true, recurses := true, apart := false }
def LargeNumbersSaid : Prop := largeNumbersRow.holds Try.pinned (OpenSpec.ofChange largeNumbersSpec)

/-- ITS FALSE NEIGHBOUR: 'it returns false'. Refute it at one input. -/
def largeNumbersWrong : ChangeSpec := { name := "largeNumbers", fn := fun _ => fun
  | [d1, d2, d3] => { results := [.lit (.bool false)], args := [d1, d2, d3] }
  | _ => none }
def LargeNumbersWrongFalsely : Prop := largeNumbersRow.holds Try.pinned (OpenSpec.ofChange largeNumbersWrong)

/-- 'websterlaw13.LargeBack': WHATEVER THE INPUT: true; the input reads as it did. -/
def largeBackSpec : ChangeSpec := { name := "largeBack", fn := fun _ => fun
  | [d1, d2, d3, d4] => { results := [.lit (.bool true)], args := [d1, d2, d3, d4] }
  | _ => none }
def largeBackRow : OpenClaim := { program := "ytdafncaehjipbaa", sum := "d5c8450b01ef038e4b260f7b9afc9e9a019d8949cb40ac17b97df2273d36f032", func := "webster/websterlaw13.LargeBack", spec := "largeBack", unfollowed := true, recurses := true, apart := false }
def LargeBackSaid : Prop := largeBackRow.holds Try.pinned (OpenSpec.ofChange largeBackSpec)

/-- ITS FALSE NEIGHBOUR: 'it returns false'. Refute it at one input. -/
def largeBackWrong : ChangeSpec := { name := "largeBack", fn := fun _ => fun
  | [d1, d2, d3, d4] => { results := [.lit (.bool false)], args := [d1, d2, d3, d4] }
  | _ => none }
def LargeBackWrongFalsely : Prop := largeBackRow.holds Try.pinned (OpenSpec.ofChange largeBackWrong)

/- THE SECOND FORM. 'bulk': how many values and letters a reading holds, each counted each time it is reached (what is shared counts as often as it is met; a slice's spare places count too). A statement '..UptoSaid' is the law's where the arguments, and the package variables that the reading takes, are together of bulk at most 1048576: NARROWER than '..Said'. Prove '..Said' where nothing that the law and all that it calls make is longer than what came in: it says more and counts as full. Else prove '..UptoSaid'. A law counts once. -/
mutual
def uptoBulk {H : Type} : DataW H → Nat
  | .lit (.string bytes) => bytes.length + 1
  | .lit _ => 1
  | .nil => 1
  | .ptr d => uptoBulk d + 1
  | .slice elems spare => uptoBulkAll elems + uptoBulkAll spare + 1
  | .agg parts => uptoBulkAll parts + 1
  | .iface _ d => uptoBulk d + 1
  | .map entries => uptoBulkEntries entries + 1
  | .held _ => 1
def uptoBulkAll {H : Type} : List (DataW H) → Nat
  | [] => 0
  | d :: r => uptoBulk d + uptoBulkAll r
def uptoBulkEntries {H : Type} : List (Lit × DataW H) → Nat
  | [] => 0
  | x :: r => uptoBulkEntry x + uptoBulkEntries r
def uptoBulkEntry {H : Type} : Lit × DataW H → Nat
  | (.string bytes, d) => bytes.length + uptoBulk d + 1
  | (_, d) => uptoBulk d + 1
 end
def uptoSmall : (H : Type) → List (DataW H) → Bool := fun _ ds => decide (uptoBulkAll ds ≤ 1048576)
def OpenSpec.upto (s : _root_.Go.ChangeSpec) : _root_.Go.OpenSpec := { _root_.Go.OpenSpec.ofChange s with cond := some uptoSmall }

/-- 'websterlaw13.LargeSub', WHERE WHAT IT READS IS OF BULK AT MOST 1048576: true; the input reads as it did. -/
def largeSubUptoRow : OpenClaim := { program := "ytdafncaehjipbaa", sum := "d5c8450b01ef038e4b260f7b9afc9e9a019d8949cb40ac17b97df2273d36f032", func := "webster/websterlaw13.LargeSub", spec := "largeSub", unfollowed := true, recurses := true, apart := false, narrowed := true }
def LargeSubUptoSaid : Prop := largeSubUptoRow.holds Try.pinned (OpenSpec.upto largeSubSpec)

/-- 'websterlaw13.LargeDiv', WHERE WHAT IT READS IS OF BULK AT MOST 1048576: true; the input reads as it did. -/
def largeDivUptoRow : OpenClaim := { program := "ytdafncaehjipbaa", sum := "d5c8450b01ef038e4b260f7b9afc9e9a019d8949cb40ac17b97df2273d36f032", func := "webster/websterlaw13.LargeDiv", spec := "largeDiv", unfollowed := true, recurses := true, apart := false, narrowed := true }
def LargeDivUptoSaid : Prop := largeDivUptoRow.holds Try.pinned (OpenSpec.upto largeDivSpec)

/-- 'websterlaw13.LargeInt', WHERE WHAT IT READS IS OF BULK AT MOST 1048576: true; the input reads as it did. -/
def largeIntUptoRow : OpenClaim := { program := "ytdafncaehjipbaa", sum := "d5c8450b01ef038e4b260f7b9afc9e9a019d8949cb40ac17b97df2273d36f032", func := "webster/websterlaw13.LargeInt", spec := "largeInt", unfollowed := true, recurses := true, apart := false, narrowed := true }
def LargeIntUptoSaid : Prop := largeIntUptoRow.holds Try.pinned (OpenSpec.upto largeIntSpec)

/-- 'websterlaw13.LargeReckons', WHERE WHAT IT READS IS OF BULK AT MOST 1048576: true; the input reads as it did. -/
def largeReckonsUptoRow : OpenClaim := { program := "ytdafncaehjipbaa", sum := "d5c8450b01ef038e4b260f7b9afc9e9a019d8949cb40ac17b97df2273d36f032", func := "webster/websterlaw13.LargeReckons", spec := "largeReckons", unfollowed := true, recurses := true, apart := false, narrowed := true }
def LargeReckonsUptoSaid : Prop := largeReckonsUptoRow.holds Try.pinned (OpenSpec.upto largeReckonsSpec)

/-- 'websterlaw13.LargeLaws', WHERE WHAT IT READS IS OF BULK AT MOST 1048576: true; the input reads as it did. -/
def largeLawsUptoRow : OpenClaim := { program := "ytdafncaehjipbaa", sum := "d5c8450b01ef038e4b260f7b9afc9e9a019d8949cb40ac17b97df2273d36f032", func := "webster/websterlaw13.LargeLaws", spec := "largeLaws", unfollowed := true, recurses := true, apart := false, narrowed := true }
def LargeLawsUptoSaid : Prop := largeLawsUptoRow.holds Try.pinned (OpenSpec.upto largeLawsSpec)

/-- 'websterlaw13.LargeAdd', WHERE WHAT IT READS IS OF BULK AT MOST 1048576: true; the input reads as it did. -/
def largeAddUptoRow : OpenClaim := { program := "ytdafncaehjipbaa", sum := "d5c8450b01ef038e4b260f7b9afc9e9a019d8949cb40ac17b97df2273d36f032", func := "webster/websterlaw13.LargeAdd", spec := "largeAdd", unfollowed := true, recurses := true, apart := false, narrowed := true }
def LargeAddUptoSaid : Prop := largeAddUptoRow.holds Try.pinned (OpenSpec.upto largeAddSpec)

/-- 'websterlaw13.LargeCmp', WHERE WHAT IT READS IS OF BULK AT MOST 1048576: true; the input reads as it did. -/
def largeCmpUptoRow : OpenClaim := { program := "ytdafncaehjipbaa", sum := "d5c8450b01ef038e4b260f7b9afc9e9a019d8949cb40ac17b97df2273d36f032", func := "webster/websterlaw13.LargeCmp", spec := "largeCmp", unfollowed := true, recurses := true, apart := false, narrowed := true }
def LargeCmpUptoSaid : Prop := largeCmpUptoRow.holds Try.pinned (OpenSpec.upto largeCmpSpec)

/-- 'websterlaw13.LargeRead', WHERE WHAT IT READS IS OF BULK AT MOST 1048576: true; the input reads as it did. -/
def largeReadUptoRow : OpenClaim := { program := "ytdafncaehjipbaa", sum := "d5c8450b01ef038e4b260f7b9afc9e9a019d8949cb40ac17b97df2273d36f032", func := "webster/websterlaw13.LargeRead", spec := "largeRead", unfollowed := true, recurses := true, apart := false, narrowed := true }
def LargeReadUptoSaid : Prop := largeReadUptoRow.holds Try.pinned (OpenSpec.upto largeReadSpec)

/-- 'websterlaw13.LargeNumbers', WHERE WHAT IT READS IS OF BULK AT MOST 1048576: true; the input reads as it did. -/
def largeNumbersUptoRow : OpenClaim := { program := "ytdafncaehjipbaa", sum := "d5c8450b01ef038e4b260f7b9afc9e9a019d8949cb40ac17b97df2273d36f032", func := "webster/websterlaw13.LargeNumbers", spec := "largeNumbers", unfollowed := true, recurses := true, apart := false, narrowed := true }
def LargeNumbersUptoSaid : Prop := largeNumbersUptoRow.holds Try.pinned (OpenSpec.upto largeNumbersSpec)

/-- 'websterlaw13.LargeBack', WHERE WHAT IT READS IS OF BULK AT MOST 1048576: true; the input reads as it did. -/
def largeBackUptoRow : OpenClaim := { program := "ytdafncaehjipbaa", sum := "d5c8450b01ef038e4b260f7b9afc9e9a019d8949cb40ac17b97df2273d36f032", func := "webster/websterlaw13.LargeBack", spec := "largeBack", unfollowed := true, recurses := true, apart := false, narrowed := true }
def LargeBackUptoSaid : Prop := largeBackUptoRow.holds Try.pinned (OpenSpec.upto largeBackSpec)

end Rows
end Go.Proofs.Ytdafncaehjipbaa
