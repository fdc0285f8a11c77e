/-
  No cell of these rows narrows 'for every input' (looked for: loops, veiled, ifaces, maps, wideKeys, modest, calm, conditions, laid).
  DERIVED. THE GIVEN ROWS OF THIS SEAT. 8 by the template 'for every input the law returns true; each argument reads behind the call as it read before'; 0 by the template 'total and deterministic' (their statements: YtdedidjobjdekaaTotals.lean).
  GIVEN WITH THE SEED: the statements are not yours to turn. If you find one false, say at which input.
  Laid BY PROGRAM, IN A SANDBOX (cutbox-rows.mjs): the forced cells as the released guide's own fill.sh prints them over the translation 59d0a88d9a3b940e… (all of the seat's roots in one cut). By AI agents, Wed Nov 11 2026. No macro, syntax, notation, axiom, sorry.
-/
import Derived.Test.YtdedidjobjdekaaChecked
import GoSem.Claim
import GoSem.ClaimJoined
import GoSem.ClaimMapViews
import Derived.JoinedTies
import Derived.KernelRfl
namespace Go.Proofs.Ytdedidjobjdekaa
/- THE CELL 'sum', in the pinned program and in every row, IS THE sha256 OF THE DUMP (.gsa) THAT YtdedidjobjdekaaProg.lean LOADS. Nothing in Lean hashes anything: it is a label: what it is worth is what the hold of that sum in a sandbox is worth. -/
noncomputable def Try.pinned : Pinned := { name := "ytdedidjobjdekaa", sum := "59d0a88d9a3b940e3b27f7896be9dcbacd132219f0d8cd240563c25cae671376", checked := Try.checked }
namespace Rows
def none {H : Type} : Left H := { results := [], args := [] }

/-- 'websterlaw05.WideBack': WHATEVER THE INPUT: true; the input reads as it did. -/
def wideBackSpec : ChangeSpec := { name := "wideBack", fn := fun _ => fun
  | [d1, d2, d3, d4] => { results := [.lit (.bool true)], args := [d1, d2, d3, d4] }
  | _ => none }
def wideBackRow : OpenClaim := { program := "ytdedidjobjdekaa", sum := "59d0a88d9a3b940e3b27f7896be9dcbacd132219f0d8cd240563c25cae671376", func := "webster/websterlaw05.WideBack", spec := "wideBack", unfollowed := true, recurses := true, apart := false }
def WideBackSaid : Prop := wideBackRow.holds Try.pinned (OpenSpec.ofChange wideBackSpec)

/-- ITS FALSE NEIGHBOUR: 'it returns false'. Refute it at one input. -/
def wideBackWrong : ChangeSpec := { name := "wideBack", fn := fun _ => fun
  | [d1, d2, d3, d4] => { results := [.lit (.bool false)], args := [d1, d2, d3, d4] }
  | _ => none }
def WideBackWrongFalsely : Prop := wideBackRow.holds Try.pinned (OpenSpec.ofChange wideBackWrong)

/-- 'websterlaw05.WideCheck': WHATEVER THE INPUT: true; the input reads as it did. -/
def wideCheckSpec : ChangeSpec := { name := "wideCheck", fn := fun _ => fun
  | [d] => { results := [.lit (.bool true)], args := [d] }
  | _ => none }
def wideCheckRow : OpenClaim := { program := "ytdedidjobjdekaa", sum := "59d0a88d9a3b940e3b27f7896be9dcbacd132219f0d8cd240563c25cae671376", func := "webster/websterlaw05.WideCheck", spec := "wideCheck", unfollowed := true, recurses := true, apart := false }
def WideCheckSaid : Prop := wideCheckRow.holds Try.pinned (OpenSpec.ofChange wideCheckSpec)

/-- ITS FALSE NEIGHBOUR: 'it returns false'. Refute it at one input. -/
def wideCheckWrong : ChangeSpec := { name := "wideCheck", fn := fun _ => fun
  | [d] => { results := [.lit (.bool false)], args := [d] }
  | _ => none }
def WideCheckWrongFalsely : Prop := wideCheckRow.holds Try.pinned (OpenSpec.ofChange wideCheckWrong)

/-- 'websterlaw05.WideEncode': WHATEVER THE INPUT: true; the input reads as it did. -/
def wideEncodeSpec : ChangeSpec := { name := "wideEncode", fn := fun _ => fun
  | [d] => { results := [.lit (.bool true)], args := [d] }
  | _ => none }
def wideEncodeRow : OpenClaim := { program := "ytdedidjobjdekaa", sum := "59d0a88d9a3b940e3b27f7896be9dcbacd132219f0d8cd240563c25cae671376", func := "webster/websterlaw05.WideEncode", spec := "wideEncode", unfollowed := true, recurses := true, apart := false }
def WideEncodeSaid : Prop := wideEncodeRow.holds Try.pinned (OpenSpec.ofChange wideEncodeSpec)

/-- ITS FALSE NEIGHBOUR: 'it returns false'. Refute it at one input. -/
def wideEncodeWrong : ChangeSpec := { name := "wideEncode", fn := fun _ => fun
  | [d] => { results := [.lit (.bool false)], args := [d] }
  | _ => none }
def WideEncodeWrongFalsely : Prop := wideEncodeRow.holds Try.pinned (OpenSpec.ofChange wideEncodeWrong)

/-- 'websterlaw05.WideDecode': WHATEVER THE INPUT: true; the input reads as it did. -/
def wideDecodeSpec : ChangeSpec := { name := "wideDecode", fn := fun _ => fun
  | [d] => { results := [.lit (.bool true)], args := [d] }
  | _ => none }
def wideDecodeRow : OpenClaim := { program := "ytdedidjobjdekaa", sum := "59d0a88d9a3b940e3b27f7896be9dcbacd132219f0d8cd240563c25cae671376", func := "webster/websterlaw05.WideDecode", spec := "wideDecode", unfollowed := true, recurses := true, apart := false }
def WideDecodeSaid : Prop := wideDecodeRow.holds Try.pinned (OpenSpec.ofChange wideDecodeSpec)

/-- ITS FALSE NEIGHBOUR: 'it returns false'. Refute it at one input. -/
def wideDecodeWrong : ChangeSpec := { name := "wideDecode", fn := fun _ => fun
  | [d] => { results := [.lit (.bool false)], args := [d] }
  | _ => none }
def WideDecodeWrongFalsely : Prop := wideDecodeRow.holds Try.pinned (OpenSpec.ofChange wideDecodeWrong)

/-- 'websterlaw05.WideWords': WHATEVER THE INPUT: true; the input reads as it did. -/
def wideWordsSpec : ChangeSpec := { name := "wideWords", fn := fun _ => fun
  | [d] => { results := [.lit (.bool true)], args := [d] }
  | _ => none }
def wideWordsRow : OpenClaim := { program := "ytdedidjobjdekaa", sum := "59d0a88d9a3b940e3b27f7896be9dcbacd132219f0d8cd240563c25cae671376", func := "webster/websterlaw05.WideWords", spec := "wideWords", unfollowed := true, recurses := true, apart := false }
def WideWordsSaid : Prop := wideWordsRow.holds Try.pinned (OpenSpec.ofChange wideWordsSpec)

/-- ITS FALSE NEIGHBOUR: 'it returns false'. Refute it at one input. -/
def wideWordsWrong : ChangeSpec := { name := "wideWords", fn := fun _ => fun
  | [d] => { results := [.lit (.bool false)], args := [d] }
  | _ => none }
def WideWordsWrongFalsely : Prop := wideWordsRow.holds Try.pinned (OpenSpec.ofChange wideWordsWrong)

/-- 'websterlaw05.WideSame': WHATEVER THE INPUT: true; the input reads as it did. -/
def wideSameSpec : ChangeSpec := { name := "wideSame", fn := fun _ => fun
  | [d1, d2] => { results := [.lit (.bool true)], args := [d1, d2] }
  | _ => none }
def wideSameRow : OpenClaim := { program := "ytdedidjobjdekaa", sum := "59d0a88d9a3b940e3b27f7896be9dcbacd132219f0d8cd240563c25cae671376", func := "webster/websterlaw05.WideSame", spec := "wideSame", unfollowed := true, recurses := true, apart := false }
def WideSameSaid : Prop := wideSameRow.holds Try.pinned (OpenSpec.ofChange wideSameSpec)

/-- ITS FALSE NEIGHBOUR: 'it returns false'. Refute it at one input. -/
def wideSameWrong : ChangeSpec := { name := "wideSame", fn := fun _ => fun
  | [d1, d2] => { results := [.lit (.bool false)], args := [d1, d2] }
  | _ => none }
def WideSameWrongFalsely : Prop := wideSameRow.holds Try.pinned (OpenSpec.ofChange wideSameWrong)

/-- 'websterlaw05.WideWrites': WHATEVER THE INPUT: true; the input reads as it did. -/
def wideWritesSpec : ChangeSpec := { name := "wideWrites", fn := fun _ => fun
  | [d1, d2] => { results := [.lit (.bool true)], args := [d1, d2] }
  | _ => none }
def wideWritesRow : OpenClaim := { program := "ytdedidjobjdekaa", sum := "59d0a88d9a3b940e3b27f7896be9dcbacd132219f0d8cd240563c25cae671376", func := "webster/websterlaw05.WideWrites", spec := "wideWrites", unfollowed := true, recurses := true, apart := false }
def WideWritesSaid : Prop := wideWritesRow.holds Try.pinned (OpenSpec.ofChange wideWritesSpec)

/-- ITS FALSE NEIGHBOUR: 'it returns false'. Refute it at one input. -/
def wideWritesWrong : ChangeSpec := { name := "wideWrites", fn := fun _ => fun
  | [d1, d2] => { results := [.lit (.bool false)], args := [d1, d2] }
  | _ => none }
def WideWritesWrongFalsely : Prop := wideWritesRow.holds Try.pinned (OpenSpec.ofChange wideWritesWrong)

/-- 'websterlaw05.WideRefs': WHATEVER THE INPUT: true; the input reads as it did. -/
def wideRefsSpec : ChangeSpec := { name := "wideRefs", fn := fun _ => fun
  | [d] => { results := [.lit (.bool true)], args := [d] }
  | _ => none }
def wideRefsRow : OpenClaim := { program := "ytdedidjobjdekaa", sum := "59d0a88d9a3b940e3b27f7896be9dcbacd132219f0d8cd240563c25cae671376", func := "webster/websterlaw05.WideRefs", spec := "wideRefs", unfollowed := true, recurses := true, apart := false }
def WideRefsSaid : Prop := wideRefsRow.holds Try.pinned (OpenSpec.ofChange wideRefsSpec)

/-- ITS FALSE NEIGHBOUR: 'it returns false'. Refute it at one input. -/
def wideRefsWrong : ChangeSpec := { name := "wideRefs", fn := fun _ => fun
  | [d] => { results := [.lit (.bool false)], args := [d] }
  | _ => none }
def WideRefsWrongFalsely : Prop := wideRefsRow.holds Try.pinned (OpenSpec.ofChange wideRefsWrong)

/- THE SECOND FORM. 'bulk': how many values and letters a reading holds, each counted each time it is reached (what is shared counts as often as it is met; a slice's spare places count too). A statement '..UptoSaid' is the law's where the arguments, and the package variables that the reading takes, are together of bulk at most 1048576: NARROWER than '..Said'. Prove '..Said' where nothing that the law and all that it calls make is longer than what came in: it says more and counts as full. Else prove '..UptoSaid'. A law counts once. -/
mutual
def uptoBulk {H : Type} : DataW H → Nat
  | .lit (.string bytes) => bytes.length + 1
  | .lit _ => 1
  | .nil => 1
  | .ptr d => uptoBulk d + 1
  | .slice elems spare => uptoBulkAll elems + uptoBulkAll spare + 1
  | .agg parts => uptoBulkAll parts + 1
  | .iface _ d => uptoBulk d + 1
  | .map entries => uptoBulkEntries entries + 1
  | .held _ => 1
def uptoBulkAll {H : Type} : List (DataW H) → Nat
  | [] => 0
  | d :: r => uptoBulk d + uptoBulkAll r
def uptoBulkEntries {H : Type} : List (Lit × DataW H) → Nat
  | [] => 0
  | x :: r => uptoBulkEntry x + uptoBulkEntries r
def uptoBulkEntry {H : Type} : Lit × DataW H → Nat
  | (.string bytes, d) => bytes.length + uptoBulk d + 1
  | (_, d) => uptoBulk d + 1
 end
def uptoSmall : (H : Type) → List (DataW H) → Bool := fun _ ds => decide (uptoBulkAll ds ≤ 1048576)
def OpenSpec.upto (s : _root_.Go.ChangeSpec) : _root_.Go.OpenSpec := { _root_.Go.OpenSpec.ofChange s with cond := some uptoSmall }

/-- 'websterlaw05.WideBack', WHERE WHAT IT READS IS OF BULK AT MOST 1048576: true; the input reads as it did. -/
def wideBackUptoRow : OpenClaim := { program := "ytdedidjobjdekaa", sum := "59d0a88d9a3b940e3b27f7896be9dcbacd132219f0d8cd240563c25cae671376", func := "webster/websterlaw05.WideBack", spec := "wideBack", unfollowed := true, recurses := true, apart := false, narrowed := true }
def WideBackUptoSaid : Prop := wideBackUptoRow.holds Try.pinned (OpenSpec.upto wideBackSpec)

/-- 'websterlaw05.WideCheck', WHERE WHAT IT READS IS OF BULK AT MOST 1048576: true; the input reads as it did. -/
def wideCheckUptoRow : OpenClaim := { program := "ytdedidjobjdekaa", sum := "59d0a88d9a3b940e3b27f7896be9dcbacd132219f0d8cd240563c25cae671376", func := "webster/websterlaw05.WideCheck", spec := "wideCheck", unfollowed := true, recurses := true, apart := false, narrowed := true }
def WideCheckUptoSaid : Prop := wideCheckUptoRow.holds Try.pinned (OpenSpec.upto wideCheckSpec)

/-- 'websterlaw05.WideEncode', WHERE WHAT IT READS IS OF BULK AT MOST 1048576: true; the input reads as it did. -/
def wideEncodeUptoRow : OpenClaim := { program := "ytdedidjobjdekaa", sum := "59d0a88d9a3b940e3b27f7896be9dcbacd132219f0d8cd240563c25cae671376", func := "webster/websterlaw05.WideEncode", spec := "wideEncode", unfollowed := true, recurses := true, apart := false, narrowed := true }
def WideEncodeUptoSaid : Prop := wideEncodeUptoRow.holds Try.pinned (OpenSpec.upto wideEncodeSpec)

/-- 'websterlaw05.WideDecode', WHERE WHAT IT READS IS OF BULK AT MOST 1048576: true; the input reads as it did. -/
def wideDecodeUptoRow : OpenClaim := { program := "ytdedidjobjdekaa", sum := "59d0a88d9a3b940e3b27f7896be9dcbacd132219f0d8cd240563c25cae671376", func := "webster/websterlaw05.WideDecode", spec := "wideDecode", unfollowed := true, recurses := true, apart := false, narrowed := true }
def WideDecodeUptoSaid : Prop := wideDecodeUptoRow.holds Try.pinned (OpenSpec.upto wideDecodeSpec)

/-- 'websterlaw05.WideWords', WHERE WHAT IT READS IS OF BULK AT MOST 1048576: true; the input reads as it did. -/
def wideWordsUptoRow : OpenClaim := { program := "ytdedidjobjdekaa", sum := "59d0a88d9a3b940e3b27f7896be9dcbacd132219f0d8cd240563c25cae671376", func := "webster/websterlaw05.WideWords", spec := "wideWords", unfollowed := true, recurses := true, apart := false, narrowed := true }
def WideWordsUptoSaid : Prop := wideWordsUptoRow.holds Try.pinned (OpenSpec.upto wideWordsSpec)

/-- 'websterlaw05.WideSame', WHERE WHAT IT READS IS OF BULK AT MOST 1048576: true; the input reads as it did. -/
def wideSameUptoRow : OpenClaim := { program := "ytdedidjobjdekaa", sum := "59d0a88d9a3b940e3b27f7896be9dcbacd132219f0d8cd240563c25cae671376", func := "webster/websterlaw05.WideSame", spec := "wideSame", unfollowed := true, recurses := true, apart := false, narrowed := true }
def WideSameUptoSaid : Prop := wideSameUptoRow.holds Try.pinned (OpenSpec.upto wideSameSpec)

/-- 'websterlaw05.WideWrites', WHERE WHAT IT READS IS OF BULK AT MOST 1048576: true; the input reads as it did. -/
def wideWritesUptoRow : OpenClaim := { program := "ytdedidjobjdekaa", sum := "59d0a88d9a3b940e3b27f7896be9dcbacd132219f0d8cd240563c25cae671376", func := "webster/websterlaw05.WideWrites", spec := "wideWrites", unfollowed := true, recurses := true, apart := false, narrowed := true }
def WideWritesUptoSaid : Prop := wideWritesUptoRow.holds Try.pinned (OpenSpec.upto wideWritesSpec)

/-- 'websterlaw05.WideRefs', WHERE WHAT IT READS IS OF BULK AT MOST 1048576: true; the input reads as it did. -/
def wideRefsUptoRow : OpenClaim := { program := "ytdedidjobjdekaa", sum := "59d0a88d9a3b940e3b27f7896be9dcbacd132219f0d8cd240563c25cae671376", func := "webster/websterlaw05.WideRefs", spec := "wideRefs", unfollowed := true, recurses := true, apart := false, narrowed := true }
def WideRefsUptoSaid : Prop := wideRefsUptoRow.holds Try.pinned (OpenSpec.upto wideRefsSpec)

end Rows
end Go.Proofs.Ytdedidjobjdekaa
