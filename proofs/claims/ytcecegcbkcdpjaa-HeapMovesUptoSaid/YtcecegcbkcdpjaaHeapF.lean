/-
  Contracts of package heap: order, where all are in order.
-/
import Derived.Test.YtcecegcbkcdpjaaHeapE
namespace Go.Proofs.Ytcecegcbkcdpjaa
open Go.RowKit
set_option linter.unusedVariables false
set_option maxHeartbeats 4000000

section
variable {w : World} {B h g : Nat} {vb : Value} {S : HpS}
theorem c_Stable (H : HpAt w B h g vb S) (l : List Nat) (hl : InOrder S l) (hn : l.length ≤ 19) (a : Option Addr) (n c : Nat) (e0 : n = l.length) (hr : Reads w a c ((l.map (fun k : Nat => (k : Int))).map (Value.int .i64))) :
    Calls Try.prog 49 #[.slice a n c, .int .i64 n, .func (.func 47) #[.pointer (some ⟨h, 0, none⟩)] #[]] w fun e w' => e = .returned (.tuple #[]) ∧ Below w.heap.size w w' := by
  have HI := Lib.hid (c_Ins H l hl (by omega) a n c 0 e0 (Nat.zero_le _) hr)
  have hn2 : n ≤ 19 := by omega
  clear H hl hr e0 hn
  go_enter Try.func49, Try.ntmps49
  go_wp2
  go_loopw [7, 8] (fun p q wr => p = .int .i64 0 ∧ q = .int .i64 20 ∧ wr = w) (fun _ _ _ => 0)
  case atStart => exact ⟨rfl, rfl, rfl⟩
  case round =>
    obtain ⟨rfl, rfl, rfl⟩ := hrel
    go_wp2_with fail
    refine HI.out.mono ?_
    rintro e w' ⟨rfl, hb⟩
    have HB := Lib.hid hb
    clear hb
    go_wp2
    go_loopw [6] (fun p wr2 => p = .int .i64 20 ∧ Hid (Below wr.heap.size wr wr2)) (fun _ _ => 0)
    case atStart => exact ⟨rfl, HB.out⟩
    case round =>
      obtain ⟨rfl, HB2⟩ := hrel
      go_wp2
      go_end0
      exact ⟨rfl, HB2.out⟩

theorem c_SortStable (H : HpAt w B h g vb S) (l : List Nat) (hl : InOrder S l) (hn : l.length ≤ 19) (a : Option Addr) (n c : Nat) (e0 : n = l.length) (hr : Reads w a c ((l.map (fun k : Nat => (k : Int))).map (Value.int .i64))) :
    Calls Try.prog 46 #[.slice a n c, .func (.func 47) #[.pointer (some ⟨h, 0, none⟩)] #[]] w fun e w' => e = .returned (.tuple #[]) ∧ Below w.heap.size w w' := by
  have HI := Lib.hid (c_Stable H l hl hn a n c e0 hr)
  clear H hl hr e0 hn
  go_enter Try.func46, Try.ntmps46
  go_wp2_with fail
  refine HI.out.mono ?_
  rintro e w' ⟨rfl, hb⟩
  have HB := Lib.hid hb
  clear hb
  go_wp2
  go_end0
  exact ⟨rfl, HB.out⟩
end

end Go.Proofs.Ytcecegcbkcdpjaa
