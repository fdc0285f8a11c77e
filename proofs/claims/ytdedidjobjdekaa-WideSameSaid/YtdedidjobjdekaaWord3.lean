/-
  Contracts of the loops of package word and of its reference: all numbers' bytes, one behind the other. And what the chapter's examples fix.
-/
import Derived.Test.YtdedidjobjdekaaWord2
namespace Go.Proofs.Ytdedidjobjdekaa
open Go.RowKit
set_option linter.unusedVariables false

set_option maxHeartbeats 400000

def I64 (l : List Int) : Prop := ∀ x ∈ l, -9223372036854775808 ≤ x ∧ x ≤ 9223372036854775807
def allB (l : List Int) : List Int := l.flatMap put4
theorem allB_len (l : List Int) : (allB l).length = 4 * l.length := by
  induction l with
  | nil => rfl
  | cons x l ih => simp [allB, put4] at ih ⊢; omega
theorem allB_byt (l : List Int) : Byt (allB l) := by
  intro x hx
  simp only [allB, List.mem_flatMap] at hx
  obtain ⟨o, _, hx⟩ := hx
  exact put4_byt o x hx
theorem allB_snoc {l : List Int} {k : Nat} {x : Int} (h : l[k]? = some x) : allB (l.take (k + 1)) = allB (l.take k) ++ put4 x := by
  rw [List.take_add_one, h]
  simp [allB]

theorem inf_u8 : (Try.prog.info? 5).map (fun i => (i.zero, i.size, i.bytes)) = some (some (.int .u8 0), 1, 1) := by kernel_rfl

/-- What is made, and is the call's own: a row of bytes. -/
def MadeBytes (w : World) (l : List Int) (e : Ending) (w' : World) : Prop :=
  ∃ v, e = .returned v ∧ w'.ownsRow w.heap.size 5 1 v l.length (l.map (Value.int .u8)) ∧ Below w.heap.size w w'

theorem c_All (a : Option Addr) (n c : Nat) (l : List Int) (w : World) (e0 : n = l.length) (h : Reads w a c (l.map (Value.int .i64))) (hb : I64 l) (hm : n ≤ 1000000) :
    Calls Try.prog 31 #[.slice a n c] w (MadeBytes w (allB l)) := by
  subst e0
  have hinf := inf_u8
  go_enter Try.func31, Try.ntmps31
  go_wp2
  go_loopw [3, 8] (fun v i wr => ∃ k : Nat, k ≤ l.length ∧ i = .int .i64 k ∧ wr.ownsRow w.heap.size 5 1 v (4 * k) ((allB (l.take k)).map (Value.int .u8)) ∧ Below w.heap.size w wr) (fun _ i _ => l.length - (intOf i).toNat)
  case atStart => exact ⟨0, Nat.zero_le _, rfl, World.ownsRow_nil _ _ _ _, Below.refl _ _⟩
  case round =>
    obtain ⟨k, hk, rfl, hown, hbel⟩ := hrel
    by_cases hlt : k < l.length
    · obtain ⟨b, off, rfl, hblt, hc⟩ := h.at (by simp; omega)
      have hx : l[k]? = some l[k] := List.getElem?_eq_getElem hlt
      have hbx := hb _ (List.getElem_mem hlt)
      have hcell := (hbel.cell (p := ⟨b, off + k, none⟩) hblt).trans (hc k _ (by simp [hlt]; rfl))
      have hs := allB_snoc hx
      have hlen := allB_len (l.take k)
      generalize l[k] = x at *
      obtain ⟨hx1, hx2⟩ := hbx
      have hsz := hbel.size
      have HS := Lib.hid hs
      have HL := Lib.hid hlen
      clear hs hlen hx hc h hb hinf
      go_wp2_with (first
        | (go_at_call 47; refine (c_Put _ _ hx1 hx2).mono ?_; rintro e w' ⟨rfl, rfl⟩)
        | (at_builtin; refine wpList_app rfl _ _ 23 rfl w.heap.size 5 (.int .u8 0) 1 1 Try.underlying23 inf_u8 rfl (by decide) _ _ _ rfl (hown.alloc _) _ 4 4 _ rfl rfl (put_reads _ x 4 _) (ints_one _ _) ?c1 ?c2 ?c3 ?_))
      case c1 => unfold maxLen; omega
      case c2 => omega
      case c3 => simp; omega
      · intro v' w1 hown' hgr
        have hlt' := hown.lt
        have hbel' : Below w.heap.size w w1 := (hbel.alloc hsz _).grown hgr (by simp; omega) (fun k hk => (hlt' k hk).1)
        clear hgr hown
        go_wp2
        go_roundw
        case rel => exact ⟨k + 1, by omega, by go_num, by rw [HS.out, List.map_append]; exact hown', hbel'⟩
        case measure => simp [intOf]; omega
    · have hkl : k = l.length := by omega
      subst hkl
      rw [List.take_of_length_le (Nat.le_refl _)] at hown
      rw [← allB_len] at hown
      clear hinf hb h
      go_wp2
      go_ret
      exact ⟨_, rfl, hown, hbel⟩

end Go.Proofs.Ytdedidjobjdekaa
