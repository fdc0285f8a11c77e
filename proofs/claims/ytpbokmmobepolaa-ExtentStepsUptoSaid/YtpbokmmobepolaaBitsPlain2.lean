/-
  A map of bits, plain: words of it, runs turned, counts, where there is room first, what is taken as runs.
-/
import Derived.Test.YtpbokmmobepolaaBitsPlain
namespace Go.Proofs.Ytpbokmmobepolaa
set_option linter.unusedVariables false
set_option maxHeartbeats 400000

/-- The j-th word of a map. -/
def wd (b : Nat → Bool) (j : Nat) : Nat := wordN (fun i => b (64 * j + i)) 64
theorem wd_lt (b : Nat → Bool) (j : Nat) : wd b j < 18446744073709551616 := wordN_lt _ 64

theorem wd_bit (b : Nat → Bool) (p : Nat) : (wd b (p / 64)).testBit (p % 64) = b p := by
  unfold wd
  rw [testBit_wordN]
  have h1 : p % 64 < 64 := by omega
  have h2 : 64 * (p / 64) + p % 64 = p := by omega
  simp [h1, h2]

def turn (b : Nat → Bool) (p : Nat) : Nat → Bool := fun i => if i = p then !b i else b i

theorem wd_turn_same (b : Nat → Bool) (p : Nat) : wd (turn b p) (p / 64) = wd b (p / 64) ^^^ 2 ^ (p % 64) := by
  unfold wd
  rw [wordN_flip _ (show p % 64 < 64 by omega)]
  refine wordN_congr (fun i hi => ?_)
  unfold turn
  by_cases h : i = p % 64
  · have : 64 * (p / 64) + i = p := by omega
    rw [if_pos this, if_pos h]
  · have : ¬ 64 * (p / 64) + i = p := by omega
    rw [if_neg this, if_neg h]
theorem wd_turn_other (b : Nat → Bool) {p j : Nat} (h : j ≠ p / 64) : wd (turn b p) j = wd b j := by
  unfold wd
  refine wordN_congr (fun i hi => ?_)
  unfold turn
  have : ¬ 64 * j + i = p := by omega
  rw [if_neg this]

def wordsB (b : Nat → Bool) (W : Nat) : List Int := (List.range W).map (fun j => ((wd b j : Nat) : Int))
theorem wordsB_len (b : Nat → Bool) (W : Nat) : (wordsB b W).length = W := by simp [wordsB]
theorem wordsB_get {b : Nat → Bool} {W j : Nat} (h : j < W) : (wordsB b W).getD j 0 = ((wd b j : Nat) : Int) := by
  simp [wordsB, List.getD_eq_getElem?_getD, h]
theorem wordsB_turn (b : Nat → Bool) (W p : Nat) (h : p / 64 < W) : wordsB (turn b p) W = (wordsB b W).set (p / 64) ((wd b (p / 64) ^^^ 2 ^ (p % 64) : Nat) : Int) := by
  apply List.ext_getElem (by simp [wordsB])
  intro j h1 h2
  have hj : j < W := by simpa [wordsB] using h1
  by_cases he : p / 64 = j
  · subst he
    rw [List.getElem_set_self]
    simp [wordsB, wd_turn_same]
  · rw [List.getElem_set_ne he]
    simp [wordsB, wd_turn_other b (Ne.symm he)]

/-- k from f on are so. -/
def fill (b : Nat → Bool) (f k : Nat) (v : Bool) : Nat → Bool := fun i => if f ≤ i ∧ i < f + k then v else b i
theorem fill_0 (b : Nat → Bool) (f : Nat) (v : Bool) : fill b f 0 v = b := by
  funext i; unfold fill; rw [if_neg (by omega)]
theorem fill_at (b : Nat → Bool) (f k : Nat) (v : Bool) : fill b f k v (f + k) = b (f + k) := by unfold fill; rw [if_neg (by omega)]
theorem fill_turn {b : Nat → Bool} {f k : Nat} {v : Bool} (h : b (f + k) = !v) : fill b f (k + 1) v = turn (fill b f k v) (f + k) := by
  funext i
  unfold turn
  by_cases hi : i = f + k
  · subst hi
    rw [if_pos rfl, fill_at, h]
    unfold fill
    rw [if_pos (by omega)]; simp
  · rw [if_neg hi]
    unfold fill
    by_cases h1 : f ≤ i ∧ i < f + k
    · rw [if_pos h1, if_pos (by omega)]
    · rw [if_neg h1, if_neg (by omega)]

/-- All of a run are so. -/
def runIs (b : Nat → Bool) (f k : Nat) (v : Bool) : Prop := ∀ i, i < k → b (f + i) = v
theorem fill_back {b : Nat → Bool} {f k : Nat} {v : Bool} (h : runIs b f k v) (u : Bool) : fill (fill b f k u) f k v = b := by
  funext i
  unfold fill
  by_cases h1 : f ≤ i ∧ i < f + k
  · rw [if_pos h1]
    have := h (i - f) (by omega)
    rw [show f + (i - f) = i from by omega] at this
    exact this.symm
  · rw [if_neg h1, if_neg h1]
theorem fill_run (b : Nat → Bool) (f k : Nat) (v : Bool) : runIs (fill b f k v) f k v := fun i hi => by
  unfold fill; rw [if_pos (by omega)]

theorem cntF_const (v : Bool) : ∀ k, cntF (fun _ => v) k = if v then k else 0
  | 0 => by cases v <;> rfl
  | k + 1 => by rw [cntF, cntF_const v k]; cases v <;> simp
theorem cntF_run {b : Nat → Bool} {f k : Nat} {v : Bool} (h : runIs b f k v) : cntF (fun i => b (f + i)) k = if v then k else 0 := by
  rw [← cntF_const v k]; exact cntF_congr h
theorem cntF_out {b : Nat → Bool} {n : Nat} (h : ∀ i, n ≤ i → b i = false) (k : Nat) : cntF b (n + k) = cntF b n := by
  rw [cntF_add, cntF_run (v := false) (fun i _ => h (n + i) (by omega))]; rfl
theorem cntF_fill {b : Nat → Bool} {f k n : Nat} {v : Bool} (h : runIs b f k (!v)) (hn : f + k ≤ n) : cntF (fill b f k v) n + (if v then 0 else k) = cntF b n + (if v then k else 0) := by
  obtain ⟨r, rfl⟩ : ∃ r, n = f + k + r := ⟨n - (f + k), by omega⟩
  rw [cntF_add (fill b f k v), cntF_add (fill b f k v), cntF_add b, cntF_add b f k]
  have e1 : cntF (fill b f k v) f = cntF b f := cntF_congr (fun i hi => by unfold fill; rw [if_neg (by omega)])
  have e3 : cntF (fun i => fill b f k v (f + k + i)) r = cntF (fun i => b (f + k + i)) r := cntF_congr (fun i hi => by unfold fill; rw [if_neg (by omega)])
  rw [e1, e3, cntF_run (fill_run b f k v), cntF_run h]
  cases v <;> simp <;> omega

/-- Where so many are free first. -/
def FirstIs (b : Nat → Bool) (N n : Nat) : Option Nat → Prop
  | some a => a + n ≤ N ∧ runIs b a n false ∧ ∀ a', a' < a → ¬ runIs b a' n false
  | none => ∀ a', a' + n ≤ N → ¬ runIs b a' n false

theorem FirstIs.eq {b : Nat → Bool} {N n : Nat} {o p : Option Nat} (h : FirstIs b N n o) (k : FirstIs b N n p) : o = p := by
  cases o with
  | none =>
    cases p with
    | none => rfl
    | some a => exact absurd k.2.1 (h a k.1)
  | some a =>
    cases p with
    | none => exact absurd h.2.1 (k a h.1)
    | some c =>
      rcases Nat.lt_trichotomy a c with hl | rfl | hl
      · exact absurd h.2.1 (k.2.2 a hl)
      · rfl
      · exact absurd k.2.1 (h.2.2 c hl)

end Go.Proofs.Ytpbokmmobepolaa
