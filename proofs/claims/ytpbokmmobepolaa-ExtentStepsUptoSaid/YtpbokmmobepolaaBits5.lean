/-
  What the laws of bits use: flat, done, known; and the law BitsNew.
-/
import Derived.Test.YtpbokmmobepolaaBits4
namespace Go.Proofs.Ytpbokmmobepolaa
open Go.RowKit Go.ChangeShapes Go.WideShapes Go.ChangeAt
set_option linter.unusedVariables false
set_option maxHeartbeats 2000000
set_option maxRecDepth 100000

def MadeIntsB (w : World) (l : List Int) (e : Ending) (w' : World) : Prop :=
  ∃ v, e = .returned v ∧ w'.ownsRow w.heap.size 3 1 v l.length (l.map (Value.int .i64)) ∧ Below w.heap.size w w'

theorem owns_mono {w : World} {base base' : Nat} {e : TypeId} {size : Nat} {v : Value} {n : Nat} {xs : List Value} (h : w.ownsRow base e size v n xs) (hb : base' ≤ base) : w.ownsRow base' e size v n xs := by
  refine ⟨h.1, ?_⟩
  rcases h.2 with h2 | ⟨g, cap, cur, rfl, hbg, rest⟩
  · exact .inl h2
  · exact .inr ⟨g, cap, cur, rfl, by omega, rest⟩

theorem take_snoc {l : List Int} {k : Nat} (h : k < l.length) : l.take (k + 1) = l.take k ++ [l.getD k 0] := by
  rw [List.take_add_one, List.getD_eq_getElem?_getD, List.getElem?_eq_getElem h]; rfl

/-- A thing that is done, as the statements hand it in: a kind, from where on, how many. -/
structure DoB where
  kind : Int
  frm : Int
  num : Int

def DoB.row (d : DoB) : List Value := [.int .i64 d.kind, .int .i64 d.frm, .int .i64 d.num]
def DoB.ok (d : DoB) : Prop := (-9223372036854775808 ≤ d.kind ∧ d.kind ≤ 9223372036854775807) ∧ (-9223372036854775808 ≤ d.frm ∧ d.frm ≤ 9223372036854775807) ∧ (-9223372036854775808 ≤ d.num ∧ d.num ≤ 9223372036854775807)
def DoBs (w : World) (a : Option Addr) (n c : Nat) (ds : List DoB) : Prop := n = ds.length ∧ n ≤ c ∧ c ≤ maxLen ∧ ReadsBy w a 3 DoB.row ds ∧ ∀ d ∈ ds, d.ok

/-- A map behind something that is done. -/
def doneB (b : Nat → Bool) (n : Nat) (d : DoB) : Nat → Bool := chgB b n d.frm d.num (!decide (d.kind = 1))

instance (b : Nat → Bool) (N n a : Nat) : Decidable (FirstIs b N n (some a)) := by unfold FirstIs; exact inferInstance

theorem c_BNewYes (n : Nat) (w : World) (hn : n ≤ 65536) : Calls Try.prog 26 #[.int .i64 n] w fun e w' => ∃ m g, e = .returned (.tuple #[.pointer (some ⟨m, 0, none⟩), .int .i64 0]) ∧ w.heap.size ≤ m ∧ w.heap.size ≤ g ∧ MapAt w' m g n (fun _ => false) ∧ Upd [] w w' := by
  refine (c_BNew n w (by omega) (by omega)).mono ?_
  intro e w' h
  unfold BNewPost at h
  rw [if_neg (by omega), Int.toNat_natCast] at h
  exact h
theorem c_BNewNo (k : Int) (w : World) (h0 : -9223372036854775808 ≤ k) (h1 : k ≤ 9223372036854775807) (hk : k < 0 ∨ 65536 < k) : Calls Try.prog 26 #[.int .i64 k] w fun e w' => e = .returned (.tuple #[.pointer none, .int .i64 2]) ∧ w = w' := by
  refine (c_BNew k w h0 h1).mono ?_
  intro e w' h
  unfold BNewPost at h
  rw [if_pos hk] at h
  exact h

/-- Take, where what comes out is told. -/
theorem c_TakeTo (m g n : Nat) (b : Nat → Bool) (w : World) (h : MapAt w m g n b) (f q : Int) (hf0 : -9223372036854775808 ≤ f) (hf1 : f ≤ 9223372036854775807) (hq1 : q ≤ 9223372036854775807) (x : Int) (b' : Nat → Bool) (hx : chgE b n f q false 3 = x) (hb : chgB b n f q false = b') :
    Calls Try.prog 28 #[.pointer (some ⟨m, 0, none⟩), .int .i64 f, .int .i64 q] w fun e w' => e = .returned (.int .i64 x) ∧ MapAt w' m g n b' ∧ Upd [g] w w' := by
  subst hx; subst hb
  exact c_Take m g n b w h f q hf0 hf1 hq1

/-- First, where what comes out is told. -/
theorem c_FirstTo (m g n : Nat) (b : Nat → Bool) (w : World) (h : MapAt w m g n b) (q a : Nat) (hq : 1 ≤ q) (h1 : q ≤ 65536) (ha : FirstIs b n q (some a)) :
    Calls Try.prog 27 #[.pointer (some ⟨m, 0, none⟩), .int .i64 q] w fun e w' => e = .returned (.tuple #[.int .i64 a, .bool true]) ∧ w = w' := by
  refine (c_First m g n b w h q (by omega)).mono ?_
  rintro e w' ⟨⟨o, ho, rfl⟩, rfl⟩
  rcases ho with ⟨h0, _⟩ | ⟨_, h0⟩
  · omega
  · rw [Int.toNat_natCast] at h0
    rw [h0.eq ha]
    exact ⟨rfl, rfl⟩
theorem c_FirstNone (m g n : Nat) (b : Nat → Bool) (w : World) (h : MapAt w m g n b) (q : Nat) (hq : 1 ≤ q) (h1 : q ≤ 65536) (ha : FirstIs b n q none) :
    Calls Try.prog 27 #[.pointer (some ⟨m, 0, none⟩), .int .i64 q] w fun e w' => e = .returned (.tuple #[.int .i64 0, .bool false]) ∧ w = w' := by
  refine (c_First m g n b w h q (by omega)).mono ?_
  rintro e w' ⟨⟨o, ho, rfl⟩, rfl⟩
  rcases ho with ⟨h0, _⟩ | ⟨_, h0⟩
  · omega
  · rw [Int.toNat_natCast] at h0
    rw [h0.eq ha]
    exact ⟨rfl, rfl⟩

def kn1 : Nat → Bool := chgB (fun _ => false) 8 0 2 false
def kn2 : Nat → Bool := chgB kn1 8 3 1 false

end Go.Proofs.Ytpbokmmobepolaa
