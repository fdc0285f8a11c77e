/-
  Lemmas about memory, rows of cells, bytes and integers, of whatever program.
-/
import Derived.Test.YtcecegcbkcdpjaaRows
import Derived.Handy
import Derived.WalkSpells
import Derived.WalkLawsBesides
import Derived.Outline
import Derived.Laws.AppendOwnNone
import Derived.Laws.Bits128
import Derived.Lib.Hide
import Derived.Deep.QuietTactic
import Derived.BigQuiet
namespace Go.Proofs.Ytcecegcbkcdpjaa
open Go.RowKit
set_option linter.unusedVariables false

/-! ### Rows of cells -/

/-- A slice's address and capacity, and the cells that are read behind it. -/
def Reads (w : World) (a : Option Addr) (c : Nat) (xs : List Value) : Prop :=
  (a = none ∧ c = 0 ∧ xs = []) ∨ ∃ x, a = some x ∧ ∀ i u, xs[i]? = some u → w.cell? (x.add i) = some u

theorem add_flat (b off i : Nat) : (⟨b, off, none⟩ : Addr).add i = ⟨b, off + i, none⟩ := by
  unfold Addr.add; split <;> simp_all

theorem Reads.at {w : World} {a : Option Addr} {c : Nat} {xs : List Value} (h : Reads w a c xs) (hl : 0 < xs.length) :
    ∃ b off, a = some ⟨b, off, none⟩ ∧ b < w.heap.size ∧ ∀ i u, xs[i]? = some u → w.cell? ⟨b, off + i, none⟩ = some u := by
  rcases h with ⟨_, _, rfl⟩ | ⟨⟨b, off, s⟩, rfl, h⟩
  · simp at hl
  · have h0 := h 0 xs[0] (by simp [hl])
    have hs : s = none := by
      have := World.cell?_spot h0
      simpa [Addr.add] using this
    subst hs
    refine ⟨b, off, rfl, ?_, fun i u hu => ?_⟩
    · have := World.block_lt_of_cell? w _ h0
      simpa [Addr.add] using this
    · have := h i u hu
      rwa [add_flat] at this

theorem Reads.below {w w' : World} {a : Option Addr} {c : Nat} {xs : List Value} (h : Reads w a c xs) (hb : Below w.heap.size w w') : Reads w' a c xs := by
  by_cases hl : 0 < xs.length
  · obtain ⟨b, off, rfl, hlt, hc⟩ := h.at hl
    refine .inr ⟨_, rfl, fun i u hu => ?_⟩
    rw [add_flat]
    exact (hb.cell (by exact hlt)).trans (hc i u hu)
  · have : xs = [] := List.eq_nil_of_length_eq_zero (by omega)
    subst this
    rcases h with h | ⟨x, rfl, _⟩
    · exact .inl h
    · exact .inr ⟨x, rfl, fun i u hu => by simp at hu⟩

theorem Reads.belowB {w w' : World} {a : Option Addr} {c : Nat} {xs : List Value} {B : Nat} (h : Reads w a c xs) (hb : Below B w w') (ha : ∀ x, a = some x → x.block < B) : Reads w' a c xs := by
  rcases h with h | ⟨x, rfl, h⟩
  · exact .inl h
  · refine .inr ⟨x, rfl, fun i u hu => ?_⟩
    have h' := h i u hu
    have hx := ha x rfl
    refine (hb.cell ?_).trans h'
    unfold Addr.add
    split
    · exact hx
    · exact hx

theorem Reads.nil (w : World) : Reads w none 0 [] := .inl ⟨rfl, rfl, rfl⟩
theorem Reads.empty {w : World} {a : Option Addr} {c : Nat} (h : a = none → c = 0) : Reads w a c [] := by
  cases a with
  | none => exact .inl ⟨rfl, h rfl, rfl⟩
  | some x => exact .inr ⟨x, rfl, fun i u hu => by simp at hu⟩

theorem Reads.alloc {w : World} {a : Option Addr} {c : Nat} {xs : List Value} (h : Reads w a c xs) (o : Obj) : Reads (w.alloc o) a c xs :=
  h.below ((Below.refl _ _).alloc (Nat.le_refl _) o)
theorem Reads.drew {w : World} {a : Option Addr} {c : Nat} {xs : List Value} (h : Reads w a c xs) : Reads w.drew a c xs := h

/-- A new block, read whole. -/
theorem Reads.made (w : World) (xs : List Value) (e : TypeId) (c : Nat) : Reads (w.alloc (.cells xs.toArray e)) (some ⟨w.heap.size, 0, none⟩) c xs := by
  refine .inr ⟨_, rfl, fun i u hu => ?_⟩
  rw [add_flat]
  rw [cell_of_row _ _ _ xs.toArray e (0, 0) (heap_alloc_new w _)]
  simpa using hu

/-- The same, at a block's number as the walk spells it. -/
theorem Reads.madeAt {w : World} {xs : List Value} {e : TypeId} {c b : Nat} (hb : b = w.heap.size) : Reads (w.alloc (.cells xs.toArray e)) (some ⟨b, 0, none⟩) c xs := by
  subst hb; exact Reads.made w xs e c

/-- What the call owns, it reads. -/
theorem owns_reads {w : World} {base : Nat} {e : TypeId} {size : Nat} {v : Value} {n : Nat} {xs : List Value} (h : w.ownsRow base e size v n xs) :
    ∃ a c, v = .slice a n c ∧ Reads w a c xs ∧ n ≤ c ∧ (∀ x, a = some x → base ≤ x.block ∧ x.block < w.heap.size) := by
  rcases h.2 with ⟨rfl, rfl⟩ | ⟨g, cap, cur, rfl, hb, hg, hn, hm, hs, ht⟩
  · have : xs = [] := List.eq_nil_of_length_eq_zero (by simpa using h.1)
    subst this
    exact ⟨none, 0, rfl, Reads.nil w, Nat.le_refl _, fun x hx => by cases hx⟩
  · refine ⟨_, cap, rfl, .inr ⟨_, rfl, h.cells rfl⟩, hn, ?_⟩
    intro x hx
    cases hx
    exact ⟨hb, (Array.getElem?_eq_some_iff.1 hg).1⟩

/-- 'out = append(out, src...)', out nil or the call's own, src whatever reads. -/
theorem wpList_app {P : Program} {w : World} {ops : Array Oper} {rest : List Oper} {o : Oper} {a : Act} {Q : Exit → Act → World → Prop} (hgd : o.guard = none) (s x : Operand) (t : TypeId)
    (ho : o.op = .call { callee := .builtin .append, args := #[s, x], argTypes := #[t, t] })
    (base : Nat) (e : TypeId) (z : Value) (size bytes : Nat) (ht : P.underlying t = some (.slice e)) (hinf : (P.info? e).map (fun i => (i.zero, i.size, i.bytes)) = some (some z, size, bytes))
    (hzs : z.cells.size = size) (hsz : 0 < size)
    (v : Value) (n : Nat) (xs : List Value) (hs : a.eval s = v) (hown : w.ownsRow base e size v n xs)
    (ax : Option Addr) (m c : Nat) (news : List Value) (hx : a.eval x = .slice ax m c) (hl : news.length = m * size) (hr : Reads w ax c news) (h1 : ∀ u ∈ news, u.oneCell' = true)
    (h63 : n + m ≤ maxLen) (hbytes : (n + m) * bytes ≤ 140737488355328) (hbase : base ≤ w.heap.size)
    (h : ∀ v' w', w'.ownsRow base e size v' (n + m) (xs ++ news) → w.grownBy w' v.ownBlock → wpList P ops Q rest (a.put o.dst v') w') : wpList P ops Q (o :: rest) a w := by
  obtain ⟨i, hi, hz, h2, h3⟩ := info_parts hinf
  rcases hr with ⟨ha0, hc0, hn0⟩ | ⟨ad, ha0, hr⟩
  · have hm : m = 0 := by
      rw [hn0] at hl
      have h0 : m * size = 0 := hl.symm
      rcases Nat.mul_eq_zero.1 h0 with h | h
      · exact h
      · omega
    subst hm; subst hn0; subst ha0; subst hc0
    refine wpList_append_own_none hgd s x t ho base e i size ht hi v n xs hs hown hx ?_
    have := h v w (by simpa using hown) (World.grownBy.refl w _)
    exact this
  · subst ha0
    exact wpList_append_own w hgd s x t ho base e i z size bytes ht hi hz h2 h3 hzs hsz v n xs hs hown ad m c news hx hl hr h1 h63 hbytes hbase (fun v' w' a b _ => h v' w' a b)

theorem ints_one (k : IntKind) (l : List Int) : ∀ u ∈ l.map (Value.int k), u.oneCell' = true := ints_oneCell k l

theorem bNext {w w1 w2 : World} (h : Below w.heap.size w w1) (k : Below w1.heap.size w1 w2) : Below w.heap.size w w2 := h.trans (k.mono h.size)
theorem bAlloc {w w1 : World} (h : Below w.heap.size w w1) {o : Obj} : Below w.heap.size w (w1.alloc o) := h.alloc h.size o
theorem bDrew {w w1 : World} (h : Below w.heap.size w w1) : Below w.heap.size w w1.drew := h.drew

/-! ### Bytes as a string -/

def str (l : List Int) : ByteArray := ⟨(l.map (fun n => UInt8.ofNat n.toNat)).toArray⟩

theorem str_fold (l : List Int) : ∀ (s : ByteArray), (l.foldl (fun r n => r.push (UInt8.ofNat n.toNat)) s) = ⟨s.data ++ (l.map (fun n => UInt8.ofNat n.toNat)).toArray⟩ := by
  induction l with
  | nil => intro s; simp
  | cons n l ih =>
    intro s
    simp only [List.foldl_cons]
    rw [ih]
    simp [ByteArray.push]

theorem loadCells_none {P : Program} (w : World) : (Conv.bytesToString (.slice none 0 0)).run P w = .ok (.string ByteArray.empty) w := by
  unfold Conv.bytesToString
  simp [Sem.run_pure]

theorem run_str {P : Program} (w : World) (src dst e : TypeId) (a : Option Addr) (n c : Nat) (l : List Int)
    (hs : P.underlying src = some (.slice e)) (he : P.underlying e = some (.int .u8)) (hd : P.underlying dst = some .string)
    (hn : n = l.length) (h : Reads w a c (l.map (Value.int .u8))) :
    (convert src dst (.slice a n c)).run P w = .ok (.string (str l)) w := by
  subst hn
  rw [run_convert_bytes_string w src dst e a _ c hs he hd]
  rcases h with ⟨rfl, rfl, hl⟩ | ⟨x, rfl, h⟩
  · have : l = [] := by simpa using hl
    subst this
    rw [show ([] : List Int).length = 0 from rfl, loadCells_none]
    rfl
  · have hlc := run_loadCells_list (P := P) w x (l.map (Value.int .u8)) h
    rw [List.length_map] at hlc
    rw [run_bytesToString w x l.length c l hlc, str_fold]
    simp [str]

def Byt (l : List Int) : Prop := ∀ x ∈ l, 0 ≤ x ∧ x ≤ 255

theorem Byt.nil : Byt [] := fun x h => by simp at h
theorem Byt.append {a b : List Int} (h : Byt a) (k : Byt b) : Byt (a ++ b) := fun x hx => by
  rcases List.mem_append.1 hx with hx | hx
  · exact h x hx
  · exact k x hx
theorem Byt.take {a : List Int} (h : Byt a) (n : Nat) : Byt (a.take n) := fun x hx => h x (List.mem_of_mem_take hx)
theorem Byt.drop {a : List Int} (h : Byt a) (n : Nat) : Byt (a.drop n) := fun x hx => h x (List.mem_of_mem_drop hx)

theorem str_toList (l : List Int) : (str l).toList = l.map (fun n => UInt8.ofNat n.toNat) := by
  unfold str; exact ByteArray.toList_mk _

theorem byte_inj {x y : Int} (hx : 0 ≤ x ∧ x ≤ 255) (hy : 0 ≤ y ∧ y ≤ 255) (h : UInt8.ofNat x.toNat = UInt8.ofNat y.toNat) : x = y := by
  have h2 := congrArg UInt8.toNat h
  simp only [UInt8.toNat_ofNat'] at h2
  omega

theorem map_byte_inj : ∀ {a b : List Int}, Byt a → Byt b → (a.map (fun n => UInt8.ofNat n.toNat) = b.map (fun n => UInt8.ofNat n.toNat) ↔ a = b)
  | [], [], _, _ => by simp
  | [], y :: b, _, _ => by simp
  | x :: a, [], _, _ => by simp
  | x :: a, y :: b, ha, hb => by
    simp only [List.map_cons, List.cons.injEq]
    have h1 : UInt8.ofNat x.toNat = UInt8.ofNat y.toNat ↔ x = y := ⟨byte_inj (ha x (by simp)) (hb y (by simp)), fun h => by rw [h]⟩
    rw [h1, map_byte_inj (fun z hz => ha z (by simp [hz])) (fun z hz => hb z (by simp [hz]))]

theorem str_eq {a b : List Int} (ha : Byt a) (hb : Byt b) : ((str a).toList == (str b).toList) = decide (a = b) := by
  rw [str_toList, str_toList, Bool.eq_iff_iff]
  simp only [beq_iff_eq, decide_eq_true_eq]
  exact map_byte_inj ha hb

/-- What a slice that came in is known by. -/
def Came (k : IntKind) (w : World) (a : Option Addr) (len cap : Nat) (zs : List Int) : Prop :=
  (a = none ∧ len = 0 ∧ cap = 0 ∧ zs = []) ∨
  ∃ x, a = some x ∧ len ≤ cap ∧ cap ≤ maxLen ∧ zs.length = cap ∧ (∀ i, i < zs.length → w.cell? (x.add i) = some (.int k (zs.getD i 0))) ∧ ∀ n ∈ zs, (Lit.int k n).wf = true

theorem Came.reads {k : IntKind} {w : World} {a : Option Addr} {len cap : Nat} {zs : List Int} (h : Came k w a len cap zs) :
    ∃ l : List Int, len = l.length ∧ len ≤ cap ∧ cap ≤ maxLen ∧ Reads w a cap (l.map (Value.int k)) ∧ ∀ x ∈ l, (Lit.int k x).wf = true := by
  rcases h with ⟨rfl, rfl, rfl, rfl⟩ | ⟨x, rfl, hl, hm, hz, hc, hw⟩
  · exact ⟨[], rfl, Nat.le_refl _, Nat.zero_le _, Reads.nil w, fun x hx => by simp at hx⟩
  · refine ⟨zs.take len, by simp; omega, hl, hm, .inr ⟨x, rfl, fun i u hu => ?_⟩, fun y hy => hw y (List.mem_of_mem_take hy)⟩
    simp only [List.getElem?_map, List.getElem?_take] at hu
    split at hu
    · rename_i hi
      have hi2 : i < zs.length := by omega
      have := hc i hi2
      rw [List.getElem?_eq_getElem hi2] at hu
      simp only [Option.map_some, Option.some.injEq] at hu
      rw [this, ← hu, List.getD_eq_getElem?_getD, List.getElem?_eq_getElem hi2]
      rfl
    · simp at hu

/-! ### Integers -/

theorem i64_and1 (n : Int) : bits .and .i64 n 1 = n % 2 := by
  have h1 : (BitVec.ofInt 64 1).toNat = 2 ^ 1 - 1 := by decide
  have key : (BitVec.ofInt 64 n &&& BitVec.ofInt 64 1).toNat = (n % ((2 ^ 64 : Nat) : Int)).toNat % 2 ^ 1 := by
    rw [BitVec.toNat_and, BitVec.toNat_ofInt, h1, Nat.and_two_pow_sub_one_eq_mod]
  show IntKind.i64.wrap ((BitVec.ofInt 64 n &&& BitVec.ofInt 64 1).toNat : Nat) = n % 2
  rw [key, IntKind.wrap_i64]
  omega

theorem i64_and65535 (n : Int) : bits .and .i64 n 65535 = n % 65536 := by
  have h1 : (BitVec.ofInt 64 65535).toNat = 2 ^ 16 - 1 := by decide
  have key : (BitVec.ofInt 64 n &&& BitVec.ofInt 64 65535).toNat = (n % ((2 ^ 64 : Nat) : Int)).toNat % 2 ^ 16 := by
    rw [BitVec.toNat_and, BitVec.toNat_ofInt, h1, Nat.and_two_pow_sub_one_eq_mod]
  show IntKind.i64.wrap ((BitVec.ofInt 64 n &&& BitVec.ofInt 64 65535).toNat : Nat) = n % 65536
  rw [key, IntKind.wrap_i64]
  omega

theorem nat_or_low (x c j : Nat) (hc : c < 2 ^ j) : (x * 2 ^ j) ||| c = x * 2 ^ j + c := by
  have := Nat.two_pow_add_eq_or_of_lt hc x
  rw [Nat.mul_comm x]
  exact this.symm

theorem i64_or1 (x : Int) (h0 : 0 ≤ x) (h1 : x < 65536) (h2 : x % 2 = 0) : bits .or .i64 x 1 = x + 1 := by
  have ha : (BitVec.ofInt 64 x).toNat = x.toNat := by rw [BitVec.toNat_ofInt]; omega
  have hb : (BitVec.ofInt 64 1).toNat = 1 := by decide
  have key : (BitVec.ofInt 64 x ||| BitVec.ofInt 64 1).toNat = x.toNat + 1 := by
    rw [BitVec.toNat_or, ha, hb]
    have := nat_or_low (x.toNat / 2) 1 1 (by decide)
    have e : x.toNat / 2 * 2 ^ 1 = x.toNat := by omega
    rwa [e] at this
  show IntKind.i64.wrap ((BitVec.ofInt 64 x ||| BitVec.ofInt 64 1).toNat : Nat) = x + 1
  rw [key, IntKind.wrap_i64]
  omega

/-- 'n<<8 | c' on an int32. -/
theorem i32_or8 (x c : Int) (h0 : 0 ≤ c) (h1 : c < 256) : bits .or .i32 (wrap32 (x * 256)) c = wrap32 (x * 256 + c) := by
  have ha : (BitVec.ofInt 32 (wrap32 (x * 256))).toNat = (x % 16777216).toNat * 2 ^ 8 := by
    rw [BitVec.toNat_ofInt]; unfold wrap32; omega
  have hb : (BitVec.ofInt 32 c).toNat = c.toNat := by rw [BitVec.toNat_ofInt]; omega
  have key : (BitVec.ofInt 32 (wrap32 (x * 256)) ||| BitVec.ofInt 32 c).toNat = (x % 16777216).toNat * 2 ^ 8 + c.toNat := by
    rw [BitVec.toNat_or, ha, hb]
    exact nat_or_low _ _ _ (by omega)
  show IntKind.i32.wrap ((BitVec.ofInt 32 (wrap32 (x * 256)) ||| BitVec.ofInt 32 c).toNat : Nat) = wrap32 (x * 256 + c)
  rw [key, IntKind.wrap_i32]
  unfold wrap32
  omega

end Go.Proofs.Ytcecegcbkcdpjaa
