/-
  A space in memory; bytes laid into sectors.
-/
import Derived.Test.YtpbokmmobepolaaExtA
namespace Go.Proofs.Ytpbokmmobepolaa
open Go.RowKit Go.Maps
set_option linter.unusedVariables false
set_option maxHeartbeats 2000000

/-- Whose block is where. -/
structure SpI where
  m : Nat
  d : Nat
  dg : Nat
  bm : Nat
  bg : Nat
  mp : Nat
def SpI.all (I : SpI) : List Nat := [I.m, I.d, I.dg, I.bm, I.bg, I.mp]

/-- What a space holds: sectors, how often it was read and written, bytes, what is taken, what lives. -/
structure SpS where
  N : Nat
  r : Nat
  q : Nat
  bs : List Int
  b : Nat → Bool
  c : Nat
  f : Ext → Bool

structure SpAt (w : World) (I : SpI) (S : SpS) : Prop where
  row : Row w I.m 68 [.pointer (some ⟨I.d, 0, none⟩), .pointer (some ⟨I.bm, 0, none⟩), .map (some I.mp)]
  dk : DiskAt w I.d I.dg S.N S.r S.q S.bs
  bt : MapAt w I.bm I.bg S.N S.b
  lv : LiveAt w I.mp S.c S.f
  ne : I.all.Nodup

theorem SpAt.keep {w w' : World} {I : SpI} {S : SpS} (h : SpAt w I S) {l : List Nat} (u : Upd l w w') (hl : ∀ k ∈ I.all, k ∉ l) : SpAt w' I S :=
  ⟨h.row.keep u (hl _ (by simp [SpI.all])), h.dk.keep u (hl _ (by simp [SpI.all])) (hl _ (by simp [SpI.all])), h.bt.keep u (hl _ (by simp [SpI.all])) (hl _ (by simp [SpI.all])), h.lv.keep u (hl _ (by simp [SpI.all])), h.ne⟩
theorem SpAt.below {w w' : World} {I : SpI} {S : SpS} (h : SpAt w I S) (hb : Below w.heap.size w w') : SpAt w' I S := h.keep (l := []) (.of_below hb) (by simp)
theorem SpAt.lt {w : World} {I : SpI} {S : SpS} (h : SpAt w I S) : ∀ k ∈ I.all, k < w.heap.size := fun k hk => by
  simp only [SpI.all, List.mem_cons, List.not_mem_nil, or_false] at hk
  rcases hk with rfl | rfl | rfl | rfl | rfl | rfl
  · exact h.row.lt
  · exact h.dk.head.lt
  · exact h.dk.data.lt
  · exact h.bt.head.lt
  · exact h.bt.data.lt
  · exact h.lv.lt

theorem SpAt.write {w w' : World} {I : SpI} {S : SpS} (h : SpAt w I S) {q : Nat} {bs : List Int} (hd : DiskAt w' I.d I.dg S.N S.r q bs) (u : Upd [I.d, I.dg] w w') : SpAt w' I { S with q := q, bs := bs } := by
  have hne := h.ne
  simp [SpI.all] at hne
  exact ⟨h.row.keep u (by simp; omega), hd, h.bt.keep u (by simp; omega) (by simp; omega), h.lv.keep u (by simp; omega), h.ne⟩
theorem SpAt.live {w w' : World} {I : SpI} {S : SpS} (h : SpAt w I S) {c : Nat} {f : Ext → Bool} (hd : LiveAt w' I.mp c f) (u : Upd [I.mp] w w') : SpAt w' I { S with c := c, f := f } := by
  have hne := h.ne
  simp [SpI.all] at hne
  exact ⟨h.row.keep u (by simp; omega), h.dk.keep u (by simp; omega) (by simp; omega), h.bt.keep u (by simp; omega) (by simp; omega), hd, h.ne⟩
theorem SpAt.bits {w w' : World} {I : SpI} {S : SpS} (h : SpAt w I S) {b : Nat → Bool} (hd : MapAt w' I.bm I.bg S.N b) (u : Upd [I.bg] w w') : SpAt w' I { S with b := b } := by
  have hne := h.ne
  simp [SpI.all] at hne
  exact ⟨h.row.keep u (by simp; omega), h.dk.keep u (by simp; omega) (by simp; omega), hd, h.lv.keep u (by simp; omega), h.ne⟩
theorem Upd.new {l m : List Nat} {w w' : World} (h : Upd m w w') (hm : ∀ k ∈ m, k ∈ l ∨ w.heap.size ≤ k) : Upd l w w' :=
  ⟨h.os, h.tape, h.output, h.size, fun i hi hn => h.block i hi (fun h2 => (hm i h2).elim hn (fun h3 => by omega))⟩
theorem results_cellE {fn : Func} {p : Tmp} {ty : TypeId} (h : fn.results = #[.cell p ty]) (tmps : Array Value) (P : Program) (w : World) :
    (results fn tmps).run P w = ((asAddr (tmps.getD p undef)).run P w).andThen fun a w₁ => (loadVar ty a).run P w₁ := by
  simp only [results, h]
  simp [Sem.run_bind, Result.andThen]
theorem reads_keep {w w' : World} {a : Option Addr} {c : Nat} {xs : List Value} (h : Reads w a c xs) {l : List Nat} (u : Upd l w w') (hd : 0 < xs.length → ∀ y, a = some y → y.block ∉ l) : Reads w' a c xs := by
  by_cases h0 : 0 < xs.length
  · exact u.reads h (hd h0)
  · have : xs = [] := List.eq_nil_of_length_eq_zero (by omega)
    subst this
    rcases h with ⟨h1, h2, -⟩ | ⟨x, h1, -⟩
    · exact .inl ⟨h1, h2, rfl⟩
    · exact .inr ⟨x, h1, fun i u hu => by simp at hu⟩
theorem readBlock {w : World} {a : Option Addr} {c : Nat} {xs : List Value} (h : Reads w a c xs) (h0 : 0 < xs.length) : ∀ y, a = some y → y.block < w.heap.size := fun y hy => by
  obtain ⟨b, o, rfl, hb, -⟩ := h.at h0
  cases hy
  exact hb
theorem reads_from {w : World} {a : Option Addr} {cap : Nat} {xs : List Value} (h : Reads w a cap xs) (hx : xs.length ≤ cap) (lo m : Nat) (hl : lo + m ≤ xs.length) : Reads w (if cap = lo then a else a.map (fun x => x.add lo)) (cap - lo) ((xs.drop lo).take m) := by
  rcases h with ⟨rfl, rfl, rfl⟩ | ⟨x, rfl, h⟩
  · simp at hl
    obtain ⟨rfl, rfl⟩ := hl
    exact .inl ⟨rfl, rfl, rfl⟩
  · by_cases hc : cap = lo
    · rw [if_pos hc]
      exact .inr ⟨x, rfl, fun i u hu => by
        rw [List.getElem?_take] at hu
        split at hu
        · omega
        · cases hu⟩
    · rw [if_neg hc]
      exact .inr ⟨x.add lo, rfl, fun i u hu => by
        rw [List.getElem?_take] at hu
        split at hu
        · rw [List.getElem?_drop] at hu
          have := h _ u hu
          rwa [show (x.add lo).add i = x.add (lo + i) by unfold Addr.add; by_cases h1 : lo = 0 <;> by_cases h2 : i = 0 <;> simp [h1, h2, Nat.add_assoc]]
        · cases hu⟩

/-! ### Bytes, filled up to sectors -/

def chunk (b : List Int) (i : Nat) : List Int := (b.drop (64 * i)).take 64
theorem chunk_len (b : List Int) (i : Nat) : (chunk b i).length ≤ 64 := by simp [chunk]; omega
theorem chunk_byt {b : List Int} (h : Byt b) (i : Nat) : Byt (chunk b i) := (h.drop _).take _
def padS (b : List Int) : Nat → List Int
  | 0 => []
  | k + 1 => padS b k ++ filled (chunk b k)
theorem padS_len (b : List Int) : ∀ k, (padS b k).length = 64 * k
  | 0 => rfl
  | k + 1 => by rw [padS, List.length_append, padS_len b k, filled_len (chunk_len b k)]; omega
theorem padS_byt {b : List Int} (h : Byt b) : ∀ k, Byt (padS b k)
  | 0 => fun x hx => by cases hx
  | k + 1 => (padS_byt h k).append (filled_byt (chunk_byt h k))
theorem chunk_get (b : List Int) (i j : Nat) (hj : j < 64) : (chunk b i)[j]? = b[64 * i + j]? := by
  unfold chunk; rw [List.getElem?_take, if_pos hj, List.getElem?_drop]
theorem padS_get (b : List Int) : ∀ (k j : Nat), j < 64 * k → j < b.length → (padS b k)[j]? = b[j]?
  | 0, j, h, _ => by omega
  | k + 1, j, h, hb => by
    rw [padS]
    by_cases hj : j < 64 * k
    · rw [List.getElem?_append_left (by rw [padS_len]; exact hj)]
      exact padS_get b k j hj hb
    · rw [List.getElem?_append_right (by rw [padS_len]; omega), padS_len]
      unfold filled
      have hc : (chunk b k)[j - 64 * k]? = b[j]? := by rw [chunk_get b k _ (by omega)]; congr 1; omega
      have hlt : j - 64 * k < (chunk b k).length := by
        rcases Nat.lt_or_ge (j - 64 * k) (chunk b k).length with h1 | h1
        · exact h1
        · rw [List.getElem?_eq_none h1, List.getElem?_eq_getElem hb] at hc
          cases hc
      rw [List.getElem?_append_left hlt, hc]
theorem padS_take (b : List Int) {k : Nat} (h : b.length ≤ 64 * k) : (padS b k).take b.length = b := by
  apply List.ext_getElem?
  intro j
  rw [List.getElem?_take]
  by_cases hj : j < b.length
  · rw [if_pos hj, padS_get b k j (by omega) hj]
  · rw [if_neg hj, List.getElem?_eq_none (by omega)]

theorem lay_step {bs b : List Int} {N F k : Nat} (hl : bs.length = 64 * N) (h : F + k + 1 ≤ N) :
    splice (splice bs (64 * F) (padS b k)) (64 * (F + k)) (filled (chunk b k)) = splice bs (64 * F) (padS b (k + 1)) := by
  have h1 := splice_splice bs (64 * F) (padS b k) (filled (chunk b k)) (by rw [padS_len, filled_len (chunk_len b k)]; omega)
  rw [padS_len] at h1
  rw [show 64 * (F + k) = 64 * F + 64 * k by omega, h1]
  rfl
theorem splice_none (L : List Int) (o : Nat) (h : o ≤ L.length) : splice L o [] = L := splice_nil _ _

end Go.Proofs.Ytpbokmmobepolaa
