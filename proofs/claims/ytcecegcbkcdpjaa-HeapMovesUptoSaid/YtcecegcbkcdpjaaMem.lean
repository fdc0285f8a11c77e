/-
  Lemmas about rows of cells that are written: what turned, and what did not; copy and clear as laws of the walk.
-/
import Derived.Test.YtcecegcbkcdpjaaPlanH
import Derived.Laws.CopyOwn
namespace Go.Proofs.Ytcecegcbkcdpjaa
open Go.RowKit
set_option linter.unusedVariables false

/-- Of the blocks that were there nothing but those in l has turned. -/
structure Upd (l : List Nat) (w w' : World) : Prop where
  os : w'.os = w.os
  tape : w'.tape = w.tape
  output : w'.output = w.output
  size : w.heap.size ≤ w'.heap.size
  block : ∀ k, k < w.heap.size → k ∉ l → w'.heap[k]? = w.heap[k]?

theorem Upd.refl (l : List Nat) (w : World) : Upd l w w := ⟨rfl, rfl, rfl, Nat.le_refl _, fun _ _ _ => rfl⟩
theorem Upd.trans {l : List Nat} {a b c : World} (h : Upd l a b) (k : Upd l b c) : Upd l a c :=
  ⟨k.os.trans h.os, k.tape.trans h.tape, k.output.trans h.output, Nat.le_trans h.size k.size, fun i hi hn => (k.block i (Nat.lt_of_lt_of_le hi h.size) hn).trans (h.block i hi hn)⟩
theorem Upd.mono {l m : List Nat} {a b : World} (h : Upd l a b) (hs : ∀ k ∈ l, k ∈ m) : Upd m a b :=
  ⟨h.os, h.tape, h.output, h.size, fun i hi hn => h.block i hi (fun hm => hn (hs i hm))⟩
theorem Upd.of_below {l : List Nat} {a b : World} (h : Below a.heap.size a b) : Upd l a b := ⟨h.os, h.tape, h.output, h.size, fun i hi _ => h.block i hi⟩
theorem Upd.below {l : List Nat} {a b : World} {B : Nat} (h : Upd l a b) (hB : B ≤ a.heap.size) (hl : ∀ k ∈ l, B ≤ k) : Below B a b :=
  ⟨h.os, h.tape, h.output, h.size, fun i hi => h.block i (by omega) (fun hm => by have := hl i hm; omega)⟩
theorem Upd.alloc {l : List Nat} {a b : World} (h : Upd l a b) (o : Obj) : Upd l a (b.alloc o) := h.trans (.of_below ((Below.refl _ _).alloc (Nat.le_refl _) o))
theorem Upd.drew {l : List Nat} {a b : World} (h : Upd l a b) : Upd l a b.drew := ⟨h.os, h.tape, h.output, h.size, h.block⟩
theorem Upd.setCell {l : List Nat} {a b : World} (h : Upd l a b) {p : Addr} (hp : p.block ∈ l) (u : Value) : Upd l a (b.setCell p u) :=
  h.trans ⟨rfl, rfl, rfl, by simp [World.setCell], fun k hk hn => Below.heap_setCell _ _ _ _ (fun e => hn (e ▸ hp))⟩
theorem Upd.setRow {l : List Nat} {a b : World} (h : Upd l a b) {g : Nat} (hg : g ∈ l) (cs : Array Value) : Upd l a (b.setRow g cs) :=
  h.trans ⟨rfl, rfl, rfl, by simp, fun k hk hn => setRow_other b g k cs (fun e => hn (e ▸ hg))⟩
theorem Upd.heap {l : List Nat} {a b : World} (h : Upd l a b) {k : Nat} {o : Obj} (hk : a.heap[k]? = some o) (hn : k ∉ l) : b.heap[k]? = some o :=
  (h.block k (Array.getElem?_eq_some_iff.1 hk).1 hn).trans hk
theorem Upd.reads {l : List Nat} {w w' : World} {a : Option Addr} {c : Nat} {xs : List Value} (h : Upd l w w') (hr : Reads w a c xs) (ha : ∀ x, a = some x → x.block ∉ l) : Reads w' a c xs := by
  by_cases hl : 0 < xs.length
  · obtain ⟨b, off, rfl, hlt, hc⟩ := hr.at hl
    refine .inr ⟨_, rfl, fun i u hu => ?_⟩
    rw [add_flat]
    exact (World.cell?_of_block (w := w) (h.block b hlt (ha _ rfl))).trans (hc i u hu)
  · have : xs = [] := List.eq_nil_of_length_eq_zero (by omega)
    subst this
    rcases hr with h | ⟨x, rfl, _⟩
    · exact .inl h
    · exact .inr ⟨x, rfl, fun i u hu => by simp at hu⟩

/-- A block of cells, whole. -/
def Row (w : World) (g : Nat) (t : TypeId) (xs : List Value) : Prop := w.heap[g]? = some (.cells xs.toArray t (0, 0))

theorem ownsSame {w w' : World} {base : Nat} {e : TypeId} {size : Nat} {v : Value} {n : Nat} {xs : List Value} (h : w.ownsRow base e size v n xs) (hb : ∀ k, v.ownBlock = some k → w'.heap[k]? = w.heap[k]?) : w'.ownsRow base e size v n xs := by
  refine ⟨h.1, ?_⟩
  rcases h.2 with h2 | ⟨g, cap, cur, rfl, hbg, hg, rest⟩
  · exact .inl h2
  · exact .inr ⟨g, cap, cur, rfl, hbg, (hb g rfl).trans hg, rest⟩
theorem Upd.owns {l : List Nat} {w w' : World} {base : Nat} {e : TypeId} {size : Nat} {v : Value} {n : Nat} {xs : List Value} (u : Upd l w w') (h : w.ownsRow base e size v n xs) (hn : ∀ k, v.ownBlock = some k → k ∉ l) : w'.ownsRow base e size v n xs :=
  ownsSame h (fun k hk => u.block k (h.lt k hk).2 (hn k hk))
/-- What is owned from 'base' on, where all that turned lies below. -/
theorem Upd.ownsAbove {l : List Nat} {w w' : World} {base : Nat} {e : TypeId} {size : Nat} {v : Value} {n : Nat} {xs : List Value} (u : Upd l w w') (h : w.ownsRow base e size v n xs) (hn : ∀ k ∈ l, k < base) : w'.ownsRow base e size v n xs :=
  u.owns h (fun k hk hm => by have := (h.lt k hk).1; have := hn k hm; omega)

theorem Row.lt {w : World} {g : Nat} {t : TypeId} {xs : List Value} (h : Row w g t xs) : g < w.heap.size := (Array.getElem?_eq_some_iff.1 h).1
theorem Row.cell {w : World} {g : Nat} {t : TypeId} {xs : List Value} (h : Row w g t xs) {i : Nat} {v : Value} (hv : xs[i]? = some v) : w.cell? ⟨g, i, none⟩ = some v := by
  rw [cell_of_row _ _ _ xs.toArray t (0, 0) h]; simpa using hv
theorem Row.free {w : World} {g : Nat} {t : TypeId} {xs : List Value} (h : Row w g t xs) (i : Nat) : w.frozen? ⟨g, i, none⟩ = false := by
  unfold Row at h; simp [World.frozen?, h]
theorem Row.made (w : World) (xs : List Value) (t : TypeId) : Row (w.alloc (.cells xs.toArray t)) w.heap.size t xs := heap_alloc_new w _
theorem Row.keep {w w' : World} {g : Nat} {t : TypeId} {xs : List Value} (h : Row w g t xs) {l : List Nat} (u : Upd l w w') (hn : g ∉ l) : Row w' g t xs := u.heap h hn
theorem Row.alloc {w : World} {g : Nat} {t : TypeId} {xs : List Value} (h : Row w g t xs) (o : Obj) : Row (w.alloc o) g t xs := h.keep (l := []) ((Upd.refl _ _).alloc o) (by simp)
theorem Row.drew {w : World} {g : Nat} {t : TypeId} {xs : List Value} (h : Row w g t xs) : Row w.drew g t xs := h
theorem Row.set {w : World} {g : Nat} {t : TypeId} {xs : List Value} (h : Row w g t xs) (i : Nat) (v : Value) : Row (w.setCell ⟨g, i, none⟩ v) g t (xs.set i v) := by
  unfold Row at h ⊢
  simp only [World.setCell, Array.getElem?_modify, h]
  simp
theorem Row.setOther {w : World} {g : Nat} {t : TypeId} {xs : List Value} (h : Row w g t xs) {p : Addr} (hp : p.block ≠ g) (v : Value) : Row (w.setCell p v) g t xs :=
  (Below.heap_setCell _ _ _ _ (Ne.symm hp)).trans h
theorem Row.setRow {w : World} {g : Nat} {t : TypeId} {xs : List Value} (h : Row w g t xs) (ys : List Value) : Row (w.setRow g ys.toArray) g t ys := setRow_heap w g xs.toArray ys.toArray t _ h
theorem Row.reads {w : World} {g : Nat} {t : TypeId} {xs ys : List Value} {off c : Nat} (h : Row w g t xs) (hy : ∀ i u, ys[i]? = some u → xs[off + i]? = some u) : Reads w (some ⟨g, off, none⟩) c ys := by
  refine .inr ⟨_, rfl, fun i u hu => ?_⟩
  rw [add_flat]
  exact h.cell (hy i u hu)
theorem Row.owns {w : World} {g : Nat} {t : TypeId} {xs : List Value} (h : Row w g t xs) {base n c : Nat} (hb : base ≤ g) (hc : c = xs.length) (hn : n ≤ c) (hm : c ≤ maxLen) : w.ownsRow base t 1 (.slice (some ⟨g, 0, none⟩) n c) n (xs.take n) := by
  subst hc
  refine ⟨by simp; omega, .inr ⟨g, xs.length, xs.toArray, rfl, hb, h, hn, hm, by simp, by simp⟩⟩

theorem getD_map8 {l : List Int} {i : Nat} (h : i < l.length) {k : IntKind} : (l.map (Value.int k))[i]? = some (.int k (l.getD i 0)) := by
  simp [h]

theorem byt_getD8 {l : List Int} (h : Byt l) (i : Nat) : 0 ≤ l.getD i 0 ∧ l.getD i 0 ≤ 255 := by
  by_cases hi : i < l.length
  · rw [List.getD_eq_getElem?_getD, List.getElem?_eq_getElem hi]
    exact h _ (List.getElem_mem hi)
  · simp [List.getElem?_eq_none (Nat.le_of_not_lt hi)]

theorem splice_get {α : Type} (L : List α) (off : Nat) (cs : List α) (h : off + cs.length ≤ L.length) (i : Nat) :
    (splice L off cs)[i]? = if i < off then L[i]? else if i < off + cs.length then cs[i - off]? else L[i]? := by
  unfold splice
  by_cases h1 : i < off
  · rw [if_pos h1, List.getElem?_append_left (by simp; omega), List.getElem?_take, if_pos h1]
  · rw [if_neg h1, List.getElem?_append_right (by simp; omega), List.length_take, Nat.min_eq_left (by omega)]
    by_cases h2 : i < off + cs.length
    · rw [if_pos h2, List.getElem?_append_left (by omega)]
    · rw [if_neg h2, List.getElem?_append_right (by omega), List.getElem?_drop]
      congr 1
      omega

theorem splice_nil {α : Type} (L : List α) (off : Nat) : splice L off [] = L := by simp [splice]
theorem splice_map {α β : Type} (f : α → β) (L : List α) (off : Nat) (cs : List α) : splice (L.map f) off (cs.map f) = (splice L off cs).map f := by
  simp [splice, List.map_take, List.map_drop]

/-- make([]T, n), T of one cell. -/
theorem wpList_mk {P : Program} {w : World} {ops : Array Oper} {rest : List Oper} {o : Oper} {a : Act} {Q : Exit → Act → World → Prop} (hw : Region.wanted o (yielded ops a.tmps) = true) (l c : Operand) (t : TypeId) (ho : o.op = Op.makeSlice t l c)
    (e : TypeId) (z : Value) (bytes : Nat) (ht : P.underlying t = some (.slice e)) (hinf : (P.info? e).map (fun i => (i.zero, i.size, i.bytes)) = some (some z, 1, bytes)) (hz : z.cells = #[z])
    (kl kc : IntKind) (L C : Int) (n : Nat) (hl : a.eval l = .int kl L) (hc : a.eval c = .int kc C) (hL : L = ↑n) (hC : C = ↑n) (hb : bytes * n ≤ 281474976710656) (hm : n ≤ maxLen)
    (h : ∀ w', Row w' w.heap.size e (List.replicate n z) → Upd [] w w' → wpList P ops Q rest (a.put o.dst (.slice (some ⟨w.heap.size, 0, none⟩) n n)) w') : wpList P ops Q (o :: rest) a w := by
  obtain ⟨i, hi, hiz, hs, hbi⟩ := info_parts hinf
  refine BigFrame.wpList_want hw fun K hK => ?_
  obtain ⟨w', hrun, own, gr⟩ := run_make_full (P := P) w w.heap.size t e i z 1 ht hi hiz hs kl kc n (by rw [hbi]; exact hb) hm (Nat.le_refl _)
  subst hL; subst hC
  unfold Oper.wp
  simp [execOp, ho, hl, hc, hrun, Result.andThen]
  refine hK _ _ (h w' ?_ ⟨gr.os, gr.tape, gr.output, gr.size, fun k hk _ => gr.block k hk (by simp)⟩)
  rcases own.2 with ⟨hv, _⟩ | ⟨g, cap, cur, hv, hbg, hh, hn, hcm, hcs, htk⟩
  · cases hv
  · cases hv
    unfold Row
    rw [hh]
    rw [hz, Nat.mul_one, toList_madeCells_one] at htk
    have : cur.toList = List.replicate n z := by
      rw [← htk, List.take_of_length_le (by simp [hcs])]
    rw [← this]

/-- copy(dst, src), dst within a row that is known whole. -/
theorem wpList_cpy {P : Program} {w : World} {ops : Array Oper} {rest : List Oper} {o : Oper} {a : Act} {Q : Exit → Act → World → Prop} (hgd : o.guard = none) (d s : Operand) (dT sT : TypeId)
    (ho : o.op = .call { callee := .builtin .copy, args := #[d, s], argTypes := #[dT, sT] }) (elem : TypeId) (hu : P.underlying dT = some (.slice elem)) (hsz : (P.info? elem).map (·.size) = some 1)
    (dp sp : Option Addr) (dLen dCap sLen sCap : Nat) (hd : a.eval d = .slice dp dLen dCap) (hs : a.eval s = .slice sp sLen sCap)
    (g off : Nat) (cur : List Value) (t : TypeId) (hg : Row w g t cur) (ss : List Value) (hr : Reads w sp sCap ss) (hl : ss.length = sLen)
    (hpos : 0 < dLen → dp = some ⟨g, off, none⟩) (hfit : off + dLen ≤ cur.length) (h1 : ∀ v ∈ ss, v.oneCell' = true) (k : Nat) (hk : k = (ss.take dLen).length)
    (h : ∀ w', Row w' g t (splice cur off (ss.take dLen)) → Upd [g] w w' → wpList P ops Q rest (a.put o.dst (.int .i64 k)) w') :
    wpList P ops Q (o :: rest) a w := by
  subst hk
  have hlen : (ss.take dLen).length = Nat.min sLen dLen := by rw [List.length_take, hl, Nat.min_comm]
  by_cases h0 : (ss.take dLen).length = 0
  · obtain h00 : ss.take dLen = [] := List.eq_nil_of_length_eq_zero h0
    refine wpList_copy_nothing hgd d s dT sT ho elem hu hsz dp sp dLen dCap sLen sCap hd hs (by rw [← hlen]; exact h0) ?_
    have := h w (by rw [h00, splice_nil]; exact hg) (Upd.refl _ _)
    rwa [h00] at this
  · have hd0 : 0 < dLen := by
      rcases Nat.eq_zero_or_pos dLen with h | h
      · subst h; simp at h0
      · exact h
    have hs0 : 0 < ss.length := by
      rcases Nat.eq_zero_or_pos ss.length with h | h
      · rw [List.length_take, h] at h0; simp at h0
      · exact h
    have hdp := hpos hd0
    subst hdp
    obtain ⟨b, o2, rfl, _, hc⟩ := hr.at hs0
    have htl : (ss.take dLen).length ≤ dLen := by simp; omega
    refine wpList_copy_own hgd d s dT sT ho elem hu hsz g off dLen dCap ⟨b, o2, none⟩ sLen sCap hd hs cur.toArray t hg (ss.take dLen) hlen (fun j v hv => ?_) (by simp; omega) (fun v hv => h1 v (List.mem_of_mem_take hv)) ?_
    · rw [add_flat]
      refine hc j v ?_
      rw [List.getElem?_take] at hv
      split at hv
      · exact hv
      · cases hv
    · have e : (cur.toArray.toList.take off ++ (ss.take dLen ++ cur.toArray.toList.drop (off + (ss.take dLen).length))).toArray = (splice cur off (ss.take dLen)).toArray := by simp [splice]
      rw [e]
      exact h _ (hg.setRow _) ((Upd.refl _ _).setRow (by simp) _)

/-- clear(s), s within a row that is known whole. -/
theorem wpList_clr {P : Program} {w : World} {ops : Array Oper} {rest : List Oper} {o : Oper} {a : Act} {Q : Exit → Act → World → Prop} (hgd : o.guard = none) (s : Operand) (sT : TypeId)
    (ho : o.op = .call { callee := .builtin .clear, args := #[s], argTypes := #[sT] }) (elem : TypeId) (z : Value) (hu : P.underlying sT = some (.slice elem)) (hz : ∀ w, (zeroValue elem).run P w = .ok z w) (hz1 : z.cells = #[z]) (hz2 : z.oneCell' = true)
    (sp : Option Addr) (n c : Nat) (hs : a.eval s = .slice sp n c)
    (g off : Nat) (cur : List Value) (t : TypeId) (hg : Row w g t cur) (hpos : 0 < n → sp = some ⟨g, off, none⟩) (hfit : off + n ≤ cur.length)
    (h : ∀ w', Row w' g t (splice cur off (List.replicate n z)) → Upd [g] w w' → wpList P ops Q rest (a.put o.dst (.tuple #[])) w') :
    wpList P ops Q (o :: rest) a w := by
  refine wpList_plain hgd fun K hK => ?_
  have key : ∃ w', (Builtin.clear_ #[sT] o.type #[.slice sp n c]).run P w = .ok (.tuple #[]) w' ∧ Row w' g t (splice cur off (List.replicate n z)) ∧ Upd [g] w w' := by
    by_cases h0 : n = 0
    · subst h0
      refine ⟨w, ?_, by rw [List.replicate_zero, splice_nil]; exact hg, Upd.refl _ _⟩
      cases sp <;> simp [Builtin.clear_, run_underlying hu]
    · have hsp := hpos (by omega)
      subst hsp
      have hst := run_storeCells_at P g off t (List.replicate n z) 0 cur.toArray w hg (by simpa using hfit) (fun v hv => by rw [List.eq_of_mem_replicate hv]; exact hz2)
      have hzc : (Builtin.zeroCells #[z] n).toList = List.replicate n z := by
        have h1 := toList_madeCells_one z n
        apply List.ext_getElem?
        intro i
        by_cases hi : i < n
        · simp [Builtin.zeroCells, hi, Nat.mod_one]
        · simp [Builtin.zeroCells, hi]
      refine ⟨_, ?_, hg.setRow _, (Upd.refl _ _).setRow (by simp) _⟩
      have e : (cur.toArray.toList.take (off + 0) ++ List.replicate n z ++ cur.toArray.toList.drop (off + 0 + (List.replicate n z).length)).toArray = (splice cur off (List.replicate n z)).toArray := by simp [splice]
      rw [e] at hst
      obtain ⟨m, rfl⟩ : ∃ m, n = m + 1 := ⟨n - 1, by omega⟩
      simp [Builtin.clear_, run_underlying hu, hz, hz1, hzc, hst]
  obtain ⟨w', hrun, h2, h3⟩ := key
  unfold Oper.wp
  simp [execOp, ho, resolve, invoke, builtin, hs, hrun, Result.andThen]
  exact hK _ _ (h w' h2 h3)

end Go.Proofs.Ytcecegcbkcdpjaa
