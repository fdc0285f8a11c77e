/-
  Contracts of package sched: queues.
-/
import Derived.Test.YtbkaafbkmcgfjaaSchedA
namespace Go.Proofs.Ytbkaafbkmcgfjaa
open Go.RowKit
set_option linter.unusedVariables false
set_option maxHeartbeats 1000000

/-- Behind an append a row is the old one, or a new one. -/
theorem run_append_new {P : Program} (w : World) (base : Nat) (t ty e : TypeId) (i : TypeInfo) (z : Value) (ht : P.underlying t = some (.slice e)) (hi : P.info? e = some i) (hz : i.zero = some z)
    (hs1 : i.size = 1) (hzs : z.cells.size = 1)
    (v : Value) (n : Nat) (xs : List Value) (hown : w.ownsRow base e 1 v n xs)
    (a : Addr) (m c : Nat) (news : List Value) (hl : news.length = m * 1) (hnews : ∀ j u, news[j]? = some u → w.cell? (a.add j) = some u) (h1 : ∀ u ∈ news, u.oneCell' = true)
    (h63 : n + m ≤ maxLen) (hbytes : (n + m) * i.bytes ≤ 140737488355328) (hbase : base ≤ w.heap.size) :
    ∃ v' w', (Builtin.append_ #[t, t] ty #[v, .slice (some a) m c]).run P w = .ok v' w' ∧ w'.ownsRow base e 1 v' (n + m) (xs ++ news) ∧ w.grownBy w' v.ownBlock ∧
      (∀ k, v'.ownBlock = some k → v.ownBlock = some k ∨ w.heap.size ≤ k) := by
  obtain ⟨v', w', hr, h2, h3, -⟩ := run_append_own (P := P) w base t ty e i z 1 i.bytes ht hi hz hs1 rfl hzs (by decide) v n xs hown a m c news hl hnews h1 h63 hbytes hbase
  refine ⟨v', w', hr, h2, h3, fun k hk => ?_⟩
  rcases hown.2 with ⟨rfl, rfl⟩ | ⟨g, cap, cur, rfl, hbg, hg, hnc, hcm, hcs, htake⟩
  · have hx : xs = [] := List.eq_nil_of_length_eq_zero (by simpa using hown.1)
    subst hx
    obtain ⟨v2, w2, hr2, h22, -, -⟩ := run_append_own (P := P) w w.heap.size t ty e i z 1 i.bytes ht hi hz hs1 rfl hzs (by decide) _ 0 [] (World.ownsRow_nil w w.heap.size e 1) a m c news hl hnews h1 h63 hbytes (Nat.le_refl _)
    rw [hr] at hr2
    cases hr2
    exact .inr (h22.lt k hk).1
  · by_cases hroom : n + m ≤ cap
    · have hr2 := run_append_room (P := P) w t ty e i ht hi g n cap cur hg a m c news (by rw [hs1]; exact hl) hnews h1 hroom (by rw [hs1]; omega)
      rw [hr] at hr2
      cases hr2
      exact .inl (by simpa [Value.ownBlock] using hk)
    · have hr2 := run_append_grow (P := P) w t ty e i z ht hi hz ⟨g, 0, none⟩ n cap xs (by rw [hs1]; exact hown.1) (hown.cells (g := g) rfl) a m c news (by rw [hs1]; exact hl) hnews (by omega) (by unfold maxLen at h63; omega) (growslice_fits (by omega) hbytes)
      rw [hr] at hr2
      cases hr2
      refine .inr ?_
      simp [Value.ownBlock] at hk
      omega

theorem wpList_appF {P : Program} {w : World} {ops : Array Oper} {rest : List Oper} {o : Oper} {a : Act} {Q : Exit → Act → World → Prop} (hgd : o.guard = none) (s x : Operand) (t : TypeId)
    (ho : o.op = .call { callee := .builtin .append, args := #[s, x], argTypes := #[t, t] })
    (base : Nat) (e : TypeId) (z : Value) (bytes : Nat) (ht : P.underlying t = some (.slice e)) (hinf : (P.info? e).map (fun i => (i.zero, i.size, i.bytes)) = some (some z, 1, bytes))
    (hzs : z.cells.size = 1)
    (v : Value) (n : Nat) (xs : List Value) (hs : a.eval s = v) (hown : w.ownsRow base e 1 v n xs)
    (ad : Addr) (m c : Nat) (news : List Value) (hx : a.eval x = .slice (some ad) m c) (hl : news.length = m * 1) (hr : Reads w (some ad) c news) (h1 : ∀ u ∈ news, u.oneCell' = true)
    (h63 : n + m ≤ maxLen) (hbytes : (n + m) * bytes ≤ 140737488355328) (hbase : base ≤ w.heap.size)
    (h : ∀ v' w', w'.ownsRow base e 1 v' (n + m) (xs ++ news) → w.grownBy w' v.ownBlock → (∀ k, v'.ownBlock = some k → v.ownBlock = some k ∨ w.heap.size ≤ k) → wpList P ops Q rest (a.put o.dst v') w') : wpList P ops Q (o :: rest) a w := by
  obtain ⟨i, hi, hz, h2, h3⟩ := info_parts hinf
  rcases hr with ⟨ha0, hc0, hn0⟩ | ⟨ad', ha0, hr⟩
  · cases ha0
  · cases ha0
    obtain ⟨v', w', hrun, k2, k3, k4⟩ := run_append_new (P := P) w base t o.type e i z ht hi hz h2 hzs v n xs hown ad m c news hl hr h1 h63 (by rw [h3]; exact hbytes) hbase
    refine wpList_plain hgd fun _ hK => ?_
    unfold Oper.wp execOp
    simp only [ho, resolve, invoke, builtin, Sem.run_bind, Sem.run_pure, Result.andThen_ok, List.map_toArray, List.map_cons, List.map_nil, hs, hx, hrun]
    exact hK _ _ (h v' w' k2 k3 k4)

/-- A queue: a cell of a row, which holds a row of its own. -/
structure QIn (w : World) (g off : Nat) (t : TypeId) (xs : List Value) (base : Nat) (v : Value) (l : List Int) : Prop where
  row : Row w g t xs
  cell : xs[off]? = some v
  own : w.ownsRow base 3 1 v l.length (l.map (Value.int .i64))
  ne : v.ownBlock ≠ some g
  small : l.length ≤ 1000
  bs : base ≤ w.heap.size

theorem owns_setCell {w : World} {base : Nat} {e : TypeId} {v u : Value} {n g off : Nat} {xs : List Value} (h : w.ownsRow base e 1 v n xs) (hne : v.ownBlock ≠ some g) : (w.setCell ⟨g, off, none⟩ u).ownsRow base e 1 v n xs :=
  (Upd.setCell (l := [g]) (Upd.refl _ w) (p := ⟨g, off, none⟩) (by simp) u).owns h (fun k hk hm => hne (by simp at hm; rw [hk, hm]))

def QPost (g off : Nat) (t : TypeId) (xs : List Value) (base : Nat) (v : Value) (l' : List Int) (res : Value) (w : World) (e : Ending) (w' : World) : Prop :=
  ∃ v', e = .returned res ∧ Row w' g t (xs.set off v') ∧ w'.ownsRow base 3 1 v' l'.length (l'.map (Value.int .i64)) ∧ (∀ k, v'.ownBlock = some k → v.ownBlock = some k ∨ w.heap.size ≤ k) ∧ Upd (g :: v.ownBlock.toList) w w'

theorem c_qadd {w : World} {g off : Nat} {t : TypeId} {xs : List Value} {base : Nat} {v : Value} {l : List Int} (h : QIn w g off t xs base v l) (p : Int) :
    Calls Try.prog 31 #[.pointer (some ⟨g, off, none⟩), .int .i64 p] w (QPost g off t xs base v (l ++ [p]) (.tuple #[]) w) := by
  have kc := h.row.cell h.cell
  have HH := Lib.hid h
  have h1c : ∀ u ∈ [(.int .i64 p : Value)], u.oneCell' = true := by intro u hu; simp at hu; subst hu; rfl
  have hsm := h.small
  have hg := h.row.lt
  clear h
  go_enter Try.func31, Try.ntmps31
  go_wp2_with (at_builtin; refine wpList_appF rfl _ _ 35 rfl base 3 (.int .i64 0) 8 Try.underlying35 inf_int rfl _ l.length _ rfl (HH.out.own.alloc _) _ 1 1 [.int .i64 p] rfl rfl (Reads.madeAt rfl) h1c (by unfold maxLen; omega) (by omega) (by have := HH.out.bs; simp; omega) ?_)
  intro v' w2 own gr fr
  have U : Upd (v.ownBlock.toList) w w2 := ⟨gr.os, gr.tape, gr.output, Nat.le_trans (by simp) gr.size, fun k hk hn => (gr.block k (by simp; omega) (fun e => hn (by rw [← e]; simp))).trans (heap_alloc_old w _ hk)⟩
  have hr2 : Row w2 g t xs := HH.out.row.keep U (fun hm => HH.out.ne (by simpa using hm))
  have kc2 := hr2.cell HH.out.cell
  have kf2 := hr2.free off
  obtain ⟨a', c', rfl, -, -⟩ := owns_reads own
  have HR2 := Lib.hid hr2
  have HOWN := Lib.hid own
  have HU := Lib.hid U
  have HF := Lib.hid fr
  clear own gr fr U hr2
  go_wp2
  go_end0
  have hne : (Value.slice a' (l.length + 1) c').ownBlock ≠ some g := fun e => by
    rcases HF.out g e with h | h
    · exact HH.out.ne h
    · omega
  refine ⟨_, rfl, HR2.out.set _ _, ?_, fun k hk => ?_, (HU.out.mono (fun k hk => List.mem_cons_of_mem _ hk)).setCell (p := ⟨g, off, none⟩) (by simp) _⟩
  · have := owns_setCell (off := off) (u := Value.slice a' (l.length + 1) c') HOWN.out hne
    simpa using this
  · rcases HF.out k hk with h | h
    · exact .inl h
    · exact .inr (by omega)

theorem c_qfirst0 {w : World} {g off : Nat} {t : TypeId} {xs : List Value} {base : Nat} {v : Value} (h : QIn w g off t xs base v []) :
    Calls Try.prog 33 #[.pointer (some ⟨g, off, none⟩)] w fun e w' => e = .returned (.int .i64 0) ∧ w = w' := by
  have kc := h.row.cell h.cell
  obtain ⟨a, c, rfl, -, -⟩ := owns_reads h.own
  clear h
  go_enter Try.func33, Try.ntmps33
  go_wp2
  go_ret
  exact ⟨rfl, rfl⟩

theorem c_qfirst {w : World} {g off : Nat} {t : TypeId} {xs : List Value} {base : Nat} {v : Value} {p : Int} {l : List Int} (h : QIn w g off t xs base v (p :: l)) :
    Calls Try.prog 33 #[.pointer (some ⟨g, off, none⟩)] w (QPost g off t xs base v l (.int .i64 p) w) := by
  have kc := h.row.cell h.cell
  have HD := Lib.hid (c_DeleteI base v (p :: l) 0 w h.own (by simp) 1 rfl)
  have HH := Lib.hid h
  have HB : Hid (v.ownBlock ≠ some g) := h.ne
  obtain ⟨b, c, cur, rfl, hb, hr, ht, hn, hm, hc⟩ := (owns_split h.own).resolve_left (fun e => by have := e.2.1; simp at this)
  have hl0 : 0 < (p :: l).length := by simp
  have kb : w.cell? ⟨b, 0, none⟩ = some (.int .i64 p) := hr.cell (by
    have h1 : (cur.take (p :: l).length)[0]? = some (.int .i64 p) := by rw [ht]; rfl
    rwa [List.getElem?_take, if_pos hl0] at h1)
  have hsm := h.small
  clear hr ht hc h
  go_enter Try.func33, Try.ntmps33
  go_wp2_with fail
  refine HD.out.mono ?_
  rintro e w2 ⟨v', rfl, hvb, own, b', hb', hbb, U⟩
  cases hb'
  have hr2 : Row w2 g t xs := HH.out.row.keep U (fun hm => HB.out (by simp at hm; simp [Value.ownBlock, hm]))
  have kc2 := hr2.cell HH.out.cell
  have kf2 := hr2.free off
  obtain ⟨a', c', rfl, -, -⟩ := owns_reads own
  have HR2 := Lib.hid hr2
  have HOWN := Lib.hid own
  have HU := Lib.hid U
  have HVB := Lib.hid hvb
  clear own U hr2 hvb
  go_wp2
  go_ret
  refine ⟨_, rfl, HR2.out.set _ _, ?_, fun k hk => .inl (HVB.out.symm.trans hk), (HU.out.mono (fun k hk => by simp at hk; simp [Value.ownBlock, hk])).setCell (p := ⟨g, off, none⟩) (by simp) _⟩
  exact owns_setCell HOWN.out (fun e => HB.out (HVB.out.symm.trans e))

/-- One less, if it is there. -/
def dropL (l : List Int) (p : Int) : List Int := l.erase p
theorem dropL_no {l : List Int} {p : Int} (h : p ∉ l) : dropL l p = l := List.erase_of_not_mem h
theorem idx_erase {l : List Int} {x : Int} {k : Nat} (h : idx l x = some k) : l.erase x = l.eraseIdx k := by
  rw [List.erase_eq_eraseIdx_of_idxOf]
  unfold idx at h
  rw [List.idxOf]
  have := List.findIdx?_eq_some_iff_findIdx_eq.1 h
  exact this.2

theorem c_qdrop0 {w : World} {g off : Nat} {t : TypeId} {xs : List Value} {base : Nat} {v : Value} {l : List Int} (h : QIn w g off t xs base v l) (p : Int) (hp : p ∉ l) :
    Calls Try.prog 30 #[.pointer (some ⟨g, off, none⟩), .int .i64 p] w fun e w' => e = .returned (.bool false) ∧ w = w' := by
  have kc := h.row.cell h.cell
  obtain ⟨a, c, rfl, hR, -⟩ := owns_reads h.own
  have hsm := h.small
  have HI := Lib.hid (c_IndexI a l.length c l p w rfl hR (by omega))
  have hv : idxV l p = -1 := by
    unfold idxV
    cases hi : idx l p with
    | none => rfl
    | some k => exact absurd (idx_mem hi) hp
  rw [hv] at HI
  clear h hv hp
  go_enter Try.func30, Try.ntmps30
  go_wp2_with (go_at_call 41; refine HI.out.mono ?_; rintro e w' ⟨rfl, rfl⟩)
  go_ret
  exact ⟨rfl, rfl⟩

theorem c_qdrop {w : World} {g off : Nat} {t : TypeId} {xs : List Value} {base : Nat} {v : Value} {l : List Int} (h : QIn w g off t xs base v l) (p : Int) (hp : p ∈ l) :
    Calls Try.prog 30 #[.pointer (some ⟨g, off, none⟩), .int .i64 p] w (QPost g off t xs base v (dropL l p) (.bool true) w) := by
  obtain ⟨k, hk⟩ : ∃ k, idx l p = some k := by
    cases hi : idx l p with
    | none => exact absurd hp (idx_not hi)
    | some k => exact ⟨k, rfl⟩
  have hkl := (idx_is hk).1
  have he : dropL l p = l.eraseIdx k := idx_erase hk
  have hl2 : (dropL l p).length = l.length - 1 := by rw [he, List.length_eraseIdx, if_pos hkl]
  have kc := h.row.cell h.cell
  have HD := Lib.hid (c_DeleteI base v l k w h.own hkl ((k : Int) + 1) rfl)
  have HH := Lib.hid h
  have HB : Hid (v.ownBlock ≠ some g) := h.ne
  have hsm := h.small
  obtain ⟨a, c, rfl, hR, -⟩ := owns_reads h.own
  have HI := Lib.hid (c_IndexI a l.length c l p w rfl hR (by omega))
  have hv : idxV l p = (k : Int) := by unfold idxV; rw [hk]
  rw [hv] at HI
  have HE := Lib.hid he
  have HL := Lib.hid hl2
  have hk1 : k ≤ 1000 := by omega
  clear h hv hp hk he hl2 hkl hR
  go_enter Try.func30, Try.ntmps30
  go_wp2_with fail
  refine HI.out.mono ?_
  rintro e w' ⟨rfl, rfl⟩
  go_wp2_with fail
  refine HD.out.mono ?_
  rintro e w2 ⟨v', rfl, hvb, own, b', hb', hbb, U⟩
  have hr2 : Row w2 g t xs := HH.out.row.keep U (fun hm => HB.out (by simp at hm; rw [hb', hm]))
  have kc2 := hr2.cell HH.out.cell
  have kf2 := hr2.free off
  obtain ⟨a', c', rfl, -, -⟩ := owns_reads own
  have HR2 := Lib.hid hr2
  have HOWN := Lib.hid own
  have HU := Lib.hid U
  have HVB := Lib.hid hvb
  have HB' := Lib.hid hb'
  clear own U hr2 hvb hb'
  go_wp2
  go_ret
  refine ⟨_, rfl, HR2.out.set _ _, ?_, fun k hk => .inl (HVB.out.symm.trans hk), (HU.out.mono (fun k hk => by simp at hk; rw [HB'.out]; simp [hk])).setCell (p := ⟨g, off, none⟩) (by simp) _⟩
  rw [HL.out, HE.out]
  exact owns_setCell HOWN.out (by rw [HVB.out]; exact HB.out)

end Go.Proofs.Ytbkaafbkmcgfjaa
