/-
  Contracts of package sched: New, Spawn. (Written by spawngen.py.)
-/
import Derived.Test.YtbkaafbkmcgfjaaSchedH
import Derived.Test.YtbkaafbkmcgfjaaPlanU
namespace Go.Proofs.Ytbkaafbkmcgfjaa
open Go.RowKit
set_option linter.unusedVariables false
set_option maxHeartbeats 4000000
set_option maxRecDepth 20000

/-- A scheduler but for the slices of priorities and of the idle. -/
structure SRest (w : World) (m : Nat) (L : Lay) (s : SS) : Prop where
  row : Row w m 61 (rowS L.vp L.vi L.vs L.vr s.act)
  tm : m ∈ L.B ∧ L.tag m = 0
  tp : Tg L L.vp 1
  ti : Tg L L.vi 2
  os : w.ownsRow 0 65 1 L.vs s.ns (ptrs s.ns L.pk)
  ts : Tg L L.vs 3
  rd : ∀ i, i < 9 → w.ownsRow 0 3 1 (L.vr i) (s.ready i).length ((s.ready i).map (Value.int .i64))
  tr : ∀ i, i < 9 → Tg L (L.vr i) (4 + i)
  sm : ∀ j, j < s.ns → Row w (L.pk j) 67 [L.vq j, .int .i64 (s.sig j)]
  tk : ∀ j, j < s.ns → L.pk j ∈ L.B ∧ L.tag (L.pk j) = 20 + 2 * j
  wt : ∀ j, j < s.ns → w.ownsRow 0 3 1 (L.vq j) (s.sq j).length ((s.sq j).map (Value.int .i64))
  tw : ∀ j, j < s.ns → Tg L (L.vq j) (21 + 2 * j)

theorem SAt.rest {w : World} {m : Nat} {L : Lay} {s : SS} (h : SAt w m L s) : SRest w m L s := ⟨h.row, h.tm, h.tp, h.ti, h.os, h.ts, h.rd, h.tr, h.sm, h.tk, h.wt, h.tw⟩
theorem SRest.keep {w w' : World} {m : Nat} {L : Lay} {s : SS} (h : SRest w m L s) {l : List Nat} (u : Upd l w w') (hl : ∀ k ∈ l, k ∈ L.B → L.tag k = 1 ∨ L.tag k = 2) : SRest w' m L s := by
  have ho : ∀ {e : TypeId} {v : Value} {n τ : Nat} {xs : List Value}, w.ownsRow 0 e 1 v n xs → Tg L v τ → 2 < τ → w'.ownsRow 0 e 1 v n xs := fun h2 ht hτ => u.owns h2 (fun k hk hm => by
    have h3 := ht k hk
    have := hl k hm h3.1
    omega)
  exact ⟨h.row.keep u (fun hm => by have h3 := h.tm; have := hl m hm h3.1; omega), h.tm, h.tp, h.ti, ho h.os h.ts (by omega), h.ts, fun i hi => ho (h.rd i hi) (h.tr i hi) (by omega), h.tr,
    fun j hj => (h.sm j hj).keep u (fun hm => by have h3 := h.tk j hj; have := hl _ hm h3.1; omega), h.tk, fun j hj => ho (h.wt j hj) (h.tw j hj) (by omega), h.tw⟩

/-- While priorities and the idle are made longer. -/
structure SpW (w : World) (m : Nat) (L : Lay) (s : SS) (W : World) (vP : Value) (nP : Nat) (xsP : List Value) (vI : Value) (nI : Nat) (xsI : List Value) : Prop where
  rest : SRest W m L s
  up : Upd L.B w W
  hP : W.ownsRow 0 3 1 vP nP xsP
  fP : ∀ k, vP.ownBlock = some k → L.vp.ownBlock = some k ∨ w.heap.size ≤ k
  hI : W.ownsRow 0 4 1 vI nI xsI
  fI : ∀ k, vI.ownBlock = some k → L.vi.ownBlock = some k ∨ w.heap.size ≤ k
  orig : SAt w m L s

section
variable {w W W2 : World} {m : Nat} {L : Lay} {s : SS} {vP vI v8 : Value} {nP nI : Nat} {xsP xsI ys : List Value}
theorem SpW.start (h : SAt w m L s) : SpW w m L s w.drew L.vp s.prior.length (s.prior.map (Value.int .i64)) L.vi s.idle.length (s.idle.map Value.bool) :=
  ⟨h.drew.rest, (Upd.refl _ _).drew, h.drew.op, fun k hk => .inl hk, h.drew.oi, fun k hk => .inl hk, h⟩
theorem SpW.alloc (h : SpW w m L s W vP nP xsP vI nI xsI) (o : Obj) : SpW w m L s (W.alloc o) vP nP xsP vI nI xsI :=
  ⟨h.rest.keep (l := []) ((Upd.refl _ W).alloc o) (by simp), h.up.alloc o, h.hP.alloc o, h.fP, h.hI.alloc o, h.fI, h.orig⟩
theorem grown_upd {row : Option Nat} (gr : W.grownBy W2 row) : Upd row.toList W W2 := ⟨gr.os, gr.tape, gr.output, gr.size, fun k hk hn => gr.block k hk (fun e => hn (by rw [← e]; simp))⟩
theorem SpW.app8 (h : SpW w m L s W L.vp nP xsP vI nI xsI) (own : W2.ownsRow 0 3 1 v8 (nP + 1) ys) (gr : W.grownBy W2 L.vp.ownBlock) (fr : ∀ k, v8.ownBlock = some k → L.vp.ownBlock = some k ∨ W.heap.size ≤ k) :
    SpW w m L s W2 v8 (nP + 1) ys vI nI xsI := by
  have u := grown_upd gr
  refine ⟨h.rest.keep u (fun k hk _ => .inl (h.rest.tp k (by simpa using hk)).2), h.up.trans (u.mono (fun k hk => (h.rest.tp k (by simpa using hk)).1)), own, fun k hk => (fr k hk).imp id (fun h2 => Nat.le_trans h.up.size h2), u.owns h.hI (fun k hk hm => ?_), h.fI, h.orig⟩
  exact owns_ne' h.hI h.hP (by decide) hk (by simpa using hm)
theorem SpW.app14 (h : SpW w m L s W vP nP xsP L.vi nI xsI) (own : W2.ownsRow 0 4 1 v8 (nI + 1) ys) (gr : W.grownBy W2 L.vi.ownBlock) (fr : ∀ k, v8.ownBlock = some k → L.vi.ownBlock = some k ∨ W.heap.size ≤ k) :
    SpW w m L s W2 vP nP xsP v8 (nI + 1) ys := by
  have u := grown_upd gr
  refine ⟨h.rest.keep u (fun k hk _ => .inr (h.rest.ti k (by simpa using hk)).2), h.up.trans (u.mono (fun k hk => (h.rest.ti k (by simpa using hk)).1)), u.owns h.hP (fun k hk hm => ?_), h.fP, own, fun k hk => (fr k hk).imp id (fun h2 => Nat.le_trans h.up.size h2), h.orig⟩
  exact owns_ne' h.hP h.hI (by decide) hk (by simpa using hm)
def Xw (w W : World) (b : Nat) (x : Value) : Prop := Reads W (some ⟨b, 0, none⟩) 1 [x] ∧ w.heap.size ≤ b
theorem Xw.alloc {b : Nat} {x : Value} (h : Xw w W b x) (o : Obj) : Xw w (W.alloc o) b x := ⟨h.1.alloc o, h.2⟩
theorem Xw.made {x : Value} {e : TypeId} (h : w.heap.size ≤ W.heap.size) : Xw w (W.alloc (.cells #[x] e)) W.heap.size x := ⟨Reads.made W [x] e 1, h⟩
theorem Xw.app {b : Nat} {x : Value} {row : Option Nat} (h : Xw w W b x) (gr : W.grownBy W2 row) (hr : ∀ k, row = some k → k < w.heap.size) : Xw w W2 b x :=
  ⟨(grown_upd gr).reads h.1 (fun y hy hm => by
    cases hy
    have := hr b (by simpa using hm)
    have := h.2
    omega), h.2⟩
def SpS (m : Nat) (x y : Value) : World → Prop := fun z => z.cell? ⟨m, 0, none⟩ = some x ∧ z.cell? ⟨m, 1, none⟩ = some y
theorem SpW.S (h : SpW w m L s W vP nP xsP vI nI xsI) : SpS m L.vp L.vi W := ⟨h.rest.row.cell rfl, h.rest.row.cell rfl⟩

def spawnS (s : SS) (p : Int) : SS := { s with prior := s.prior ++ [p], idle := s.idle ++ [true] }
theorem SpW.done {p : Int} (h : SpW w m L s W vP (s.prior.length + 1) (s.prior.map (Value.int .i64) ++ [.int .i64 p]) vI (s.idle.length + 1) (s.idle.map Value.bool ++ [.bool true])) :
    ∃ L', SAt ((W.setCell ⟨m, 0, none⟩ vP).setCell ⟨m, 1, none⟩ vI) m L' (spawnS s p) ∧ Mov L.B w L'.B ((W.setCell ⟨m, 0, none⟩ vP).setCell ⟨m, 1, none⟩ vI) := by
  have u : Upd [m] W ((W.setCell ⟨m, 0, none⟩ vP).setCell ⟨m, 1, none⟩ vI) := (((Upd.refl _ W).setCell (by simp) _).setCell (by simp) _)
  obtain ⟨W2, hW2⟩ : ∃ x, x = (W.setCell ⟨m, 0, none⟩ vP).setCell ⟨m, 1, none⟩ vI := ⟨_, rfl⟩
  have hr : Row W2 m 61 (rowS vP vI L.vs L.vr s.act) := by rw [hW2]; exact (h.rest.row.set 0 vP).set 1 vI
  rw [← hW2] at u ⊢
  have hmP : vP.ownBlock ≠ some m := fun e => by
    rcases h.fP m e with h2 | h2
    · have := (h.rest.tp m h2).2; have := h.rest.tm.2; omega
    · have := h.orig.row.lt; omega
  have hmI : vI.ownBlock ≠ some m := fun e => by
    rcases h.fI m e with h2 | h2
    · have := (h.rest.ti m h2).2; have := h.rest.tm.2; omega
    · have := h.orig.row.lt; omega
  have kp : W2.ownsRow 0 3 1 vP (s.prior.length + 1) (s.prior.map (Value.int .i64) ++ [.int .i64 p]) := u.owns h.hP (fun k hk hm => hmP (by rw [hk, List.mem_singleton.1 hm]))
  have ki : W2.ownsRow 0 4 1 vI (s.idle.length + 1) (s.idle.map Value.bool ++ [.bool true]) := u.owns h.hI (fun k hk hm => hmI (by rw [hk, List.mem_singleton.1 hm]))
  let tag' : Nat → Nat := fun k => if k < w.heap.size then L.tag k else if vP.ownBlock = some k then 1 else 2
  let L' : Lay := { L with B := L.B ++ (vP.ownBlock.toList ++ vI.ownBlock.toList), tag := tag', vp := vP, vi := vI }
  have hl : ∀ τ, τ ≠ 0 → ∀ k ∈ [m], L.tag k ≠ τ := fun τ h0 k hk => by
    rw [List.mem_singleton.1 hk, h.rest.tm.2]; exact fun e => h0 e.symm
  have oldO : ∀ {e : TypeId} {v : Value} {n τ : Nat} {xs : List Value}, Tg L v τ → w.ownsRow 0 e 1 v n xs → Tg L' v τ := fun ht ho k hk => by
    have h1 := ht k hk
    exact ⟨List.mem_append_left _ h1.1, (if_pos (ho.lt k hk).2 : L'.tag k = L.tag k).trans h1.2⟩
  have keep : ∀ {e : TypeId} {v : Value} {n τ : Nat} {xs : List Value}, W.ownsRow 0 e 1 v n xs → Tg L v τ → τ ≠ 0 → W2.ownsRow 0 e 1 v n xs := fun ho ht h0 => keepO u ho ht (hl _ h0)
  refine ⟨L', ⟨hr, ⟨List.mem_append_left _ h.rest.tm.1, (if_pos h.orig.row.lt : L'.tag m = L.tag m).trans h.rest.tm.2⟩, ?_, ?_, ?_, ?_, keep h.rest.os h.rest.ts (by omega), oldO h.rest.ts h.orig.os, fun i hi => keep (h.rest.rd i hi) (h.rest.tr i hi) (by omega), fun i hi => oldO (h.rest.tr i hi) (h.orig.rd i hi),
    fun j hj => keepR u (h.rest.sm j hj) (h.rest.tk j hj).2 (hl _ (by omega)), fun j hj => ⟨List.mem_append_left _ (h.rest.tk j hj).1, (if_pos (h.orig.sm j hj).lt : L'.tag (L.pk j) = _).trans (h.rest.tk j hj).2⟩, fun j hj => keep (h.rest.wt j hj) (h.rest.tw j hj) (by omega), fun j hj => oldO (h.rest.tw j hj) (h.orig.wt j hj)⟩, ⟨h.up.trans (u.mono (fun k hk => by rw [List.mem_singleton.1 hk]; exact h.rest.tm.1)), fun k hk => ?_⟩⟩
  · show W2.ownsRow 0 _ 1 vP (s.prior ++ [p]).length ((s.prior ++ [p]).map _)
    rw [List.length_append, List.map_append]
    exact kp
  · intro k hk
    refine ⟨List.mem_append_right _ (List.mem_append_left _ (by show k ∈ vP.ownBlock.toList; rw [show vP.ownBlock = some k from hk]; simp)), ?_⟩
    show (if k < w.heap.size then L.tag k else if vP.ownBlock = some k then 1 else 2) = 1
    rcases h.fP k hk with h2 | h2
    · rw [if_pos (h.orig.op.lt k h2).2, (h.rest.tp k h2).2]
    · rw [if_neg (by omega), if_pos hk]
  · show W2.ownsRow 0 _ 1 vI (s.idle ++ [true]).length ((s.idle ++ [true]).map _)
    rw [List.length_append, List.map_append]
    exact ki
  · intro k hk
    refine ⟨List.mem_append_right _ (List.mem_append_right _ (by show k ∈ vI.ownBlock.toList; rw [show vI.ownBlock = some k from hk]; simp)), ?_⟩
    show (if k < w.heap.size then L.tag k else if vP.ownBlock = some k then 1 else 2) = 2
    rcases h.fI k hk with h2 | h2
    · rw [if_pos (h.orig.oi.lt k h2).2, (h.rest.ti k h2).2]
    · rw [if_neg (by omega), if_neg (fun e => owns_ne' h.hP h.hI (by decide) e hk)]
  · rcases List.mem_append.1 hk with hk | hk
    · exact .inl hk
    · rcases List.mem_append.1 hk with hk | hk
      · rcases h.fP k (by simpa using hk) with h2 | h2
        · exact .inl (h.rest.tp k h2).1
        · exact .inr h2
      · rcases h.fI k (by simpa using hk) with h2 | h2
        · exact .inl (h.rest.ti k h2).1
        · exact .inr h2
end

theorem inf_bool : (Try.prog.info? 4).map (fun i => (i.zero, i.size, i.bytes)) = some (some (.bool false), 1, 1) := by kernel_rfl

theorem c_Spawn {w : World} {m : Nat} {L : Lay} {s : SS} (h : SAt w m L s) (hw : WF s) (p : Int) (h1 : 1 ≤ p) (h8 : p ≤ 8) (hn : s.prior.length < 100) :
    Calls Try.prog 12 #[.pointer (some ⟨m, 0, none⟩), .int .i64 p] w (SPost m L (.tuple #[.int .i64 ((s.prior.length : Int) + 1), .int .i64 0]) (spawnS s p) w) := by
  obtain ⟨a, c, hvp, -, -⟩ := owns_reads h.op
  obtain ⟨a2, c2, hvi, -, -⟩ := owns_reads h.oi
  have HVP := Lib.hid hvp
  have HVI := Lib.hid hvi
  have k0 : w.cell? ⟨m, 0, none⟩ = some (.slice a s.prior.length c) := by rw [← hvp]; exact h.row.cell rfl
  have k1 : w.cell? ⟨m, 1, none⟩ = some (.slice a2 s.idle.length c2) := by rw [← hvi]; exact h.row.cell rfl
  have hil : s.idle.length < 100 := by have := hw.li; omega
  have HP := Lib.hid (SpW.start h)
  have HS : SpS m (.slice a s.prior.length c) (.slice a2 s.idle.length c2) w.drew := ⟨k0, k1⟩
  clear hvp hvi h hw k1
  go_enter Try.func12, Try.ntmps12
  go_wp2_with fail
  refine wp_region_U (SpS m (.slice a s.prior.length c) (.slice a2 s.idle.length c2)) [0, 2, 3, 4, 5, 6, 7, 8, 9, 10, 11, 12, 13, 14] (.load 0 (.free 1 (.load 2 (.load 3 (.load 4 (.load 5 (.load 6 (.load 9 (.load 10 (.load 11 (.load 12 (.two 7 13 (.two 8 13 (.sole 13 (.sole 14 (.free 15 (.free 16 (.late 17 (.free 18 (.free 19 (.late 20 .fin)))))))) (.sole 8 (.sole 14 (.free 15 (.free 16 (.late 17 (.free 18 (.free 19 (.late 20 .fin))))))))) (.sole 7 (.sole 8 (.sole 14 (.free 15 (.free 16 (.late 17 (.free 18 (.free 19 (.late 20 .fin))))))))))))))))))))) (by kernel_rfl) (by kernel_rfl) (fun _ _ _ _ _ h => h) ?_
  (repeat (refine wpU_pure HS rfl (fun K hK => ?_); go_simp; (try go_bits); refine hK _ ?_; clear hK K))
  (repeat (refine wpU_free rfl (fun K hK => ?_); go_simp; (try go_bits); refine hK _ ?_; clear hK K))
  (repeat (refine wpU_pure HS rfl (fun K hK => ?_); go_simp; (try go_bits); refine hK _ ?_; clear hK K))
  refine wpU_load (.slice a s.prior.length c) HS rfl rfl (fun x hS => by obtain ⟨s0, s1⟩ := hS; go_simp) (fun K hK => ?_)
  refine hK _ ?_
  clear hK K
  (repeat (refine wpU_pure HS rfl (fun K hK => ?_); go_simp; (try go_bits); refine hK _ ?_; clear hK K))
  refine wpU_load (.slice a2 s.idle.length c2) HS rfl rfl (fun x hS => by obtain ⟨s0, s1⟩ := hS; go_simp) (fun K hK => ?_)
  refine hK _ ?_
  clear hK K
  clear k0 HS
  have hsS : ∀ z, SpS m L.vp L.vi z → SpS m (.slice a s.prior.length c) (.slice a2 s.idle.length c2) z := fun z h => by rw [HVP.out, HVI.out] at h; exact h
  generalize w.drew = W0 at *
  refine wpU_two rfl rfl ?_ ?_
  · go_wp2
    have HX7 := Lib.hid (Xw.made (w := w) (W := W0) (x := .int .i64 p) (e := 3) HP.out.up.size)
    have HP := Lib.hid (HP.out.alloc (.cells #[.int .i64 p] 3))
    generalize hW : W0.alloc (.cells #[.int .i64 p] 3) = W1 at *
    obtain ⟨b7, hb⟩ : ∃ b, b = W0.heap.size := ⟨_, rfl⟩
    rw [← hb] at HX7 ⊢
    clear hW hb
    refine ⟨hsS _ HP.out.S, ?_⟩
    refine wpU_two rfl rfl ?_ ?_
    · have h1c : ∀ u ∈ [(.int .i64 p : Value)], u.oneCell' = true := by intro u hu; simp at hu; subst hu; rfl
      refine wpList_appF rfl _ _ 35 rfl 0 3 (.int .i64 0) 8 Try.underlying35 inf_int rfl _ s.prior.length _ HVP.out.symm HP.out.hP _ 1 1 [.int .i64 p] rfl rfl HX7.out.1 h1c (by unfold maxLen; omega) (by omega) (Nat.zero_le _) ?_
      intro v8 W2 own gr fr
      clear h1c
      have HP := Lib.hid (HP.out.app8 own gr fr)
      obtain ⟨a8, c8, rfl, -, -⟩ := owns_reads own
      clear own gr fr
      go_wp2
      refine ⟨hsS _ HP.out.S, ?_⟩
      refine wpU_sole rfl ?_
      go_wp2
      have HX13 := Lib.hid (Xw.made (w := w) (W := W2) (x := .bool true) (e := 4) HP.out.up.size)
      have HP := Lib.hid (HP.out.alloc (.cells #[.bool true] 4))
      generalize hW : W2.alloc (.cells #[.bool true] 4) = W3 at *
      obtain ⟨b13, hb⟩ : ∃ b, b = W2.heap.size := ⟨_, rfl⟩
      rw [← hb] at HX13 ⊢
      clear hW hb
      refine ⟨hsS _ HP.out.S, ?_⟩
      refine wpU_sole rfl ?_
      have h1c : ∀ u ∈ [(.bool true : Value)], u.oneCell' = true := by intro u hu; simp at hu; subst hu; rfl
      refine wpList_appF rfl _ _ 55 rfl 0 4 (.bool false) 1 Try.underlying55 inf_bool rfl _ s.idle.length _ HVI.out.symm HP.out.hI _ 1 1 [.bool true] rfl rfl HX13.out.1 h1c (by unfold maxLen; omega) (by omega) (Nat.zero_le _) ?_
      intro v14 W4 own gr fr
      clear h1c
      have HP := Lib.hid (HP.out.app14 own gr fr)
      obtain ⟨a14, c14, rfl, -, -⟩ := owns_reads own
      clear own gr fr
      go_wp2
      refine ⟨hsS _ HP.out.S, ?_⟩
      have HD := Lib.hid HP.out.done
      have kc := HP.out.rest.row.cell (i := 0) rfl
      have kf := HP.out.rest.row.free 0
      (repeat (refine wpU_free rfl (fun K hK => ?_); go_simp; (try go_bits); refine hK _ ?_; clear hK K))
      refine wpU_late rfl ?_
      go_wp2
      have kc := (HP.out.rest.row.set 0 (.slice a8 (s.prior.length + 1) c8)).cell (i := 1) rfl
      have kf := (HP.out.rest.row.set 0 (.slice a8 (s.prior.length + 1) c8)).free 1
      (repeat (refine wpU_free rfl (fun K hK => ?_); go_simp; (try go_bits); refine hK _ ?_; clear hK K))
      refine wpU_late rfl ?_
      go_wp2
      refine wpU_fin ?_
      have kc := ((HP.out.rest.row.set 0 (.slice a8 (s.prior.length + 1) c8)).set 1 (.slice a14 (s.idle.length + 1) c14)).cell (i := 0) rfl
      go_wp2
      go_ret2
      obtain ⟨L', hs, hm⟩ := HD.out
      exact ⟨L', rfl, hs, hm⟩
    · go_wp2
      have HX13 := Lib.hid (Xw.made (w := w) (W := W1) (x := .bool true) (e := 4) HP.out.up.size)
      have HP := Lib.hid (HP.out.alloc (.cells #[.bool true] 4))
      have HX7 := Lib.hid (HX7.out.alloc (.cells #[.bool true] 4))
      generalize hW : W1.alloc (.cells #[.bool true] 4) = W2 at *
      obtain ⟨b13, hb⟩ : ∃ b, b = W1.heap.size := ⟨_, rfl⟩
      rw [← hb] at HX13 ⊢
      clear hW hb
      refine ⟨hsS _ HP.out.S, ?_⟩
      refine wpU_sole rfl ?_
      have h1c : ∀ u ∈ [(.int .i64 p : Value)], u.oneCell' = true := by intro u hu; simp at hu; subst hu; rfl
      refine wpList_appF rfl _ _ 35 rfl 0 3 (.int .i64 0) 8 Try.underlying35 inf_int rfl _ s.prior.length _ HVP.out.symm HP.out.hP _ 1 1 [.int .i64 p] rfl rfl HX7.out.1 h1c (by unfold maxLen; omega) (by omega) (Nat.zero_le _) ?_
      intro v8 W3 own gr fr
      clear h1c
      have HX13 := Lib.hid (HX13.out.app gr (fun k hk => (HP.out.orig.op.lt k hk).2))
      have HP := Lib.hid (HP.out.app8 own gr fr)
      obtain ⟨a8, c8, rfl, -, -⟩ := owns_reads own
      clear own gr fr
      go_wp2
      refine ⟨hsS _ HP.out.S, ?_⟩
      refine wpU_sole rfl ?_
      have h1c : ∀ u ∈ [(.bool true : Value)], u.oneCell' = true := by intro u hu; simp at hu; subst hu; rfl
      refine wpList_appF rfl _ _ 55 rfl 0 4 (.bool false) 1 Try.underlying55 inf_bool rfl _ s.idle.length _ HVI.out.symm HP.out.hI _ 1 1 [.bool true] rfl rfl HX13.out.1 h1c (by unfold maxLen; omega) (by omega) (Nat.zero_le _) ?_
      intro v14 W4 own gr fr
      clear h1c
      have HP := Lib.hid (HP.out.app14 own gr fr)
      obtain ⟨a14, c14, rfl, -, -⟩ := owns_reads own
      clear own gr fr
      go_wp2
      refine ⟨hsS _ HP.out.S, ?_⟩
      have HD := Lib.hid HP.out.done
      have kc := HP.out.rest.row.cell (i := 0) rfl
      have kf := HP.out.rest.row.free 0
      (repeat (refine wpU_free rfl (fun K hK => ?_); go_simp; (try go_bits); refine hK _ ?_; clear hK K))
      refine wpU_late rfl ?_
      go_wp2
      have kc := (HP.out.rest.row.set 0 (.slice a8 (s.prior.length + 1) c8)).cell (i := 1) rfl
      have kf := (HP.out.rest.row.set 0 (.slice a8 (s.prior.length + 1) c8)).free 1
      (repeat (refine wpU_free rfl (fun K hK => ?_); go_simp; (try go_bits); refine hK _ ?_; clear hK K))
      refine wpU_late rfl ?_
      go_wp2
      refine wpU_fin ?_
      have kc := ((HP.out.rest.row.set 0 (.slice a8 (s.prior.length + 1) c8)).set 1 (.slice a14 (s.idle.length + 1) c14)).cell (i := 0) rfl
      go_wp2
      go_ret2
      obtain ⟨L', hs, hm⟩ := HD.out
      exact ⟨L', rfl, hs, hm⟩
  · go_wp2
    have HX13 := Lib.hid (Xw.made (w := w) (W := W0) (x := .bool true) (e := 4) HP.out.up.size)
    have HP := Lib.hid (HP.out.alloc (.cells #[.bool true] 4))
    generalize hW : W0.alloc (.cells #[.bool true] 4) = W1 at *
    obtain ⟨b13, hb⟩ : ∃ b, b = W0.heap.size := ⟨_, rfl⟩
    rw [← hb] at HX13 ⊢
    clear hW hb
    refine ⟨hsS _ HP.out.S, ?_⟩
    refine wpU_sole rfl ?_
    go_wp2
    have HX7 := Lib.hid (Xw.made (w := w) (W := W1) (x := .int .i64 p) (e := 3) HP.out.up.size)
    have HP := Lib.hid (HP.out.alloc (.cells #[.int .i64 p] 3))
    have HX13 := Lib.hid (HX13.out.alloc (.cells #[.int .i64 p] 3))
    generalize hW : W1.alloc (.cells #[.int .i64 p] 3) = W2 at *
    obtain ⟨b7, hb⟩ : ∃ b, b = W1.heap.size := ⟨_, rfl⟩
    rw [← hb] at HX7 ⊢
    clear hW hb
    refine ⟨hsS _ HP.out.S, ?_⟩
    refine wpU_sole rfl ?_
    have h1c : ∀ u ∈ [(.int .i64 p : Value)], u.oneCell' = true := by intro u hu; simp at hu; subst hu; rfl
    refine wpList_appF rfl _ _ 35 rfl 0 3 (.int .i64 0) 8 Try.underlying35 inf_int rfl _ s.prior.length _ HVP.out.symm HP.out.hP _ 1 1 [.int .i64 p] rfl rfl HX7.out.1 h1c (by unfold maxLen; omega) (by omega) (Nat.zero_le _) ?_
    intro v8 W3 own gr fr
    clear h1c
    have HX13 := Lib.hid (HX13.out.app gr (fun k hk => (HP.out.orig.op.lt k hk).2))
    have HP := Lib.hid (HP.out.app8 own gr fr)
    obtain ⟨a8, c8, rfl, -, -⟩ := owns_reads own
    clear own gr fr
    go_wp2
    refine ⟨hsS _ HP.out.S, ?_⟩
    refine wpU_sole rfl ?_
    have h1c : ∀ u ∈ [(.bool true : Value)], u.oneCell' = true := by intro u hu; simp at hu; subst hu; rfl
    refine wpList_appF rfl _ _ 55 rfl 0 4 (.bool false) 1 Try.underlying55 inf_bool rfl _ s.idle.length _ HVI.out.symm HP.out.hI _ 1 1 [.bool true] rfl rfl HX13.out.1 h1c (by unfold maxLen; omega) (by omega) (Nat.zero_le _) ?_
    intro v14 W4 own gr fr
    clear h1c
    have HP := Lib.hid (HP.out.app14 own gr fr)
    obtain ⟨a14, c14, rfl, -, -⟩ := owns_reads own
    clear own gr fr
    go_wp2
    refine ⟨hsS _ HP.out.S, ?_⟩
    have HD := Lib.hid HP.out.done
    have kc := HP.out.rest.row.cell (i := 0) rfl
    have kf := HP.out.rest.row.free 0
    (repeat (refine wpU_free rfl (fun K hK => ?_); go_simp; (try go_bits); refine hK _ ?_; clear hK K))
    refine wpU_late rfl ?_
    go_wp2
    have kc := (HP.out.rest.row.set 0 (.slice a8 (s.prior.length + 1) c8)).cell (i := 1) rfl
    have kf := (HP.out.rest.row.set 0 (.slice a8 (s.prior.length + 1) c8)).free 1
    (repeat (refine wpU_free rfl (fun K hK => ?_); go_simp; (try go_bits); refine hK _ ?_; clear hK K))
    refine wpU_late rfl ?_
    go_wp2
    refine wpU_fin ?_
    have kc := ((HP.out.rest.row.set 0 (.slice a8 (s.prior.length + 1) c8)).set 1 (.slice a14 (s.idle.length + 1) c14)).cell (i := 0) rfl
    go_wp2
    go_ret2
    obtain ⟨L', hs, hm⟩ := HD.out
    exact ⟨L', rfl, hs, hm⟩

end Go.Proofs.Ytbkaafbkmcgfjaa
