/-
  Contracts of package sched: New, Sem, Resume.
-/
import Derived.Test.YtbkaafbkmcgfjaaSchedI
namespace Go.Proofs.Ytbkaafbkmcgfjaa
open Go.RowKit
set_option linter.unusedVariables false
set_option maxHeartbeats 2000000

def newS : SS := { prior := [], idle := [], ready := fun _ => [], ns := 0, sq := fun _ => [], sig := fun _ => 0, act := 0 }

def NewPost (w : World) (e : Ending) (w' : World) : Prop :=
  ∃ L, e = .returned (.pointer (some ⟨w.heap.size, 0, none⟩)) ∧ SAt w' w.heap.size L newS ∧ L.B = [w.heap.size] ∧ Below w.heap.size w w'

theorem c_New (w : World) : Calls Try.prog 11 #[] w (NewPost w) := by
  go_enter Try.func11, Try.ntmps11
  go_wp2
  go_ret
  refine ⟨{ B := [w.heap.size], tag := fun _ => 0, vp := .slice none 0 0, vi := .slice none 0 0, vs := .slice none 0 0, vr := fun _ => .slice none 0 0, pk := fun _ => 0, vq := fun _ => .slice none 0 0 }, rfl, ?_, rfl, (Below.refl _ _).alloc (Nat.le_refl _) _⟩
  exact ⟨Row.made w _ _, ⟨by simp, rfl⟩, World.ownsRow_nil _ _ _ _, fun k hk => by simp [Value.ownBlock] at hk, World.ownsRow_nil _ _ _ _, fun k hk => by simp [Value.ownBlock] at hk, World.ownsRow_nil _ _ _ _, fun k hk => by simp [Value.ownBlock] at hk,
    fun i hi => World.ownsRow_nil _ _ _ _, fun i hi k hk => by simp [Value.ownBlock] at hk, fun j hj => absurd hj (Nat.not_lt_zero _), fun j hj => absurd hj (Nat.not_lt_zero _), fun j hj => absurd hj (Nat.not_lt_zero _), fun j hj => absurd hj (Nat.not_lt_zero _)⟩

def semS (s : SS) : SS := { s with ns := s.ns + 1, sq := upd s.sq s.ns [], sig := upd s.sig s.ns 0 }

theorem inf_psem : (Try.prog.info? 65).map (fun i => (i.zero, i.size, i.bytes)) = some (some (.pointer none), 1, 8) := by kernel_rfl

theorem ptrs_succ (n : Nat) (pk : Nat → Nat) (b : Nat) : ptrs (n + 1) (upd pk n b) = ptrs n pk ++ [.pointer (some ⟨b, 0, none⟩)] := by
  unfold ptrs
  rw [List.range_succ, List.map_append]
  congr 1
  · apply List.map_congr_left
    intro k hk
    rw [upd_ne _ _ (by have := List.mem_range.1 hk; omega)]
  · simp [upd_same]

/-- A semaphore more, where its memory stands, and the longer row of them. -/
theorem SAt.sem_new {w W : World} {m : Nat} {L : Lay} {s : SS} (h : SAt w m L s) {v' : Value} (b : Nat) (hb : w.heap.size ≤ b) (u : Upd (L.vs.ownBlock.toList) w W)
    (hrow : Row W b 67 [.slice none 0 0, .int .i64 0]) (own : W.ownsRow 0 65 1 v' (s.ns + 1) (ptrs s.ns L.pk ++ [.pointer (some ⟨b, 0, none⟩)]))
    (fr : ∀ k, v'.ownBlock = some k → L.vs.ownBlock = some k ∨ w.heap.size ≤ k) (hbv : v'.ownBlock ≠ some b) :
    ∃ L', SAt (W.setCell ⟨m, 11, none⟩ v') m L' (semS s) ∧ Mov L.B w L'.B (W.setCell ⟨m, 11, none⟩ v') := by
  have hml := h.row.lt
  have hl3 : ∀ τ, τ ≠ 3 → ∀ k ∈ L.vs.ownBlock.toList, L.tag k ≠ τ := fun τ h0 k hk => by
    rw [(h.ts k (by simpa using hk)).2]; exact fun e => h0 e.symm
  have hr0 : Row W m 61 (rowS L.vp L.vi L.vs L.vr s.act) := keepR u h.row h.tm.2 (hl3 0 (by omega))
  obtain ⟨W2, hW2⟩ : ∃ x, x = W.setCell ⟨m, 11, none⟩ v' := ⟨_, rfl⟩
  have u2 : Upd [m] W W2 := by rw [hW2]; exact (Upd.refl _ W).setCell (by simp) _
  have hr : Row W2 m 61 (rowS L.vp L.vi v' L.vr s.act) := by rw [hW2]; exact hr0.set 11 v'
  rw [← hW2]
  have hl : ∀ τ, τ ≠ 0 → ∀ k ∈ [m], L.tag k ≠ τ := fun τ h0 k hk => by
    rw [List.mem_singleton.1 hk, h.tm.2]; exact fun e => h0 e.symm
  have hmv : v'.ownBlock ≠ some m := fun e => by
    rcases fr m e with h2 | h2
    · have := (h.ts m h2).2; have := h.tm.2; omega
    · omega
  let tag' : Nat → Nat := fun k => if k < w.heap.size then L.tag k else if k = b then 20 + 2 * s.ns else 3
  let L' : Lay := { L with B := L.B ++ (b :: v'.ownBlock.toList), tag := tag', vs := v', pk := upd L.pk s.ns b, vq := upd L.vq s.ns (.slice none 0 0) }
  have oldO : ∀ {e : TypeId} {v : Value} {n τ : Nat} {xs : List Value}, Tg L v τ → w.ownsRow 0 e 1 v n xs → Tg L' v τ := fun ht ho k hk => by
    have h1 := ht k hk
    exact ⟨List.mem_append_left _ h1.1, (if_pos (ho.lt k hk).2 : L'.tag k = L.tag k).trans h1.2⟩
  have keep : ∀ {e : TypeId} {v : Value} {n τ : Nat} {xs : List Value}, w.ownsRow 0 e 1 v n xs → Tg L v τ → τ ≠ 0 → τ ≠ 3 → W2.ownsRow 0 e 1 v n xs := fun ho ht h0 h3 => keepO u2 (keepO u ho ht (hl3 _ h3)) ht (hl _ h0)
  refine ⟨L', ⟨hr, ⟨List.mem_append_left _ h.tm.1, (if_pos hml : L'.tag m = L.tag m).trans h.tm.2⟩, keep h.op h.tp (by omega) (by omega), oldO h.tp h.op, keep h.oi h.ti (by omega) (by omega), oldO h.ti h.oi, ?_, ?_,
    fun i hi => keep (h.rd i hi) (h.tr i hi) (by omega) (by omega), fun i hi => oldO (h.tr i hi) (h.rd i hi), ?_, ?_, ?_, ?_⟩, ⟨?_, ?_⟩⟩
  · show W2.ownsRow 0 _ 1 v' (s.ns + 1) (ptrs (s.ns + 1) (upd L.pk s.ns b))
    rw [ptrs_succ]
    exact u2.owns own (fun k hk hm => hmv (by rw [hk, List.mem_singleton.1 hm]))
  · intro k hk
    refine ⟨List.mem_append_right _ (List.mem_cons_of_mem _ (by show k ∈ v'.ownBlock.toList; rw [show v'.ownBlock = some k from hk]; simp)), ?_⟩
    show (if k < w.heap.size then L.tag k else if k = b then 20 + 2 * s.ns else 3) = 3
    rcases fr k hk with h2 | h2
    · rw [if_pos (h.os.lt k h2).2, (h.ts k h2).2]
    · rw [if_neg (by omega), if_neg (fun e => hbv (by rw [← e]; exact hk))]
  · intro j hj
    show Row W2 (upd L.pk s.ns b j) _ [upd L.vq s.ns (.slice none 0 0) j, .int .i64 (upd s.sig s.ns 0 j)]
    by_cases hjn : j = s.ns
    · subst hjn
      rw [upd_same, upd_same, upd_same]
      exact hrow.keep u2 (by simp; omega)
    · have hjl : j < s.ns := by have : j < s.ns + 1 := hj; omega
      rw [upd_ne _ _ hjn, upd_ne _ _ hjn, upd_ne _ _ hjn]
      exact keepR u2 (keepR u (h.sm j hjl) (h.tk j hjl).2 (hl3 _ (by omega))) (h.tk j hjl).2 (hl _ (by omega))
  · intro j hj
    show upd L.pk s.ns b j ∈ L.B ++ _ ∧ (if upd L.pk s.ns b j < w.heap.size then L.tag (upd L.pk s.ns b j) else if upd L.pk s.ns b j = b then 20 + 2 * s.ns else 3) = 20 + 2 * j
    by_cases hjn : j = s.ns
    · subst hjn
      rw [upd_same, if_neg (by omega), if_pos rfl]
      exact ⟨by simp, rfl⟩
    · have hjl : j < s.ns := by have : j < s.ns + 1 := hj; omega
      rw [upd_ne _ _ hjn, if_pos (h.sm j hjl).lt]
      exact ⟨List.mem_append_left _ (h.tk j hjl).1, (h.tk j hjl).2⟩
  · intro j hj
    show W2.ownsRow 0 _ 1 (upd L.vq s.ns (.slice none 0 0) j) (upd s.sq s.ns [] j).length ((upd s.sq s.ns [] j).map _)
    by_cases hjn : j = s.ns
    · subst hjn
      rw [upd_same, upd_same]
      exact World.ownsRow_nil _ _ _ _
    · have hjl : j < s.ns := by have : j < s.ns + 1 := hj; omega
      rw [upd_ne _ _ hjn, upd_ne _ _ hjn]
      exact keep (h.wt j hjl) (h.tw j hjl) (by omega) (by omega)
  · intro j hj
    show Tg L' (upd L.vq s.ns (.slice none 0 0) j) _
    by_cases hjn : j = s.ns
    · subst hjn
      rw [upd_same]
      intro k hk; simp [Value.ownBlock] at hk
    · have hjl : j < s.ns := by have : j < s.ns + 1 := hj; omega
      rw [upd_ne _ _ hjn]
      exact oldO (h.tw j hjl) (h.wt j hjl)
  · exact (u.mono (fun k hk => (h.ts k (by simpa using hk)).1)).trans (u2.mono (fun k hk => by rw [List.mem_singleton.1 hk]; exact h.tm.1))
  · intro k hk
    rcases List.mem_append.1 hk with hk | hk
    · exact .inl hk
    · rcases List.mem_cons.1 hk with rfl | hk
      · exact .inr hb
      · rcases fr k (by simpa using hk) with h2 | h2
        · exact .inl (h.ts k h2).1
        · exact .inr h2

theorem c_Sem {w : World} {m : Nat} {L : Lay} {s : SS} (h : SAt w m L s) (hn : s.ns < 100) :
    Calls Try.prog 17 #[.pointer (some ⟨m, 0, none⟩)] w (SPost m L (.tuple #[.int .i64 ((s.ns : Int) + 1), .int .i64 0]) (semS s) w) := by
  obtain ⟨a, c, hvs, -, -⟩ := owns_reads h.os
  have k11 : w.cell? ⟨m, 11, none⟩ = some (.slice a s.ns c) := by rw [← hvs]; exact h.row.cell (i := 11) rfl
  have HVS := Lib.hid hvs
  have HH := Lib.hid h
  have hml := h.row.lt
  have h1c : ∀ u ∈ [(.pointer (some ⟨w.heap.size, 0, none⟩) : Value)], u.oneCell' = true := by intro u hu; simp at hu; subst hu; rfl
  have hn2 : (s.ns : Int) ≠ 100 := by omega
  clear h hvs
  go_enter Try.func17, Try.ntmps17
  go_wp2_with (at_builtin; refine wpList_appF rfl _ _ 59 rfl 0 65 (.pointer none) 8 Try.underlying59 inf_psem rfl _ s.ns _ HVS.out.symm ((HH.out.os.alloc _).alloc _) _ 1 1 [.pointer (some ⟨w.heap.size, 0, none⟩)] rfl rfl (Reads.madeAt (by simp)) h1c (by unfold maxLen; omega) (by omega) (Nat.zero_le _) ?_)
  intro v' w2 own gr fr
  have hts := HH.out.ts
  have hlt := fun k hk => (HH.out.os.lt k hk).2
  have u0 : Upd (L.vs.ownBlock.toList) w w2 := (((Upd.refl _ w).alloc _).alloc _).trans (grown_upd gr)
  have hrow : Row w2 w.heap.size 67 [.slice none 0 0, .int .i64 0] := ((Row.made w [.slice none 0 0, .int .i64 0] 67).alloc _).keep (grown_upd gr) (fun hm => by have := hlt w.heap.size (by simpa using hm); omega)
  have hbv : v'.ownBlock ≠ some w.heap.size := fun e => by
    rcases fr _ e with h2 | h2
    · have := hlt _ h2; omega
    · omega
  have fr2 : ∀ k, v'.ownBlock = some k → L.vs.ownBlock = some k ∨ w.heap.size ≤ k := fun k hk => (fr k hk).imp id (fun h2 => by omega)
  have HN := Lib.hid (HH.out.sem_new w.heap.size (Nat.le_refl _) u0 hrow own fr2 hbv)
  have hr0 : Row w2 m 61 (rowS L.vp L.vi L.vs L.vr s.act) := keepR u0 HH.out.row HH.out.tm.2 (fun k hk => by rw [(hts k (by simpa using hk)).2]; omega)
  obtain ⟨a', c', rfl, -, -⟩ := owns_reads own
  have kc := hr0.cell (i := 11) rfl
  have kf := hr0.free 11
  have kc2 := (hr0.set 11 (.slice a' (s.ns + 1) c')).cell (i := 11) rfl
  clear own gr fr u0 hrow hbv fr2 hr0 hts hlt k11
  go_wp2
  go_ret2
  obtain ⟨L', hs, hm⟩ := HN.out
  exact ⟨L', rfl, hs, hm⟩

def allIn (s : SS) (ls : List Int) : Bool := ls.all (fun p => decide (1 ≤ p ∧ p ≤ s.prior.length))
def okAt (s : SS) (ls : List Int) (i : Nat) : Bool := s.idle.getD (ls.getD i 0 - 1).toNat false && !decide (ls.getD i 0 ∈ ls.take i)
def okAll (s : SS) (ls : List Int) : Bool := (List.range ls.length).all (okAt s ls)
def resE (s : SS) (ls : List Int) : Int := if allIn s ls = true then (if okAll s ls = true then 0 else 2) else 4
def resF (s : SS) (ls : List Int) : SS := ls.foldl (fun s p => makeS s (p - 1).toNat) s
def resS (s : SS) (ls : List Int) : SS := if resE s ls = 0 then resF s ls else s

theorem make_prior (s : SS) (k : Nat) : (makeS s k).prior = s.prior := by
  unfold makeS
  split
  · rfl
  · split <;> rfl
theorem resF_prior : ∀ (ls : List Int) (s : SS), (resF s ls).prior = s.prior
  | [], s => rfl
  | p :: r, s => (resF_prior r (makeS s (p - 1).toNat)).trans (make_prior s _)
theorem resF_snoc (s : SS) {ls : List Int} {j : Nat} (hj : j < ls.length) : resF s (ls.take (j + 1)) = makeS (resF s (ls.take j)) (ls.getD j 0 - 1).toNat := by
  unfold resF
  rw [List.take_add_one, List.foldl_append]
  rw [List.getD_eq_getElem?_getD, List.getElem?_eq_getElem hj]
  rfl
theorem allIn_yes {s : SS} {ls : List Int} (h : ∀ j, j < ls.length → 1 ≤ ls.getD j 0 ∧ ls.getD j 0 ≤ s.prior.length) : allIn s ls = true := by
  unfold allIn
  rw [List.all_eq_true]
  intro p hp
  obtain ⟨j, hj, rfl⟩ := List.getElem_of_mem hp
  have := h j hj
  rw [List.getD_eq_getElem?_getD, List.getElem?_eq_getElem hj] at this
  exact decide_eq_true this
theorem allIn_no {s : SS} {ls : List Int} {j : Nat} (hj : j < ls.length) (h : ¬ (1 ≤ ls.getD j 0 ∧ ls.getD j 0 ≤ s.prior.length)) : allIn s ls = false := by
  unfold allIn
  rw [List.all_eq_false]
  exact ⟨_, getD_mem hj, by simpa using h⟩
theorem okAll_yes {s : SS} {ls : List Int} (h : ∀ j, j < ls.length → okAt s ls j = true) : okAll s ls = true := by
  unfold okAll
  rw [List.all_eq_true]
  intro j hj
  exact h j (List.mem_range.1 hj)
theorem okAll_no {s : SS} {ls : List Int} {j : Nat} (hj : j < ls.length) (h : okAt s ls j = false) : okAll s ls = false := by
  unfold okAll
  rw [List.all_eq_false]
  exact ⟨j, List.mem_range.2 hj, by simp [h]⟩

theorem c_Resume {w : World} {m : Nat} {L : Lay} {s : SS} (h : SAt w m L s) (hw : WF s) (a : Option Addr) (n c : Nat) (ls : List Int) (e0 : n = ls.length) (hr : Reads w a c (ls.map (Value.int .i64))) (hc : n ≤ c) (hl : n ≤ 1000) (hd : 0 < n → ∀ x, a = some x → x.block ∉ L.B)
    (hWF : resE s ls = 0 → ∀ j, j ≤ ls.length → WF (resF s (ls.take j))) :
    Calls Try.prog 13 #[.pointer (some ⟨m, 0, none⟩), .slice a n c] w (SPost m L (.int .i64 (resE s ls)) (resS s ls) w) := by
  subst e0
  have HH := Lib.hid h
  have HW := Lib.hid hw
  have HR := Lib.hid hr
  have HD := Lib.hid hd
  have HF := Lib.hid hWF
  have hn := hw.n
  clear h hw hr hd hWF
  go_enter Try.func13, Try.ntmps13
  go_wp2
  go_step3
  go_wp2
  go_loop [16] (fun i => ∃ j : Nat, j ≤ ls.length ∧ i = .int .i64 j ∧ Hid (∀ k, k < j → 1 ≤ ls.getD k 0 ∧ ls.getD k 0 ≤ s.prior.length)) (fun i => ls.length - (intOf i).toNat)
  case atStart => exact ⟨0, Nat.zero_le _, rfl, fun j hj => by omega⟩
  case round =>
    obtain ⟨j, hj, rfl, HZ⟩ := hrel
    by_cases hlt : j < ls.length
    · obtain ⟨b, off, rfl, hblt, hc0⟩ := HR.out.at (by simp; omega)
      have hcell := hc0 j _ (getD_map8 hlt)
      have HC := Lib.hid (c_has HH.out hn (ls.getD j 0))
      have HN := Lib.hid (fun h : 1 ≤ ls.getD j 0 ∧ ls.getD j 0 ≤ s.prior.length => (by
        intro k hk
        by_cases hkj : k = j
        · subst hkj; exact h
        · exact HZ.out k (by omega) : ∀ k, k < j + 1 → 1 ≤ ls.getD k 0 ∧ ls.getD k 0 ≤ s.prior.length))
      have HNO := Lib.hid (fun h : ¬ (1 ≤ ls.getD j 0 ∧ ls.getD j 0 ≤ s.prior.length) => allIn_no hlt h)
      clear hc0
      generalize ls.getD j 0 = y at *
      by_cases hy : 1 ≤ y ∧ y ≤ s.prior.length
      · have HN2 := Lib.hid (HN.out hy)
        rw [decide_eq_true hy] at HC
        clear HN HNO hy
        go_wp2_with (go_at_call 26; refine HC.out.mono ?_; rintro e w' ⟨rfl, rfl⟩)
        go_round
        case rel => exact ⟨j + 1, by omega, by go_num, HN2.out⟩
        case measure => simp [intOf]; omega
      · have HE : Hid (allIn s ls = false) := HNO.out hy
        rw [decide_eq_false hy] at HC
        clear HN HNO hy
        go_wp2_with (go_at_call 26; refine HC.out.mono ?_; rintro e w' ⟨rfl, rfl⟩)
        go_ret
        have h4 : resE s ls = 4 := by unfold resE; rw [if_neg (by rw [HE.out]; simp)]
        refine ⟨L, by rw [h4]; rfl, ?_, Mov.refl _ _⟩
        unfold resS
        rw [h4, if_neg (by decide)]
        exact HH.out
    · obtain rfl : j = ls.length := by omega
      have HA := Lib.hid (allIn_yes HZ.out)
      clear hlt
      go_wp2
      go_step3
      go_wp2
      go_loop [5, 27] (fun e5 i => ∃ j : Nat, j ≤ ls.length ∧ e5 = .int .i64 0 ∧ i = .int .i64 j ∧ Hid (∀ k, k < j → okAt s ls k = true)) (fun _ i => ls.length - (intOf i).toNat)
      case atStart => exact ⟨0, Nat.zero_le _, rfl, rfl, fun j hj => by omega⟩
      case round =>
        obtain ⟨j, hj, rfl, rfl, HK⟩ := hrel
        by_cases hlt : j < ls.length
        · obtain ⟨b, off, rfl, hblt, hc0⟩ := HR.out.at (by simp; omega)
          have hcell := hc0 j _ (getD_map8 hlt)
          have HC := Lib.hid (c_ContainsI (some ⟨b, off, none⟩) j c (ls.take j) (ls.getD j 0) w (by simp; omega) (by rw [List.map_take]; exact reads_pre HR.out j) (by omega))
          obtain ⟨hy1, hy2⟩ := HZ.out j hlt
          have HN := Lib.hid (fun h : okAt s ls j = true => (by
            intro k hk
            by_cases hkj : k = j
            · subst hkj; exact h
            · exact HK.out k (by omega) : ∀ k, k < j + 1 → okAt s ls k = true))
          have HNO := Lib.hid (fun h : okAt s ls j = false => okAll_no hlt h)
          have hoe : okAt s ls j = (s.idle.getD (ls.getD j 0 - 1).toNat false && !decide (ls.getD j 0 ∈ ls.take j)) := rfl
          obtain ⟨k, hk⟩ : ∃ k : Nat, ls.getD j 0 = (k : Int) + 1 := ⟨(ls.getD j 0 - 1).toNat, by omega⟩
          have hkn : k < s.prior.length := by omega
          have hki : k < s.idle.length := by rw [HW.out.li]; exact hkn
          obtain ⟨g, cg, hvi, k1, kcA, kfA⟩ := HH.out.ci (by omega)
          have kc := kcA k hki
          rw [HW.out.li] at k1
          rw [hk, show ((k : Int) + 1 - 1).toNat = k from by omega] at hoe
          rw [hk] at HC hcell
          have hkk : (k : Int) + 1 - 1 = (k : Int) := by omega
          clear hc0 kcA kfA hvi hy1 hy2 hk hki
          generalize s.idle.getD k false = bI at *
          generalize decide ((k : Int) + 1 ∈ ls.take j) = bD at *
          cases bI with
          | true =>
            cases bD with
            | true =>
              have HE : Hid (okAll s ls = false) := HNO.out (by rw [hoe]; rfl)
              clear HN HNO hoe HK
              go_wp2_with (go_at_call 27; refine HC.out.mono ?_; rintro e w' ⟨rfl, rfl⟩)
              go_ret
              have h2 : resE s ls = 2 := by unfold resE; rw [if_pos HA.out, if_neg (by rw [HE.out]; simp)]
              refine ⟨L, by rw [h2]; rfl, ?_, Mov.refl _ _⟩
              unfold resS
              rw [h2, if_neg (by decide)]
              exact HH.out
            | false =>
              have HN2 := Lib.hid (HN.out (by rw [hoe]; rfl))
              clear HN HNO hoe HK
              go_wp2_with (go_at_call 27; refine HC.out.mono ?_; rintro e w' ⟨rfl, rfl⟩)
              go_round
              case rel => exact ⟨j + 1, by omega, rfl, by go_num, HN2.out⟩
              case measure => simp [intOf]; omega
          | false =>
            have HE : Hid (okAll s ls = false) := HNO.out (by rw [hoe]; rfl)
            clear HN HNO hoe HK HC
            go_wp2
            go_ret
            have h2 : resE s ls = 2 := by unfold resE; rw [if_pos HA.out, if_neg (by rw [HE.out]; simp)]
            refine ⟨L, by rw [h2]; rfl, ?_, Mov.refl _ _⟩
            unfold resS
            rw [h2, if_neg (by decide)]
            exact HH.out
        · obtain rfl : j = ls.length := by omega
          have h0 : resE s ls = 0 := by unfold resE; rw [if_pos HA.out, if_pos (okAll_yes HK.out)]
          have HE0 := Lib.hid h0
          have HWF := Lib.hid (HF.out h0)
          clear hlt h0
          go_wp2
          go_loopw [54] (fun i wr => ∃ (j : Nat) (K : Lay), j ≤ ls.length ∧ i = .int .i64 j ∧ Hid (SAt wr m K (resF s (ls.take j))) ∧ Hid (Mov L.B w K.B wr)) (fun i _ => ls.length - (intOf i).toNat)
          case atStart => exact ⟨0, L, Nat.zero_le _, rfl, HH.out, Mov.refl _ _⟩
          case round =>
            obtain ⟨j, K, hj2, rfl, HSJ, HMJ⟩ := hrel
            by_cases hlt : j < ls.length
            · obtain ⟨b, off, rfl, hblt, hc0⟩ := (HMJ.out.up.reads HR.out (HD.out (by omega))).at (by simp; omega)
              have hcell := hc0 j _ (getD_map8 hlt)
              obtain ⟨hy1, hy2⟩ := HZ.out j hlt
              obtain ⟨k, hk⟩ : ∃ k : Nat, ls.getD j 0 = (k : Int) + 1 := ⟨(ls.getD j 0 - 1).toNat, by omega⟩
              have hkn : k < (resF s (ls.take j)).prior.length := by rw [resF_prior]; omega
              have HC := Lib.hid (c_make HSJ.out (HWF.out j hj2) k hkn)
              have HSN := Lib.hid (resF_snoc s hlt)
              rw [hk] at hcell HSN
              rw [show ((k : Int) + 1 - 1).toNat = k from by omega] at HSN
              rw [← HSN.out] at HC
              clear hc0 hy1 hy2 hk HSN hkn
              go_wp2_with fail
              refine HC.out.mono ?_
              rintro e w4 ⟨K4, rfl, hs4, m4⟩
              have H4 := Lib.hid hs4
              have M4 := Lib.hid (HMJ.out.trans m4)
              clear hs4 m4 HSJ HMJ HC
              go_wp2
              go_roundw
              case rel => exact ⟨j + 1, K4, by omega, by go_num, H4.out, M4.out⟩
              case measure => simp [intOf]; omega
            · obtain rfl : j = ls.length := by omega
              go_wp2
              go_ret
              refine ⟨K, by rw [HE0.out]; rfl, ?_, HMJ.out⟩
              unfold resS
              rw [HE0.out, if_pos rfl]
              have := HSJ.out
              rwa [List.take_length] at this

end Go.Proofs.Ytbkaafbkmcgfjaa
