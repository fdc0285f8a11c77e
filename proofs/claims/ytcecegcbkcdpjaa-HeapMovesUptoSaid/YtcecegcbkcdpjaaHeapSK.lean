/-
  The law HeapMoves: what is done, as it came in; each step of whatever heap.
-/
import Derived.Test.YtcecegcbkcdpjaaHeapSJ
import Derived.Test.YtcecegcbkcdpjaaHeapR
namespace Go.Proofs.Ytcecegcbkcdpjaa
open Go.RowKit
set_option linter.unusedVariables false
set_option maxHeartbeats 4000000
set_option maxRecDepth 100000

theorem run_append_newS {P : Program} (w : World) (base : Nat) (t ty e : TypeId) (i : TypeInfo) (z : Value) (size : Nat) (ht : P.underlying t = some (.slice e)) (hi : P.info? e = some i) (hz : i.zero = some z)
    (hs1 : i.size = size) (hzs : z.cells.size = size) (hsz : 0 < size)
    (v : Value) (n : Nat) (xs : List Value) (hown : w.ownsRow base e size v n xs)
    (a : Addr) (m c : Nat) (news : List Value) (hl : news.length = m * size) (hnews : ∀ j u, news[j]? = some u → w.cell? (a.add j) = some u) (h1 : ∀ u ∈ news, u.oneCell' = true)
    (h63 : n + m ≤ maxLen) (hbytes : (n + m) * i.bytes ≤ 140737488355328) (hbase : base ≤ w.heap.size) :
    ∃ v' w', (Builtin.append_ #[t, t] ty #[v, .slice (some a) m c]).run P w = .ok v' w' ∧ w'.ownsRow base e size v' (n + m) (xs ++ news) ∧ w.grownBy w' v.ownBlock ∧
      (∀ k, v'.ownBlock = some k → v.ownBlock = some k ∨ w.heap.size ≤ k) := by
  obtain ⟨v', w', hr, h2, h3, -⟩ := run_append_own (P := P) w base t ty e i z size i.bytes ht hi hz hs1 rfl hzs hsz v n xs hown a m c news hl hnews h1 h63 hbytes hbase
  refine ⟨v', w', hr, h2, h3, fun k hk => ?_⟩
  rcases hown.2 with ⟨rfl, rfl⟩ | ⟨g, cap, cur, rfl, hbg, hg, hnc, hcm, hcs, htake⟩
  · have hx : xs = [] := List.eq_nil_of_length_eq_zero (by simpa using hown.1)
    subst hx
    obtain ⟨v2, w2, hr2, h22, -, -⟩ := run_append_own (P := P) w w.heap.size t ty e i z size i.bytes ht hi hz hs1 rfl hzs hsz _ 0 [] (World.ownsRow_nil w w.heap.size e size) a m c news hl hnews h1 h63 hbytes (Nat.le_refl _)
    rw [hr] at hr2
    cases hr2
    exact .inr (h22.lt k hk).1
  · by_cases hroom : n + m ≤ cap
    · have hr2 := run_append_room (P := P) w t ty e i ht hi g n cap cur hg a m c news (by rw [hs1]; exact hl) hnews h1 hroom (by rw [hs1, hl, hcs, ← Nat.add_mul]; exact Nat.mul_le_mul_right _ hroom)
      rw [hr] at hr2
      cases hr2
      exact .inl (by simpa [Value.ownBlock] using hk)
    · have hr2 := run_append_grow (P := P) w t ty e i z ht hi hz ⟨g, 0, none⟩ n cap xs (by rw [hs1]; exact hown.1) (hown.cells (g := g) rfl) a m c news (by rw [hs1]; exact hl) hnews (by omega) (by unfold maxLen at h63; omega) (growslice_fits (by omega) hbytes)
      rw [hr] at hr2
      cases hr2
      refine .inr ?_
      simp [Value.ownBlock] at hk
      omega

theorem wpList_appS {P : Program} {w : World} {ops : Array Oper} {rest : List Oper} {o : Oper} {a : Act} {Q : Exit → Act → World → Prop} (hgd : o.guard = none) (s x : Operand) (t : TypeId)
    (ho : o.op = .call { callee := .builtin .append, args := #[s, x], argTypes := #[t, t] })
    (base : Nat) (e : TypeId) (z : Value) (size bytes : Nat) (ht : P.underlying t = some (.slice e)) (hinf : (P.info? e).map (fun i => (i.zero, i.size, i.bytes)) = some (some z, size, bytes))
    (hzs : z.cells.size = size) (hsz : 0 < size)
    (v : Value) (n : Nat) (xs : List Value) (hs : a.eval s = v) (hown : w.ownsRow base e size v n xs)
    (ad : Addr) (m c : Nat) (news : List Value) (hx : a.eval x = .slice (some ad) m c) (hl : news.length = m * size) (hr : Reads w (some ad) c news) (h1 : ∀ u ∈ news, u.oneCell' = true)
    (h63 : n + m ≤ maxLen) (hbytes : (n + m) * bytes ≤ 140737488355328) (hbase : base ≤ w.heap.size)
    (h : ∀ v' w', w'.ownsRow base e size v' (n + m) (xs ++ news) → w.grownBy w' v.ownBlock → (∀ k, v'.ownBlock = some k → v.ownBlock = some k ∨ w.heap.size ≤ k) → wpList P ops Q rest (a.put o.dst v') w') : wpList P ops Q (o :: rest) a w := by
  obtain ⟨i, hi, hz, h2, h3⟩ := info_parts hinf
  rcases hr with ⟨ha0, hc0, hn0⟩ | ⟨ad', ha0, hr⟩
  · cases ha0
  · cases ha0
    obtain ⟨v', w', hrun, k2, k3, k4⟩ := run_append_newS (P := P) w base t o.type e i z size ht hi hz h2 hzs hsz v n xs hown ad m c news hl hr h1 h63 (by rw [h3]; exact hbytes) hbase
    refine wpList_plain hgd fun _ hK => ?_
    unfold Oper.wp execOp
    simp only [ho, resolve, invoke, builtin, Sem.run_bind, Sem.run_pure, Result.andThen_ok, List.map_toArray, List.map_cons, List.map_nil, hs, hx, hrun]
    exact hK _ _ (h v' w' k2 k3 k4)


/-! ### What is done -/
structure DoH where
  kind : Int
  k : Int
  i : Int
  a : Option Addr
  n : Nat
  c : Nat
  l : List Int
def DoH.row (d : DoH) : List Value := [.int .i64 d.kind, .int .i64 d.k, .int .i64 d.i, .slice d.a d.n d.c]
def DoH.ok (w : World) (d : DoH) : Prop := (-9223372036854775808 ≤ d.kind ∧ d.kind ≤ 9223372036854775807) ∧ (-9223372036854775808 ≤ d.k ∧ d.k ≤ 9223372036854775807) ∧ (-9223372036854775808 ≤ d.i ∧ d.i ≤ 9223372036854775807) ∧ Ints .i64 w d.a d.n d.c d.l
def DoHs (w : World) (a : Option Addr) (n c : Nat) (ds : List DoH) : Prop := n = ds.length ∧ n ≤ c ∧ c ≤ maxLen ∧ ReadsBy w a 4 DoH.row ds ∧ ∀ d ∈ ds, d.ok w
def cntH (ds : List DoH) : Nat := (ds.map (fun d => 1 + d.n)).sum
theorem cntH_step {ds : List DoH} {k : Nat} (h : k < ds.length) : cntH (ds.take (k + 1)) = cntH (ds.take k) + 1 + ds[k].n := by
  unfold cntH
  rw [List.take_add_one, List.getElem?_eq_getElem h, Option.toList_some, List.map_append, List.sum_append]
  simp only [List.map_cons, List.map_nil, List.sum_cons, List.sum_nil]
  omega
theorem cntH_take (ds : List DoH) (k : Nat) : cntH (ds.take k) ≤ cntH ds := by
  unfold cntH
  conv => rhs; rw [← List.take_append_drop k ds, List.map_append, List.sum_append]
  omega
theorem cntH_len (ds : List DoH) : ds.length ≤ cntH ds := by
  induction ds with
  | nil => exact Nat.zero_le _
  | cons d ds ih => unfold cntH at ih ⊢; simp only [List.map_cons, List.sum_cons, List.length_cons]; omega
theorem cntH_n {ds : List DoH} {d : DoH} (h : d ∈ ds) : d.n ≤ cntH ds := by
  induction ds with
  | nil => cases h
  | cons x ds ih =>
    unfold cntH at ih ⊢
    simp only [List.map_cons, List.sum_cons]
    rcases List.mem_cons.1 h with rfl | h
    · omega
    · have := ih h; omega
theorem doH_cells {w : World} {a : Option Addr} {ds : List DoH} (h : ReadsBy w a 4 DoH.row ds) {k : Nat} (hk : k < ds.length) :
    ∃ b off, a = some ⟨b, off, none⟩ ∧ b < w.heap.size ∧ w.cell? ⟨b, off + k * 4, none⟩ = some (.int .i64 ds[k].kind) ∧ w.cell? ⟨b, off + k * 4 + 1, none⟩ = some (.int .i64 ds[k].k) ∧ w.cell? ⟨b, off + k * 4 + 2, none⟩ = some (.int .i64 ds[k].i) ∧ w.cell? ⟨b, off + k * 4 + 3, none⟩ = some (.slice ds[k].a ds[k].n ds[k].c) := by
  obtain ⟨b, off, rfl, hb, hc⟩ := h k _ (List.getElem?_eq_getElem hk)
  exact ⟨b, off, rfl, hb, hc 0 _ rfl, hc 1 _ rfl, hc 2 _ rfl, hc 3 _ rfl⟩

theorem c_long07 {w : World} {a : Option Addr} {c : Nat} {ds : List DoH} (h : ReadsBy w a 4 DoH.row ds) (hs : cntH ds ≤ 2000000) :
    Calls Try.prog 36 #[.slice a ds.length c] w fun e w' => e = .returned (.bool (decide ((150 : Int) < (cntH ds : Nat)))) ∧ w = w' := by
  have HR := Lib.hid h
  have hlen : ds.length ≤ 2000000 := Nat.le_trans (cntH_len ds) hs
  clear h
  go_enter Try.func36, Try.ntmps36
  go_wp2
  go_loop [3, 4] (fun u i => ∃ k : Nat, k ≤ ds.length ∧ i = .int .i64 k ∧ u = .int .i64 (cntH (ds.take k) : Nat)) (fun _ i => ds.length - (intOf i).toNat)
  case atStart => exact ⟨0, Nat.zero_le _, rfl, rfl⟩
  case round =>
    obtain ⟨k, hk, rfl, rfl⟩ := hrel
    by_cases hlt : k < ds.length
    · obtain ⟨b, off, rfl, hb, c0, c1, c2, c3⟩ := doH_cells HR.out hlt
      have hst := cntH_step hlt
      have hle := cntH_take ds (k + 1)
      generalize ds[k].a = xa at *
      generalize ds[k].n = xn at *
      generalize ds[k].c = xc at *
      generalize ds[k].kind = x1 at *
      generalize ds[k].k = x2 at *
      generalize ds[k].i = x3 at *
      have HST := Lib.hid hst
      rw [hst] at hle
      generalize cntH (ds.take k) = U at *
      clear hst hb
      go_wp2
      go_round
      case rel => exact ⟨k + 1, by omega, by go_num, by rw [HST.out]; exact congrArg (Value.int .i64) (by omega)⟩
      case measure => simp [intOf]; omega
    · obtain rfl : k = ds.length := by omega
      rw [List.take_length]
      go_wp2
      go_ret
      exact ⟨rfl, rfl⟩

/-! ### Steps of whatever heap -/
/-- A heap, told by what holds of it. -/
structure HI (w : World) (B h g : Nat) (S : HpS) : Prop where
  at_ : HX w B h g S
  inv : Inv S
theorem HI.below {w w' : World} {B h g : Nat} {S : HpS} (H : HI w B h g S) (hb : Below w.heap.size w w') : HI w' B h g S := ⟨H.at_.below hb, H.inv⟩
section
variable {w : World} {B h g : Nat} {S : HpS}
theorem HI.ords (H : HI w B h g S) : Ords (OrdG S) w h := by
  obtain ⟨vb, hx⟩ := H.at_
  exact ords_any hx (fun k hk => by have := H.inv.fit k hk; have := hx.small; omega)
theorem HI.ok (H : HI w B h g S) (hb : S.bl.length ≤ 1000) : OrdOk (OrdG S) S :=
  ⟨fun L hL => by rw [hL.1.length_eq]; exact Nat.le_trans (usedN_len _ _) hb, fun L hL k hk => (usd_lt (mem_used.1 (hL.1.mem_iff.1 hk))).1, fun L hL k hk => H.inv.fit k (hL.1.mem_iff.1 hk)⟩
theorem y_Alloc (H : HI w B h g S) (hb : S.bl.length ≤ 900) (n : Int) (hn : n ≤ 9223372036854775807) :
    Calls Try.prog 26 #[.pointer (some ⟨h, 0, none⟩), .int .i64 n] w fun e w' => ∃ r S', e = .returned r ∧ HI w' B h g S' ∧ S'.bl.length ≤ S.bl.length + 1 ∧ S'.N = S.N ∧ HUpd B w w' := by
  by_cases h0 : n < 0
  · refine (c_AllocNeg n h0 h w).mono ?_
    rintro e w' ⟨rfl, rfl⟩
    exact ⟨_, S, rfl, H, Nat.le_succ _, rfl, HUpd.refl _ _⟩
  · obtain ⟨m, rfl⟩ := Int.eq_ofNat_of_zero_le (show 0 ≤ n by omega)
    obtain ⟨vb, hx⟩ := H.at_
    refine (c_HAlloc hx (H.ok (by omega)) H.ords m (by omega) (by omega)).mono ?_
    rintro e w' ⟨L, hL, hu, ⟨p, vb', hp, rfl, hx'⟩ | ⟨hp, rfl, hx'⟩⟩
    · refine ⟨_, allocS S p m, rfl, ⟨⟨vb', hx'⟩, inv_alloc H.inv hL hp⟩, ?_, rfl, hu⟩
      unfold allocS
      simp only
      split
      · rw [List.length_set]; omega
      · simp
    · exact ⟨_, S, rfl, ⟨⟨vb, hx'⟩, H.inv⟩, Nat.le_succ _, rfl, hu⟩
theorem y_Free (H : HI w B h g S) (k : Int) :
    Calls Try.prog 28 #[.pointer (some ⟨h, 0, none⟩), .int .i64 k] w fun e w' => ∃ r S', e = .returned r ∧ HI w' B h g S' ∧ S'.bl.length ≤ S.bl.length + 1 ∧ S'.N = S.N ∧ HUpd B w w' := by
  obtain ⟨vb, hx⟩ := H.at_
  by_cases hk : hasB S k = true
  · obtain ⟨m, hm, rfl, hu⟩ := hasB_yes hk
    refine (c_FreeYes hx m hm hu).mono ?_
    rintro e w' ⟨rfl, hx', hu⟩
    exact ⟨_, freeS S m, rfl, ⟨⟨vb, hx'⟩, inv_free H.inv m⟩, by rw [(freeS_N S m).2]; omega, (freeS_N S m).1, hu⟩
  · refine (c_FreeNo hx k (by simpa using hk)).mono ?_
    rintro e w' ⟨rfl, rfl⟩
    exact ⟨_, S, rfl, H, Nat.le_succ _, rfl, HUpd.refl _ _⟩
theorem HI.blk (H : HI w B h g S) {m : Nat} (hm : m < S.bl.length) (hu : S.bl[m].used = true) : S.bl[m].at_ + S.bl[m].n ≤ S.N ∧ S.N ≤ 32768 := by
  obtain ⟨vb, hx⟩ := H.at_
  have := H.inv.fit m (mem_used.2 (by unfold usd; rw [List.getElem?_eq_getElem hm]; exact hu))
  rw [← (blk_of hm).1, ← (blk_of hm).2] at this
  exact ⟨this, hx.small⟩
theorem y_Write (H : HI w B h g S) (k i : Int) (hi : i ≤ 9223372036854775807) (a : Option Addr) (n c : Nat) (l : List Int) (e0 : n = l.length) (hn : n ≤ 1000000) (hr : Reads w a c (l.map (Value.int .i64))) (hg : ∀ x, a = some x → x.block ≠ g) :
    Calls Try.prog 34 #[.pointer (some ⟨h, 0, none⟩), .int .i64 k, .int .i64 i, .slice a n c] w fun e w' => ∃ r S', e = .returned r ∧ HI w' B h g S' ∧ S'.bl.length ≤ S.bl.length + 1 ∧ S'.N = S.N ∧ HUpd B w w' := by
  obtain ⟨vb, hx⟩ := H.at_
  have hsame : ∀ (v : Value) (e : Ending) (w' : World), (e = .returned v ∧ w = w') → ∃ r S', e = .returned r ∧ HI w' B h g S' ∧ S'.bl.length ≤ S.bl.length + 1 ∧ S'.N = S.N ∧ HUpd B w w' := by
    rintro v e w' ⟨rfl, rfl⟩
    exact ⟨_, S, rfl, H, Nat.le_succ _, rfl, HUpd.refl _ _⟩
  by_cases hk : hasB S k = true
  · obtain ⟨m, hm, rfl, hu⟩ := hasB_yes hk
    obtain ⟨hf, hN⟩ := H.blk hm hu
    by_cases h0 : i < 0
    · exact (c_WriteNo2 hx m hm hu i h0 a n c).mono (hsame _)
    · obtain ⟨t, rfl⟩ := Int.eq_ofNat_of_zero_le (show 0 ≤ i by omega)
      by_cases h1 : S.bl[m].n < t
      · exact (c_WriteNo3 hx m hm hu t (by omega) hi (by omega) a n c).mono (hsame _)
      · by_cases h2 : S.bl[m].n < t + n
        · exact (c_WriteNo4 hx m hm hu (by omega) t (by omega) a n c h2 (by omega)).mono (hsame _)
        · cases hb : badH l with
          | true => exact (c_WriteBad hx m hm hu (by omega) t a n c l e0 (by omega) hr hb).mono (hsame _)
          | false =>
            refine (c_Write hx m hm hu hf t a n c l e0 (by omega) hr hg hb).mono ?_
            rintro e w' ⟨rfl, hx', hu⟩
            exact ⟨_, wsS S _ l, rfl, ⟨⟨vb, hx'⟩, inv_ws H.inv _ _⟩, Nat.le_succ _, rfl, hu⟩
  · exact (c_WriteNo1 hx k i (by simpa using hk) a n c).mono (hsame _)
end

end Go.Proofs.Ytcecegcbkcdpjaa
