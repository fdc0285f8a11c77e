/-
  What the laws of bits use: flat, done, known; and the law BitsNew.
-/
import Derived.Test.YtcecegcbkcdpjaaBits4
namespace Go.Proofs.Ytcecegcbkcdpjaa
open Go.RowKit Go.ChangeShapes Go.WideShapes Go.ChangeAt
set_option linter.unusedVariables false
set_option maxHeartbeats 2000000
set_option maxRecDepth 100000

theorem c_SameIntsYesB (a0 a1 : Option Addr) (n c0 c1 : Nat) (l : List Int) (w : World) (e0 : n = l.length) (h0 : Reads w a0 c0 (l.map (Value.int .i64))) (h1 : Reads w a1 c1 (l.map (Value.int .i64))) (hm : n ≤ 1000000000) :
    Calls Try.prog 24 #[.slice a0 n c0, .slice a1 n c1] w fun e w' => e = .returned (.bool true) ∧ Below w.heap.size w w' := by
  have := c_SameInts a0 a1 n n c0 c1 l l w e0 e0 h0 h1 hm hm
  rwa [decide_eq_true rfl] at this

def MadeIntsB (w : World) (l : List Int) (e : Ending) (w' : World) : Prop :=
  ∃ v, e = .returned v ∧ w'.ownsRow w.heap.size 3 1 v l.length (l.map (Value.int .i64)) ∧ Below w.heap.size w w'

theorem owns_mono {w : World} {base base' : Nat} {e : TypeId} {size : Nat} {v : Value} {n : Nat} {xs : List Value} (h : w.ownsRow base e size v n xs) (hb : base' ≤ base) : w.ownsRow base' e size v n xs := by
  refine ⟨h.1, ?_⟩
  rcases h.2 with h2 | ⟨g, cap, cur, rfl, hbg, rest⟩
  · exact .inl h2
  · exact .inr ⟨g, cap, cur, rfl, by omega, rest⟩

theorem take_snoc {l : List Int} {k : Nat} (h : k < l.length) : l.take (k + 1) = l.take k ++ [l.getD k 0] := by
  rw [List.take_add_one, List.getD_eq_getElem?_getD, List.getElem?_eq_getElem h]; rfl

theorem c_flat (m g n : Nat) (b : Nat → Bool) (w : World) (h : MapAt w m g n b) : Calls Try.prog 22 #[.pointer (some ⟨m, 0, none⟩)] w (MadeIntsB w (flatR (runsR b n))) := by
  have hsm := h.small
  have HC := Lib.hid (c_Runs m g n b w h)
  have hl := runsR_len b n
  have hfl := flatR_len (runsR b n)
  clear h
  go_enter Try.func22, Try.ntmps22
  go_wp2_with fail
  refine HC.out.mono ?_
  rintro e w1 ⟨v, rfl, own, bel⟩
  obtain ⟨a, c, rfl, hr, -, -⟩ := owns_reads own
  have HR := Lib.hid hr
  have HB := Lib.hid bel
  clear own bel hr HC
  generalize hFe : flatR (runsR b n) = F at *
  generalize (runsR b n).length = L at *
  go_wp2
  go_loopw [3, 5] (fun v i wr => ∃ k : Nat, k ≤ L ∧ i = .int .i64 k ∧ Hid (wr.ownsRow w1.heap.size 3 1 v (2 * k) ((F.take (2 * k)).map (Value.int .i64))) ∧ Hid (Below w1.heap.size w1 wr)) (fun _ i _ => L - (intOf i).toNat)
  case atStart => exact ⟨0, Nat.zero_le _, rfl, World.ownsRow_nil _ _ _ _, Below.refl _ _⟩
  case round =>
    obtain ⟨k, hk, rfl, HO, HB1⟩ := hrel
    by_cases hlt : k < L
    · obtain ⟨bb, off, rfl, hblt, hc⟩ := (HR.out.below HB1.out).at (by simp; omega)
      have kc0 := hc (2 * k) _ (getD_map8 (by omega))
      have kc1 := hc (2 * k + 1) _ (getD_map8 (by omega))
      have hblt0 : bb < w1.heap.size := by
        obtain ⟨b2, o2, he, hh, _⟩ := HR.out.at (by simp; omega)
        cases he; exact hh
      have HT := Lib.hid (show F.take (2 * (k + 1)) = F.take (2 * k) ++ [F.getD (2 * k) 0, F.getD (2 * k + 1) 0] from by
        rw [show 2 * (k + 1) = 2 * k + 1 + 1 from by omega, take_snoc (show 2 * k + 1 < F.length by omega), take_snoc (show 2 * k < F.length by omega), List.append_assoc]; rfl)
      rw [show off + 2 * k = off + k * 2 from by omega] at kc0
      rw [show off + (2 * k + 1) = off + k * 2 + 1 from by omega] at kc1
      have h1c : ∀ u ∈ [(.int .i64 (F.getD (2 * k) 0) : Value), .int .i64 (F.getD (2 * k + 1) 0)], u.oneCell' = true := by intro u hu; simp at hu; rcases hu with rfl | rfl <;> rfl
      have hsz := HB1.out.size
      have hk63 : k ≤ 65536 := by omega
      generalize F.getD (2 * k) 0 = x at *
      generalize F.getD (2 * k + 1) 0 = y at *
      clear hc
      go_wp2
      refine wp_region_planH (fun z => z.cell? ⟨bb, off + k * 2, none⟩ = some (.int .i64 x) ∧ z.cell? ⟨bb, off + k * 2 + 1, none⟩ = some (.int .i64 y)) [(0, true), (1, true), (2, true), (3, true), (4, true), (5, true), (6, true), (7, true), (8, true), (9, true), (10, true), (11, false), (12, false), (13, true)] (by kernel_rfl) (by kernel_rfl) (fun _ _ _ _ _ h => h) ⟨kc0, kc1⟩ ?_
      (repeat (refine wpPlanH_free rfl (fun K hK => ?_); go_simp; (try go_bits); refine hK _ ?_; clear hK K))
      refine wpPlanH_load (.int .i64 x) rfl rfl (fun z hS => by obtain ⟨s0, s1⟩ := hS; go_simp) (fun K hK => ?_)
      refine hK _ ?_
      clear hK K
      (repeat (refine wpPlanH_free rfl (fun K hK => ?_); go_simp; (try go_bits); refine hK _ ?_; clear hK K))
      refine wpPlanH_load (.int .i64 y) rfl rfl (fun z hS => by obtain ⟨s0, s1⟩ := hS; go_simp) (fun K hK => ?_)
      refine hK _ ?_
      clear hK K
      (repeat (refine wpPlanH_free rfl (fun K hK => ?_); go_simp; (try go_bits); refine hK _ ?_; clear hK K))
      refine wpPlanH_sole rfl ?_
      go_wp2
      obtain ⟨w2, hw2⟩ : ∃ z, z = (wr.alloc (.cells #[.int .i64 x, .int .i64 y] 3)).drew := ⟨_, rfl⟩
      have HW2 := Lib.hid hw2
      have B2 : Below wr.heap.size wr w2 := by rw [hw2]; exact ((Below.refl _ _).alloc (Nat.le_refl _) _).drew
      have O2 : w2.ownsRow w1.heap.size 3 1 u3 (2 * k) ((F.take (2 * k)).map (Value.int .i64)) := by rw [hw2]; exact HO.out.alloc _
      have R2 : Reads w2 (some ⟨wr.heap.size, 0, none⟩) 2 [.int .i64 x, .int .i64 y] := by rw [hw2]; exact Reads.made wr [.int .i64 x, .int .i64 y] _ 2
      have z2 : wr.heap.size < w2.heap.size := by rw [hw2]; show wr.heap.size < (wr.alloc _).heap.size; simp
      rw [← hw2]
      refine ⟨⟨cellKeep B2 kc0, cellKeep B2 kc1⟩, ?_⟩
      have HO2 := Lib.hid O2
      have HR2 := Lib.hid R2
      have HB2 := Lib.hid (HB1.out.trans (B2.mono HB1.out.size))
      obtain ⟨q, hq⟩ : ∃ q, q = wr.heap.size := ⟨_, rfl⟩
      rw [← hq] at HR2 z2 ⊢
      have HZ2 := Lib.hid z2
      have kd0 := cellKeep B2 kc0
      have kd1 := cellKeep B2 kc1
      clear hw2 B2 O2 R2 z2 hq kc0 kc1 HW2
      (repeat (refine wpPlanH_free rfl (fun K hK => ?_); go_simp; (try go_bits); refine hK _ ?_; clear hK K))
      refine wpPlanH_sole rfl ?_
      refine wpList_app rfl _ _ 39 rfl w1.heap.size 3 (.int .i64 0) 1 8 Try.underlying39 inf_int rfl (by decide) _ _ _ rfl HO2.out _ 2 2 [.int .i64 x, .int .i64 y] rfl rfl HR2.out h1c (by unfold maxLen; omega) (by omega) HB2.out.size ?_
      intro v' w3 own3 gr3
      have hlt' := HO2.out.lt
      have HB3 := Lib.hid (HB2.out.grown gr3 HB2.out.size (fun k hk => (hlt' k hk).1))
      have HO3 : Hid (w3.ownsRow w1.heap.size 3 1 v' (2 * (k + 1)) ((F.take (2 * (k + 1))).map (Value.int .i64))) := by
        rw [HT.out, List.map_append]; exact own3
      clear own3 gr3 hlt'
      go_wp2
      have ke0 : w3.cell? ⟨bb, off + k * 2, none⟩ = some (.int .i64 x) := by
        have h1 : bb < w1.heap.size := hblt0
        exact ((HB3.out.cell (p := ⟨bb, off + k * 2, none⟩) h1).trans (HB2.out.cell (p := ⟨bb, off + k * 2, none⟩) h1).symm).trans kd0
      have ke1 : w3.cell? ⟨bb, off + k * 2 + 1, none⟩ = some (.int .i64 y) := by
        have h1 : bb < w1.heap.size := hblt0
        exact ((HB3.out.cell (p := ⟨bb, off + k * 2 + 1, none⟩) h1).trans (HB2.out.cell (p := ⟨bb, off + k * 2 + 1, none⟩) h1).symm).trans kd1
      refine ⟨⟨ke0, ke1⟩, ?_⟩
      clear ke0 ke1 kd0 kd1
      (repeat (refine wpPlanH_free rfl (fun K hK => ?_); go_simp; (try go_bits); refine hK _ ?_; clear hK K))
      refine wpPlanH_nil ?_
      go_wp2
      go_roundw
      case rel => exact ⟨k + 1, by omega, by go_num, HO3.out, HB3.out⟩
      case measure => simp [intOf]; omega
    · obtain rfl : L = k := by omega
      go_wp2
      go_ret
      refine ⟨_, rfl, ?_, HB.out.trans (HB1.out.mono HB.out.size)⟩
      have := owns_mono HO.out HB.out.size
      rw [← hfl, List.take_length] at this
      exact this

/-- A thing that is done, as the statements hand it in: a kind, from where on, how many. -/
structure DoB where
  kind : Int
  frm : Int
  num : Int

def DoB.row (d : DoB) : List Value := [.int .i64 d.kind, .int .i64 d.frm, .int .i64 d.num]
def DoB.ok (d : DoB) : Prop := (-9223372036854775808 ≤ d.kind ∧ d.kind ≤ 9223372036854775807) ∧ (-9223372036854775808 ≤ d.frm ∧ d.frm ≤ 9223372036854775807) ∧ (-9223372036854775808 ≤ d.num ∧ d.num ≤ 9223372036854775807)
def DoBs (w : World) (a : Option Addr) (n c : Nat) (ds : List DoB) : Prop := n = ds.length ∧ n ≤ c ∧ c ≤ maxLen ∧ ReadsBy w a 3 DoB.row ds ∧ ∀ d ∈ ds, d.ok

theorem open_doB {H : Type} {enc : TypeId × Value → H} {w : World} {base : Nat} {spare : Nat → Bool} {held : Bool} {fuel : Nat} {cs : List Value} {x : DataW H × List MemPlace}
    (h : DataW.trod enc Try.prog w base spare held fuel 35 cs = some x) : ∃ (a : Option Addr) (n c : Nat) (ds : List DoB), cs = [.slice a n c] ∧ DoBs w a n c ds := by
  obtain ⟨a, n, c, rfl, h0, hn, hc, he⟩ := open_elems Try.underlying35 (S := 3) (by kernel_rfl) h
  have hd : ∀ i, i < n → ∃ d : DoB, (∃ ad, a = some ad ∧ ∀ j v, (DoB.row d)[j]? = some v → w.cell? (ad.add (i * 3 + j)) = some v) ∧ d.ok := fun i hi => by
    obtain ⟨ad, vs, m, y, had, hl, hcell, ht⟩ := he i hi
    obtain ⟨m2, hf⟩ := open_fields Try.underlying38 (by kernel_rfl) hl ht
    obtain ⟨v0, y0, e0, t0⟩ := hf 0 _ rfl
    obtain ⟨v1, y1, e1, t1⟩ := hf 1 _ rfl
    obtain ⟨v2, y2, e2, t2⟩ := hf 2 _ rfl
    obtain ⟨k, rfl, wk⟩ := cell_int Try.underlying3 t0
    obtain ⟨q, rfl, wq⟩ := cell_int Try.underlying3 t1
    obtain ⟨r, rfl, wr⟩ := cell_int Try.underlying3 t2
    refine ⟨⟨k, q, r⟩, ⟨ad, had, fun j v hv => hcell j v ?_⟩, bounds_i64 wk, bounds_i64 wq, bounds_i64 wr⟩
    match j, hv with
    | 0, hv => exact e0.trans hv
    | 1, hv => exact e1.trans hv
    | 2, hv => exact e2.trans hv
    | j + 3, hv => simp [DoB.row] at hv
  obtain ⟨ds, hl, hp⟩ := list_of hd
  refine ⟨a, n, c, ds, rfl, hl.symm, hn, hc, ReadsBy.mk (fun d => by simp [DoB.row]) (fun i d hid => (hp i d hid).1), fun d hdm => ?_⟩
  obtain ⟨i, hi, rfl⟩ := List.getElem_of_mem hdm
  exact (hp i _ (List.getElem?_eq_getElem hi)).2

/-- A map behind something that is done. -/
def doneB (b : Nat → Bool) (n : Nat) (d : DoB) : Nat → Bool := chgB b n d.frm d.num (!decide (d.kind = 1))

theorem c_doneB (m g n : Nat) (b : Nat → Bool) (w : World) (h : MapAt w m g n b) (d : DoB) (hd : d.ok) :
    Calls Try.prog 21 #[.pointer (some ⟨m, 0, none⟩), .agg #[.int .i64 d.kind, .int .i64 d.frm, .int .i64 d.num]] w fun e w' => (∃ x : Int, e = .returned (.int .i64 x)) ∧ MapAt w' m g n (doneB b n d) ∧ Upd [g] w w' := by
  obtain ⟨kd, f, q⟩ := d
  obtain ⟨⟨k0, k1⟩, ⟨f0, f1⟩, q0, q1⟩ := hd
  dsimp only at *
  have hm := h.head.lt
  have hg := h.data.lt
  have HH := Lib.hid (h.keep (l := []) ((Upd.refl _ _).alloc (.cells #[.int .i64 kd, .int .i64 f, .int .i64 q] 38)) (by simp) (by simp))
  clear h
  by_cases h1 : kd = 1
  · subst h1
    have HC := Lib.hid (c_Take m g n b _ HH.out f q f0 f1 q1)
    go_enter Try.func21, Try.ntmps21
    go_wp2_with fail
    refine HC.out.mono ?_
    rintro e w' ⟨rfl, h1, h2⟩
    have H1 := Lib.hid h1
    have H2 := Lib.hid (((Upd.refl [g] w).alloc (.cells #[.int .i64 1, .int .i64 f, .int .i64 q] 38)).trans h2)
    clear h1 h2
    go_wp2
    go_ret
    exact ⟨⟨_, rfl⟩, H1.out, H2.out⟩
  · have q2 : (kd == 1) = false := by simp [h1]
    have HC := Lib.hid (c_BFree m g n b _ HH.out f q f0 f1 q1)
    have hdb : doneB b n ⟨kd, f, q⟩ = chgB b n f q true := by unfold doneB; simp [h1]
    rw [hdb]
    clear h1 hdb
    go_enter Try.func21, Try.ntmps21
    go_wp2_with fail
    refine HC.out.mono ?_
    rintro e w' ⟨rfl, h1, h2⟩
    have H1 := Lib.hid h1
    have H2 := Lib.hid (((Upd.refl [g] w).alloc (.cells #[.int .i64 kd, .int .i64 f, .int .i64 q] 38)).trans h2)
    clear h1 h2
    go_wp2
    go_ret
    exact ⟨⟨_, rfl⟩, H1.out, H2.out⟩

instance (b : Nat → Bool) (N n a : Nat) : Decidable (FirstIs b N n (some a)) := by unfold FirstIs; exact inferInstance

theorem c_BNewYes (n : Nat) (w : World) (hn : n ≤ 65536) : Calls Try.prog 13 #[.int .i64 n] w fun e w' => ∃ m g, e = .returned (.tuple #[.pointer (some ⟨m, 0, none⟩), .int .i64 0]) ∧ w.heap.size ≤ m ∧ w.heap.size ≤ g ∧ MapAt w' m g n (fun _ => false) ∧ Upd [] w w' := by
  refine (c_BNew n w (by omega) (by omega)).mono ?_
  intro e w' h
  unfold BNewPost at h
  rw [if_neg (by omega), Int.toNat_natCast] at h
  exact h
theorem c_BNewNo (k : Int) (w : World) (h0 : -9223372036854775808 ≤ k) (h1 : k ≤ 9223372036854775807) (hk : k < 0 ∨ 65536 < k) : Calls Try.prog 13 #[.int .i64 k] w fun e w' => e = .returned (.tuple #[.pointer none, .int .i64 2]) ∧ w = w' := by
  refine (c_BNew k w h0 h1).mono ?_
  intro e w' h
  unfold BNewPost at h
  rw [if_pos hk] at h
  exact h

/-- Take, where what comes out is told. -/
theorem c_TakeTo (m g n : Nat) (b : Nat → Bool) (w : World) (h : MapAt w m g n b) (f q : Int) (hf0 : -9223372036854775808 ≤ f) (hf1 : f ≤ 9223372036854775807) (hq1 : q ≤ 9223372036854775807) (x : Int) (b' : Nat → Bool) (hx : chgE b n f q false 3 = x) (hb : chgB b n f q false = b') :
    Calls Try.prog 20 #[.pointer (some ⟨m, 0, none⟩), .int .i64 f, .int .i64 q] w fun e w' => e = .returned (.int .i64 x) ∧ MapAt w' m g n b' ∧ Upd [g] w w' := by
  subst hx; subst hb
  exact c_Take m g n b w h f q hf0 hf1 hq1

/-- First, where what comes out is told. -/
theorem c_FirstTo (m g n : Nat) (b : Nat → Bool) (w : World) (h : MapAt w m g n b) (q a : Nat) (hq : 1 ≤ q) (h1 : q ≤ 65536) (ha : FirstIs b n q (some a)) :
    Calls Try.prog 15 #[.pointer (some ⟨m, 0, none⟩), .int .i64 q] w fun e w' => e = .returned (.tuple #[.int .i64 a, .bool true]) ∧ w = w' := by
  refine (c_First m g n b w h q (by omega)).mono ?_
  rintro e w' ⟨⟨o, ho, rfl⟩, rfl⟩
  rcases ho with ⟨h0, _⟩ | ⟨_, h0⟩
  · omega
  · rw [Int.toNat_natCast] at h0
    rw [h0.eq ha]
    exact ⟨rfl, rfl⟩
theorem c_FirstNone (m g n : Nat) (b : Nat → Bool) (w : World) (h : MapAt w m g n b) (q : Nat) (hq : 1 ≤ q) (h1 : q ≤ 65536) (ha : FirstIs b n q none) :
    Calls Try.prog 15 #[.pointer (some ⟨m, 0, none⟩), .int .i64 q] w fun e w' => e = .returned (.tuple #[.int .i64 0, .bool false]) ∧ w = w' := by
  refine (c_First m g n b w h q (by omega)).mono ?_
  rintro e w' ⟨⟨o, ho, rfl⟩, rfl⟩
  rcases ho with ⟨h0, _⟩ | ⟨_, h0⟩
  · omega
  · rw [Int.toNat_natCast] at h0
    rw [h0.eq ha]
    exact ⟨rfl, rfl⟩

def kn1 : Nat → Bool := chgB (fun _ => false) 8 0 2 false
def kn2 : Nat → Bool := chgB kn1 8 3 1 false

theorem c_known02 (w : World) : Calls Try.prog 14 #[] w fun e w' => e = .returned (.bool true) ∧ Below w.heap.size w w' := by
  go_enter Try.func14, Try.ntmps14
  go_wp2_with fail
  refine (c_BNewYes 8 _ (by decide)).mono ?_
  rintro e w1 ⟨m, g, rfl, h1, h2, T1, U1⟩
  have HIN := Lib.hid (show ∀ k ∈ [g], w.heap.size ≤ k from fun k hk => by simp at hk; rw [hk]; exact h2)
  have HT1 := Lib.hid T1
  have HU1 := Lib.hid (U1.mono (m := [g]) (by simp))
  clear T1 U1 h1 h2
  go_wp2_with fail
  refine (c_TakeTo m g 8 _ _ HT1.out 0 2 (by decide) (by decide) (by decide) 0 kn1 (by decide) rfl).mono ?_
  rintro e w2 ⟨rfl, T2, U2⟩
  have HT2 := Lib.hid T2
  have HU2 := Lib.hid (HU1.out.trans U2)
  clear T2 U2 HT1 HU1
  go_wp2_with fail
  refine (c_TakeTo m g 8 _ _ HT2.out 3 1 (by decide) (by decide) (by decide) 0 kn2 (by decide) rfl).mono ?_
  rintro e w3 ⟨rfl, T3, U3⟩
  have HT3 := Lib.hid T3
  have HU3 := Lib.hid (HU2.out.trans U3)
  clear T3 U3 HT2 HU2
  go_wp2_with fail
  refine (c_FirstTo m g 8 _ _ HT3.out 1 2 (by decide) (by decide) (by decide)).mono ?_
  rintro e w' ⟨rfl, rfl⟩
  go_wp2_with fail
  refine (c_FirstTo m g 8 _ _ HT3.out 2 4 (by decide) (by decide) (by decide)).mono ?_
  rintro e w' ⟨rfl, rfl⟩
  go_wp2_with fail
  refine (c_flat m g 8 _ _ HT3.out).mono ?_
  rintro e w4 ⟨v, rfl, own, bel⟩
  rw [show flatR (runsR kn2 8) = [0, 2, 3, 1] from by decide] at own
  obtain ⟨a, c, rfl, hr, -, -⟩ := owns_reads own
  have HR := Lib.hid hr
  have HT4 := Lib.hid (HT3.out.keep (l := []) (.of_below bel) (by simp) (by simp))
  have HB4 := Lib.hid (bNext (HU3.out.below (Nat.le_refl _) HIN.out) bel)
  clear own bel hr HT3 HU3
  go_wp2_with fail
  refine (c_SameIntsYesB a _ _ c _ [0, 2, 3, 1] _ rfl (HR.out.alloc _) (Reads.madeAt rfl) (by decide)).mono ?_
  rintro e w5 ⟨rfl, bel⟩
  have HT5 := Lib.hid ((HT4.out.keep (l := []) ((Upd.refl _ _).alloc (.cells #[.int .i64 0, .int .i64 2, .int .i64 3, .int .i64 1] 3)) (by simp) (by simp)).keep (l := []) (.of_below bel) (by simp) (by simp))
  have HB5 := Lib.hid (bNext (bAlloc HB4.out (o := .cells #[.int .i64 0, .int .i64 2, .int .i64 3, .int .i64 1] 3)) bel)
  clear bel
  go_wp2_with fail
  refine (c_TakeNil _ _ _).mono ?_
  rintro e w' ⟨rfl, rfl⟩
  go_wp2_with fail
  refine (c_TakeTo m g 8 _ _ HT5.out 3 1 (by decide) (by decide) (by decide) 3 kn2 (by decide) (by unfold chgB; rw [if_neg (by decide)])).mono ?_
  rintro e w6 ⟨rfl, T6, U6⟩
  have HB6 := Lib.hid (HB5.out.trans (U6.below HB5.out.size HIN.out))
  clear T6 U6
  go_wp2
  go_ret
  exact ⟨rfl, HB6.out⟩

end Go.Proofs.Ytcecegcbkcdpjaa
