/-
  Contracts of package large: small (by ten). (Written by lggen.py.)
-/
import Derived.Test.YtdafncaehjipbaaLargeF
namespace Go.Proofs.Ytdafncaehjipbaa
open Go.RowKit Go.Shelf
set_option linter.unusedVariables false
set_option maxHeartbeats 2000000
set_option maxRecDepth 100000

attribute [local go_sem] Oper.semAt_some

/-! ### A region that draws its order, within a round -/

def noOut (Q : Exit → Act → World → Prop) : Exit → Act → World → Prop
  | .outgrown, _, _ => False
  | e, a, w => Q e a w
theorem noOut_to {Q : Exit → Act → World → Prop} : ∀ e a w, noOut Q e a w → Q e a w
  | .normal, _, _, h => h
  | .ret, _, _, h => h
  | .exit _, _, _, h => h
  | .goto _, _, _, h => h
  | .panic _, _, _, h => h
  | .outgrown, _, _, h => h.elim

theorem op_in {P : Program} {l n : Nat} {o : Oper} {a : Act} {w : World} {K : Act → World → Prop} {Q : Exit → Act → World → Prop} (hd : ∀ c, o.op ≠ .defer c) (h : o.wp P a w K Q) : o.wpIn (Fence.wide.inRound l) n P a w K Q := by
  refine ⟨fun _ _ => trivial, ?_⟩
  rw [Oper.semAt_eq _ _ _ hd]
  unfold Oper.wp at h
  generalize (execOp a.eval o).run P w = r at *
  cases r with
  | ok x w' =>
    cases x with
    | value v => exact h
    | skip => exact h
    | defer d => exact h
    | enter f args => exact ⟨fun hh => by simp [Fence.wide] at hh, CallsIn.inRound l (callsIn_wide.2 (Calls.mono h (fun e w'' he => by cases e <;> exact he)))⟩
    | row row args => exact ⟨fun hh => by simp [Fence.wide] at hh, fun c cs _ => let ⟨v, w', r, s⟩ := h c cs; ⟨v, w', r, stepsIn_wide.2 s⟩⟩
    | _ => exact h.elim
  | halt x w' => cases x <;> exact h

theorem opAt_in {P : Program} {l n i : Nat} {ops : Array Oper} {a : Act} {w : World} {K K' : Act → World → Prop} {Q : Exit → Act → World → Prop} (hd : ∀ (o : Oper), ops[i]? = some o → ∀ c, o.op ≠ .defer c) (hQ : ¬ LetsOut Q) (hK : ∀ a w, K a w → K' a w) (h : wpOp P ops Q i K a w) : wpOpIn (Fence.wide.inRound l) n P ops Q i K' a w := by
  unfold wpOp at h
  unfold wpOpIn
  cases ho : ops[i]? with
  | none => rw [ho] at h; exact hK _ _ h
  | some o =>
    rw [ho] at h
    dsimp only at h ⊢
    split
    · rename_i hw
      rw [if_pos hw] at h
      rcases h with h | h
      · exact Oper.wpIn_mono hK (op_in (hd o ho) h)
      · exact absurd h.2 hQ
    · rename_i hw
      rw [if_neg hw] at h
      exact ⟨fun _ _ => trivial, hK _ _ h⟩

theorem any_in {P : Program} {l n : Nat} {md : Region.Mode} {ops : Array Oper} {Q : Exit → Act → World → Prop} (hd : ∀ (i : Nat) (o : Oper), ops[i]? = some o → ∀ c, o.op ≠ .defer c) (hQ : ¬ LetsOut Q) : ∀ (fuel : Nat) (listed : Array Bool) (a : Act) (w : World), wpAny P md ops Q fuel listed a w → wpAnyIn (Fence.wide.inRound l) n P md ops Q fuel listed a w
  | 0, _, _, _, h => h
  | fuel + 1, listed, a, w, h => ⟨h.1, fun i hi => opAt_in (hd i) hQ (fun a w => any_in hd hQ fuel _ a w) (h.2 i hi)⟩

def noDefers (l : List Oper) : Bool := l.all (fun o => match o.op with | .defer _ => false | _ => true)

theorem wpIn_region_plan {P : Program} {Q : Exit → Act → World → Prop} {l n id : Nat} {a : Act} {w : World} {lst : List Oper} (S : World → Prop) (pl : List (Nat × Bool)) (hm : P.follows .mixedOrders = true)
    (hB : (noDefers lst && (Region.noSelect lst.toArray && (pl.length == lst.length) && planB .any lst.toArray pl (Array.replicate lst.length false))) = true)
    (hQ : ∀ c a d v w, noOut Q (.panic c) (Act.put a (some d) v) w → noOut Q (.panic c) a w) (hS : S w.drew)
    (h : wpPlanH P lst.toArray (noOut Q) S pl a w.drew) : (Code.region id lst.toArray true).wpIn (Fence.wide.inRound l) n P Q a w := by
  simp only [Bool.and_eq_true, beq_iff_eq] at hB
  obtain ⟨hnd, ⟨hs, hl⟩, hB⟩ := hB
  refine Code.wpIn_mono noOut_to (wpIn_region_any hm ?_)
  have h1 := wpAny_of_held _ _ _ _ (wpAny_of_planH (md := .any) hs hQ pl (Array.replicate lst.length false) a w.drew hB hS h)
  rw [hl] at h1
  have h2 := any_in (l := l) (n := n) (fun i o ho c hc => by
    have hmem : o ∈ lst := by
      have := Array.mem_of_getElem? ho
      simpa using this
    have := List.all_eq_true.1 hnd o hmem
    rw [hc] at this
    simp at this) (fun ⟨_, _, h⟩ => h) _ _ _ _ h1
  simpa using h2

theorem or_i64 {r c : Nat} (hr : r ≤ 9) (hc : c ≤ 255) : bits .or .i64 ((r : Int) * 256) (c : Int) = ((r * 256 + c : Nat) : Int) := by
  have key : ∀ r : Fin 10, ∀ c : Fin 256, bits .or .i64 ((r.val : Int) * 256) (c.val : Int) = ((r.val * 256 + c.val : Nat) : Int) := by decide +kernel
  exact key ⟨r, by omega⟩ ⟨c, by omega⟩

/-- A round of the division by ten. -/
def stepS (n : Nat) (s : Nat × List Int) (x : Nat × Int) : Nat × List Int :=
  ((s.1 * 256 + (x.2 % 256).toNat) % 10, s.2.set (x.1 % n) (((s.1 * 256 + (x.2 % 256).toNat) / 10 : Nat) : Int))
def foldS (n : Nat) (pre : List (Nat × Int)) : Nat × List Int := pre.foldl (stepS n) (0, List.replicate n 0)
theorem foldS_snoc (n : Nat) (pre : List (Nat × Int)) (x : Nat × Int) : foldS n (pre ++ [x]) = stepS n (foldS n pre) x := by simp [foldS]
theorem foldS_le (n : Nat) : ∀ pre : List (Nat × Int), (foldS n pre).1 ≤ 9 := fun pre => by
  rcases List.eq_nil_or_concat pre with rfl | ⟨q, x, rfl⟩
  · exact Nat.zero_le _
  · rw [List.concat_eq_append, foldS_snoc]; unfold stepS; dsimp only; omega
theorem foldS_all (n : Nat) : ∀ (k : Nat) (pre : List (Nat × Int)), pre.length = k → (foldS n pre).2.length = n ∧ Byt (foldS n pre).2
  | 0, pre, h => by
    obtain rfl := List.eq_nil_of_length_eq_zero h
    exact ⟨List.length_replicate, byt_zeros _⟩
  | k + 1, pre, h => by
    rcases List.eq_nil_or_concat pre with rfl | ⟨q, x, rfl⟩
    · simp at h
    · rw [List.concat_eq_append] at h ⊢
      obtain ⟨h1, h2⟩ := foldS_all n k q (by simpa using h)
      rw [foldS_snoc]
      unfold stepS
      dsimp only
      have hr := foldS_le n q
      refine ⟨by rw [List.length_set]; exact h1, byt_set h2 _ ?_⟩
      have : (x.2 % 256).toNat ≤ 255 := by omega
      omega
theorem foldS_ok (n k : Nat) (f : Nat → Nat × Int) : (foldS n (upto f k)).2.length = n ∧ Byt (foldS n (upto f k)).2 := foldS_all n _ _ rfl
theorem row_kept {A B : World} {g : Nat} {t : TypeId} {xs : List Value} {row : Option Nat} (h : Row A g t xs) (hg : A.grownBy B row) (hr : ∀ r, row = some r → ∃ o, A.heap[r]? = some o ∧ o.isCells = false) : Row B g t xs :=
  (hg.block g h.lt (fun e => by
    obtain ⟨o, ho, hc⟩ := hr g e.symm
    unfold Row at h
    rw [h] at ho
    cases ho
    simp [Obj.isCells] at hc)).trans h

theorem val_drop {l : List Int} {i : Nat} (h : i < l.length) : valI (l.drop i) = dg l i + 256 * valI (l.drop (i + 1)) := by
  rw [List.drop_eq_getElem_cons h, valI]
  unfold dg
  rw [List.getD_eq_getElem?_getD, List.getElem?_eq_getElem h]; rfl

theorem foldS_val {zs : List Int} (hb : Byt zs) : ∀ k, k ≤ zs.length → (foldS zs.length (upto (backAt zs) k)).1 = valI (zs.drop (zs.length - k)) % 10 ∧ valI ((foldS zs.length (upto (backAt zs) k)).2.drop (zs.length - k)) = valI (zs.drop (zs.length - k)) / 10
  | 0, _ => by
    simp only [upto, List.range_zero, List.map_nil, foldS, List.foldl_nil, Nat.sub_zero]
    rw [List.drop_of_length_le (Nat.le_refl _), List.drop_of_length_le (by simp)]
    exact ⟨rfl, rfl⟩
  | k + 1, h => by
    obtain ⟨h1, h2⟩ := foldS_val hb k (by omega)
    obtain ⟨g1, g2⟩ := foldS_ok zs.length k (backAt zs)
    rw [upto_succ, foldS_snoc]
    obtain ⟨j, hj⟩ : ∃ j, zs.length = j + 1 + k := ⟨zs.length - 1 - k, by omega⟩
    have e1 : zs.length - (k + 1) = j := by omega
    have e2 : zs.length - k = j + 1 := by omega
    have e3 : backAt zs k = (j, zs[j]?.getD 0) := by unfold backAt; rw [show zs.length - 1 - k = j from by omega]
    have hbj := byte_at hb j
    have hdg : ((zs[j]?.getD 0) % 256).toNat = dg zs j := by unfold dg; rw [List.getD_eq_getElem?_getD, Int.emod_eq_of_lt hbj.1 (by omega)]
    rw [e2] at h1 h2
    rw [e1, e3, val_drop (show j < zs.length by omega)]
    unfold stepS
    dsimp only
    rw [hdg, h1, Nat.mod_eq_of_lt (show j < zs.length by omega)]
    generalize (foldS zs.length (upto (backAt zs) k)).2 = o at *
    have hx := dg_le hb j
    generalize dg zs j = c at *
    generalize valI (zs.drop (j + 1)) = H at *
    refine ⟨by omega, ?_⟩
    rw [val_drop (by rw [List.length_set]; omega)]
    have hd : dg (o.set j (((H % 10 * 256 + c) / 10 : Nat) : Int)) j = (H % 10 * 256 + c) / 10 := by
      unfold dg
      rw [List.getD_eq_getElem?_getD, List.getElem?_set_self (by omega)]
      simp
      omega
    have hdr : (o.set j (((H % 10 * 256 + c) / 10 : Nat) : Int)).drop (j + 1) = o.drop (j + 1) := List.drop_set_of_lt (by omega)
    rw [hd, hdr, h2]
    omega

theorem c_small (a : Option Addr) (n c : Nat) (l : List Int) (w : World) (e0 : n = l.length) (h0 : Reads w a c (l.map (Value.int .u8))) (b0 : Byt l) (hc0 : n ≤ c) (hm0 : n ≤ 100000) :
    Calls Try.prog 51 #[.slice a n c, .int .i64 10] w fun e w' => ∃ b k d, e = .returned (.tuple #[.slice b k d, .int .i64 ((valI l % 10 : Nat) : Int)]) ∧ NumAt w' b k d (valI l / 10) ∧ (∀ x, b = some x → w.heap.size ≤ x.block) ∧ Below w.heap.size w w' := by
  have HH := Lib.hid (And.intro h0 (And.intro b0 (And.intro e0 hc0)))
  clear h0 b0 e0 hc0
  refine (callsIn_wide (n := 6)).1 ?_
  refine callsIn_of_wp_marks Try.func51 rfl trivial ?_ rfl
  simp only [Try.ntmps51, List.size_toArray, List.length_cons, List.length_nil, Nat.reduceAdd, Nat.reduceSub, Array.replicate_succ, Array.replicate_zero, List.push_toArray, List.append_toArray, List.nil_append, List.cons_append]
  refine wpIn_wide.2 (Code.wp_mono noPanic_to ?_)
  go_wp2_with (at_make; refine wpList_mk rfl _ _ 22 rfl 5 (.int .u8 0) 1 Try.underlying22 inf_u8L rfl .i64 .i64 _ _ n rfl rfl rfl rfl (by omega) (by unfold maxLen; omega) ?_)
  intro w1 row1 upd1
  obtain ⟨g, hg⟩ : ∃ g, g = w.heap.size + 1 := ⟨_, rfl⟩
  obtain ⟨q3, hq3⟩ : ∃ g, g = w.heap.size := ⟨_, rfl⟩
  have row1' : Row w1 g 5 (List.replicate n (.int .u8 0)) := by rw [hg]; simpa using row1
  have hs1 := row1'.lt
  have c3 : w1.cell? ⟨q3, 0, none⟩ = some (.int .i64 10) := by
    have := (Row.made w [.int .i64 10] 3).keep upd1 (by simp)
    rw [hq3]; exact Row.cell this (i := 0) rfl
  have b1 : Below w.heap.size w w1 := ((Below.refl _ w).alloc (Nat.le_refl _) _).trans (upd1.below (by simp) (by simp))
  have HG := Lib.hid (And.intro hg (And.intro hq3 hs1))
  have HB1 := Lib.hid b1
  have HRW := Lib.hid row1'
  have HC3 := Lib.hid c3
  rw [← hg, ← hq3]
  clear row1 upd1 row1' hs1 c3 b1 hg hq3
  go_wp2_with fail
  refine ((callsIn_wide (n := 5)).1 (back_in Fence.wide 5 trivial rfl a n c _)).mono ?_
  rintro e w5' ⟨rfl, rfl⟩
  obtain ⟨w4, hw4⟩ : ∃ z, z = ((w1.alloc (.cells #[.slice (some ⟨g, 0, none⟩) n n] 22)).alloc (.cells #[.int .i64 0] 3)) := ⟨_, rfl⟩
  obtain ⟨q6, hq6⟩ : ∃ z, z = w1.heap.size := ⟨_, rfl⟩
  obtain ⟨q7, hq7⟩ : ∃ z, z = w1.heap.size + 1 := ⟨_, rfl⟩
  have b4 : Below w1.heap.size w1 w4 := by rw [hw4]; exact bAlloc ((Below.refl _ w1).alloc (Nat.le_refl _) _)
  have s4 : w4.heap.size = w1.heap.size + 2 := by rw [hw4]; simp
  have r6 : Row w4 q6 22 [.slice (some ⟨g, 0, none⟩) n n] := by rw [hw4, hq6]; exact (Row.made w1 _ _).alloc _
  have r7 : Row w4 q7 3 [.int .i64 0] := by
    rw [hw4, hq7]
    have := Row.made (w1.alloc (.cells #[.slice (some ⟨g, 0, none⟩) n n] 22)) [.int .i64 0] 3
    simpa using this
  rw [← hw4, ← hq7, ← hq6]
  obtain ⟨Bs, hBs⟩ : ∃ z, z = w4.heap.size := ⟨_, rfl⟩
  obtain ⟨w5, hw5⟩ : ∃ z, z = w4.alloc (.cells #[.slice a n c] 22) := ⟨_, rfl⟩
  have b5 : Below w4.heap.size w4 w5 := by rw [hw5]; exact (Below.refl _ w4).alloc (Nat.le_refl _) _
  have s5 : w5.heap.size = w1.heap.size + 3 := by rw [hw5]; simp [s4]
  have cB : w5.cell? ⟨Bs, 0, none⟩ = some (.slice a n c) := by
    have := (Row.made w4 [.slice a n c] 22).cell (i := 0) rfl
    rw [hw5, hBs]; exact this
  have hBe : Bs = w1.heap.size + 2 := by rw [hBs]; exact s4
  have R6 : Row w5 q6 22 [.slice (some ⟨g, 0, none⟩) n n] := (b5.block _ r6.lt).trans r6
  have R7 : Row w5 q7 3 [.int .i64 0] := (b5.block _ r7.lt).trans r7
  have RG : Row w5 g 5 (List.replicate n (.int .u8 0)) := (b5.block _ (by have := HG.out; omega)).trans ((b4.block _ HG.out.2.2).trans HRW.out)
  have C3 : w5.cell? ⟨q3, 0, none⟩ = some (.int .i64 10) := cellKeep b5 (cellKeep b4 HC3.out)
  have hsz := HB1.out.size
  have B5 : Below w.heap.size w w5 := (HB1.out.trans (b4.mono hsz)).trans (b5.mono (by omega))
  have HQ := Lib.hid (show q3 = w.heap.size ∧ g = w.heap.size + 1 ∧ q6 = w1.heap.size ∧ q7 = w1.heap.size + 1 ∧ Bs = w1.heap.size + 2 ∧ w.heap.size + 2 ≤ w1.heap.size ∧ w5.heap.size = w1.heap.size + 3 from ⟨HG.out.2.1, HG.out.1, hq6, hq7, hBe, by have := HG.out; omega, s5⟩)
  rw [← hw5, ← hBs]
  clear hw4 hq6 hq7 b4 s4 r6 r7 hBs hw5 b5 s5 hBe HRW HC3
  go_wp2
  refine (wpIn_wide (n := 6)).1 ?_
  refine wpIn_rangeFunc_ownG rfl (by omega) (gf := 53) (lb := #[.pointer (some ⟨Bs, 0, none⟩)]) rfl trivial (enters_of Try.func53 (by kernel_rfl) rfl)
    (back_stops Fence.wide 5 trivial rfl (by omega) Bs w.heap.size n c a l HH.out.2.2.1 (by omega) w5 (by have := HQ.out; omega) (by have := HQ.out; omega) cB w HH.out.1 (Nat.le_refl _) (HH.out.1.below B5) HH.out.2.1) (fun h k => KpB.trans h k) (kpB_b (by have := HQ.out; omega) (by have := HQ.out; omega)) (Below.refl _ _) (fun _ => rfl)
    (fun pre W => (Row W q7 3 [.int .i64 (((foldS n pre).1 : Nat) : Int)] ∧ Row W g 5 ((foldS n pre).2.map (Value.int .u8)) ∧ W.cell? ⟨q6, 0, none⟩ = some (.slice (some ⟨g, 0, none⟩) n n) ∧ W.cell? ⟨q3, 0, none⟩ = some (.int .i64 10)) ∧ Below w.heap.size w W)
    (fun _ _ _ => False)
    (OwnFrom.and (Own.from (fun s A B row hs hg hr => ⟨row_kept hs.1 hg hr, row_kept hs.2.1 hg hr, cell_kept hs.2.2.1 hg hr, cell_kept hs.2.2.2 hg hr⟩) _) (ownFrom_below (Nat.le_refl _) (by have := HQ.out; omega)))
    (fun _ _ _ _ _ hs _ _ => hs)
    ⟨⟨by simpa [foldS] using R7, by simpa [foldS] using RG, R6.cell (i := 0) rfl, C3⟩, B5⟩
    (fun x => { tmps := #[.slice a n c, .int .i64 10, undef, .pointer (some ⟨q3, 0, none⟩), .slice none 0 0, .int .i64 0, .pointer (some ⟨q6, 0, none⟩), .pointer (some ⟨q7, 0, none⟩), .int .i64 ((x.1 : Int) % (n : Int)), .int .u8 (x.2 % 256), .slice a n c, .int .i64 n, .slice (some ⟨g, 0, none⟩) n n, .slice a n c, .func (.func 53) #[] #[.pointer (some ⟨Bs, 0, none⟩)], .int .i64 ((x.1 : Int) % (n : Int)), .int .u8 (x.2 % 256), undef, undef, undef, undef, undef, undef, undef, undef, undef, undef, undef, undef, undef, undef, undef, undef, undef, undef], defers := [] }) ?assign ?body ?done ?stop
  case assign =>
    intro l x W K hK
    gi_wp2
    exact hK
  case body =>
    rintro l2 pre x W ⟨⟨R7', RG', c6, c3⟩, hBW⟩ hlt
    have hpos : 0 < n := by omega
    have hi : x.1 % n < n := Nat.mod_lt _ hpos
    have hr := foldS_le n pre
    obtain ⟨hol, hob⟩ := foldS_all n _ pre rfl
    have HS := Lib.hid (foldS_snoc n pre x)
    obtain ⟨i, hie⟩ : ∃ i, i = x.1 % n := ⟨_, rfl⟩
    have hcast : ((x.1 : Int) % (n : Int)) = (i : Int) := by rw [hie]; simp
    obtain ⟨d, hde⟩ : ∃ d, d = (x.2 % 256).toNat := ⟨_, rfl⟩
    have hdc : x.2 % 256 = (d : Int) := by omega
    have hd : d ≤ 255 := by omega
    unfold stepS at HS
    rw [← hde, ← hie] at HS
    rw [hcast, hdc]
    rw [← hie] at hi
    generalize (foldS n pre).1 = r at *
    generalize (foldS n pre).2 = o at *
    have hor := or_i64 hr hd
    have c7 := R7'.cell (i := 0) rfl
    have f7 := R7'.free 0
    have fg := RG'.free i
    obtain ⟨old, cg⟩ : ∃ old, W.cell? ⟨g, i, none⟩ = some old := ⟨_, RG'.cell (List.getElem?_eq_getElem (by rw [List.length_map, hol]; exact hi))⟩
    have HR := Lib.hid (And.intro R7' RG')
    have HI := Lib.hid (And.intro hol hob)
    have HQ2 := Lib.hid (show q7 ≠ g ∧ q7 ≠ q6 ∧ q7 ≠ q3 from by have := HQ.out; omega)
    clear hcast hdc hde hie hlt hol hob R7' RG' hsz C3 RG R6 R7 cB
    gi_wp2
    obtain ⟨T, hT⟩ : ∃ T, T = r * 256 + d := ⟨_, rfl⟩
    have hTc : ((r : Int) * 256 + (d : Int)) = (T : Int) := by omega
    have hTb : T ≤ 2559 := by omega
    try rw [hTc]
    obtain ⟨W2, hW2⟩ : ∃ z, z = W.setCell ⟨q7, 0, none⟩ (.int .i64 (T : Int)) := ⟨_, rfl⟩
    have S7 : Row W2 q7 3 [.int .i64 (T : Int)] := by rw [hW2]; exact HR.out.1.set 0 _
    have SG : Row W2 g 5 (o.map (Value.int .u8)) := by rw [hW2]; exact HR.out.2.setOther (p := ⟨q7, 0, none⟩) (by show q7 ≠ g; exact HQ2.out.1) _
    have d6 : W2.cell? ⟨q6, 0, none⟩ = some (.slice (some ⟨g, 0, none⟩) n n) := by
      rw [hW2, World.cell?_of_block (Below.heap_setCell _ _ _ _ (Ne.symm HQ2.out.2.1))]; exact c6
    have d3 : W2.cell? ⟨q3, 0, none⟩ = some (.int .i64 10) := by
      rw [hW2, World.cell?_of_block (Below.heap_setCell _ _ _ _ (Ne.symm HQ2.out.2.2))]; exact c3
    have d7 := S7.cell (i := 0) rfl
    have g7 := S7.free 0
    have eg := SG.free i
    have dg2 : W2.cell? ⟨g, i, none⟩ = some old := by
      rw [hW2, World.cell?_of_block (Below.heap_setCell _ _ _ _ (Ne.symm HQ2.out.1))]; exact cg
    have HW2 := Lib.hid hW2
    rw [← hW2]
    have HT := Lib.hid hT
    clear hW2 c7 f7 fg cg c6 c3 hT hTc hor
    have htd : (T : Int).tdiv 10 = ((T / 10 : Nat) : Int) := by rw [Int.tdiv_eq_ediv_of_nonneg (by omega)]; omega
    have htm : (T : Int).tmod 10 = ((T % 10 : Nat) : Int) := by rw [Int.tmod_eq_emod_of_nonneg (by omega)]; omega
    refine wpIn_region_plan (fun z => z.cell? ⟨q6, 0, none⟩ = some (.slice (some ⟨g, 0, none⟩) n n) ∧ z.cell? ⟨q7, 0, none⟩ = some (.int .i64 (T : Int)) ∧ z.cell? ⟨q3, 0, none⟩ = some (.int .i64 10)) [(0, true), (1, true), (2, true), (3, true), (4, true), (5, true), (6, true), (7, false)] (by kernel_rfl) (by kernel_rfl) (fun _ _ _ _ _ h => h) ⟨d6, d7, d3⟩ ?_
    refine wpPlanH_load (.slice (some ⟨g, 0, none⟩) n n) rfl rfl (fun z hS => by have s1 := hS.1; go_simp) (fun K hK => ?_)
    refine hK _ ?_
    clear hK K
    (repeat (refine wpPlanH_free rfl (fun K hK => ?_); go_simp; (try go_bits); refine hK _ ?_; clear hK K))
    refine wpPlanH_load (.int .i64 (T : Int)) rfl rfl (fun z hS => by have s1 := hS.2.1; go_simp) (fun K hK => ?_)
    refine hK _ ?_
    clear hK K
    refine wpPlanH_load (.int .i64 10) rfl rfl (fun z hS => by have s1 := hS.2.2; go_simp) (fun K hK => ?_)
    refine hK _ ?_
    clear hK K
    (repeat (refine wpPlanH_free rfl (fun K hK => ?_); go_simp; (try go_bits); refine hK _ ?_; clear hK K))
    have E7 : Hid (Row W2.drew q7 3 [.int .i64 (T : Int)]) := S7
    have EG : Hid (Row W2.drew g 5 (o.map (Value.int .u8))) := SG
    have hdw : Hid (∀ p, W2.drew.cell? p = W2.cell? p) := fun p => rfl
    have e6 : W2.drew.cell? ⟨q6, 0, none⟩ = some (.slice (some ⟨g, 0, none⟩) n n) := d6
    have e3 : W2.drew.cell? ⟨q3, 0, none⟩ = some (.int .i64 10) := d3
    have eg2 : W2.drew.cell? ⟨g, i, none⟩ = some old := dg2
    have efg : W2.drew.frozen? ⟨g, i, none⟩ = false := eg
    have HBW2 : Hid (Below w.heap.size w W2.drew) := by
      have : Below w.heap.size w W2 := by rw [HW2.out]; exact hBW.setCell (p := ⟨q7, 0, none⟩) (by show w.heap.size ≤ q7; have := HQ.out; omega) _
      exact bDrew this
    have HKF : Hid (KeepsFrom w5.heap.size W W2.drew) := by
      have : KeepsOthers W W2 := by rw [HW2.out]; exact KeepsOthers.setCell _ _ _
      exact (this.trans (KeepsOthers.drew W2)).from _
    have HKP : Hid (KpB w.heap.size Bs W W2.drew) := by
      rw [HW2.out]
      have hb := (Below.refl w.heap.size W).setCell (p := ⟨q7, 0, none⟩) (by show w.heap.size ≤ q7; have := HQ.out; omega) (.int .i64 (T : Int))
      exact ⟨⟨hb.os, hb.tape, hb.output, hb.size, hb.block⟩, by simp [World.setCell], fun _ => Below.heap_setCell _ _ _ _ (by show Bs ≠ q7; have := HQ.out; omega)⟩
    clear S7 SG d6 d3 dg2 eg d7 g7 hdw
    generalize W2.drew = W3 at *
    refine wpPlanH_sole rfl ?_
    go_wp2
    have k6 : q6 ≠ g := by have := HQ.out; have := HG.out; omega
    have k3 : q3 ≠ g := by have := HQ.out; omega
    obtain ⟨W4, hW4⟩ : ∃ z, z = W3.setCell ⟨g, i, none⟩ (.int .u8 ((T : Int) / 10)) := ⟨_, rfl⟩
    have F7 : Row W4 q7 3 [.int .i64 (T : Int)] := by rw [hW4]; exact E7.out.setOther (p := ⟨g, i, none⟩) (by show g ≠ q7; exact Ne.symm HQ2.out.1) _
    have FG : Hid (Row W4 g 5 ((o.set i ((T / 10 : Nat) : Int)).map (Value.int .u8))) := by
      rw [hW4, show (T : Int) / 10 = ((T / 10 : Nat) : Int) from by omega]
      exact row_put EG.out i _
    have f6 : W4.cell? ⟨q6, 0, none⟩ = some (.slice (some ⟨g, 0, none⟩) n n) := by
      rw [hW4, World.cell?_of_block (Below.heap_setCell _ _ _ _ k6)]; exact e6
    have f3 : W4.cell? ⟨q3, 0, none⟩ = some (.int .i64 10) := by
      rw [hW4, World.cell?_of_block (Below.heap_setCell _ _ _ _ k3)]; exact e3
    have f7 := F7.cell (i := 0) rfl
    have h7 := F7.free 0
    have HF := Lib.hid (And.intro hW4 (And.intro F7 (And.intro f6 f3)))
    rw [← hW4]
    clear hW4 F7 e6 e3 eg2 efg k6 k3
    refine ⟨⟨f6, f7, f3⟩, ?_⟩
    refine wpPlanH_nil ?_
    dsimp only [noOut]
    gi_wp2
    obtain ⟨W5, hW5⟩ : ∃ z, z = W4.setCell ⟨q7, 0, none⟩ (.int .i64 ((T % 10 : Nat) : Int)) := ⟨_, rfl⟩
    have hmodc : (T : Int) % 10 = ((T % 10 : Nat) : Int) := by omega
    try rw [hmodc]
    rw [← hW5]
    have G7 : Row W5 q7 3 [.int .i64 ((T % 10 : Nat) : Int)] := by rw [hW5]; exact HF.out.2.1.set 0 _
    have GG : Row W5 g 5 ((o.set i ((T / 10 : Nat) : Int)).map (Value.int .u8)) := by rw [hW5]; exact FG.out.setOther (p := ⟨q7, 0, none⟩) (by show q7 ≠ g; exact HQ2.out.1) _
    have G6 : W5.cell? ⟨q6, 0, none⟩ = some (.slice (some ⟨g, 0, none⟩) n n) := by
      rw [hW5, World.cell?_of_block (Below.heap_setCell _ _ _ _ (Ne.symm HQ2.out.2.1))]; exact HF.out.2.2.1
    have G3 : W5.cell? ⟨q3, 0, none⟩ = some (.int .i64 10) := by
      rw [hW5, World.cell?_of_block (Below.heap_setCell _ _ _ _ (Ne.symm HQ2.out.2.2))]; exact HF.out.2.2.2
    have hq := HQ.out
    have KF : KeepsFrom w5.heap.size W W5 := by
      rw [hW5, HF.out.1]
      exact HKF.out.trans (((KeepsOthers.setCell _ _ _).trans (KeepsOthers.setCell _ _ _)).from _)
    have KB : KpB w.heap.size Bs W W5 := by
      rw [hW5, HF.out.1]
      refine KpB.trans HKP.out (KpB.trans (B := W3.setCell ⟨g, i, none⟩ (.int .u8 ((T : Int) / 10))) ?_ ?_)
      · exact ⟨(Below.refl w.heap.size W3).setCell (p := ⟨g, i, none⟩) (by show w.heap.size ≤ g; omega) _, by simp [World.setCell], fun _ => Below.heap_setCell _ _ _ _ (by show Bs ≠ g; have := HG.out; omega)⟩
      · exact ⟨(Below.refl w.heap.size _).setCell (p := ⟨q7, 0, none⟩) (by show w.heap.size ≤ q7; omega) _, by simp [World.setCell], fun _ => Below.heap_setCell _ _ _ _ (by show Bs ≠ q7; omega)⟩
    refine ⟨KF, KB, ⟨?_, ?_, G6, G3⟩, hBW.trans KB.1⟩
    · rw [HS.out, ← HT.out]; exact G7
    · rw [HS.out, ← HT.out]; exact GG
  case done =>
    rintro D2 ys W hD2 rfl ⟨⟨R7', RG', c6, c3⟩, hBW⟩ hK
    have hnl := HH.out.2.2.1
    have hfv := foldS_val HH.out.2.1 l.length (Nat.le_refl _)
    rw [← hnl, Nat.sub_self, List.drop_zero, List.drop_zero] at hfv
    obtain ⟨hol, hob⟩ := foldS_ok n n (backAt l)
    obtain ⟨o, ho⟩ : ∃ o, o = (foldS n (upto (backAt l) n)).2 := ⟨_, rfl⟩
    obtain ⟨rr, hrr⟩ : ∃ rr, rr = valI l % 10 := ⟨_, rfl⟩
    rw [hfv.1, ← hrr] at R7'
    have HRR := Lib.hid hrr
    clear hrr
    rw [← ho] at RG' hol hob hfv
    have c7 := R7'.cell (i := 0) rfl
    have HCT := Lib.hid (c_cut (some ⟨g, 0, none⟩) n n o W.drew hol.symm (row_reads (show Row W.drew g 5 (o.map (Value.int .u8)) from RG') n) hob (Nat.le_refl _) (by omega))
    have HK := Lib.hid hK
    have HDD := Lib.hid (show w.heap.size ≤ D2 from by have := HQ.out; omega)
    have HRG := Lib.hid RG'
    have HO := Lib.hid (And.intro hol (And.intro hob hfv.2))
    have HBW := Lib.hid (bDrew hBW)
    clear hsz C3 RG R6 R7 cB hnl hfv hol hob ho R7' RG' hK hBW c3 hD2
    go_wp2
    refine wp_region_planH (fun z => z.cell? ⟨q6, 0, none⟩ = some (.slice (some ⟨g, 0, none⟩) n n) ∧ z.cell? ⟨q7, 0, none⟩ = some (.int .i64 (rr : Int))) [(0, true), (2, true), (1, false), (3, true), (4, true)] (by kernel_rfl) (by kernel_rfl) (fun _ _ _ _ _ h => h) ⟨c6, c7⟩ ?_
    refine wpPlanH_load (.slice (some ⟨g, 0, none⟩) n n) rfl rfl (fun z hS => by have s1 := hS.1; go_simp) (fun K hK => ?_)
    refine hK _ ?_
    clear hK K
    refine wpPlanH_load (.int .i64 (rr : Int)) rfl rfl (fun z hS => by have s1 := hS.2; go_simp) (fun K hK => ?_)
    refine hK _ ?_
    clear hK K
    have e6 : W.drew.cell? ⟨q6, 0, none⟩ = some (.slice (some ⟨g, 0, none⟩) n n) := c6
    have e7 : W.drew.cell? ⟨q7, 0, none⟩ = some (.int .i64 (rr : Int)) := c7
    have hK2 : Hid (W.drew.heap[D2]? = some (.deferred (some []))) := HK.out
    have RG2 : Hid (Row W.drew g 5 (o.map (Value.int .u8))) := HRG.out
    clear c6 c7 HK HRG
    generalize W.drew = W2 at *
    refine wpPlanH_sole rfl ?_
    go_wp2_with fail
    refine HCT.out.mono ?_
    rintro e w' ⟨⟨q, rfl, hq⟩, rfl⟩
    go_wp2
    refine ⟨⟨e6, e7⟩, ?_⟩
    (repeat (refine wpPlanH_free rfl (fun K hK => ?_); go_simp; (try go_bits); refine hK _ ?_; clear hK K))
    refine wpPlanH_nil ?_
    go_wp2
    refine ⟨by simp, .inl ⟨_, _, rfl, run_takeDeferred hK2.out, ?_⟩⟩
    have hgr := grownBy_putObj' W2 D2 (.deferred none)
    have RG3 := row_kept RG2.out hgr (fun r e => by cases e; exact ⟨_, hK2.out, rfl⟩)
    have hnum := numAt_of (row_reads RG3 n) HO.out.2.1 (by rw [HO.out.1]; omega)
    rw [HO.out.2.2] at hnum
    have hql : q = (digs (valI l / 10)).length := by rw [← HO.out.2.2]; exact hq.1
    rw [← hql] at hnum
    refine ⟨.tuple #[.slice (some ⟨g, 0, none⟩) q q, .int .i64 (rr : Int)], ?_, _, q, q, by rw [HRR.out], hnum, (by intro x hx; cases hx; show w.heap.size ≤ g; have := HG.out; omega), HBW.out.trans (belowK_b (w := w) (Nat.le_refl _) _ D2 _ _ HDD.out hK2.out rfl rfl)⟩
    simp [results, Try.f51]
  case stop =>
    rintro D2 cc pre W hD2 _ h _
    exact h.elim

end Go.Proofs.Ytdafncaehjipbaa
