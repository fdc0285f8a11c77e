/-
  The document's answer of chapter 20: Step. (Written by rstepgen.py.)
-/
import Derived.Test.YtbkaafbkmcgfjaaSchedZ
namespace Go.Proofs.Ytbkaafbkmcgfjaa
open Go.RowKit
set_option linter.unusedVariables false
set_option maxHeartbeats 8000000
set_option maxRecDepth 20000

theorem results_cell3 {fn : Func} {p a b : Tmp} {ty : TypeId} (h : fn.results = #[.cell p ty, .tmp a, .tmp b]) (tmps : Array Value) (P : Program) (w : World) :
    (results fn tmps).run P w = ((asAddr (tmps.getD p undef)).run P w).andThen fun ad w₁ => ((loadVar ty ad).run P w₁).andThen fun v w₂ => .ok (.tuple #[v, tmps.getD a undef, tmps.getD b undef]) w₂ := by
  simp only [results, h]
  simp [Sem.run_bind, Result.andThen]

/-- What comes back of a step. -/
def NewAt (w : World) (a b : Option Addr) (n : Nat) : Prop := ∀ y, b = some y → a = some y ∨ (w.heap.size ≤ y.block ∧ 0 < n)
theorem nextRF_len : ∀ (i : Nat) (x : RS), (nextRF i x).P.length = x.P.length
  | 0, x => rfl
  | i + 1, x => by
    unfold nextRF
    split
    · split
      · exact nextRF_len i x
      · exact put_len _ _ _
    · rfl
theorem nextR_len (x : RS) : (nextR x).P.length = x.P.length := nextRF_len 8 x
theorem suspR_len (x : RS) (k : Nat) : (suspR x k).P.length = x.P.length := by
  unfold suspR; rw [nextR_len, put_len]
theorem madeR_len (x : RS) (k : Nat) : (madeR x k).P.length = x.P.length := by
  unfold madeR
  split
  · rw [put_len, put_len]
  · split
    · rw [put_len, put_len, put_len]
    · rw [put_len]
def StPost (a1 a2 : Option Addr) (x' : RS) (V E : Int) (w : World) (e : Ending) (w' : World) : Prop :=
  ∃ b1 d1 b2 d2, e = .returned (.tuple #[refV b1 d1 b2 d2 x', .int .i64 V, .int .i64 E]) ∧ RefV w' b1 d1 b2 d2 x' ∧ Below w.heap.size w w' ∧ NewAt w a1 b1 x'.P.length ∧ NewAt w a2 b2 x'.sems.length

theorem Fr.start3 {w : World} {a1 a2 : Option Addr} {c1 c2 : Nat} {x : RS} (h : RefV w a1 c1 a2 c2 x) (k n : Int) :
    Fr w (((w.alloc (.cells #[.slice a1 x.P.length c1, .slice a2 x.sems.length c2, .int .i64 x.now] 41)).alloc (.cells #[.int .i64 k, .int .i64 n] 44)).alloc (.cells #[.slice none 0 0, .slice none 0 0, .int .i64 0] 41)) w.heap.size (w.heap.size + 2) a1 c1 a2 c2 x := by
  have hb : Below w.heap.size w (((w.alloc (.cells #[.slice a1 x.P.length c1, .slice a2 x.sems.length c2, .int .i64 x.now] 41)).alloc (.cells #[.int .i64 k, .int .i64 n] 44)).alloc (.cells #[.slice none 0 0, .slice none 0 0, .int .i64 0] 41)) := (((Below.refl _ _).alloc (Nat.le_refl _) _).alloc (by simp) _).alloc (by simp; omega) _
  refine ⟨((Row.made w (refC a1 c1 a2 c2 x) 41).alloc _).alloc _, ?_, h.below hb, h.off (fun k hk => by simp at hk; omega), hb, rfl, by omega⟩
  have := Row.made ((w.alloc (.cells #[.slice a1 x.P.length c1, .slice a2 x.sems.length c2, .int .i64 x.now] 41)).alloc (.cells #[.int .i64 k, .int .i64 n] 44)) [.slice none 0 0, .slice none 0 0, .int .i64 0] 41
  simpa using this

section
variable {w : World} {a1 a2 : Option Addr} {c1 c2 : Nat} {x : RS}

theorem st_1a (h : RefV w a1 c1 a2 c2 x) (hn : x.P.length ≤ 100) (hm : x.sems.length ≤ 100) (hnow : x.now ≤ 990000) (n A : Int) (hA : ((actR x : Nat) : Int) = A) (h1 : n < 1) :
    Calls Try.prog 22 #[refV a1 c1 a2 c2 x, .agg #[.int .i64 (1), .int .i64 (n)]] w (StPost a1 a2 x 0 2 w) := by
  obtain ⟨W, hW⟩ : ∃ W, W = ((w.alloc (.cells #[.slice a1 x.P.length c1, .slice a2 x.sems.length c2, .int .i64 x.now] 41)).alloc (.cells #[.int .i64 (1), .int .i64 (n)] 44)).alloc (.cells #[.slice none 0 0, .slice none 0 0, .int .i64 0] 41) := ⟨_, rfl⟩
  have hF := Fr.start3 h (1) (n)
  have hD : Row W (w.heap.size + 1) 44 [.int .i64 (1), .int .i64 (n)] := by
    rw [hW]
    have := (Row.made (w.alloc (.cells #[.slice a1 x.P.length c1, .slice a2 x.sems.length c2, .int .i64 x.now] 41)) [.int .i64 (1), .int .i64 (n)] 44).alloc (.cells #[.slice none 0 0, .slice none 0 0, .int .i64 0] 41)
    simpa using this
  rw [← hW] at hF
  have HW := Lib.hid hW
  obtain ⟨q0, hq0⟩ : ∃ q, q = w.heap.size := ⟨_, rfl⟩
  obtain ⟨qd, hqd⟩ : ∃ q, q = w.heap.size + 1 := ⟨_, rfl⟩
  obtain ⟨q1, hq1⟩ : ∃ q, q = w.heap.size + 2 := ⟨_, rfl⟩
  have HQ0 := Lib.hid hq0
  have HQ1 := Lib.hid hq1
  have HQD := Lib.hid hqd
  rw [← hq1, ← hq0] at hF
  rw [← hqd] at hD
  have HF := Lib.hid hF
  have HD := Lib.hid hD
  have HA := Lib.hid (c_rActive hF.v hn)
  unfold refV at HA
  rw [hA] at HA
  clear h hW hF hD hq0 hq1 hqd
  unfold refV
  go_enter Try.func22, Try.ntmps22
  go_wp2_with fail
  rw [← HW.out, ← HQ1.out, ← HQD.out, ← HQ0.out]
  refine HA.out.mono ?_
  rintro e v3 ⟨rfl, b3⟩
  have HF := Lib.hid (HF.out.below b3)
  have HD := Lib.hid (HD.out.keep (l := []) (.of_below b3) (by simp))
  clear b3 HA
  have k0 := HF.out.r0.cell (i := 0) rfl
  have k1 := HF.out.r0.cell (i := 1) rfl
  have k2 := HF.out.r0.cell (i := 2) rfl
  have d0 := HD.out.cell (i := 0) rfl
  have d1 := HD.out.cell (i := 1) rfl
  have y0 := HF.out.r1.cell (i := 0) rfl
  have y1 := HF.out.r1.cell (i := 1) rfl
  have y2 := HF.out.r1.cell (i := 2) rfl
  have g0 := HF.out.r1.free 0
  have g1 := HF.out.r1.free 1
  have g2 := HF.out.r1.free 2
  go_wp2
  obtain ⟨w9, hw9⟩ : ∃ zw, zw = ((v3.setCell ⟨q1, 0, none⟩ (.slice a1 (x).P.length c1)).setCell ⟨q1, 1, none⟩ (.slice a2 (x).sems.length c2)).setCell ⟨q1, 2, none⟩ (.int .i64 (x).now) := ⟨_, rfl⟩
  have fin := HF.out.fin (b' := a1) (d' := c1) (a' := a2) (c' := c2) (z := x) (Below.refl _ _) HF.out.v HF.out.o
  rw [← hw9] at fin ⊢
  have HFI := Lib.hid fin
  have z0 := fin.r.cell (i := 0) rfl
  have z1 := fin.r.cell (i := 1) rfl
  have z2 := fin.r.cell (i := 2) rfl
  clear hw9 fin
  (try simp only [Exit.inBlock, Exit.then, Exit.noGoto])
  refine bodyPost_ret (by rw [results_cell3 rfl]; go_simp; rfl) rfl ?_
  exact ⟨_, _, _, _, rfl, HFI.out.v, HFI.out.b, fun y hy => .inl hy, fun y hy => .inl hy⟩

theorem st_1b (h : RefV w a1 c1 a2 c2 x) (hn : x.P.length ≤ 100) (hm : x.sems.length ≤ 100) (hnow : x.now ≤ 990000) (n A : Int) (hA : ((actR x : Nat) : Int) = A) (h1 : 8 < n) :
    Calls Try.prog 22 #[refV a1 c1 a2 c2 x, .agg #[.int .i64 (1), .int .i64 (n)]] w (StPost a1 a2 x 0 2 w) := by
  obtain ⟨W, hW⟩ : ∃ W, W = ((w.alloc (.cells #[.slice a1 x.P.length c1, .slice a2 x.sems.length c2, .int .i64 x.now] 41)).alloc (.cells #[.int .i64 (1), .int .i64 (n)] 44)).alloc (.cells #[.slice none 0 0, .slice none 0 0, .int .i64 0] 41) := ⟨_, rfl⟩
  have hF := Fr.start3 h (1) (n)
  have hD : Row W (w.heap.size + 1) 44 [.int .i64 (1), .int .i64 (n)] := by
    rw [hW]
    have := (Row.made (w.alloc (.cells #[.slice a1 x.P.length c1, .slice a2 x.sems.length c2, .int .i64 x.now] 41)) [.int .i64 (1), .int .i64 (n)] 44).alloc (.cells #[.slice none 0 0, .slice none 0 0, .int .i64 0] 41)
    simpa using this
  rw [← hW] at hF
  have HW := Lib.hid hW
  obtain ⟨q0, hq0⟩ : ∃ q, q = w.heap.size := ⟨_, rfl⟩
  obtain ⟨qd, hqd⟩ : ∃ q, q = w.heap.size + 1 := ⟨_, rfl⟩
  obtain ⟨q1, hq1⟩ : ∃ q, q = w.heap.size + 2 := ⟨_, rfl⟩
  have HQ0 := Lib.hid hq0
  have HQ1 := Lib.hid hq1
  have HQD := Lib.hid hqd
  rw [← hq1, ← hq0] at hF
  rw [← hqd] at hD
  have HF := Lib.hid hF
  have HD := Lib.hid hD
  have HA := Lib.hid (c_rActive hF.v hn)
  unfold refV at HA
  rw [hA] at HA
  clear h hW hF hD hq0 hq1 hqd
  unfold refV
  go_enter Try.func22, Try.ntmps22
  go_wp2_with fail
  rw [← HW.out, ← HQ1.out, ← HQD.out, ← HQ0.out]
  refine HA.out.mono ?_
  rintro e v3 ⟨rfl, b3⟩
  have HF := Lib.hid (HF.out.below b3)
  have HD := Lib.hid (HD.out.keep (l := []) (.of_below b3) (by simp))
  clear b3 HA
  have k0 := HF.out.r0.cell (i := 0) rfl
  have k1 := HF.out.r0.cell (i := 1) rfl
  have k2 := HF.out.r0.cell (i := 2) rfl
  have d0 := HD.out.cell (i := 0) rfl
  have d1 := HD.out.cell (i := 1) rfl
  have y0 := HF.out.r1.cell (i := 0) rfl
  have y1 := HF.out.r1.cell (i := 1) rfl
  have y2 := HF.out.r1.cell (i := 2) rfl
  have g0 := HF.out.r1.free 0
  have g1 := HF.out.r1.free 1
  have g2 := HF.out.r1.free 2
  go_wp2
  obtain ⟨w9, hw9⟩ : ∃ zw, zw = ((v3.setCell ⟨q1, 0, none⟩ (.slice a1 (x).P.length c1)).setCell ⟨q1, 1, none⟩ (.slice a2 (x).sems.length c2)).setCell ⟨q1, 2, none⟩ (.int .i64 (x).now) := ⟨_, rfl⟩
  have fin := HF.out.fin (b' := a1) (d' := c1) (a' := a2) (c' := c2) (z := x) (Below.refl _ _) HF.out.v HF.out.o
  rw [← hw9] at fin ⊢
  have HFI := Lib.hid fin
  have z0 := fin.r.cell (i := 0) rfl
  have z1 := fin.r.cell (i := 1) rfl
  have z2 := fin.r.cell (i := 2) rfl
  clear hw9 fin
  (try simp only [Exit.inBlock, Exit.then, Exit.noGoto])
  refine bodyPost_ret (by rw [results_cell3 rfl]; go_simp; rfl) rfl ?_
  exact ⟨_, _, _, _, rfl, HFI.out.v, HFI.out.b, fun y hy => .inl hy, fun y hy => .inl hy⟩

theorem st_1c (h : RefV w a1 c1 a2 c2 x) (hn : x.P.length ≤ 100) (hm : x.sems.length ≤ 100) (hnow : x.now ≤ 990000) (n A : Int) (hA : ((actR x : Nat) : Int) = A) (h1 : 1 ≤ n) (h8 : n ≤ 8) (hf : 100 ≤ x.P.length) :
    Calls Try.prog 22 #[refV a1 c1 a2 c2 x, .agg #[.int .i64 (1), .int .i64 (n)]] w (StPost a1 a2 x 0 3 w) := by
  obtain ⟨W, hW⟩ : ∃ W, W = ((w.alloc (.cells #[.slice a1 x.P.length c1, .slice a2 x.sems.length c2, .int .i64 x.now] 41)).alloc (.cells #[.int .i64 (1), .int .i64 (n)] 44)).alloc (.cells #[.slice none 0 0, .slice none 0 0, .int .i64 0] 41) := ⟨_, rfl⟩
  have hF := Fr.start3 h (1) (n)
  have hD : Row W (w.heap.size + 1) 44 [.int .i64 (1), .int .i64 (n)] := by
    rw [hW]
    have := (Row.made (w.alloc (.cells #[.slice a1 x.P.length c1, .slice a2 x.sems.length c2, .int .i64 x.now] 41)) [.int .i64 (1), .int .i64 (n)] 44).alloc (.cells #[.slice none 0 0, .slice none 0 0, .int .i64 0] 41)
    simpa using this
  rw [← hW] at hF
  have HW := Lib.hid hW
  obtain ⟨q0, hq0⟩ : ∃ q, q = w.heap.size := ⟨_, rfl⟩
  obtain ⟨qd, hqd⟩ : ∃ q, q = w.heap.size + 1 := ⟨_, rfl⟩
  obtain ⟨q1, hq1⟩ : ∃ q, q = w.heap.size + 2 := ⟨_, rfl⟩
  have HQ0 := Lib.hid hq0
  have HQ1 := Lib.hid hq1
  have HQD := Lib.hid hqd
  rw [← hq1, ← hq0] at hF
  rw [← hqd] at hD
  have HF := Lib.hid hF
  have HD := Lib.hid hD
  have HA := Lib.hid (c_rActive hF.v hn)
  unfold refV at HA
  rw [hA] at HA
  clear h hW hF hD hq0 hq1 hqd
  unfold refV
  go_enter Try.func22, Try.ntmps22
  go_wp2_with fail
  rw [← HW.out, ← HQ1.out, ← HQD.out, ← HQ0.out]
  refine HA.out.mono ?_
  rintro e v3 ⟨rfl, b3⟩
  have HF := Lib.hid (HF.out.below b3)
  have HD := Lib.hid (HD.out.keep (l := []) (.of_below b3) (by simp))
  clear b3 HA
  have hf2 : (100 : Int) ≤ (x.P.length : Int) := by omega
  have k0 := HF.out.r0.cell (i := 0) rfl
  have k1 := HF.out.r0.cell (i := 1) rfl
  have k2 := HF.out.r0.cell (i := 2) rfl
  have d0 := HD.out.cell (i := 0) rfl
  have d1 := HD.out.cell (i := 1) rfl
  have y0 := HF.out.r1.cell (i := 0) rfl
  have y1 := HF.out.r1.cell (i := 1) rfl
  have y2 := HF.out.r1.cell (i := 2) rfl
  have g0 := HF.out.r1.free 0
  have g1 := HF.out.r1.free 1
  have g2 := HF.out.r1.free 2
  go_wp2
  obtain ⟨w9, hw9⟩ : ∃ zw, zw = ((v3.setCell ⟨q1, 0, none⟩ (.slice a1 (x).P.length c1)).setCell ⟨q1, 1, none⟩ (.slice a2 (x).sems.length c2)).setCell ⟨q1, 2, none⟩ (.int .i64 (x).now) := ⟨_, rfl⟩
  have fin := HF.out.fin (b' := a1) (d' := c1) (a' := a2) (c' := c2) (z := x) (Below.refl _ _) HF.out.v HF.out.o
  rw [← hw9] at fin ⊢
  have HFI := Lib.hid fin
  have z0 := fin.r.cell (i := 0) rfl
  have z1 := fin.r.cell (i := 1) rfl
  have z2 := fin.r.cell (i := 2) rfl
  clear hw9 fin
  (try simp only [Exit.inBlock, Exit.then, Exit.noGoto])
  refine bodyPost_ret (by rw [results_cell3 rfl]; go_simp; rfl) rfl ?_
  exact ⟨_, _, _, _, rfl, HFI.out.v, HFI.out.b, fun y hy => .inl hy, fun y hy => .inl hy⟩

theorem st_2a (h : RefV w a1 c1 a2 c2 x) (hn : x.P.length ≤ 100) (hm : x.sems.length ≤ 100) (hnow : x.now ≤ 990000) (n : Int) (A : Int) (hA : ((actR x : Nat) : Int) = A) (h1 : n < 1) :
    Calls Try.prog 22 #[refV a1 c1 a2 c2 x, .agg #[.int .i64 (2), .int .i64 (n)]] w (StPost a1 a2 x 0 4 w) := by
  obtain ⟨W, hW⟩ : ∃ W, W = ((w.alloc (.cells #[.slice a1 x.P.length c1, .slice a2 x.sems.length c2, .int .i64 x.now] 41)).alloc (.cells #[.int .i64 (2), .int .i64 (n)] 44)).alloc (.cells #[.slice none 0 0, .slice none 0 0, .int .i64 0] 41) := ⟨_, rfl⟩
  have hF := Fr.start3 h (2) (n)
  have hD : Row W (w.heap.size + 1) 44 [.int .i64 (2), .int .i64 (n)] := by
    rw [hW]
    have := (Row.made (w.alloc (.cells #[.slice a1 x.P.length c1, .slice a2 x.sems.length c2, .int .i64 x.now] 41)) [.int .i64 (2), .int .i64 (n)] 44).alloc (.cells #[.slice none 0 0, .slice none 0 0, .int .i64 0] 41)
    simpa using this
  rw [← hW] at hF
  have HW := Lib.hid hW
  obtain ⟨q0, hq0⟩ : ∃ q, q = w.heap.size := ⟨_, rfl⟩
  obtain ⟨qd, hqd⟩ : ∃ q, q = w.heap.size + 1 := ⟨_, rfl⟩
  obtain ⟨q1, hq1⟩ : ∃ q, q = w.heap.size + 2 := ⟨_, rfl⟩
  have HQ0 := Lib.hid hq0
  have HQ1 := Lib.hid hq1
  have HQD := Lib.hid hqd
  rw [← hq1, ← hq0] at hF
  rw [← hqd] at hD
  have HF := Lib.hid hF
  have HD := Lib.hid hD
  have HA := Lib.hid (c_rActive hF.v hn)
  unfold refV at HA
  rw [hA] at HA
  clear h hW hF hD hq0 hq1 hqd
  unfold refV
  go_enter Try.func22, Try.ntmps22
  go_wp2_with fail
  rw [← HW.out, ← HQ1.out, ← HQD.out, ← HQ0.out]
  refine HA.out.mono ?_
  rintro e v3 ⟨rfl, b3⟩
  have HF := Lib.hid (HF.out.below b3)
  have HD := Lib.hid (HD.out.keep (l := []) (.of_below b3) (by simp))
  clear b3 HA
  have k0 := HF.out.r0.cell (i := 0) rfl
  have k1 := HF.out.r0.cell (i := 1) rfl
  have k2 := HF.out.r0.cell (i := 2) rfl
  have d0 := HD.out.cell (i := 0) rfl
  have d1 := HD.out.cell (i := 1) rfl
  have y0 := HF.out.r1.cell (i := 0) rfl
  have y1 := HF.out.r1.cell (i := 1) rfl
  have y2 := HF.out.r1.cell (i := 2) rfl
  have g0 := HF.out.r1.free 0
  have g1 := HF.out.r1.free 1
  have g2 := HF.out.r1.free 2
  go_wp2
  obtain ⟨w9, hw9⟩ : ∃ zw, zw = ((v3.setCell ⟨q1, 0, none⟩ (.slice a1 (x).P.length c1)).setCell ⟨q1, 1, none⟩ (.slice a2 (x).sems.length c2)).setCell ⟨q1, 2, none⟩ (.int .i64 (x).now) := ⟨_, rfl⟩
  have fin := HF.out.fin (b' := a1) (d' := c1) (a' := a2) (c' := c2) (z := x) (Below.refl _ _) HF.out.v HF.out.o
  rw [← hw9] at fin ⊢
  have HFI := Lib.hid fin
  have z0 := fin.r.cell (i := 0) rfl
  have z1 := fin.r.cell (i := 1) rfl
  have z2 := fin.r.cell (i := 2) rfl
  clear hw9 fin
  (try simp only [Exit.inBlock, Exit.then, Exit.noGoto])
  refine bodyPost_ret (by rw [results_cell3 rfl]; go_simp; rfl) rfl ?_
  exact ⟨_, _, _, _, rfl, HFI.out.v, HFI.out.b, fun y hy => .inl hy, fun y hy => .inl hy⟩

theorem st_2b (h : RefV w a1 c1 a2 c2 x) (hn : x.P.length ≤ 100) (hm : x.sems.length ≤ 100) (hnow : x.now ≤ 990000) (n : Int) (A : Int) (hA : ((actR x : Nat) : Int) = A) (h1 : (x.P.length : Int) < n) (h2 : 1 ≤ n) :
    Calls Try.prog 22 #[refV a1 c1 a2 c2 x, .agg #[.int .i64 (2), .int .i64 (n)]] w (StPost a1 a2 x 0 4 w) := by
  obtain ⟨W, hW⟩ : ∃ W, W = ((w.alloc (.cells #[.slice a1 x.P.length c1, .slice a2 x.sems.length c2, .int .i64 x.now] 41)).alloc (.cells #[.int .i64 (2), .int .i64 (n)] 44)).alloc (.cells #[.slice none 0 0, .slice none 0 0, .int .i64 0] 41) := ⟨_, rfl⟩
  have hF := Fr.start3 h (2) (n)
  have hD : Row W (w.heap.size + 1) 44 [.int .i64 (2), .int .i64 (n)] := by
    rw [hW]
    have := (Row.made (w.alloc (.cells #[.slice a1 x.P.length c1, .slice a2 x.sems.length c2, .int .i64 x.now] 41)) [.int .i64 (2), .int .i64 (n)] 44).alloc (.cells #[.slice none 0 0, .slice none 0 0, .int .i64 0] 41)
    simpa using this
  rw [← hW] at hF
  have HW := Lib.hid hW
  obtain ⟨q0, hq0⟩ : ∃ q, q = w.heap.size := ⟨_, rfl⟩
  obtain ⟨qd, hqd⟩ : ∃ q, q = w.heap.size + 1 := ⟨_, rfl⟩
  obtain ⟨q1, hq1⟩ : ∃ q, q = w.heap.size + 2 := ⟨_, rfl⟩
  have HQ0 := Lib.hid hq0
  have HQ1 := Lib.hid hq1
  have HQD := Lib.hid hqd
  rw [← hq1, ← hq0] at hF
  rw [← hqd] at hD
  have HF := Lib.hid hF
  have HD := Lib.hid hD
  have HA := Lib.hid (c_rActive hF.v hn)
  unfold refV at HA
  rw [hA] at HA
  clear h hW hF hD hq0 hq1 hqd
  unfold refV
  go_enter Try.func22, Try.ntmps22
  go_wp2_with fail
  rw [← HW.out, ← HQ1.out, ← HQD.out, ← HQ0.out]
  refine HA.out.mono ?_
  rintro e v3 ⟨rfl, b3⟩
  have HF := Lib.hid (HF.out.below b3)
  have HD := Lib.hid (HD.out.keep (l := []) (.of_below b3) (by simp))
  clear b3 HA
  have k0 := HF.out.r0.cell (i := 0) rfl
  have k1 := HF.out.r0.cell (i := 1) rfl
  have k2 := HF.out.r0.cell (i := 2) rfl
  have d0 := HD.out.cell (i := 0) rfl
  have d1 := HD.out.cell (i := 1) rfl
  have y0 := HF.out.r1.cell (i := 0) rfl
  have y1 := HF.out.r1.cell (i := 1) rfl
  have y2 := HF.out.r1.cell (i := 2) rfl
  have g0 := HF.out.r1.free 0
  have g1 := HF.out.r1.free 1
  have g2 := HF.out.r1.free 2
  go_wp2
  obtain ⟨w9, hw9⟩ : ∃ zw, zw = ((v3.setCell ⟨q1, 0, none⟩ (.slice a1 (x).P.length c1)).setCell ⟨q1, 1, none⟩ (.slice a2 (x).sems.length c2)).setCell ⟨q1, 2, none⟩ (.int .i64 (x).now) := ⟨_, rfl⟩
  have fin := HF.out.fin (b' := a1) (d' := c1) (a' := a2) (c' := c2) (z := x) (Below.refl _ _) HF.out.v HF.out.o
  rw [← hw9] at fin ⊢
  have HFI := Lib.hid fin
  have z0 := fin.r.cell (i := 0) rfl
  have z1 := fin.r.cell (i := 1) rfl
  have z2 := fin.r.cell (i := 2) rfl
  clear hw9 fin
  (try simp only [Exit.inBlock, Exit.then, Exit.noGoto])
  refine bodyPost_ret (by rw [results_cell3 rfl]; go_simp; rfl) rfl ?_
  exact ⟨_, _, _, _, rfl, HFI.out.v, HFI.out.b, fun y hy => .inl hy, fun y hy => .inl hy⟩

theorem st_2c (h : RefV w a1 c1 a2 c2 x) (hn : x.P.length ≤ 100) (hm : x.sems.length ≤ 100) (hnow : x.now ≤ 990000) (j : Nat) (A : Int) (hA : ((actR x : Nat) : Int) = A) (hj : j < x.P.length) (hw : (gP x j).wh ≠ 0) :
    Calls Try.prog 22 #[refV a1 c1 a2 c2 x, .agg #[.int .i64 (2), .int .i64 ((j : Int) + 1)]] w (StPost a1 a2 x 0 2 w) := by
  obtain ⟨W, hW⟩ : ∃ W, W = ((w.alloc (.cells #[.slice a1 x.P.length c1, .slice a2 x.sems.length c2, .int .i64 x.now] 41)).alloc (.cells #[.int .i64 (2), .int .i64 ((j : Int) + 1)] 44)).alloc (.cells #[.slice none 0 0, .slice none 0 0, .int .i64 0] 41) := ⟨_, rfl⟩
  have hF := Fr.start3 h (2) ((j : Int) + 1)
  have hD : Row W (w.heap.size + 1) 44 [.int .i64 (2), .int .i64 ((j : Int) + 1)] := by
    rw [hW]
    have := (Row.made (w.alloc (.cells #[.slice a1 x.P.length c1, .slice a2 x.sems.length c2, .int .i64 x.now] 41)) [.int .i64 (2), .int .i64 ((j : Int) + 1)] 44).alloc (.cells #[.slice none 0 0, .slice none 0 0, .int .i64 0] 41)
    simpa using this
  rw [← hW] at hF
  have HW := Lib.hid hW
  obtain ⟨q0, hq0⟩ : ∃ q, q = w.heap.size := ⟨_, rfl⟩
  obtain ⟨qd, hqd⟩ : ∃ q, q = w.heap.size + 1 := ⟨_, rfl⟩
  obtain ⟨q1, hq1⟩ : ∃ q, q = w.heap.size + 2 := ⟨_, rfl⟩
  have HQ0 := Lib.hid hq0
  have HQ1 := Lib.hid hq1
  have HQD := Lib.hid hqd
  rw [← hq1, ← hq0] at hF
  rw [← hqd] at hD
  have HF := Lib.hid hF
  have HD := Lib.hid hD
  have HA := Lib.hid (c_rActive hF.v hn)
  unfold refV at HA
  rw [hA] at HA
  clear h hW hF hD hq0 hq1 hqd
  unfold refV
  go_enter Try.func22, Try.ntmps22
  go_wp2_with fail
  rw [← HW.out, ← HQ1.out, ← HQD.out, ← HQ0.out]
  refine HA.out.mono ?_
  rintro e v3 ⟨rfl, b3⟩
  have HF := Lib.hid (HF.out.below b3)
  have HD := Lib.hid (HD.out.keep (l := []) (.of_below b3) (by simp))
  clear b3 HA
  have e1 : (j : Int) + 1 - 1 = j := by omega
  obtain ⟨pb, po, rfl, hpb, hpc⟩ := HF.out.v.at (by omega)
  have p1 := (hpc j hj).2.1
  generalize (gP x j).wh = y at *
  have hyN : (y = 0) = False := eq_false hw
  have hyF : ((y : Int) = 0) = False := eq_false (by omega)
  have hyb : ((y : Int) == 0) = false := by simp; omega
  clear hpc hw
  have k0 := HF.out.r0.cell (i := 0) rfl
  have k1 := HF.out.r0.cell (i := 1) rfl
  have k2 := HF.out.r0.cell (i := 2) rfl
  have d0 := HD.out.cell (i := 0) rfl
  have d1 := HD.out.cell (i := 1) rfl
  go_wp2_with fail
  refine wp_region_planH (fun z => z.cell? ⟨q0, 0, none⟩ = some (.slice (some ⟨pb, po, none⟩) x.P.length c1) ∧ z.cell? ⟨qd, 0, none⟩ = some (.int .i64 2) ∧ z.cell? ⟨qd, 1, none⟩ = some (.int .i64 ((j : Int) + 1)) ∧ z.cell? ⟨pb, po + j * 3 + 1, none⟩ = some (.int .i64 y)) [(0, true), (1, true), (2, true), (3, true), (4, true), (5, true), (6, true), (7, true), (8, true), (9, true), (10, true), (11, true), (12, true)] (by kernel_rfl) (by kernel_rfl) (fun _ _ _ _ _ h => h) ⟨k0, d0, d1, p1⟩ ?_
  (repeat (refine wpPlanH_free rfl (fun K hK => ?_); go_simp; (try go_bits); refine hK _ ?_; clear hK K))
  refine wpPlanH_load (.slice (some ⟨pb, po, none⟩) x.P.length c1) rfl rfl (fun x hS => by obtain ⟨s0, s1, s2, s3⟩ := hS; go_simp) (fun K hK => ?_)
  refine hK _ ?_
  clear hK K
  (repeat (refine wpPlanH_free rfl (fun K hK => ?_); go_simp; (try go_bits); refine hK _ ?_; clear hK K))
  refine wpPlanH_load (.int .i64 ((j : Int) + 1)) rfl rfl (fun x hS => by obtain ⟨s0, s1, s2, s3⟩ := hS; go_simp) (fun K hK => ?_)
  refine hK _ ?_
  clear hK K
  (repeat (refine wpPlanH_free rfl (fun K hK => ?_); go_simp; (try go_bits); refine hK _ ?_; clear hK K))
  refine wpPlanH_load (.int .i64 y) rfl rfl (fun x hS => by obtain ⟨s0, s1, s2, s3⟩ := hS; go_simp) (fun K hK => ?_)
  refine hK _ ?_
  clear hK K
  (repeat (refine wpPlanH_free rfl (fun K hK => ?_); go_simp; (try go_bits); refine hK _ ?_; clear hK K))
  refine wpPlanH_load (.int .i64 2) rfl rfl (fun x hS => by obtain ⟨s0, s1, s2, s3⟩ := hS; go_simp) (fun K hK => ?_)
  refine hK _ ?_
  clear hK K
  (repeat (refine wpPlanH_free rfl (fun K hK => ?_); go_simp; (try go_bits); refine hK _ ?_; clear hK K))
  refine wpPlanH_nil ?_
  have hFd : Fr w v3.drew q0 q1 _ _ _ _ _ := HF.out.below (bDrew (Below.refl _ _))
  have hDd : Row v3.drew qd 44 _ := HD.out.keep (l := []) (.of_below (bDrew (Below.refl _ v3))) (by simp)
  generalize v3.drew = vd at *
  have HF := Lib.hid hFd
  have HD := Lib.hid hDd
  clear p1 hFd hDd k0 k1 k2 d0 d1
  have k0 := HF.out.r0.cell (i := 0) rfl
  have k1 := HF.out.r0.cell (i := 1) rfl
  have k2 := HF.out.r0.cell (i := 2) rfl
  have d0 := HD.out.cell (i := 0) rfl
  have d1 := HD.out.cell (i := 1) rfl
  have y0 := HF.out.r1.cell (i := 0) rfl
  have y1 := HF.out.r1.cell (i := 1) rfl
  have y2 := HF.out.r1.cell (i := 2) rfl
  have g0 := HF.out.r1.free 0
  have g1 := HF.out.r1.free 1
  have g2 := HF.out.r1.free 2
  go_wp2
  obtain ⟨w9, hw9⟩ : ∃ zw, zw = ((vd.setCell ⟨q1, 0, none⟩ (.slice (some ⟨pb, po, none⟩) (x).P.length c1)).setCell ⟨q1, 1, none⟩ (.slice a2 (x).sems.length c2)).setCell ⟨q1, 2, none⟩ (.int .i64 (x).now) := ⟨_, rfl⟩
  have fin := HF.out.fin (b' := (some ⟨pb, po, none⟩)) (d' := c1) (a' := a2) (c' := c2) (z := x) (Below.refl _ _) HF.out.v HF.out.o
  rw [← hw9] at fin ⊢
  have HFI := Lib.hid fin
  have z0 := fin.r.cell (i := 0) rfl
  have z1 := fin.r.cell (i := 1) rfl
  have z2 := fin.r.cell (i := 2) rfl
  clear hw9 fin
  (try simp only [Exit.inBlock, Exit.then, Exit.noGoto])
  refine bodyPost_ret (by rw [results_cell3 rfl]; go_simp; rfl) rfl ?_
  exact ⟨_, _, _, _, rfl, HFI.out.v, HFI.out.b, fun y hy => .inl hy, fun y hy => .inl hy⟩

theorem st_2d (h : RefV w a1 c1 a2 c2 x) (hn : x.P.length ≤ 100) (hm : x.sems.length ≤ 100) (hnow : x.now ≤ 990000) (j : Nat) (A : Int) (hA : ((actR x : Nat) : Int) = A) (hj : j < x.P.length) (hw : (gP x j).wh = 0) (hms : (madeR x j).sems = x.sems) :
    Calls Try.prog 22 #[refV a1 c1 a2 c2 x, .agg #[.int .i64 (2), .int .i64 ((j : Int) + 1)]] w (StPost a1 a2 (madeR x j) 0 0 w) := by
  obtain ⟨W, hW⟩ : ∃ W, W = ((w.alloc (.cells #[.slice a1 x.P.length c1, .slice a2 x.sems.length c2, .int .i64 x.now] 41)).alloc (.cells #[.int .i64 (2), .int .i64 ((j : Int) + 1)] 44)).alloc (.cells #[.slice none 0 0, .slice none 0 0, .int .i64 0] 41) := ⟨_, rfl⟩
  have hF := Fr.start3 h (2) ((j : Int) + 1)
  have hD : Row W (w.heap.size + 1) 44 [.int .i64 (2), .int .i64 ((j : Int) + 1)] := by
    rw [hW]
    have := (Row.made (w.alloc (.cells #[.slice a1 x.P.length c1, .slice a2 x.sems.length c2, .int .i64 x.now] 41)) [.int .i64 (2), .int .i64 ((j : Int) + 1)] 44).alloc (.cells #[.slice none 0 0, .slice none 0 0, .int .i64 0] 41)
    simpa using this
  rw [← hW] at hF
  have HW := Lib.hid hW
  obtain ⟨q0, hq0⟩ : ∃ q, q = w.heap.size := ⟨_, rfl⟩
  obtain ⟨qd, hqd⟩ : ∃ q, q = w.heap.size + 1 := ⟨_, rfl⟩
  obtain ⟨q1, hq1⟩ : ∃ q, q = w.heap.size + 2 := ⟨_, rfl⟩
  have HQ0 := Lib.hid hq0
  have HQ1 := Lib.hid hq1
  have HQD := Lib.hid hqd
  rw [← hq1, ← hq0] at hF
  rw [← hqd] at hD
  have HF := Lib.hid hF
  have HD := Lib.hid hD
  have HA := Lib.hid (c_rActive hF.v hn)
  unfold refV at HA
  rw [hA] at HA
  clear h hW hF hD hq0 hq1 hqd
  unfold refV
  go_enter Try.func22, Try.ntmps22
  go_wp2_with fail
  rw [← HW.out, ← HQ1.out, ← HQD.out, ← HQ0.out]
  refine HA.out.mono ?_
  rintro e v3 ⟨rfl, b3⟩
  have HF := Lib.hid (HF.out.below b3)
  have HD := Lib.hid (HD.out.keep (l := []) (.of_below b3) (by simp))
  clear b3 HA
  have HMS := Lib.hid hms
  clear hms
  have HMD := Lib.hid (c_rMade ((HF.out.below (bDrew (Below.refl _ v3))).v) hn (by omega) j hj)
  have e1 : (j : Int) + 1 - 1 = j := by omega
  obtain ⟨pb, po, rfl, hpb, hpc⟩ := HF.out.v.at (by omega)
  have p1 : v3.cell? ⟨pb, po + j * 3 + 1, none⟩ = some (.int .i64 0) := by have := (hpc j hj).2.1; rw [hw] at this; exact this
  clear hpc hw
  have k0 := HF.out.r0.cell (i := 0) rfl
  have k1 := HF.out.r0.cell (i := 1) rfl
  have k2 := HF.out.r0.cell (i := 2) rfl
  have d0 := HD.out.cell (i := 0) rfl
  have d1 := HD.out.cell (i := 1) rfl
  go_wp2_with fail
  refine wp_region_planH (fun z => z.cell? ⟨q0, 0, none⟩ = some (.slice (some ⟨pb, po, none⟩) x.P.length c1) ∧ z.cell? ⟨qd, 0, none⟩ = some (.int .i64 2) ∧ z.cell? ⟨qd, 1, none⟩ = some (.int .i64 ((j : Int) + 1)) ∧ z.cell? ⟨pb, po + j * 3 + 1, none⟩ = some (.int .i64 0)) [(0, true), (1, true), (2, true), (3, true), (4, true), (5, true), (6, true), (7, true), (8, true), (9, true), (10, true), (11, true), (12, true)] (by kernel_rfl) (by kernel_rfl) (fun _ _ _ _ _ h => h) ⟨k0, d0, d1, p1⟩ ?_
  (repeat (refine wpPlanH_free rfl (fun K hK => ?_); go_simp; (try go_bits); refine hK _ ?_; clear hK K))
  refine wpPlanH_load (.slice (some ⟨pb, po, none⟩) x.P.length c1) rfl rfl (fun x hS => by obtain ⟨s0, s1, s2, s3⟩ := hS; go_simp) (fun K hK => ?_)
  refine hK _ ?_
  clear hK K
  (repeat (refine wpPlanH_free rfl (fun K hK => ?_); go_simp; (try go_bits); refine hK _ ?_; clear hK K))
  refine wpPlanH_load (.int .i64 ((j : Int) + 1)) rfl rfl (fun x hS => by obtain ⟨s0, s1, s2, s3⟩ := hS; go_simp) (fun K hK => ?_)
  refine hK _ ?_
  clear hK K
  (repeat (refine wpPlanH_free rfl (fun K hK => ?_); go_simp; (try go_bits); refine hK _ ?_; clear hK K))
  refine wpPlanH_load (.int .i64 0) rfl rfl (fun x hS => by obtain ⟨s0, s1, s2, s3⟩ := hS; go_simp) (fun K hK => ?_)
  refine hK _ ?_
  clear hK K
  (repeat (refine wpPlanH_free rfl (fun K hK => ?_); go_simp; (try go_bits); refine hK _ ?_; clear hK K))
  refine wpPlanH_load (.int .i64 2) rfl rfl (fun x hS => by obtain ⟨s0, s1, s2, s3⟩ := hS; go_simp) (fun K hK => ?_)
  refine hK _ ?_
  clear hK K
  (repeat (refine wpPlanH_free rfl (fun K hK => ?_); go_simp; (try go_bits); refine hK _ ?_; clear hK K))
  refine wpPlanH_nil ?_
  have hFd : Fr w v3.drew q0 q1 _ _ _ _ _ := HF.out.below (bDrew (Below.refl _ _))
  have hDd : Row v3.drew qd 44 _ := HD.out.keep (l := []) (.of_below (bDrew (Below.refl _ v3))) (by simp)
  generalize v3.drew = vd at *
  have HF := Lib.hid hFd
  have HD := Lib.hid hDd
  clear p1 hFd hDd k0 k1 k2 d0 d1
  unfold refV at HMD
  have k0 := HF.out.r0.cell (i := 0) rfl
  have k1 := HF.out.r0.cell (i := 1) rfl
  have k2 := HF.out.r0.cell (i := 2) rfl
  have d0 := HD.out.cell (i := 0) rfl
  have d1 := HD.out.cell (i := 1) rfl
  go_wp2_with fail
  refine HMD.out.mono ?_
  rintro e v4 ⟨b4, e4, rfl, hv, hb, hbg⟩
  have hoff : Off b4 a2 (madeR x j) [q0, q1] := by
    rcases hbg with rfl | ⟨g, rfl, hg⟩
    · exact ⟨fun _ => HF.out.o.1 (by omega), fun hp => HF.out.o.2 (by have := HMS.out; rw [this] at hp; exact hp)⟩
    · exact HF.out.off hg HMS.out
  have HFF := Lib.hid HF.out
  have HNA : Hid (NewAt w (some ⟨pb, po, none⟩) b4 (madeR x j).P.length) := fun y hy => by
    rcases hbg with h | ⟨g, h, hg⟩
    · rw [h] at hy; exact .inl hy
    · rw [h] at hy; cases hy; exact .inr ⟨Nat.le_trans HFF.out.b.size hg, by rw [madeR_len]; omega⟩
  have HF := Lib.hid (HF.out.below hb)
  clear k0 k1 k2 d0 d1
  unfold refV
  generalize madeR x j = z at *
  have y0 := HF.out.r1.cell (i := 0) rfl
  have y1 := HF.out.r1.cell (i := 1) rfl
  have y2 := HF.out.r1.cell (i := 2) rfl
  have g0 := HF.out.r1.free 0
  have g1 := HF.out.r1.free 1
  have g2 := HF.out.r1.free 2
  go_wp2
  obtain ⟨w9, hw9⟩ : ∃ zw, zw = ((v4.setCell ⟨q1, 0, none⟩ (.slice b4 (z).P.length e4)).setCell ⟨q1, 1, none⟩ (.slice a2 (z).sems.length c2)).setCell ⟨q1, 2, none⟩ (.int .i64 (z).now) := ⟨_, rfl⟩
  have fin := HF.out.fin (b' := b4) (d' := e4) (a' := a2) (c' := c2) (z := z) (Below.refl _ _) hv hoff
  rw [← hw9] at fin ⊢
  have HFI := Lib.hid fin
  have z0 := fin.r.cell (i := 0) rfl
  have z1 := fin.r.cell (i := 1) rfl
  have z2 := fin.r.cell (i := 2) rfl
  clear hw9 fin
  (try simp only [Exit.inBlock, Exit.then, Exit.noGoto])
  refine bodyPost_ret (by rw [results_cell3 rfl]; go_simp; rfl) rfl ?_
  exact ⟨_, _, _, _, rfl, HFI.out.v, HFI.out.b, fun y hy => HNA.out y hy, fun y hy => .inl hy⟩

theorem st_3a (h : RefV w a1 c1 a2 c2 x) (hn : x.P.length ≤ 100) (hm : x.sems.length ≤ 100) (hnow : x.now ≤ 990000) (n : Int) (A : Int) (hA : ((actR x : Nat) : Int) = A) (h1 : n < 1) :
    Calls Try.prog 22 #[refV a1 c1 a2 c2 x, .agg #[.int .i64 (3), .int .i64 (n)]] w (StPost a1 a2 x 0 4 w) := by
  obtain ⟨W, hW⟩ : ∃ W, W = ((w.alloc (.cells #[.slice a1 x.P.length c1, .slice a2 x.sems.length c2, .int .i64 x.now] 41)).alloc (.cells #[.int .i64 (3), .int .i64 (n)] 44)).alloc (.cells #[.slice none 0 0, .slice none 0 0, .int .i64 0] 41) := ⟨_, rfl⟩
  have hF := Fr.start3 h (3) (n)
  have hD : Row W (w.heap.size + 1) 44 [.int .i64 (3), .int .i64 (n)] := by
    rw [hW]
    have := (Row.made (w.alloc (.cells #[.slice a1 x.P.length c1, .slice a2 x.sems.length c2, .int .i64 x.now] 41)) [.int .i64 (3), .int .i64 (n)] 44).alloc (.cells #[.slice none 0 0, .slice none 0 0, .int .i64 0] 41)
    simpa using this
  rw [← hW] at hF
  have HW := Lib.hid hW
  obtain ⟨q0, hq0⟩ : ∃ q, q = w.heap.size := ⟨_, rfl⟩
  obtain ⟨qd, hqd⟩ : ∃ q, q = w.heap.size + 1 := ⟨_, rfl⟩
  obtain ⟨q1, hq1⟩ : ∃ q, q = w.heap.size + 2 := ⟨_, rfl⟩
  have HQ0 := Lib.hid hq0
  have HQ1 := Lib.hid hq1
  have HQD := Lib.hid hqd
  rw [← hq1, ← hq0] at hF
  rw [← hqd] at hD
  have HF := Lib.hid hF
  have HD := Lib.hid hD
  have HA := Lib.hid (c_rActive hF.v hn)
  unfold refV at HA
  rw [hA] at HA
  clear h hW hF hD hq0 hq1 hqd
  unfold refV
  go_enter Try.func22, Try.ntmps22
  go_wp2_with fail
  rw [← HW.out, ← HQ1.out, ← HQD.out, ← HQ0.out]
  refine HA.out.mono ?_
  rintro e v3 ⟨rfl, b3⟩
  have HF := Lib.hid (HF.out.below b3)
  have HD := Lib.hid (HD.out.keep (l := []) (.of_below b3) (by simp))
  clear b3 HA
  have k0 := HF.out.r0.cell (i := 0) rfl
  have k1 := HF.out.r0.cell (i := 1) rfl
  have k2 := HF.out.r0.cell (i := 2) rfl
  have d0 := HD.out.cell (i := 0) rfl
  have d1 := HD.out.cell (i := 1) rfl
  have y0 := HF.out.r1.cell (i := 0) rfl
  have y1 := HF.out.r1.cell (i := 1) rfl
  have y2 := HF.out.r1.cell (i := 2) rfl
  have g0 := HF.out.r1.free 0
  have g1 := HF.out.r1.free 1
  have g2 := HF.out.r1.free 2
  go_wp2
  obtain ⟨w9, hw9⟩ : ∃ zw, zw = ((v3.setCell ⟨q1, 0, none⟩ (.slice a1 (x).P.length c1)).setCell ⟨q1, 1, none⟩ (.slice a2 (x).sems.length c2)).setCell ⟨q1, 2, none⟩ (.int .i64 (x).now) := ⟨_, rfl⟩
  have fin := HF.out.fin (b' := a1) (d' := c1) (a' := a2) (c' := c2) (z := x) (Below.refl _ _) HF.out.v HF.out.o
  rw [← hw9] at fin ⊢
  have HFI := Lib.hid fin
  have z0 := fin.r.cell (i := 0) rfl
  have z1 := fin.r.cell (i := 1) rfl
  have z2 := fin.r.cell (i := 2) rfl
  clear hw9 fin
  (try simp only [Exit.inBlock, Exit.then, Exit.noGoto])
  refine bodyPost_ret (by rw [results_cell3 rfl]; go_simp; rfl) rfl ?_
  exact ⟨_, _, _, _, rfl, HFI.out.v, HFI.out.b, fun y hy => .inl hy, fun y hy => .inl hy⟩

theorem st_3b (h : RefV w a1 c1 a2 c2 x) (hn : x.P.length ≤ 100) (hm : x.sems.length ≤ 100) (hnow : x.now ≤ 990000) (n : Int) (A : Int) (hA : ((actR x : Nat) : Int) = A) (h1 : (x.P.length : Int) < n) (h2 : 1 ≤ n) :
    Calls Try.prog 22 #[refV a1 c1 a2 c2 x, .agg #[.int .i64 (3), .int .i64 (n)]] w (StPost a1 a2 x 0 4 w) := by
  obtain ⟨W, hW⟩ : ∃ W, W = ((w.alloc (.cells #[.slice a1 x.P.length c1, .slice a2 x.sems.length c2, .int .i64 x.now] 41)).alloc (.cells #[.int .i64 (3), .int .i64 (n)] 44)).alloc (.cells #[.slice none 0 0, .slice none 0 0, .int .i64 0] 41) := ⟨_, rfl⟩
  have hF := Fr.start3 h (3) (n)
  have hD : Row W (w.heap.size + 1) 44 [.int .i64 (3), .int .i64 (n)] := by
    rw [hW]
    have := (Row.made (w.alloc (.cells #[.slice a1 x.P.length c1, .slice a2 x.sems.length c2, .int .i64 x.now] 41)) [.int .i64 (3), .int .i64 (n)] 44).alloc (.cells #[.slice none 0 0, .slice none 0 0, .int .i64 0] 41)
    simpa using this
  rw [← hW] at hF
  have HW := Lib.hid hW
  obtain ⟨q0, hq0⟩ : ∃ q, q = w.heap.size := ⟨_, rfl⟩
  obtain ⟨qd, hqd⟩ : ∃ q, q = w.heap.size + 1 := ⟨_, rfl⟩
  obtain ⟨q1, hq1⟩ : ∃ q, q = w.heap.size + 2 := ⟨_, rfl⟩
  have HQ0 := Lib.hid hq0
  have HQ1 := Lib.hid hq1
  have HQD := Lib.hid hqd
  rw [← hq1, ← hq0] at hF
  rw [← hqd] at hD
  have HF := Lib.hid hF
  have HD := Lib.hid hD
  have HA := Lib.hid (c_rActive hF.v hn)
  unfold refV at HA
  rw [hA] at HA
  clear h hW hF hD hq0 hq1 hqd
  unfold refV
  go_enter Try.func22, Try.ntmps22
  go_wp2_with fail
  rw [← HW.out, ← HQ1.out, ← HQD.out, ← HQ0.out]
  refine HA.out.mono ?_
  rintro e v3 ⟨rfl, b3⟩
  have HF := Lib.hid (HF.out.below b3)
  have HD := Lib.hid (HD.out.keep (l := []) (.of_below b3) (by simp))
  clear b3 HA
  have k0 := HF.out.r0.cell (i := 0) rfl
  have k1 := HF.out.r0.cell (i := 1) rfl
  have k2 := HF.out.r0.cell (i := 2) rfl
  have d0 := HD.out.cell (i := 0) rfl
  have d1 := HD.out.cell (i := 1) rfl
  have y0 := HF.out.r1.cell (i := 0) rfl
  have y1 := HF.out.r1.cell (i := 1) rfl
  have y2 := HF.out.r1.cell (i := 2) rfl
  have g0 := HF.out.r1.free 0
  have g1 := HF.out.r1.free 1
  have g2 := HF.out.r1.free 2
  go_wp2
  obtain ⟨w9, hw9⟩ : ∃ zw, zw = ((v3.setCell ⟨q1, 0, none⟩ (.slice a1 (x).P.length c1)).setCell ⟨q1, 1, none⟩ (.slice a2 (x).sems.length c2)).setCell ⟨q1, 2, none⟩ (.int .i64 (x).now) := ⟨_, rfl⟩
  have fin := HF.out.fin (b' := a1) (d' := c1) (a' := a2) (c' := c2) (z := x) (Below.refl _ _) HF.out.v HF.out.o
  rw [← hw9] at fin ⊢
  have HFI := Lib.hid fin
  have z0 := fin.r.cell (i := 0) rfl
  have z1 := fin.r.cell (i := 1) rfl
  have z2 := fin.r.cell (i := 2) rfl
  clear hw9 fin
  (try simp only [Exit.inBlock, Exit.then, Exit.noGoto])
  refine bodyPost_ret (by rw [results_cell3 rfl]; go_simp; rfl) rfl ?_
  exact ⟨_, _, _, _, rfl, HFI.out.v, HFI.out.b, fun y hy => .inl hy, fun y hy => .inl hy⟩

theorem st_3c (h : RefV w a1 c1 a2 c2 x) (hn : x.P.length ≤ 100) (hm : x.sems.length ≤ 100) (hnow : x.now ≤ 990000) (j : Nat) (A : Int) (hA : ((actR x : Nat) : Int) = A) (hj : j < x.P.length) (hw : (gP x j).wh = 0) :
    Calls Try.prog 22 #[refV a1 c1 a2 c2 x, .agg #[.int .i64 (3), .int .i64 ((j : Int) + 1)]] w (StPost a1 a2 x 0 2 w) := by
  obtain ⟨W, hW⟩ : ∃ W, W = ((w.alloc (.cells #[.slice a1 x.P.length c1, .slice a2 x.sems.length c2, .int .i64 x.now] 41)).alloc (.cells #[.int .i64 (3), .int .i64 ((j : Int) + 1)] 44)).alloc (.cells #[.slice none 0 0, .slice none 0 0, .int .i64 0] 41) := ⟨_, rfl⟩
  have hF := Fr.start3 h (3) ((j : Int) + 1)
  have hD : Row W (w.heap.size + 1) 44 [.int .i64 (3), .int .i64 ((j : Int) + 1)] := by
    rw [hW]
    have := (Row.made (w.alloc (.cells #[.slice a1 x.P.length c1, .slice a2 x.sems.length c2, .int .i64 x.now] 41)) [.int .i64 (3), .int .i64 ((j : Int) + 1)] 44).alloc (.cells #[.slice none 0 0, .slice none 0 0, .int .i64 0] 41)
    simpa using this
  rw [← hW] at hF
  have HW := Lib.hid hW
  obtain ⟨q0, hq0⟩ : ∃ q, q = w.heap.size := ⟨_, rfl⟩
  obtain ⟨qd, hqd⟩ : ∃ q, q = w.heap.size + 1 := ⟨_, rfl⟩
  obtain ⟨q1, hq1⟩ : ∃ q, q = w.heap.size + 2 := ⟨_, rfl⟩
  have HQ0 := Lib.hid hq0
  have HQ1 := Lib.hid hq1
  have HQD := Lib.hid hqd
  rw [← hq1, ← hq0] at hF
  rw [← hqd] at hD
  have HF := Lib.hid hF
  have HD := Lib.hid hD
  have HA := Lib.hid (c_rActive hF.v hn)
  unfold refV at HA
  rw [hA] at HA
  clear h hW hF hD hq0 hq1 hqd
  unfold refV
  go_enter Try.func22, Try.ntmps22
  go_wp2_with fail
  rw [← HW.out, ← HQ1.out, ← HQD.out, ← HQ0.out]
  refine HA.out.mono ?_
  rintro e v3 ⟨rfl, b3⟩
  have HF := Lib.hid (HF.out.below b3)
  have HD := Lib.hid (HD.out.keep (l := []) (.of_below b3) (by simp))
  clear b3 HA
  have e1 : (j : Int) + 1 - 1 = j := by omega
  obtain ⟨pb, po, rfl, hpb, hpc⟩ := HF.out.v.at (by omega)
  have p1 : v3.cell? ⟨pb, po + j * 3 + 1, none⟩ = some (.int .i64 0) := by have := (hpc j hj).2.1; rw [hw] at this; exact this
  clear hpc hw
  have k0 := HF.out.r0.cell (i := 0) rfl
  have k1 := HF.out.r0.cell (i := 1) rfl
  have k2 := HF.out.r0.cell (i := 2) rfl
  have d0 := HD.out.cell (i := 0) rfl
  have d1 := HD.out.cell (i := 1) rfl
  go_wp2_with fail
  refine wp_region_planH (fun z => z.cell? ⟨q0, 0, none⟩ = some (.slice (some ⟨pb, po, none⟩) x.P.length c1) ∧ z.cell? ⟨qd, 0, none⟩ = some (.int .i64 3) ∧ z.cell? ⟨qd, 1, none⟩ = some (.int .i64 ((j : Int) + 1)) ∧ z.cell? ⟨pb, po + j * 3 + 1, none⟩ = some (.int .i64 0)) [(0, true), (1, true), (2, true), (3, true), (4, true), (5, true), (6, true), (7, true), (8, true), (9, true), (10, true), (11, true), (12, true)] (by kernel_rfl) (by kernel_rfl) (fun _ _ _ _ _ h => h) ⟨k0, d0, d1, p1⟩ ?_
  (repeat (refine wpPlanH_free rfl (fun K hK => ?_); go_simp; (try go_bits); refine hK _ ?_; clear hK K))
  refine wpPlanH_load (.slice (some ⟨pb, po, none⟩) x.P.length c1) rfl rfl (fun x hS => by obtain ⟨s0, s1, s2, s3⟩ := hS; go_simp) (fun K hK => ?_)
  refine hK _ ?_
  clear hK K
  (repeat (refine wpPlanH_free rfl (fun K hK => ?_); go_simp; (try go_bits); refine hK _ ?_; clear hK K))
  refine wpPlanH_load (.int .i64 ((j : Int) + 1)) rfl rfl (fun x hS => by obtain ⟨s0, s1, s2, s3⟩ := hS; go_simp) (fun K hK => ?_)
  refine hK _ ?_
  clear hK K
  (repeat (refine wpPlanH_free rfl (fun K hK => ?_); go_simp; (try go_bits); refine hK _ ?_; clear hK K))
  refine wpPlanH_load (.int .i64 0) rfl rfl (fun x hS => by obtain ⟨s0, s1, s2, s3⟩ := hS; go_simp) (fun K hK => ?_)
  refine hK _ ?_
  clear hK K
  (repeat (refine wpPlanH_free rfl (fun K hK => ?_); go_simp; (try go_bits); refine hK _ ?_; clear hK K))
  refine wpPlanH_load (.int .i64 3) rfl rfl (fun x hS => by obtain ⟨s0, s1, s2, s3⟩ := hS; go_simp) (fun K hK => ?_)
  refine hK _ ?_
  clear hK K
  (repeat (refine wpPlanH_free rfl (fun K hK => ?_); go_simp; (try go_bits); refine hK _ ?_; clear hK K))
  refine wpPlanH_nil ?_
  have hFd : Fr w v3.drew q0 q1 _ _ _ _ _ := HF.out.below (bDrew (Below.refl _ _))
  have hDd : Row v3.drew qd 44 _ := HD.out.keep (l := []) (.of_below (bDrew (Below.refl _ v3))) (by simp)
  generalize v3.drew = vd at *
  have HF := Lib.hid hFd
  have HD := Lib.hid hDd
  clear p1 hFd hDd k0 k1 k2 d0 d1
  have k0 := HF.out.r0.cell (i := 0) rfl
  have k1 := HF.out.r0.cell (i := 1) rfl
  have k2 := HF.out.r0.cell (i := 2) rfl
  have d0 := HD.out.cell (i := 0) rfl
  have d1 := HD.out.cell (i := 1) rfl
  have y0 := HF.out.r1.cell (i := 0) rfl
  have y1 := HF.out.r1.cell (i := 1) rfl
  have y2 := HF.out.r1.cell (i := 2) rfl
  have g0 := HF.out.r1.free 0
  have g1 := HF.out.r1.free 1
  have g2 := HF.out.r1.free 2
  go_wp2
  obtain ⟨w9, hw9⟩ : ∃ zw, zw = ((vd.setCell ⟨q1, 0, none⟩ (.slice (some ⟨pb, po, none⟩) (x).P.length c1)).setCell ⟨q1, 1, none⟩ (.slice a2 (x).sems.length c2)).setCell ⟨q1, 2, none⟩ (.int .i64 (x).now) := ⟨_, rfl⟩
  have fin := HF.out.fin (b' := (some ⟨pb, po, none⟩)) (d' := c1) (a' := a2) (c' := c2) (z := x) (Below.refl _ _) HF.out.v HF.out.o
  rw [← hw9] at fin ⊢
  have HFI := Lib.hid fin
  have z0 := fin.r.cell (i := 0) rfl
  have z1 := fin.r.cell (i := 1) rfl
  have z2 := fin.r.cell (i := 2) rfl
  clear hw9 fin
  (try simp only [Exit.inBlock, Exit.then, Exit.noGoto])
  refine bodyPost_ret (by rw [results_cell3 rfl]; go_simp; rfl) rfl ?_
  exact ⟨_, _, _, _, rfl, HFI.out.v, HFI.out.b, fun y hy => .inl hy, fun y hy => .inl hy⟩

theorem st_4a (h : RefV w a1 c1 a2 c2 x) (hn : x.P.length ≤ 100) (hm : x.sems.length ≤ 100) (hnow : x.now ≤ 990000) (n : Int) (hA : ((actR x : Nat) : Int) = 0) :
    Calls Try.prog 22 #[refV a1 c1 a2 c2 x, .agg #[.int .i64 (4), .int .i64 (n)]] w (StPost a1 a2 x 0 4 w) := by
  obtain ⟨W, hW⟩ : ∃ W, W = ((w.alloc (.cells #[.slice a1 x.P.length c1, .slice a2 x.sems.length c2, .int .i64 x.now] 41)).alloc (.cells #[.int .i64 (4), .int .i64 (n)] 44)).alloc (.cells #[.slice none 0 0, .slice none 0 0, .int .i64 0] 41) := ⟨_, rfl⟩
  have hF := Fr.start3 h (4) (n)
  have hD : Row W (w.heap.size + 1) 44 [.int .i64 (4), .int .i64 (n)] := by
    rw [hW]
    have := (Row.made (w.alloc (.cells #[.slice a1 x.P.length c1, .slice a2 x.sems.length c2, .int .i64 x.now] 41)) [.int .i64 (4), .int .i64 (n)] 44).alloc (.cells #[.slice none 0 0, .slice none 0 0, .int .i64 0] 41)
    simpa using this
  rw [← hW] at hF
  have HW := Lib.hid hW
  obtain ⟨q0, hq0⟩ : ∃ q, q = w.heap.size := ⟨_, rfl⟩
  obtain ⟨qd, hqd⟩ : ∃ q, q = w.heap.size + 1 := ⟨_, rfl⟩
  obtain ⟨q1, hq1⟩ : ∃ q, q = w.heap.size + 2 := ⟨_, rfl⟩
  have HQ0 := Lib.hid hq0
  have HQ1 := Lib.hid hq1
  have HQD := Lib.hid hqd
  rw [← hq1, ← hq0] at hF
  rw [← hqd] at hD
  have HF := Lib.hid hF
  have HD := Lib.hid hD
  have HA := Lib.hid (c_rActive hF.v hn)
  unfold refV at HA
  rw [hA] at HA
  clear h hW hF hD hq0 hq1 hqd
  unfold refV
  go_enter Try.func22, Try.ntmps22
  go_wp2_with fail
  rw [← HW.out, ← HQ1.out, ← HQD.out, ← HQ0.out]
  refine HA.out.mono ?_
  rintro e v3 ⟨rfl, b3⟩
  have HF := Lib.hid (HF.out.below b3)
  have HD := Lib.hid (HD.out.keep (l := []) (.of_below b3) (by simp))
  clear b3 HA
  have k0 := HF.out.r0.cell (i := 0) rfl
  have k1 := HF.out.r0.cell (i := 1) rfl
  have k2 := HF.out.r0.cell (i := 2) rfl
  have d0 := HD.out.cell (i := 0) rfl
  have d1 := HD.out.cell (i := 1) rfl
  have y0 := HF.out.r1.cell (i := 0) rfl
  have y1 := HF.out.r1.cell (i := 1) rfl
  have y2 := HF.out.r1.cell (i := 2) rfl
  have g0 := HF.out.r1.free 0
  have g1 := HF.out.r1.free 1
  have g2 := HF.out.r1.free 2
  go_wp2
  obtain ⟨w9, hw9⟩ : ∃ zw, zw = ((v3.setCell ⟨q1, 0, none⟩ (.slice a1 (x).P.length c1)).setCell ⟨q1, 1, none⟩ (.slice a2 (x).sems.length c2)).setCell ⟨q1, 2, none⟩ (.int .i64 (x).now) := ⟨_, rfl⟩
  have fin := HF.out.fin (b' := a1) (d' := c1) (a' := a2) (c' := c2) (z := x) (Below.refl _ _) HF.out.v HF.out.o
  rw [← hw9] at fin ⊢
  have HFI := Lib.hid fin
  have z0 := fin.r.cell (i := 0) rfl
  have z1 := fin.r.cell (i := 1) rfl
  have z2 := fin.r.cell (i := 2) rfl
  clear hw9 fin
  (try simp only [Exit.inBlock, Exit.then, Exit.noGoto])
  refine bodyPost_ret (by rw [results_cell3 rfl]; go_simp; rfl) rfl ?_
  exact ⟨_, _, _, _, rfl, HFI.out.v, HFI.out.b, fun y hy => .inl hy, fun y hy => .inl hy⟩

theorem st_5a (h : RefV w a1 c1 a2 c2 x) (hn : x.P.length ≤ 100) (hm : x.sems.length ≤ 100) (hnow : x.now ≤ 990000) (n : Int) (A : Int) (hA : ((actR x : Nat) : Int) = A) (hf : 100 ≤ x.sems.length) :
    Calls Try.prog 22 #[refV a1 c1 a2 c2 x, .agg #[.int .i64 (5), .int .i64 (n)]] w (StPost a1 a2 x 0 3 w) := by
  obtain ⟨W, hW⟩ : ∃ W, W = ((w.alloc (.cells #[.slice a1 x.P.length c1, .slice a2 x.sems.length c2, .int .i64 x.now] 41)).alloc (.cells #[.int .i64 (5), .int .i64 (n)] 44)).alloc (.cells #[.slice none 0 0, .slice none 0 0, .int .i64 0] 41) := ⟨_, rfl⟩
  have hF := Fr.start3 h (5) (n)
  have hD : Row W (w.heap.size + 1) 44 [.int .i64 (5), .int .i64 (n)] := by
    rw [hW]
    have := (Row.made (w.alloc (.cells #[.slice a1 x.P.length c1, .slice a2 x.sems.length c2, .int .i64 x.now] 41)) [.int .i64 (5), .int .i64 (n)] 44).alloc (.cells #[.slice none 0 0, .slice none 0 0, .int .i64 0] 41)
    simpa using this
  rw [← hW] at hF
  have HW := Lib.hid hW
  obtain ⟨q0, hq0⟩ : ∃ q, q = w.heap.size := ⟨_, rfl⟩
  obtain ⟨qd, hqd⟩ : ∃ q, q = w.heap.size + 1 := ⟨_, rfl⟩
  obtain ⟨q1, hq1⟩ : ∃ q, q = w.heap.size + 2 := ⟨_, rfl⟩
  have HQ0 := Lib.hid hq0
  have HQ1 := Lib.hid hq1
  have HQD := Lib.hid hqd
  rw [← hq1, ← hq0] at hF
  rw [← hqd] at hD
  have HF := Lib.hid hF
  have HD := Lib.hid hD
  have HA := Lib.hid (c_rActive hF.v hn)
  unfold refV at HA
  rw [hA] at HA
  clear h hW hF hD hq0 hq1 hqd
  unfold refV
  go_enter Try.func22, Try.ntmps22
  go_wp2_with fail
  rw [← HW.out, ← HQ1.out, ← HQD.out, ← HQ0.out]
  refine HA.out.mono ?_
  rintro e v3 ⟨rfl, b3⟩
  have HF := Lib.hid (HF.out.below b3)
  have HD := Lib.hid (HD.out.keep (l := []) (.of_below b3) (by simp))
  clear b3 HA
  have hf2 : (100 : Int) ≤ (x.sems.length : Int) := by omega
  have k0 := HF.out.r0.cell (i := 0) rfl
  have k1 := HF.out.r0.cell (i := 1) rfl
  have k2 := HF.out.r0.cell (i := 2) rfl
  have d0 := HD.out.cell (i := 0) rfl
  have d1 := HD.out.cell (i := 1) rfl
  have y0 := HF.out.r1.cell (i := 0) rfl
  have y1 := HF.out.r1.cell (i := 1) rfl
  have y2 := HF.out.r1.cell (i := 2) rfl
  have g0 := HF.out.r1.free 0
  have g1 := HF.out.r1.free 1
  have g2 := HF.out.r1.free 2
  go_wp2
  obtain ⟨w9, hw9⟩ : ∃ zw, zw = ((v3.setCell ⟨q1, 0, none⟩ (.slice a1 (x).P.length c1)).setCell ⟨q1, 1, none⟩ (.slice a2 (x).sems.length c2)).setCell ⟨q1, 2, none⟩ (.int .i64 (x).now) := ⟨_, rfl⟩
  have fin := HF.out.fin (b' := a1) (d' := c1) (a' := a2) (c' := c2) (z := x) (Below.refl _ _) HF.out.v HF.out.o
  rw [← hw9] at fin ⊢
  have HFI := Lib.hid fin
  have z0 := fin.r.cell (i := 0) rfl
  have z1 := fin.r.cell (i := 1) rfl
  have z2 := fin.r.cell (i := 2) rfl
  clear hw9 fin
  (try simp only [Exit.inBlock, Exit.then, Exit.noGoto])
  refine bodyPost_ret (by rw [results_cell3 rfl]; go_simp; rfl) rfl ?_
  exact ⟨_, _, _, _, rfl, HFI.out.v, HFI.out.b, fun y hy => .inl hy, fun y hy => .inl hy⟩

theorem st_6a (h : RefV w a1 c1 a2 c2 x) (hn : x.P.length ≤ 100) (hm : x.sems.length ≤ 100) (hnow : x.now ≤ 990000) (n : Int) (A : Int) (hA : ((actR x : Nat) : Int) = A) (h1 : n < 1) :
    Calls Try.prog 22 #[refV a1 c1 a2 c2 x, .agg #[.int .i64 (6), .int .i64 (n)]] w (StPost a1 a2 x 0 4 w) := by
  obtain ⟨W, hW⟩ : ∃ W, W = ((w.alloc (.cells #[.slice a1 x.P.length c1, .slice a2 x.sems.length c2, .int .i64 x.now] 41)).alloc (.cells #[.int .i64 (6), .int .i64 (n)] 44)).alloc (.cells #[.slice none 0 0, .slice none 0 0, .int .i64 0] 41) := ⟨_, rfl⟩
  have hF := Fr.start3 h (6) (n)
  have hD : Row W (w.heap.size + 1) 44 [.int .i64 (6), .int .i64 (n)] := by
    rw [hW]
    have := (Row.made (w.alloc (.cells #[.slice a1 x.P.length c1, .slice a2 x.sems.length c2, .int .i64 x.now] 41)) [.int .i64 (6), .int .i64 (n)] 44).alloc (.cells #[.slice none 0 0, .slice none 0 0, .int .i64 0] 41)
    simpa using this
  rw [← hW] at hF
  have HW := Lib.hid hW
  obtain ⟨q0, hq0⟩ : ∃ q, q = w.heap.size := ⟨_, rfl⟩
  obtain ⟨qd, hqd⟩ : ∃ q, q = w.heap.size + 1 := ⟨_, rfl⟩
  obtain ⟨q1, hq1⟩ : ∃ q, q = w.heap.size + 2 := ⟨_, rfl⟩
  have HQ0 := Lib.hid hq0
  have HQ1 := Lib.hid hq1
  have HQD := Lib.hid hqd
  rw [← hq1, ← hq0] at hF
  rw [← hqd] at hD
  have HF := Lib.hid hF
  have HD := Lib.hid hD
  have HA := Lib.hid (c_rActive hF.v hn)
  unfold refV at HA
  rw [hA] at HA
  clear h hW hF hD hq0 hq1 hqd
  unfold refV
  go_enter Try.func22, Try.ntmps22
  go_wp2_with fail
  rw [← HW.out, ← HQ1.out, ← HQD.out, ← HQ0.out]
  refine HA.out.mono ?_
  rintro e v3 ⟨rfl, b3⟩
  have HF := Lib.hid (HF.out.below b3)
  have HD := Lib.hid (HD.out.keep (l := []) (.of_below b3) (by simp))
  clear b3 HA
  have kq0 := HF.out.r0.cell (i := 0) rfl
  have kq1 := HF.out.r0.cell (i := 1) rfl
  have kq2 := HF.out.r0.cell (i := 2) rfl
  have d0 := HD.out.cell (i := 0) rfl
  have d1 := HD.out.cell (i := 1) rfl
  have y0 := HF.out.r1.cell (i := 0) rfl
  have y1 := HF.out.r1.cell (i := 1) rfl
  have y2 := HF.out.r1.cell (i := 2) rfl
  have g0 := HF.out.r1.free 0
  have g1 := HF.out.r1.free 1
  have g2 := HF.out.r1.free 2
  go_wp2
  obtain ⟨w9, hw9⟩ : ∃ zw, zw = ((v3.setCell ⟨q1, 0, none⟩ (.slice a1 (x).P.length c1)).setCell ⟨q1, 1, none⟩ (.slice a2 (x).sems.length c2)).setCell ⟨q1, 2, none⟩ (.int .i64 (x).now) := ⟨_, rfl⟩
  have fin := HF.out.fin (b' := a1) (d' := c1) (a' := a2) (c' := c2) (z := x) (Below.refl _ _) HF.out.v HF.out.o
  rw [← hw9] at fin ⊢
  have HFI := Lib.hid fin
  have z0 := fin.r.cell (i := 0) rfl
  have z1 := fin.r.cell (i := 1) rfl
  have z2 := fin.r.cell (i := 2) rfl
  clear hw9 fin
  (try simp only [Exit.inBlock, Exit.then, Exit.noGoto])
  refine bodyPost_ret (by rw [results_cell3 rfl]; go_simp; rfl) rfl ?_
  exact ⟨_, _, _, _, rfl, HFI.out.v, HFI.out.b, fun y hy => .inl hy, fun y hy => .inl hy⟩

theorem st_6b (h : RefV w a1 c1 a2 c2 x) (hn : x.P.length ≤ 100) (hm : x.sems.length ≤ 100) (hnow : x.now ≤ 990000) (n : Int) (A : Int) (hA : ((actR x : Nat) : Int) = A) (h1 : (x.sems.length : Int) < n) (h2 : 1 ≤ n) :
    Calls Try.prog 22 #[refV a1 c1 a2 c2 x, .agg #[.int .i64 (6), .int .i64 (n)]] w (StPost a1 a2 x 0 4 w) := by
  obtain ⟨W, hW⟩ : ∃ W, W = ((w.alloc (.cells #[.slice a1 x.P.length c1, .slice a2 x.sems.length c2, .int .i64 x.now] 41)).alloc (.cells #[.int .i64 (6), .int .i64 (n)] 44)).alloc (.cells #[.slice none 0 0, .slice none 0 0, .int .i64 0] 41) := ⟨_, rfl⟩
  have hF := Fr.start3 h (6) (n)
  have hD : Row W (w.heap.size + 1) 44 [.int .i64 (6), .int .i64 (n)] := by
    rw [hW]
    have := (Row.made (w.alloc (.cells #[.slice a1 x.P.length c1, .slice a2 x.sems.length c2, .int .i64 x.now] 41)) [.int .i64 (6), .int .i64 (n)] 44).alloc (.cells #[.slice none 0 0, .slice none 0 0, .int .i64 0] 41)
    simpa using this
  rw [← hW] at hF
  have HW := Lib.hid hW
  obtain ⟨q0, hq0⟩ : ∃ q, q = w.heap.size := ⟨_, rfl⟩
  obtain ⟨qd, hqd⟩ : ∃ q, q = w.heap.size + 1 := ⟨_, rfl⟩
  obtain ⟨q1, hq1⟩ : ∃ q, q = w.heap.size + 2 := ⟨_, rfl⟩
  have HQ0 := Lib.hid hq0
  have HQ1 := Lib.hid hq1
  have HQD := Lib.hid hqd
  rw [← hq1, ← hq0] at hF
  rw [← hqd] at hD
  have HF := Lib.hid hF
  have HD := Lib.hid hD
  have HA := Lib.hid (c_rActive hF.v hn)
  unfold refV at HA
  rw [hA] at HA
  clear h hW hF hD hq0 hq1 hqd
  unfold refV
  go_enter Try.func22, Try.ntmps22
  go_wp2_with fail
  rw [← HW.out, ← HQ1.out, ← HQD.out, ← HQ0.out]
  refine HA.out.mono ?_
  rintro e v3 ⟨rfl, b3⟩
  have HF := Lib.hid (HF.out.below b3)
  have HD := Lib.hid (HD.out.keep (l := []) (.of_below b3) (by simp))
  clear b3 HA
  have kq0 := HF.out.r0.cell (i := 0) rfl
  have kq1 := HF.out.r0.cell (i := 1) rfl
  have kq2 := HF.out.r0.cell (i := 2) rfl
  have d0 := HD.out.cell (i := 0) rfl
  have d1 := HD.out.cell (i := 1) rfl
  have y0 := HF.out.r1.cell (i := 0) rfl
  have y1 := HF.out.r1.cell (i := 1) rfl
  have y2 := HF.out.r1.cell (i := 2) rfl
  have g0 := HF.out.r1.free 0
  have g1 := HF.out.r1.free 1
  have g2 := HF.out.r1.free 2
  go_wp2
  obtain ⟨w9, hw9⟩ : ∃ zw, zw = ((v3.setCell ⟨q1, 0, none⟩ (.slice a1 (x).P.length c1)).setCell ⟨q1, 1, none⟩ (.slice a2 (x).sems.length c2)).setCell ⟨q1, 2, none⟩ (.int .i64 (x).now) := ⟨_, rfl⟩
  have fin := HF.out.fin (b' := a1) (d' := c1) (a' := a2) (c' := c2) (z := x) (Below.refl _ _) HF.out.v HF.out.o
  rw [← hw9] at fin ⊢
  have HFI := Lib.hid fin
  have z0 := fin.r.cell (i := 0) rfl
  have z1 := fin.r.cell (i := 1) rfl
  have z2 := fin.r.cell (i := 2) rfl
  clear hw9 fin
  (try simp only [Exit.inBlock, Exit.then, Exit.noGoto])
  refine bodyPost_ret (by rw [results_cell3 rfl]; go_simp; rfl) rfl ?_
  exact ⟨_, _, _, _, rfl, HFI.out.v, HFI.out.b, fun y hy => .inl hy, fun y hy => .inl hy⟩

theorem st_7a (h : RefV w a1 c1 a2 c2 x) (hn : x.P.length ≤ 100) (hm : x.sems.length ≤ 100) (hnow : x.now ≤ 990000) (k : Int) (k1 : k ≠ 1) (k2 : k ≠ 2) (k3 : k ≠ 3) (k4 : k ≠ 4) (k5 : k ≠ 5) (k6 : k ≠ 6) (n : Int) (A : Int) (hA : ((actR x : Nat) : Int) = A) (h1 : n < 1) :
    Calls Try.prog 22 #[refV a1 c1 a2 c2 x, .agg #[.int .i64 (k), .int .i64 (n)]] w (StPost a1 a2 x 0 4 w) := by
  obtain ⟨W, hW⟩ : ∃ W, W = ((w.alloc (.cells #[.slice a1 x.P.length c1, .slice a2 x.sems.length c2, .int .i64 x.now] 41)).alloc (.cells #[.int .i64 (k), .int .i64 (n)] 44)).alloc (.cells #[.slice none 0 0, .slice none 0 0, .int .i64 0] 41) := ⟨_, rfl⟩
  have hF := Fr.start3 h (k) (n)
  have hD : Row W (w.heap.size + 1) 44 [.int .i64 (k), .int .i64 (n)] := by
    rw [hW]
    have := (Row.made (w.alloc (.cells #[.slice a1 x.P.length c1, .slice a2 x.sems.length c2, .int .i64 x.now] 41)) [.int .i64 (k), .int .i64 (n)] 44).alloc (.cells #[.slice none 0 0, .slice none 0 0, .int .i64 0] 41)
    simpa using this
  rw [← hW] at hF
  have HW := Lib.hid hW
  obtain ⟨q0, hq0⟩ : ∃ q, q = w.heap.size := ⟨_, rfl⟩
  obtain ⟨qd, hqd⟩ : ∃ q, q = w.heap.size + 1 := ⟨_, rfl⟩
  obtain ⟨q1, hq1⟩ : ∃ q, q = w.heap.size + 2 := ⟨_, rfl⟩
  have HQ0 := Lib.hid hq0
  have HQ1 := Lib.hid hq1
  have HQD := Lib.hid hqd
  rw [← hq1, ← hq0] at hF
  rw [← hqd] at hD
  have HF := Lib.hid hF
  have HD := Lib.hid hD
  have HA := Lib.hid (c_rActive hF.v hn)
  unfold refV at HA
  rw [hA] at HA
  clear h hW hF hD hq0 hq1 hqd
  unfold refV
  go_enter Try.func22, Try.ntmps22
  go_wp2_with fail
  rw [← HW.out, ← HQ1.out, ← HQD.out, ← HQ0.out]
  refine HA.out.mono ?_
  rintro e v3 ⟨rfl, b3⟩
  have HF := Lib.hid (HF.out.below b3)
  have HD := Lib.hid (HD.out.keep (l := []) (.of_below b3) (by simp))
  clear b3 HA
  have kq0 := HF.out.r0.cell (i := 0) rfl
  have kq1 := HF.out.r0.cell (i := 1) rfl
  have kq2 := HF.out.r0.cell (i := 2) rfl
  have d0 := HD.out.cell (i := 0) rfl
  have d1 := HD.out.cell (i := 1) rfl
  have y0 := HF.out.r1.cell (i := 0) rfl
  have y1 := HF.out.r1.cell (i := 1) rfl
  have y2 := HF.out.r1.cell (i := 2) rfl
  have g0 := HF.out.r1.free 0
  have g1 := HF.out.r1.free 1
  have g2 := HF.out.r1.free 2
  go_wp2
  obtain ⟨w9, hw9⟩ : ∃ zw, zw = ((v3.setCell ⟨q1, 0, none⟩ (.slice a1 (x).P.length c1)).setCell ⟨q1, 1, none⟩ (.slice a2 (x).sems.length c2)).setCell ⟨q1, 2, none⟩ (.int .i64 (x).now) := ⟨_, rfl⟩
  have fin := HF.out.fin (b' := a1) (d' := c1) (a' := a2) (c' := c2) (z := x) (Below.refl _ _) HF.out.v HF.out.o
  rw [← hw9] at fin ⊢
  have HFI := Lib.hid fin
  have z0 := fin.r.cell (i := 0) rfl
  have z1 := fin.r.cell (i := 1) rfl
  have z2 := fin.r.cell (i := 2) rfl
  clear hw9 fin
  (try simp only [Exit.inBlock, Exit.then, Exit.noGoto])
  refine bodyPost_ret (by rw [results_cell3 rfl]; go_simp; rfl) rfl ?_
  exact ⟨_, _, _, _, rfl, HFI.out.v, HFI.out.b, fun y hy => .inl hy, fun y hy => .inl hy⟩

theorem st_7b (h : RefV w a1 c1 a2 c2 x) (hn : x.P.length ≤ 100) (hm : x.sems.length ≤ 100) (hnow : x.now ≤ 990000) (k : Int) (k1 : k ≠ 1) (k2 : k ≠ 2) (k3 : k ≠ 3) (k4 : k ≠ 4) (k5 : k ≠ 5) (k6 : k ≠ 6) (n : Int) (A : Int) (hA : ((actR x : Nat) : Int) = A) (h1 : (x.sems.length : Int) < n) (h2 : 1 ≤ n) :
    Calls Try.prog 22 #[refV a1 c1 a2 c2 x, .agg #[.int .i64 (k), .int .i64 (n)]] w (StPost a1 a2 x 0 4 w) := by
  obtain ⟨W, hW⟩ : ∃ W, W = ((w.alloc (.cells #[.slice a1 x.P.length c1, .slice a2 x.sems.length c2, .int .i64 x.now] 41)).alloc (.cells #[.int .i64 (k), .int .i64 (n)] 44)).alloc (.cells #[.slice none 0 0, .slice none 0 0, .int .i64 0] 41) := ⟨_, rfl⟩
  have hF := Fr.start3 h (k) (n)
  have hD : Row W (w.heap.size + 1) 44 [.int .i64 (k), .int .i64 (n)] := by
    rw [hW]
    have := (Row.made (w.alloc (.cells #[.slice a1 x.P.length c1, .slice a2 x.sems.length c2, .int .i64 x.now] 41)) [.int .i64 (k), .int .i64 (n)] 44).alloc (.cells #[.slice none 0 0, .slice none 0 0, .int .i64 0] 41)
    simpa using this
  rw [← hW] at hF
  have HW := Lib.hid hW
  obtain ⟨q0, hq0⟩ : ∃ q, q = w.heap.size := ⟨_, rfl⟩
  obtain ⟨qd, hqd⟩ : ∃ q, q = w.heap.size + 1 := ⟨_, rfl⟩
  obtain ⟨q1, hq1⟩ : ∃ q, q = w.heap.size + 2 := ⟨_, rfl⟩
  have HQ0 := Lib.hid hq0
  have HQ1 := Lib.hid hq1
  have HQD := Lib.hid hqd
  rw [← hq1, ← hq0] at hF
  rw [← hqd] at hD
  have HF := Lib.hid hF
  have HD := Lib.hid hD
  have HA := Lib.hid (c_rActive hF.v hn)
  unfold refV at HA
  rw [hA] at HA
  clear h hW hF hD hq0 hq1 hqd
  unfold refV
  go_enter Try.func22, Try.ntmps22
  go_wp2_with fail
  rw [← HW.out, ← HQ1.out, ← HQD.out, ← HQ0.out]
  refine HA.out.mono ?_
  rintro e v3 ⟨rfl, b3⟩
  have HF := Lib.hid (HF.out.below b3)
  have HD := Lib.hid (HD.out.keep (l := []) (.of_below b3) (by simp))
  clear b3 HA
  have kq0 := HF.out.r0.cell (i := 0) rfl
  have kq1 := HF.out.r0.cell (i := 1) rfl
  have kq2 := HF.out.r0.cell (i := 2) rfl
  have d0 := HD.out.cell (i := 0) rfl
  have d1 := HD.out.cell (i := 1) rfl
  have y0 := HF.out.r1.cell (i := 0) rfl
  have y1 := HF.out.r1.cell (i := 1) rfl
  have y2 := HF.out.r1.cell (i := 2) rfl
  have g0 := HF.out.r1.free 0
  have g1 := HF.out.r1.free 1
  have g2 := HF.out.r1.free 2
  go_wp2
  obtain ⟨w9, hw9⟩ : ∃ zw, zw = ((v3.setCell ⟨q1, 0, none⟩ (.slice a1 (x).P.length c1)).setCell ⟨q1, 1, none⟩ (.slice a2 (x).sems.length c2)).setCell ⟨q1, 2, none⟩ (.int .i64 (x).now) := ⟨_, rfl⟩
  have fin := HF.out.fin (b' := a1) (d' := c1) (a' := a2) (c' := c2) (z := x) (Below.refl _ _) HF.out.v HF.out.o
  rw [← hw9] at fin ⊢
  have HFI := Lib.hid fin
  have z0 := fin.r.cell (i := 0) rfl
  have z1 := fin.r.cell (i := 1) rfl
  have z2 := fin.r.cell (i := 2) rfl
  clear hw9 fin
  (try simp only [Exit.inBlock, Exit.then, Exit.noGoto])
  refine bodyPost_ret (by rw [results_cell3 rfl]; go_simp; rfl) rfl ?_
  exact ⟨_, _, _, _, rfl, HFI.out.v, HFI.out.b, fun y hy => .inl hy, fun y hy => .inl hy⟩

theorem st_7c (h : RefV w a1 c1 a2 c2 x) (hn : x.P.length ≤ 100) (hm : x.sems.length ≤ 100) (hnow : x.now ≤ 990000) (k : Int) (k1 : k ≠ 1) (k2 : k ≠ 2) (k3 : k ≠ 3) (k4 : k ≠ 4) (k5 : k ≠ 5) (k6 : k ≠ 6) (j : Nat) (hA : ((actR x : Nat) : Int) = 0) (hj : j < x.sems.length) :
    Calls Try.prog 22 #[refV a1 c1 a2 c2 x, .agg #[.int .i64 (k), .int .i64 ((j : Int) + 1)]] w (StPost a1 a2 x 0 2 w) := by
  obtain ⟨W, hW⟩ : ∃ W, W = ((w.alloc (.cells #[.slice a1 x.P.length c1, .slice a2 x.sems.length c2, .int .i64 x.now] 41)).alloc (.cells #[.int .i64 (k), .int .i64 ((j : Int) + 1)] 44)).alloc (.cells #[.slice none 0 0, .slice none 0 0, .int .i64 0] 41) := ⟨_, rfl⟩
  have hF := Fr.start3 h (k) ((j : Int) + 1)
  have hD : Row W (w.heap.size + 1) 44 [.int .i64 (k), .int .i64 ((j : Int) + 1)] := by
    rw [hW]
    have := (Row.made (w.alloc (.cells #[.slice a1 x.P.length c1, .slice a2 x.sems.length c2, .int .i64 x.now] 41)) [.int .i64 (k), .int .i64 ((j : Int) + 1)] 44).alloc (.cells #[.slice none 0 0, .slice none 0 0, .int .i64 0] 41)
    simpa using this
  rw [← hW] at hF
  have HW := Lib.hid hW
  obtain ⟨q0, hq0⟩ : ∃ q, q = w.heap.size := ⟨_, rfl⟩
  obtain ⟨qd, hqd⟩ : ∃ q, q = w.heap.size + 1 := ⟨_, rfl⟩
  obtain ⟨q1, hq1⟩ : ∃ q, q = w.heap.size + 2 := ⟨_, rfl⟩
  have HQ0 := Lib.hid hq0
  have HQ1 := Lib.hid hq1
  have HQD := Lib.hid hqd
  rw [← hq1, ← hq0] at hF
  rw [← hqd] at hD
  have HF := Lib.hid hF
  have HD := Lib.hid hD
  have HA := Lib.hid (c_rActive hF.v hn)
  unfold refV at HA
  rw [hA] at HA
  clear h hW hF hD hq0 hq1 hqd
  unfold refV
  go_enter Try.func22, Try.ntmps22
  go_wp2_with fail
  rw [← HW.out, ← HQ1.out, ← HQD.out, ← HQ0.out]
  refine HA.out.mono ?_
  rintro e v3 ⟨rfl, b3⟩
  have HF := Lib.hid (HF.out.below b3)
  have HD := Lib.hid (HD.out.keep (l := []) (.of_below b3) (by simp))
  clear b3 HA
  have kq0 := HF.out.r0.cell (i := 0) rfl
  have kq1 := HF.out.r0.cell (i := 1) rfl
  have kq2 := HF.out.r0.cell (i := 2) rfl
  have d0 := HD.out.cell (i := 0) rfl
  have d1 := HD.out.cell (i := 1) rfl
  have y0 := HF.out.r1.cell (i := 0) rfl
  have y1 := HF.out.r1.cell (i := 1) rfl
  have y2 := HF.out.r1.cell (i := 2) rfl
  have g0 := HF.out.r1.free 0
  have g1 := HF.out.r1.free 1
  have g2 := HF.out.r1.free 2
  go_wp2
  obtain ⟨w9, hw9⟩ : ∃ zw, zw = ((v3.setCell ⟨q1, 0, none⟩ (.slice a1 (x).P.length c1)).setCell ⟨q1, 1, none⟩ (.slice a2 (x).sems.length c2)).setCell ⟨q1, 2, none⟩ (.int .i64 (x).now) := ⟨_, rfl⟩
  have fin := HF.out.fin (b' := a1) (d' := c1) (a' := a2) (c' := c2) (z := x) (Below.refl _ _) HF.out.v HF.out.o
  rw [← hw9] at fin ⊢
  have HFI := Lib.hid fin
  have z0 := fin.r.cell (i := 0) rfl
  have z1 := fin.r.cell (i := 1) rfl
  have z2 := fin.r.cell (i := 2) rfl
  clear hw9 fin
  (try simp only [Exit.inBlock, Exit.then, Exit.noGoto])
  refine bodyPost_ret (by rw [results_cell3 rfl]; go_simp; rfl) rfl ?_
  exact ⟨_, _, _, _, rfl, HFI.out.v, HFI.out.b, fun y hy => .inl hy, fun y hy => .inl hy⟩

end

end Go.Proofs.Ytbkaafbkmcgfjaa
