/-
  Contracts of package large: Cmp. (Written by lcgen.py.)
-/
import Derived.Test.YtdafncaehjipbaaLargeI
import Derived.Test.YtdafncaehjipbaaPlanT
namespace Go.Proofs.Ytdafncaehjipbaa
open Go.RowKit Go.Shelf
set_option linter.unusedVariables false
set_option maxHeartbeats 2000000
set_option maxRecDepth 100000

attribute [local go_sem] Oper.semAt_some

theorem back_at {zs D : List Int} {n k : Nat} (hl : n = zs.length) (hb : Byt zs) (hk : k ≤ n) (hp : ∀ p ∈ upto (backAt zs) k, D[p.1 % n]?.getD 0 = p.2 % 256) {j : Nat} (hj : n - k ≤ j) (hjn : j < n) : D[j]?.getD 0 = zs[j]?.getD 0 := by
  have := hp (backAt zs (n - 1 - j)) (by
    simp only [upto, List.mem_map, List.mem_range]
    exact ⟨n - 1 - j, by omega, rfl⟩)
  unfold backAt at this
  dsimp only at this
  rw [← hl, show n - 1 - (n - 1 - j) = j from by omega, Nat.mod_eq_of_lt hjn, Int.emod_eq_of_lt (byte_at hb j).1 (by have := (byte_at hb j).2; omega)] at this
  exact this
theorem back_drop {zs D : List Int} {n k : Nat} (hl : n = zs.length) (hd : n = D.length) (hb : Byt zs) (hk : k < n) (hp : ∀ p ∈ upto (backAt zs) k, D[p.1 % n]?.getD 0 = p.2 % 256) : zs.drop (n - 1 - k + 1) = D.drop (n - 1 - k + 1) := by
  apply List.ext_getElem
  · simp; omega
  · intro i h1 h2
    simp only [List.length_drop] at h1 h2
    have := back_at hl hb (by omega) hp (j := n - 1 - k + 1 + i) (by omega) (by omega)
    rw [List.getElem?_eq_getElem (by omega), List.getElem?_eq_getElem (by omega)] at this
    simp only [List.getElem_drop]
    exact this.symm
theorem back_all {zs D : List Int} {n : Nat} (hl : n = zs.length) (hd : n = D.length) (hb : Byt zs) (hp : ∀ p ∈ upto (backAt zs) n, D[p.1 % n]?.getD 0 = p.2 % 256) : D = zs := by
  apply List.ext_getElem
  · omega
  · intro i h1 h2
    have := back_at hl hb (Nat.le_refl _) hp (j := i) (by omega) (by omega)
    rw [List.getElem?_eq_getElem (by omega), List.getElem?_eq_getElem (by omega)] at this
    exact this

/-- Panics are none. -/
def noPanic (Q : Exit → Act → World → Prop) : Exit → Act → World → Prop
  | .panic _, _, _ => False
  | e, a, w => Q e a w
theorem noPanic_to {Q : Exit → Act → World → Prop} : ∀ e a w, noPanic Q e a w → Q e a w
  | .normal, _, _, h => h
  | .ret, _, _, h => h
  | .exit _, _, _, h => h
  | .goto _, _, _, h => h
  | .outgrown, _, _, h => h
  | .panic _, _, _, h => h.elim

def cmpI (a b : Nat) : Int := if a < b then -1 else if b < a then 1 else 0

theorem results_cellL {fn : Func} {p : Tmp} {ty : TypeId} (h : fn.results = #[.cell p ty]) (tmps : Array Value) (P : Program) (w : World) :
    (results fn tmps).run P w =
      ((asAddr (tmps.getD p undef)).run P w).andThen fun a w₁ => (loadVar ty a).run P w₁ := by
  simp only [results, h]
  simp [Sem.run_bind, Result.andThen]

theorem digs_take {l : List Int} (hb : Byt l) : ∀ k, k ≤ l.length → ∃ j, j ≤ k ∧ digs (valI (l.take k)) = l.take j
  | 0, _ => ⟨0, Nat.le_refl _, by simp [valI, digs_0]⟩
  | k + 1, h => by
    by_cases h0 : l.getD k 0 = 0
    · obtain ⟨j, hj, e⟩ := digs_take hb k (by omega)
      exact ⟨j, by omega, by rw [← digs_step hb (by omega) h0]; exact e⟩
    · exact ⟨k + 1, Nat.le_refl _, digs_stop hb (by omega) h0⟩

theorem numAt_of {w : World} {a : Option Addr} {c : Nat} {l : List Int} (h : Reads w a c (l.map (Value.int .u8))) (hb : Byt l) (hm : l.length ≤ 1000000000) : NumAt w a (digs (valI l)).length (digs (valI l)).length (valI l) := by
  obtain ⟨j, hj, e⟩ := digs_take hb l.length (Nat.le_refl _)
  rw [List.take_of_length_le (Nat.le_refl _)] at e
  have hl := digs_le hb
  refine ⟨rfl, Nat.le_refl _, by omega, ?_⟩
  have := reads_cap (reads_preL h j)
  rw [← List.map_take, ← e, List.length_map] at this
  exact this

theorem c_Cmp (a0 a1 : Option Addr) (n0 n1 c0 c1 : Nat) (l m : List Int) (w : World) (e0 : n0 = l.length) (e1 : n1 = m.length) (h0 : Reads w a0 c0 (l.map (Value.int .u8))) (h1 : Reads w a1 c1 (m.map (Value.int .u8))) (b0 : Byt l) (b1 : Byt m) (hc0 : n0 ≤ c0) (hc1 : n1 ≤ c1) (hm0 : n0 ≤ 100000) (hm1 : n1 ≤ 100000) :
    Calls Try.prog 17 #[.slice a0 n0 c0, .slice a1 n1 c1] w fun e w' => e = .returned (.int .i64 (cmpI (valI l) (valI m))) ∧ Below w.heap.size w w' := by
  obtain ⟨w2, hw2⟩ : ∃ z, z = ((w.alloc (.cells #[.slice a1 n1 c1] 22)).alloc (.cells #[.int .i64 0] 3)) := ⟨_, rfl⟩
  have hbel : Below w.heap.size w w2 := by rw [hw2]; exact bAlloc ((Below.refl _ w).alloc (Nat.le_refl _) _)
  have hsz : w2.heap.size = w.heap.size + 2 := by rw [hw2]; simp
  have r0 : Row w2 w.heap.size 22 [.slice a1 n1 c1] := by rw [hw2]; exact (Row.made w [.slice a1 n1 c1] 22).alloc _
  have r1 : Row w2 (w.heap.size + 1) 3 [.int .i64 0] := by
    rw [hw2]
    have := Row.made (w.alloc (.cells #[.slice a1 n1 c1] 22)) [.int .i64 0] 3
    simpa using this
  obtain ⟨q0, hq0⟩ : ∃ z, z = w.heap.size := ⟨_, rfl⟩
  obtain ⟨q1, hq1⟩ : ∃ z, z = w.heap.size + 1 := ⟨_, rfl⟩
  rw [← hq1] at r1
  rw [← hq0] at r0
  have HB := Lib.hid (bDrew hbel)
  have HR0 := Lib.hid (show Row w2.drew q0 22 [.slice a1 n1 c1] from r0)
  have HR1 := Lib.hid (show Row w2.drew q1 3 [.int .i64 0] from r1)
  have HQ := Lib.hid (And.intro hq0 (And.intro hq1 (show w2.drew.heap.size = w.heap.size + 2 from hsz)))
  have HQ2 := Lib.hid (And.intro hq0 hq1)
  have HW2 := Lib.hid hw2
  have HNA := Lib.hid (And.intro (numAt_of h0 b0 (by omega)) (numAt_of h1 b1 (by omega)))
  have HBY := Lib.hid (And.intro b0 b1)
  have HE := Lib.hid (show l.length ≤ 100000 ∧ m.length ≤ 100000 from by omega)
  have HC0 := Lib.hid (c_cut a0 n0 c0 l w2.drew e0 (h0.below HB.out) b0 hc0 (by omega))
  have HC1 := Lib.hid (c_cut a1 n1 c1 m w2.drew e1 (h1.below HB.out) b1 hc1 (by omega))
  clear hbel hsz r0 r1 hw2 hq0 hq1 e0 e1 h0 h1 b0 b1 hc0 hc1
  refine (callsIn_wide (n := 6)).1 ?_
  refine callsIn_of_wp_marks Try.func17 rfl trivial ?_ rfl
  simp only [Try.ntmps17, List.size_toArray, List.length_cons, List.length_nil, Nat.reduceAdd, Nat.reduceSub, Array.replicate_succ, Array.replicate_zero, List.push_toArray, List.append_toArray, List.nil_append, List.cons_append]
  refine wpIn_wide.2 (Code.wp_mono noPanic_to ?_)
  go_wp2
  rw [← HW2.out, ← HQ2.out.2, ← HQ2.out.1]
  refine wp_region_tree (.free 0 (.two 1 2 (.sole 2 (.sole 3 (.free 4 (.sole 5 .fin)))) (.sole 1 (.sole 3 (.free 4 (.sole 5 .fin)))))) (by kernel_rfl) (by kernel_rfl) (fun _ _ _ _ _ h => h) ?_
  obtain ⟨w3, hw3⟩ : ∃ z, z = w2.drew := ⟨_, rfl⟩
  rw [← hw3] at HB HR0 HR1 HQ HC0 HC1 ⊢
  clear hw3
  have j0 := HR0.out.cell (i := 0) rfl
  have f0 := HR0.out.free 0
  obtain ⟨k0, hk0⟩ : ∃ z, z = (digs (valI l)).length := ⟨_, rfl⟩
  obtain ⟨k1, hk1⟩ : ∃ z, z = (digs (valI m)).length := ⟨_, rfl⟩
  have HK := Lib.hid (And.intro hk0 hk1)
  have hkb : k0 ≤ 100000 ∧ k1 ≤ 100000 := by
    have h1 := digs_le HBY.out.1
    have h2 := digs_le HBY.out.2
    have h3 := HE.out
    omega
  rw [← hk0, ← hk1] at HNA
  clear hk0 hk1
  (repeat (refine wpTree_free rfl (fun K hK => ?_); go_simp; (try go_bits); refine hK _ ?_; clear hK K))
  refine wpTree_two rfl rfl ?_ ?_
  · go_wp2_with fail
    refine HC0.out.mono ?_
    rintro e w' ⟨⟨k, rfl, hq⟩, rfl⟩
    have ek : k0 = k := by rw [HK.out.1]; exact hq.1.symm
    subst ek
    go_wp2
    refine wpTree_sole rfl ?_
    go_wp2
    refine wpTree_sole rfl ?_
    go_wp2_with fail
    refine HC1.out.mono ?_
    rintro e w' ⟨⟨k, rfl, hq1⟩, rfl⟩
    have ek1 : k1 = k := by rw [HK.out.2]; exact hq1.1.symm
    subst ek1
    clear hq hq1
    go_wp2
    (repeat (refine wpTree_free rfl (fun K hK => ?_); go_simp; (try go_bits); refine hK _ ?_; clear hK K))
    refine wpTree_sole rfl ?_
    go_wp2
    refine wpTree_fin ?_
    obtain ⟨w4, hw4⟩ : ∃ z, z = w3.setCell ⟨q0, 0, none⟩ (.slice a1 k1 k1) := ⟨_, rfl⟩
    have R40 : Row w4 q0 22 [.slice a1 k1 k1] := by rw [hw4]; exact HR0.out.set 0 _
    have R41 : Row w4 q1 3 [.int .i64 0] := by rw [hw4]; exact HR1.out.setOther (p := ⟨q0, 0, none⟩) (by show q0 ≠ q1; have := HQ.out; omega) _
    have b4 : Below w.heap.size w w4 := by rw [hw4]; exact HB.out.setCell (p := ⟨q0, 0, none⟩) (by show w.heap.size ≤ q0; have := HQ.out; omega) _
    have s4 : w4.heap.size = w.heap.size + 2 := by rw [hw4]; simp [HQ.out.2.2]
    rw [← hw4]
    have HR40 := Lib.hid R40
    have HR41 := Lib.hid R41
    have HB4 := Lib.hid b4
    have HS4 := Lib.hid s4
    clear hw4 b4 s4 j0 f0 HR0 HR1 HB HC0 HC1
    have j0 := R40.cell (i := 0) rfl
    have j1 := R41.cell (i := 0) rfl
    have f1 := R41.free 0
    clear R40 R41
    by_cases hk : k0 = k1
    · have hk1m : k0 = (digs (valI m)).length := by rw [hk]; exact HK.out.2
      have HK1 := Lib.hid hk1m
      subst hk
      clear hk1m
      go_wp2_with fail
      refine ((callsIn_wide (n := 5)).1 (back_in Fence.wide 5 trivial rfl a0 k0 k0 w4)).mono ?_
      rintro e w5 ⟨rfl, rfl⟩
      go_wp2
      obtain ⟨w5, hw5⟩ : ∃ z, z = w4.alloc (.cells #[.slice a0 k0 k0] 22) := ⟨_, rfl⟩
      obtain ⟨Bs, hBs⟩ : ∃ z, z = w4.heap.size := ⟨_, rfl⟩
      have b45 : Below w4.heap.size w4 w5 := by rw [hw5]; exact (Below.refl _ w4).alloc (Nat.le_refl _) _
      have b5 : Below w.heap.size w w5 := bNext HB4.out b45
      have s5 : w5.heap.size = w.heap.size + 3 := by rw [hw5]; simp [HS4.out]
      have cB : w5.cell? ⟨Bs, 0, none⟩ = some (.slice a0 k0 k0) := by
        have := (Row.made w4 [.slice a0 k0 k0] 22).cell (i := 0) rfl
        rw [hw5, hBs]; exact this
      have sB : Bs = w.heap.size + 2 := by rw [hBs]; exact HS4.out
      have c50 : w5.cell? ⟨q0, 0, none⟩ = some (.slice a1 k0 k0) := cellKeep b45 j0
      have c51 : w5.cell? ⟨q1, 0, none⟩ = some (.int .i64 0) := cellKeep b45 j1
      have f51 : w5.frozen? ⟨q1, 0, none⟩ = false := Row.free (show Row w5 q1 3 [.int .i64 0] from (b45.block q1 HR41.out.lt).trans HR41.out) 0
      rw [← hw5, ← hBs]
      clear hw5 hBs b45 j0 j1 f1
      obtain ⟨D, hD⟩ : ∃ z, z = digs (valI m) := ⟨_, rfl⟩
      refine (wpIn_wide (n := 6)).1 ?_
      refine wpIn_rangeFunc_ownG rfl (by omega) (gf := 53) (lb := #[.pointer (some ⟨Bs, 0, none⟩)]) rfl trivial (enters_of Try.func53 (by kernel_rfl) rfl)
        (back_stops Fence.wide 5 trivial rfl (by omega) Bs w.heap.size k0 k0 a0 (digs (valI l)) HK.out.1 (by omega) w5 (by omega) (by omega) cB w HNA.out.1.2.2.2 (Nat.le_refl _) (HNA.out.1.2.2.2.below b5) (byt_digs _)) (fun h k => KpB.trans h k) (kpB_b (by omega) (by omega)) (Below.refl _ _) (fun _ => rfl)
        (fun pre W => ((∀ p ∈ pre, D[p.1 % k0]?.getD 0 = p.2 % 256) ∧ W.cell? ⟨q0, 0, none⟩ = some (.slice a1 k0 k0) ∧ W.cell? ⟨q1, 0, none⟩ = some (.int .i64 0) ∧ W.frozen? ⟨q1, 0, none⟩ = false) ∧ Below w.heap.size w W)
        (fun c pre W => (c = .ret ∧ ∃ ini last, pre = ini ++ [last] ∧ (∀ p ∈ ini, D[p.1 % k0]?.getD 0 = p.2 % 256) ∧ ∃ v : Int, (v = -1 ∧ last.2 % 256 < D[last.1 % k0]?.getD 0 ∨ v = 1 ∧ D[last.1 % k0]?.getD 0 < last.2 % 256) ∧ W.cell? ⟨q1, 0, none⟩ = some (.int .i64 v)) ∧ Below w.heap.size w W)
        (OwnFrom.and (Own.from (fun s A B row hs hg hr => ⟨hs.1, cell_kept hs.2.1 hg hr, cell_kept hs.2.2.1 hg hr, (frozen_kept hs.2.2.1 hg hr).trans hs.2.2.2⟩) _) (ownFrom_below (Nat.le_refl _) (by omega)))
        (fun c => OwnFrom.and (Own.from (fun s A B row hs hg hr => by obtain ⟨hc, ini, last, e1, e2, v, e3, e4⟩ := hs; exact ⟨hc, ini, last, e1, e2, v, e3, cell_kept e4 hg hr⟩) _) (ownFrom_below (Nat.le_refl _) (by omega)))
        ⟨⟨by simp, c50, c51, f51⟩, b5⟩
        (fun x => { tmps := #[.slice a0 k0 k0, .slice a1 n1 c1, undef, .pointer (some ⟨q0, 0, none⟩), .pointer (some ⟨q1, 0, none⟩), .int .i64 ((x.1 : Int) % (k0 : Int)), .int .u8 (x.2 % 256), .slice a0 n0 c0, .slice a0 k0 k0, .slice a1 n1 c1, .slice a1 k0 k0, .slice a0 k0 k0, .int .i64 k0, .slice a1 k0 k0, .int .i64 k0, .bool false, undef, undef, undef, undef, undef, .slice a0 k0 k0, .func (.func 53) #[] #[.pointer (some ⟨Bs, 0, none⟩)], .int .i64 ((x.1 : Int) % (k0 : Int)), .int .u8 (x.2 % 256), undef, undef, undef, undef, undef, undef, undef, undef, undef, undef, undef, undef, undef, undef], defers := [] }) ?assign ?body ?done ?stop
      case assign =>
        clear sB s5
        intro l x W K hK
        gi_wp2
        exact hK
      case body =>
        clear sB s5
        rintro l2 pre x W ⟨⟨hp, cq0, cq1, fq1⟩, hBW⟩ hlt
        have hpos : 0 < k0 := by omega
        have hi : x.1 % k0 < k0 := Nat.mod_lt _ hpos
        have hc : 0 ≤ x.2 % 256 ∧ x.2 % 256 ≤ 255 := by omega
        have hDl : k0 = D.length := by rw [hD]; exact HK1.out
        have hDb : Byt D := by rw [hD]; exact byt_digs _
        obtain ⟨b9, o9, ha9, _, hcs⟩ := (HNA.out.2.2.2.2.below hBW).at (by rw [← hD, List.length_map]; omega)
        have hcd := hcs (x.1 % k0) _ (by rw [← hD]; exact getD_map8 (by omega))
        have hdr : 0 ≤ D.getD (x.1 % k0) 0 ∧ D.getD (x.1 % k0) 0 ≤ 255 := by rw [List.getD_eq_getElem?_getD]; exact byte_at hDb _
        have hgd : D[x.1 % k0]?.getD 0 = D.getD (x.1 % k0) 0 := by rw [List.getD_eq_getElem?_getD]
        have HP := Lib.hid hp
        have HGD := Lib.hid hgd
        have HA9 := Lib.hid ha9
        rw [ha9] at cq0
        obtain ⟨i, hie⟩ : ∃ i, i = x.1 % k0 := ⟨_, rfl⟩
        obtain ⟨c, hce⟩ : ∃ c, c = x.2 % 256 := ⟨_, rfl⟩
        have hcast : ((x.1 : Int) % (k0 : Int)) = (i : Int) := by rw [hie]; simp
        rw [hcast, ← hce]
        clear hcast
        rw [← hie] at hi hcd hdr HGD
        rw [← hce] at hc
        obtain ⟨d, hde⟩ : ∃ d, d = D.getD i 0 := ⟨_, rfl⟩
        rw [← hde] at hcd hdr HGD
        have HX := Lib.hid (And.intro hie (And.intro hce hde))
        clear hcs hp hgd hDl hDb ha9 hie hce hde hlt
        gi_wp2
        · have hlt : c < d := by assumption
          exact ⟨(KeepsOthers.setCell _ _ _).from _, ⟨rfl, pre, x, rfl, HP.out, -1, .inl ⟨rfl, by rw [← HX.out.1, ← HX.out.2.1, HGD.out]; exact hlt⟩, World.cell?_setCell_same' _ _ _ (by rw [cq1]; rfl)⟩, hBW.setCell (p := ⟨q1, 0, none⟩) (by show w.heap.size ≤ q1; have := HQ.out; omega) _⟩
        · have hlt : d < c := by assumption
          exact ⟨(KeepsOthers.setCell _ _ _).from _, ⟨rfl, pre, x, rfl, HP.out, 1, .inr ⟨rfl, by rw [← HX.out.1, ← HX.out.2.1, HGD.out]; exact hlt⟩, World.cell?_setCell_same' _ _ _ (by rw [cq1]; rfl)⟩, hBW.setCell (p := ⟨q1, 0, none⟩) (by show w.heap.size ≤ q1; have := HQ.out; omega) _⟩
        · refine ⟨KeepsFrom.refl _ _, KpB.refl _ _ _, ⟨fun p hp => ?_, by rw [HA9.out]; exact cq0, cq1, fq1⟩, hBW⟩
          rcases List.mem_append.1 hp with hp | hp
          · exact HP.out p hp
          · simp only [List.mem_singleton] at hp
            rw [hp, ← HX.out.1, ← HX.out.2.1, HGD.out]
            omega
      case done =>
        rintro D2 ys W hD2 rfl ⟨⟨hp, cq0, cq1, fq1⟩, hBW⟩ hK
        have hv : cmpI (valI l) (valI m) = 0 := by
          have hz : D = digs (valI l) := back_all HK.out.1 (by rw [hD]; exact HK1.out) (byt_digs _) hp
          have : valI l = valI m := by rw [← valI_digs (valI l), ← hz, hD, valI_digs]
          rw [this]; unfold cmpI; rw [if_neg (Nat.lt_irrefl _), if_neg (Nat.lt_irrefl _)]
        have HV := Lib.hid hv
        have hDw : w.heap.size ≤ D2 := by omega
        clear hv hp sB s5
        go_wp2
        have hK' := (KeepsOthers.setCell W ⟨q1, 0, none⟩ (.int .i64 0)).same D2 _ hK rfl
        have hc5 := cell_kept (World.cell?_setCell_same' W ⟨q1, 0, none⟩ (.int .i64 0) (by rw [cq1]; rfl)) (grownBy_putObj' _ D2 (.deferred none)) (fun r e => by cases e; exact ⟨_, hK', rfl⟩)
        refine ⟨by simp, .inl ⟨_, _, rfl, run_takeDeferred hK', ?_⟩⟩
        exact ⟨.int .i64 0, by rw [results_cellL rfl]; go_simp, by rw [HV.out], (hBW.setCell (p := ⟨q1, 0, none⟩) (by show w.heap.size ≤ q1; have := HQ.out; omega) _).trans (belowK_b (w := w) (Nat.le_refl _) _ D2 _ _ (by omega) hK' rfl rfl)⟩
      case stop =>
        rintro D2 cc pre W hD2 ⟨k, hk, rfl⟩ ⟨⟨rfl, ini, last, e1, e2, v, e3, cq1⟩, hBW⟩ hK
        have hv : cmpI (valI l) (valI m) = v := by
          obtain ⟨k', rfl⟩ : ∃ k', k = k' + 1 := by
            cases k with
            | zero => simp [upto] at e1
            | succ k' => exact ⟨k', rfl⟩
          rw [upto_succ] at e1
          obtain ⟨rfl, e5⟩ := List.append_inj' e1 rfl
          obtain rfl : backAt (digs (valI l)) k' = last := by simpa using e5
          have hDl : k0 = D.length := by rw [hD]; exact HK1.out
          have hDb : Byt D := by rw [hD]; exact byt_digs _
          have hdr := back_drop HK.out.1 hDl (byt_digs _) (by omega) e2
          have hi : k0 - 1 - k' < k0 := by omega
          have hb1 := byte_at (byt_digs (valI l)) (k0 - 1 - k')
          have hb2 := byte_at hDb (k0 - 1 - k')
          unfold backAt at e3
          dsimp only at e3
          rw [← HK.out.1, Nat.mod_eq_of_lt hi, Int.emod_eq_of_lt hb1.1 (by omega)] at e3
          have el : valI (digs (valI l)) = valI l := valI_digs _
          have em : valI D = valI m := by rw [hD]; exact valI_digs _
          have hll : (digs (valI l)).length = D.length := by rw [← HK.out.1]; exact hDl
          rcases e3 with ⟨rfl, h⟩ | ⟨rfl, h⟩
          · have := val_lt_at (byt_digs (valI l)) hll (by rw [← HK.out.1]; exact hi) hdr (by simp only [List.getD_eq_getElem?_getD]; omega)
            rw [el, em] at this
            unfold cmpI; rw [if_pos this]
          · have := val_lt_at hDb hll.symm (by rw [← hDl]; exact hi) hdr.symm (by simp only [List.getD_eq_getElem?_getD]; omega)
            rw [el, em] at this
            unfold cmpI; rw [if_neg (by omega), if_pos this]
        have HV := Lib.hid hv
        have hDw : w.heap.size ≤ D2 := by omega
        clear hv e1 e2 e3 sB s5
        gi_wp2
        have hc5 := cell_kept cq1 (grownBy_putObj' _ D2 (.deferred none)) (fun r e => by cases e; exact ⟨_, hK, rfl⟩)
        refine ⟨by simp, .inl ⟨_, _, rfl, run_takeDeferred hK, ?_⟩⟩
        exact ⟨.int .i64 v, by rw [results_cellL rfl]; go_simp, by rw [HV.out], hBW.trans (belowK_b (w := w) (Nat.le_refl _) _ D2 _ _ (by omega) hK rfl rfl)⟩
    · have g0 : ((k0 : Int) == (k1 : Int)) = false := by simp; omega
      have g1 : ((k0 : Int) != (k1 : Int)) = true := by simp; omega
      have g2 : (k0 == k1) = false := by simpa using hk
      by_cases hlt : k0 < k1
      · have hv : cmpI (valI l) (valI m) = -1 := by
          unfold cmpI
          rw [if_pos (digs_len_lt (by rw [← HK.out.1, ← HK.out.2]; exact hlt))]
        have g3 : ((k0 : Int) < k1) = True := eq_true (by omega)
        have HV := Lib.hid hv
        clear hv
        go_wp2
        have z0 := (HR41.out.set 0 (.int .i64 (-1))).cell (i := 0) rfl
        refine ⟨.int .i64 (-1), by rw [results_cellL rfl]; go_simp, by rw [HV.out], HB4.out.setCell (p := ⟨q1, 0, none⟩) (by show w.heap.size ≤ q1; have := HQ.out; omega) _⟩
      · have hv : cmpI (valI l) (valI m) = 1 := by
          have h := digs_len_lt (a := valI m) (b := valI l) (by rw [← HK.out.1, ← HK.out.2]; omega)
          unfold cmpI
          rw [if_neg (by omega), if_pos h]
        have g3 : ((k0 : Int) < k1) = False := eq_false (by omega)
        have g4 : (k0 < k1) = False := eq_false (by omega)
        have HV := Lib.hid hv
        clear hv
        go_wp2
        have z0 := (HR41.out.set 0 (.int .i64 1)).cell (i := 0) rfl
        refine ⟨.int .i64 1, by rw [results_cellL rfl]; go_simp, by rw [HV.out], HB4.out.setCell (p := ⟨q1, 0, none⟩) (by show w.heap.size ≤ q1; have := HQ.out; omega) _⟩
  · go_wp2
    refine wpTree_sole rfl ?_
    go_wp2_with fail
    refine HC0.out.mono ?_
    rintro e w' ⟨⟨k, rfl, hq⟩, rfl⟩
    have ek : k0 = k := by rw [HK.out.1]; exact hq.1.symm
    subst ek
    go_wp2
    refine wpTree_sole rfl ?_
    go_wp2_with fail
    refine HC1.out.mono ?_
    rintro e w' ⟨⟨k, rfl, hq1⟩, rfl⟩
    have ek1 : k1 = k := by rw [HK.out.2]; exact hq1.1.symm
    subst ek1
    clear hq hq1
    go_wp2
    (repeat (refine wpTree_free rfl (fun K hK => ?_); go_simp; (try go_bits); refine hK _ ?_; clear hK K))
    refine wpTree_sole rfl ?_
    go_wp2
    refine wpTree_fin ?_
    obtain ⟨w4, hw4⟩ : ∃ z, z = w3.setCell ⟨q0, 0, none⟩ (.slice a1 k1 k1) := ⟨_, rfl⟩
    have R40 : Row w4 q0 22 [.slice a1 k1 k1] := by rw [hw4]; exact HR0.out.set 0 _
    have R41 : Row w4 q1 3 [.int .i64 0] := by rw [hw4]; exact HR1.out.setOther (p := ⟨q0, 0, none⟩) (by show q0 ≠ q1; have := HQ.out; omega) _
    have b4 : Below w.heap.size w w4 := by rw [hw4]; exact HB.out.setCell (p := ⟨q0, 0, none⟩) (by show w.heap.size ≤ q0; have := HQ.out; omega) _
    have s4 : w4.heap.size = w.heap.size + 2 := by rw [hw4]; simp [HQ.out.2.2]
    rw [← hw4]
    have HR40 := Lib.hid R40
    have HR41 := Lib.hid R41
    have HB4 := Lib.hid b4
    have HS4 := Lib.hid s4
    clear hw4 b4 s4 j0 f0 HR0 HR1 HB HC0 HC1
    have j0 := R40.cell (i := 0) rfl
    have j1 := R41.cell (i := 0) rfl
    have f1 := R41.free 0
    clear R40 R41
    by_cases hk : k0 = k1
    · have hk1m : k0 = (digs (valI m)).length := by rw [hk]; exact HK.out.2
      have HK1 := Lib.hid hk1m
      subst hk
      clear hk1m
      go_wp2_with fail
      refine ((callsIn_wide (n := 5)).1 (back_in Fence.wide 5 trivial rfl a0 k0 k0 w4)).mono ?_
      rintro e w5 ⟨rfl, rfl⟩
      go_wp2
      obtain ⟨w5, hw5⟩ : ∃ z, z = w4.alloc (.cells #[.slice a0 k0 k0] 22) := ⟨_, rfl⟩
      obtain ⟨Bs, hBs⟩ : ∃ z, z = w4.heap.size := ⟨_, rfl⟩
      have b45 : Below w4.heap.size w4 w5 := by rw [hw5]; exact (Below.refl _ w4).alloc (Nat.le_refl _) _
      have b5 : Below w.heap.size w w5 := bNext HB4.out b45
      have s5 : w5.heap.size = w.heap.size + 3 := by rw [hw5]; simp [HS4.out]
      have cB : w5.cell? ⟨Bs, 0, none⟩ = some (.slice a0 k0 k0) := by
        have := (Row.made w4 [.slice a0 k0 k0] 22).cell (i := 0) rfl
        rw [hw5, hBs]; exact this
      have sB : Bs = w.heap.size + 2 := by rw [hBs]; exact HS4.out
      have c50 : w5.cell? ⟨q0, 0, none⟩ = some (.slice a1 k0 k0) := cellKeep b45 j0
      have c51 : w5.cell? ⟨q1, 0, none⟩ = some (.int .i64 0) := cellKeep b45 j1
      have f51 : w5.frozen? ⟨q1, 0, none⟩ = false := Row.free (show Row w5 q1 3 [.int .i64 0] from (b45.block q1 HR41.out.lt).trans HR41.out) 0
      rw [← hw5, ← hBs]
      clear hw5 hBs b45 j0 j1 f1
      obtain ⟨D, hD⟩ : ∃ z, z = digs (valI m) := ⟨_, rfl⟩
      refine (wpIn_wide (n := 6)).1 ?_
      refine wpIn_rangeFunc_ownG rfl (by omega) (gf := 53) (lb := #[.pointer (some ⟨Bs, 0, none⟩)]) rfl trivial (enters_of Try.func53 (by kernel_rfl) rfl)
        (back_stops Fence.wide 5 trivial rfl (by omega) Bs w.heap.size k0 k0 a0 (digs (valI l)) HK.out.1 (by omega) w5 (by omega) (by omega) cB w HNA.out.1.2.2.2 (Nat.le_refl _) (HNA.out.1.2.2.2.below b5) (byt_digs _)) (fun h k => KpB.trans h k) (kpB_b (by omega) (by omega)) (Below.refl _ _) (fun _ => rfl)
        (fun pre W => ((∀ p ∈ pre, D[p.1 % k0]?.getD 0 = p.2 % 256) ∧ W.cell? ⟨q0, 0, none⟩ = some (.slice a1 k0 k0) ∧ W.cell? ⟨q1, 0, none⟩ = some (.int .i64 0) ∧ W.frozen? ⟨q1, 0, none⟩ = false) ∧ Below w.heap.size w W)
        (fun c pre W => (c = .ret ∧ ∃ ini last, pre = ini ++ [last] ∧ (∀ p ∈ ini, D[p.1 % k0]?.getD 0 = p.2 % 256) ∧ ∃ v : Int, (v = -1 ∧ last.2 % 256 < D[last.1 % k0]?.getD 0 ∨ v = 1 ∧ D[last.1 % k0]?.getD 0 < last.2 % 256) ∧ W.cell? ⟨q1, 0, none⟩ = some (.int .i64 v)) ∧ Below w.heap.size w W)
        (OwnFrom.and (Own.from (fun s A B row hs hg hr => ⟨hs.1, cell_kept hs.2.1 hg hr, cell_kept hs.2.2.1 hg hr, (frozen_kept hs.2.2.1 hg hr).trans hs.2.2.2⟩) _) (ownFrom_below (Nat.le_refl _) (by omega)))
        (fun c => OwnFrom.and (Own.from (fun s A B row hs hg hr => by obtain ⟨hc, ini, last, e1, e2, v, e3, e4⟩ := hs; exact ⟨hc, ini, last, e1, e2, v, e3, cell_kept e4 hg hr⟩) _) (ownFrom_below (Nat.le_refl _) (by omega)))
        ⟨⟨by simp, c50, c51, f51⟩, b5⟩
        (fun x => { tmps := #[.slice a0 k0 k0, .slice a1 n1 c1, undef, .pointer (some ⟨q0, 0, none⟩), .pointer (some ⟨q1, 0, none⟩), .int .i64 ((x.1 : Int) % (k0 : Int)), .int .u8 (x.2 % 256), .slice a0 n0 c0, .slice a0 k0 k0, .slice a1 n1 c1, .slice a1 k0 k0, .slice a0 k0 k0, .int .i64 k0, .slice a1 k0 k0, .int .i64 k0, .bool false, undef, undef, undef, undef, undef, .slice a0 k0 k0, .func (.func 53) #[] #[.pointer (some ⟨Bs, 0, none⟩)], .int .i64 ((x.1 : Int) % (k0 : Int)), .int .u8 (x.2 % 256), undef, undef, undef, undef, undef, undef, undef, undef, undef, undef, undef, undef, undef, undef], defers := [] }) ?assign ?body ?done ?stop
      case assign =>
        clear sB s5
        intro l x W K hK
        gi_wp2
        exact hK
      case body =>
        clear sB s5
        rintro l2 pre x W ⟨⟨hp, cq0, cq1, fq1⟩, hBW⟩ hlt
        have hpos : 0 < k0 := by omega
        have hi : x.1 % k0 < k0 := Nat.mod_lt _ hpos
        have hc : 0 ≤ x.2 % 256 ∧ x.2 % 256 ≤ 255 := by omega
        have hDl : k0 = D.length := by rw [hD]; exact HK1.out
        have hDb : Byt D := by rw [hD]; exact byt_digs _
        obtain ⟨b9, o9, ha9, _, hcs⟩ := (HNA.out.2.2.2.2.below hBW).at (by rw [← hD, List.length_map]; omega)
        have hcd := hcs (x.1 % k0) _ (by rw [← hD]; exact getD_map8 (by omega))
        have hdr : 0 ≤ D.getD (x.1 % k0) 0 ∧ D.getD (x.1 % k0) 0 ≤ 255 := by rw [List.getD_eq_getElem?_getD]; exact byte_at hDb _
        have hgd : D[x.1 % k0]?.getD 0 = D.getD (x.1 % k0) 0 := by rw [List.getD_eq_getElem?_getD]
        have HP := Lib.hid hp
        have HGD := Lib.hid hgd
        have HA9 := Lib.hid ha9
        rw [ha9] at cq0
        obtain ⟨i, hie⟩ : ∃ i, i = x.1 % k0 := ⟨_, rfl⟩
        obtain ⟨c, hce⟩ : ∃ c, c = x.2 % 256 := ⟨_, rfl⟩
        have hcast : ((x.1 : Int) % (k0 : Int)) = (i : Int) := by rw [hie]; simp
        rw [hcast, ← hce]
        clear hcast
        rw [← hie] at hi hcd hdr HGD
        rw [← hce] at hc
        obtain ⟨d, hde⟩ : ∃ d, d = D.getD i 0 := ⟨_, rfl⟩
        rw [← hde] at hcd hdr HGD
        have HX := Lib.hid (And.intro hie (And.intro hce hde))
        clear hcs hp hgd hDl hDb ha9 hie hce hde hlt
        gi_wp2
        · have hlt : c < d := by assumption
          exact ⟨(KeepsOthers.setCell _ _ _).from _, ⟨rfl, pre, x, rfl, HP.out, -1, .inl ⟨rfl, by rw [← HX.out.1, ← HX.out.2.1, HGD.out]; exact hlt⟩, World.cell?_setCell_same' _ _ _ (by rw [cq1]; rfl)⟩, hBW.setCell (p := ⟨q1, 0, none⟩) (by show w.heap.size ≤ q1; have := HQ.out; omega) _⟩
        · have hlt : d < c := by assumption
          exact ⟨(KeepsOthers.setCell _ _ _).from _, ⟨rfl, pre, x, rfl, HP.out, 1, .inr ⟨rfl, by rw [← HX.out.1, ← HX.out.2.1, HGD.out]; exact hlt⟩, World.cell?_setCell_same' _ _ _ (by rw [cq1]; rfl)⟩, hBW.setCell (p := ⟨q1, 0, none⟩) (by show w.heap.size ≤ q1; have := HQ.out; omega) _⟩
        · refine ⟨KeepsFrom.refl _ _, KpB.refl _ _ _, ⟨fun p hp => ?_, by rw [HA9.out]; exact cq0, cq1, fq1⟩, hBW⟩
          rcases List.mem_append.1 hp with hp | hp
          · exact HP.out p hp
          · simp only [List.mem_singleton] at hp
            rw [hp, ← HX.out.1, ← HX.out.2.1, HGD.out]
            omega
      case done =>
        rintro D2 ys W hD2 rfl ⟨⟨hp, cq0, cq1, fq1⟩, hBW⟩ hK
        have hv : cmpI (valI l) (valI m) = 0 := by
          have hz : D = digs (valI l) := back_all HK.out.1 (by rw [hD]; exact HK1.out) (byt_digs _) hp
          have : valI l = valI m := by rw [← valI_digs (valI l), ← hz, hD, valI_digs]
          rw [this]; unfold cmpI; rw [if_neg (Nat.lt_irrefl _), if_neg (Nat.lt_irrefl _)]
        have HV := Lib.hid hv
        have hDw : w.heap.size ≤ D2 := by omega
        clear hv hp sB s5
        go_wp2
        have hK' := (KeepsOthers.setCell W ⟨q1, 0, none⟩ (.int .i64 0)).same D2 _ hK rfl
        have hc5 := cell_kept (World.cell?_setCell_same' W ⟨q1, 0, none⟩ (.int .i64 0) (by rw [cq1]; rfl)) (grownBy_putObj' _ D2 (.deferred none)) (fun r e => by cases e; exact ⟨_, hK', rfl⟩)
        refine ⟨by simp, .inl ⟨_, _, rfl, run_takeDeferred hK', ?_⟩⟩
        exact ⟨.int .i64 0, by rw [results_cellL rfl]; go_simp, by rw [HV.out], (hBW.setCell (p := ⟨q1, 0, none⟩) (by show w.heap.size ≤ q1; have := HQ.out; omega) _).trans (belowK_b (w := w) (Nat.le_refl _) _ D2 _ _ (by omega) hK' rfl rfl)⟩
      case stop =>
        rintro D2 cc pre W hD2 ⟨k, hk, rfl⟩ ⟨⟨rfl, ini, last, e1, e2, v, e3, cq1⟩, hBW⟩ hK
        have hv : cmpI (valI l) (valI m) = v := by
          obtain ⟨k', rfl⟩ : ∃ k', k = k' + 1 := by
            cases k with
            | zero => simp [upto] at e1
            | succ k' => exact ⟨k', rfl⟩
          rw [upto_succ] at e1
          obtain ⟨rfl, e5⟩ := List.append_inj' e1 rfl
          obtain rfl : backAt (digs (valI l)) k' = last := by simpa using e5
          have hDl : k0 = D.length := by rw [hD]; exact HK1.out
          have hDb : Byt D := by rw [hD]; exact byt_digs _
          have hdr := back_drop HK.out.1 hDl (byt_digs _) (by omega) e2
          have hi : k0 - 1 - k' < k0 := by omega
          have hb1 := byte_at (byt_digs (valI l)) (k0 - 1 - k')
          have hb2 := byte_at hDb (k0 - 1 - k')
          unfold backAt at e3
          dsimp only at e3
          rw [← HK.out.1, Nat.mod_eq_of_lt hi, Int.emod_eq_of_lt hb1.1 (by omega)] at e3
          have el : valI (digs (valI l)) = valI l := valI_digs _
          have em : valI D = valI m := by rw [hD]; exact valI_digs _
          have hll : (digs (valI l)).length = D.length := by rw [← HK.out.1]; exact hDl
          rcases e3 with ⟨rfl, h⟩ | ⟨rfl, h⟩
          · have := val_lt_at (byt_digs (valI l)) hll (by rw [← HK.out.1]; exact hi) hdr (by simp only [List.getD_eq_getElem?_getD]; omega)
            rw [el, em] at this
            unfold cmpI; rw [if_pos this]
          · have := val_lt_at hDb hll.symm (by rw [← hDl]; exact hi) hdr.symm (by simp only [List.getD_eq_getElem?_getD]; omega)
            rw [el, em] at this
            unfold cmpI; rw [if_neg (by omega), if_pos this]
        have HV := Lib.hid hv
        have hDw : w.heap.size ≤ D2 := by omega
        clear hv e1 e2 e3 sB s5
        gi_wp2
        have hc5 := cell_kept cq1 (grownBy_putObj' _ D2 (.deferred none)) (fun r e => by cases e; exact ⟨_, hK, rfl⟩)
        refine ⟨by simp, .inl ⟨_, _, rfl, run_takeDeferred hK, ?_⟩⟩
        exact ⟨.int .i64 v, by rw [results_cellL rfl]; go_simp, by rw [HV.out], hBW.trans (belowK_b (w := w) (Nat.le_refl _) _ D2 _ _ (by omega) hK rfl rfl)⟩
    · have g0 : ((k0 : Int) == (k1 : Int)) = false := by simp; omega
      have g1 : ((k0 : Int) != (k1 : Int)) = true := by simp; omega
      have g2 : (k0 == k1) = false := by simpa using hk
      by_cases hlt : k0 < k1
      · have hv : cmpI (valI l) (valI m) = -1 := by
          unfold cmpI
          rw [if_pos (digs_len_lt (by rw [← HK.out.1, ← HK.out.2]; exact hlt))]
        have g3 : ((k0 : Int) < k1) = True := eq_true (by omega)
        have HV := Lib.hid hv
        clear hv
        go_wp2
        have z0 := (HR41.out.set 0 (.int .i64 (-1))).cell (i := 0) rfl
        refine ⟨.int .i64 (-1), by rw [results_cellL rfl]; go_simp, by rw [HV.out], HB4.out.setCell (p := ⟨q1, 0, none⟩) (by show w.heap.size ≤ q1; have := HQ.out; omega) _⟩
      · have hv : cmpI (valI l) (valI m) = 1 := by
          have h := digs_len_lt (a := valI m) (b := valI l) (by rw [← HK.out.1, ← HK.out.2]; omega)
          unfold cmpI
          rw [if_neg (by omega), if_pos h]
        have g3 : ((k0 : Int) < k1) = False := eq_false (by omega)
        have g4 : (k0 < k1) = False := eq_false (by omega)
        have HV := Lib.hid hv
        clear hv
        go_wp2
        have z0 := (HR41.out.set 0 (.int .i64 1)).cell (i := 0) rfl
        refine ⟨.int .i64 1, by rw [results_cellL rfl]; go_simp, by rw [HV.out], HB4.out.setCell (p := ⟨q1, 0, none⟩) (by show w.heap.size ≤ q1; have := HQ.out; omega) _⟩

end Go.Proofs.Ytdafncaehjipbaa
