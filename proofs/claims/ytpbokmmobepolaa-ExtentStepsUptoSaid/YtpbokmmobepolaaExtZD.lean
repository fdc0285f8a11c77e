/-
  The reference: Put.
-/
import Derived.Test.YtpbokmmobepolaaExtZC
namespace Go.Proofs.Ytpbokmmobepolaa
open Go.RowKit Go.Maps
set_option linter.unusedVariables false
set_option maxHeartbeats 4000000
set_option maxRecDepth 20000

theorem results_tct {fn : Func} {p q r : Tmp} {ty : TypeId} (h : fn.results = #[.tmp p, .cell q ty, .tmp r]) (tmps : Array Value) (P : Program) (w : World) :
    (results fn tmps).run P w = ((asAddr (tmps.getD q undef)).run P w).andThen fun ad w₁ => ((loadVar ty ad).run P w₁).andThen fun v w₂ => .ok (.tuple #[tmps.getD p undef, v, tmps.getD r undef]) w₂ := by
  simp only [results, h]
  simp [Sem.run_bind, Result.andThen]

theorem own_ne_row {w : World} {base : Nat} {e t : TypeId} {s n g : Nat} {v : Value} {xs ys : List Value} (h : w.ownsRow base e s v n xs) (hr : Row w g t ys) (ht : e ≠ t) : v.ownBlock ≠ some g := by
  intro hk
  rcases h.2 with ⟨rfl, _⟩ | ⟨g1, c1, cur1, rfl, _, hg1, _⟩
  · cases hk
  · simp [Value.ownBlock] at hk
    subst hk
    have hr' := hr
    unfold Row at hr'
    rw [hg1] at hr'
    simp at hr'
    exact ht hr'.2
theorem upd_own {b c : World} {v : Value} (gr : b.grownBy c v.ownBlock) : Upd v.ownBlock.toList b c :=
  ⟨gr.os, gr.tape, gr.output, gr.size, fun k hk hn => gr.block k hk (fun e => hn (by rw [← e]; simp))⟩

/-- What the reference's Put hands back. -/
def RPut (w : World) (N : Nat) (a : Option Addr) (n c : Nat) (rs : List RwB) (d : List Int) (e : Ending) (w' : World) : Prop :=
  Below w.heap.size w w' ∧
  ((FirstL (Lof rs) N (secs d.length) none ∧ e = .returned (.tuple #[.slice a n c, exA 0 0 0, .int .i64 3])) ∨
   ∃ (F : Nat) (v : Value) (r : RwB), FirstL (Lof rs) N (secs d.length) (some F) ∧ r.x = (F, d) ∧ e = .returned (.tuple #[v, exA F (secs d.length) d.length, .int .i64 0]) ∧
     w'.ownsRow w.heap.size 54 4 v (rs ++ [r]).length (flatW (rs ++ [r])) ∧ r.ok w' w.heap.size)

theorem r_Put {w : World} {B : Nat} {a : Option Addr} {n c : Nat} {rs : List RwB} (h : RowsAt w B a n c rs) (hm : n ≤ 300) (N : Nat) (hN : N ≤ 300) (hfit : ∀ x ∈ Lof rs, x.1 + rN x ≤ 300)
    (d : List Int) (da : Option Addr) (dn dc : Nat) (e0 : dn = d.length) (hdn : dn ≤ 100000) (hb : Byt d) (hr : Reads w da dc (d.map (Value.int .u8))) (hcap : dn ≤ dc) :
    Calls Try.prog 19 #[.slice a n c, .int .i64 N, .slice da dn dc] w (RPut w N a n c rs d) := by
  subst e0
  have hsl := secs_le d.length
  have hsp := secs_pos d.length
  obtain ⟨X, hX⟩ : ∃ X, X = w.heap.size := ⟨_, rfl⟩
  obtain ⟨W, hW⟩ : ∃ W, W = w.alloc (.cells #[.int .i64 0, .int .i64 0, .int .i64 0] 34) := ⟨_, rfl⟩
  have bW : Below w.heap.size w W := by rw [hW]; exact (Below.refl _ _).alloc (Nat.le_refl _) _
  have rX : Row W X 34 [.int .i64 0, .int .i64 0, .int .i64 0] := by rw [hW, hX]; exact Row.made w _ _
  have HF := Lib.hid (r_First (h.below bW) (by omega) N (secs d.length) hN hsp (by omega) hfit)
  have HR := Lib.hid h
  have HRD := Lib.hid hr
  have HBY := Lib.hid hb
  have HBW := Lib.hid bW
  have HRX := Lib.hid rX
  have HW := Lib.hid hW
  have HXX := Lib.hid hX
  clear h hr hb hX hW bW rX hfit
  go_enter Try.func19, Try.ntmps19
  go_wp2_with fail
  rw [← HW.out, ← HXX.out]
  clear HW
  refine (c_RSectors d.length _ (by omega)).mono ?_
  rintro e w' ⟨rfl, rfl⟩
  go_wp2_with fail
  refine HF.out.mono ?_
  clear HF
  rintro e w2 ⟨o, ho, rfl, hb2⟩
  have HO := Lib.hid ho
  have HB2 := Lib.hid (bNext HBW.out hb2)
  have HRX := Lib.hid (HRX.out.keep (l := []) (.of_below hb2) (by simp))
  clear ho hb2
  cases o with
  | none =>
    have x0 := HRX.out.free 0
    have x1 := HRX.out.free 1
    have x2 := HRX.out.free 2
    have y0 := HRX.out.cell (i := 0) rfl
    have y1 := HRX.out.cell (i := 1) rfl
    have y2 := HRX.out.cell (i := 2) rfl
    unfold firstI
    go_wp2_with fail
    obtain ⟨v3, hv3⟩ : ∃ v3, v3 = ((w2.setCell ⟨X, 0, none⟩ (.int .i64 0)).setCell ⟨X, 1, none⟩ (.int .i64 0)).setCell ⟨X, 2, none⟩ (.int .i64 0) := ⟨_, rfl⟩
    have hR3 : Row v3 X 34 [.int .i64 0, .int .i64 0, .int .i64 0] := by rw [hv3]; exact ((HRX.out.set 0 _).set 1 _).set 2 _
    have u3 : Upd [X] w2 v3 := by rw [hv3]; exact (((Upd.refl [X] w2).setCell (by simp) _).setCell (by simp) _).setCell (by simp) _
    rw [← hv3]
    have HU3 := Lib.hid u3
    clear hv3 u3 y0 y1 y2 x0 x1 x2
    have z0 := hR3.cell (i := 0) rfl
    have z1 := hR3.cell (i := 1) rfl
    have z2 := hR3.cell (i := 2) rfl
    clear hR3
    (try simp only [Exit.inBlock, Exit.then])
    refine bodyPost_ret (by rw [results_tct rfl]; go_simp; rfl) rfl ?_
    refine ⟨HB2.out.trans (HU3.out.below HB2.out.size (fun k hk => by have := HXX.out; simp at hk; omega)), .inl ⟨HO.out, rfl⟩⟩
  | some F =>
    have hfit2 : F + secs d.length ≤ N := HO.out.1
    obtain ⟨X2, hX2⟩ : ∃ z, z = w2.heap.size := ⟨_, rfl⟩
    obtain ⟨W2, hW2⟩ : ∃ z, z = w2.alloc (.cells #[.int .i64 F, .int .i64 (secs d.length : Nat), .int .i64 (d.length : Nat)] 34) := ⟨_, rfl⟩
    have bW2 : Below w2.heap.size w2 W2 := by rw [hW2]; exact (Below.refl _ _).alloc (Nat.le_refl _) _
    have HNE : Hid (X2 ∉ [X]) := fun hm => by have := HRX.out.lt; simp at hm; omega
    have HRX2 : Hid (Row W2 X2 34 [.int .i64 F, .int .i64 (secs d.length : Nat), .int .i64 (d.length : Nat)]) := by unfold Hid; rw [hW2, hX2]; exact Row.made w2 _ _
    have HRX := Lib.hid (HRX.out.keep (l := []) (.of_below bW2) (by simp))
    have HB3 := Lib.hid (bNext HB2.out bW2)
    have HRF : Hid (Reads W2 a c (flatW rs)) := by_flatW (HR.out.below HB3.out).rd HR.out.nl
    have e0 := HR.out.len
    have hmx : 0 + n ≤ maxLen := by unfold maxLen; omega
    have hby : (0 + n) * 48 ≤ 140737488355328 := by omega
    have hln : (flatW rs).length = n * 4 := by rw [flatW_len, ← e0]
    have hbs := HB3.out.size
    have HW2 := Lib.hid hW2
    have HXX2 := Lib.hid hX2
    have HN := Lib.hid e0
    rw [hW2] at hbs HRF
    clear hW2 hX2 bW2 e0
    unfold firstI
    go_wp2_with (at_builtin; refine wpList_app rfl _ _ 47 rfl w.heap.size 54 zRow 4 48 Try.underlying47 inf_row rfl (by decide) _ 0 [] rfl (World.ownsRow_nil _ _ _ _) a n c (flatW rs) rfl hln HRF.out (flatW_one _) hmx hby hbs ?_)
    intro v1 w3 own1 gr1
    rw [← HW2.out] at gr1
    rw [← HXX2.out]
    have u1 : Upd [] W2 w3 := (upd_own gr1).mono (by simp [Value.ownBlock])
    have HO1 : Hid (w3.ownsRow w.heap.size 54 4 v1 n (flatW rs)) := by unfold Hid; simpa using own1
    have HB4 := Lib.hid (HB3.out.trans (u1.below HB3.out.size (by simp)))
    have HRX := Lib.hid (HRX.out.keep u1 (by simp))
    have HRX2 := Lib.hid (HRX2.out.keep u1 (by simp))
    obtain ⟨va, vc, rfl, -⟩ := owns_rows HO1.out
    clear own1 gr1 u1 hmx hby hln hbs HRF HW2 HXX2
    have x0 := HRX2.out.cell (i := 0) rfl
    have x1 := HRX2.out.cell (i := 1) rfl
    have x2 := HRX2.out.cell (i := 2) rfl
    go_wp2_with fail
    refine wp_region_planH (fun z : World => z.cell? ⟨X2, 0, none⟩ = some (.int .i64 F) ∧ z.cell? ⟨X2, 1, none⟩ = some (.int .i64 (secs d.length : Nat)) ∧ z.cell? ⟨X2, 2, none⟩ = some (.int .i64 (d.length : Nat))) [(0, true), (1, true), (2, true), (3, false), (4, true), (5, false), (6, false), (7, true)] (by kernel_rfl) (by kernel_rfl) (fun _ _ _ _ _ h => h) ⟨x0, x1, x2⟩ ?_
    clear x0 x1 x2
    have HBD := Lib.hid (bDrew (Below.refl _ w3))
    have HO1 := Lib.hid ((Upd.of_below (l := []) HBD.out).ownsAbove HO1.out (by simp))
    have HB5 := Lib.hid (HB4.out.trans (HBD.out.mono HB4.out.size))
    have HRX := Lib.hid (HRX.out.keep (l := []) (.of_below HBD.out) (by simp))
    have HRX2 := Lib.hid (HRX2.out.keep (l := []) (.of_below HBD.out) (by simp))
    generalize w3.drew = w4 at *
    (repeat (refine wpPlanH_free rfl (fun K hK => ?_); go_simp; (try go_bits); refine hK _ ?_; clear hK K))
    refine wpPlanH_load (.agg #[.int .i64 F, .int .i64 (secs d.length : Nat), .int .i64 (d.length : Nat)]) rfl rfl (fun x hS => by obtain ⟨s0, s1, s2⟩ := hS; go_simp) (fun K hK => ?_)
    refine hK _ ?_
    clear hK K
    (repeat (refine wpPlanH_free rfl (fun K hK => ?_); go_simp; (try go_bits); refine hK _ ?_; clear hK K))
    refine wpPlanH_sole rfl ?_
    have HC := Lib.hid (c_Copy da d.length dc d w4 rfl (HRD.out.below HB5.out) (by omega))
    go_wp2_with fail
    refine HC.out.mono ?_
    rintro e w5 ⟨vb, rfl, ownb, hb5⟩
    have HOB := Lib.hid ownb
    have HO1 := Lib.hid ((Upd.of_below (l := []) hb5).ownsAbove HO1.out (by simp))
    have HB6 := Lib.hid (HB5.out.trans (hb5.mono HB5.out.size))
    have HRX := Lib.hid (HRX.out.keep (l := []) (.of_below hb5) (by simp))
    have HRX2 := Lib.hid (HRX2.out.keep (l := []) (.of_below hb5) (by simp))
    have HSZ : Hid (w.heap.size ≤ w4.heap.size) := HB5.out.size
    obtain ⟨ba, bc, rfl, hrb, hbc, hbb⟩ := owns_reads HOB.out
    have HRB := Lib.hid hrb
    have HBC := Lib.hid hbc
    have HBB := Lib.hid hbb
    clear ownb hb5 HC HBD hrb hbb hbc HB4 HB3
    go_wp2
    refine ⟨⟨HRX2.out.cell (i := 0) rfl, HRX2.out.cell (i := 1) rfl, HRX2.out.cell (i := 2) rfl⟩, ?_⟩
    (repeat (refine wpPlanH_free rfl (fun K hK => ?_); go_simp; (try go_bits); refine hK _ ?_; clear hK K))
    refine wpPlanH_sole rfl ?_
    go_wp2
    obtain ⟨W6, hW6⟩ : ∃ z, z = w5.alloc (.cells #[.int .i64 F, .int .i64 (secs d.length : Nat), .int .i64 (d.length : Nat), .slice ba d.length bc] 54) := ⟨_, rfl⟩
    have bW6 : Below w5.heap.size w5 W6 := by rw [hW6]; exact (Below.refl _ _).alloc (Nat.le_refl _) _
    have HRD6 : Hid (Reads W6 (some ⟨w5.heap.size, 0, none⟩) 1 [.int .i64 F, .int .i64 (secs d.length : Nat), .int .i64 (d.length : Nat), .slice ba d.length bc]) := by unfold Hid; rw [hW6]; exact Reads.madeAt rfl
    have HO1 := Lib.hid ((Upd.of_below (l := []) bW6).ownsAbove HO1.out (by simp))
    have HOB := Lib.hid ((Upd.of_below (l := []) bW6).ownsAbove HOB.out (by simp))
    have HB7 := Lib.hid (HB6.out.trans (bW6.mono HB6.out.size))
    have HRX := Lib.hid (HRX.out.keep (l := []) (.of_below bW6) (by simp))
    have HRX2 := Lib.hid (HRX2.out.keep (l := []) (.of_below bW6) (by simp))
    rw [← hW6]
    clear hW6 bW6 HB6
    refine ⟨⟨HRX2.out.cell (i := 0) rfl, HRX2.out.cell (i := 1) rfl, HRX2.out.cell (i := 2) rfl⟩, ?_⟩
    refine wpPlanH_sole rfl ?_
    have hmx : n + 1 ≤ maxLen := by unfold maxLen; omega
    have hby : (n + 1) * 48 ≤ 140737488355328 := by omega
    have hone : ∀ u ∈ [(.int .i64 (F : Int) : Value), .int .i64 (secs d.length : Nat), .int .i64 (d.length : Nat), .slice ba d.length bc], u.oneCell' = true := by intro u hu; simp at hu; rcases hu with rfl | rfl | rfl | rfl <;> rfl
    refine wpList_app rfl _ _ 47 rfl w.heap.size 54 zRow 4 48 Try.underlying47 inf_row rfl (by decide) (.slice va n vc) n _ rfl HO1.out _ 1 1 [.int .i64 F, .int .i64 (secs d.length : Nat), .int .i64 (d.length : Nat), .slice ba d.length bc] rfl rfl HRD6.out hone hmx hby HB7.out.size ?_
    intro v2 w7 own2 gr2
    have u2 := upd_own gr2
    have n1 : X ∉ (Value.slice va n vc).ownBlock.toList := fun hm => own_ne_row HO1.out HRX.out (by decide) (by simpa using hm)
    have n2 : X2 ∉ (Value.slice va n vc).ownBlock.toList := fun hm => own_ne_row HO1.out HRX2.out (by decide) (by simpa using hm)
    have n3 : ∀ k, (Value.slice ba d.length bc).ownBlock = some k → k ∉ (Value.slice va n vc).ownBlock.toList := fun k hk hm => owns_ne' HOB.out HO1.out (by decide) hk (by simpa using hm)
    have HOB := Lib.hid (u2.owns HOB.out n3)
    have HB8 := Lib.hid (HB7.out.trans (u2.below HB7.out.size (fun k hk => (HO1.out.lt k (by simpa using hk)).1)))
    have HRX := Lib.hid (HRX.out.keep u2 n1)
    have HRX2 := Lib.hid (HRX2.out.keep u2 n2)
    have HO2 := Lib.hid own2
    clear own2 gr2 u2 n1 n2 n3 HO1 hone hmx hby HRD6 HRB HB7
    obtain ⟨v2a, v2c, hv2, -⟩ := owns_reads HO2.out
    subst hv2
    go_wp2
    refine ⟨⟨HRX2.out.cell (i := 0) rfl, HRX2.out.cell (i := 1) rfl, HRX2.out.cell (i := 2) rfl⟩, ?_⟩
    (repeat (refine wpPlanH_free rfl (fun K hK => ?_); go_simp; (try go_bits); refine hK _ ?_; clear hK K))
    refine wpPlanH_nil ?_
    have x0 := HRX2.out.cell (i := 0) rfl
    have x1 := HRX2.out.cell (i := 1) rfl
    have x2 := HRX2.out.cell (i := 2) rfl
    have f0 := HRX.out.free 0
    have f1 := HRX.out.free 1
    have f2 := HRX.out.free 2
    go_wp2_with fail
    refine wp_region_planH (fun z : World => z.cell? ⟨X2, 0, none⟩ = some (.int .i64 F) ∧ z.cell? ⟨X2, 1, none⟩ = some (.int .i64 (secs d.length : Nat)) ∧ z.cell? ⟨X2, 2, none⟩ = some (.int .i64 (d.length : Nat))) [(0, true), (1, true), (2, true), (3, false), (4, true)] (by kernel_rfl) (by kernel_rfl) (fun _ _ _ _ _ h => h) ⟨x0, x1, x2⟩ ?_
    clear x0 x1 x2 f0 f1 f2
    have HBD := Lib.hid (bDrew (Below.refl _ w7))
    have HO2 := Lib.hid ((Upd.of_below (l := []) HBD.out).ownsAbove HO2.out (by simp))
    have HOB := Lib.hid ((Upd.of_below (l := []) HBD.out).ownsAbove HOB.out (by simp))
    have HB9 := Lib.hid (HB8.out.trans (HBD.out.mono HB8.out.size))
    have HRX := Lib.hid (HRX.out.keep (l := []) (.of_below HBD.out) (by simp))
    have HRX2 := Lib.hid (HRX2.out.keep (l := []) (.of_below HBD.out) (by simp))
    generalize w7.drew = w8 at *
    (repeat (refine wpPlanH_free rfl (fun K hK => ?_); go_simp; (try go_bits); refine hK _ ?_; clear hK K))
    refine wpPlanH_load (.agg #[.int .i64 F, .int .i64 (secs d.length : Nat), .int .i64 (d.length : Nat)]) rfl rfl (fun x hS => by obtain ⟨s0, s1, s2⟩ := hS; go_simp) (fun K hK => ?_)
    refine hK _ ?_
    clear hK K
    (repeat (refine wpPlanH_free rfl (fun K hK => ?_); go_simp; (try go_bits); refine hK _ ?_; clear hK K))
    refine wpPlanH_sole rfl ?_
    have f0 := HRX.out.free 0
    have f1 := HRX.out.free 1
    have f2 := HRX.out.free 2
    have y0 := HRX.out.cell (i := 0) rfl
    have y1 := HRX.out.cell (i := 1) rfl
    have y2 := HRX.out.cell (i := 2) rfl
    go_wp2
    obtain ⟨v9, hv9⟩ : ∃ z, z = ((w8.setCell ⟨X, 0, none⟩ (.int .i64 F)).setCell ⟨X, 1, none⟩ (.int .i64 (secs d.length : Nat))).setCell ⟨X, 2, none⟩ (.int .i64 (d.length : Nat)) := ⟨_, rfl⟩
    have hR9 : Row v9 X 34 [.int .i64 F, .int .i64 (secs d.length : Nat), .int .i64 (d.length : Nat)] := by rw [hv9]; exact ((HRX.out.set 0 _).set 1 _).set 2 _
    have u9 : Upd [X] w8 v9 := by rw [hv9]; exact (((Upd.refl [X] w8).setCell (by simp) _).setCell (by simp) _).setCell (by simp) _
    rw [← hv9]
    clear hv9 f0 f1 f2 y0 y1 y2 HBD
    have HRX2 := Lib.hid (HRX2.out.keep u9 HNE.out)
    have HO3 := Lib.hid (u9.owns HO2.out (fun k hk hm => own_ne_row HO2.out HRX.out (by decide) (by simp at hm; rw [← hm]; exact hk)))
    have HOB := Lib.hid (u9.owns HOB.out (fun k hk hm => own_ne_row HOB.out HRX.out (by decide) (by simp at hm; rw [← hm]; exact hk)))
    have HB10 := Lib.hid (HB9.out.trans (u9.below HB9.out.size (fun k hk => by have := HXX.out; simp at hk; omega)))
    clear u9 HO2 HRX
    refine ⟨⟨HRX2.out.cell (i := 0) rfl, HRX2.out.cell (i := 1) rfl, HRX2.out.cell (i := 2) rfl⟩, ?_⟩
    (repeat (refine wpPlanH_free rfl (fun K hK => ?_); go_simp; (try go_bits); refine hK _ ?_; clear hK K))
    refine wpPlanH_nil ?_
    have z0 := hR9.cell (i := 0) rfl
    have z1 := hR9.cell (i := 1) rfl
    have z2 := hR9.cell (i := 2) rfl
    clear hR9 HRX2
    go_wp2_with fail
    (try simp only [Exit.inBlock, Exit.then])
    refine bodyPost_ret (by rw [results_tct rfl]; go_simp; rfl) rfl ?_
    obtain ⟨ba', bc', e1, hrb, -, -⟩ := owns_reads HOB.out
    cases e1
    refine ⟨HB10.out, .inr ⟨F, _, ⟨(F, d), ba, d.length, bc⟩, HO.out, rfl, rfl, ?_, rfl, HBC.out, hrb, HBY.out, fun y hy => Nat.le_trans HSZ.out (HBB.out y hy).1⟩⟩
    rw [flatW_app, List.length_append, ← HN.out]
    exact HO3.out

end Go.Proofs.Ytpbokmmobepolaa
