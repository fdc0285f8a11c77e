/-
  Contracts of package wide: Encode.
-/
import Derived.Test.YtdedidjobjdekaaWide3
namespace Go.Proofs.Ytdedidjobjdekaa
open Go.RowKit
set_option linter.unusedVariables false
set_option maxHeartbeats 300000

def encO (o : ObjD) : List Int := if okObj o.cls o.kind o.W o.B then encB o.cls o.kind o.W o.B else []

def EncPost (o : ObjD) (w : World) (e : Ending) (w' : World) : Prop :=
  ∃ v, e = .returned (.tuple #[v, .int .i64 (chkE o)]) ∧ w'.ownsRow w.heap.size 5 1 v (encO o).length ((encO o).map (Value.int .u8)) ∧ Below w.heap.size w w'

theorem c_Encode (o : ObjD) (w : World) (h : o.ok w) (hm : o.wn ≤ 1000000) : Calls Try.prog 13 #[o.val] w (EncPost o w) := by
  have hbox : ∀ w, Below w.heap.size w (w.alloc (.cells #[.int .i64 o.cls, .int .i64 o.kind, .slice o.wa o.wn o.wc, .slice o.ba o.bn o.bc] 25)) := fun w => (Below.refl _ w).alloc (Nat.le_refl _) _
  have HC := Lib.hid (c_Check o (w.alloc (.cells #[.int .i64 o.cls, .int .i64 o.kind, .slice o.wa o.wn o.wc, .slice o.ba o.bn o.bc] 25)) (h.below (hbox w)) hm)
  have HB0 := Lib.hid (hbox w)
  by_cases hok : okObj o.cls o.kind o.W o.B
  · have he : chkE o = 0 := by unfold chkE; rw [if_pos hok]
    have hx : encO o = encB o.cls o.kind o.W o.B := by unfold encO; rw [if_pos hok]
    unfold EncPost
    rw [hx, he]
    rw [he] at HC
    have HOK := Lib.hid hok
    have HH := Lib.hid h
    have HS := Lib.hid (fun w => c_WSize o w)
    obtain ⟨cls, kind, wa, wn, wc, W, ba, bn, bc, B⟩ := o
    have hwl : wn = W.length := h.wl
    have hbl : bn = B.length := h.bl
    subst hwl; subst hbl
    clear h hok he hx hbox
    unfold ObjD.val at *
    dsimp only at *
    go_enter Try.func13, Try.ntmps13
    go_wp2_with fail
    refine HC.out.mono ?_
    rintro e w1 ⟨rfl, bel⟩
    have hq : ∀ i v, [Value.int .i64 cls, Value.int .i64 kind, Value.slice wa W.length wc, Value.slice ba B.length bc][i]? = some v → w1.cell? ⟨w.heap.size, i, none⟩ = some v := fun i v hv => cellKeep bel ((Row.made w [Value.int .i64 cls, Value.int .i64 kind, Value.slice wa W.length wc, Value.slice ba B.length bc] 25).cell hv)
    have q0 := hq 0 _ rfl
    have q1 := hq 1 _ rfl
    have q2 := hq 2 _ rfl
    have q3 := hq 3 _ rfl
    have HB1 := Lib.hid (bNext HB0.out bel)
    clear hq bel
    obtain ⟨q, hqe⟩ : ∃ q, q = w.heap.size := ⟨_, rfl⟩
    rw [← hqe] at q0 q1 q2 q3 ⊢
    have HQ := Lib.hid hqe
    clear hqe
    go_wp2
    refine wp_region_planH (fun z => z.cell? ⟨q, 0, none⟩ = some (.int .i64 cls) ∧ z.cell? ⟨q, 1, none⟩ = some (.int .i64 kind) ∧ z.cell? ⟨q, 2, none⟩ = some (.slice wa W.length wc) ∧ z.cell? ⟨q, 3, none⟩ = some (.slice ba B.length bc)) [(0, true), (1, true), (2, true), (3, true), (4, true), (8, true), (9, true), (11, true), (12, true), (5, false), (6, false), (7, false), (10, false), (13, false), (14, false), (15, true), (16, true)] (by kernel_rfl) (by kernel_rfl) (fun _ _ _ _ _ h => h) ⟨q0, q1, q2, q3⟩ ?_
    (repeat (refine wpPlanH_free rfl (fun K hK => ?_); go_simp; (try go_bits); refine hK _ ?_; clear hK K))
    refine wpPlanH_load (.int .i64 cls) rfl rfl (fun z hS => by obtain ⟨s0, s1, s2, s3⟩ := hS; go_simp) (fun K hK => ?_)
    refine hK _ ?_
    clear hK K
    (repeat (refine wpPlanH_free rfl (fun K hK => ?_); go_simp; (try go_bits); refine hK _ ?_; clear hK K))
    refine wpPlanH_load (.int .i64 kind) rfl rfl (fun z hS => by obtain ⟨s0, s1, s2, s3⟩ := hS; go_simp) (fun K hK => ?_)
    refine hK _ ?_
    clear hK K
    (repeat (refine wpPlanH_free rfl (fun K hK => ?_); go_simp; (try go_bits); refine hK _ ?_; clear hK K))
    refine wpPlanH_load (.agg #[.int .i64 cls, .int .i64 kind, .slice wa W.length wc, .slice ba B.length bc]) rfl rfl (fun z hS => by obtain ⟨s0, s1, s2, s3⟩ := hS; go_simp) (fun K hK => ?_)
    refine hK _ ?_
    clear hK K
    (repeat (refine wpPlanH_free rfl (fun K hK => ?_); go_simp; (try go_bits); refine hK _ ?_; clear hK K))
    refine wpPlanH_load (.slice wa W.length wc) rfl rfl (fun z hS => by obtain ⟨s0, s1, s2, s3⟩ := hS; go_simp) (fun K hK => ?_)
    refine hK _ ?_
    clear hK K
    (repeat (refine wpPlanH_free rfl (fun K hK => ?_); go_simp; (try go_bits); refine hK _ ?_; clear hK K))
    refine wpPlanH_load (.slice ba B.length bc) rfl rfl (fun z hS => by obtain ⟨s0, s1, s2, s3⟩ := hS; go_simp) (fun K hK => ?_)
    refine hK _ ?_
    clear hK K
    (repeat (refine wpPlanH_free rfl (fun K hK => ?_); go_simp; (try go_bits); refine hK _ ?_; clear hK K))
    obtain ⟨sz, hsz⟩ : ∃ sz, sz = sizeO kind W B := ⟨_, rfl⟩
    have hszl : sz ≤ 1000 := by
      rw [hsz]
      unfold sizeO
      rcases HOK.out.2 with ⟨k1, _, k2, _⟩ | ⟨k1, _, k2⟩
      · rw [if_pos k1]; exact k2
      · rw [if_neg (by omega), if_pos k1]; exact k2
    have hWl : W.length ≤ 1000 := by
      rcases HOK.out.2 with ⟨_, _, k2, _⟩ | ⟨_, k2, _⟩
      · exact k2
      · rw [k2]; exact Nat.zero_le _
    have hBl : B.length ≤ 1000 := by
      rcases HOK.out.2 with ⟨_, k2, _⟩ | ⟨_, _, k2⟩
      · rw [k2]; exact Nat.zero_le _
      · exact k2
    have HSZ := Lib.hid hsz
    have HS2 : Hid (∀ w, Calls Try.prog 23 #[.agg #[.int .i64 cls, .int .i64 kind, .slice wa W.length wc, .slice ba B.length bc]] w fun e w' => e = .returned (.int .i64 (sz : Nat)) ∧ Below w.heap.size w w') := fun w => by rw [hsz]; exact HS.out w
    clear hsz HS
    refine wpPlanH_sole rfl ?_
    go_wp2_with fail
    refine (HS2.out _).mono ?_
    rintro e w2 ⟨rfl, bel⟩
    have r0 := cellKeep bel q0
    have r1 := cellKeep bel q1
    have r2 := cellKeep bel q2
    have r3 := cellKeep bel q3
    have HB2 := Lib.hid (bNext (bDrew HB1.out) bel)
    clear bel q0 q1 q2 q3 HS2
    go_wp2
    refine ⟨⟨r0, r1, r2, r3⟩, ?_⟩
    (repeat (refine wpPlanH_free rfl (fun K hK => ?_); go_simp; (try go_bits); refine hK _ ?_; clear hK K))
    refine wpPlanH_sole rfl ?_
    go_wp2
    obtain ⟨w3, hw3⟩ : ∃ z, z = w2.alloc (.cells #[.int .i64 cls, .int .i64 kind, .int .i64 (sz : Nat)] 3) := ⟨_, rfl⟩
    have b3 : Below w2.heap.size w2 w3 := by rw [hw3]; exact (Below.refl _ _).alloc (Nat.le_refl _) _
    have R3 : Reads w3 (some ⟨w2.heap.size, 0, none⟩) 3 ([cls, kind, (sz : Int)].map (Value.int .i64)) := by rw [hw3]; exact Reads.made w2 [.int .i64 cls, .int .i64 kind, .int .i64 (sz : Nat)] _ 3
    rw [← hw3]
    have s0 := cellKeep b3 r0
    have s1 := cellKeep b3 r1
    have s2 := cellKeep b3 r2
    have s3 := cellKeep b3 r3
    have HB3 := Lib.hid (bNext HB2.out b3)
    have HR3 := Lib.hid R3
    refine ⟨⟨s0, s1, s2, s3⟩, ?_⟩
    obtain ⟨q6, hq6⟩ : ∃ z, z = w2.heap.size := ⟨_, rfl⟩
    rw [← hq6] at HR3 ⊢
    clear hw3 b3 R3 r0 r1 r2 r3 hq6
    have hrange := HOK.out
    have hI3 : I64 [cls, kind, (sz : Int)] := fun x hx => by
      simp at hx
      have h1 := namIs_range hrange.1
      have h2 : 1 ≤ kind ∧ kind ≤ 2 := by rcases hrange.2 with ⟨k, _⟩ | ⟨k, _⟩ <;> omega
      rcases hx with rfl | rfl | rfl
      · omega
      · omega
      · omega
    have HA3 := Lib.hid (c_All (some ⟨q6, 0, none⟩) 3 3 [cls, kind, (sz : Int)] w3 rfl HR3.out hI3 (by omega))
    clear hrange hI3
    (repeat (refine wpPlanH_free rfl (fun K hK => ?_); go_simp; (try go_bits); refine hK _ ?_; clear hK K))
    refine wpPlanH_sole rfl ?_
    go_wp2_with fail
    refine HA3.out.mono ?_
    rintro e w4 ⟨v7, rfl, own7, bel⟩
    obtain ⟨a7, c7, rfl, hr7, -, -⟩ := owns_reads own7
    have HR7 := Lib.hid hr7
    have t0 := cellKeep bel s0
    have t1 := cellKeep bel s1
    have t2 := cellKeep bel s2
    have t3 := cellKeep bel s3
    have HB4 := Lib.hid (bNext HB3.out bel)
    have h7l : (allB [cls, kind, (sz : Int)]).length = 12 := by rw [allB_len]; rfl
    rw [h7l]
    clear own7 hr7 bel s0 s1 s2 s3 HA3
    go_wp2
    refine ⟨⟨t0, t1, t2, t3⟩, ?_⟩
    have HA4 := Lib.hid (c_All wa W.length wc W w4 rfl (HH.out.wr.below HB4.out) HH.out.wi hm)
    (repeat (refine wpPlanH_free rfl (fun K hK => ?_); go_simp; (try go_bits); refine hK _ ?_; clear hK K))
    refine wpPlanH_sole rfl ?_
    go_wp2_with fail
    refine HA4.out.mono ?_
    rintro e w5 ⟨v10, rfl, own10, bel⟩
    obtain ⟨a10, c10, rfl, hr10, -, -⟩ := owns_reads own10
    have HR10 := Lib.hid hr10
    have HR7' := Lib.hid (HR7.out.below bel)
    have u0 := cellKeep bel t0
    have u1 := cellKeep bel t1
    have u2 := cellKeep bel t2
    have u3 := cellKeep bel t3
    have HB5 := Lib.hid (bNext HB4.out bel)
    clear own10 hr10 bel t0 t1 t2 t3 HA4 HR7
    obtain ⟨n10, hn10⟩ : ∃ z, z = (allB W).length := ⟨_, rfl⟩
    rw [← hn10]
    have HN10 := Lib.hid hn10
    clear hn10
    go_wp2
    refine ⟨⟨u0, u1, u2, u3⟩, ?_⟩
    (repeat (refine wpPlanH_free rfl (fun K hK => ?_); go_simp; (try go_bits); refine hK _ ?_; clear hK K))
    refine wpPlanH_sole rfl ?_
    go_wp2
    obtain ⟨w6, hw6⟩ : ∃ z, z = w5.alloc (.cells #[.slice a7 12 c7, .slice a10 n10 c10, .slice ba B.length bc] 23) := ⟨_, rfl⟩
    have b6 : Below w5.heap.size w5 w6 := by rw [hw6]; exact (Below.refl _ _).alloc (Nat.le_refl _) _
    have R6 : Reads w6 (some ⟨w5.heap.size, 0, none⟩) 3 [.slice a7 12 c7, .slice a10 n10 c10, .slice ba B.length bc] := by rw [hw6]; exact Reads.made w5 [.slice a7 12 c7, .slice a10 n10 c10, .slice ba B.length bc] _ 3
    rw [← hw6]
    have x0 := cellKeep b6 u0
    have x1 := cellKeep b6 u1
    have x2 := cellKeep b6 u2
    have x3 := cellKeep b6 u3
    have HB6 := Lib.hid (bNext HB5.out b6)
    have hpb : partsB [⟨a7, 12, c7, allB [cls, kind, (sz : Int)]⟩, ⟨a10, n10, c10, allB W⟩, ⟨ba, B.length, bc, B⟩] = encB cls kind W B := by
      unfold partsB encB
      rw [← HSZ.out]
      simp [allB, List.append_assoc]
    have HC6 := Lib.hid (c_Concat (some ⟨w5.heap.size, 0, none⟩) 3 3 [⟨a7, 12, c7, allB [cls, kind, (sz : Int)]⟩, ⟨a10, n10, c10, allB W⟩, ⟨ba, B.length, bc, B⟩] w6 rfl R6 (fun p hp => by
      simp at hp
      rcases hp with rfl | rfl | rfl
      · exact ⟨h7l.symm, HR7'.out.below b6⟩
      · exact ⟨HN10.out, HR10.out.below b6⟩
      · exact ⟨rfl, HH.out.br.below HB6.out⟩) (by rw [hpb, encB_len]; omega) (by simp))
    rw [hpb] at HC6
    refine ⟨⟨x0, x1, x2, x3⟩, ?_⟩
    obtain ⟨q13, hq13⟩ : ∃ z, z = w5.heap.size := ⟨_, rfl⟩
    rw [← hq13] at HC6 ⊢
    clear hw6 b6 R6 u0 u1 u2 u3 hq13 hpb
    (repeat (refine wpPlanH_free rfl (fun K hK => ?_); go_simp; (try go_bits); refine hK _ ?_; clear hK K))
    refine wpPlanH_sole rfl ?_
    go_wp2_with fail
    refine HC6.out.mono ?_
    rintro e w7 ⟨v14, rfl, own14, bel⟩
    have y0 := cellKeep bel x0
    have y1 := cellKeep bel x1
    have y2 := cellKeep bel x2
    have y3 := cellKeep bel x3
    have HO := Lib.hid (owns_mono own14 HB6.out.size)
    have HB7 := Lib.hid (bNext HB6.out bel)
    clear own14 bel x0 x1 x2 x3 HC6
    go_wp2
    refine ⟨⟨y0, y1, y2, y3⟩, ?_⟩
    (repeat (refine wpPlanH_free rfl (fun K hK => ?_); go_simp; (try go_bits); refine hK _ ?_; clear hK K))
    refine wpPlanH_nil ?_
    go_wp2
    go_ret2
    exact ⟨_, rfl, HO.out, HB7.out⟩
  · have he : chkE o = 2 := by unfold chkE; rw [if_neg hok]
    have hx : encO o = [] := by unfold encO; rw [if_neg hok]
    unfold EncPost
    rw [hx, he]
    rw [he] at HC
    clear h hok he hx hbox
    unfold ObjD.val at *
    go_enter Try.func13, Try.ntmps13
    go_wp2_with fail
    refine HC.out.mono ?_
    rintro e w1 ⟨rfl, bel⟩
    have HB := Lib.hid (bNext HB0.out bel)
    clear bel
    go_wp2
    go_ret2
    exact ⟨_, rfl, World.ownsRow_nil _ _ _ _, HB.out⟩

end Go.Proofs.Ytdedidjobjdekaa
