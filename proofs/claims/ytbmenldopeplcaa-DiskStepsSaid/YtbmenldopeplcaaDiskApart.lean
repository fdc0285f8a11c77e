/-
  The walk of the law DiskApart.
-/
import Derived.Test.YtbmenldopeplcaaDisk4
namespace Go.Proofs.Ytbmenldopeplcaa
open Go.RowKit Go.ChangeShapes Go.ChangeAt
set_option linter.unusedVariables false

set_option maxHeartbeats 2000000
set_option maxRecDepth 100000

theorem inf_bytes : (Try.prog.info? 22).map (fun i => (i.zero, i.size, i.bytes)) = some (some (.slice none 0 0), 1, 24) := by kernel_rfl

theorem Do3.ok.below {w w' : World} {d : Do3} (h : d.ok w) (hb : Below w.heap.size w w') : d.ok w' :=
  ⟨h.1, h.2.1, h.2.2.1, h.2.2.2.1, h.2.2.2.2.1, h.2.2.2.2.2.1.below hb, h.2.2.2.2.2.2⟩

theorem owns_ne {w : World} {b1 b2 : Nat} {e1 e2 : TypeId} {s1 s2 : Nat} {v1 v2 : Value} {n1 n2 : Nat} {x1 x2 : List Value} (h1 : w.ownsRow b1 e1 s1 v1 n1 x1) (h2 : w.ownsRow b2 e2 s2 v2 n2 x2) (he : e1 ≠ e2) {k : Nat} (hk : v1.ownBlock = some k) : v2.ownBlock ≠ some k := by
  intro hk2
  rcases h1.2 with ⟨rfl, _⟩ | ⟨g1, c1, cur1, rfl, _, hg1, _⟩
  · cases hk
  · rcases h2.2 with ⟨rfl, _⟩ | ⟨g2, c2, cur2, rfl, _, hg2, _⟩
    · cases hk2
    · simp [Value.ownBlock] at hk hk2
      subst hk; subst hk2
      rw [hg1] at hg2
      simp at hg2
      exact he hg2.2

/-- Rows of bytes, each a sector as it was read. -/
def Sectors (w : World) (base : Nat) (vs : List Value) (bs : List Int) : Prop := ∀ i v, vs[i]? = some v → w.ownsRow base 5 1 v 64 ((sector bs i).map (Value.int .u8))

theorem Sectors.keep {w w' : World} {base : Nat} {vs : List Value} {bs : List Int} (h : Sectors w base vs bs) {l : List Nat} (u : Upd l w w') (hl : ∀ k ∈ l, k < base) : Sectors w' base vs bs := fun i v hv => u.ownsAbove (h i v hv) hl

theorem owns_oneCell {w : World} {base : Nat} {e : TypeId} {size : Nat} {v : Value} {n : Nat} {xs : List Value} (h : w.ownsRow base e size v n xs) : v.oneCell' = true := by
  rcases h.2 with ⟨rfl, _⟩ | ⟨g, cap, cur, rfl, _⟩ <;> rfl

theorem Upd.grown {l : List Nat} {a b c : World} {e : TypeId} {size : Nat} {v : Value} {n base : Nat} {xs : List Value} (h : Upd l a b) (o : b.ownsRow base e size v n xs) (hb : a.heap.size ≤ base) (gr : b.grownBy c v.ownBlock) : Upd l a c :=
  ⟨gr.os.trans h.os, gr.tape.trans h.tape, gr.output.trans h.output, Nat.le_trans h.size gr.size, fun k hk hn => (gr.block k (Nat.lt_of_lt_of_le hk h.size) (fun he => by have := (o.lt k he.symm).1; omega)).trans (h.block k hk hn)⟩

theorem DiskAt.grown {b c : World} {d g n r q : Nat} {bs : List Int} {e : TypeId} {size : Nat} {v : Value} {m base : Nat} {xs : List Value} (h : DiskAt b d g n r q bs) (o : b.ownsRow base e size v m xs) (hd : d < base) (hg : g < base) (gr : b.grownBy c v.ownBlock) : DiskAt c d g n r q bs :=
  ⟨(gr.block d h.head.lt (fun he => by have := (o.lt d he.symm).1; omega)).trans h.head, (gr.block g h.data.lt (fun he => by have := (o.lt g he.symm).1; omega)).trans h.data, h.len, h.ne, h.small, h.byt, h.rs, h.qs⟩

theorem Sectors.snoc {w2 w4 w5 : World} {base k d n : Nat} {v s : Value} {vs : List Value} {bs : List Int} {ob : Obj} (h : Sectors w2 base vs bs) (u : Upd [d] w2 w4) (hd : d < base)
    (hs : w4.ownsRow w2.heap.size 5 1 s 64 ((sector bs k).map (Value.int .u8))) (hb : base ≤ w2.heap.size) (o : w4.ownsRow base 22 1 v n vs) (hk : vs.length = k) (gr : (w4.alloc ob).grownBy w5 v.ownBlock) : Sectors w5 base (vs ++ [s]) bs := by
  have key : ∀ {u : Value} {ys : List Value}, w4.ownsRow base 5 1 u 64 ys → w5.ownsRow base 5 1 u 64 ys := fun {u ys} hu => by
    refine (hu.alloc ob).kept gr ?_
    cases hk : u.ownBlock with
    | none => exact .inl rfl
    | some k => exact .inr (fun he => owns_ne hu o (by decide) hk he.symm)
  intro i u hu
  by_cases hi : i < vs.length
  · rw [List.getElem?_append_left hi] at hu
    exact key ((h.keep (l := [d]) ‹_› (by simpa using hd)) i u hu)
  · rw [List.getElem?_append_right (by omega)] at hu
    obtain ⟨rfl, rfl⟩ : i = k ∧ s = u := by
      have : i - vs.length = 0 := by
        rcases Nat.eq_zero_or_pos (i - vs.length) with h | h
        · exact h
        · rw [List.getElem?_eq_none (by simp; omega)] at hu; cases hu
      rw [this] at hu
      exact ⟨by omega, by simpa using hu⟩
    exact key (owns_mono hs hb)

theorem c_SameYes (a0 a1 : Option Addr) (n0 n1 c0 c1 : Nat) (l0 l1 : List Int) (w : World) (e0 : n0 = l0.length) (e1 : n1 = l1.length)
    (h0 : Reads w a0 c0 (l0.map (Value.int .u8))) (h1 : Reads w a1 c1 (l1.map (Value.int .u8))) (b0 : Byt l0) (he : l0 = l1) :
    Calls Try.prog 19 #[.slice a0 n0 c0, .slice a1 n1 c1] w fun e w' => e = .returned (.bool true) ∧ w = w' :=
  (c_Same a0 a1 n0 n1 c0 c1 l0 l1 w e0 e1 h0 h1 b0 (he ▸ b0)).mono fun e w' h => by rw [decide_eq_true he] at h; exact h

/-- What a guard strikes is not called. -/
theorem wpPlan_not {P : Program} {ops : Array Oper} {Q : Exit → Act → World → Prop} {i : Nat} {r : List (Nat × Bool)} {o : Oper} {a : Act} {w : World} (hi : ops[i]? = some o) (hw : Region.wanted o (yielded ops a.tmps) = false)
    (h : wpPlan P ops Q r (a.put o.dst undef) w) : wpPlan P ops Q ((i, false) :: r) a w := by
  refine wpPlan_sole hi ?_
  unfold wpList
  rw [if_neg (by simp [hw])]
  exact h

theorem reads_left {w : World} {a : Option Addr} {c : Nat} {xs ys : List Value} (h : Reads w a c (xs ++ ys)) : Reads w a c xs := by
  rcases h with ⟨rfl, rfl, h⟩ | ⟨x, rfl, h⟩
  · exact .inl ⟨rfl, rfl, (List.append_eq_nil_iff.1 h).1⟩
  · refine .inr ⟨x, rfl, fun i u hu => h i u ?_⟩
    rw [List.getElem?_append_left (List.getElem?_eq_some_iff.1 hu).1]
    exact hu
theorem reads_right {w : World} {b o c c' : Nat} {xs ys : List Value} (h : Reads w (some ⟨b, o, none⟩) c (xs ++ ys)) : Reads w (some ⟨b, o + xs.length, none⟩) c' ys := by
  rcases h with ⟨h, _⟩ | ⟨x, hx, h⟩
  · cases h
  · cases hx
    refine .inr ⟨_, rfl, fun i u hu => ?_⟩
    have := h (xs.length + i) u (by rw [List.getElem?_append_right (by omega), Nat.add_sub_cancel_left]; exact hu)
    rw [add_flat] at this ⊢
    rwa [Nat.add_assoc]
theorem DiskAt.drew {w : World} {d g n r q : Nat} {bs : List Int} (h : DiskAt w d g n r q bs) : DiskAt w.drew d g n r q bs := ⟨h.head, h.data, h.len, h.ne, h.small, h.byt, h.rs, h.qs⟩

theorem sector_clear2 {bs : List Int} {n i : Nat} (hb : bs.length = 64 * n) (hi : i < n) : sector (clearAll bs [(i : Int), (i : Int)]) i = List.replicate 64 0 := by
  have h1 : clearAll bs [(i : Int), (i : Int)] = splice (splice bs (64 * i) (List.replicate 64 0)) (64 * i) (List.replicate 64 0) := by simp [clearAll]
  rw [h1]
  exact sector_splice (n := n) (by rw [length_splice _ _ _ (by simp; omega)]; exact hb) hi (by simp)

theorem row_reads {w : World} {base : Nat} {e : TypeId} {size : Nat} {x : Option Addr} {c n : Nat} {xs : List Value} (h : w.ownsRow base e size (.slice x n c) n xs) : Reads w x c xs := by
  obtain ⟨a, c', he, hr, _⟩ := owns_reads h
  cases he
  exact hr

theorem step3_le (n r q : Nat) (bs : List Int) (x : Do3) : (step3 n r q bs x).r ≤ r + 1 ∧ (step3 n r q bs x).q ≤ q + 1 := by
  unfold step3
  repeat' split
  all_goals exact ⟨by dsimp only; omega, by dsimp only; omega⟩

theorem law_DiskApart (n at_ : Int) (a2 : Option Addr) (len2 cap2 : Nat) (z2 : List Int) (a3 : Option Addr) (len3 cap3 : Nat) (z3 : List Do3) (w : World) (w0 : (Lit.int .u8 n).wf = true) (w1 : (Lit.int .u8 at_).wf = true) (w2 : Came .u8 w a2 len2 cap2 z2) (w3 : Do3s w a3 len3 cap3 z3) :
    Calls Try.prog 5 #[.int .u8 n, .int .u8 at_, .slice a2 len2 cap2, .slice a3 len3 cap3] w fun e w' => e = .returned (.bool true) ∧ Below w.heap.size w w' := by
  obtain ⟨b0, b1⟩ := bounds_u8 w0
  obtain ⟨b2, b3⟩ := bounds_u8 w1
  obtain ⟨l, el, hc2, hm2, hr2, hw2⟩ := w2.reads
  obtain ⟨ed, hc3, hm3, hr3, hok⟩ := w3
  have hl : Byt l := fun x hx => bounds_u8 (hw2 x hx)
  unfold maxLen at hm2 hm3
  obtain ⟨N, rfl⟩ := Int.eq_ofNat_of_zero_le b0
  obtain ⟨A, rfl⟩ := Int.eq_ofNat_of_zero_le b2
  have EL := Lib.hid el
  have ED := Lib.hid ed
  have HL := Lib.hid hl
  have HR := Lib.hid hr2
  have HD := Lib.hid hr3
  have HO := Lib.hid hok
  clear el ed hl hr2 hr3 hok w0 w1 w2 hw2
  by_cases h0 : N = 0 ∨ 40 < len3 ∨ 64 < len2
  · by_cases h1 : N = 0
    · subst h1
      clear h0
      go_enter Try.func5, Try.ntmps5
      go_wp2_with (go_at_call 13; refine (c_known03 _).mono ?_; rintro e w' ⟨rfl, hbel⟩)
      go_ret
      exact ⟨rfl, hbel⟩
    · have h3 : ((N : Int) == 0) = false := by simp; omega
      by_cases h2 : 40 < len3
      all_goals
        (try have h4 : 64 < len2 := by omega)
        clear h0
        go_enter Try.func5, Try.ntmps5
        go_wp2_with (go_at_call 13; refine (c_known03 _).mono ?_; rintro e w' ⟨rfl, hbel⟩)
        go_ret
        exact ⟨rfl, hbel⟩
  · have h1 : 1 ≤ N := by omega
    have h2 : len3 ≤ 40 := by omega
    have h3 : len2 ≤ 64 := by omega
    have h4 : ((N : Int) == 0) = false := by simp; omega
    have hN : N ≤ 255 := by omega
    have ht : A % N < N := Nat.mod_lt _ (by omega)
    obtain ⟨T, hT⟩ : ∃ T, T = A % N := ⟨_, rfl⟩
    rw [← hT] at ht
    have hT2 : (A : Int) % (N : Int) = (T : Int) := by rw [hT]; rfl
    clear h0 hT
    go_enter Try.func5, Try.ntmps5
    go_wp2_with fail
    refine (c_NewYes N _ (by omega)).mono ?_
    rintro e w1 ⟨d, g, rfl, hd, hg, D1, U1⟩
    have HD1 := Lib.hid D1
    have HU1 := Lib.hid U1
    have hd1 := D1.head.lt
    have hg1 := D1.data.lt
    have HIN := Lib.hid (show ∀ k ∈ [d, g], w.heap.size ≤ k from fun k hk => by simp at hk; rcases hk with rfl | rfl <;> assumption)
    clear D1 U1
    go_wp2_with fail
    go_loopw [11] (fun i wr => ∃ (k r q : Nat) (bs : List Int), k ≤ len3 ∧ i = .int .i64 k ∧ r ≤ k ∧ q ≤ k ∧ Hid (DiskAt wr d g N r q bs) ∧ Hid (Upd [d, g] w wr)) (fun i _ => len3 - (intOf i).toNat)
    case atStart => exact ⟨0, 0, 0, _, Nat.zero_le _, rfl, Nat.le_refl _, Nat.le_refl _, HD1.out, HU1.out.mono (by simp)⟩
    case round =>
      obtain ⟨k, r, q, bs, hk, rfl, hr, hq, HDr, HUr⟩ := hrel
      have HBr := Lib.hid (HUr.out.below (Nat.le_refl _) HIN.out)
      by_cases hlt : k < len3
      · have hlt2 : k < z3.length := by have := ED.out; omega
        obtain ⟨b, off, rfl, hblt, hc⟩ := (HD.out.below HBr.out) k _ (List.getElem?_eq_getElem hlt2)
        have hxo := (HO.out _ (List.getElem_mem hlt2)).below HBr.out
        generalize z3[k] = x at *
        have c0 := hc 0 _ rfl
        have c1 := hc 1 _ rfl
        have c2 := hc 2 _ rfl
        rw [Nat.add_zero] at c0
        have HX := Lib.hid hxo
        clear hc hxo
        go_wp2_with (go_at_call 23; refine (c_done d g N r q bs _ HDr.out (by omega) (by omega) x HX.out).mono ?_; rintro e w4 ⟨v, rfl, own, D4, U4⟩)
        have HS := Lib.hid (step3_le N r q bs x)
        have HD4 := Lib.hid D4
        have HU4 := Lib.hid (HUr.out.trans U4)
        clear D4 U4 own
        go_wp2
        go_roundw
        case rel => exact ⟨k + 1, _, _, _, by omega, by go_num, by have := HS.out.1; omega, by have := HS.out.2; omega, HD4.out, HU4.out⟩
        case measure => simp [intOf]; omega
      · obtain rfl : len3 = k := by omega
        obtain ⟨wA, rfl⟩ : ∃ x, x = wr := ⟨_, rfl⟩
        have hdB : d < wA.heap.size := HDr.out.head.lt
        have hgB : g < wA.heap.size := HDr.out.data.lt
        clear hlt hk HD HO ED HD1 HU1
        go_wp2_with fail
        go_loopw [12, 13] (fun v i w2 => ∃ (k : Nat) (vs : List Value), k ≤ N ∧ i = .int .i64 k ∧ Hid (w2.ownsRow wA.heap.size 22 1 v k vs) ∧ Hid (Sectors w2 wA.heap.size vs bs) ∧ Hid (DiskAt w2 d g N (r + k) q bs) ∧ Hid (Upd [d] wA w2)) (fun _ i _ => N - (intOf i).toNat)
        case atStart => exact ⟨0, [], Nat.zero_le _, rfl, World.ownsRow_nil _ _ _ _, fun i v h => by simp at h, HDr.out, Upd.refl _ _⟩
        case round =>
          obtain ⟨k, vs, hk, rfl, HO2, HS2, HD2, HU2⟩ := hrel
          by_cases hlt : k < N
          · go_wp2_with fail
            refine (c_Read d g N (r + k) q bs _ HD2.out (by omega) k hlt).mono ?_
            rintro e w4 ⟨s, rfl, own, D4, U4⟩
            obtain ⟨gs, cs, rfl, -, -, -, -⟩ := owns_at own (by omega)
            have HD4 := Lib.hid D4
            have HU4 := Lib.hid U4
            have HW4 := Lib.hid own
            have HO4 := Lib.hid (U4.ownsAbove HO2.out (by simpa using hdB))
            have h1c : ∀ u ∈ [(.slice (some ⟨gs, 0, none⟩) 64 cs : Value)], u.oneCell' = true := by have := owns_oneCell own; simpa using this
            clear own D4 U4
            go_wp2_with (at_builtin; refine wpList_app rfl _ _ 42 rfl wA.heap.size 22 (.slice none 0 0) 1 24 Try.underlying42 inf_bytes rfl (by decide) _ _ _ rfl (HO4.out.alloc _) _ 1 1 [.slice (some ⟨gs, 0, none⟩) 64 cs] rfl rfl (Reads.madeAt rfl) h1c (by unfold maxLen; omega) (by omega) (by have := HU2.out.size; have := HU4.out.size; simp; omega) ?_)
            intro v' w5 own5 gr5
            have H1 := Lib.hid (HU2.out.size)
            have hvk : vs.length = k := by have := HO2.out.1; omega
            have HS5 := Lib.hid (Sectors.snoc HS2.out HU4.out hdB HW4.out H1.out HO4.out hvk gr5)
            have HU5 := Lib.hid (((HU2.out.trans HU4.out).alloc (.cells #[.slice (some ⟨gs, 0, none⟩) 64 cs] 22)).grown (HO4.out.alloc _) (Nat.le_refl _) gr5)
            have HD5 := Lib.hid ((HD4.out.keep (l := []) ((Upd.refl _ _).alloc (.cells #[.slice (some ⟨gs, 0, none⟩) 64 cs] 22)) (by simp) (by simp)).grown (HO4.out.alloc _) hdB hgB gr5)
            have HO5 := Lib.hid own5
            clear own5 gr5 HO4 HW4 hvk
            go_wp2
            go_roundw
            case rel => exact ⟨k + 1, vs ++ [Value.slice (some ⟨gs, 0, none⟩) 64 cs], by omega, by go_num, HO5.out, HS5.out, HD5.out, HU5.out⟩
            case measure => simp [intOf]; omega
          · obtain rfl : N = k := by omega
            obtain ⟨wB, rfl⟩ : ∃ x, x = wr := ⟨_, rfl⟩
            have HB2 := Lib.hid (HBr.out.trans (HU2.out.below HBr.out.size (fun k hk => HIN.out k (by simp at hk; subst hk; simp))))
            have hgw := HIN.out g (by simp)
            have hdw := HIN.out d (by simp)
            clear hlt hk HBr
            go_wp2_with fail
            refine (c_Write d g N (r + N) q bs _ HD2.out (by omega) T ht a2 len2 cap2 l EL.out HL.out (HR.out.below HB2.out) h3).mono ?_
            rintro e w6 ⟨rfl, D6, U6⟩
            have HD6 := Lib.hid D6
            have HU6 := Lib.hid U6
            clear D6 U6
            go_wp2_with (go_at_call 15; refine (c_WriteNo d g N (r + N) (q + 1) _ _ HD6.out N (.inr (Int.le_refl _)) a2 len2 cap2).mono ?_; rintro e w' ⟨rfl, rfl⟩)
            refine (c_ClearNo d g N (r + N) (q + 1) _ _ (HD6.out.keep (l := []) ((Upd.refl _ _).alloc _) (by simp) (by simp)) _ 2 _ [(T : Int), -1] rfl (Reads.madeAt (xs := [.int .i64 (T : Int), .int .i64 (-1)]) (by simp)) ⟨-1, by simp, by omega⟩ (by omega)).mono ?_
            rintro e w7 ⟨rfl, hw7⟩
            have HD7 := Lib.hid (HD6.out.keep (l := []) ((Upd.refl _ _).alloc (.cells #[.int .i64 (T : Int), .int .i64 (-1)] 3)) (by simp) (by simp))
            have HU7 := Lib.hid (HU6.out.alloc (.cells #[.int .i64 (T : Int), .int .i64 (-1)] 3))
            rw [hw7] at HD7 HU7
            have hdg : ∀ k ∈ [d, g], k < wA.heap.size := by intro k hk; simp at hk; rcases hk with rfl | rfl <;> assumption
            have HO7 := Lib.hid (HU7.out.ownsAbove HO2.out hdg)
            have HS7 := Lib.hid (HS2.out.keep HU7.out hdg)
            have HB7 := Lib.hid (HB2.out.trans (HU7.out.below HB2.out.size HIN.out))
            have hbl := HD2.out.len
            have HSO := Lib.hid (fun k (hk : k ≠ T) => sector_other (f := filled l) hbl ht (filled_len (by have := EL.out; omega)) hk)
            have HST := Lib.hid (sector_splice (f := filled l) hbl ht (filled_len (by have := EL.out; omega)))
            have HBY := Lib.hid HD7.out.byt
            have HBO := Lib.hid HDr.out.byt
            clear HD6 HU6 hw7 HO2 HS2 HB2 HU7 hdg HD2 HU2 hbl
            obtain ⟨gw, cw, rfl, hgw, hgl, hcw, hcell⟩ := owns_at HO7.out (by omega)
            have hvl : vs.length = N := by have := HO7.out.1; omega
            have HC := Lib.hid hcell
            clear hcell HO7
            go_wp2_with fail
            go_loopw [20] (fun i w2 => ∃ k : Nat, k ≤ N ∧ i = .int .i64 k ∧ Hid (DiskAt w2 d g N (r + N + k) (q + 1) (splice bs (64 * T) (filled l))) ∧ Hid (Upd [d] w7 w2)) (fun i _ => N - (intOf i).toNat)
            case atStart => exact ⟨0, Nat.zero_le _, rfl, HD7.out, Upd.refl _ _⟩
            case round =>
              obtain ⟨k, hk, rfl, HD8, HU8⟩ := hrel
              have HB8 := Lib.hid (HB7.out.trans (HU8.out.below HB7.out.size (fun k hk => HIN.out k (by simp at hk; subst hk; simp))))
              by_cases hlt : k < N
              · go_wp2_with fail
                refine (c_Read d g N (r + N + k) (q + 1) _ _ HD8.out (by omega) k hlt).mono ?_
                rintro e w4 ⟨s, rfl, own, D4, U4⟩
                obtain ⟨gs, cs, rfl, -, -, hcs, -⟩ := owns_at own (by omega)
                have HD4 := Lib.hid D4
                have HU4 := Lib.hid U4
                have HW4 := Lib.hid own
                clear own D4 U4
                by_cases hkT : k = T
                · subst hkT
                  rw [HST.out] at HW4
                  have hlc : len2 ≤ cs := by omega
                  have HR4 := Lib.hid (HR.out.below (HB8.out.trans (HU4.out.below HB8.out.size (fun k hk => HIN.out k (by simp at hk; subst hk; simp)))))
                  have hrw := row_reads HW4.out
                  have hlz : (List.map (Value.int .u8) l).length = len2 := by have := EL.out; simp; omega
                  unfold filled at hrw
                  rw [List.map_append] at hrw
                  have HRL := Lib.hid (reads_left hrw)
                  have HRR := Lib.hid (fun c => reads_right (c' := c) hrw)
                  rw [hlz, Nat.zero_add, ← EL.out] at HRR
                  clear hrw hlz
                  go_wp2_with fail
                  refine wp_region_plan [(0, true), (1, true), (2, true), (3, true), (4, true), (5, true), (6, true), (7, true), (8, true), (9, true), (10, true), (11, true), (12, true), (13, false), (14, true), (15, true), (16, true), (17, true), (18, true), (19, true), (20, true), (21, true), (22, true), (23, true), (24, false), (25, false), (26, true), (27, true), (28, true)] (by kernel_rfl) (by kernel_rfl) (fun _ _ _ _ _ h => h) ?_
                  (repeat (refine wpPlan_free rfl (fun K hK => ?_); go_simp; (try go_bits); refine hK _ ?_; clear hK K))
                  refine wpPlan_sole rfl ?_
                  go_wp2_with fail
                  refine (c_SameYes _ _ len2 len2 cs cap2 l l _ EL.out EL.out HRL.out.drew HR4.out.drew HL.out rfl).mono ?_
                  rintro e w' ⟨rfl, rfl⟩
                  go_wp2
                  (repeat (refine wpPlan_free rfl (fun K hK => ?_); go_simp; (try go_bits); refine hK _ ?_; clear hK K))
                  refine wpPlan_sole rfl ?_
                  refine wpList_mk ?hw _ _ 22 rfl 5 (.int .u8 0) 1 Try.underlying22 inf_u8 rfl .i64 .i64 (64 - (len2 : Int)) (64 - (len2 : Int)) (64 - len2) ?_ ?_ (by omega) (by omega) (by omega) (by unfold maxLen; omega) ?_
                  case hw => go_simp
                  · go_simp
                  · go_simp
                  intro w5 row5 U5
                  have HRow := Lib.hid (Row.reads (off := 0) (c := 64 - len2) row5 (ys := (List.replicate (64 - len2) (0 : Int)).map (Value.int .u8)) (fun i u hu => by rw [List.map_replicate] at hu; rw [Nat.zero_add]; exact hu))
                  have HU5 := Lib.hid U5
                  have HRR5 := Lib.hid (fun c => U5.reads (HRR.out c).drew (fun x hx => by simp))
                  clear row5 U5
                  go_wp2
                  all_goals
                    refine wpPlan_sole rfl ?_
                    go_wp2_with fail
                    refine (c_SameYes _ _ (64 - len2) (64 - len2) _ (64 - len2) (List.replicate (64 - len2) 0) (List.replicate (64 - len2) 0) _ (by simp) (by simp) ?_ HRow.out (fun x hx => by rw [List.eq_of_mem_replicate hx]; omega) rfl).mono ?_
                    · first
                        | exact HRR5.out _
                        | (have hz : 64 - len2 = 0 := by omega
                           rw [hz]
                           exact Reads.empty (fun h => by cases h))
                    · rintro e w' ⟨rfl, rfl⟩
                      go_wp2
                      (repeat (refine wpPlan_free rfl (fun K hK => ?_); go_simp; (try go_bits); refine hK _ ?_; clear hK K))
                      refine wpPlan_nil ?_
                      go_wp2
                      go_roundw
                      case rel => exact ⟨k + 1, by omega, by go_num, (HD4.out.drew.keep HU5.out (by simp) (by simp)), ((HU8.out.trans HU4.out).drew.trans (HU5.out.mono (by simp)))⟩
                      case measure => simp [intOf]; omega
                · have hkf : ((k : Int) == (T : Int)) = false := by simp; omega
                  have hkv : k < vs.length := by omega
                  have hck := HC.out k _ (List.getElem?_eq_getElem hkv)
                  have hok := HS7.out k _ (List.getElem?_eq_getElem hkv)
                  generalize vs[k] = v at *
                  obtain ⟨gk, ck, rfl, hgk, -, hck2, -⟩ := owns_at hok (by omega)
                  have HU9 := Lib.hid (HU8.out.trans HU4.out)
                  have hcell : w4.cell? ⟨gw, k, none⟩ = some (.slice (some ⟨gk, 0, none⟩) 64 ck) := (World.cell?_of_block (HU9.out.block gw hgl (by simp; omega))).trans hck
                  have HK9 := Lib.hid (HU9.out.ownsAbove hok (by simpa using hdB))
                  have hs64 := sector_len HD8.out.len hlt
                  have hs64' := sector_len HDr.out.len hlt
                  clear hck hok hkv
                  go_wp2_with fail
                  refine (c_SameYes _ _ 64 64 cs ck (sector _ k) (sector bs k) _ hs64.symm hs64'.symm (row_reads HW4.out) (row_reads HK9.out) (sector_byt HBY.out k) (HSO.out k hkT)).mono ?_
                  rintro e w' ⟨rfl, rfl⟩
                  go_wp2_with fail
                  refine wp_region_plan [(0, true), (1, true), (2, true), (3, true), (4, true), (5, true), (6, true), (7, true), (8, true), (9, true), (10, true), (11, true), (12, true), (13, false), (14, true), (15, true), (16, true), (17, true), (18, true), (19, true), (20, true), (21, true), (22, true), (23, true), (24, false), (25, false), (26, true), (27, true), (28, true)] (by kernel_rfl) (by kernel_rfl) (fun _ _ _ _ _ h => h) ?_
                  (repeat (refine wpPlan_free rfl (fun K hK => ?_); go_simp; (try go_bits); refine hK _ ?_; clear hK K))
                  refine wpPlan_not rfl rfl ?_
                  go_simp
                  (repeat (refine wpPlan_free rfl (fun K hK => ?_); go_simp; (try go_bits); refine hK _ ?_; clear hK K))
                  refine wpPlan_not rfl rfl ?_
                  go_simp
                  refine wpPlan_not rfl rfl ?_
                  go_simp
                  (repeat (refine wpPlan_free rfl (fun K hK => ?_); go_simp; (try go_bits); refine hK _ ?_; clear hK K))
                  refine wpPlan_nil ?_
                  go_wp2
                  go_roundw
                  case rel => exact ⟨k + 1, by omega, by go_num, HD4.out.drew, HU9.out.drew⟩
                  case measure => simp [intOf]; omega
              · obtain rfl : N = k := by omega
                go_wp2_with fail
                refine (c_Clear d g N (r + N + N) (q + 1) _ _ (HD8.out.keep (l := []) ((Upd.refl _ _).alloc _) (by simp) (by simp)) _ 2 _ [(T : Int), (T : Int)] rfl (Reads.madeAt (xs := [.int .i64 (T : Int), .int .i64 (T : Int)]) (by simp)) (fun x hx => by cases hx; simp; have := HD8.out.data.lt; omega) (by intro x hx; simp at hx; subst hx; omega) (by omega)).mono ?_
                rintro e w9 ⟨rfl, D9, U9⟩
                have HD9 := Lib.hid D9
                have HU9 := Lib.hid U9
                clear D9 U9
                go_wp2_with fail
                refine (c_Read d g N (r + N + N) (q + 1) _ _ HD9.out (by omega) T ht).mono ?_
                rintro e w10 ⟨s, rfl, own, D10, U10⟩
                rw [sector_clear2 HD8.out.len ht] at own
                obtain ⟨gs, cs, rfl, -, -, hcs, -⟩ := owns_at own (by omega)
                have HU10 := Lib.hid ((((HU8.out.mono (m := [d, g]) (by simp)).alloc (.cells #[.int .i64 (T : Int), .int .i64 (T : Int)] 3)).trans (HU9.out.mono (m := [d, g]) (by simp))).trans (U10.mono (m := [d, g]) (by simp)))
                have HB10 := Lib.hid (HB7.out.trans (HU10.out.below HB7.out.size HIN.out))
                have HW10 := Lib.hid (row_reads own)
                have hid10 : Hid (Byt (List.replicate 64 0)) := fun x hx => by rw [List.eq_of_mem_replicate hx]; omega
                clear own D10 U10
                go_wp2_with (at_make; refine wpList_mk rfl _ _ 22 rfl 5 (.int .u8 0) 1 Try.underlying22 inf_u8 rfl .i64 .i64 _ _ 64 rfl rfl rfl rfl (by omega) (by unfold maxLen; omega) ?_)
                intro w11 row11 U11
                have HRow := Lib.hid (Row.reads (off := 0) (c := 64) row11 (ys := (List.replicate 64 (0 : Int)).map (Value.int .u8)) (fun i u hu => by rw [List.map_replicate] at hu; rw [Nat.zero_add]; exact hu))
                have HB11 := Lib.hid (HB10.out.trans (U11.below HB10.out.size (by simp)))
                have HW11 := Lib.hid (U11.reads HW10.out (fun x hx => by simp))
                clear row11 U11
                go_wp2_with fail
                refine (c_SameYes _ _ 64 64 cs 64 (List.replicate 64 0) (List.replicate 64 0) _ (by simp) (by simp) HW11.out HRow.out hid10.out rfl).mono ?_
                rintro e w' ⟨rfl, rfl⟩
                go_wp2_with (go_at_call 13; refine (c_known03 _).mono ?_; rintro e w' ⟨rfl, hbel⟩)
                go_ret
                exact ⟨rfl, bNext HB11.out hbel⟩

end Go.Proofs.Ytbmenldopeplcaa
