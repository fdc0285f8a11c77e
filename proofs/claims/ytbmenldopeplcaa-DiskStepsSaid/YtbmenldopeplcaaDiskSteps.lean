/-
  The walk of the law DiskSteps.
-/
import Derived.Test.YtbmenldopeplcaaDiskRef3
import Derived.Test.YtbmenldopeplcaaDiskTwice
namespace Go.Proofs.Ytbmenldopeplcaa
open Go.RowKit Go.ChangeShapes Go.ChangeAt
set_option linter.unusedVariables false

set_option maxHeartbeats 2000000
set_option maxRecDepth 100000

theorem c_SpoilB (base n : Nat) (v : Value) (l : List Int) (w : World) (h : w.ownsRow base 5 1 v n (l.map (Value.int .u8))) (hn : n ≤ 1000000) :
    Calls Try.prog 17 #[v] w fun e w' => e = .returned (.tuple #[]) ∧ ∃ L : List Nat, (∀ k ∈ L, v.ownBlock = some k) ∧ Upd L w w' := by
  rcases h.2 with ⟨rfl, rfl⟩ | ⟨g, cap, cur, rfl, hb, hg, hc⟩
  · exact (c_SpoilNil w).mono fun e w' ⟨h1, h2⟩ => ⟨h1, [], by simp, h2 ▸ Upd.refl _ _⟩
  · exact (c_Spoil base g n cap l w h hn).mono fun e w' ⟨h1, h2⟩ => ⟨h1, [g], by simp [Value.ownBlock], h2⟩

theorem Upd.above {l L : List Nat} {a b c : World} (h : Upd l a b) (u : Upd L b c) (hL : ∀ k ∈ L, a.heap.size ≤ k) : Upd l a c :=
  ⟨u.os.trans h.os, u.tape.trans h.tape, u.output.trans h.output, Nat.le_trans h.size u.size, fun k hk hn => (u.block k (Nat.lt_of_lt_of_le hk h.size) (fun hm => by have := hL k hm; omega)).trans (h.block k hk hn)⟩

theorem step3_byt {n r q : Nat} {bs : List Int} {x : Do3} (h : Byt bs) : Byt (step3 n r q bs x).out := by
  unfold step3
  repeat' split
  all_goals first | exact sector_byt h _ | (intro y hy; simp at hy)
theorem step3_outlen {n r q : Nat} {bs : List Int} {x : Do3} : (step3 n r q bs x).out.length ≤ 64 := by
  unfold step3
  repeat' split
  all_goals first | (simp [sector]; omega) | simp

theorem step3_cases (n r q : Nat) (bs : List Int) (x : Do3) : ((step3 n r q bs x).err ≠ 0 ∧ (step3 n r q bs x).r = r ∧ (step3 n r q bs x).q = q) ∨
    ((step3 n r q bs x).err = 0 ∧ x.kind = 1 ∧ (step3 n r q bs x).r = r + 1 ∧ (step3 n r q bs x).q = q) ∨ ((step3 n r q bs x).err = 0 ∧ x.kind = 2 ∧ (step3 n r q bs x).r = r ∧ (step3 n r q bs x).q = q + 1) ∨
    ((step3 n r q bs x).err = 0 ∧ x.kind ≠ 1 ∧ x.kind ≠ 2 ∧ (step3 n r q bs x).r = r ∧ (step3 n r q bs x).q = q) := by
  unfold step3
  by_cases h0 : x.num < 0 ∨ (n : Int) ≤ x.num
  · rw [if_pos h0]; exact .inl ⟨by dsimp only; decide, rfl, rfl⟩
  · rw [if_neg h0]
    by_cases h1 : x.kind = 1
    · rw [if_pos h1]; exact .inr (.inl ⟨rfl, h1, rfl, rfl⟩)
    · rw [if_neg h1]
      by_cases h2 : x.kind = 2
      · rw [if_pos h2]
        by_cases h3 : 64 < x.n
        · rw [if_pos h3]; exact .inl ⟨by dsimp only; decide, rfl, rfl⟩
        · rw [if_neg h3]; exact .inr (.inr (.inl ⟨rfl, h2, rfl, rfl⟩))
      · rw [if_neg h2]; exact .inr (.inr (.inr ⟨rfl, h1, h2, rfl, rfl⟩))

theorem RefAt.upd {w w' : World} {base : Nat} {v : Value} {n : Nat} {vs : List Value} {bs : List Int} (h : RefAt w base v n vs bs) {l : List Nat} (u : Upd l w w') (hl : ∀ k ∈ l, k < base) : RefAt w' base v n vs bs :=
  ⟨u.ownsAbove h.row hl, h.secs.keep u hl, h.len, h.byt⟩

/-- What is written in a row of bytes of nobody's. -/
theorem RefAt.spoilt {w w' : World} {base b2 m : Nat} {v s : Value} {n : Nat} {vs ys : List Value} {bs : List Int} (h : RefAt w base v n vs bs) {L : List Nat} (u : Upd L w w') (hs : w.ownsRow b2 5 1 s m ys) (hL : ∀ k ∈ L, s.ownBlock = some k)
    (hv : ∀ x ∈ vs, ∀ k, s.ownBlock = some k → x.ownBlock ≠ some k) : RefAt w' base v n vs bs :=
  ⟨u.owns h.row (fun k hk hm => owns_ne hs h.row (by decide) (hL k hm) hk), fun i x hx => u.owns (h.secs i x hx) (fun k hk hm => hv x (List.mem_of_getElem? hx) k (hL k hm) hk), h.len, h.byt⟩

theorem law_DiskSteps (n : Int) (a1 : Option Addr) (len1 cap1 : Nat) (z1 : List Do3) (w : World) (w0 : (Lit.int .i64 n).wf = true) (w1 : Do3s w a1 len1 cap1 z1) :
    Calls Try.prog 7 #[.int .i64 n, .slice a1 len1 cap1] w fun e w' => e = .returned (.bool true) ∧ Below w.heap.size w w' := by
  obtain ⟨b0, b1⟩ := bounds_i64 w0
  obtain ⟨ed, hc3, hm3, hr3, hok⟩ := w1
  unfold maxLen at hm3
  have ED := Lib.hid ed
  have HD := Lib.hid hr3
  have HO := Lib.hid hok
  clear ed hr3 hok w0
  by_cases h60 : 60 < len1
  · clear HD HO
    by_cases h200 : 200 < n
    all_goals
      go_enter Try.func7, Try.ntmps7
      go_wp2_with (go_at_call 13; refine (c_known03 _).mono ?_; rintro e w' ⟨rfl, hbel⟩)
      all_goals
        go_ret
        exact ⟨rfl, hbel⟩
  · by_cases hA : 200 < n ∧ n ≤ 20000
    · obtain ⟨h1, h2⟩ := hA
      clear HD HO
      go_enter Try.func7, Try.ntmps7
      go_wp2_with (go_at_call 13; refine (c_known03 _).mono ?_; rintro e w' ⟨rfl, hbel⟩)
      go_ret
      exact ⟨rfl, hbel⟩
    · by_cases hB : n < 0 ∨ 20000 < n
      · clear HD HO
        by_cases hB1 : n < 0
        · clear hA hB
          go_enter Try.func7, Try.ntmps7
          go_wp2_with (first
            | (go_at_call 14; refine (c_NewNo n _ (by omega) (by omega) (by omega)).mono ?_; rintro e w' ⟨rfl, rfl⟩)
            | (go_at_call 13; refine (c_known03 _).mono ?_; rintro e w' ⟨rfl, hbel⟩))
          go_ret
          exact ⟨rfl, hbel⟩
        · have hB2 : 20000 < n := by omega
          have hB3 : 200 < n := by omega
          clear hA hB
          go_enter Try.func7, Try.ntmps7
          go_wp2_with (first
            | (go_at_call 14; refine (c_NewNo n _ (by omega) (by omega) (by omega)).mono ?_; rintro e w' ⟨rfl, rfl⟩)
            | (go_at_call 13; refine (c_known03 _).mono ?_; rintro e w' ⟨rfl, hbel⟩))
          go_ret
          exact ⟨rfl, hbel⟩
      · obtain ⟨N, rfl⟩ := Int.eq_ofNat_of_zero_le (show 0 ≤ n from by omega)
        have hN : N ≤ 200 := by omega
        clear hA hB
        go_enter Try.func7, Try.ntmps7
        go_wp2_with fail
        refine (c_NewYes N _ (by omega)).mono ?_
        rintro e w1 ⟨d, g, rfl, hd, hg, D1, U1⟩
        have HD1 := Lib.hid D1
        have HU1 := Lib.hid U1
        have hd1 := D1.head.lt
        have hg1 := D1.data.lt
        clear D1 U1
        go_wp2_with (go_at_call 25; refine (c_RefNew N _ (by omega)).mono ?_; rintro e w2 ⟨v0, vs0, rfl, R2, B2⟩; have HR2 := Lib.hid R2; have HB2 := Lib.hid B2; clear R2 B2)
        go_loopw [7, 8, 9, 10] (fun x rr qq i wr => ∃ (k r q : Nat) (bs : List Int) (vs : List Value), k ≤ len1 ∧ i = .int .i64 k ∧ rr = .int .i64 r ∧ qq = .int .i64 q ∧ r ≤ k ∧ q ≤ k ∧ Hid (DiskAt wr d g N r q bs) ∧ Hid (RefAt wr w1.heap.size x N vs bs) ∧ Hid (Upd [d, g] w1 wr)) (fun _ _ _ i _ => len1 - (intOf i).toNat)
        case atStart => exact ⟨0, 0, 0, _, vs0, Nat.zero_le _, rfl, rfl, rfl, Nat.le_refl _, Nat.le_refl _, HD1.out.keep (Upd.of_below (l := []) HB2.out) (by simp) (by simp), HR2.out, Upd.of_below HB2.out⟩
        case round =>
          obtain ⟨k, r, q, bs, vs, hk, rfl, rfl, rfl, hr, hq, HDr, HRr, HUr⟩ := hrel
          obtain ⟨wA, rfl⟩ : ∃ x, x = wr := ⟨_, rfl⟩
          have HIN := Lib.hid (show ∀ k ∈ [d, g], w.heap.size ≤ k from fun k hk => by simp at hk; rcases hk with rfl | rfl <;> assumption)
          have HIM := Lib.hid (show ∀ k ∈ [d, g], k < w1.heap.size from fun k hk => by simp at hk; rcases hk with rfl | rfl <;> assumption)
          have HBr := Lib.hid (((HU1.out.mono (m := [d, g]) (by simp)).trans HUr.out).below (Nat.le_refl _) HIN.out)
          have hs1 := HUr.out.size
          by_cases hlt : k < len1
          · have hlt2 : k < z1.length := by have := ED.out; omega
            obtain ⟨b, off, rfl, hblt, hc⟩ := HD.out k _ (List.getElem?_eq_getElem hlt2)
            have hxo := (HO.out _ (List.getElem_mem hlt2))
            generalize z1[k] = x at *
            have HX := Lib.hid (hxo.below HBr.out)
            have HX0 := Lib.hid hxo
            have HC := Lib.hid (fun (w' : World) (hb : Below w.heap.size w w') j v hv => (hb.cell (p := ⟨b, off + k * 3 + j, none⟩) hblt).trans (hc j v hv))
            have c0 := HC.out _ HBr.out 0 _ rfl
            have c1 := HC.out _ HBr.out 1 _ rfl
            have c2 := HC.out _ HBr.out 2 _ rfl
            rw [Nat.add_zero] at c0
            clear hc hxo
            go_wp2_with fail
            refine (c_done d g N r q bs _ HDr.out (by omega) (by omega) x HX.out).mono ?_
            rintro e w4 ⟨v, rfl, own4, D4, U4⟩
            have HD4 := Lib.hid D4
            have HU4 := Lib.hid U4
            have HW4 := Lib.hid own4
            have HB4 := Lib.hid (HBr.out.trans (U4.below HBr.out.size HIN.out))
            have HR4 := Lib.hid (HRr.out.upd U4 HIM.out)
            have HX4 := Lib.hid (HX0.out.below HB4.out)
            have d0 := HC.out _ HB4.out 0 _ rfl
            have d1 := HC.out _ HB4.out 1 _ rfl
            have d2 := HC.out _ HB4.out 2 _ rfl
            rw [Nat.add_zero] at d0
            have hs4 := U4.size
            clear D4 U4 own4
            go_wp2_with fail
            refine (c_RefStep w1.heap.size N _ vs bs _ HR4.out (by omega) (by omega) x HX4.out).mono ?_
            rintro e w5 ⟨y, vs', c, rfl, R5, hmem, own5, B5⟩
            have hv4 := HW4.out.lt
            have HB5 := Lib.hid (bNext HB4.out B5)
            have HU5 := Lib.hid ((HUr.out.trans HU4.out).trans (Upd.of_below B5))
            have HW5 := Lib.hid ((Upd.of_below (l := []) B5).owns HW4.out (by simp))
            have HD5 := Lib.hid (HD4.out.keep (Upd.of_below (l := []) B5) (by simp) (by simp))
            have HMM := Lib.hid (show ∀ x ∈ vs', ∀ k, v.ownBlock = some k → x.ownBlock ≠ some k from fun x hx k hk hk2 => by
              have hk3 := hv4 k hk
              rcases hmem x hx with h | h
              · obtain ⟨j, hj, rfl⟩ := List.getElem_of_mem h
                have := ((HRr.out.secs j _ (List.getElem?_eq_getElem hj)).lt k hk2).2
                omega
              · have := h k hk2
                omega)
            rw [← step3_bs N r q bs x] at R5
            rw [← step3_out N r q bs x] at own5
            rw [← step3_err N r q bs x]
            have HR5 := Lib.hid R5
            have HO5 := Lib.hid own5
            have HCA := Lib.hid (step3_cases N r q bs x)
            have HBY := Lib.hid (step3_byt (n := N) (r := r) (q := q) (x := x) HDr.out.byt)
            have HLE := step3_outlen (n := N) (r := r) (q := q) (bs := bs) (x := x)
            clear R5 own5 hmem B5 HD4 HW4 HR4 HDr HRr c0 c1 c2 d0 d1 d2 HX HX4
            generalize step3 N r q bs x = st at *
            obtain ⟨r', q', bs', out, err⟩ := st
            dsimp only at *
            have HV4 := Lib.hid hv4
            clear hv4
            obtain ⟨ac, cc, rfl, rdc, _, _⟩ := owns_reads HO5.out
            have HRC := Lib.hid rdc
            clear rdc
            have hvs : ∃ av cv, v = .slice av out.length cv ∧ Reads w5 av cv (out.map (Value.int .u8)) := by
              obtain ⟨av, cv, h1, h2, _⟩ := owns_reads HW5.out
              exact ⟨av, cv, h1, h2⟩
            obtain ⟨av, cv, rfl, rdv⟩ := hvs
            have HRV := Lib.hid rdv
            clear rdv
            go_wp2_with fail
            refine (c_SameYes av ac out.length out.length cv cc out out w5 rfl rfl HRV.out HRC.out HBY.out rfl).mono ?_
            rintro e w' ⟨rfl, rfl⟩
            go_wp2_with fail
            refine (c_SpoilB _ out.length _ out w5 HW5.out (by omega)).mono ?_
            rintro e w6 ⟨rfl, L, hL, U6⟩
            have hLA : ∀ k ∈ L, wA.heap.size ≤ k := fun k hk => (HV4.out k (hL k hk)).1
            have hLd : d ∉ L := fun h => by have := hLA d h; omega
            have hLg : g ∉ L := fun h => by have := hLA g h; omega
            have HD6 := Lib.hid (HD5.out.keep U6 hLd hLg)
            have HR6 := Lib.hid (HR5.out.spoilt U6 HW5.out hL HMM.out)
            have HU6 := Lib.hid (HU5.out.above U6 (fun k hk => by have := hLA k hk; omega))
            have HB6 := Lib.hid (((HU1.out.mono (m := [d, g]) (by simp)).trans HU6.out).below (Nat.le_refl _) HIN.out)
            have e0 := HC.out _ HB6.out 0 _ rfl
            rw [Nat.add_zero] at e0
            clear U6 hL hLA hLd hLg HD5 HR5 HMM
            rcases HCA.out with ⟨he, rfl, rfl⟩ | ⟨rfl, hk1, rfl, rfl⟩ | ⟨rfl, hk1, rfl, rfl⟩ | ⟨rfl, hk1, hk2, rfl, rfl⟩
            · have hef : (err == 0) = false := by simp [he]
              clear he
              go_wp2
              go_roundw
              case rel => exact ⟨k + 1, _, _, bs', vs', by omega, by go_num, rfl, rfl, by omega, by omega, HD6.out, HR6.out, HU6.out⟩
              case measure => simp [intOf]; omega
            · rw [hk1] at e0
              clear hk1
              go_wp2
              go_roundw
              case rel => exact ⟨k + 1, _, _, bs', vs', by omega, by go_num, by go_num, rfl, by omega, by omega, HD6.out, HR6.out, HU6.out⟩
              case measure => simp [intOf]; omega
            · rw [hk1] at e0
              clear hk1
              go_wp2
              go_roundw
              case rel => exact ⟨k + 1, _, _, bs', vs', by omega, by go_num, rfl, by go_num, by omega, by omega, HD6.out, HR6.out, HU6.out⟩
              case measure => simp [intOf]; omega
            · have hkf1 : (x.kind == 1) = false := by simp [hk1]
              have hkf2 : (x.kind == 2) = false := by simp [hk2]
              clear hk1 hk2
              go_wp2
              go_roundw
              case rel => exact ⟨k + 1, _, _, bs', vs', by omega, by go_num, rfl, rfl, by omega, by omega, HD6.out, HR6.out, HU6.out⟩
              case measure => simp [intOf]; omega
          · obtain rfl : len1 = k := by omega
            clear hlt hk HD HO
            go_wp2_with fail
            refine (c_Calls d g N r q bs _ HDr.out).mono ?_
            rintro e w7 ⟨rfl, U7⟩
            have HD7 := Lib.hid (HDr.out.keep U7 (by simp) (by simp))
            have HR7 := Lib.hid (HRr.out.upd U7 (by simp))
            have HB7 := Lib.hid (HBr.out.trans (U7.below HBr.out.size (by simp)))
            have hdB := HIM.out d (by simp)
            obtain ⟨ax, cx, rfl, _, _, _⟩ := owns_reads HR7.out.row
            clear U7 HDr HRr HUr HBr
            go_wp2_with fail
            go_loopw [18] (fun i w2 => ∃ k : Nat, k ≤ N ∧ i = .int .i64 k ∧ Hid (DiskAt w2 d g N (r + k) q bs) ∧ Hid (Upd [d] w7 w2)) (fun i _ => N - (intOf i).toNat)
            case atStart => exact ⟨0, Nat.zero_le _, rfl, HD7.out, Upd.refl _ _⟩
            case round =>
              obtain ⟨k, hk, rfl, HD8, HU8⟩ := hrel
              have HR8 := Lib.hid (HR7.out.upd HU8.out (by simpa using hdB))
              have HB8 := Lib.hid (HB7.out.trans (HU8.out.below HB7.out.size (fun k hk => HIN.out k (by simp at hk; subst hk; simp))))
              by_cases hlt : k < N
              · obtain ⟨gx, cx0, hvx, hgx, hgl, hcx, hcell⟩ := owns_at HR8.out.row (by omega)
                cases hvx
                have hvl : vs.length = N := by have := HR8.out.row.1; omega
                have hck := hcell k _ (List.getElem?_eq_getElem (by omega))
                have hok := HR8.out.secs k _ (List.getElem?_eq_getElem (by omega))
                generalize vs[k] = s at *
                obtain ⟨gk, ck, rfl, hgk, _, hck2, _⟩ := owns_at hok (by omega)
                have HK := Lib.hid hok
                clear hok hcell
                go_wp2_with fail
                refine (c_Read d g N (r + k) q bs _ HD8.out (by omega) k hlt).mono ?_
                rintro e w4 ⟨s, rfl, own, D4, U4⟩
                obtain ⟨gs, cs, rfl, _, _, hcs, _⟩ := owns_at own (by omega)
                have hgd : gx ≠ d := by omega
                have hcell : w4.cell? ⟨gx, k, none⟩ = some (.slice (some ⟨gk, 0, none⟩) 64 ck) := (World.cell?_of_block (U4.block gx hgl (by simpa using hgd))).trans hck
                have HK4 := Lib.hid (row_reads (U4.ownsAbove HK.out (by simpa using hdB)))
                have HS4 := Lib.hid (row_reads own)
                have hsl := sector_len HD8.out.len hlt
                have HBY := Lib.hid (sector_byt HR7.out.byt k)
                have HD4 := Lib.hid D4
                have HU4 := Lib.hid (HU8.out.trans U4)
                clear own D4 U4 hck HK
                go_wp2_with (go_at_call 19; refine (c_SameYes _ _ 64 64 cs ck (sector bs k) (sector bs k) _ hsl.symm hsl.symm HS4.out HK4.out HBY.out rfl).mono ?_; rintro e w' ⟨rfl, rfl⟩)
                go_roundw
                case rel => exact ⟨k + 1, by omega, by go_num, HD4.out, HU4.out⟩
                case measure => simp [intOf]; omega
              · obtain rfl : N = k := by omega
                clear hlt hk
                go_wp2_with (first
                  | (go_at_call 22; refine (c_Used d g N (r + N) q bs _ HD8.out).mono ?_; rintro e w' ⟨rfl, rfl⟩)
                  | (go_at_call 27; refine (c_RefUsed w1.heap.size N _ vs bs _ HR8.out (by omega)).mono ?_; rintro e w' ⟨rfl, rfl⟩)
                  | (go_at_call 21; refine (c_Len d g N (r + N) q bs _ HD8.out).mono ?_; rintro e w' ⟨rfl, rfl⟩)
                  | (go_at_call 13; refine (c_known03 _).mono ?_; rintro e w' ⟨rfl, hbel⟩))
                go_ret
                exact ⟨rfl, bNext HB8.out hbel⟩

end Go.Proofs.Ytbmenldopeplcaa
