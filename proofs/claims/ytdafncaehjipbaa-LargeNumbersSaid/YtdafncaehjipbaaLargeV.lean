/-
  Contracts of package large: Int. (Written by lvgen.py.)
-/
import Derived.Test.YtdafncaehjipbaaLargeU
namespace Go.Proofs.Ytdafncaehjipbaa
open Go.RowKit Go.Shelf
set_option linter.unusedVariables false
set_option maxHeartbeats 2000000
set_option maxRecDepth 100000

attribute [local go_sem] Oper.semAt_some

theorem i64_or8 (x c : Int) (h0 : 0 ≤ c) (h1 : c < 256) : bits .or .i64 (wrap64 (x * 256)) c = wrap64 (x * 256 + c) := by
  have ha : (BitVec.ofInt 64 (wrap64 (x * 256))).toNat = (x % 72057594037927936).toNat * 2 ^ 8 := by
    rw [BitVec.toNat_ofInt]; unfold wrap64; omega
  have hb : (BitVec.ofInt 64 c).toNat = c.toNat := by rw [BitVec.toNat_ofInt]; omega
  have key : (BitVec.ofInt 64 (wrap64 (x * 256)) ||| BitVec.ofInt 64 c).toNat = (x % 72057594037927936).toNat * 2 ^ 8 + c.toNat := by
    rw [BitVec.toNat_or, ha, hb]
    exact nat_or_low _ _ _ (by omega)
  show IntKind.i64.wrap ((BitVec.ofInt 64 (wrap64 (x * 256)) ||| BitVec.ofInt 64 c).toNat : Nat) = wrap64 (x * 256 + c)
  rw [key, IntKind.wrap_i64]
  unfold wrap64
  omega

/-- Is it a number that has room in an int? -/
def intO (l : List Int) : Bool := rightB l && decide (valI l < 9223372036854775808)

def foldI (pre : List (Nat × Int)) : Int := pre.foldl (fun s x => wrap64 (s * 256 + x.2 % 256)) 0
theorem foldI_snoc (pre : List (Nat × Int)) (x : Nat × Int) : foldI (pre ++ [x]) = wrap64 (foldI pre * 256 + x.2 % 256) := by simp [foldI]
theorem foldI_in : ∀ pre : List (Nat × Int), -9223372036854775808 ≤ foldI pre ∧ foldI pre ≤ 9223372036854775807 := fun pre => by
  rcases List.eq_nil_or_concat pre with rfl | ⟨q, x, rfl⟩
  · exact ⟨by simp [foldI], by simp [foldI]⟩
  · rw [List.concat_eq_append, foldI_snoc]; unfold wrap64; omega
theorem foldI_val {zs : List Int} (hb : Byt zs) (hv : valI zs < 9223372036854775808) : ∀ k, k ≤ zs.length → foldI (upto (backAt zs) k) = ((valI (zs.drop (zs.length - k)) : Nat) : Int)
  | 0, _ => by
    rw [List.drop_of_length_le (by omega)]; rfl
  | k + 1, h => by
    have h1 := foldI_val hb hv k (by omega)
    rw [upto_succ, foldI_snoc, h1]
    obtain ⟨j, hj⟩ : ∃ j, zs.length = j + 1 + k := ⟨zs.length - 1 - k, by omega⟩
    have e1 : zs.length - (k + 1) = j := by omega
    have e2 : zs.length - k = j + 1 := by omega
    have e3 : backAt zs k = (j, zs[j]?.getD 0) := by unfold backAt; rw [show zs.length - 1 - k = j from by omega]
    have hbj := byte_at hb j
    rw [e1, e2, e3, val_drop (show j < zs.length by omega)]
    have hs := valI_append (zs.take j) (zs.drop j)
    rw [List.take_append_drop] at hs
    have hd : valI (zs.drop j) ≤ valI zs := by
      rw [hs]
      have : 1 * valI (zs.drop j) ≤ 256 ^ (zs.take j).length * valI (zs.drop j) := Nat.mul_le_mul_right _ (show 1 ≤ 256 ^ (zs.take j).length from Nat.pow_pos (by omega))
      omega
    rw [val_drop (show j < zs.length by omega)] at hd
    have hdg : zs[j]?.getD 0 = ((dg zs j : Nat) : Int) := by unfold dg; rw [List.getD_eq_getElem?_getD]; omega
    dsimp only
    rw [hdg]
    have hx := dg_le hb j
    generalize valI (zs.drop (j + 1)) = H at *
    generalize dg zs j = c at *
    unfold wrap64
    omega

theorem val8 {l : List Int} (hb : Byt l) (h : l.length = 8) : valI l < 9223372036854775808 ↔ l.getD 7 0 ≤ 127 := by
  have h1 := val_take l 7
  rw [List.take_of_length_le (by omega)] at h1
  have h2 := valI_lt (take_bytL hb 7)
  have h3 : (l.take 7).length = 7 := by rw [List.length_take]; omega
  rw [h3] at h2
  have h4 := byte_in hb 7
  unfold dg at h1
  omega
theorem val_long {l : List Int} (hb : Byt l) (hr : rightB l = true) (h : 8 < l.length) : ¬ valI l < 9223372036854775808 := by
  have h1 := right_digs hb hr
  have h2 := digs_ge (n := valI l) (by
    intro h0
    rw [h0, digs_0] at h1
    have := h1.1
    rw [← this] at h
    simp at h)
  rw [h1.1] at h2
  have h3 : 256 ^ 8 ≤ 256 ^ (l.length - 1) := Nat.pow_le_pow_right (by omega) (by omega)
  omega
theorem val_short {l : List Int} (hb : Byt l) (h : l.length < 8) : valI l < 9223372036854775808 := by
  have h1 := valI_lt hb
  have h3 : 256 ^ l.length ≤ 256 ^ 7 := Nat.pow_le_pow_right (by omega) (by omega)
  omega

theorem c_Int (a : Option Addr) (n c : Nat) (l : List Int) (w : World) (hs : SlAt w a n c l) (hm : n ≤ 100000) :
    Calls Try.prog 22 #[.slice a n c] w fun e w' => e = .returned (.tuple #[.int .i64 (if intO l then valI l else 0 : Nat), .bool (intO l)]) ∧ Below w.heap.size w w' := by
  have HR := Lib.hid (c_Right a n c l w hs.len hs.rd (by omega))
  have HS := Lib.hid hs
  cases hr : rightB l with
  | false =>
    have hi : intO l = false := by unfold intO; rw [hr]; rfl
    rw [hr] at HR
    rw [hi]
    clear hr hi hs
    go_enter Try.func22, Try.ntmps22
    go_wp2_with fail
    refine HR.out.mono ?_
    rintro e w' ⟨rfl, rfl⟩
    go_wp2
    go_ret2
    exact ⟨rfl, Below.refl _ _⟩
  | true =>
    rw [hr] at HR
    have hi : intO l = decide (valI l < 9223372036854775808) := by unfold intO; rw [hr]; rfl
    rcases Nat.lt_trichotomy n 8 with h8 | h8 | h8
    · have hv := val_short hs.byt (by rw [← hs.len]; exact h8)
      have q1 : ((n : Int) == 8) = false := by simp; omega
      have q2 : (n == 8) = false := by simp; omega
      have q3 : ((8 : Int) < n) = False := eq_false (by omega)
      have q4 : (8 < n) = False := eq_false (by omega)
      rw [hi, decide_eq_true hv]
      have HV := Lib.hid hv
      clear hr hi hs hv
      refine (callsIn_wide (n := 6)).1 ?_
      refine callsIn_of_wp_marks Try.func22 rfl trivial ?_ rfl
      simp only [Try.ntmps22, List.size_toArray, List.length_cons, List.length_nil, Nat.reduceAdd, Nat.reduceSub, Array.replicate_succ, Array.replicate_zero, List.push_toArray, List.append_toArray, List.nil_append, List.cons_append]
      refine wpIn_wide.2 (Code.wp_mono noPanic_to ?_)
      go_wp2_with fail
      refine HR.out.mono ?_
      rintro e w' ⟨rfl, rfl⟩
      go_wp2_with fail
      obtain ⟨w1, hw1⟩ : ∃ z, z = (w.alloc (.cells #[.int .i64 0] 3)) := ⟨_, rfl⟩
      obtain ⟨q4, hq4⟩ : ∃ z, z = w.heap.size := ⟨_, rfl⟩
      have b1 : Below w.heap.size w w1 := by rw [hw1]; exact (Below.refl _ w).alloc (Nat.le_refl _) _
      have s1 : w1.heap.size = w.heap.size + 1 := by rw [hw1]; simp
      have r4 : Row w1 q4 3 [.int .i64 0] := by rw [hw1, hq4]; exact Row.made w _ _
      rw [← hw1, ← hq4]
      clear hw1
      refine ((callsIn_wide (n := 5)).1 (back_in Fence.wide 5 trivial rfl a n c _)).mono ?_
      rintro e w5' ⟨rfl, rfl⟩
      obtain ⟨Bs, hBs⟩ : ∃ z, z = w1.heap.size := ⟨_, rfl⟩
      obtain ⟨w5, hw5⟩ : ∃ z, z = w1.alloc (.cells #[.slice a n c] 22) := ⟨_, rfl⟩
      have b5 : Below w1.heap.size w1 w5 := by rw [hw5]; exact (Below.refl _ w1).alloc (Nat.le_refl _) _
      have s5 : w5.heap.size = w.heap.size + 2 := by rw [hw5]; simp [s1]
      have cB : w5.cell? ⟨Bs, 0, none⟩ = some (.slice a n c) := by
        have := (Row.made w1 [.slice a n c] 22).cell (i := 0) rfl
        rw [hw5, hBs]; exact this
      have hBe : Bs = w.heap.size + 1 := by rw [hBs]; exact s1
      have R4 : Row w5 q4 3 [.int .i64 0] := (b5.block _ r4.lt).trans r4
      have B5 : Below w.heap.size w w5 := bNext b1 b5
      have HQ := Lib.hid (show q4 = w.heap.size ∧ Bs = w.heap.size + 1 ∧ w5.heap.size = w.heap.size + 2 from ⟨hq4, hBe, s5⟩)
      rw [← hw5, ← hBs]
      clear hq4 hBs hw5 b5 s5 hBe b1 s1 r4
      go_wp2
      refine (wpIn_wide (n := 6)).1 ?_
      refine wpIn_rangeFunc_ownG rfl (by omega) (gf := 53) (lb := #[.pointer (some ⟨Bs, 0, none⟩)]) rfl trivial (enters_of Try.func53 (by kernel_rfl) rfl)
        (back_stops Fence.wide 5 trivial rfl (by omega) Bs w.heap.size n c a l HS.out.len (by omega) w5 (by have := HQ.out; omega) (by have := HQ.out; omega) cB w HS.out.rd (Nat.le_refl _) (HS.out.rd.below B5) HS.out.byt) (fun h k => KpB.trans h k) (kpB_b (by have := HQ.out; omega) (by have := HQ.out; omega)) (Below.refl _ _) (fun _ => rfl)
        (fun pre W => Row W q4 3 [.int .i64 (foldI pre)] ∧ Below w.heap.size w W)
        (fun _ _ _ => False)
        (OwnFrom.and (Own.from (fun s A B row hs hg hr => by exact row_kept hs hg hr) _) (ownFrom_below (Nat.le_refl _) (by have := HQ.out; omega)))
        (fun _ _ _ _ _ hs _ _ => hs)
        ⟨by simpa [foldI] using R4, B5⟩
        (fun x => { tmps := #[.slice a n c, undef, .int .i64 0, .bool false, .pointer (some ⟨q4, 0, none⟩), undef, .int .u8 (x.2 % 256), .slice a n c, .bool true, .bool false, .bool false, .slice a n c, .int .i64 n, .bool false, .bool false, .bool false, .slice a n c, .int .i64 n, .bool false, .bool false, undef, undef, undef, undef, .bool false, .bool false, .slice a n c, .func (.func 53) #[] #[.pointer (some ⟨Bs, 0, none⟩)], .int .i64 ((x.1 : Int) % (n : Int)), .int .u8 (x.2 % 256), undef, undef, undef, undef, undef, undef], defers := [] }) ?assign ?body ?done ?stop
      case assign =>
        intro l x W K hK
        gi_wp2
        exact hK
      case body =>
        rintro l2 pre x W ⟨R4', hBW⟩ hlt
        have HS5 := Lib.hid (foldI_snoc pre x)
        have hd0 : 0 ≤ x.2 % 256 := by omega
        have hd1 : x.2 % 256 ≤ 255 := by omega
        have hfi := foldI_in pre
        generalize foldI pre = r at *
        generalize x.2 % 256 = d at *
        have hor := i64_or8 r d hd0 (by omega)
        obtain ⟨T, hT⟩ : ∃ T, T = wrap64 (r * 256 + d) := ⟨_, rfl⟩
        rw [← hT] at hor HS5
        have c4 := R4'.cell (i := 0) rfl
        have f4 := R4'.free 0
        have HR4 := Lib.hid R4'
        clear hT R4' hlt R4 cB
        gi_wp2
        have hq := HQ.out
        refine ⟨(KeepsOthers.setCell _ _ _).from _, ⟨(Below.refl w.heap.size W).setCell (p := ⟨q4, 0, none⟩) (by show w.heap.size ≤ q4; omega) _, by simp [World.setCell], fun _ => Below.heap_setCell _ _ _ _ (by show Bs ≠ q4; omega)⟩, ?_, hBW.setCell (p := ⟨q4, 0, none⟩) (by show w.heap.size ≤ q4; omega) _⟩
        rw [HS5.out]
        exact HR4.out.set 0 _
      case done =>
        rintro D2 ys W hD2 rfl ⟨R4', hBW⟩ hK
        have hnl := HS.out.len
        have hfv := foldI_val HS.out.byt HV.out l.length (Nat.le_refl _)
        rw [Nat.sub_self, List.drop_zero, ← hnl] at hfv
        rw [hfv] at R4'
        obtain ⟨N, hN⟩ : ∃ N, N = valI l := ⟨_, rfl⟩
        rw [← hN] at R4'
        have HN := Lib.hid hN
        have c4 := R4'.cell (i := 0) rfl
        have HK := Lib.hid hK
        have HDD := Lib.hid (show w.heap.size ≤ D2 from by have := HQ.out; omega)
        have HBW := Lib.hid hBW
        clear R4 cB hnl hfv hN R4' hK hBW hD2
        go_wp2
        refine ⟨by simp, .inl ⟨_, _, rfl, run_takeDeferred HK.out, ?_⟩⟩
        refine ⟨.tuple #[.int .i64 (N : Int), .bool true], ?_, by (try rw [HN.out]) <;> (try first | rfl | simp), HBW.out.trans (belowK_b (w := w) (Nat.le_refl _) _ D2 _ _ HDD.out HK.out rfl rfl)⟩
        simp [results, Try.f22]
      case stop =>
        rintro D2 cc pre W hD2 _ h _
        exact h.elim
    · have h7 := hs.rd.at (by have := hs.len; simp; omega)
      obtain ⟨b0, o0, rfl, _, hc0⟩ := h7
      have k7 := hc0 7 _ (getD_map8 (by have := hs.len; omega))
      subst h8
      by_cases hx : l.getD 7 0 ≤ 127
      · have hv := (val8 hs.byt hs.len.symm).2 hx
        rw [hi, decide_eq_true hv]
        have HV := Lib.hid hv
        have q5 : ((127 : Int) < l.getD 7 0) = False := eq_false (by omega)
        have q6 : (l.getD 7 0 > 127) = False := eq_false (by omega)
        clear hr hi hs hv hc0
        generalize l.getD 7 0 = x at *
        refine (callsIn_wide (n := 6)).1 ?_
        refine callsIn_of_wp_marks Try.func22 rfl trivial ?_ rfl
        simp only [Try.ntmps22, List.size_toArray, List.length_cons, List.length_nil, Nat.reduceAdd, Nat.reduceSub, Array.replicate_succ, Array.replicate_zero, List.push_toArray, List.append_toArray, List.nil_append, List.cons_append]
        refine wpIn_wide.2 (Code.wp_mono noPanic_to ?_)
        go_wp2_with fail
        refine HR.out.mono ?_
        rintro e w' ⟨rfl, rfl⟩
        go_wp2_with fail
        obtain ⟨w1, hw1⟩ : ∃ z, z = (w.alloc (.cells #[.int .i64 0] 3)) := ⟨_, rfl⟩
        obtain ⟨q4, hq4⟩ : ∃ z, z = w.heap.size := ⟨_, rfl⟩
        have b1 : Below w.heap.size w w1 := by rw [hw1]; exact (Below.refl _ w).alloc (Nat.le_refl _) _
        have s1 : w1.heap.size = w.heap.size + 1 := by rw [hw1]; simp
        have r4 : Row w1 q4 3 [.int .i64 0] := by rw [hw1, hq4]; exact Row.made w _ _
        rw [← hw1, ← hq4]
        clear hw1
        refine ((callsIn_wide (n := 5)).1 (back_in Fence.wide 5 trivial rfl (some ⟨b0, o0, none⟩) 8 c _)).mono ?_
        rintro e w5' ⟨rfl, rfl⟩
        obtain ⟨Bs, hBs⟩ : ∃ z, z = w1.heap.size := ⟨_, rfl⟩
        obtain ⟨w5, hw5⟩ : ∃ z, z = w1.alloc (.cells #[.slice (some ⟨b0, o0, none⟩) 8 c] 22) := ⟨_, rfl⟩
        have b5 : Below w1.heap.size w1 w5 := by rw [hw5]; exact (Below.refl _ w1).alloc (Nat.le_refl _) _
        have s5 : w5.heap.size = w.heap.size + 2 := by rw [hw5]; simp [s1]
        have cB : w5.cell? ⟨Bs, 0, none⟩ = some (.slice (some ⟨b0, o0, none⟩) 8 c) := by
          have := (Row.made w1 [.slice (some ⟨b0, o0, none⟩) 8 c] 22).cell (i := 0) rfl
          rw [hw5, hBs]; exact this
        have hBe : Bs = w.heap.size + 1 := by rw [hBs]; exact s1
        have R4 : Row w5 q4 3 [.int .i64 0] := (b5.block _ r4.lt).trans r4
        have B5 : Below w.heap.size w w5 := bNext b1 b5
        have HQ := Lib.hid (show q4 = w.heap.size ∧ Bs = w.heap.size + 1 ∧ w5.heap.size = w.heap.size + 2 from ⟨hq4, hBe, s5⟩)
        rw [← hw5, ← hBs]
        clear hq4 hBs hw5 b5 s5 hBe b1 s1 r4
        go_wp2
        refine (wpIn_wide (n := 6)).1 ?_
        refine wpIn_rangeFunc_ownG rfl (by omega) (gf := 53) (lb := #[.pointer (some ⟨Bs, 0, none⟩)]) rfl trivial (enters_of Try.func53 (by kernel_rfl) rfl)
          (back_stops Fence.wide 5 trivial rfl (by omega) Bs w.heap.size 8 c (some ⟨b0, o0, none⟩) l HS.out.len (by omega) w5 (by have := HQ.out; omega) (by have := HQ.out; omega) cB w HS.out.rd (Nat.le_refl _) (HS.out.rd.below B5) HS.out.byt) (fun h k => KpB.trans h k) (kpB_b (by have := HQ.out; omega) (by have := HQ.out; omega)) (Below.refl _ _) (fun _ => rfl)
          (fun pre W => Row W q4 3 [.int .i64 (foldI pre)] ∧ Below w.heap.size w W)
          (fun _ _ _ => False)
          (OwnFrom.and (Own.from (fun s A B row hs hg hr => by exact row_kept hs hg hr) _) (ownFrom_below (Nat.le_refl _) (by have := HQ.out; omega)))
          (fun _ _ _ _ _ hs _ _ => hs)
          ⟨by simpa [foldI] using R4, B5⟩
          (fun y => { tmps := #[.slice (some ⟨b0, o0, none⟩) 8 c, undef, .int .i64 0, .bool false, .pointer (some ⟨q4, 0, none⟩), undef, .int .u8 (y.2 % 256), .slice (some ⟨b0, o0, none⟩) 8 c, .bool true, .bool false, .bool false, .slice (some ⟨b0, o0, none⟩) 8 c, .int .i64 8, .bool false, .bool false, .bool false, .slice (some ⟨b0, o0, none⟩) 8 c, .int .i64 8, .bool true, .bool true, .slice (some ⟨b0, o0, none⟩) 8 c, .pointer (some ⟨b0, o0 + 7, none⟩), .int .u8 x, .bool false, .bool false, .bool false, .slice (some ⟨b0, o0, none⟩) 8 c, .func (.func 53) #[] #[.pointer (some ⟨Bs, 0, none⟩)], .int .i64 ((y.1 : Int) % (8 : Int)), .int .u8 (y.2 % 256), undef, undef, undef, undef, undef, undef], defers := [] }) ?assign2 ?body2 ?done2 ?stop2
        case assign2 =>
          intro l x W K hK
          gi_wp2
          exact hK
        case body2 =>
          rintro l2 pre y W ⟨R4', hBW⟩ hlt
          have HS5 := Lib.hid (foldI_snoc pre y)
          have hd0 : 0 ≤ y.2 % 256 := by omega
          have hd1 : y.2 % 256 ≤ 255 := by omega
          have hfi := foldI_in pre
          generalize foldI pre = r at *
          generalize y.2 % 256 = d at *
          have hor := i64_or8 r d hd0 (by omega)
          obtain ⟨T, hT⟩ : ∃ T, T = wrap64 (r * 256 + d) := ⟨_, rfl⟩
          rw [← hT] at hor HS5
          have c4 := R4'.cell (i := 0) rfl
          have f4 := R4'.free 0
          have HR4 := Lib.hid R4'
          clear hT R4' hlt R4 cB
          gi_wp2
          have hq := HQ.out
          refine ⟨(KeepsOthers.setCell _ _ _).from _, ⟨(Below.refl w.heap.size W).setCell (p := ⟨q4, 0, none⟩) (by show w.heap.size ≤ q4; omega) _, by simp [World.setCell], fun _ => Below.heap_setCell _ _ _ _ (by show Bs ≠ q4; omega)⟩, ?_, hBW.setCell (p := ⟨q4, 0, none⟩) (by show w.heap.size ≤ q4; omega) _⟩
          rw [HS5.out]
          exact HR4.out.set 0 _
        case done2 =>
          rintro D2 ys W hD2 rfl ⟨R4', hBW⟩ hK
          have hnl := HS.out.len
          have hfv := foldI_val HS.out.byt HV.out l.length (Nat.le_refl _)
          rw [Nat.sub_self, List.drop_zero, ← hnl] at hfv
          rw [hfv] at R4'
          obtain ⟨N, hN⟩ : ∃ N, N = valI l := ⟨_, rfl⟩
          rw [← hN] at R4'
          have HN := Lib.hid hN
          have c4 := R4'.cell (i := 0) rfl
          have HK := Lib.hid hK
          have HDD := Lib.hid (show w.heap.size ≤ D2 from by have := HQ.out; omega)
          have HBW := Lib.hid hBW
          clear R4 cB hnl hfv hN R4' hK hBW hD2
          go_wp2
          refine ⟨by simp, .inl ⟨_, _, rfl, run_takeDeferred HK.out, ?_⟩⟩
          refine ⟨.tuple #[.int .i64 (N : Int), .bool true], ?_, by (try rw [HN.out]) <;> (try first | rfl | simp), HBW.out.trans (belowK_b (w := w) (Nat.le_refl _) _ D2 _ _ HDD.out HK.out rfl rfl)⟩
          simp [results, Try.f22]
        case stop2 =>
          rintro D2 cc pre W hD2 _ h _
          exact h.elim
      · have hv : ¬ valI l < 9223372036854775808 := fun h => hx ((val8 hs.byt hs.len.symm).1 h)
        rw [hi, decide_eq_false hv]
        have q5 : ((127 : Int) < l.getD 7 0) = True := eq_true (by omega)
        have q6 : (l.getD 7 0 > 127) = True := eq_true (by omega)
        clear hr hi hs hv hc0
        generalize l.getD 7 0 = x at *
        go_enter Try.func22, Try.ntmps22
        go_wp2_with fail
        refine HR.out.mono ?_
        rintro e w' ⟨rfl, rfl⟩
        go_wp2
        go_ret2
        exact ⟨rfl, Below.refl _ _⟩
    · have hv := val_long hs.byt hr (by rw [← hs.len]; exact h8)
      have q3 : ((8 : Int) < n) = True := eq_true (by omega)
      have q4 : (8 < n) = True := eq_true (by omega)
      rw [hi, decide_eq_false hv]
      clear hr hi hs hv
      go_enter Try.func22, Try.ntmps22
      go_wp2_with fail
      refine HR.out.mono ?_
      rintro e w' ⟨rfl, rfl⟩
      go_wp2
      go_ret2
      exact ⟨rfl, Below.refl _ _⟩

end Go.Proofs.Ytdafncaehjipbaa
