/-
  Contracts of package bits: Runs.
-/
import Derived.Test.YtcecegcbkcdpjaaBits3
namespace Go.Proofs.Ytcecegcbkcdpjaa
open Go.RowKit
set_option linter.unusedVariables false
set_option maxHeartbeats 1000000

/-- The runs among the first i, the last one first. -/
def runsR (b : Nat → Bool) : Nat → List (Nat × Nat)
  | 0 => []
  | i + 1 => if b i then (match runsR b i with | (s, c) :: r => if s + c = i then (s, c + 1) :: r else (i, 1) :: (s, c) :: r | [] => [(i, 1)]) else runsR b i

def flatR : List (Nat × Nat) → List Int
  | [] => []
  | (s, c) :: r => flatR r ++ [(s : Int), (c : Int)]
theorem flatR_len : ∀ r, (flatR r).length = 2 * r.length
  | [] => rfl
  | (s, c) :: r => by rw [flatR, List.length_append, flatR_len r]; simp; omega
theorem flatR_s (s c : Nat) (r : List (Nat × Nat)) : (flatR ((s, c) :: r)).getD (2 * r.length) 0 = (s : Int) := by
  rw [flatR, List.getD_eq_getElem?_getD, List.getElem?_append_right (by rw [flatR_len]; omega), flatR_len, Nat.sub_self]; rfl
theorem flatR_c (s c : Nat) (r : List (Nat × Nat)) : (flatR ((s, c) :: r)).getD (2 * r.length + 1) 0 = (c : Int) := by
  rw [flatR, List.getD_eq_getElem?_getD, List.getElem?_append_right (by rw [flatR_len]; omega), flatR_len, show 2 * r.length + 1 - 2 * r.length = 1 from by omega]; rfl
theorem flatR_next (s c : Nat) (r : List (Nat × Nat)) : flatR ((s, c + 1) :: r) = (flatR ((s, c) :: r)).set (2 * r.length + 1) ((c : Int) + 1) := by
  rw [flatR, flatR, List.set_append, if_neg (by rw [flatR_len]; omega), flatR_len, show 2 * r.length + 1 - 2 * r.length = 1 from by omega]; simp

theorem runsR_len (b : Nat → Bool) : ∀ i, (runsR b i).length ≤ i
  | 0 => Nat.le_refl _
  | i + 1 => by
    have ih := runsR_len b i
    rw [runsR]
    split
    · split
      · rename_i s c r he
        rw [he] at ih
        split <;> simp at ih ⊢ <;> omega
      · simp
    · omega
theorem runsR_in (b : Nat → Bool) : ∀ i s c, (s, c) ∈ runsR b i → s + c ≤ i ∧ 1 ≤ c
  | 0, s, c, h => by simp [runsR] at h
  | i + 1, s, c, h => by
    have ih := runsR_in b i
    rw [runsR] at h
    split at h
    · split at h
      · rename_i s' c' r he
        rw [he] at ih
        have h0 := ih s' c' (by simp)
        split at h
        · rcases List.mem_cons.1 h with h | h
          · cases h; omega
          · have := ih s c (by simp [h]); omega
        · rcases List.mem_cons.1 h with h | h
          · cases h; omega
          · have := ih s c h; omega
      · simp at h; omega
    · have := ih s c h; omega

/-- A row that the call owns, whole; of elements of whatever size. -/
theorem owns_block {w : World} {base : Nat} {e : TypeId} {size : Nat} {v : Value} {n : Nat} {xs : List Value} (h : w.ownsRow base e size v n xs) (hn : 0 < n) :
    ∃ g c cur, v = .slice (some ⟨g, 0, none⟩) n c ∧ base ≤ g ∧ Row w g e cur ∧ cur.take (n * size) = xs ∧ n ≤ c ∧ c ≤ maxLen ∧ cur.length = c * size := by
  rcases h.2 with ⟨_, rfl⟩ | ⟨g, cap, cur, rfl, hb, hg, hnc, hm, hs, ht⟩
  · omega
  · exact ⟨g, cap, cur.toList, rfl, hb, by unfold Row; simpa using hg, by simpa using ht, hnc, hm, by simpa using hs⟩
theorem block_owns {w : World} {base : Nat} {e : TypeId} {size : Nat} {n g c : Nat} {cur xs : List Value} (hb : base ≤ g) (hr : Row w g e cur) (ht : cur.take (n * size) = xs) (hn : n ≤ c) (hm : c ≤ maxLen) (hl : cur.length = c * size) :
    w.ownsRow base e size (.slice (some ⟨g, 0, none⟩) n c) n xs := by
  refine ⟨?_, .inr ⟨g, c, cur.toArray, rfl, hb, hr, hn, hm, by simpa using hl, by simpa using ht⟩⟩
  rw [← ht, List.length_take, hl]
  exact Nat.min_eq_left (Nat.mul_le_mul_right _ hn)

theorem inf_pair : (Try.prog.info? 43).map (fun i => (i.zero, i.size, i.bytes)) = some (some (.agg #[.int .i64 0, .int .i64 0]), 2, 16) := by kernel_rfl

def RunsPost (w : World) (b : Nat → Bool) (n : Nat) (e : Ending) (w' : World) : Prop :=
  ∃ v, e = .returned v ∧ w'.ownsRow w.heap.size 43 2 v (runsR b n).length ((flatR (runsR b n)).map (Value.int .i64)) ∧ Below w.heap.size w w'

theorem c_Runs (m g n : Nat) (b : Nat → Bool) (w : World) (h : MapAt w m g n b) : Calls Try.prog 18 #[.pointer (some ⟨m, 0, none⟩)] w (RunsPost w b n) := by
  have hsm := h.small
  have HH := Lib.hid h
  have HL := Lib.hid (c_BLen m g n b w h)
  clear h
  go_enter Try.func18, Try.ntmps18
  go_wp2_with fail
  refine HL.out.mono ?_
  rintro e w' ⟨rfl, rfl⟩
  go_wp2
  go_loopw [3, 8] (fun v i wr => ∃ k : Nat, k ≤ n ∧ i = .int .i64 k ∧ Hid (wr.ownsRow w.heap.size 43 2 v (runsR b k).length ((flatR (runsR b k)).map (Value.int .i64))) ∧ Hid (Below w.heap.size w wr)) (fun _ i _ => n - (intOf i).toNat)
  case atStart => exact ⟨0, Nat.zero_le _, rfl, World.ownsRow_nil _ _ _ _, Below.refl _ _⟩
  case round =>
    obtain ⟨k, hk, rfl, HO, HB⟩ := hrel
    by_cases hlt : k < n
    · have h1c : ∀ u ∈ [(.int .i64 (k : Int) : Value), .int .i64 1], u.oneCell' = true := by intro u hu; simp at hu; rcases hu with rfl | rfl <;> rfl
      have HM := Lib.hid (show MapAt wr m g n b from HH.out.keep (l := []) (.of_below (show Below w.heap.size w wr from HB.out)) (by simp) (by simp))
      have HC := Lib.hid (c_HasN m g n b wr HM.out k hlt)
      have hrl := runsR_len b k
      have hsz := HB.out.size
      have HRI := Lib.hid (runsR_in b k)
      have HNX := Lib.hid (show runsR b (k + 1) = if b k then (match runsR b k with | (s, c) :: r => if s + c = k then (s, c + 1) :: r else (k, 1) :: (s, c) :: r | [] => [(k, 1)]) else runsR b k from rfl)
      cases hb : b k with
      | false =>
        rw [hb] at HC HNX
        simp only [Bool.false_eq_true, if_false] at HNX
        clear hb
        have HO2 : Hid (wr.ownsRow w.heap.size 43 2 u3 (runsR b (k + 1)).length ((flatR (runsR b (k + 1))).map (Value.int .i64))) := by rw [HNX.out]; exact HO.out
        obtain ⟨a, c, rfl, -, -, -⟩ := owns_reads HO.out
        clear HO HNX HRI
        generalize (runsR b k).length = L at *
        go_wp2_with (go_at_call 19; refine HC.out.mono ?_; rintro e w' ⟨rfl, rfl⟩)
        go_roundw
        case rel => exact ⟨k + 1, by omega, by go_num, HO2.out, HB.out⟩
        case measure => simp [intOf]; omega
      | true =>
        rw [hb] at HC HNX
        simp only [if_true] at HNX
        clear hb
        generalize runsR b k = rs at *
        cases rs with
        | nil =>
          simp only at HNX
          obtain ⟨a, c, rfl, -, -, -⟩ := owns_reads HO.out
          clear HRI
          go_wp2_with (go_at_call 19; refine HC.out.mono ?_; rintro e w' ⟨rfl, rfl⟩)
          go_quiet (fail)
          have HQ := Lib.hid (show (wr.drewN nq).ownsRow w.heap.size 43 2 (.slice a 0 c) 0 [] from HO.out)
          have HBQ := Lib.hid (below_drewN HB.out nq)
          go_wp2_with (at_builtin; refine wpList_app rfl _ _ 30 rfl w.heap.size 43 (.agg #[.int .i64 0, .int .i64 0]) 2 16 Try.underlying30 inf_pair rfl (by decide) _ 0 [] rfl (HQ.out.alloc _) _ 1 1 [.int .i64 (k : Int), .int .i64 1] rfl rfl (Reads.madeAt rfl) h1c (by unfold maxLen; omega) (by omega) (by simp; omega) ?_)
          intro v' w2 own2 gr2
          have hlt' := HQ.out.lt
          have HB2 := Lib.hid ((HBQ.out.alloc (by simpa using hsz) _).grown gr2 (by simp; omega) (fun k hk => (hlt' k hk).1))
          have HO2 : Hid (w2.ownsRow w.heap.size 43 2 v' (runsR b (k + 1)).length ((flatR (runsR b (k + 1))).map (Value.int .i64))) := by
            rw [HNX.out]; exact own2
          clear own2 gr2 hlt'
          go_wp2
          go_roundw
          case rel => exact ⟨k + 1, by omega, by go_num, HO2.out, HB2.out⟩
          case measure => simp [intOf]; omega
        | cons hd r =>
          obtain ⟨s, c⟩ := hd
          simp only at HNX
          obtain ⟨hsc, hc1⟩ := HRI.out s c (by simp)
          obtain ⟨g2, cap, cur, rfl, hg2, row, htk, hnc, hcm, hcl⟩ := owns_block HO.out (by simp)
          have hfl := flatR_len ((s, c) :: r)
          rw [List.length_cons] at hfl hnc htk
          obtain ⟨L, hL⟩ : ∃ L, L = r.length := ⟨_, rfl⟩
          rw [← hL] at hfl hnc htk
          have hcur : ∀ i x, (flatR ((s, c) :: r)).getD i 0 = x → i < 2 * (L + 1) → wr.cell? ⟨g2, i, none⟩ = some (.int .i64 x) := fun i x hx hi => by
            refine row.cell ?_
            have h1 : (cur.take ((L + 1) * 2))[i]? = some (.int .i64 x) := by
              rw [htk, getD_map8 (by rw [hfl]; exact hi), hx]
            rw [List.getElem?_take, if_pos (by omega)] at h1
            exact h1
          have kc0 := hcur (2 * L) (s : Int) (by rw [hL]; exact flatR_s s c r) (by omega)
          have kc1 := hcur (2 * L + 1) (c : Int) (by rw [hL]; exact flatR_c s c r) (by omega)
          have kf1 := row.free (2 * L + 1)
          rw [show 2 * L = L * 2 from by omega] at kc0 kc1 kf1
          have hlen : ((s, c) :: r).length = L + 1 := by rw [List.length_cons, hL]
          rw [hlen] at hrl ⊢
          clear HRI hcur
          have hk63 : k ≤ 65536 := by omega
          have HROW := Lib.hid row
          have HTK := Lib.hid htk
          have HCL := Lib.hid hcl
          have HHL := Lib.hid hL
          have HCM := Lib.hid hcm
          clear row htk hcl hL hlen hfl hcm
          by_cases hadj : s + c = k
          · have hadj2 : (s : Int) + (c : Int) = (k : Int) := by omega
            rw [if_pos hadj] at HNX
            go_wp2_with (go_at_call 19; refine HC.out.mono ?_; rintro e w' ⟨rfl, rfl⟩)
            go_quiet (fail)
            have hk3 : (L : Int) < (L : Int) + 1 := by omega
            go_wp2
            go_region
            go_wp2
            refine ⟨⟨k + 1, by omega, by go_num, ?_, below_drewN HB.out _ |>.setCell hg2 _⟩, by simp [intOf]; omega⟩
            show World.ownsRow _ _ _ _ _ _ _
            rw [HNX.out, List.length_cons, ← HHL.out, flatR_next, List.map_set, ← HHL.out]
            have hr : Row (wr.drewN (nq + 1)) g2 43 cur := HROW.out
            exact block_owns hg2 (hr.set _ _) (by rw [List.take_set, HTK.out, show L * 2 + 1 = 2 * L + 1 from by omega]) hnc HCM.out (by rw [List.length_set]; exact HCL.out)
          · have hadj2 : ¬ (s : Int) + (c : Int) = (k : Int) := by omega
            rw [if_neg hadj] at HNX
            have hL0 : L ≤ 65536 := by omega
            have HO1 : Hid (wr.ownsRow w.heap.size 43 2 (.slice (some ⟨g2, 0, none⟩) (L + 1) cap) (L + 1) ((flatR ((s, c) :: r)).map (Value.int .i64))) := by
              have := HO.out
              rwa [List.length_cons, ← HHL.out] at this
            clear HO
            go_wp2_with (go_at_call 19; refine HC.out.mono ?_; rintro e w' ⟨rfl, rfl⟩)
            go_quiet (fail)
            have HQ := Lib.hid (show (wr.drewN nq).ownsRow w.heap.size 43 2 (.slice (some ⟨g2, 0, none⟩) (L + 1) cap) (L + 1) _ from HO1.out)
            have HBQ := Lib.hid (below_drewN HB.out nq)
            go_wp2_with (at_builtin; refine wpList_app rfl _ _ 30 rfl w.heap.size 43 (.agg #[.int .i64 0, .int .i64 0]) 2 16 Try.underlying30 inf_pair rfl (by decide) _ (L + 1) _ rfl (HQ.out.alloc _) _ 1 1 [.int .i64 (k : Int), .int .i64 1] rfl rfl (Reads.madeAt rfl) h1c (by unfold maxLen; omega) (by omega) (by simp; omega) ?_)
            intro v' w2 own2 gr2
            have hlt' := HQ.out.lt
            have HB2 := Lib.hid ((HBQ.out.alloc (by simpa using hsz) _).grown gr2 (by simp; omega) (fun k hk => (hlt' k hk).1))
            have HO2 : Hid (w2.ownsRow w.heap.size 43 2 v' (runsR b (k + 1)).length ((flatR (runsR b (k + 1))).map (Value.int .i64))) := by
              rw [HNX.out, List.length_cons, List.length_cons, ← HHL.out, flatR, List.map_append]; exact own2
            clear own2 gr2 hlt'
            go_wp2
            go_roundw
            case rel => exact ⟨k + 1, by omega, by go_num, HO2.out, HB2.out⟩
            case measure => simp [intOf]; omega
    · obtain rfl : n = k := by omega
      go_wp2
      go_ret
      exact ⟨_, rfl, HO.out, HB.out⟩

end Go.Proofs.Ytcecegcbkcdpjaa
