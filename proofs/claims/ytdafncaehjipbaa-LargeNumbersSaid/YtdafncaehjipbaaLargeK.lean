/-
  Contracts of package large: Text. (Written by lkgen.py.)
-/
import Derived.Test.YtdafncaehjipbaaLargeH
import Derived.Test.YtdafncaehjipbaaSame
namespace Go.Proofs.Ytdafncaehjipbaa
open Go.RowKit
set_option linter.unusedVariables false
set_option maxHeartbeats 2000000
set_option maxRecDepth 20000

theorem own_below {w w' : World} {base : Nat} {e : TypeId} {size : Nat} {v : Value} {n : Nat} {xs : List Value} (h : w.ownsRow base e size v n xs) (b : Below w.heap.size w w') : w'.ownsRow base e size v n xs :=
  ownsSame h (fun k hk => b.block k (h.lt k hk).2)
theorem dec_small {N : Nat} (h : N < 10) : dec N = [((48 + N : Nat) : Int)] := by rw [dec, dif_pos h]
theorem dec_big {N : Nat} (h : ¬ N < 10) : dec N = ((48 + N % 10 : Nat) : Int) :: dec (N / 10) := by rw [dec, dif_neg h]
theorem dec_len : ∀ (j : Nat) {N : Nat}, N < 10 ^ (j + 1) → (dec N).length ≤ j + 1
  | 0, N, h => by rw [dec_small (by omega)]; simp
  | j + 1, N, h => by
    by_cases h1 : N < 10
    · rw [dec_small h1]; simp
    · rw [dec_big h1, List.length_cons]
      have := dec_len j (N := N / 10) (by rw [Nat.pow_succ] at h; omega)
      omega
theorem dec_len256 {N k : Nat} (h : N < 256 ^ k) : (dec N).length ≤ 3 * k + 1 := by
  refine dec_len (3 * k) ?_
  have h1 : 256 ^ k ≤ 1000 ^ k := Nat.pow_le_pow_left (by omega) k
  have h2 : 10 ^ (3 * k) = 1000 ^ k := by rw [Nat.pow_mul]
  rw [Nat.pow_succ, h2]
  omega
/-- Some of the letters are out. -/
def DecAt (N q : Nat) (o : List Int) : Prop := dec N = o ++ (if o = [] ∨ q ≠ 0 then dec q else [])
theorem DecAt.next {N q : Nat} {o : List Int} (h : DecAt N q o) (hc : o = [] ∨ q ≠ 0) : DecAt N (q / 10) (o ++ [((48 + q % 10 : Nat) : Int)]) := by
  unfold DecAt at *
  rw [if_pos hc] at h
  rw [h]
  by_cases hq : q < 10
  · rw [dec_small hq, if_neg (by simp; omega), Nat.mod_eq_of_lt hq, List.append_nil]
  · rw [dec_big hq, if_pos (.inr (by omega)), List.append_assoc]; rfl
theorem DecAt.len {N q : Nat} {o : List Int} (h : DecAt N q o) : o.length ≤ (dec N).length := by rw [h, List.length_append]; omega
theorem DecAt.room {N q : Nat} {o : List Int} (h : DecAt N q o) (hc : o = [] ∨ q ≠ 0) : o.length + 1 ≤ (dec N).length := by
  have := (h.next hc).len
  simpa using this
theorem DecAt.end_ {N q : Nat} {o : List Int} (h : DecAt N q o) (hc : ¬ (o = [] ∨ q ≠ 0)) : dec N = o := by
  unfold DecAt at h
  rw [if_neg hc, List.append_nil] at h
  exact h
theorem reads_grown {A B : World} {a : Option Addr} {c : Nat} {xs : List Value} {row : Option Nat} (h : Reads A a c xs) (hg : A.grownBy B row) (hr : ∀ x, a = some x → ∀ k, row = some k → x.block ≠ k) : Reads B a c xs := by
  by_cases hl : 0 < xs.length
  · obtain ⟨b, off, rfl, hlt, hc⟩ := h.at hl
    refine .inr ⟨_, rfl, fun i u hu => ?_⟩
    rw [add_flat]
    refine (World.cell?_of_block ?_).trans (hc i u hu)
    refine hg.block b hlt ?_
    intro e
    exact hr _ rfl b e.symm rfl
  · have : xs = [] := List.eq_nil_of_length_eq_zero (by omega)
    subst this
    rcases h with h | ⟨x, rfl, _⟩
    · exact .inl h
    · exact .inr ⟨x, rfl, fun i u hu => by simp at hu⟩
def lenV : Value → Nat
  | .slice _ n _ => n
  | _ => 0

theorem c_Text (a : Option Addr) (n c : Nat) (l : List Int) (w : World) (e0 : n = l.length) (h0 : Reads w a c (l.map (Value.int .u8))) (b0 : Byt l) (hc0 : n ≤ c) (hcm : c ≤ 9223372036854775807) (hm0 : n ≤ 1000000000000) :
    Calls Try.prog 32 #[.slice a n c] w fun e w' => e = .returned (.string (str (textL l))) ∧ Below w.heap.size w w' := by
  have HR := Lib.hid (c_Right a n c l w e0 h0 hm0)
  unfold textL
  cases hr : rightB l with
  | false =>
    rw [hr] at HR
    rw [if_neg (by simp)]
    clear hr h0 b0 e0
    go_enter Try.func32, Try.ntmps32
    go_wp2_with fail
    refine HR.out.mono ?_
    rintro e w' ⟨rfl, rfl⟩
    go_wp2
    go_ret
    exact ⟨rfl, Below.refl _ _⟩
  | true =>
    rw [hr] at HR
    rw [if_pos rfl]
    obtain ⟨hdg, hl4⟩ := right_digs b0 hr
    have HN0 := Lib.hid (show NumAt w a n c (valI l) from ⟨by rw [hdg]; exact e0, hc0, hcm, by rw [hdg]; exact h0⟩)
    have hvl : valI l < 256 ^ n := by rw [e0]; exact valI_lt b0
    obtain ⟨N, hN⟩ : ∃ N, N = valI l := ⟨_, rfl⟩
    rw [← hN] at HN0 hvl
    rw [← hN]
    have HV := Lib.hid hvl
    have HDL := Lib.hid (dec_len256 hvl)
    obtain ⟨L, hL⟩ : ∃ L, L = (dec N).length := ⟨_, rfl⟩
    rw [← hL] at HDL
    have HL := Lib.hid hL
    have hn4 : n ≤ 400 := by omega
    clear hr h0 b0 e0 hdg hl4 hvl hN hL hm0
    go_enter Try.func32, Try.ntmps32
    go_wp2_with fail
    refine HR.out.mono ?_
    rintro e w' ⟨rfl, rfl⟩
    clear HR
    go_wp2
    go_loopw [3, 4] (fun v r wr => ∃ (q no : Nat) (o : List Int) (ar : Option Addr) (kr cr : Nat), r = .slice ar kr cr ∧ kr ≤ 400 ∧ no ≤ 1201 ∧ lenV v = no ∧ Hid (q ≤ N ∧ no = o.length) ∧ Hid (NumAt wr ar kr cr q) ∧ Hid (wr.ownsRow w.heap.size 5 1 v no (o.map (Value.int .u8))) ∧ Hid (DecAt N q o) ∧ Hid (Below w.heap.size w wr)) (fun v _ _ => L - lenV v)
    case atStart => exact ⟨N, 0, [], a, n, c, rfl, hn4, by omega, rfl, ⟨Nat.le_refl _, rfl⟩, HN0.out, World.ownsRow_nil _ _ _ _, by show DecAt _ _ _; unfold DecAt; rw [if_pos (.inl rfl)]; rfl, Below.refl _ _⟩
    case round =>
      obtain ⟨q, no, o, ar, kr, cr, rfl, hk4, hno, hlv, hqn, hnum, hown, hdec, hbel⟩ := hrel
      obtain ⟨ao, co, rfl, hro⟩ := owns_reads hown.out
      have hq0 : kr = 0 ↔ q = 0 := by
        rw [hnum.out.1, ← digs_nil (n := q)]
        exact List.length_eq_zero_iff
      by_cases hgo : kr = 0 ∧ no ≠ 0
      · have ho : ¬ (o = [] ∨ q ≠ 0) := by
          rintro (h | h)
          · exact hgo.2 (by rw [hqn.out.2, h]; rfl)
          · exact h (hq0.1 hgo.1)
        have HEQ := Lib.hid (hdec.out.end_ ho)
        obtain ⟨kr0, hno0⟩ := hgo
        subst kr0
        have g1 : (no == 0) = false := by simpa using hno0
        have g2 : ((no : Int) == 0) = false := by simp; omega
        obtain ⟨g, rfl, hlt⟩ : ∃ g, ao = some ⟨g, 0, none⟩ ∧ w.heap.size ≤ g := by
          rcases hown.out.2 with ⟨h, h2⟩ | ⟨g, cap, cur, hv, hb, _⟩
          · exact absurd h2 hno0
          · simp only [Value.slice.injEq] at hv; exact ⟨g, hv.1, hb⟩
        have HCR := Lib.hid (c_Rev g no co o _ w.heap.size hown.out (by omega))
        have HG := Lib.hid hlt
        clear hno0 ho hown hro hq0 hlt hdec
        go_wp2_with fail
        refine HCR.out.mono ?_
        rintro e w5 ⟨rfl, own5, upd5⟩
        obtain ⟨a6, c6, hae, hr6, -⟩ := owns_reads own5
        simp only [Value.slice.injEq] at hae
        obtain ⟨rfl, -, rfl⟩ := hae
        have HC6 := Lib.hid hr6
        have HB5 := Lib.hid (hbel.out.trans (upd5.below hbel.out.size (by simpa using HG.out)))
        have hcv := run_str (P := Try.prog) w5 22 9 5 (some ⟨g, 0, none⟩) no co o.reverse Try.underlying22 Try.underlying5 Try.underlying9 (by rw [List.length_reverse]; exact hqn.out.2) hr6
        clear own5 upd5 hr6
        go_wp2
        go_ret
        exact ⟨by rw [HEQ.out]; rfl, HB5.out⟩
      · have hcc : o = [] ∨ q ≠ 0 := by
          by_cases h : q = 0
          · left
            have : no = 0 := by
              by_cases h2 : no = 0
              · exact h2
              · exact absurd ⟨hq0.2 h, h2⟩ hgo
            exact List.eq_nil_of_length_eq_zero (by rw [← hqn.out.2]; exact this)
          · exact .inr h
        have HNX := Lib.hid (hdec.out.next hcc)
        have HRM := Lib.hid (show no + 1 ≤ L from by rw [HL.out, hqn.out.2]; exact hdec.out.room hcc)
        have hrm : no + 1 ≤ 1201 := by have := HRM.out; have := HDL.out; omega
        have HCS := Lib.hid (fun wq (bq : Below wr.heap.size wr wq) (hnq : NumAt wr ar kr cr q) => c_small ar kr cr (digs q) wq hnq.1 (hnq.2.2.2.below bq) (byt_digs q) hnq.2.1 (by omega))
        have hgo2 : (kr = 0 ∧ no = 0) ∨ 0 < kr := by omega
        clear hro hq0 hgo hcc hdec
        rcases hgo2 with ⟨rfl, rfl⟩ | hkp
        · go_wp2_with fail
          refine (HCS.out _ (Below.refl _ _) hnum.out).mono ?_
          rw [valI_digs]
          rintro e w5 ⟨b, k, d, rfl, hn5, hfr, bel5⟩
          have hfresh : ∀ x, b = some x → ∀ k, Value.ownBlock (.slice ao 0 co) = some k → x.block ≠ k := fun x hx k hk => by
            have h1 := hfr x hx
            have h2 := (hown.out.lt k hk).2
            omega
          have HFR := Lib.hid hfresh
          have HN5 := Lib.hid hn5
          have HB5 := Lib.hid bel5
          have HO5 := Lib.hid (own_below hown.out bel5)
          obtain ⟨dd, hdd⟩ : ∃ dd, dd = q % 10 := ⟨_, rfl⟩
          rw [← hdd] at HNX
          rw [← hdd]
          have hd9 : dd ≤ 9 := by omega
          have hs5 : w.heap.size ≤ w5.heap.size := Nat.le_trans hbel.out.size bel5.size
          have k4 : k ≤ 400 := by
            rw [hn5.1]
            exact Nat.le_trans (digs_len (Nat.lt_of_le_of_lt (Nat.le_trans (Nat.div_le_self q 10) hqn.out.1) HV.out)) hn4
          clear hn5 bel5 hdd HCS hnum hown hfr hfresh
          go_wp2_with (at_builtin; refine wpList_app rfl _ _ 22 rfl w.heap.size 5 (.int .u8 0) 1 1 Try.underlying22 inf_u8L rfl (by decide) _ _ _ rfl (HO5.out.alloc _) _ 1 1 [.int .u8 (48 + (dd : Int))] rfl rfl (Reads.madeAt rfl) (by simp [Value.oneCell']) (by unfold maxLen; omega) (by omega) (by simp; omega) ?_)
          intro v' w6 own6 gr6
          have hlo := HO5.out.lt
          have hsb : Below w.heap.size w w5 := bNext hbel.out HB5.out
          have HB6 := Lib.hid ((hsb.alloc hs5 (.cells [.int .u8 (48 + (dd : Int))].toArray 5)).grown gr6 (by simp; omega) (fun k hk => (hlo k hk).1))
          have HN6 := Lib.hid (show NumAt w6 b k d (q / 10) from by
            refine ⟨HN5.out.1, HN5.out.2.1, HN5.out.2.2.1, ?_⟩
            exact reads_grown (HN5.out.2.2.2.alloc _) gr6 (fun x hx k hk => HFR.out x hx k hk))
          have HO6 : Hid (w6.ownsRow w.heap.size 5 1 v' (0 + 1) ((o ++ [((48 + dd : Nat) : Int)]).map (Value.int .u8))) := by
            rw [List.map_append]
            exact own6
          obtain ⟨a7, c7, rfl, -⟩ := owns_reads own6
          clear own6 gr6 hlo hsb HO5
          go_wp2
          go_roundw
          case rel => exact ⟨q / 10, 0 + 1, o ++ [((48 + dd : Nat) : Int)], b, k, d, rfl, k4, by omega, rfl, ⟨Nat.le_trans (Nat.div_le_self q 10) hqn.out.1, by rw [List.length_append, hqn.out.2]; rfl⟩, HN6.out, HO6.out, HNX.out, HB6.out⟩
          case measure => have := HRM.out; simp [lenV]; omega
        · go_wp2_with fail
          refine (HCS.out _ (Below.refl _ _) hnum.out).mono ?_
          rw [valI_digs]
          rintro e w5 ⟨b, k, d, rfl, hn5, hfr, bel5⟩
          have hfresh : ∀ x, b = some x → ∀ k, Value.ownBlock (.slice ao no co) = some k → x.block ≠ k := fun x hx k hk => by
            have h1 := hfr x hx
            have h2 := (hown.out.lt k hk).2
            omega
          have HFR := Lib.hid hfresh
          have HN5 := Lib.hid hn5
          have HB5 := Lib.hid bel5
          have HO5 := Lib.hid (own_below hown.out bel5)
          obtain ⟨dd, hdd⟩ : ∃ dd, dd = q % 10 := ⟨_, rfl⟩
          rw [← hdd] at HNX
          rw [← hdd]
          have hd9 : dd ≤ 9 := by omega
          have hs5 : w.heap.size ≤ w5.heap.size := Nat.le_trans hbel.out.size bel5.size
          have k4 : k ≤ 400 := by
            rw [hn5.1]
            exact Nat.le_trans (digs_len (Nat.lt_of_le_of_lt (Nat.le_trans (Nat.div_le_self q 10) hqn.out.1) HV.out)) hn4
          clear hn5 bel5 hdd HCS hnum hown hfr hfresh
          go_wp2_with (at_builtin; refine wpList_app rfl _ _ 22 rfl w.heap.size 5 (.int .u8 0) 1 1 Try.underlying22 inf_u8L rfl (by decide) _ _ _ rfl (HO5.out.alloc _) _ 1 1 [.int .u8 (48 + (dd : Int))] rfl rfl (Reads.madeAt rfl) (by simp [Value.oneCell']) (by unfold maxLen; omega) (by omega) (by simp; omega) ?_)
          intro v' w6 own6 gr6
          have hlo := HO5.out.lt
          have hsb : Below w.heap.size w w5 := bNext hbel.out HB5.out
          have HB6 := Lib.hid ((hsb.alloc hs5 (.cells [.int .u8 (48 + (dd : Int))].toArray 5)).grown gr6 (by simp; omega) (fun k hk => (hlo k hk).1))
          have HN6 := Lib.hid (show NumAt w6 b k d (q / 10) from by
            refine ⟨HN5.out.1, HN5.out.2.1, HN5.out.2.2.1, ?_⟩
            exact reads_grown (HN5.out.2.2.2.alloc _) gr6 (fun x hx k hk => HFR.out x hx k hk))
          have HO6 : Hid (w6.ownsRow w.heap.size 5 1 v' (no + 1) ((o ++ [((48 + dd : Nat) : Int)]).map (Value.int .u8))) := by
            rw [List.map_append]
            exact own6
          obtain ⟨a7, c7, rfl, -⟩ := owns_reads own6
          clear own6 gr6 hlo hsb HO5
          go_wp2
          go_roundw
          case rel => exact ⟨q / 10, no + 1, o ++ [((48 + dd : Nat) : Int)], b, k, d, rfl, k4, by omega, rfl, ⟨Nat.le_trans (Nat.div_le_self q 10) hqn.out.1, by rw [List.length_append, hqn.out.2]; rfl⟩, HN6.out, HO6.out, HNX.out, HB6.out⟩
          case measure => have := HRM.out; simp [lenV]; omega

end Go.Proofs.Ytdafncaehjipbaa
