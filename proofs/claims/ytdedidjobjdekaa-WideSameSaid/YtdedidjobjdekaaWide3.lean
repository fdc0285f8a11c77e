/-
  Contracts of slices.Grow, slices.Concat, slices.Equal, slices.Clone at bytes and integers.
-/
import Derived.Test.YtdedidjobjdekaaWide2
import Derived.Lib.AppendZeros
namespace Go.Proofs.Ytdedidjobjdekaa
open Go.RowKit
set_option linter.unusedVariables false
set_option maxHeartbeats 1000000

theorem zeroCells_size (z : Value) (n : Nat) : (Builtin.zeroCells #[z] n).size = n := by simp [Builtin.zeroCells]

theorem c_Grow (n : Nat) (w : World) (hn : n ≤ 100000) : Calls Try.prog 46 #[.slice none 0 0, .int .i64 n] w fun e w' => ∃ v, e = .returned v ∧ w'.ownsRow w.heap.size 5 1 v 0 [] ∧ Below w.heap.size w w' := by
  by_cases h0 : n = 0
  · subst h0
    go_enter Try.func46, Try.ntmps46
    go_wp2
    go_ret
    exact ⟨_, rfl, World.ownsRow_nil _ _ _ _, Below.refl _ _⟩
  · have hn0 : 0 < n := by omega
    obtain ⟨i, hi, hz, hs, hb⟩ := info_parts inf_u8
    have hr := Lib.run_append_nil_zeros (P := Try.prog) w 23 3 23 5 i (.int .u8 0) .i64 .i64 Try.underlying23 Try.underlying3 hi hz n hn0 (by omega) (by omega) (by rw [hb]; omega)
    have hge := grownCap_ge w n 0 5
    have hle := grownCap_le_maxLen w n 0 5 (by unfold maxLen; omega)
    obtain ⟨C, hC⟩ : ∃ C, C = grownCap w n 0 5 := ⟨_, rfl⟩
    rw [← hC] at hr hge hle
    have HR := Lib.hid hr
    have HO := Lib.hid (show (w.drew.alloc (.cells (Builtin.zeroCells (Value.int .u8 0).cells n ++ Builtin.zeroCells (Value.int .u8 0).cells (C - n)) 5)).ownsRow w.heap.size 5 1 (.slice (some ⟨w.heap.size, 0, none⟩) 0 C) 0 [] from by
      refine ⟨rfl, .inr ⟨w.heap.size, C, _, rfl, Nat.le_refl _, heap_alloc_new w.drew _, Nat.zero_le _, hle, ?_, by simp⟩⟩
      show (Builtin.zeroCells #[Value.int .u8 0] n ++ Builtin.zeroCells #[Value.int .u8 0] (C - n)).size = C * 1
      rw [Array.size_append, zeroCells_size, zeroCells_size]; omega)
    have HB := Lib.hid (show Below w.heap.size w (w.drew.alloc (.cells (Builtin.zeroCells (Value.int .u8 0).cells n ++ Builtin.zeroCells (Value.int .u8 0).cells (C - n)) 5)) from ((Below.refl _ w).drew).alloc (Nat.le_refl _) _)
    obtain ⟨w1, hw1⟩ : ∃ w1, w1 = w.drew.alloc (.cells (Builtin.zeroCells (Value.int .u8 0).cells n ++ Builtin.zeroCells (Value.int .u8 0).cells (C - n)) 5) := ⟨_, rfl⟩
    rw [← hw1] at HR HO HB
    clear hr hC hw1 hi hz hs hb
    go_enter Try.func46, Try.ntmps46
    go_wp2_with (at_builtin; refine Lib.wpList_append_run _ rfl _ _ _ _ rfl _ _ rfl rfl _ _ HR.out ?_)
    go_ret
    exact ⟨_, rfl, HO.out, HB.out⟩

/-- A row of bytes among others. -/
structure Part where
  a : Option Addr
  n : Nat
  c : Nat
  l : List Int

def Part.val (p : Part) : Value := .slice p.a p.n p.c
def Part.ok (w : World) (p : Part) : Prop := p.n = p.l.length ∧ Reads w p.a p.c (p.l.map (Value.int .u8))
def partsB (ps : List Part) : List Int := ps.flatMap Part.l
theorem partsB_snoc {ps : List Part} {k : Nat} {p : Part} (h : ps[k]? = some p) : partsB (ps.take (k + 1)) = partsB (ps.take k) ++ p.l := by
  rw [List.take_add_one, h]
  simp [partsB]
theorem partsB_le {ps : List Part} (k : Nat) : (partsB (ps.take k)).length ≤ (partsB ps).length := by
  have : partsB ps = partsB (ps.take k) ++ partsB (ps.drop k) := by
    unfold partsB
    rw [← List.flatMap_append, List.take_append_drop]
  rw [this, List.length_append]
  omega

theorem c_Concat (a : Option Addr) (n c : Nat) (ps : List Part) (w : World) (e0 : n = ps.length) (h : Reads w a c (ps.map Part.val)) (hp : ∀ p ∈ ps, p.ok w) (hm : (partsB ps).length ≤ 100000) (hpn : ps.length ≤ 1000) :
    Calls Try.prog 30 #[.slice a n c] w (MadeBytes w (partsB ps)) := by
  subst e0
  have HR := Lib.hid h
  have HP := Lib.hid hp
  clear h hp
  go_enter Try.func30, Try.ntmps30
  go_wp2
  go_loop [3, 11] (fun v i => ∃ k : Nat, k ≤ ps.length ∧ v = .int .i64 ((partsB (ps.take k)).length : Nat) ∧ i = .int .i64 k) (fun _ i => ps.length - (intOf i).toNat)
  case atStart => exact ⟨0, Nat.zero_le _, rfl, rfl⟩
  case round =>
    obtain ⟨k, hk, rfl, rfl⟩ := hrel
    by_cases hlt : k < ps.length
    · obtain ⟨b, off, rfl, hblt, hc⟩ := HR.out.at (by simp; omega)
      have hcell := hc k ps[k].val (by simp [hlt])
      have hpk : ps[k]? = some ps[k] := List.getElem?_eq_getElem hlt
      have hok := HP.out _ (List.getElem_mem hlt)
      have hs := partsB_snoc hpk
      have hle := partsB_le (ps := ps) (k + 1)
      rw [hs, List.length_append] at hle
      generalize ps[k] = p at *
      obtain ⟨pa, pn, pc, pl⟩ := p
      unfold Part.val at hcell
      have hpl : pn = pl.length := hok.1
      dsimp only at hcell hs hle
      rw [hpl] at hcell
      have HS := Lib.hid (show (partsB (ps.take (k + 1))).length = (partsB (ps.take k)).length + pl.length from by rw [hs, List.length_append])
      clear hc hpk hok hs hpl
      generalize (partsB (ps.take k)).length = S at *
      generalize pl.length = T at *
      go_wp2
      go_round
      case rel => exact ⟨k + 1, by omega, by rw [HS.out]; go_num, by go_num⟩
      case measure => simp [intOf]; omega
    · obtain rfl : k = ps.length := by omega
      rw [List.take_length]
      have HG := Lib.hid (c_Grow (partsB ps).length w hm)
      clear hlt hk
      go_wp2_with fail
      refine HG.out.mono ?_
      rintro e w1 ⟨v, rfl, own, bel⟩
      have HO := Lib.hid own
      have HB := Lib.hid bel
      clear own bel HG
      go_wp2_with fail
      go_loopw [6, 27] (fun v i wr => ∃ k : Nat, k ≤ ps.length ∧ i = .int .i64 k ∧ Hid (wr.ownsRow w.heap.size 5 1 v (partsB (ps.take k)).length ((partsB (ps.take k)).map (Value.int .u8))) ∧ Hid (Below w.heap.size w wr)) (fun _ i _ => ps.length - (intOf i).toNat)
      case atStart => exact ⟨0, Nat.zero_le _, rfl, HO.out, HB.out⟩
      case round =>
        obtain ⟨k, hk, rfl, HO2, HB2⟩ := hrel
        by_cases hlt : k < ps.length
        · obtain ⟨b, off, rfl, hblt, hc⟩ := (HR.out.below HB2.out).at (by simp; omega)
          have hcell := hc k ps[k].val (by simp [hlt])
          have hpk : ps[k]? = some ps[k] := List.getElem?_eq_getElem hlt
          have hok := HP.out _ (List.getElem_mem hlt)
          have hs := partsB_snoc hpk
          have hle := partsB_le (ps := ps) (k + 1)
          rw [hs, List.length_append] at hle
          generalize ps[k] = p at *
          obtain ⟨pa, pn, pc, pl⟩ := p
          unfold Part.val at hcell
          have hpl : pn = pl.length := hok.1
          have HPR := Lib.hid (show Reads wr pa pc (pl.map (Value.int .u8)) from hok.2.below HB2.out)
          dsimp only at hcell hs hle
          rw [hpl] at hcell
          have HS := Lib.hid hs
          have hsz := HB2.out.size
          clear hc hpk hok hs hpl
          go_wp2_with (at_builtin; refine wpList_app rfl _ _ 23 rfl w.heap.size 5 (.int .u8 0) 1 1 Try.underlying23 inf_u8 rfl (by decide) _ _ _ rfl HO2.out pa pl.length pc _ rfl (by simp) HPR.out (ints_one _ _) (by unfold maxLen; omega) (by omega) hsz ?_)
          intro v' w2 own2 gr2
          have hlt' := HO2.out.lt
          have HB3 := Lib.hid (HB2.out.grown gr2 hsz (fun k hk => (hlt' k hk).1))
          have HO3 : Hid (w2.ownsRow w.heap.size 5 1 v' (partsB (ps.take (k + 1))).length ((partsB (ps.take (k + 1))).map (Value.int .u8))) := by
            rw [HS.out, List.map_append, List.length_append]; exact own2
          clear own2 gr2 hlt'
          go_wp2
          go_roundw
          case rel => exact ⟨k + 1, by omega, by go_num, HO3.out, HB3.out⟩
          case measure => simp [intOf]; omega
        · obtain rfl : k = ps.length := by omega
          go_wp2
          go_ret
          refine ⟨_, rfl, ?_, HB2.out⟩
          have := HO2.out
          rwa [List.take_length] at this

end Go.Proofs.Ytdedidjobjdekaa
