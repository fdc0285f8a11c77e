/-
  Contracts of package heap: Write.
-/
import Derived.Test.YtcecegcbkcdpjaaHeapL
namespace Go.Proofs.Ytcecegcbkcdpjaa
open Go.RowKit
set_option linter.unusedVariables false
set_option maxHeartbeats 4000000

theorem splice_len {α : Type} (L : List α) (off : Nat) (cs : List α) (h : off + cs.length ≤ L.length) : (splice L off cs).length = L.length := by
  unfold splice; simp; omega
theorem splice_next {L : List Int} {p : Nat} {l : List Int} {j : Nat} (hj : j < l.length) (h : p + l.length ≤ L.length) : splice L p (l.take (j + 1)) = (splice L p (l.take j)).set (p + j) (l.getD j 0) := by
  have e1 : (l.take (j + 1)).length = j + 1 := by simp; omega
  have e2 : (l.take j).length = j := by simp; omega
  apply List.ext_getElem?
  intro t
  rw [splice_get _ _ _ (by rw [e1]; omega), List.getElem?_set, splice_get _ _ _ (by rw [e2]; omega), splice_len _ _ _ (by rw [e2]; omega), e1, e2]
  by_cases h1 : t < p
  · rw [if_pos h1, if_neg (by omega), if_pos h1]
  · rw [if_neg h1, if_neg h1]
    by_cases h2 : p + j = t
    · subst h2
      rw [if_pos (by omega), if_pos rfl, if_pos (by omega), show p + j - p = j by omega, List.getElem?_take, if_pos (by omega), List.getD_eq_getElem?_getD, List.getElem?_eq_getElem hj]
      rfl
    · rw [if_neg h2]
      by_cases h3 : t < p + j
      · rw [if_pos (by omega), if_pos h3, List.getElem?_take, if_pos (by omega), List.getElem?_take, if_pos (by omega)]
      · rw [if_neg (by omega), if_neg h3]
theorem splice_mem {L : List Int} {p : Nat} {l : List Int} {P : Int → Prop} (hL : ∀ x ∈ L, P x) (hl : ∀ x ∈ l, P x) : ∀ x ∈ splice L p l, P x := by
  unfold splice
  intro x hx
  simp only [List.mem_append] at hx
  rcases hx with hx | hx | hx
  · exact hL x (List.mem_of_mem_take hx)
  · exact hl x hx
  · exact hL x (List.mem_of_mem_drop hx)

theorem Upd.cell {l : List Nat} {a b : World} (h : Upd l a b) {p : Addr} {v : Value} (hc : a.cell? p = some v) (hn : p.block ∉ l) : b.cell? p = some v :=
  (World.cell?_of_block (w := a) (h.block _ (World.block_lt_of_cell? a p hc) hn)).trans hc

def wsS (S : HpS) (p : Nat) (l : List Int) : HpS := { S with ws := splice S.ws p l }

theorem c_Write {w : World} {B h g : Nat} {vb : Value} {S : HpS} (H : HpAt w B h g vb S) (m : Nat) (hm : m < S.bl.length) (hu : S.bl[m].used = true) (hN : S.bl[m].at_ + S.bl[m].n ≤ S.N) (i : Nat) (a : Option Addr) (n c : Nat) (l : List Int) (e0 : n = l.length) (hn : i + n ≤ S.bl[m].n) (hr : Reads w a c (l.map (Value.int .i64))) (hg : ∀ x, a = some x → x.block ≠ g) (hb : badH l = false) :
    Calls Try.prog 34 #[.pointer (some ⟨h, 0, none⟩), .int .i64 m, .int .i64 i, .slice a n c] w fun e w' => e = .returned (.int .i64 0) ∧ HpAt w' B h g vb (wsS S (S.bl[m].at_ + i) l) ∧ HUpd B w w' := by
  have hsm := H.small
  have HC := Lib.hid (c_has H m)
  rw [hasB_is hm hu] at HC
  have HW := Lib.hid (c_WrContains a n c l w e0 hr (by omega))
  rw [hb] at HW
  have HWD := Lib.hid (badH_iff.1 hb)
  have k0 := H.head.cell (i := 0) rfl
  have k1 := H.head.cell (i := 1) rfl
  obtain ⟨b, cb, hv, c0, c1, c2⟩ := blk_cells H.own hm
  subst hv
  have HH := Lib.hid H
  have HR := Lib.hid hr
  have HG := Lib.hid hg
  have hlen := H.len
  have HLN := Lib.hid hlen
  have nhg : h ≠ g := typ_ne H.head H.data (by decide)
  obtain ⟨b', _, _, hv', _, hrow, _⟩ := h_block H.own (by omega)
  cases hv'
  have nbg : b ≠ g := typ_ne hrow H.data (by decide)
  subst e0
  clear H hu c2 hr hb hg hrow
  generalize S.bl[m].n = q at *
  generalize S.bl[m].at_ = p at *
  have hp : p + i + l.length ≤ S.ws.length := by omega
  have HP := Lib.hid hp
  have h0 : ¬ (q : Int) < (i : Int) := by omega
  have h1 : ¬ (q : Int) - (i : Int) < (l.length : Int) := by omega
  clear hlen hp
  go_enter Try.func34, Try.ntmps34
  go_wp2_with (first | (go_at_call 42; refine HC.out.mono ?_; rintro e w' ⟨rfl, rfl⟩) | (go_at_call 44; refine HW.out.mono ?_; rintro e w' ⟨rfl, rfl⟩))
  clear HC HW
  go_loopw [55] (fun i' wr => ∃ j : Nat, j ≤ l.length ∧ i' = .int .i64 j ∧ Hid (Row wr g 56 ((splice S.ws (p + i) (l.take j)).map (Value.int .u16))) ∧ Hid (Upd [g] w wr)) (fun i' _ => l.length - (intOf i').toNat)
  case atStart => exact ⟨0, Nat.zero_le _, rfl, by rw [List.take_zero, splice_nil]; exact HH.out.data, Upd.refl _ _⟩
  case round =>
    obtain ⟨j, hj, rfl, HD, HB⟩ := hrel
    by_cases hlt : j < l.length
    · have d0 := HB.out.cell k0 (by simp; exact nhg)
      have d1 := HB.out.cell k1 (by simp; exact nhg)
      have e0 := HB.out.cell c0 (by simp; exact nbg)
      obtain ⟨xb, xo, rfl, hxlt, hxc⟩ := HR.out.at (by simp; omega)
      have hxg := HG.out _ rfl
      have xc := HB.out.cell (hxc j _ (getD_map8 hlt)) (by simp; exact hxg)
      have HSP := Lib.hid (splice_next hlt HP.out)
      have hgd : l.getD j 0 = l[j] := by rw [List.getD_eq_getElem?_getD, List.getElem?_eq_getElem hlt]; rfl
      obtain ⟨hx0, hx1⟩ := HWD.out _ (List.getElem_mem hlt)
      rw [← hgd] at hx0 hx1
      have hsl := splice_len S.ws (p + i) (l.take j) (by simp; have := HP.out; omega)
      have kf := HD.out.free (p + i + j)
      have hcl : p + i + j < (splice S.ws (p + i) (l.take j)).length := by rw [hsl]; have := HP.out; omega
      have kc := HD.out.cell (getD_map8 hcl)
      rw [HLN.out] at hsl
      generalize l.getD j 0 = x at *
      generalize (splice S.ws (p + i) (l.take j)).getD (p + i + j) 0 = old at *
      clear hxc hgd hcl hxg
      go_wp2_with fail
      go_region
      go_wp2
      refine ⟨⟨j + 1, by omega, by go_num, ?_, (HB.out.setCell (by simp) _).drew⟩, by simp [intOf]; omega⟩
      show Row _ _ _ _
      rw [HSP.out, List.map_set]
      exact (HD.out.set _ _).drew
    · obtain rfl : j = l.length := by omega
      go_wp2
      go_ret
      rw [List.take_length] at HD
      refine ⟨rfl, ⟨HH.out.head.keep HB.out (by simp; exact nhg), HD.out, HB.out.owns HH.out.own (fun k hk => by simp [Value.ownBlock] at hk; subst hk; simp; exact nbg), ?_, hsm, HH.out.few, HH.out.lo, ?_⟩, ?_⟩
      · exact (splice_len _ _ _ HP.out).trans HLN.out
      · exact splice_mem HH.out.word HWD.out
      · exact .of_upd HB.out (fun k hk => by simp at hk; subst hk; exact ⟨HH.out.lo.2, _, _, HH.out.data, by decide⟩)

end Go.Proofs.Ytcecegcbkcdpjaa
