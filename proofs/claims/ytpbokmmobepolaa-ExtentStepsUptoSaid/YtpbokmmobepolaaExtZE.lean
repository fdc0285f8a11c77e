/-
  The reference: Free of one.
-/
import Derived.Test.YtpbokmmobepolaaExtZD
namespace Go.Proofs.Ytpbokmmobepolaa
open Go.RowKit Go.Maps
set_option linter.unusedVariables false
set_option maxHeartbeats 4000000
set_option maxRecDepth 20000

theorem own_base {w : World} {b b' : Nat} {e : TypeId} {s n : Nat} {v : Value} {xs : List Value} (h : w.ownsRow b' e s v n xs) (hb : b ≤ b') : w.ownsRow b e s v n xs := by
  refine ⟨h.1, ?_⟩
  rcases h.2 with h0 | ⟨g, c, cur, h1, h2, h3⟩
  · exact .inl h0
  · exact .inr ⟨g, c, cur, h1, Nat.le_trans hb h2, h3⟩
theorem findE_some {L : List Rw4} {x : Ext} (h : findE L x ≠ -1) : ∃ (k : Nat) (hk : k < L.length), findE L x = (k : Int) ∧ x = rE L[k] := by
  unfold findE idxE at h ⊢
  cases hi : (L.map rE).findIdx? (fun y => decide (y = x)) with
  | none => rw [hi] at h; exact absurd rfl h
  | some k =>
    rw [List.findIdx?_eq_some_iff_getElem] at hi
    obtain ⟨hk, h1, -⟩ := hi
    have hk2 : k < L.length := by simpa using hk
    refine ⟨k, hk2, rfl, ?_⟩
    have : (L.map rE)[k] = x := by simpa using h1
    rw [← this]
    simp
theorem findE_none {L : List Rw4} {x : Ext} (h : findE L x = -1) : ∀ y ∈ L, x ≠ rE y := fun y hy e => by
  unfold findE idxE at h
  cases hi : (L.map rE).findIdx? (fun y => decide (y = x)) with
  | none =>
    rw [List.findIdx?_eq_none_iff] at hi
    have := hi (rE y) (List.mem_map.2 ⟨y, hy, rfl⟩)
    rw [e] at this
    simp at this
  | some k => rw [hi] at h; simp at h

def RFree (w : World) (a : Option Addr) (n c : Nat) (rs : List RwB) (x : Ext) (e : Ending) (w' : World) : Prop :=
  Below w.heap.size w w' ∧
  ((findE (Lof rs) x = -1 ∧ e = .returned (.tuple #[.slice a n c, .int .i64 4])) ∨
   ∃ (k : Nat) (v : Value), findE (Lof rs) x = (k : Int) ∧ k < rs.length ∧ e = .returned (.tuple #[v, .int .i64 0]) ∧ w'.ownsRow w.heap.size 54 4 v (rs.eraseIdx k).length (flatW (rs.eraseIdx k)))

theorem r_Free {w : World} {B : Nat} {a : Option Addr} {n c : Nat} {rs : List RwB} (h : RowsAt w B a n c rs) (hm : n ≤ 300) (x : Ext) (xa : Option Addr) (xc : Nat) (hx : ReadsBy w xa 3 exC [x]) :
    Calls Try.prog 22 #[.slice a n c, .slice xa 1 xc] w (RFree w a n c rs x) := by
  have HR := Lib.hid h
  have HX := Lib.hid hx
  have HN := Lib.hid h.len
  clear h hx
  go_enter Try.func22, Try.ntmps22
  go_wp2
  go_loopw [6, 7] (fun v i wr => (i = .int .i64 0 ∧ v = .slice a n c ∧ Hid (Below w.heap.size w wr)) ∨ (i = .int .i64 1 ∧ ∃ (k : Nat), Hid (findE (Lof rs) x = (k : Int)) ∧ k < rs.length ∧ Hid (wr.ownsRow w.heap.size 54 4 v (rs.eraseIdx k).length (flatW (rs.eraseIdx k))) ∧ Hid (Below w.heap.size w wr))) (fun _ i _ => 1 - (intOf i).toNat)
  case atStart => exact .inl ⟨rfl, rfl, Below.refl _ _⟩
  case round =>
    rcases hrel with ⟨rfl, rfl, HB⟩ | ⟨rfl, k, HF, hk, HO, HB⟩
    · obtain ⟨b, off, rfl, hb, c0, c1, c2⟩ := ex_cells (HX.out.below HB.out) (k := 0) (by simp)
      rw [show exAt [x] 0 = x from rfl, Nat.zero_mul, Nat.add_zero] at c0 c1 c2
      have HFI := Lib.hid (r_Find (HR.out.below HB.out) (by omega) x)
      unfold exV at HFI
      go_wp2_with fail
      refine HFI.out.mono ?_
      clear HFI
      rintro e w1 ⟨rfl, hb1⟩
      have HB1 := Lib.hid (bNext HB.out hb1)
      clear hb1 c0 c1 c2 hb
      by_cases hf : findE (Lof rs) x = -1
      · have HF := Lib.hid hf
        rw [hf]
        clear hf
        go_wp2
        go_ret2
        exact ⟨HB1.out, .inl ⟨HF.out, rfl⟩⟩
      · obtain ⟨k, hk, hf2, -⟩ := findE_some hf
        have hk2 : k < rs.length := by simpa [Lof] using hk
        have HF := Lib.hid hf2
        rw [hf2]
        have hn := HN.out
        have HW := Lib.hid (r_Without (HR.out.below HB1.out) (by omega) k (by omega))
        clear hf hf2 hk hn
        go_wp2_with fail
        refine HW.out.mono ?_
        rintro e w2 ⟨v, rfl, ho, hb2⟩
        have HO := Lib.hid (own_base ho HB1.out.size)
        have HB2 := Lib.hid (bNext HB1.out hb2)
        clear ho hb2 HW
        go_wp2
        go_roundw
        case rel => exact .inr ⟨rfl, k, HF.out, hk2, HO.out, HB2.out⟩
        case measure => simp [intOf]
    · go_wp2
      go_ret2
      exact ⟨HB.out, .inr ⟨k, _, HF.out, hk, rfl, HO.out⟩⟩

end Go.Proofs.Ytpbokmmobepolaa
