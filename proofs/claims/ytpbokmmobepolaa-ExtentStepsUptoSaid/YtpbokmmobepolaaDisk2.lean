/-
  Contracts of package disk: what loops: Used, Clear.
-/
import Derived.Test.YtpbokmmobepolaaDisk
namespace Go.Proofs.Ytpbokmmobepolaa
open Go.RowKit
set_option linter.unusedVariables false

set_option maxHeartbeats 400000

def some1 (l : List Int) : Bool := l.any (fun x => x != 0)

def IdxPost (l : List Int) (w : World) (e : Ending) (w' : World) : Prop := ∃ v : Int, e = .returned (.int .i64 v) ∧ decide (0 ≤ v) = some1 l ∧ w = w'

theorem some1_yes {l : List Int} {k : Nat} (hk : k < l.length) (h : (l.getD k 0 != 0) = true) : some1 l = true := by
  unfold some1
  rw [List.any_eq_true]
  refine ⟨l.getD k 0, ?_, h⟩
  rw [List.getD_eq_getElem?_getD, List.getElem?_eq_getElem hk]
  exact List.getElem_mem hk
theorem some1_no {l : List Int} (h : ∀ j, j < l.length → l.getD j 0 = 0) : some1 l = false := by
  unfold some1
  rw [List.any_eq_false]
  intro x hx
  obtain ⟨j, hj, rfl⟩ := List.getElem_of_mem hx
  have := h j hj
  rw [List.getD_eq_getElem?_getD, List.getElem?_eq_getElem hj] at this
  simpa using this

/-- How many of the first k sectors have anything. -/
def usedN (bs : List Int) (k : Nat) : Nat := ((List.range k).filter (fun i => some1 (sector bs i))).length
theorem usedN_le (bs : List Int) (k : Nat) : usedN bs k ≤ k := by
  have := List.length_filter_le (fun i => some1 (sector bs i)) (List.range k)
  simpa [usedN] using this
theorem usedN_succ (bs : List Int) (k : Nat) : usedN bs (k + 1) = usedN bs k + (if some1 (sector bs k) then 1 else 0) := by
  unfold usedN
  rw [List.range_succ, List.filter_append, List.length_append]
  cases h : some1 (sector bs k) <;> simp [h]

theorem DiskAt.sector {w : World} {d g n r q : Nat} {bs : List Int} (h : DiskAt w d g n r q bs) {i c : Nat} (hi : i < n) : Reads w (some ⟨g, 64 * i, none⟩) c ((sector bs i).map (Value.int .u8)) := by
  have hs := sector_len h.len hi
  refine h.data.reads (fun j u hu => ?_)
  rw [List.getElem?_map] at hu ⊢
  by_cases hj : j < 64
  · rwa [sector_get bs i j hj] at hu
  · rw [List.getElem?_eq_none (by omega)] at hu; cases hu

/-- All of a list lie within n. -/
def inN (n : Nat) (l : List Int) : Prop := ∀ x ∈ l, 0 ≤ x ∧ x < n

def clearAll (bs : List Int) (l : List Int) : List Int := l.foldl (fun b i => splice b (64 * i.toNat) (List.replicate 64 0)) bs
theorem clearAll_snoc {bs : List Int} {l : List Int} {k : Nat} {x : Int} (h : l[k]? = some x) : clearAll bs (l.take (k + 1)) = splice (clearAll bs (l.take k)) (64 * x.toNat) (List.replicate 64 0) := by
  rw [List.take_add_one, h]
  simp [clearAll]
theorem clearAll_len {n : Nat} : ∀ {l bs : List Int}, bs.length = 64 * n → inN n l → (clearAll bs l).length = 64 * n
  | [], bs, h, _ => h
  | x :: l, bs, h, hl => by
    have hx := hl x (by simp)
    refine clearAll_len (bs := splice bs (64 * x.toNat) (List.replicate 64 0)) ?_ (fun y hy => hl y (by simp [hy]))
    rw [length_splice _ _ _ (by simp; omega)]; exact h
theorem splice_byt {bs : List Int} (h : Byt bs) {cs : List Int} (k : Byt cs) (o : Nat) : Byt (splice bs o cs) := (h.take _).append (k.append (h.drop _))
theorem clearAll_byt : ∀ {l bs : List Int}, Byt bs → Byt (clearAll bs l)
  | [], bs, h => h
  | x :: l, bs, h => clearAll_byt (bs := splice bs (64 * x.toNat) (List.replicate 64 0)) (splice_byt h (fun y hy => by rw [List.eq_of_mem_replicate hy]; omega) _)

def ClearPost (d g n r q : Nat) (bs l : List Int) (w : World) (e : Ending) (w' : World) : Prop :=
  e = .returned (.int .i64 0) ∧ DiskAt w' d g n r q (clearAll bs l) ∧ Upd [g] w w'

theorem c_Clear (d g n r q : Nat) (bs : List Int) (w : World) (h : DiskAt w d g n r q bs) (a : Option Addr) (m c : Nat) (l : List Int) (e0 : m = l.length) (hr : Reads w a c (l.map (Value.int .i64))) (ha : ∀ x, a = some x → x.block ≠ g) (hl : inN n l) (hm : m ≤ 1000000) :
    Calls Try.prog 47 #[.pointer (some ⟨d, 0, none⟩), .slice a m c] w (ClearPost d g n r q bs l w) := by
  subst e0
  have HH := Lib.hid h
  have HR := Lib.hid hr
  have HI := Lib.hid hl
  have HA := Lib.hid ha
  have hsm := h.small
  clear h hr hl ha
  go_enter Try.func47, Try.ntmps47
  go_wp2
  go_loop [17] (fun i => ∃ k : Nat, k ≤ l.length ∧ i = .int .i64 k) (fun i => l.length - (intOf i).toNat)
  case atStart => exact ⟨0, Nat.zero_le _, rfl⟩
  case round =>
    obtain ⟨k, hk, rfl⟩ := hrel
    by_cases hlt : k < l.length
    · obtain ⟨b, off, rfl, hblt, hc⟩ := HR.out.at (by simp; omega)
      have hcell := hc k _ (by simp [hlt]; rfl)
      have hx := HI.out _ (List.getElem_mem hlt)
      generalize l[k] = x at *
      obtain ⟨i, rfl⟩ := Int.eq_ofNat_of_zero_le hx.1
      have HT := Lib.hid (c_at d g n r q bs w HH.out i (by omega))
      clear hc hx
      go_wp2_with (go_at_call 43; refine HT.out.mono ?_; rintro e w' ⟨rfl, rfl⟩)
      go_round
      case rel => exact ⟨k + 1, by omega, by go_num⟩
      case measure => simp [intOf]; omega
    · have hkl : k = l.length := by omega
      subst hkl
      go_wp2
      go_loopw [33] (fun i wr => ∃ k : Nat, k ≤ l.length ∧ i = .int .i64 k ∧ DiskAt wr d g n r q (clearAll bs (l.take k)) ∧ Upd [g] w wr) (fun i _ => l.length - (intOf i).toNat)
      case atStart => exact ⟨0, Nat.zero_le _, rfl, HH.out, Upd.refl _ _⟩
      case round =>
        obtain ⟨k, hk, rfl, hdr, hup⟩ := hrel
        have HD := Lib.hid hdr
        have HU := Lib.hid hup
        clear hdr hup
        by_cases hlt : k < l.length
        · obtain ⟨b, off, rfl, hblt, hc⟩ := HR.out.at (by simp; omega)
          have hcell := (World.cell?_of_block (w := w) (HU.out.block b hblt (by simp; exact HA.out _ rfl))).trans (hc k _ (by simp [hlt]; rfl))
          have hx := HI.out _ (List.getElem_mem hlt)
          have hxk : l[k]? = some l[k] := List.getElem?_eq_getElem hlt
          have HS := Lib.hid (clearAll_snoc (bs := bs) hxk)
          clear hxk
          generalize l[k] = x at *
          obtain ⟨i, rfl⟩ := Int.eq_ofNat_of_zero_le hx.1
          have hin : i < n := by omega
          have HT := Lib.hid (c_at d g n r q _ _ HD.out i hin)
          have HG := Lib.hid HD.out.data
          have HL := Lib.hid HD.out.len
          clear hc hx
          rw [Int.toNat_natCast] at HS
          go_wp2_with (first
            | (go_at_call 43; refine HT.out.mono ?_; rintro e w' ⟨rfl, rfl⟩)
            | (with_reducible refine wpList_clr rfl (.tmp 43) 27 rfl 5 (.int .u8 0) Try.underlying27 zero_u8 rfl rfl _ _ _ rfl g (64 * i) _ 5 HG.out (fun _ => rfl) (by rw [List.length_map, HL.out]; omega) ?_))
          intro w2 row2 upd2
          have hd2 : DiskAt w2 d g n r q (clearAll bs (l.take (k + 1))) := by
            have h0 := HD.out
            refine ⟨h0.head.keep upd2 (by simp; exact h0.ne), ?_, ?_, h0.ne, h0.small, ?_, h0.rs, h0.qs⟩
            · rw [HS.out, ← splice_map, List.map_replicate]; exact row2
            · rw [HS.out, length_splice _ _ _ (by simp [h0.len]; omega)]; exact h0.len
            · exact clearAll_byt (HH.out.byt)
          have hu2 : Upd [g] w w2 := HU.out.trans upd2
          have HD2 := Lib.hid hd2
          have HU2 := Lib.hid hu2
          clear hd2 hu2 row2 upd2
          go_wp2
          go_roundw
          case rel => exact ⟨k + 1, by omega, by go_num, HD2.out, HU2.out⟩
          case measure => simp [intOf]; omega
        · have hkl : k = l.length := by omega
          subst hkl
          go_wp2
          go_ret
          refine ⟨rfl, ?_, HU.out⟩
          have := HD.out
          rwa [List.take_of_length_le (Nat.le_refl _)] at this

end Go.Proofs.Ytpbokmmobepolaa
