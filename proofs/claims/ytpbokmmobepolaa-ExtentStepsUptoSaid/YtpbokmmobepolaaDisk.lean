/-
  Contracts of package disk.
-/
import Derived.Test.YtpbokmmobepolaaMem
namespace Go.Proofs.Ytpbokmmobepolaa
open Go.RowKit
set_option linter.unusedVariables false

set_option maxHeartbeats 400000

/-- A disk in memory: its counts, and its bytes. -/
structure DiskAt (w : World) (d g n r q : Nat) (bs : List Int) : Prop where
  head : Row w d 83 [.int .i64 r, .int .i64 q, .slice (some ⟨g, 0, none⟩) (64 * n) (64 * n)]
  data : Row w g 5 (bs.map (Value.int .u8))
  len : bs.length = 64 * n
  ne : d ≠ g
  small : n ≤ 20000
  byt : Byt bs
  rs : r ≤ 1000000
  qs : q ≤ 1000000

theorem DiskAt.keep {w w' : World} {d g n r q : Nat} {bs : List Int} (h : DiskAt w d g n r q bs) {l : List Nat} (u : Upd l w w') (hd : d ∉ l) (hg : g ∉ l) : DiskAt w' d g n r q bs :=
  ⟨h.head.keep u hd, h.data.keep u hg, h.len, h.ne, h.small, h.byt, h.rs, h.qs⟩

def sector (bs : List Int) (i : Nat) : List Int := (bs.drop (64 * i)).take 64
theorem sector_len {bs : List Int} {n i : Nat} (h : bs.length = 64 * n) (hi : i < n) : (sector bs i).length = 64 := by
  simp [sector]; omega
theorem sector_get (bs : List Int) (i j : Nat) (hj : j < 64) : (sector bs i)[j]? = bs[64 * i + j]? := by
  unfold sector; rw [List.getElem?_take, if_pos hj, List.getElem?_drop]
theorem sector_byt {bs : List Int} (h : Byt bs) (i : Nat) : Byt (sector bs i) := (h.drop _).take _

/-- A new disk, or none. -/
def DiskNewPost (w : World) (k : Int) (e : Ending) (w' : World) : Prop :=
  if k < 0 ∨ 20000 < k then e = .returned (.tuple #[.pointer none, .int .i64 2]) ∧ w = w'
  else ∃ d g, e = .returned (.tuple #[.pointer (some ⟨d, 0, none⟩), .int .i64 0]) ∧ w.heap.size ≤ d ∧ w.heap.size ≤ g ∧ DiskAt w' d g k.toNat 0 0 (List.replicate (64 * k.toNat) 0) ∧ Upd [] w w'

theorem c_New (k : Int) (w : World) (h0 : -9223372036854775808 ≤ k) (h1 : k ≤ 9223372036854775807) : Calls Try.prog 25 #[.int .i64 k] w (DiskNewPost w k) := by
  by_cases h : k < 0
  · go_enter Try.func25, Try.ntmps25
    go_wp2
    go_ret2
    unfold DiskNewPost
    rw [if_pos (.inl h)]
    exact ⟨rfl, rfl⟩
  · by_cases h2 : 20000 < k
    · go_enter Try.func25, Try.ntmps25
      go_wp2
      go_ret2
      unfold DiskNewPost
      rw [if_pos (.inr h2)]
      exact ⟨rfl, rfl⟩
    · obtain ⟨n, rfl⟩ := Int.eq_ofNat_of_zero_le (show 0 ≤ k from by omega)
      go_enter Try.func25, Try.ntmps25
      go_wp2_with (at_make; refine wpList_mk rfl _ _ 27 rfl 5 (.int .u8 0) 1 Try.underlying27 (by kernel_rfl) rfl .i64 .i64 _ _ (64 * n) rfl rfl ?c1 ?c2 (by omega) (by unfold maxLen; omega) ?_)
      case c1 => omega
      case c2 => omega
      intro w' row upd
      have lt := row.lt
      go_wp2
      go_ret2
      unfold DiskNewPost
      rw [if_neg (by omega), Int.toNat_natCast]
      refine ⟨w'.heap.size, w.heap.size, rfl, by omega, Nat.le_refl _, ⟨Row.made _ _ _, ?_, by simp, by omega, by omega, ?_, by omega, by omega⟩, upd.alloc _⟩
      · rw [List.map_replicate]; exact row.alloc _
      · intro x hx
        rw [List.eq_of_mem_replicate hx]; omega

theorem c_Len (d g n r q : Nat) (bs : List Int) (w : World) (h : DiskAt w d g n r q bs) : Calls Try.prog 39 #[.pointer (some ⟨d, 0, none⟩)] w fun e w' => e = .returned (.int .i64 n) ∧ w = w' := by
  have k1 := h.head.cell (i := 2) rfl
  have hn := h.small
  have h2 : ((64 * n : Nat) : Int) / 64 = n := by omega
  clear h
  go_enter Try.func39, Try.ntmps39
  go_wp2
  go_ret
  exact ⟨rfl, rfl⟩

/-- The place of a sector. -/
theorem c_at (d g n r q : Nat) (bs : List Int) (w : World) (h : DiskAt w d g n r q bs) (i : Nat) (hi : i < n) : Calls Try.prog 43 #[.pointer (some ⟨d, 0, none⟩), .int .i64 i] w fun e w' => e = .returned (.tuple #[.slice (some ⟨g, 64 * i, none⟩) 64 64, .int .i64 0]) ∧ w = w' := by
  have k1 := h.head.cell (i := 2) rfl
  have hn := h.small
  have HH := Lib.hid h
  clear h
  go_enter Try.func43, Try.ntmps43
  go_wp2_with (go_at_call 39; refine (c_Len d g n r q bs _ HH.out).mono ?_; rintro e w' ⟨rfl, rfl⟩)
  go_ret2
  have e1 : (i + 1) * 64 - i * 64 = 64 := by omega
  rw [Nat.mul_comm 64 i]
  refine ⟨?_, rfl⟩
  show Ending.returned (.tuple #[.slice (some ⟨g, i * 64, none⟩) ((i + 1) * 64 - i * 64) ((i + 1) * 64 - i * 64), .int .i64 0]) = _
  rw [e1]

theorem c_atNo (d g n r q : Nat) (bs : List Int) (w : World) (h : DiskAt w d g n r q bs) (i : Int) (hi : i < 0 ∨ (n : Int) ≤ i) : Calls Try.prog 43 #[.pointer (some ⟨d, 0, none⟩), .int .i64 i] w fun e w' => e = .returned (.tuple #[.slice none 0 0, .int .i64 4]) ∧ w = w' := by
  have HH := Lib.hid h
  clear h
  by_cases h0 : i < 0
  · clear hi
    go_enter Try.func43, Try.ntmps43
    go_wp2
    go_ret2
    exact ⟨rfl, rfl⟩
  · have h1 : (n : Int) ≤ i := by omega
    clear hi
    go_enter Try.func43, Try.ntmps43
    go_wp2_with (go_at_call 39; refine (c_Len d g n r q bs _ HH.out).mono ?_; rintro e w' ⟨rfl, rfl⟩)
    go_ret2
    exact ⟨rfl, rfl⟩

theorem c_atNil (i : Int) (w : World) : Calls Try.prog 43 #[.pointer none, .int .i64 i] w fun e w' => e = .returned (.tuple #[.slice none 0 0, .int .i64 1]) ∧ w = w' := by
  go_enter Try.func43, Try.ntmps43
  go_wp2
  go_ret2
  exact ⟨rfl, rfl⟩

theorem inf_u8 : (Try.prog.info? 5).map (fun i => (i.zero, i.size, i.bytes)) = some (some (.int .u8 0), 1, 1) := by kernel_rfl

/-- What is made, and is the call's own: a row of bytes. -/
def MadeBytes (w : World) (l : List Int) (e : Ending) (w' : World) : Prop :=
  ∃ v, e = .returned v ∧ w'.ownsRow w.heap.size 5 1 v l.length (l.map (Value.int .u8)) ∧ Below w.heap.size w w'

theorem c_Copy (a : Option Addr) (n c : Nat) (l : List Int) (w : World) (e0 : n = l.length) (h : Reads w a c (l.map (Value.int .u8))) (hm : n ≤ 1000000000) :
    Calls Try.prog 37 #[.slice a n c] w (MadeBytes w l) := by
  subst e0
  go_enter Try.func37, Try.ntmps37
  go_wp2_with (at_builtin; refine wpList_app rfl _ _ 27 rfl w.heap.size 5 (.int .u8 0) 1 1 Try.underlying27 inf_u8 rfl (by decide) _ 0 [] rfl (World.ownsRow_nil _ _ _ _) a l.length c _ rfl (by simp) h (ints_one _ _) (by unfold maxLen; omega) (by omega) (Nat.le_refl _) ?_)
  intro v1 w1 own1 gr1
  have bel1 : Below w.heap.size w w1 := (Below.refl _ _).grown gr1 (Nat.le_refl _) (fun k hk => by cases hk)
  clear gr1
  go_wp2
  go_ret
  exact ⟨v1, rfl, own1, bel1⟩

theorem c_Clone (x : Addr) (n c : Nat) (l : List Int) (w : World) (e0 : n = l.length) (h : Reads w (some x) c (l.map (Value.int .u8))) (hm : n ≤ 1000000000) :
    Calls Try.prog 44 #[.slice (some x) n c] w (MadeBytes w l) := by
  subst e0
  have hs := h.alloc (.cells #[] 5)
  have HS := Lib.hid hs
  clear hs
  have hn := fun w => Lib.run_eql_slice_nil (P := Try.prog) w 27 5 (some x) l.length c 0 0 Try.underlying27
  go_enter Try.func44, Try.ntmps44
  go_wp2_with (at_builtin; refine wpList_app rfl _ _ 27 rfl w.heap.size 5 (.int .u8 0) 1 1 Try.underlying27 inf_u8 rfl (by decide) _ 0 [] rfl (World.ownsRow_made w #[] 0 (Nat.le_refl _) (Nat.zero_le _) rfl) (some x) l.length c _ rfl (by simp) HS.out (ints_one _ _) (by unfold maxLen; omega) (by omega) (by simp) ?_)
  intro v1 w1 own1 gr1
  have bel1 : Below w.heap.size w w1 := ((Below.refl _ _).alloc (Nat.le_refl _) _).grown gr1 (by simp) (fun k hk => by simp [Value.ownBlock] at hk; omega)
  clear gr1
  go_wp2
  go_ret
  exact ⟨v1, rfl, own1, bel1⟩

/-- What a sector's reading leaves. -/
def ReadPost (d g n r q : Nat) (bs : List Int) (i : Nat) (w : World) (e : Ending) (w' : World) : Prop :=
  ∃ v, e = .returned (.tuple #[v, .int .i64 0]) ∧ w'.ownsRow w.heap.size 5 1 v 64 ((sector bs i).map (Value.int .u8)) ∧ DiskAt w' d g n (r + 1) q bs ∧ Upd [d] w w'

theorem c_Read (d g n r q : Nat) (bs : List Int) (w : World) (h : DiskAt w d g n r q bs) (hr : r < 1000000) (i : Nat) (hi : i < n) : Calls Try.prog 31 #[.pointer (some ⟨d, 0, none⟩), .int .i64 i] w (ReadPost d g n r q bs i w) := by
  have k0 := h.head.cell (i := 0) rfl
  have f0 := h.head.free 0
  have HA := Lib.hid (c_at d g n r q bs w h i hi)
  have hs := sector_len h.len hi
  have hrow : Reads (w.setCell ⟨d, 0, none⟩ (.int .i64 ((r : Int) + 1))) (some ⟨g, 64 * i, none⟩) 64 ((sector bs i).map (Value.int .u8)) := by
    refine (h.data.setOther (p := ⟨d, 0, none⟩) h.ne _).reads (fun j u hu => ?_)
    rw [List.getElem?_map] at hu ⊢
    by_cases hj : j < 64
    · rwa [sector_get bs i j hj] at hu
    · rw [List.getElem?_eq_none (by omega)] at hu; cases hu
  have HR := Lib.hid hrow
  have hd : DiskAt (w.setCell ⟨d, 0, none⟩ (.int .i64 ((r : Int) + 1))) d g n (r + 1) q bs :=
    ⟨by have := h.head.set 0 (.int .i64 ((r : Int) + 1)); exact this, h.data.setOther (p := ⟨d, 0, none⟩) h.ne _, h.len, h.ne, h.small, h.byt, hr, h.qs⟩
  have HD := Lib.hid hd
  have hl := h.head.lt
  have hg := h.data.lt
  clear hrow hd h
  go_enter Try.func31, Try.ntmps31
  go_wp2_with (first
    | (go_at_call 43; refine HA.out.mono ?_; rintro e w' ⟨rfl, rfl⟩)
    | (go_at_call 44; refine (c_Clone _ 64 64 (sector bs i) _ hs.symm HR.out (by omega)).mono ?_; rintro e w' ⟨v, rfl, own, bel⟩))
  go_ret2
  rw [hs] at own
  have hz : (w.setCell ⟨d, 0, none⟩ (.int .i64 ((r : Int) + 1))).heap.size = w.heap.size := by simp
  rw [hz] at own bel
  refine ⟨v, rfl, own, HD.out.keep (l := []) (.of_below (by rw [hz]; exact bel)) (by simp) (by simp), ?_⟩
  exact (((Upd.refl [d] w).setCell (p := ⟨d, 0, none⟩) (by simp) _).trans (.of_below (by rw [hz]; exact bel)))

theorem c_ReadNo (d g n r q : Nat) (bs : List Int) (w : World) (h : DiskAt w d g n r q bs) (i : Int) (hi : i < 0 ∨ (n : Int) ≤ i) : Calls Try.prog 31 #[.pointer (some ⟨d, 0, none⟩), .int .i64 i] w fun e w' => e = .returned (.tuple #[.slice none 0 0, .int .i64 4]) ∧ w = w' := by
  have HA := Lib.hid (c_atNo d g n r q bs w h i hi)
  clear h hi
  go_enter Try.func31, Try.ntmps31
  go_wp2_with (go_at_call 43; refine HA.out.mono ?_; rintro e w' ⟨rfl, rfl⟩)
  go_ret2
  exact ⟨rfl, rfl⟩

theorem c_ReadNil (i : Int) (w : World) : Calls Try.prog 31 #[.pointer none, .int .i64 i] w fun e w' => e = .returned (.tuple #[.slice none 0 0, .int .i64 1]) ∧ w = w' := by
  go_enter Try.func31, Try.ntmps31
  go_wp2_with (go_at_call 43; refine (c_atNil _ _).mono ?_; rintro e w' ⟨rfl, rfl⟩)
  go_ret2
  exact ⟨rfl, rfl⟩

/-- A sector's bytes behind a writing. -/
def filled (b : List Int) : List Int := b ++ List.replicate (64 - b.length) 0
theorem filled_len {b : List Int} (h : b.length ≤ 64) : (filled b).length = 64 := by simp [filled]; omega
theorem filled_byt {b : List Int} (h : Byt b) : Byt (filled b) := h.append (fun x hx => by rw [List.eq_of_mem_replicate hx]; omega)

theorem splice_splice {α : Type} (L : List α) (o : Nat) (cs ds : List α) (h : o + cs.length + ds.length ≤ L.length) : splice (splice L o cs) (o + cs.length) ds = splice L o (cs ++ ds) := by
  apply List.ext_getElem?
  intro i
  have h1 : (splice L o cs).length = L.length := length_splice L o cs (by omega)
  rw [splice_get _ _ _ (by omega), splice_get _ _ _ (by omega), splice_get L o (cs ++ ds) (by simp; omega)]
  simp only [List.length_append]
  by_cases h2 : i < o
  · rw [if_pos (by omega), if_pos h2, if_pos h2]
  · by_cases h3 : i < o + cs.length
    · rw [if_pos h3, if_neg h2, if_pos h3, if_neg h2, if_pos (by omega), List.getElem?_append_left (by omega)]
    · by_cases h4 : i < o + cs.length + ds.length
      · rw [if_neg h3, if_pos h4, if_neg h2, if_pos (by omega), List.getElem?_append_right (by omega)]
        congr 1; omega
      · rw [if_neg h3, if_neg h4, if_neg h2, if_neg h3, if_neg h2, if_neg (by omega)]

/-- What a sector's writing leaves. -/
def WritePost (d g n r q : Nat) (bs b : List Int) (i : Nat) (w : World) (e : Ending) (w' : World) : Prop :=
  e = .returned (.int .i64 0) ∧ DiskAt w' d g n r (q + 1) (splice bs (64 * i) (filled b)) ∧ Upd [d, g] w w'

theorem zero_u8 : ∀ w, (zeroValue 5).run Try.prog w = .ok (.int .u8 0) w := fun _ => by kernel_rfl

theorem c_Write (d g n r q : Nat) (bs : List Int) (w : World) (h : DiskAt w d g n r q bs) (hq : q < 1000000) (i : Nat) (hi : i < n) (a : Option Addr) (m c : Nat) (b : List Int) (em : m = b.length) (hb : Byt b) (hr : Reads w a c (b.map (Value.int .u8))) (hm : m ≤ 64) :
    Calls Try.prog 42 #[.pointer (some ⟨d, 0, none⟩), .int .i64 i, .slice a m c] w (WritePost d g n r q bs b i w) := by
  have HA := Lib.hid (c_at d g n r q bs w h i hi)
  have HH := Lib.hid h
  have hlen := h.len
  have hsm := h.small
  have HB := Lib.hid hb
  have HR := Lib.hid hr
  have HL := Lib.hid hlen
  have HE := Lib.hid em
  have HG := Lib.hid h.data
  have hfit : 64 * i + 64 ≤ bs.length := by omega
  have k0 : ∀ w', Upd [g] w w' → w'.cell? ⟨d, 1, none⟩ = some (.int .i64 q) ∧ w'.frozen? ⟨d, 1, none⟩ = false := fun w' u => by
    have := h.head.keep u (by simp; exact h.ne)
    exact ⟨this.cell (i := 1) rfl, this.free 1⟩
  have K0 := Lib.hid k0
  have fin : ∀ w', Row w' g 5 ((splice bs (64 * i) (filled b)).map (Value.int .u8)) → Upd [g] w w' → WritePost d g n r q bs b i w (.returned (.int .i64 0)) (w'.setCell ⟨d, 1, none⟩ (.int .i64 ((q : Int) + 1))) := fun w' row u => by
    have hd := h.head.keep u (by simp; exact h.ne)
    have fl := filled_len (b := b) (by omega)
    refine ⟨rfl, ⟨hd.set 1 _, row.setOther (p := ⟨d, 1, none⟩) h.ne _, ?_, h.ne, h.small, ?_, h.rs, hq⟩, ?_⟩
    · rw [length_splice _ _ _ (by omega)]; exact h.len
    · unfold splice
      exact (h.byt.take _).append ((filled_byt hb).append (h.byt.drop _))
    · exact (u.mono (by simp)).trans ((Upd.refl _ _).setCell (p := ⟨d, 1, none⟩) (by simp) _)
  have FIN := Lib.hid fin
  clear h hb hr hlen em k0 fin
  have hcomb : ∀ k, k = b.length → splice (splice (bs.map (Value.int .u8)) (64 * i) ((b.map (Value.int .u8)).take 64)) (64 * i + k) (List.replicate (64 - k) (Value.int .u8 0)) = (splice bs (64 * i) (filled b)).map (Value.int .u8) := fun k hk => by
    subst hk
    have e0 : (b.map (Value.int .u8)).take 64 = b.map (Value.int .u8) := List.take_of_length_le (by simp; have := HE.out; omega)
    rw [e0]
    have e1 := splice_splice (bs.map (Value.int .u8)) (64 * i) (b.map (Value.int .u8)) (List.replicate (64 - b.length) (Value.int .u8 0)) (by simp; have := HE.out; omega)
    rw [List.length_map] at e1
    rw [e1, ← splice_map]
    simp [filled]
  have HC := Lib.hid hcomb
  clear hcomb
  have hml : min 64 b.length = m := by have := HE.out; omega
  have HM := Lib.hid hml
  clear hml
  by_cases h64 : m = 64
  · subst h64
    go_enter Try.func42, Try.ntmps42
    go_wp2_with (first
      | (go_at_call 43; refine HA.out.mono ?_; rintro e w' ⟨rfl, rfl⟩)
      | ((with_reducible refine wpList_cpy rfl (.tmp 24) (.tmp 25) 27 27 rfl 5 Try.underlying27 (by kernel_rfl) _ _ _ _ _ _ rfl rfl g (64 * i) _ 5 HG.out _ HR.out (by rw [List.length_map]; exact HE.out.symm) (fun _ => rfl) (by rw [List.length_map]; exact hfit) (ints_one _ _) 64 (by rw [List.length_take, List.length_map]; exact HM.out.symm) ?_)))
    intro w1 row1 upd1
    obtain ⟨k1, f1⟩ := K0.out w1 upd1
    have R1 := Lib.hid row1
    have U1 := Lib.hid upd1
    clear row1 upd1
    go_wp2_with (with_reducible refine wpList_clr rfl (.tmp 27) 27 rfl 5 (.int .u8 0) Try.underlying27 zero_u8 rfl rfl _ _ _ rfl g (64 * i + 64) _ 5 R1.out (fun h => absurd h (by decide)) (by rw [length_splice _ _ _ (by simp; omega)]; simp; omega) ?_)
    intro w2 row2 upd2
    have U2 := Lib.hid (U1.out.trans upd2)
    have hf := FIN.out w2 (by rw [← HC.out 64 HE.out]; exact row2) U2.out
    obtain ⟨k2, f2⟩ := K0.out w2 U2.out
    have HF := Lib.hid hf
    clear hf row2 upd2 k1 f1
    go_wp2
    go_ret
    exact HF.out
  · have hlt : m < 64 := by omega
    have hne : ¬ 64 = m := by omega
    have hle : (m : Int) ≤ 64 := by omega
    clear h64
    go_enter Try.func42, Try.ntmps42
    go_wp2_with (first
      | (go_at_call 43; refine HA.out.mono ?_; rintro e w' ⟨rfl, rfl⟩)
      | ((with_reducible refine wpList_cpy rfl (.tmp 24) (.tmp 25) 27 27 rfl 5 Try.underlying27 (by kernel_rfl) _ _ _ _ _ _ rfl rfl g (64 * i) _ 5 HG.out _ HR.out (by rw [List.length_map]; exact HE.out.symm) (fun _ => rfl) (by rw [List.length_map]; exact hfit) (ints_one _ _) m (by rw [List.length_take, List.length_map]; exact HM.out.symm) ?_)))
    intro w1 row1 upd1
    obtain ⟨k1, f1⟩ := K0.out w1 upd1
    have R1 := Lib.hid row1
    have U1 := Lib.hid upd1
    clear row1 upd1
    go_wp2_with (with_reducible refine wpList_clr rfl (.tmp 27) 27 rfl 5 (.int .u8 0) Try.underlying27 zero_u8 rfl rfl _ _ _ rfl g (64 * i + m) _ 5 R1.out (fun _ => rfl) (by rw [length_splice _ _ _ (by simp; omega)]; simp; omega) ?_)
    intro w2 row2 upd2
    have U2 := Lib.hid (U1.out.trans upd2)
    have hf := FIN.out w2 (by rw [← HC.out m HE.out]; exact row2) U2.out
    obtain ⟨k2, f2⟩ := K0.out w2 U2.out
    have HF := Lib.hid hf
    clear hf row2 upd2 k1 f1
    go_wp2
    go_ret
    exact HF.out

theorem c_WriteNo (d g n r q : Nat) (bs : List Int) (w : World) (h : DiskAt w d g n r q bs) (i : Int) (hi : i < 0 ∨ (n : Int) ≤ i) (a : Option Addr) (m c : Nat) :
    Calls Try.prog 42 #[.pointer (some ⟨d, 0, none⟩), .int .i64 i, .slice a m c] w fun e w' => e = .returned (.int .i64 4) ∧ w = w' := by
  have HA := Lib.hid (c_atNo d g n r q bs w h i hi)
  clear h hi
  go_enter Try.func42, Try.ntmps42
  go_wp2_with (go_at_call 43; refine HA.out.mono ?_; rintro e w' ⟨rfl, rfl⟩)
  go_ret
  exact ⟨rfl, rfl⟩

theorem c_WriteLong (d g n r q : Nat) (bs : List Int) (w : World) (h : DiskAt w d g n r q bs) (i : Nat) (hi : i < n) (a : Option Addr) (m c : Nat) (hm : 64 < m) :
    Calls Try.prog 42 #[.pointer (some ⟨d, 0, none⟩), .int .i64 i, .slice a m c] w fun e w' => e = .returned (.int .i64 2) ∧ w = w' := by
  have HA := Lib.hid (c_at d g n r q bs w h i hi)
  clear h hi
  go_enter Try.func42, Try.ntmps42
  go_wp2_with (go_at_call 43; refine HA.out.mono ?_; rintro e w' ⟨rfl, rfl⟩)
  go_ret
  exact ⟨rfl, rfl⟩

end Go.Proofs.Ytpbokmmobepolaa
