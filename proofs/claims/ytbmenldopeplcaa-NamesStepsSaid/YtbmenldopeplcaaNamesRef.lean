/-
  What the document's answer of chapter 08 reckons, and the things that are done, as they come in.
-/
import Derived.Test.YtbmenldopeplcaaNamesBoth
namespace Go.Proofs.Ytbmenldopeplcaa
open Go.RowKit Go.ChangeShapes Go.WideShapes Go.ChangeAt
set_option linter.unusedVariables false
set_option maxHeartbeats 2000000
set_option maxRecDepth 100000

/-- A thing that is done, as the statement hands it in: a kind, a number. -/
structure Do8 where
  kind : Int
  num : Int

def Do8.row (d : Do8) : List Value := [.int .i64 d.kind, .int .i64 d.num]
def Do8.ok (d : Do8) : Prop := (-9223372036854775808 ≤ d.kind ∧ d.kind ≤ 9223372036854775807) ∧ (-9223372036854775808 ≤ d.num ∧ d.num ≤ 9223372036854775807)
def Do8s (w : World) (a : Option Addr) (n c : Nat) (ds : List Do8) : Prop := n = ds.length ∧ n ≤ c ∧ c ≤ maxLen ∧ ReadsBy w a 2 Do8.row ds ∧ ∀ d ∈ ds, d.ok

theorem open_do8 {H : Type} {enc : TypeId × Value → H} {w : World} {base : Nat} {spare : Nat → Bool} {held : Bool} {fuel : Nat} {cs : List Value} {x : DataW H × List MemPlace}
    (h : DataW.trod enc Try.prog w base spare held fuel 66 cs = some x) : ∃ (a : Option Addr) (n c : Nat) (ds : List Do8), cs = [.slice a n c] ∧ Do8s w a n c ds := by
  obtain ⟨a, n, c, rfl, h0, hn, hc, he⟩ := open_elems Try.underlying66 (S := 2) (by kernel_rfl) h
  have hd : ∀ i, i < n → ∃ d : Do8, (∃ ad, a = some ad ∧ ∀ j v, (Do8.row d)[j]? = some v → w.cell? (ad.add (i * 2 + j)) = some v) ∧ d.ok := fun i hi => by
    obtain ⟨ad, vs, m, y, had, hl, hcell, ht⟩ := he i hi
    obtain ⟨m2, hf⟩ := open_fields Try.underlying68 (by kernel_rfl) hl ht
    obtain ⟨v0, y0, e0, t0⟩ := hf 0 _ rfl
    obtain ⟨v1, y1, e1, t1⟩ := hf 1 _ rfl
    obtain ⟨k, rfl, wk⟩ := cell_int Try.underlying3 t0
    obtain ⟨q, rfl, wq⟩ := cell_int Try.underlying3 t1
    refine ⟨⟨k, q⟩, ⟨ad, had, fun j v hv => hcell j v ?_⟩, bounds_i64 wk, bounds_i64 wq⟩
    match j, hv with
    | 0, hv => exact e0.trans hv
    | 1, hv => exact e1.trans hv
    | j + 2, hv => simp [Do8.row] at hv
  obtain ⟨ds, hl, hp⟩ := list_of hd
  refine ⟨a, n, c, ds, rfl, hl.symm, hn, hc, ReadsBy.mk (fun d => by simp [Do8.row]) (fun i d hid => (hp i d hid).1), fun d hdm => ?_⟩
  obtain ⟨i, hi, rfl⟩ := List.getElem_of_mem hdm
  exact (hp i _ (List.getElem?_eq_getElem hi)).2

theorem c_RFind (a : Option Addr) (n c : Nat) (l : List Int) (x : Int) (w : World) (e0 : n = l.length) (h : Reads w a c (l.map (Value.int .i64))) (hm : n ≤ 1000000000) :
    Calls Try.prog 40 #[.slice a n c, .int .i64 x] w fun e w' => e = .returned (.int .i64 (find8 l x)) ∧ w = w' := by
  subst e0
  have HR := Lib.hid h
  clear h
  go_enter Try.func40, Try.ntmps40
  go_wp2
  go_loop [5] (fun i => ∃ k : Nat, k ≤ l.length ∧ i = .int .i64 k ∧ Hid (1 ≤ x → ∀ j, j < k → l.getD j 0 ≠ x)) (fun i => l.length - (intOf i).toNat)
  case atStart => exact ⟨0, Nat.zero_le _, rfl, fun _ j hj => by omega⟩
  case round =>
    obtain ⟨k, hk, rfl, hz⟩ := hrel
    by_cases hlt : k < l.length
    · obtain ⟨b, off, rfl, hblt, hc⟩ := HR.out.at (by simp; omega)
      have hcell := hc k _ (getD_map8 hlt)
      have HN := Lib.hid (fun h : 1 ≤ x → l.getD k 0 ≠ x => (by
        intro h1 j hj
        by_cases hjk : j = k
        · subst hjk; exact h h1
        · exact hz.out h1 j (by omega) : 1 ≤ x → ∀ j, j < k + 1 → l.getD j 0 ≠ x))
      have HY := Lib.hid (fun (h1 : 1 ≤ x) (h : l.getD k 0 = x) => show find8 l x = k + 1 from by
        unfold find8
        rw [if_neg (by omega), idx_some hlt h (hz.out h1)])
      clear hc hz
      generalize l.getD k 0 = y at *
      by_cases hx1 : 0 < x
      · by_cases hx : y = x
        · subst hx
          have HV := Lib.hid (HY.out (by omega) rfl)
          clear HY HN
          go_wp2
          go_ret
          exact ⟨by rw [HV.out]; rfl, rfl⟩
        · have HN2 := Lib.hid (HN.out (fun _ => hx))
          clear HY HN
          go_wp2
          go_round
          case rel => exact ⟨k + 1, by omega, by go_num, HN2.out⟩
          case measure => simp [intOf]; omega
      · have HN2 := Lib.hid (HN.out (fun h => by omega))
        clear HY HN
        by_cases hx : y = x
        · subst hx
          go_wp2
          go_round
          case rel => exact ⟨k + 1, by omega, by go_num, HN2.out⟩
          case measure => simp [intOf]; omega
        · go_wp2
          go_round
          case rel => exact ⟨k + 1, by omega, by go_num, HN2.out⟩
          case measure => simp [intOf]; omega
    · have hkl : k = l.length := by omega
      subst hkl
      have HV := Lib.hid (show find8 l x = 0 from by
        by_cases h1 : x < 1
        · unfold find8; rw [if_pos h1]
        · unfold find8; rw [if_neg h1, idx_none (hz.out (by omega))])
      clear hz
      go_wp2
      go_ret
      exact ⟨by rw [HV.out]; rfl, rfl⟩

theorem c_RSlots (a : Option Addr) (n c : Nat) (l : List Int) (w : World) (e0 : n = l.length) (h : Reads w a c (l.map (Value.int .i64))) (hm : n ≤ 1000000) :
    Calls Try.prog 39 #[.slice a n c] w (MadeInts w (slotsL l)) := by
  subst e0
  have HR := Lib.hid h
  clear h
  go_enter Try.func39, Try.ntmps39
  go_wp2
  go_loopw [3, 4] (fun v i wr => ∃ k : Nat, k ≤ l.length ∧ i = .int .i64 k ∧ Hid (wr.ownsRow w.heap.size 3 1 v (slotsTo l k).length ((slotsTo l k).map (Value.int .i64))) ∧ Hid (Below w.heap.size w wr)) (fun _ i _ => l.length - (intOf i).toNat)
  case atStart => exact ⟨0, Nat.zero_le _, rfl, World.ownsRow_nil _ _ _ _, Below.refl _ _⟩
  case round =>
    obtain ⟨k, hk, rfl, HO, HB⟩ := hrel
    by_cases hlt : k < l.length
    · obtain ⟨b, off, rfl, hblt, hc⟩ := (HR.out.below HB.out).at (by simp; omega)
      have kc := hc k _ (getD_map8 hlt)
      have hs := Lib.hid (slotsTo_succ l k)
      have hsl := slotsTo_len l k
      clear hc
      by_cases hz : l.getD k 0 = 0
      · rw [hz] at kc
        rw [if_pos hz, List.append_nil] at hs
        clear hz
        go_wp2
        go_roundw
        case rel => exact ⟨k + 1, by omega, by go_num, by rw [hs.out]; exact HO.out, HB.out⟩
        case measure => simp [intOf]; omega
      · rw [if_neg hz] at hs
        generalize l.getD k 0 = x at *
        have hsz := HB.out.size
        have hx : (x == 0) = false := by simpa using hz
        have hx2 : (x != 0) = true := by simpa using hz
        go_wp2_with (at_builtin; refine wpList_app rfl _ _ 45 rfl w.heap.size 3 (.int .i64 0) 1 8 Try.underlying45 inf_int rfl (by decide) _ _ _ rfl (HO.out.alloc _) _ 1 1 [.int .i64 ((k : Int) + 1)] rfl rfl (Reads.madeAt rfl) (by simp [Value.oneCell']) (by unfold maxLen; omega) (by omega) (by simp; omega) ?_)
        intro v' w2 own2 gr2
        have hlt' := HO.out.lt
        have HB2 := Lib.hid ((HB.out.alloc hsz _).grown gr2 (by simp; omega) (fun k hk => (hlt' k hk).1))
        have HO2 : Hid (w2.ownsRow w.heap.size 3 1 v' (slotsTo l (k + 1)).length ((slotsTo l (k + 1)).map (Value.int .i64))) := by
          rw [hs.out, List.map_append, List.length_append]; exact own2
        clear own2 gr2 hlt'
        go_wp2
        go_roundw
        case rel => exact ⟨k + 1, by omega, by go_num, HO2.out, HB2.out⟩
        case measure => simp [intOf]; omega
    · obtain rfl : k = l.length := by omega
      go_wp2
      go_ret
      exact ⟨_, rfl, HO.out, HB.out⟩

/-- An owned row as a whole block. -/
theorem owns_row {w : World} {base : Nat} {e : TypeId} {v : Value} {n : Nat} {xs : List Value} (h : w.ownsRow base e 1 v n xs) (hn : 0 < n) :
    ∃ g c cur, v = .slice (some ⟨g, 0, none⟩) n c ∧ base ≤ g ∧ Row w g e cur ∧ cur.take n = xs ∧ n ≤ c ∧ cur.length = c := by
  rcases h.2 with ⟨_, rfl⟩ | ⟨g, cap, cur, rfl, hb, hg, hnc, hm, hs, ht⟩
  · omega
  · refine ⟨g, cap, cur.toList, rfl, hb, by unfold Row; simpa using hg, by simpa using ht, hnc, by simpa using hs⟩

theorem put_get {cur : List Value} {l : List Int} {n k k' i : Nat} {x : Int} {u : Value} (ht : cur.take n = l.map (Value.int .i64)) (hk : k' = k) (hu : ((l.set k' x).map (Value.int .i64))[i]? = some u) : (cur.set k (.int .i64 x))[0 + i]? = some u := by
  subst hk
  rw [Nat.zero_add]
  rw [List.map_set, ← ht, ← List.take_set, List.getElem?_take] at hu
  split at hu
  · exact hu
  · cases hu

def RefPost (a : Option Addr) (w : World) (l' : List Int) (n : Nat) (res : Value → Value) (e : Ending) (w' : World) : Prop :=
  ∃ a' c', e = .returned (res (.slice a' n c')) ∧ Reads w' a' c' (l'.map (Value.int .i64)) ∧ Below w.heap.size w w' ∧ (a' = a ∨ ∀ x, a' = some x → w.heap.size ≤ x.block)

theorem c_RFree (a : Option Addr) (n c : Nat) (l : List Int) (s : Int) (w : World) (e0 : n = l.length) (h : Reads w a c (l.map (Value.int .i64))) (hm : n ≤ 1000000) (h0 : -9223372036854775808 ≤ s) (h1 : s ≤ 9223372036854775807) :
    Calls Try.prog 38 #[.slice a n c, .int .i64 s] w (RefPost a w (if has8 l s then l.set (s - 1).toNat 0 else l) n (fun v => .tuple #[v, .int .i64 (if has8 l s then 0 else 4)])) := by
  subst e0
  have HR := Lib.hid h
  clear h
  have hno : has8 l s = false → ∀ e w', e = Ending.returned (.tuple #[.slice a l.length c, .int .i64 4]) ∧ w = w' → RefPost a w (if has8 l s then l.set (s - 1).toNat 0 else l) l.length (fun v => .tuple #[v, .int .i64 (if has8 l s then 0 else 4)]) e w' := by
    rintro hh e w' ⟨rfl, rfl⟩
    rw [hh]
    exact ⟨a, c, rfl, HR.out, Below.refl _ _, .inl rfl⟩
  by_cases hs : s < 1
  · refine Calls.mono ?_ (hno (by unfold has8; simp; omega))
    clear hno
    go_enter Try.func38, Try.ntmps38
    go_wp2
    go_ret2
    exact ⟨rfl, rfl⟩
  · obtain ⟨m, rfl⟩ := Int.eq_ofNat_of_zero_le (show 0 ≤ s from by omega)
    by_cases hn : l.length < m
    · refine Calls.mono ?_ (hno (by unfold has8; simp; omega))
      clear hno
      go_enter Try.func38, Try.ntmps38
      go_wp2
      go_ret2
      exact ⟨rfl, rfl⟩
    · obtain ⟨k, rfl⟩ : ∃ k, m = k + 1 := ⟨m - 1, by omega⟩
      have hk : k < l.length := by omega
      obtain ⟨b, off, rfl, hblt, hc⟩ := HR.out.at (by simp; omega)
      have kc := hc k _ (getD_map8 hk)
      have hv : (((k + 1 : Nat) : Int) - 1).toNat = k := by omega
      have hv2 : ((((k + 1 : Nat) : Int)) - 1) = (k : Int) := by omega
      have hle : ¬ ((l.length : Int) < ((k + 1 : Nat) : Int)) := by omega
      clear hc
      by_cases hz : l.getD k 0 = 0
      · refine Calls.mono ?_ (hno (by unfold has8; rw [hv, hz]; simp))
        rw [hz] at kc
        clear hno hz
        obtain ⟨m, hme⟩ : ∃ m, m = k + 1 := ⟨_, rfl⟩
        rw [← hme] at hs hn hv2 hle h0 h1 ⊢
        clear hme hv
        go_enter Try.func38, Try.ntmps38
        go_wp2
        go_ret2
        exact ⟨rfl, rfl⟩
      · have hh := has8_of hk hz
        rw [hh]
        clear hno hh
        have HZ := Lib.hid hz
        have hz2 : (l.getD k 0 == 0) = false := by simpa using hz
        generalize l.getD k 0 = x at *
        obtain ⟨m, hme⟩ : ∃ m, m = k + 1 := ⟨_, rfl⟩
        rw [← hme] at hs hn hv2 hle h0 h1 hv ⊢
        clear hme
        go_enter Try.func38, Try.ntmps38
        go_wp2_with (at_builtin; refine wpList_app rfl _ _ 45 rfl w.heap.size 3 (.int .i64 0) 1 8 Try.underlying45 inf_int rfl (by decide) _ 0 [] rfl (World.ownsRow_nil _ _ _ _) (some ⟨b, off, none⟩) l.length c _ rfl (by simp) HR.out (ints_one _ _) (by unfold maxLen; omega) (by omega) (Nat.le_refl _) ?_)
        intro v1 w1 own1 gr1
        have bel1 : Below w.heap.size w w1 := (Below.refl _ _).grown gr1 (Nat.le_refl _) (fun k hk => by cases hk)
        obtain ⟨g, c1, cur, rfl, hg, row, htk, hnc, hcl⟩ := owns_row own1 (by omega)
        have HB1 := Lib.hid bel1
        have HRow := Lib.hid row
        have HTK := Lib.hid htk
        have kc1 : w1.cell? ⟨g, k, none⟩ = some (cur[k]'(by omega)) := row.cell (List.getElem?_eq_getElem _)
        have kf1 := row.free k
        generalize (cur[k]'(by omega)) = y at *
        clear own1 gr1 bel1 row htk
        go_wp2
        go_ret2
        refine ⟨_, c1, rfl, ?_, HB1.out.setCell hg _, .inr (fun x hx => by cases hx; exact hg)⟩
        refine (HRow.out.set k _).reads (fun i u hu => ?_)
        exact put_get HTK.out rfl hu

def RBindRes (l : List Int) (id : Int) (v : Value) : Value := .tuple #[v, .int .i64 (bindS l id), .int .i64 (bindE l id)]

theorem c_RBind (a : Option Addr) (n c : Nat) (l : List Int) (id : Int) (w : World) (e0 : n = l.length) (h : Reads w a c (l.map (Value.int .i64))) (hm : n ≤ 1000000) (h1 : id ≤ 9223372036854775807) :
    Calls Try.prog 37 #[.slice a n c, .int .i64 id] w (RefPost a w (bindL l id) n (RBindRes l id)) := by
  have HF := Lib.hid (fun (w' : World) (h' : Reads w' a c (l.map (Value.int .i64))) => c_RFind a n c l id w' e0 h' (by omega))
  subst e0
  have HR := Lib.hid h
  clear h
  by_cases h0 : id < 1
  · obtain ⟨e1, e2, e3⟩ := bind_arg (l := l) h0
    unfold RefPost RBindRes
    rw [e1, e2, e3]
    clear e1 e2 e3
    go_enter Try.func37, Try.ntmps37
    go_wp2
    go_ret3
    exact ⟨a, c, rfl, HR.out, Below.refl _ _, .inl rfl⟩
  · have hid : 1 ≤ id := by omega
    have HF0 := Lib.hid (HF.out w HR.out)
    by_cases hf : find8 l id = 0
    · cases hi : Go.Proofs.Ytbmenldopeplcaa.idx l 0 with
      | none =>
        obtain ⟨e1, e2, e3⟩ := bind_full hid hf hi
        unfold RefPost RBindRes
        rw [e1, e2, e3]
        rw [hf] at HF0
        have HI := Lib.hid (fun j (hj : j < l.length) (h : l.getD j 0 = 0) => idx_not hi (by rw [← h]; exact getD_mem hj))
        clear e1 e2 e3 HF hf hi h0
        go_enter Try.func37, Try.ntmps37
        go_wp2_with (first
          | (go_at_call 40; refine HF0.out.mono ?_; rintro e w' ⟨rfl, rfl⟩)
          | (at_builtin; refine wpList_app rfl _ _ 45 rfl w.heap.size 3 (.int .i64 0) 1 8 Try.underlying45 inf_int rfl (by decide) _ 0 [] rfl (World.ownsRow_nil _ _ _ _) a l.length c _ rfl (by simp) HR.out (ints_one _ _) (by unfold maxLen; omega) (by omega) (Nat.le_refl _) ?_))
        intro v1 w1 own1 gr1
        have HB1 := Lib.hid (show Below w.heap.size w w1 from (Below.refl _ _).grown gr1 (Nat.le_refl _) (fun k hk => by cases hk))
        have HR1 := Lib.hid (HR.out.below HB1.out)
        clear own1 gr1
        go_wp2_with fail
        go_loop [8] (fun i => ∃ k : Nat, k ≤ l.length ∧ i = .int .i64 k) (fun i => l.length - (intOf i).toNat)
        case atStart => exact ⟨0, Nat.zero_le _, rfl⟩
        case round =>
          obtain ⟨k, hk, rfl⟩ := hrel
          by_cases hlt : k < l.length
          · obtain ⟨b, off, rfl, hblt, hc⟩ := HR1.out.at (by simp; omega)
            have kc := hc k _ (getD_map8 hlt)
            have hz := HI.out k hlt
            generalize l.getD k 0 = x at *
            have hx : (x == 0) = false := by simpa using hz
            clear hc
            go_wp2
            go_round
            case rel => exact ⟨k + 1, by omega, by go_num⟩
            case measure => simp [intOf]; omega
          · obtain rfl : k = l.length := by omega
            go_wp2
            go_ret3
            exact ⟨a, c, rfl, HR1.out, HB1.out, .inl rfl⟩
      | some q =>
        obtain ⟨e1, e2, e3⟩ := bind_new hid hf hi
        unfold RefPost RBindRes
        rw [e1, e2, e3]
        rw [hf] at HF0
        obtain ⟨hq, hq0, hqb⟩ := idx_is hi
        have HQ0 := Lib.hid hq0
        have HQB := Lib.hid hqb
        clear e1 e2 e3 HF hf hi h0 hq0 hqb
        go_enter Try.func37, Try.ntmps37
        go_wp2_with (first
          | (go_at_call 40; refine HF0.out.mono ?_; rintro e w' ⟨rfl, rfl⟩)
          | (at_builtin; refine wpList_app rfl _ _ 45 rfl w.heap.size 3 (.int .i64 0) 1 8 Try.underlying45 inf_int rfl (by decide) _ 0 [] rfl (World.ownsRow_nil _ _ _ _) a l.length c _ rfl (by simp) HR.out (ints_one _ _) (by unfold maxLen; omega) (by omega) (Nat.le_refl _) ?_))
        intro v1 w1 own1 gr1
        have HB1 := Lib.hid (show Below w.heap.size w w1 from (Below.refl _ _).grown gr1 (Nat.le_refl _) (fun k hk => by cases hk))
        have HR1 := Lib.hid (HR.out.below HB1.out)
        obtain ⟨g, c1, cur, rfl, hg, row, htk, hnc, hcl⟩ := owns_row own1 (by omega)
        have HRow := Lib.hid row
        have HTK := Lib.hid htk
        have hnc2 : l.length ≤ c1 := by omega
        clear own1 gr1 row htk hnc
        go_wp2_with fail
        go_loop [8] (fun i => ∃ k : Nat, k ≤ q ∧ i = .int .i64 k) (fun i => l.length - (intOf i).toNat)
        case atStart => exact ⟨0, Nat.zero_le _, rfl⟩
        case round =>
          obtain ⟨k, hk, rfl⟩ := hrel
          have hlt : k < l.length := by omega
          obtain ⟨b, off, rfl, hblt, hc⟩ := HR1.out.at (by simp; omega)
          have kc := hc k _ (getD_map8 hlt)
          clear hc
          by_cases hkq : k = q
          · subst hkq
            rw [HQ0.out] at kc
            have kc1 : w1.cell? ⟨g, k, none⟩ = some (cur[k]'(by omega)) := HRow.out.cell (List.getElem?_eq_getElem _)
            have kf1 := HRow.out.free k
            generalize (cur[k]'(by omega)) = y at *
            go_wp2
            go_ret3
            refine ⟨_, c1, rfl, ?_, HB1.out.setCell hg _, .inr (fun x hx => by cases hx; exact hg)⟩
            refine (HRow.out.set k _).reads (fun i u hu => ?_)
            exact put_get HTK.out rfl (by rw [List.map_set]; exact hu)
          · have hz := HQB.out k (by omega)
            generalize l.getD k 0 = x at *
            have hx : (x == 0) = false := by simpa using hz
            go_wp2
            go_round
            case rel => exact ⟨k + 1, by omega, by go_num⟩
            case measure => simp [intOf]; omega
    · obtain ⟨e1, e2, e3⟩ := bind_old hid hf
      unfold RefPost RBindRes
      rw [e1, e2, e3]
      have hf0 : 0 < find8 l id := by omega
      obtain ⟨s, hs⟩ : ∃ s, s = find8 l id := ⟨_, rfl⟩
      rw [← hs] at HF0 hf0 ⊢
      clear e1 e2 e3 HF hf hs h0
      go_enter Try.func37, Try.ntmps37
      go_wp2_with (go_at_call 40; refine HF0.out.mono ?_; rintro e w' ⟨rfl, rfl⟩)
      go_ret3
      exact ⟨a, c, rfl, HR.out, Below.refl _ _, .inl rfl⟩

end Go.Proofs.Ytbmenldopeplcaa
