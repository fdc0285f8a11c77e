/-
  Contracts of package large: Add.
-/
import Derived.Test.YtdafncaehjipbaaLargeY
import Derived.Laws.AppendOwnNone
import Derived.Lib.AppendZeros
namespace Go.Proofs.Ytdafncaehjipbaa
open Go.RowKit
set_option linter.unusedVariables false
set_option maxHeartbeats 2000000
set_option maxRecDepth 20000

def MadeBytes (w : World) (l : List Int) (e : Ending) (w' : World) : Prop :=
  ∃ v, e = .returned v ∧ w'.ownsRow w.heap.size 5 1 v l.length (l.map (Value.int .u8)) ∧ Below w.heap.size w w'

theorem c_Clone13 (x : Addr) (n c : Nat) (l : List Int) (w : World) (e0 : n = l.length) (h : Reads w (some x) c (l.map (Value.int .u8))) (hm : n ≤ 1000000000) :
    Calls Try.prog 46 #[.slice (some x) n c] w (MadeBytes w l) := by
  subst e0
  have hs := h.alloc (.cells #[] 5)
  have HS := Lib.hid hs
  clear hs
  have hn := fun w => Lib.run_eql_slice_nil (P := Try.prog) w 22 5 (some x) l.length c 0 0 Try.underlying22
  go_enter Try.func46, Try.ntmps46
  go_wp2_with (at_builtin; refine wpList_app rfl _ _ 22 rfl w.heap.size 5 (.int .u8 0) 1 1 Try.underlying22 inf_u8L rfl (by decide) _ 0 [] rfl (World.ownsRow_made w #[] 0 (Nat.le_refl _) (Nat.zero_le _) rfl) (some x) l.length c _ rfl (by simp) HS.out (ints_one _ _) (by unfold maxLen; omega) (by omega) (by simp) ?_)
  intro v1 w1 own1 gr1
  have bel1 : Below w.heap.size w w1 := ((Below.refl _ _).alloc (Nat.le_refl _) _).grown gr1 (by simp) (fun k hk => by simp [Value.ownBlock] at hk; omega)
  clear gr1
  go_wp2
  go_ret
  exact ⟨v1, rfl, own1, bel1⟩

theorem c_CloneA13 (a : Option Addr) (n c : Nat) (l : List Int) (w : World) (e0 : n = l.length) (h : Reads w a c (l.map (Value.int .u8))) (hm : n ≤ 1000000000) :
    Calls Try.prog 46 #[.slice a n c] w (MadeBytes w l) := by
  cases a with
  | some x => exact c_Clone13 x n c l w e0 h hm
  | none =>
    rcases h with ⟨_, rfl, hx⟩ | ⟨x, hx, _⟩
    · have hl : l = [] := by simpa using hx
      subst hl
      subst e0
      have hn := fun w => Lib.run_eql_slice_nil (P := Try.prog) w 22 5 none 0 0 0 0 Try.underlying22
      go_enter Try.func46, Try.ntmps46
      go_wp2
      go_ret
      exact ⟨.slice none 0 0, rfl, World.ownsRow_nil _ _ _ _, Below.refl _ _⟩
    · cases hx

/-- A row of bytes, as it is held. -/
structure SlD where
  a : Option Addr
  n : Nat
  c : Nat
  l : List Int
def SlD.val (d : SlD) : Value := .slice d.a d.n d.c
def SlD.ok (w : World) (d : SlD) : Prop := SlAt w d.a d.n d.c d.l ∧ d.n ≤ 1000000000000
theorem SlD.ok.below {w w' : World} {d : SlD} (h : d.ok w) (b : Below w.heap.size w w') : d.ok w' := ⟨h.1.below b, h.2⟩
def nil13 : SlD := ⟨none, 0, 0, []⟩

/-- Is any of them none? -/
def badR (ds : List SlD) : Bool := ds.any (fun d => !rightB d.l)
theorem badR_yes {ds : List SlD} {k : Nat} (hk : k < ds.length) (h : rightB ds[k].l = false) : badR ds = true := by
  unfold badR
  rw [List.any_eq_true]
  exact ⟨ds[k], List.getElem_mem hk, by rw [h]; rfl⟩
theorem badR_no {ds : List SlD} (h : ∀ j (hj : j < ds.length), rightB ds[j].l = true) : badR ds = false := by
  unfold badR
  rw [List.any_eq_false]
  intro x hx
  obtain ⟨j, hj, rfl⟩ := List.getElem_of_mem hx
  have := h j hj
  simpa using this
theorem badR_iff {ds : List SlD} (h : badR ds = false) : ∀ d ∈ ds, rightB d.l = true := by
  unfold badR at h
  rw [List.any_eq_false] at h
  simpa using h

theorem c_AddNo {a : Option Addr} {n c : Nat} {l : List Int} {w : World} (h : SlAt w a n c l) (hm : n ≤ 1000000000000) :
    Calls Try.prog 45 #[.slice a n c] w fun e w' => e = .returned (.bool (!rightB l)) ∧ w = w' := by
  have HR := Lib.hid (s_Right h hm)
  clear h
  go_enter Try.func45, Try.ntmps45
  go_wp2_with fail
  refine HR.out.mono ?_
  rintro e w' ⟨rfl, rfl⟩
  go_wp2
  go_ret
  exact ⟨rfl, rfl⟩

theorem vals_at {ds : List SlD} {k : Nat} (h : k < ds.length) : (ds.map SlD.val)[k]? = some (.slice ds[k].a ds[k].n ds[k].c) := by
  simp [h, SlD.val]

theorem c_Index13 (a : Option Addr) (n c : Nat) (ds : List SlD) (w : World) (e0 : n = ds.length) (h : Reads w a c (ds.map SlD.val)) (hd : ∀ d ∈ ds, d.ok w) (hm : n ≤ 1000000000) :
    Calls Try.prog 54 #[.slice a n c, .func (.func 45) #[] #[]] w fun e w' => ∃ v : Int, e = .returned (.int .i64 v) ∧ decide (0 ≤ v) = badR ds ∧ w = w' := by
  subst e0
  have HR := Lib.hid h
  have HD := Lib.hid hd
  clear h hd
  go_enter Try.func54, Try.ntmps54
  go_wp2
  go_loop [8] (fun i => ∃ k : Nat, k ≤ ds.length ∧ i = .int .i64 k ∧ Hid (∀ j (hj : j < ds.length), j < k → rightB ds[j].l = true)) (fun i => ds.length - (intOf i).toNat)
  case atStart => exact ⟨0, Nat.zero_le _, rfl, fun j _ hj => by omega⟩
  case round =>
    obtain ⟨k, hk, rfl, hz⟩ := hrel
    by_cases hlt : k < ds.length
    · obtain ⟨b, off, rfl, hblt, hc⟩ := HR.out.at (by simp; omega)
      have hcell := hc k _ (vals_at hlt)
      have hok := HD.out _ (List.getElem_mem hlt)
      have HC := Lib.hid (c_AddNo hok.1 hok.2)
      have HY := Lib.hid (fun h : rightB ds[k].l = false => badR_yes hlt h)
      have HN := Lib.hid (fun h : rightB ds[k].l = true => (by
        intro j hj hjk
        by_cases hjk2 : j = k
        · subst hjk2; exact h
        · exact hz.out j hj (by omega) : ∀ j (hj : j < ds.length), j < k + 1 → rightB ds[j].l = true))
      generalize ds[k] = x at *
      clear hc hz hok
      cases hx : rightB x.l
      · rw [hx] at HC
        have HV := Lib.hid (HY.out hx)
        clear HY HN hx
        go_wp2_with (go_at_call 45; refine HC.out.mono ?_; rintro e w' ⟨rfl, rfl⟩)
        go_ret
        exact ⟨k, rfl, by rw [HV.out]; simp, rfl⟩
      · rw [hx] at HC
        have HV := Lib.hid (HN.out hx)
        clear HY HN hx
        go_wp2_with (go_at_call 45; refine HC.out.mono ?_; rintro e w' ⟨rfl, rfl⟩)
        go_round
        case rel => exact ⟨k + 1, by omega, by go_num, HV.out⟩
        case measure => simp [intOf]; omega
    · have hkl : k = ds.length := by omega
      subst hkl
      have HV := Lib.hid (badR_no (fun j hj => hz.out j hj hj))
      clear hz
      go_wp2
      go_ret
      exact ⟨-1, rfl, by rw [HV.out]; rfl, rfl⟩

theorem c_Contains13 (a : Option Addr) (n c : Nat) (ds : List SlD) (w : World) (e0 : n = ds.length) (h : Reads w a c (ds.map SlD.val)) (hd : ∀ d ∈ ds, d.ok w) (hm : n ≤ 1000000000) :
    Calls Try.prog 44 #[.slice a n c, .func (.func 45) #[] #[]] w fun e w' => e = .returned (.bool (badR ds)) ∧ w = w' := by
  have HI := Lib.hid (c_Index13 a n c ds w e0 h hd hm)
  clear h hm e0 hd
  go_enter Try.func44, Try.ntmps44
  go_wp2_with (go_at_call 54; refine HI.out.mono ?_; rintro e w' ⟨v, rfl, hv, rfl⟩; have HV := Lib.hid hv; clear hv)
  go_ret
  refine ⟨?_, rfl⟩
  rw [← HV.out]
  rfl

/-- The sum of all. -/
def sumR (ds : List SlD) : Nat := (ds.map (fun d => valI d.l)).foldr (· + ·) 0
def addE (l : List Int) (ds : List SlD) : Int := if rightB l = false ∨ badR ds = true then 2 else fullE (valI l + sumR ds)
theorem sumR_cons (d : SlD) (ds : List SlD) : sumR (d :: ds) = valI d.l + sumR ds := rfl
theorem sumR_snoc : ∀ (ds : List SlD) (d : SlD), sumR (ds ++ [d]) = sumR ds + valI d.l
  | [], d => by simp [sumR]
  | e :: ds, d => by rw [List.cons_append, sumR_cons, sumR_cons, sumR_snoc ds d]; omega
theorem sumR_take {ds : List SlD} {k : Nat} (h : k < ds.length) : sumR (ds.take (k + 1)) = sumR (ds.take k) + valI ds[k].l := by
  rw [List.take_add_one, List.getElem?_eq_getElem h]
  exact sumR_snoc _ _
/-- A sum is not long. -/
theorem sum_len {S v n k : Nat} (h : (digs S).length ≤ n + k) (hv : v < 256 ^ n) : (digs (S + v)).length ≤ n + (k + 1) := by
  have h1 := valI_lt (byt_digs S)
  rw [valI_digs] at h1
  have h2 : 256 ^ (digs S).length ≤ 256 ^ (n + k) := Nat.pow_le_pow_right (by omega) h
  have h3 : 256 ^ n ≤ 256 ^ (n + k) := Nat.pow_le_pow_right (by omega) (by omega)
  refine digs_len ?_
  rw [show n + (k + 1) = (n + k) + 1 from rfl, Nat.pow_succ]
  omega

theorem c_Add {a0 a1 : Option Addr} {n0 n1 c0 c1 : Nat} {l : List Int} {ds : List SlD} {w : World} (h0 : SlAt w a0 n0 c0 l) (hm0 : n0 ≤ 1000000000000) (e1 : n1 = ds.length) (h1 : Reads w a1 c1 (ds.map SlD.val)) (hd : ∀ d ∈ ds, d.ok w) (hm1 : n1 ≤ 1000) :
    Calls Try.prog 24 #[.slice a0 n0 c0, .slice a1 n1 c1] w (ResPost w (addE l ds) (valI l + sumR ds)) := by
  have HR0 := Lib.hid (s_Right h0 hm0)
  have HC1 := Lib.hid (c_Contains13 a1 n1 c1 ds w e1 h1 hd (by omega))
  have HH := Lib.hid h0
  have HR := Lib.hid h1
  have HD := Lib.hid hd
  have HE1 := Lib.hid e1
  clear h0 h1 hd e1
  cases hr0 : rightB l with
  | false =>
    have hE : addE l ds = 2 := by unfold addE; rw [if_pos (.inl hr0)]
    rw [hE]
    rw [hr0] at HR0
    clear hr0 hE
    go_enter Try.func24, Try.ntmps24
    go_wp2_with fail
    refine HR0.out.mono ?_
    rintro e w' ⟨rfl, rfl⟩
    go_wp2
    go_ret2
    exact ⟨none, 0, 0, rfl, by rw [if_neg (by decide)]; exact numAt_nil w, Below.refl _ _⟩
  | true =>
    rw [hr0] at HR0
    cases hr1 : badR ds with
    | true =>
      have hE : addE l ds = 2 := by unfold addE; rw [if_pos (.inr hr1)]
      rw [hE]
      rw [hr1] at HC1
      clear hr0 hr1 hE
      go_enter Try.func24, Try.ntmps24
      go_wp2_with fail
      refine HR0.out.mono ?_
      rintro e w' ⟨rfl, rfl⟩
      go_wp2_with fail
      refine HC1.out.mono ?_
      rintro e w' ⟨rfl, rfl⟩
      go_wp2
      go_ret2
      exact ⟨none, 0, 0, rfl, by rw [if_neg (by decide)]; exact numAt_nil w, Below.refl _ _⟩
    | false =>
      rw [hr1] at HC1
      have hE : addE l ds = fullE (valI l + sumR ds) := by unfold addE; rw [if_neg (by rw [hr0, hr1]; simp)]
      rw [hE]
      have HD0 := Lib.hid (right_digs HH.out.byt hr0)
      have HBR := Lib.hid (badR_iff hr1)
      have hn4 : n0 ≤ 400 := by have := HD0.out.2; have := HH.out.len; omega
      clear hr0 hr1 hE
      go_enter Try.func24, Try.ntmps24
      go_wp2_with fail
      refine HR0.out.mono ?_
      rintro e w' ⟨rfl, rfl⟩
      go_wp2_with fail
      refine HC1.out.mono ?_
      rintro e w' ⟨rfl, rfl⟩
      go_wp2_with fail
      refine (c_CloneA13 a0 n0 c0 l w HH.out.len HH.out.rd (by omega)).mono ?_
      rintro e w2 ⟨v2, rfl, own2, bel2⟩
      obtain ⟨a2, c2, rfl, hr2, hc2, -⟩ := owns_reads own2
      have hnum : NumAt w2 a2 n0 c2 (valI l) := ⟨by rw [HD0.out.1]; exact HH.out.len, by rw [HH.out.len]; exact hc2, owns_cap own2, by rw [HD0.out.1]; exact hr2⟩
      rw [← HH.out.len]
      have HN2 := Lib.hid hnum
      have HB2 := Lib.hid bel2
      clear own2 hr2 hc2 hnum bel2 HR0 HC1
      go_wp2
      go_loopw [6, 20] (fun v i wr => ∃ (k : Nat) (a : Option Addr) (ka ca : Nat), k ≤ n1 ∧ i = .int .i64 k ∧ v = .slice a ka ca ∧ ka ≤ 400 + k ∧ Hid (NumAt wr a ka ca (valI l + sumR (ds.take k))) ∧ Hid (Below w.heap.size w wr)) (fun _ i _ => n1 - (intOf i).toNat)
      case atStart => exact ⟨0, a2, n0, c2, Nat.zero_le _, rfl, rfl, by omega, HN2.out, HB2.out⟩
      case round =>
        obtain ⟨k, a, ka, ca, hk, rfl, rfl, hka, hnum, hbel⟩ := hrel
        by_cases hkn : k < n1
        · have hki : (k : Int) < (n1 : Int) := by omega
          have hkd : k < ds.length := by have := HE1.out; omega
          obtain ⟨b, off, rfl, hblt, hc⟩ := (HR.out.below hbel.out).at (by simp; omega)
          have hcell := hc k _ (vals_at hkd)
          have hok := (HD.out _ (List.getElem_mem hkd)).below hbel.out
          have hrt := HBR.out _ (List.getElem_mem hkd)
          have HT := Lib.hid (sumR_take hkd)
          generalize ds[k] = x at *
          obtain ⟨xa, xn, xc, xl⟩ := x
          dsimp only at hcell hok hrt HT
          have hxd := right_digs hok.1.byt hrt
          have hx4 : xn ≤ 400 := by
            have h1 : xn = xl.length := hok.1.len
            have h2 : xl.length ≤ 400 := hxd.2
            omega
          have hxv : ∀ F, F = 400 → valI xl < 256 ^ F := fun F hF => Nat.lt_of_lt_of_le (valI_lt hok.1.byt) (Nat.pow_le_pow_right (by omega) (by
            have h2 : xl.length ≤ 400 := hxd.2
            show xl.length ≤ F
            omega))
          have HXV := Lib.hid hxv
          have HP := Lib.hid (c_plus a xa ka xn ca xc (digs (valI l + sumR (ds.take k))) xl wr hnum.out.1 hok.1.len hnum.out.2.2.2 hok.1.rd (byt_digs _) hok.1.byt (by omega) (by omega))
          rw [valI_digs, Nat.add_assoc, ← HT.out] at HP
          clear hc hok hrt hxd hxv
          go_wp2_with fail
          refine HP.out.mono ?_
          rintro e w5 ⟨a5, k5, c5, rfl, hn5, -, b5⟩
          have hk5 : k5 ≤ 400 + (k + 1) := by
            rw [hn5.1, HT.out, ← Nat.add_assoc]
            obtain ⟨F, hF⟩ : ∃ F, F = 400 := ⟨_, rfl⟩
            have := sum_len (n := F) (k := k) (by rw [← hnum.out.1, hF]; exact hka) (HXV.out F hF)
            rw [hF] at this
            exact this
          have HN5 := Lib.hid hn5
          have HB5 := Lib.hid (bNext hbel.out b5)
          clear hn5 b5
          go_wp2
          go_roundw
          case rel => exact ⟨k + 1, a5, k5, c5, by omega, by go_num, rfl, hk5, HN5.out, HB5.out⟩
          case measure => simp [intOf]; omega
        · have hki : ((k : Int) < (n1 : Int)) = False := eq_false (by omega)
          have hkn2 : (k < n1) = False := eq_false hkn
          have HS := Lib.hid (show valI l + sumR (ds.take k) = valI l + sumR ds from by rw [List.take_of_length_le (by have := HE1.out; omega)])
          rw [HS.out] at hnum
          have HT := Lib.hid (c_told a ka ca (digs (valI l + sumR ds)) wr hnum.out.1 hnum.out.2.2.2 (byt_digs _) hnum.out.2.1 (by omega))
          rw [valI_digs] at HT
          clear hkn
          go_wp2_with fail
          refine HT.out.mono ?_
          rintro e w5 ⟨a5, k5, c5, rfl, hn5, b5⟩
          have HN5 := Lib.hid hn5
          have HB5 := Lib.hid (bNext hbel.out b5)
          clear hn5 b5
          go_wp2
          go_ret2
          exact ⟨a5, k5, c5, rfl, HN5.out, HB5.out⟩

end Go.Proofs.Ytdafncaehjipbaa
