/-
  Extents: bytes of any length; rows of extents that the call makes; rows of bytes that came in.
-/
import Derived.Test.YtpbokmmobepolaaExtU
namespace Go.Proofs.Ytpbokmmobepolaa
open Go.RowKit Go.Maps
set_option linter.unusedVariables false
set_option maxHeartbeats 2000000

theorem c_SectorsB (n : Nat) (w : World) (hn : n ≤ 1000000000000000) : Calls Try.prog 8 #[.int .i64 n] w fun e w' => e = .returned (.int .i64 (secs n)) ∧ w = w' := by
  go_enter Try.func8, Try.ntmps8
  go_wp2
  · go_ret
    exact ⟨congrArg (fun z => Ending.returned (.int .i64 z)) (by unfold secs; omega), rfl⟩
  · go_ret
    exact ⟨congrArg (fun z => Ending.returned (.int .i64 z)) (by unfold secs; omega), rfl⟩

theorem c_EPutBig {w : World} {I : SpI} {S : SpS} (h : SpAt w I S) (b : List Int) (hbig : S.N < secs b.length) (a : Option Addr) (len cap : Nat) (e0 : len = b.length) (hl : len ≤ 1000000000000000) :
    Calls Try.prog 12 #[.pointer (some ⟨I.m, 0, none⟩), .slice a len cap] w fun e w' => e = .returned (.tuple #[exA 0 0 0, .int .i64 3]) ∧ SpAt w' I S ∧ Upd [] w w' := by
  have hN := h.dk.small
  have HH := Lib.hid h
  have HE := Lib.hid e0
  have HLT := Lib.hid h.lt
  have hpos := secs_pos b.length
  have hsl := secs_le b.length
  have hbl : b.length ≤ 1000000000000000 := by omega
  clear h
  go_enter Try.func12, Try.ntmps12
  obtain ⟨X, hX⟩ : ∃ X, X = w.heap.size := ⟨_, rfl⟩
  obtain ⟨W, hW⟩ : ∃ W, W = w.alloc (.cells #[.int .i64 0, .int .i64 0, .int .i64 0] 34) := ⟨_, rfl⟩
  have bW : Below w.heap.size w W := by rw [hW]; exact (Below.refl _ _).alloc (Nat.le_refl _) _
  have rX : Row W X 34 [.int .i64 0, .int .i64 0, .int .i64 0] := by rw [hW, hX]; exact Row.made w _ _
  have hXI : ∀ k ∈ I.all, k < X := by rw [hX]; exact HLT.out
  have HS : Hid (SpAt W I S) := HH.out.below bW
  have k1 := HS.out.row.cell (i := 1) rfl
  have HX := Lib.hid hX
  have HXI := Lib.hid hXI
  have HBW := Lib.hid bW
  have HRX := Lib.hid rX
  have HW := Lib.hid hW
  have h0 : (len : Int) = (b.length : Int) := by rw [HE.out]
  have hSec := c_SectorsB b.length W (by omega)
  rw [← h0] at hSec
  have HSec := Lib.hid hSec
  obtain ⟨n, hn⟩ : ∃ n, n = secs b.length := ⟨_, rfl⟩
  rw [← hn] at hbig hpos hsl HSec
  have HNN := Lib.hid hn
  clear hW hX bW rX hXI e0 hSec hn h0
  go_wp2_with fail
  rw [← HW.out, ← HX.out]
  clear HW
  refine HSec.out.mono ?_
  rintro e w' ⟨rfl, rfl⟩
  clear HSec
  have HF := Lib.hid (c_First _ _ _ _ W HS.out.bt (n : Int) (by omega))
  go_wp2_with fail
  refine HF.out.mono ?_
  rintro e w' ⟨⟨o, ho, rfl⟩, rfl⟩
  clear HF
  have ho2 : FirstIs S.b S.N n o := by
    rcases ho with ⟨h1, -⟩ | ⟨-, h1⟩
    · omega
    · rwa [Int.toNat_natCast] at h1
  have HO := Lib.hid ho2
  clear ho ho2
  cases o with
  | none =>
    have x0 := HRX.out.free 0
    have x1 := HRX.out.free 1
    have x2 := HRX.out.free 2
    have y0 := HRX.out.cell (i := 0) rfl
    have y1 := HRX.out.cell (i := 1) rfl
    have y2 := HRX.out.cell (i := 2) rfl
    unfold firstV
    go_wp2_with fail
    obtain ⟨v3, hv3⟩ : ∃ v3, v3 = ((W.setCell ⟨X, 0, none⟩ (.int .i64 0)).setCell ⟨X, 1, none⟩ (.int .i64 0)).setCell ⟨X, 2, none⟩ (.int .i64 0) := ⟨_, rfl⟩
    have hR3 : Row v3 X 34 [.int .i64 0, .int .i64 0, .int .i64 0] := by rw [hv3]; exact ((HRX.out.set 0 _).set 1 _).set 2 _
    have u3 : Upd [X] W v3 := by rw [hv3]; exact (((Upd.refl [X] W).setCell (by simp) _).setCell (by simp) _).setCell (by simp) _
    rw [← hv3]
    have HU3 := Lib.hid u3
    clear hv3 u3 y0 y1 y2 x0 x1 x2
    have z0 := hR3.cell (i := 0) rfl
    have z1 := hR3.cell (i := 1) rfl
    have z2 := hR3.cell (i := 2) rfl
    clear hR3
    (try simp only [Exit.inBlock, Exit.then])
    refine bodyPost_ret (by rw [results_cellT rfl]; go_simp; rfl) rfl ?_
    have hIX : ∀ k ∈ I.all, k ∉ [X] := fun k hk hm => by
      have := HXI.out k hk
      simp at hm
      omega
    refine ⟨rfl, HS.out.keep HU3.out hIX, ?_⟩
    refine Upd.new (m := [X]) ((Upd.of_below HBW.out).trans HU3.out) (fun j hj => ?_)
    have := HX.out
    simp at hj
    omega
  | some F =>
    have hfit : F + n ≤ S.N := HO.out.1
    omega

section
variable {w : World} {I : SpI} {L : List Rw4} {N k : Nat}
theorem gPutB (h : SG w I L N k) (hN : N ≤ 300) (hk : k ≤ 2000) (d : List Int) (a : Option Addr) (len cap : Nat) (e0 : len = d.length) (hl : len ≤ 1000000000000000)
    (hb : Byt d) (hr : Reads w a cap (d.map (Value.int .u8))) (hcap : len ≤ cap) (hd : 0 < len → ∀ y, a = some y → y.block ∉ I.all) :
    Calls Try.prog 12 #[.pointer (some ⟨I.m, 0, none⟩), .slice a len cap] w (PutG I L N k d w) := by
  by_cases hs : len ≤ 1000000
  · exact gPut h hN hk d a len cap e0 hs hb hr hcap hd
  · obtain ⟨S, h1, h2, rfl, h4, h5, h6⟩ := h
    have hbig : S.N < secs d.length := by unfold secs; omega
    refine (c_EPutBig h1 d hbig a len cap e0 hl).mono ?_
    rintro e w' ⟨rfl, k2, k3⟩
    exact .inl ⟨fun F' hF => by omega, rfl, ⟨S, k2, h2, rfl, h4, h5, h6⟩, k3.mono (by simp)⟩
theorem SG.sum (h : SG w I L N k) : (L.map rN).sum ≤ N := by
  obtain ⟨S, h1, h2, rfl, -⟩ := h
  rw [← h2.cnt]
  exact cntF_le _ _
end

theorem sum_ge : ∀ L : List Rw4, L.length ≤ (L.map rN).sum
  | [] => Nat.le_refl _
  | x :: L => by
    have h1 := sum_ge L
    have h2 := rN_pos x
    rw [List.map_cons, List.sum_cons, List.length_cons]
    omega
theorem sum_zero {L : List Rw4} (h : (L.map rN).sum = 0) : L = [] := List.eq_nil_of_length_eq_zero (by have := sum_ge L; omega)
theorem sum_snoc (L : List Rw4) (x : Rw4) : ((L ++ [x]).map rN).sum = (L.map rN).sum + rN x := by simp

/-! ### Rows of extents, cell by cell -/

def flatE (xs : List Ext) : List Value := xs.flatMap exC
theorem flatE_app (xs ys : List Ext) : flatE (xs ++ ys) = flatE xs ++ flatE ys := by simp [flatE]
theorem flatE_len : ∀ xs : List Ext, (flatE xs).length = xs.length * 3
  | [] => rfl
  | x :: xs => by
    have := flatE_len xs
    show (exC x ++ flatE xs).length = _
    rw [List.length_append, this, List.length_cons]
    show 3 + _ = _
    omega
theorem flatE_get : ∀ {xs : List Ext} {k j : Nat} {d : Ext} {v : Value}, xs[k]? = some d → (exC d)[j]? = some v → (flatE xs)[k * 3 + j]? = some v
  | [], k, j, d, v, h, _ => by simp at h
  | x :: xs, 0, j, d, v, h, hv => by
    simp at h
    subst h
    have hj : j < (exC x).length := (List.getElem?_eq_some_iff.1 hv).1
    show (exC x ++ flatE xs)[0 * 3 + j]? = some v
    rw [Nat.zero_mul, Nat.zero_add, List.getElem?_append_left hj]
    exact hv
  | x :: xs, k + 1, j, d, v, h, hv => by
    have h' : xs[k]? = some d := by simpa using h
    show (exC x ++ flatE xs)[(k + 1) * 3 + j]? = some v
    rw [List.getElem?_append_right (by show 3 ≤ _; omega), show (k + 1) * 3 + j - (exC x).length = k * 3 + j by show (k + 1) * 3 + j - 3 = _; omega]
    exact flatE_get h' hv
theorem flatE_one (xs : List Ext) : ∀ u ∈ flatE xs, u.oneCell' = true := fun u hu => by
  unfold flatE at hu
  obtain ⟨x, -, hx⟩ := List.mem_flatMap.1 hu
  simp [exC] at hx
  rcases hx with rfl | rfl | rfl <;> rfl
theorem inf_ext : (Try.prog.info? 34).map (fun i => (i.zero, i.size, i.bytes)) = some (some (.agg #[.int .i64 0, .int .i64 0, .int .i64 0]), 3, 24) := by kernel_rfl

theorem flat_by {w : World} {a : Option Addr} {c : Nat} {xs : List Ext} (h : Reads w a c (flatE xs)) : ReadsBy w a 3 exC xs := fun i d hid => by
  have hi := (List.getElem?_eq_some_iff.1 hid).1
  obtain ⟨b, off, rfl, hb, hc⟩ := h.at (by rw [flatE_len]; omega)
  refine ⟨b, off, rfl, hb, fun j v hv => ?_⟩
  have := hc (i * 3 + j) v (flatE_get hid hv)
  rw [← Nat.add_assoc] at this
  exact this

/-- A row of extents that the call made. -/
theorem owns_exts {w : World} {base n : Nat} {v : Value} {xs : List Ext} (h : w.ownsRow base 34 3 v n (flatE xs)) :
    ∃ a c, v = .slice a n c ∧ Reads w a c (flatE xs) ∧ ReadsBy w a 3 exC xs ∧ n ≤ c ∧ n = xs.length ∧ ∀ y, a = some y → base ≤ y.block := by
  obtain ⟨a, c, rfl, hr, hc, hb⟩ := owns_reads h
  have h1 := h.1
  rw [flatE_len] at h1
  exact ⟨a, c, rfl, hr, flat_by hr, hc, by omega, fun y hy => (hb y hy).1⟩

/-! ### Rows of bytes that came in -/

structure SlD where
  a : Option Addr
  n : Nat
  c : Nat
  l : List Int
def SlD.val (d : SlD) : Value := .slice d.a d.n d.c
def SlD.ok (w : World) (d : SlD) : Prop := d.n = d.l.length ∧ d.n ≤ d.c ∧ Reads w d.a d.c (d.l.map (Value.int .u8)) ∧ Byt d.l ∧ d.n ≤ 140737488351232
def SlDs (w : World) (a : Option Addr) (n c : Nat) (ds : List SlD) : Prop := n = ds.length ∧ n ≤ c ∧ c ≤ maxLen ∧ Reads w a c (ds.map SlD.val) ∧ ∀ d ∈ ds, d.ok w
theorem SlD.ok.below {w w' : World} {d : SlD} (h : d.ok w) (b : Below w.heap.size w w') : d.ok w' := ⟨h.1, h.2.1, h.2.2.1.below b, h.2.2.2⟩
theorem sl_cell {w : World} {a : Option Addr} {c : Nat} {ds : List SlD} (h : Reads w a c (ds.map SlD.val)) {k : Nat} (hk : k < ds.length) :
    ∃ b off, a = some ⟨b, off, none⟩ ∧ b < w.heap.size ∧ w.cell? ⟨b, off + k, none⟩ = some (.slice ds[k].a ds[k].n ds[k].c) := by
  obtain ⟨b, off, rfl, hb, hc⟩ := h.at (by rw [List.length_map]; omega)
  exact ⟨b, off, rfl, hb, hc k _ (by rw [List.getElem?_map, List.getElem?_eq_getElem hk]; rfl)⟩

end Go.Proofs.Ytpbokmmobepolaa
