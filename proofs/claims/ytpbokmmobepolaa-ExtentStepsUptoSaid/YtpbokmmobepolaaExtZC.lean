/-
  The reference: rows that the call makes; Without.
-/
import Derived.Test.YtpbokmmobepolaaExtZB
namespace Go.Proofs.Ytpbokmmobepolaa
open Go.RowKit Go.Maps
set_option linter.unusedVariables false
set_option maxHeartbeats 4000000

def flatW (rs : List RwB) : List Value := rs.flatMap RwB.row
theorem flatW_app (xs ys : List RwB) : flatW (xs ++ ys) = flatW xs ++ flatW ys := by simp [flatW]
theorem flatW_len : ∀ xs : List RwB, (flatW xs).length = xs.length * 4
  | [] => rfl
  | x :: xs => by
    have := flatW_len xs
    show (x.row ++ flatW xs).length = _
    rw [List.length_append, this, List.length_cons]
    show 4 + _ = _
    omega
theorem flatW_get : ∀ {xs : List RwB} {k j : Nat} {d : RwB} {v : Value}, xs[k]? = some d → d.row[j]? = some v → (flatW xs)[k * 4 + j]? = some v
  | [], k, j, d, v, h, _ => by simp at h
  | x :: xs, 0, j, d, v, h, hv => by
    simp at h
    subst h
    have hj : j < x.row.length := (List.getElem?_eq_some_iff.1 hv).1
    show (x.row ++ flatW xs)[0 * 4 + j]? = some v
    rw [Nat.zero_mul, Nat.zero_add, List.getElem?_append_left hj]
    exact hv
  | x :: xs, k + 1, j, d, v, h, hv => by
    have h' : xs[k]? = some d := by simpa using h
    show (x.row ++ flatW xs)[(k + 1) * 4 + j]? = some v
    rw [List.getElem?_append_right (by show 4 ≤ _; omega), show (k + 1) * 4 + j - x.row.length = k * 4 + j by show (k + 1) * 4 + j - 4 = _; omega]
    exact flatW_get h' hv
theorem flatW_one (xs : List RwB) : ∀ u ∈ flatW xs, u.oneCell' = true := fun u hu => by
  unfold flatW at hu
  obtain ⟨x, -, hx⟩ := List.mem_flatMap.1 hu
  simp [RwB.row] at hx
  rcases hx with rfl | rfl | rfl | rfl <;> rfl
def zRow : Value := .agg #[.int .i64 0, .int .i64 0, .int .i64 0, .slice none 0 0]
theorem inf_row : (Try.prog.info? 54).map (fun i => (i.zero, i.size, i.bytes)) = some (some zRow, 4, 48) := by kernel_rfl

theorem flatW_by {w : World} {a : Option Addr} {c : Nat} {xs : List RwB} (h : Reads w a c (flatW xs)) : ReadsBy w a 4 RwB.row xs := fun i d hid => by
  have hi := (List.getElem?_eq_some_iff.1 hid).1
  obtain ⟨b, off, rfl, hb, hc⟩ := h.at (by rw [flatW_len]; omega)
  refine ⟨b, off, rfl, hb, fun j v hv => ?_⟩
  have := hc (i * 4 + j) v (flatW_get hid hv)
  rw [← Nat.add_assoc] at this
  exact this
theorem by_flatW {w : World} {a : Option Addr} {c : Nat} {xs : List RwB} (h : ReadsBy w a 4 RwB.row xs) (h0 : a = none → c = 0) : Reads w a c (flatW xs) := by
  cases a with
  | none =>
    cases xs with
    | nil => exact .inl ⟨rfl, h0 rfl, rfl⟩
    | cons x xs => obtain ⟨b, off, e, -⟩ := h 0 x rfl; cases e
  | some ad =>
    refine .inr ⟨ad, rfl, fun i u hu => ?_⟩
    have hi := (List.getElem?_eq_some_iff.1 hu).1
    rw [flatW_len] at hi
    have hk : i / 4 < xs.length := by omega
    obtain ⟨b, off, e, -, hc⟩ := h (i / 4) _ (List.getElem?_eq_getElem hk)
    cases e
    have hj : i % 4 < (xs[i / 4]).row.length := by show i % 4 < 4; omega
    have h1 := flatW_get (List.getElem?_eq_getElem hk) (List.getElem?_eq_getElem hj)
    rw [show i / 4 * 4 + i % 4 = i by omega, hu] at h1
    have h2 := hc (i % 4) _ (List.getElem?_eq_getElem hj)
    rw [← Option.some.inj h1, Nat.add_assoc, show i / 4 * 4 + i % 4 = i by omega] at h2
    rw [add_flat]
    exact h2

theorem owns_rows {w : World} {base n : Nat} {v : Value} {xs : List RwB} (h : w.ownsRow base 54 4 v n (flatW xs)) :
    ∃ a c, v = .slice a n c ∧ Reads w a c (flatW xs) ∧ ReadsBy w a 4 RwB.row xs ∧ n ≤ c ∧ n = xs.length ∧ (∀ y, a = some y → base ≤ y.block) ∧ (a = none → c = 0) := by
  obtain ⟨a, c, rfl, hr, hc, hb⟩ := owns_reads h
  have h1 := h.1
  rw [flatW_len] at h1
  refine ⟨a, c, rfl, hr, flatW_by hr, hc, by omega, fun y hy => (hb y hy).1, fun hn => ?_⟩
  rcases hr with ⟨-, h2, -⟩ | ⟨x, h2, -⟩
  · exact h2
  · rw [hn] at h2; cases h2

theorem wo_step {rs : List RwB} {j : Nat} (h : j < rs.length) (k : Nat) : (rs.take (j + 1)).eraseIdx k = if j = k then (rs.take j).eraseIdx k else (rs.take j).eraseIdx k ++ [rs[j]] := by
  have hl : (rs.take j).length = j := by simp; omega
  rw [List.take_add_one, List.getElem?_eq_getElem h, Option.toList_some]
  by_cases hk : k < j
  · rw [List.eraseIdx_append_of_lt_length (by omega), if_neg (by omega)]
  · rw [List.eraseIdx_append_of_length_le (by omega), hl, List.eraseIdx_of_length_le (l := rs.take j) (by omega)]
    by_cases he : j = k
    · subst he; simp
    · rw [if_neg he, List.eraseIdx_of_length_le (by simp; omega)]

theorem r_Without {w : World} {B : Nat} {a : Option Addr} {n c : Nat} {rs : List RwB} (h : RowsAt w B a n c rs) (hm : n ≤ 1000000) (k : Nat) (hk0 : k ≤ 1000000) :
    Calls Try.prog 38 #[.slice a n c, .int .i64 k] w fun e w' => ∃ v, e = .returned v ∧ w'.ownsRow w.heap.size 54 4 v (rs.eraseIdx k).length (flatW (rs.eraseIdx k)) ∧ Below w.heap.size w w' := by
  have e0 := h.len
  subst e0
  have HR := Lib.hid h
  clear h
  go_enter Try.func38, Try.ntmps38
  go_wp2
  go_loopw [5, 6] (fun v i wr => ∃ j : Nat, j ≤ rs.length ∧ i = .int .i64 j ∧ Hid (wr.ownsRow w.heap.size 54 4 v ((rs.take j).eraseIdx k).length (flatW ((rs.take j).eraseIdx k))) ∧ Hid (Below w.heap.size w wr)) (fun _ i _ => rs.length - (intOf i).toNat)
  case atStart => exact ⟨0, Nat.zero_le _, rfl, World.ownsRow_nil _ _ _ _, Below.refl _ _⟩
  case round =>
    obtain ⟨j, hj, rfl, HO, HB⟩ := hrel
    by_cases hlt : j < rs.length
    · obtain ⟨b, off, rfl, hb, c0, c1, c2, c3⟩ := row_cells (HR.out.below HB.out) hlt
      have hst := wo_step hlt k
      by_cases hjk : j = k
      · rw [if_pos hjk] at hst
        have HO2 : Hid (wr.ownsRow w.heap.size 54 4 u5 ((rs.take (j + 1)).eraseIdx k).length (flatW ((rs.take (j + 1)).eraseIdx k))) := by unfold Hid; rw [hst]; exact HO.out
        obtain ⟨la, lc, rfl, -⟩ := owns_rows HO.out
        subst hjk
        clear hst hb c0 c1 c2 c3 HO
        generalize ((rs.take j).eraseIdx j).length = L0 at *
        go_wp2
        go_roundw
        case rel => exact ⟨j + 1, by omega, by go_num, HO2.out, HB.out⟩
        case measure => simp [intOf]; omega
      · rw [if_neg hjk] at hst
        have hjk2 : ¬ ((j : Int) = (k : Int)) := by omega
        have f1 : ((j : Int) == (k : Int)) = false := by simpa using hjk2
        obtain ⟨la, lc, rfl, -⟩ := owns_rows HO.out
        have HST := Lib.hid hst
        have hl0 : ((rs.take j).eraseIdx k).length ≤ rs.length := Nat.le_trans (List.length_eraseIdx_le _ _) (by simp; omega)
        have hmx : ((rs.take j).eraseIdx k).length + 1 ≤ maxLen := by unfold maxLen; omega
        have hby : (((rs.take j).eraseIdx k).length + 1) * 48 ≤ 140737488355328 := by omega
        have hrow : rs[j].row = [.int .i64 (rs[j].x.1 : Nat), .int .i64 (rN rs[j].x : Nat), .int .i64 (rs[j].x.2.length : Nat), .slice rs[j].a rs[j].n rs[j].c] := rfl
        have hone : ∀ u ∈ rs[j].row, u.oneCell' = true := fun u hu => by
          simp [RwB.row] at hu
          rcases hu with rfl | rfl | rfl | rfl <;> rfl
        have HROW : Hid (flatW [rs[j]] = rs[j].row) := by simp [Hid, flatW]
        rw [hrow] at hone HROW
        have hbs := HB.out.size
        clear hst hb hjk hrow
        generalize rs[j] = d at *
        generalize ((rs.take j).eraseIdx k) = M at *
        go_wp2_with (at_builtin; refine wpList_app rfl _ _ 47 rfl w.heap.size 54 zRow 4 48 Try.underlying47 inf_row rfl (by decide) _ M.length _ rfl (HO.out.alloc _) _ 1 1 [.int .i64 (d.x.1 : Nat), .int .i64 (rN d.x : Nat), .int .i64 (d.x.2.length : Nat), .slice d.a d.n d.c] rfl rfl (Reads.madeAt rfl) hone hmx hby (Nat.le_trans hbs (by simp)) ?_)
        intro v' w2 own2 gr2
        have hlt' := HO.out.lt
        have HB2 := Lib.hid ((HB.out.alloc (by simpa using hbs) _).grown gr2 (by simp; omega) (fun k hk => (hlt' k hk).1))
        have HO2 : Hid (w2.ownsRow w.heap.size 54 4 v' ((rs.take (j + 1)).eraseIdx k).length (flatW ((rs.take (j + 1)).eraseIdx k))) := by
          unfold Hid
          rw [HST.out, flatW_app, HROW.out, List.length_append]
          exact own2
        clear own2 gr2 hlt' hmx hby hone hbs
        go_wp2
        go_roundw
        case rel => exact ⟨j + 1, by omega, by go_num, HO2.out, HB2.out⟩
        case measure => simp [intOf]; omega
    · obtain rfl : j = rs.length := by omega
      have HO2 := HO.out
      rw [List.take_length] at HO2
      have HO2 := Lib.hid HO2
      obtain ⟨la, lc, rfl, -⟩ := owns_rows HO2.out
      clear HO
      go_wp2
      go_ret
      exact ⟨_, rfl, HO2.out, HB.out⟩

end Go.Proofs.Ytpbokmmobepolaa
