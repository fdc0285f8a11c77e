/-
  append(s, make([]T, k)...) onto a row that the call owns.
-/
import Derived.Test.YtcecegcbkcdpjaaHeapR
import Derived.Lib.AppendZerosOnto
namespace Go.Proofs.Ytcecegcbkcdpjaa
open Go.RowKit
set_option linter.unusedVariables false
set_option linter.unusedSimpArgs false
set_option maxHeartbeats 4000000

theorem zc_list (z : Value) (n : Nat) : (Builtin.zeroCells #[z] n).toList = List.replicate n z := by
  apply List.ext_getElem?
  intro i
  by_cases hi : i < n
  · simp [Builtin.zeroCells, hi, Nat.mod_one]
  · simp [Builtin.zeroCells, hi]

theorem run_appz {P : Program} (w : World) (base : Nat) (t tn ty e : TypeId) (i : TypeInfo) (z : Value) (kn : IntKind) (bytes : Nat) (ht : P.underlying t = some (.slice e)) (htn : P.underlying tn = some (.int kn)) (hi : P.info? e = some i) (hz : i.zero = some z)
    (hsize : i.size = 1) (hby : i.bytes = bytes) (hz1 : z.cells = #[z]) (hzo : z.oneCell' = true) (v : Value) (n : Nat) (xs : List Value) (hown : w.ownsRow base e 1 v n xs) (k : Nat) (h63 : n + k ≤ maxLen) (hbytes : (n + k) * bytes ≤ 140737488355328) (hbase : base ≤ w.heap.size) :
    ∃ v' w', (Builtin.append_ #[t, tn] ty #[v, .int .i64 k]).run P w = .ok v' w' ∧ w'.ownsRow base e 1 v' (n + k) (xs ++ List.replicate k z) ∧ w.grownBy w' v.ownBlock := by
  subst hby
  have hm64 : n + k ≤ 9223372036854775807 := by simp only [maxLen] at h63; omega
  have hkb : k * i.bytes ≤ 281474976710656 := by
    have := Nat.mul_le_mul_right i.bytes (show k ≤ n + k by omega)
    omega
  have hw0 : IntKind.i64.wrap 0 = 0 := by rw [IntKind.wrap_i64]; rfl
  have hwk : IntKind.i64.wrap (k : Int) = k := by rw [IntKind.wrap_i64]; omega
  have hneg : ¬ ((k : Int) < 0) := by omega
  have h48i : ¬ (281474976710656 < (k : Int) * (i.bytes : Int)) := by rw [← Int.natCast_mul]; omega
  have hzc := zc_list z k
  have hlen : (xs ++ List.replicate k z).length = n + k := by rw [List.length_append, hown.1, List.length_replicate]; omega
  rcases hown.2 with ⟨rfl, rfl⟩ | ⟨g, cap, cur, rfl, hb, hg, hn, hm, hs, htk⟩
  · have hxs : xs = [] := List.eq_nil_of_length_eq_zero (by simpa using hown.1)
    subst hxs
    by_cases hk : k = 0
    · subst hk
      refine ⟨.slice none 0 0, w, ?_, by simpa using World.ownsRow_nil w base e 1, ⟨rfl, rfl, rfl, Nat.le_refl _, fun _ _ _ => rfl⟩⟩
      simp [Builtin.append_, run_underlying ht, run_underlying htn, sizeOf, typeInfo, zeroValue, hi, hz, asInt, asIntOf, hw0]
    · have hr := Lib.run_append_nil_zeros (P := P) w t tn ty e i z .i64 kn ht htn hi hz k (by omega) (by omega) (by omega) hkb
      have hge := grownCap_ge w k 0 e
      have hle := grownCap_le_maxLen w k 0 e (by omega)
      refine ⟨_, _, hr, ⟨by simp, .inr ⟨w.heap.size, _, _, by rw [Nat.zero_add], hbase, heap_alloc_new w.drew _, by omega, hle, ?_, ?_⟩⟩, ⟨rfl, rfl, rfl, by simp, fun j hj _ => heap_alloc_old w.drew _ hj⟩⟩
      · rw [hz1, Array.size_append]; simp [Builtin.zeroCells]; omega
      · rw [hz1, Array.toList_append, zc_list, zc_list, Nat.zero_add, Nat.mul_one, List.nil_append, List.take_left' (by simp)]
  · by_cases hroom : n + k ≤ cap
    · have hst := run_storeCells_at P g n e (List.replicate k z) 0 cur w hg (by simp; omega) (fun u hu => by rw [List.eq_of_mem_replicate hu]; exact hzo)
      refine ⟨.slice (some ⟨g, 0, none⟩) (n + k) cap, w.setRow g (cur.toList.take n ++ List.replicate k z ++ cur.toList.drop (n + k)).toArray, ?_, ⟨by rw [hlen]; omega, .inr ⟨g, cap, _, rfl, hb, setRow_heap w g cur _ e _ hg, hroom, hm, ?_, ?_⟩⟩, ⟨rfl, rfl, rfl, by simp, fun j hj hne => setRow_other w g j _ (fun e => hne (by rw [e]; rfl))⟩⟩
      · by_cases hk : k = 0
        · subst hk
          simp only [List.replicate_zero, Nat.add_zero, List.append_nil, List.take_append_drop, List.length_nil] at hst ⊢
          simp [Builtin.append_, run_underlying ht, run_underlying htn, sizeOf, typeInfo, zeroValue, hi, hz, asInt, asIntOf, hw0, hsize, hn, Addr.add_lit, hst]
        · simp [Builtin.append_, run_underlying ht, run_underlying htn, sizeOf, typeInfo, zeroValue, hi, hz, asInt, asIntOf, hwk, hneg, h48i, hsize, hk, hroom, hz1, hzc, hst, Addr.add_lit]
      · simp; omega
      · have e1 : cur.toList.take n = xs := by rw [← htk, Nat.mul_one]
        rw [e1, Nat.mul_one, ← hlen]
        simp only [List.append_assoc]
        rw [← List.append_assoc]
        exact List.take_left
    · have holds : ∀ j u, xs[j]? = some u → w.cell? ((⟨g, 0, none⟩ : Addr).add j) = some u := hown.cells (g := g) rfl
      have hf := run_firstCells_some (P := P) w.drew 1 n ⟨g, 0, none⟩ n cap xs hown.1 holds
      have hr := Lib.run_append_grow_zeros (P := P) w t tn ty e i z .i64 kn ht htn hi hz (some ⟨g, 0, none⟩) n cap xs (by rw [hsize]; exact hf) k (by omega) (by omega) (by omega) (by omega) hkb (growslice_fits (by omega) hbytes)
      have hge := grownCap_ge w (n + k) cap e
      have hle := grownCap_le_maxLen w (n + k) cap e h63
      refine ⟨_, _, hr, ⟨by rw [hlen]; omega, .inr ⟨w.heap.size, _, _, rfl, hbase, heap_alloc_new w.drew _, hge, hle, ?_, ?_⟩⟩, ⟨rfl, rfl, rfl, by simp, fun j hj _ => heap_alloc_old w.drew _ hj⟩⟩
      · have := hown.1
        simp only [Array.size_append, List.size_toArray, hz1]
        simp [Builtin.zeroCells]; omega
      · simp only [Array.toList_append, hz1, hzc]
        rw [Nat.mul_one, ← hlen]
        exact List.take_left

/-- The same for the walk. -/
theorem wpList_appz {P : Program} {w : World} {ops : Array Oper} {rest : List Oper} {o : Oper} {a : Act} {Q : Exit → Act → World → Prop} (hgd : o.guard = none) (s x : Operand) (t tn : TypeId)
    (ho : o.op = .call { callee := .builtin .append, args := #[s, x], argTypes := #[t, tn] }) (kn : IntKind)
    (base : Nat) (e : TypeId) (z : Value) (bytes : Nat) (ht : P.underlying t = some (.slice e)) (htn : P.underlying tn = some (.int kn)) (hinf : (P.info? e).map (fun i => (i.zero, i.size, i.bytes)) = some (some z, 1, bytes))
    (hz1 : z.cells = #[z]) (hzo : z.oneCell' = true) (v : Value) (n : Nat) (xs : List Value) (hs : a.eval s = v) (hown : w.ownsRow base e 1 v n xs) (K : Int) (k : Nat) (hx : a.eval x = .int .i64 K) (hK : K = (k : Int))
    (h63 : n + k ≤ maxLen) (hbytes : (n + k) * bytes ≤ 140737488355328) (hbase : base ≤ w.heap.size)
    (h : ∀ v' w', w'.ownsRow base e 1 v' (n + k) (xs ++ List.replicate k z) → w.grownBy w' v.ownBlock → wpList P ops Q rest (a.put o.dst v') w') : wpList P ops Q (o :: rest) a w := by
  subst hK
  obtain ⟨i, hi, hz, h2, h3⟩ := info_parts hinf
  obtain ⟨v', w', hr, h4, h5⟩ := run_appz (P := P) w base t tn o.type e i z kn bytes ht htn hi hz h2 h3 hz1 hzo v n xs hown k h63 hbytes hbase
  exact Lib.wpList_append_run w hgd s x t tn ho v (.int .i64 k) hs hx v' w' hr (h v' w' h4 h5)

end Go.Proofs.Ytcecegcbkcdpjaa
