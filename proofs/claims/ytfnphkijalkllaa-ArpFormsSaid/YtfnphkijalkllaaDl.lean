/- Lists of pointers closed up by one: the row while slices.DeleteFunc runs (plain law); clear. No condition. -/
import Derived.Test.YtfnphkijalkllaaUt
import Derived.LaidEqlPtr
namespace Go.Proofs.Ytfnphkijalkllaa
set_option linter.unusedVariables false
set_option linter.unusedSimpArgs false
open Go.RowKit
theorem lset_take : ∀ (vs cs : List Value) (j i : Nat), i ≤ j → (lset cs j vs).take i = cs.take i
  | [], _, _, _, _ => rfl
  | v :: vs, cs, j, i, h => by
    unfold lset
    rw [lset_take vs _ (j + 1) i (by omega), List.take_set_of_le h]
theorem wpList_clear {P : Program} {ops : Array Oper} {rest : List Oper} {o : Oper} {a : Act} {w : World} {Q : Exit → Act → World → Prop} {t e : TypeId} {sz bytes : Nat} {z : Value} (hgd : o.guard = none) (x : Operand)
    (ho : o.op = .call { callee := .builtin .clear, args := #[x], argTypes := #[t] }) (T : SlTy P t e sz bytes z) (hz : ∀ w, (zeroValue e).run P w = .ok z w) (h1 : ∀ u ∈ z.cells, u.oneCell' = true)
    {g off n cap : Nat} (hx : a.eval x = .slice (some ⟨g, off, none⟩) (n + 1) cap) (ht : w.there g off ((n + 1) * sz))
    (hK : ∀ zs : List Value, zs.length = (n + 1) * sz → wpList P ops Q rest (a.put o.dst (.tuple #[])) (w.setCells g off zs)) : wpList P ops Q (o :: rest) a w := by
  refine wpList_plain hgd fun K' hK' => ?_
  have hlen : (Builtin.zeroCells z.cells (n + 1)).toList.length = (n + 1) * sz := by simp [Builtin.zeroCells, T.zs]
  have hone : ∀ u ∈ (Builtin.zeroCells z.cells (n + 1)).toList, u.oneCell' = true := by
    intro u hu
    have h0 := T.pos
    simp only [Builtin.zeroCells, Array.toList_map, List.mem_map] at hu
    obtain ⟨i, _, rfl⟩ := hu
    have hi : i % z.cells.size < z.cells.size := Nat.mod_lt _ (by rw [T.zs]; exact h0)
    rw [getElem!_pos z.cells _ hi]
    exact h1 _ (Array.getElem_mem hi)
  have hst := run_storeCells_cells (P := P) g off (Builtin.zeroCells z.cells (n + 1)).toList 0 w (fun j hj => (ht j (by omega)).1) (fun j hj => (ht j (by omega)).2) hone
  simp only [Nat.add_zero] at hst
  unfold Oper.wp
  simp [execOp, ho, resolve, invoke, builtin, hx, Builtin.clear_, run_underlying T.under, hz, hst, Result.andThen]
  exact hK' _ _ (hK _ hlen)
theorem run_sliceTo {P : Program} {t e : TypeId} {sz bytes : Nat} {z : Value} (T : SlTy P t e sz bytes z) {g off n cap k : Nat} (hkc : k ≤ cap) (hcm : cap ≤ maxLen) (w' : World) : (Instr.sliceAt t (.slice (some ⟨g, off, none⟩) n cap) none (some (.int .i64 k)) none).run P w' = .ok (.slice (some ⟨g, off, none⟩) k cap) w' := by
  obtain ⟨i, hi, hz, rfl, rfl⟩ := T.inf
  have hcap : cap ≤ 9223372036854775807 := by simp only [maxLen] at hcm; omega
  simp [Instr.sliceAt, Instr.slice, Instr.sliceBounds, Instr.sliceBound, run_underlying T.under, sizeOf, typeInfo, hi, asIntOf, hkc, Addr.add_mid]
section
variable {α : Type}
/-- The row while it is closed up: up to j. -/
def mid (L : List α) (i0 j : Nat) : List α := (L.take i0 ++ L.drop (i0 + 1)).take (j - 1) ++ L.drop (j - 1)
theorem mid_len {L : List α} {i0 j n : Nat} (hn : L.length = n) (h0 : i0 < n) (hj : i0 < j) (hjn : j ≤ n) : (mid L i0 j).length = n := by
  unfold mid
  rw [List.length_append, List.length_take, List.length_append, List.length_take, List.length_drop, List.length_drop, hn]
  omega
theorem mid_at {L : List α} {i0 j n : Nat} (hn : L.length = n) (h0 : i0 < n) (hj : i0 < j) (hjn : j < n) : (mid L i0 j)[j]? = L[j]? := by
  unfold mid
  rw [List.getElem?_append_right (by rw [List.length_take, List.length_append, List.length_take, List.length_drop, hn]; omega), List.getElem?_drop]
  congr 1
  rw [List.length_take, List.length_append, List.length_take, List.length_drop, hn]
  omega
theorem mid_start (L : List α) {i0 : Nat} (h : i0 < L.length) : mid L i0 (i0 + 1) = L := by
  unfold mid
  rw [Nat.add_sub_cancel, List.take_append_of_le_length (by rw [List.length_take]; omega), List.take_of_length_le (by rw [List.length_take]; omega), List.take_append_drop]
theorem mid_step {L : List α} {i0 j n : Nat} {q : α} (hn : L.length = n) (h0 : i0 < n) (hj : i0 < j) (hjn : j < n) (hq : L[j]? = some q) : (mid L i0 j).set (j - 1) q = mid L i0 (j + 1) := by
  have hlen : (L.take i0 ++ L.drop (i0 + 1)).length = n - 1 := by rw [List.length_append, List.length_take, List.length_drop, hn]; omega
  have hD : (L.take i0 ++ L.drop (i0 + 1))[j - 1]? = some q := by
    rw [List.getElem?_append_right (by rw [List.length_take, hn]; omega), List.length_take, hn, List.getElem?_drop, ← hq]
    congr 1
    omega
  unfold mid
  obtain ⟨hlt, hgq⟩ := List.getElem?_eq_some_iff.1 hD
  rw [Nat.add_sub_cancel, List.set_append_right _ _ (by rw [List.length_take]; omega), List.length_take, hlen, Nat.min_eq_left (by omega), Nat.sub_self]
  have e1 : (L.take i0 ++ L.drop (i0 + 1)).take j = (L.take i0 ++ L.drop (i0 + 1)).take (j - 1) ++ [q] := by
    rw [show j = (j - 1) + 1 by omega, List.take_add_one, hD]
    simp
  have e2 : L.drop (j - 1) = L[j - 1]'(by omega) :: L.drop j := by
    rw [List.drop_eq_getElem_cons (by omega), show j - 1 + 1 = j by omega]
  rw [e1, e2, List.set_cons_zero, List.append_assoc]
  rfl
theorem mid_end {L : List α} {i0 n : Nat} (hn : L.length = n) (h0 : i0 < n) : (mid L i0 n).take (n - 1) = L.take i0 ++ L.drop (i0 + 1) := by
  have hlen : (L.take i0 ++ L.drop (i0 + 1)).length = n - 1 := by rw [List.length_append, List.length_take, List.length_drop, hn]; omega
  unfold mid
  rw [List.take_append_of_le_length (by rw [List.length_take]; omega), List.take_take, Nat.min_self, List.take_of_length_le (by omega)]
end
def ptr (p : Nat) : Value := .pointer (some ⟨p, 0, none⟩)
def pl (L : List Nat) : List Value := L.map ptr
theorem pl_len (L : List Nat) : (pl L).length = L.length := List.length_map _
theorem pl_at {L : List Nat} {i q : Nat} (h : L[i]? = some q) : (pl L)[i]? = some (ptr q) := by unfold pl; rw [List.getElem?_map, h]; rfl
theorem pl_set (L : List Nat) (i q : Nat) : (pl L).set i (ptr q) = pl (L.set i q) := by unfold pl; rw [List.map_set]
theorem pl_take (L : List Nat) (k : Nat) : (pl L).take k = pl (L.take k) := by unfold pl; rw [List.map_take]
theorem pl_one (L : List Nat) : ∀ u ∈ pl L, u.oneCell' = true := by
  intro u hu
  obtain ⟨x, _, rfl⟩ := List.mem_map.1 hu
  rfl
/-- A row of pointers: where one lies. -/
theorem Sl.ptrAt {N e n : Nat} {w : World} {b off cap : Nat} {L : List Nat} (h : Sl N e 1 w (.slice (some ⟨b, off, none⟩) n cap) n (pl L)) {i q : Nat} (hi : L[i]? = some q) : w.cell? ⟨b, off + i, none⟩ = some (.pointer (some ⟨q, 0, none⟩)) := by
  have hl := h.len
  rw [pl_len] at hl
  have hlt := (List.getElem?_eq_some_iff.1 hi).1
  obtain ⟨b', off', cap', hv, _, _, _, _, hc, _⟩ := h.form1 (by omega)
  injection hv with hv1 _ hv2
  injection hv1 with hv1
  injection hv1 with hv3 hv4
  subst hv3; subst hv4
  exact hc _ _ (pl_at hi)
theorem Sl.frozen {N e sz n : Nat} {w : World} {b off cap : Nat} {cs : List Value} (h : Sl N e sz w (.slice (some ⟨b, off, none⟩) n cap) n cs) (j : Nat) : w.frozen? ⟨b, j, none⟩ = false := by
  rcases h.2 with ⟨hv, _⟩ | ⟨g', off', cap', cur, hv, hb, hg, _⟩
  · cases hv
  · injection hv with hv1 _ hv2
    injection hv1 with hv1
    injection hv1 with hv3 hv4
    subst hv3
    exact frozen_of_row w _ _ _ e hg
/-- A block of cells lies there. -/
def Liv (w : World) (p : Nat) : Prop := ∃ c t, w.heap[p]? = some (.cells c t)
theorem Liv.frS {S : Nat → Prop} {w w' : World} {p : Nat} (h : Liv w p) (f : Fr S w w') (hs : ¬ S p) : Liv w' p := by
  obtain ⟨c, t, h⟩ := h
  exact ⟨c, t, (f.block p (lt_of_block h) hs).trans h⟩
theorem Liv.fr {w w' : World} {p : Nat} (h : Liv w p) (f : Fr (fun _ => False) w w') : Liv w' p := h.frS f (fun e => e)
theorem eql_ptr {P : Program} {tp te : TypeId} {w : World} {a b : Nat} (hp : P.underlying tp = some (.pointer te)) {n : Nat} (hte : (P.info? te).map (·.size) = some (n + 1)) (ha : Liv w a) (hb : Liv w b) :
    (binOp .eql tp (.pointer (some ⟨a, 0, none⟩)) (.pointer (some ⟨b, 0, none⟩))).run P w = .ok (.bool (decide (a = b))) w := by
  cases hj : P.info? te with
  | none => rw [hj] at hte; cases hte
  | some j =>
    rw [hj] at hte
    have hsz : j.size = n + 1 := by simpa using hte
    by_cases e : a = b
    · subst e
      rw [run_eql_ptr_same w _ hp hj]
      simp
    · obtain ⟨ca, ta, ha⟩ := ha
      obtain ⟨cb, tb, hb⟩ := hb
      rw [run_eql_ptr_other w hp hj (by omega) (by intro h; injection h with h; exact e h) ha hb]
      simp [e]
theorem tag_ne {a b : Array Value} {s t : TypeId} (h : some (Obj.cells a s) = some (Obj.cells b t)) : s = t := by injection h with h; injection h
theorem one_new (w : World) (c1 : Array Value) (t1 : TypeId) : (w.alloc (.cells c1 t1)).heap[w.heap.size]? = some (.cells c1 t1) ∧ Fr (fun _ => False) w (w.alloc (.cells c1 t1)) ∧ (w.alloc (.cells c1 t1)).heap.size = w.heap.size + 1 :=
  ⟨heap_alloc_new w _, (Fr.refl _ w).alloc _, by simp⟩
theorem two_new (w : World) (c1 : Array Value) (t1 : TypeId) (c2 : Array Value) (t2 : TypeId) : ((w.alloc (.cells c1 t1)).alloc (.cells c2 t2)).heap[w.heap.size]? = some (.cells c1 t1) ∧ ((w.alloc (.cells c1 t1)).alloc (.cells c2 t2)).heap[w.heap.size + 1]? = some (.cells c2 t2) ∧
    Fr (fun _ => False) w ((w.alloc (.cells c1 t1)).alloc (.cells c2 t2)) ∧ ((w.alloc (.cells c1 t1)).alloc (.cells c2 t2)).heap.size = w.heap.size + 2 := by
  refine ⟨?_, ?_, ((Fr.refl _ w).alloc _).alloc _, by simp⟩
  · rw [Below.heap_alloc _ _ _ (by simp)]; exact heap_alloc_new w _
  · have := heap_alloc_new (w.alloc (.cells c1 t1)) (.cells c2 t2); simpa using this
theorem heap_setCells_same : ∀ (vs cs : List Value) (w : World) (b o : Nat) (t : TypeId), w.heap[b]? = some (.cells cs.toArray t) → (w.setCells b o vs).heap[b]? = some (.cells (lset cs o vs).toArray t)
  | [], _, _, _, _, _, h => h
  | v :: vs, cs, w, b, o, t, h => by
    have h1 : (w.setCell ⟨b, o, none⟩ v).heap[b]? = some (.cells (cs.set o v).toArray t) := by
      rw [heap_setCell_same w b o _ t _ h, List.setIfInBounds_toArray]
    exact heap_setCells_same vs (cs.set o v) _ b (o + 1) t h1
def idxP (L : List Nat) (k : Nat) : Int := match L.findIdx? (fun y => decide (y = k)) with | some i => i | none => -1
theorem idxP_at {L : List Nat} {k i : Nat} (hi : L[i]? = some k) (h : ∀ (j q : Nat), j < i → L[j]? = some q → q ≠ k) : idxP L k = i := by
  unfold idxP
  have : L.findIdx? (fun y => decide (y = k)) = some i := by
    obtain ⟨hlt, e⟩ := List.getElem?_eq_some_iff.1 hi
    rw [List.findIdx?_eq_some_iff_getElem]
    refine ⟨hlt, by rw [e]; simp, fun j hj => ?_⟩
    have := h j L[j] hj (List.getElem?_eq_getElem (by omega))
    simpa using this
  rw [this]
theorem idxP_not {L : List Nat} {k : Nat} (h : ∀ (j q : Nat), L[j]? = some q → q ≠ k) : idxP L k = -1 := by
  unfold idxP
  rw [List.findIdx?_eq_none_iff.2 (fun p hp => by obtain ⟨j, hj⟩ := List.getElem?_of_mem hp; simpa using h j p hj)]
end Go.Proofs.Ytfnphkijalkllaa
