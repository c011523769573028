/- Laws for single operations on slices and maps that the call owns (over any program). No condition. -/
import Derived.Test.YtfnphkijalkllaaSl
import Derived.Test.YtfnphkijalkllaaKr
namespace Go.Proofs.Ytfnphkijalkllaa
set_option linter.unusedVariables false
set_option linter.unusedSimpArgs false
open Go.RowKit

section
variable {P : Program} {w : World} {o : Oper} {a : Act} {K : Act → World → Prop} {Q : Exit → Act → World → Prop} {ops : Array Oper} {rest : List Oper}
theorem wp_append_sl {base : Nat} {t tx e : TypeId} {sz bytes : Nat} {z : Value} (s x : Operand)
    (ho : o.op = .call { callee := .builtin .append, args := #[s, x], argTypes := #[t, tx] }) (T : SlTy P t e sz bytes z) (v : Value) (n : Nat) (cs : List Value) (hs : a.eval s = v) (h : Sl base e sz w v n cs)
    (y : Value) (m : Nat) (news : List Value) (hx : a.eval x = y) (hy : Src P sz tx y m news w) (h63 : n + m ≤ maxLen) (hbytes : (n + m) * bytes ≤ 140737488355328) (hbase : base ≤ w.heap.size)
    (hK : ∀ v' w', Sl base e sz w' v' (n + m) (cs ++ news) → w.grownBy w' v.ownBlock → (v'.ownBlock = v.ownBlock ∨ v'.ownBlock = some w.heap.size) → (v' = .slice none 0 0 ↔ v = .slice none 0 0 ∧ m = 0) → K (a.put o.dst v') w') : o.wp P a w K Q := by
  obtain ⟨v', w', hr, h1, h2, h3, h4⟩ := h.append T hy h63 hbytes hbase o.type
  unfold Oper.wp execOp
  simp only [ho, resolve, invoke, builtin, Sem.run_bind, Sem.run_pure, Result.andThen_ok, List.map_toArray, List.map_cons, List.map_nil, hs, hx, hr]
  exact hK v' w' h1 h2 h3 h4
theorem wpList_append_sl {base : Nat} {t tx e : TypeId} {sz bytes : Nat} {z : Value} (hgd : o.guard = none) (s x : Operand)
    (ho : o.op = .call { callee := .builtin .append, args := #[s, x], argTypes := #[t, tx] }) (T : SlTy P t e sz bytes z) (v : Value) (n : Nat) (cs : List Value) (hs : a.eval s = v) (h : Sl base e sz w v n cs)
    (y : Value) (m : Nat) (news : List Value) (hx : a.eval x = y) (hy : Src P sz tx y m news w) (h63 : n + m ≤ maxLen) (hbytes : (n + m) * bytes ≤ 140737488355328) (hbase : base ≤ w.heap.size)
    (hK : ∀ v' w', Sl base e sz w' v' (n + m) (cs ++ news) → w.grownBy w' v.ownBlock → (v'.ownBlock = v.ownBlock ∨ v'.ownBlock = some w.heap.size) → (v' = .slice none 0 0 ↔ v = .slice none 0 0 ∧ m = 0) → wpList P ops Q rest (a.put o.dst v') w') : wpList P ops Q (o :: rest) a w :=
  wpList_plain hgd fun _ h' => wp_append_sl s x ho T v n cs hs h y m news hx hy h63 hbytes hbase (fun v' w' k1 k2 k3 k4 => h' _ _ (hK v' w' k1 k2 k3 k4))
theorem wpList_slice {t : TypeId} (hgd : o.guard = none) (x lo : Operand) (ho : o.op = .slice t x (some lo) none none) {v v' : Value} {k : Nat} (hx : a.eval x = v) (hl : a.eval lo = .int .i64 k)
    (hrun : ∀ w' : World, (Instr.sliceAt t v (some (.int .i64 k)) none none).run P w' = .ok v' w') (hK : wpList P ops Q rest (a.put o.dst v') w) : wpList P ops Q (o :: rest) a w := by
  refine wpList_plain hgd fun K' hK' => ?_
  unfold Oper.wp execOp
  simp [ho, hx, hl, hrun, Result.andThen]
  exact hK' _ _ hK
theorem wpList_sliceTo {t : TypeId} (hgd : o.guard = none) (x hi : Operand) (ho : o.op = .slice t x none (some hi) none) {v v' : Value} {k : Nat} (hx : a.eval x = v) (hl : a.eval hi = .int .i64 k)
    (hrun : ∀ w' : World, (Instr.sliceAt t v none (some (.int .i64 k)) none).run P w' = .ok v' w') (hK : wpList P ops Q rest (a.put o.dst v') w) : wpList P ops Q (o :: rest) a w := by
  refine wpList_plain hgd fun K' hK' => ?_
  unfold Oper.wp execOp
  simp [ho, hx, hl, hrun, Result.andThen]
  exact hK' _ _ hK
end

def placesOf (fs : Array Field) : Sem (Array (Nat × Nat)) := fs.mapM fun (f : Field) => do pure (f.offset, ← sizeOf f.type)
/-- What is known of a struct type for 'build': its places, its nought. -/
structure BdTy (P : Program) (t : TypeId) (pl : Array (Nat × Nat)) (z : Value) : Prop where
  under : ∃ fs, P.underlying t = some (.struct fs) ∧ ∀ w : World, (placesOf fs).run P w = .ok pl w
  zero : ∀ w : World, (zeroValue t).run P w = .ok z w
theorem BdTy.run {P : Program} {t : TypeId} {pl : Array (Nat × Nat)} {z : Value} (T : BdTy P t pl z) {parts : Array (Nat × Value)} {cells : Array Value} (hf : Instr.fill (pl[·]?) z.cells parts.toList = some cells) (w : World) : (Instr.build t parts).run P w = .ok (.agg cells) w := by
  obtain ⟨fs, hu, hp⟩ := T.under
  have hp := hp w
  unfold placesOf at hp
  unfold Instr.build
  rw [Sem.run_bind, T.zero w]
  simp only [Result.andThen_ok]
  rw [Sem.run_bind, run_underlying hu]
  simp only [Result.andThen_ok]
  rw [Sem.run_bind, hp]
  simp only [Result.andThen_ok, hf]
  rfl
theorem parts_map {a : Act} {ps : Array (Nat × Operand)} {parts : List (Nat × Value)} (hp : ps.toList.map (fun p => (p.1, a.eval p.2)) = parts) : ps.map (fun (i, x) => (i, a.eval x)) = parts.toArray := by
  apply Array.ext'
  rw [Array.toList_map, ← hp]
section
variable {P : Program} {ops : Array Oper} {Tw : World → Prop} {o : Oper} {a : Act} {w : World} {rest : List Oper} {Q : Exit → Act → World → Prop}
theorem kr_build {t : TypeId} {pl : Array (Nat × Nat)} {z : Value} (T : BdTy P t pl z) {ps : Array (Nat × Operand)} (hg : o.guard = none) (ho : o.op = .build t ps) (parts : List (Nat × Value)) (hp : ps.toList.map (fun p => (p.1, a.eval p.2)) = parts) (cells : Array Value) (hf : Instr.fill (pl[·]?) z.cells parts = some cells) :
    YieldsIf P ops Tw o (.agg cells) a :=
  .inl ⟨by simp [Region.wanted, hg], fun w' _ => by
    unfold execOp
    have := T.run (parts := parts.toArray) (cells := cells) hf w'
    simp only [ho, parts_map hp, this, Sem.run_bind, Sem.run_pure, Result.andThen_ok]⟩
theorem wpList_build {t : TypeId} {pl : Array (Nat × Nat)} {z : Value} (T : BdTy P t pl z) {ps : Array (Nat × Operand)} (hg : o.guard = none) (ho : o.op = .build t ps) (parts : List (Nat × Value)) (hp : ps.toList.map (fun p => (p.1, a.eval p.2)) = parts) (cells : Array Value) (hf : Instr.fill (pl[·]?) z.cells parts = some cells)
    (hK : wpList P ops Q rest (a.put o.dst (.agg cells)) w) : wpList P ops Q (o :: rest) a w := by
  refine wpList_plain hg fun K' hK' => ?_
  unfold Oper.wp execOp
  have := T.run (parts := parts.toArray) (cells := cells) hf w
  simp only [ho, parts_map hp, this, Sem.run_bind, Sem.run_pure, Result.andThen_ok]
  exact hK' _ _ hK
end
theorem fold_fill : ∀ (l : List Value) (k : Nat) (pre rest : List Value) (Z : Array Value), Z.toList = pre ++ rest → pre.length = k → rest.length = l.length → ((l.zipIdx k).foldl (fun (cs : Array Value) (p : Value × Nat) => cs.setIfInBounds (0 + p.2) p.1) Z).toList = pre ++ l
  | [], _, pre, rest, Z, h, _, hr => by
    have : rest = [] := List.eq_nil_of_length_eq_zero hr
    subst this
    simpa using h
  | x :: l, k, pre, y :: rest, Z, h, hk, hr => by
    rw [List.zipIdx_cons, List.foldl_cons]
    have := fold_fill l (k + 1) (pre ++ [x]) rest (Z.setIfInBounds (0 + k) x) (by
      rw [Nat.zero_add, Array.toList_setIfInBounds, h, ← hk, List.set_append_right _ _ (Nat.le_refl _), Nat.sub_self, List.set_cons_zero, List.append_assoc]; rfl) (by simp [hk]) (by simpa using hr)
    simpa using this
theorem fill_one {sz : Nat} {Z C : Array Value} (hZ : Z.size = sz) (hC : C.size = sz) : Instr.fill (fun i => some (i * sz, sz)) Z [(0, .agg C)] = some C := by
  have h := fold_fill C.toList 0 [] Z.toList Z rfl rfl (by simp [hZ, hC])
  have e : (C.zipIdx.foldl (fun (cs : Array Value) (p : Value × Nat) => cs.setIfInBounds (0 + p.2) p.1) Z) = C := by
    apply Array.ext'
    rw [← Array.foldl_toList, Array.toList_zipIdx]
    simpa using h
  simp only [Instr.fill, Value.cells, hC, hZ, Nat.zero_mul, Nat.zero_add, ne_eq, not_true, gt_iff_lt, Nat.lt_irrefl, or_self, if_false]
  simpa using e
theorem run_buildSlice1 {P : Program} {t e : TypeId} {sz bytes : Nat} {z : Value} (T : SlTy P t e sz bytes z) (hn : sz ≤ 10000) {cells : Array Value} (hc : cells.size = sz) (w : World) :
    (Instr.buildSlice t 1 #[(0, .agg cells)]).run P w = .ok (.slice (some ⟨w.heap.size, 0, none⟩) 1 1) (w.alloc (.cells cells e)) := by
  obtain ⟨i, hi, hz, rfl, rfl⟩ := T.inf
  have h0 := T.pos
  have hn' : ¬ (16777216 < i.size) := by omega
  have h0' : ¬ i.size = 0 := by omega
  have hf : Instr.fill (fun j => some (j * i.size, i.size)) (Array.map (fun x => z.cells[x % z.cells.size]!) (Array.range i.size)) [(0, .agg cells)] = some cells := fill_one (by simp) hc
  simp [Instr.buildSlice, run_underlying T.under, sizeOf, typeInfo, hi, hn', h0', zeroValue, hz, hf, newRow]
section
variable {P : Program} {o : Oper} {a : Act} {w : World} {K : Act → World → Prop} {Q : Exit → Act → World → Prop}
theorem wp_buildSlice1 {t e : TypeId} {sz bytes : Nat} {z : Value} (T : SlTy P t e sz bytes z) {ps : Array (Nat × Operand)} (ho : o.op = .buildSlice t 1 ps) (hn : sz ≤ 10000) (cells : Array Value) (hp : ps.toList.map (fun p => (p.1, a.eval p.2)) = [(0, .agg cells)]) (hc : cells.size = sz)
    (hK : K (a.put o.dst (.slice (some ⟨w.heap.size, 0, none⟩) 1 1)) (w.alloc (.cells cells e))) : o.wp P a w K Q := by
  unfold Oper.wp execOp
  have h1 := run_buildSlice1 T hn hc w
  have h2 := parts_map hp
  simp only [ho, h2, h1, Sem.run_bind, Sem.run_pure, Result.andThen_ok]
  exact hK
end
section
variable {P : Program} {k : TypeId} {α : Type} {M : KeyMk P k α} (w : World) {ops : Array Oper} {rest : List Oper} {o : Oper} {a : Act} {K : Act → World → Prop} {Q : Exit → Act → World → Prop}
theorem wp_mapStore [DecidableEq α] (m x v : Operand) (t : TypeId) (hop : o.op = Op.mapUpdate t m x v)
    (e : TypeId) (ht : P.underlying t = some (.map k e)) (b : Nat) (L : List (α × Value)) (hm : a.eval m = .map (some b)) (h : MapAt M w b L) (hl : L.length < maxLen)
    (key : α) (hkey : M.ok key) (hx : a.eval x = M.val key) (val : Value) (hv : a.eval v = val)
    (hK : ∀ w', MapAt M w' b (but L key ++ [(key, val)]) → w.mapTurned w' b → K (a.put o.dst undef) w') : o.wp P a w K Q := by
  obtain ⟨w', hrun, r1, r2⟩ := h.store ht hkey val hl
  unfold Oper.wp
  simp [execOp, hop, hm, hx, hv, hrun, Result.andThen]
  exact hK w' r1 r2
theorem wp_mapDrop [DecidableEq α] (m x : Operand) (t : TypeId) (hop : o.op = Op.call { callee := Callee.builtin Builtin.delete, args := #[m, x], argTypes := #[t, k] })
    (e : TypeId) (ht : P.underlying t = some (.map k e)) (b : Nat) (L : List (α × Value))
    (hm : a.eval m = .map (some b)) (h : MapAt M w b L) (key : α) (hkey : M.ok key) (hx : a.eval x = M.val key)
    (hK : ∀ w', MapAt M w' b (but L key) → w.mapTurned w' b → K (a.put o.dst (.tuple #[])) w') : o.wp P a w K Q := by
  obtain ⟨w', hrun, r1, r2⟩ := h.drop ht hkey o.type
  unfold Oper.wp
  simp [execOp, hop, resolve, invoke, builtin, hm, hx, hrun, Result.andThen]
  exact hK w' r1 r2
end
end Go.Proofs.Ytfnphkijalkllaa
