/- Laws for single operations on slices and maps that the call owns (over any program). No condition. -/
import Derived.Test.YtcfadmjihccimaaSl
import Derived.Test.YtcfadmjihccimaaKr
namespace Go.Proofs.Ytcfadmjihccimaa
set_option linter.unusedVariables false
set_option linter.unusedSimpArgs false
open Go.RowKit

section
variable {P : Program} {w : World} {o : Oper} {a : Act} {K : Act → World → Prop} {Q : Exit → Act → World → Prop} {ops : Array Oper} {rest : List Oper}
theorem wp_append_sl {base : Nat} {t tx e : TypeId} {sz bytes : Nat} {z : Value} (s x : Operand)
    (ho : o.op = .call { callee := .builtin .append, args := #[s, x], argTypes := #[t, tx] }) (T : SlTy P t e sz bytes z) (v : Value) (n : Nat) (cs : List Value) (hs : a.eval s = v) (h : Sl base e sz w v n cs)
    (y : Value) (m : Nat) (news : List Value) (hx : a.eval x = y) (hy : Src P sz tx y m news w) (h63 : n + m ≤ maxLen) (hbytes : (n + m) * bytes ≤ 140737488355328) (hbase : base ≤ w.heap.size)
    (hK : ∀ v' w', Sl base e sz w' v' (n + m) (cs ++ news) → w.grownBy w' v.ownBlock → (v'.ownBlock = v.ownBlock ∨ v'.ownBlock = some w.heap.size) → (v' = .slice none 0 0 ↔ v = .slice none 0 0 ∧ m = 0) → K (a.put o.dst v') w') : o.wp P a w K Q := by
  obtain ⟨v', w', hr, h1, h2, h3, h4⟩ := h.append T hy h63 hbytes hbase o.type
  unfold Oper.wp execOp
  simp only [ho, resolve, invoke, builtin, Sem.run_bind, Sem.run_pure, Result.andThen_ok, List.map_toArray, List.map_cons, List.map_nil, hs, hx, hr]
  exact hK v' w' h1 h2 h3 h4
theorem wpList_append_sl {base : Nat} {t tx e : TypeId} {sz bytes : Nat} {z : Value} (hgd : o.guard = none) (s x : Operand)
    (ho : o.op = .call { callee := .builtin .append, args := #[s, x], argTypes := #[t, tx] }) (T : SlTy P t e sz bytes z) (v : Value) (n : Nat) (cs : List Value) (hs : a.eval s = v) (h : Sl base e sz w v n cs)
    (y : Value) (m : Nat) (news : List Value) (hx : a.eval x = y) (hy : Src P sz tx y m news w) (h63 : n + m ≤ maxLen) (hbytes : (n + m) * bytes ≤ 140737488355328) (hbase : base ≤ w.heap.size)
    (hK : ∀ v' w', Sl base e sz w' v' (n + m) (cs ++ news) → w.grownBy w' v.ownBlock → (v'.ownBlock = v.ownBlock ∨ v'.ownBlock = some w.heap.size) → (v' = .slice none 0 0 ↔ v = .slice none 0 0 ∧ m = 0) → wpList P ops Q rest (a.put o.dst v') w') : wpList P ops Q (o :: rest) a w :=
  wpList_plain hgd fun _ h' => wp_append_sl s x ho T v n cs hs h y m news hx hy h63 hbytes hbase (fun v' w' k1 k2 k3 k4 => h' _ _ (hK v' w' k1 k2 k3 k4))
theorem wpList_slice {t : TypeId} (hgd : o.guard = none) (x lo : Operand) (ho : o.op = .slice t x (some lo) none none) {v v' : Value} {k : Nat} (hx : a.eval x = v) (hl : a.eval lo = .int .i64 k)
    (hrun : ∀ w' : World, (Instr.sliceAt t v (some (.int .i64 k)) none none).run P w' = .ok v' w') (hK : wpList P ops Q rest (a.put o.dst v') w) : wpList P ops Q (o :: rest) a w := by
  refine wpList_plain hgd fun K' hK' => ?_
  unfold Oper.wp execOp
  simp [ho, hx, hl, hrun, Result.andThen]
  exact hK' _ _ hK
theorem wpList_sliceTo {t : TypeId} (hgd : o.guard = none) (x hi : Operand) (ho : o.op = .slice t x none (some hi) none) {v v' : Value} {k : Nat} (hx : a.eval x = v) (hl : a.eval hi = .int .i64 k)
    (hrun : ∀ w' : World, (Instr.sliceAt t v none (some (.int .i64 k)) none).run P w' = .ok v' w') (hK : wpList P ops Q rest (a.put o.dst v') w) : wpList P ops Q (o :: rest) a w := by
  refine wpList_plain hgd fun K' hK' => ?_
  unfold Oper.wp execOp
  simp [ho, hx, hl, hrun, Result.andThen]
  exact hK' _ _ hK
end

section
variable {P : Program} {k : TypeId} {α : Type} {M : KeyMk P k α} (w : World) {ops : Array Oper} {rest : List Oper} {o : Oper} {a : Act} {K : Act → World → Prop} {Q : Exit → Act → World → Prop}
theorem wp_mapStore [DecidableEq α] (m x v : Operand) (t : TypeId) (hop : o.op = Op.mapUpdate t m x v)
    (e : TypeId) (ht : P.underlying t = some (.map k e)) (b : Nat) (L : List (α × Value)) (hm : a.eval m = .map (some b)) (h : MapAt M w b L) (hl : L.length < maxLen)
    (key : α) (hkey : M.ok key) (hx : a.eval x = M.val key) (val : Value) (hv : a.eval v = val)
    (hK : ∀ w', MapAt M w' b (but L key ++ [(key, val)]) → w.mapTurned w' b → K (a.put o.dst undef) w') : o.wp P a w K Q := by
  obtain ⟨w', hrun, r1, r2⟩ := h.store ht hkey val hl
  unfold Oper.wp
  simp [execOp, hop, hm, hx, hv, hrun, Result.andThen]
  exact hK w' r1 r2
theorem wp_mapDrop [DecidableEq α] (m x : Operand) (t : TypeId) (hop : o.op = Op.call { callee := Callee.builtin Builtin.delete, args := #[m, x], argTypes := #[t, k] })
    (e : TypeId) (ht : P.underlying t = some (.map k e)) (b : Nat) (L : List (α × Value))
    (hm : a.eval m = .map (some b)) (h : MapAt M w b L) (key : α) (hkey : M.ok key) (hx : a.eval x = M.val key)
    (hK : ∀ w', MapAt M w' b (but L key) → w.mapTurned w' b → K (a.put o.dst (.tuple #[])) w') : o.wp P a w K Q := by
  obtain ⟨w', hrun, r1, r2⟩ := h.drop ht hkey o.type
  unfold Oper.wp
  simp [execOp, hop, resolve, invoke, builtin, hm, hx, hrun, Result.andThen]
  exact hK w' r1 r2
end
end Go.Proofs.Ytcfadmjihccimaa
