/- Laws of single operations for the walks: guarded loads of rows, '==' and '!=' of structs and arrays whose answer is known (over any program). No condition. -/
import Derived.Deep.MidRow
import Derived.Laws.StructEq
import Derived.Test.YtfnphkijalkllaaKw
namespace Go.Proofs.Ytfnphkijalkllaa
set_option linter.unusedVariables false
set_option linter.unusedSimpArgs false
open Go.RowKit
section
variable {P : Program} {ops : Array Oper} {rest : List Oper} {o : Oper} {a : Act} {w : World} {K : Act → World → Prop} {Q : Exit → Act → World → Prop}
/-- An operation of a plain region that is wanted (guarded or not). -/
theorem wpList_when (hw : Region.wanted o (yielded ops a.tmps) = true) (h : o.wp P a w (fun a w => wpList P ops Q rest a w) Q) : wpList P ops Q (o :: rest) a w := by
  unfold wpList
  rw [if_pos hw]
  exact Or.inl h
theorem wpList_load_when (hw : Region.wanted o (yielded ops a.tmps) = true) (ty : TypeId) (x : Operand) (ho : o.op = .load ty x)
    (b k : Nat) (hx : a.eval x = .pointer (some ⟨b, k, none⟩)) (cs : List Value) (d : TypeDesc) (hc : w.rangeAt b k cs)
    (hu : P.underlying ty = some d) (hd : d.isRow = true) (hi : (P.info? ty).map (·.size) = some cs.length)
    (h : wpList P ops Q rest (a.put o.dst (.agg cs.toArray)) w) : wpList P ops Q (o :: rest) a w :=
  wpList_when hw (wp_load_mid ty x ho b k hx cs d hc hu hd hi h)
theorem wp_bin_agg (b : BinOp) (t t2 : TypeId) (x y : Operand) (ho : o.op = .binOp b t x y t2) {xs ys : Array Value} (hx : a.eval x = .agg xs) (hy : a.eval y = .agg ys) (hm : P.eqGuardType P.depth t = false)
    (v : Value) (hr : (binOp b t (.agg xs) (.agg ys)).run P w = .ok v w) (h : K (a.put o.dst v) w) : o.wp P a w K Q := by
  unfold Oper.wp execOp
  simp only [ho, hx, hy, Sem.run_bind, run_eqGuard_agg w b t x y xs ys hm, Result.andThen_ok, hr, Sem.run_pure]
  exact h
theorem wpList_bin_agg (hw : Region.wanted o (yielded ops a.tmps) = true) (b : BinOp) (t t2 : TypeId) (x y : Operand) (ho : o.op = .binOp b t x y t2) {xs ys : Array Value} (hx : a.eval x = .agg xs) (hy : a.eval y = .agg ys) (hm : P.eqGuardType P.depth t = false)
    (v : Value) (hr : (binOp b t (.agg xs) (.agg ys)).run P w = .ok v w) (h : wpList P ops Q rest (a.put o.dst v) w) : wpList P ops Q (o :: rest) a w :=
  wpList_when hw (wp_bin_agg b t t2 x y ho hx hy hm v hr h)
/-- '==' or '!=' of two aggregates in a region that draws its order. -/
theorem kr_bin_agg {T : World → Prop} (hw : Region.wanted o (yielded ops a.tmps) = true) (b : BinOp) (t t2 : TypeId) (x y : Operand) (ho : o.op = .binOp b t x y t2) {xs ys : Array Value} (hx : a.eval x = .agg xs) (hy : a.eval y = .agg ys) (hm : P.eqGuardType P.depth t = false)
    (v : Value) (hr : ∀ w : World, (binOp b t (.agg xs) (.agg ys)).run P w = .ok v w) : YieldsIf P ops T o v a :=
  .inl ⟨hw, fun w' _ => by
    unfold execOp
    simp only [ho, hx, hy, Sem.run_bind, run_eqGuard_agg w' b t x y xs ys hm, Result.andThen_ok, hr w', Sem.run_pure]⟩
end
end Go.Proofs.Ytfnphkijalkllaa
