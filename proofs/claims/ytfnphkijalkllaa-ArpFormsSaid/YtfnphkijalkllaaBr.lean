/- A region that draws its order, walked in one order (text Kr), in a round's frame or under a fence that lets all through; a scope without a goto under a fence. No condition. -/
import Derived.Test.YtfnphkijalkllaaUt
import Derived.RangeFuncNested
import Derived.RangeFuncBound
import Derived.RangeFuncCalls
import Derived.RangeFuncLeaves
import Derived.Shelf.Abstract
import Derived.Shelf.RegionOpen
import Derived.OwnWalkIn
import Derived.TacticsInMore
import Derived.LoopNIn
import Derived.LoopIn
import Derived.Scope
namespace Go.Proofs.Ytfnphkijalkllaa
set_option linter.unusedVariables false
set_option linter.unusedSimpArgs false
open Go.RowKit Go.Shelf
section
open Go
variable {F : Fence} {n : Nat} {P : Program} {Q : Exit → Act → World → Prop} {a : Act} {w : World}
theorem stepR_scope {b : Frame} {k : List Item} {cs : List Frame} {c : Code} : step P (lone (b.atR a (.code (.scope c) :: k)) cs w) = .next (lone (b.atR a (.code c :: .inScope c :: k)) cs w) :=
  step_lone_go (by simp [stepG, stepG.exec, Frame.atR])
theorem stepR_inScope {b : Frame} {k : List Item} {cs : List Frame} {c : Code} : step P (lone (b.atR a (.inScope c :: k)) cs w) = .next (lone (b.atR a k) cs w) :=
  step_lone_go (by simp [stepG, stepG.exec, Frame.atR])
/-- A scope through which the run goes without a goto, inside a fence. -/
theorem wpIn_scope_straight {c : Code} (h : c.wpIn F n P (Exit.noGoto Q) a w) : (Code.scope c).wpIn F n P Q a w := by
  intro b k cs hro hb hr
  have h0 : (lone (b.atR a (.code (.scope c) :: k)) cs w).fenced P F := fenced_calm hb hr rfl
  obtain ⟨e, a₁, w₁, hq, harr⟩ := h b (.inScope c :: k) cs hro hb hr
  cases e with
  | normal => exact ⟨.normal, a₁, w₁, hq, .head h0 stepR_scope (StepsIn.trans harr (.one (fenced_calm hb hr rfl) stepR_inScope))⟩
  | exit id =>
    have hx : exitTo id (.inScope c :: k) = exitTo id k := by simp [exitTo]
    exact ⟨.exit id, a₁, w₁, hq, fun k' hk => .head h0 stepR_scope (harr.1 k' (by rw [hx]; exact hk)),
      fun hr' hk => let ⟨k₁, h1, h2⟩ := harr.2 hr' (by rw [hx]; exact hk); ⟨k₁, h1, .head h0 stepR_scope h2⟩⟩
  | goto l => exact hq.elim
  | ret => exact ⟨_, a₁, w₁, hq, .of_steps (.one h0 stepR_scope) harr⟩
  | panic ch => exact ⟨_, a₁, w₁, hq, .of_steps (.one h0 stepR_scope) harr⟩
  | outgrown => exact ⟨_, a₁, w₁, hq, .of_steps (.one h0 stepR_scope) harr⟩
end
theorem noGoto_normal' {Q : Exit → Act → World → Prop} {a : Act} {w : World} : Exit.noGoto Q .normal a w = Q .normal a w := by unfold Exit.noGoto; rfl
theorem noGoto_ret' {Q : Exit → Act → World → Prop} {a : Act} {w : World} : Exit.noGoto Q .ret a w = Q .ret a w := by unfold Exit.noGoto; rfl
theorem Fr.putObj {S : Nat → Prop} {w W : World} (h : Fr S w W) {D : Nat} {o : Obj} (o' : Obj) (hD : w.heap.size ≤ D) (hK : W.heap[D]? = some o) : Fr S w (W.putObj D o') :=
  h.grown (grownBy_putObj' W D o') (fun r e hr => by cases e; omega)
section
variable {P : Program} {ops : Array Oper} {Q : Exit → Act → World → Prop}
/-- Nothing but the normal way out. -/
def OutN (Q : Exit → Act → World → Prop) : Exit → Act → World → Prop
  | .normal, a, w => Q .normal a w
  | _, _, _ => False
theorem outN_ok {a : Act} {w : World} (h : Q .normal a w) : OutN Q .normal a w := h
theorem outN_not : ¬ LetsOut (OutN Q) := fun ⟨_, _, h⟩ => h
def noDefer (o : Oper) : Bool := match o.op with | .defer _ => false | _ => true
theorem noDefer_spec {o : Oper} (h : noDefer o = true) : ∀ c, o.op ≠ .defer c := fun c e => by unfold noDefer at h; rw [e] at h; cases h
/-- The fence of a walk that lets all through, in a round or in none. -/
def wideAt (l : Option Nat) : Fence := { Fence.wide with round := l }
theorem wideAt_some (l : Nat) : wideAt (some l) = Fence.wide.inRound l := rfl
theorem wideAt_none : wideAt none = Fence.wide := rfl
theorem calls_wideAt {l : Option Nat} {n : Nat} {f : FuncId} {args : Array Value} {w : World} {R : Ending → World → Prop} (h : Calls P f args w R) : CallsIn (wideAt l) n P f args w R :=
  (callsIn_wide (n := n)).2 h
theorem rows_wideAt {l : Option Nat} {n : Nat} {row : String} {args : Array Value} {w : World} {R : Value → World → Prop} (h : Rows P row args w R) : RowsIn (wideAt l) n P row args w R :=
  fun c cs _ => let ⟨v, w', r, s⟩ := h c cs; ⟨v, w', r, stepsIn_wide.2 s⟩
theorem wpOpIn_wideAt {l : Option Nat} {n i : Nat} {K K' : Act → World → Prop} (hK : ∀ a w, K a w → K' a w) (hd : ∀ o, ops[i]? = some o → noDefer o = true) {a : Act} {w : World} (h : wpOp P ops (OutN Q) i K a w) : wpOpIn (wideAt l) n P ops Q i K' a w := by
  unfold wpOp at h
  unfold wpOpIn
  cases ho : ops[i]? with
  | none => rw [ho] at h; exact hK _ _ h
  | some o =>
    rw [ho] at h
    simp only at h ⊢
    have hnd := noDefer_spec (hd o ho)
    split
    · rename_i hw
      rw [if_pos hw] at h
      rcases h with h | h
      · refine ⟨fun f _ => trivial, ?_⟩
        unfold Oper.wp at h
        rw [Oper.semAt_eq _ _ _ hnd]
        generalize (execOp a.eval o).run P w = r at h ⊢
        cases r with
        | ok x w' =>
          cases x with
          | value v => exact hK _ _ h
          | skip => exact hK _ _ h
          | defer d => exact hK _ _ h
          | enter f args =>
            refine ⟨(fun e => by cases e), calls_wideAt ((show Calls P f args w' _ from h).mono fun e w'' he => ?_)⟩
            cases e with
            | returned v => exact hK _ _ he
            | panicked c => exact he.elim
            | outgrown => exact absurd he outN_not
          | row row args => exact ⟨(fun e => by cases e), rows_wideAt (Rows.mono h fun v w'' he => hK _ _ he)⟩
          | _ => exact h.elim
        | halt x w' => cases x <;> exact h.elim
      · exact absurd h.2 outN_not
    · rename_i hw
      rw [if_neg hw] at h
      exact ⟨fun f _ => trivial, hK _ _ h⟩
theorem wpAnyIn_wideAt {l : Option Nat} {n : Nat} {md : Region.Mode} (hd : ∀ (i : Nat) (o : Oper), ops[i]? = some o → noDefer o = true) : ∀ (fuel : Nat) (listed : Array Bool) (a : Act) (w : World), wpAny P md ops (OutN Q) fuel listed a w → wpAnyIn (wideAt l) n P md ops Q fuel listed a w
  | 0, _, _, _, h => h
  | fuel + 1, _, _, _, h => ⟨h.1, fun i hi => wpOpIn_wideAt (fun a' w' h' => wpAnyIn_wideAt hd fuel _ a' w' h') (hd i) (h.2 i hi)⟩
theorem noDefer_all {ops : Array Oper} (h : ops.all noDefer = true) : ∀ (i : Nat) (o : Oper), ops[i]? = some o → noDefer o = true := fun i o ho => by
  rw [Array.all_eq_true] at h
  obtain ⟨hl, rfl⟩ := Array.getElem?_eq_some_iff.1 ho
  exact h i hl
theorem kr_in {id n : Nat} (l : Option Nat) {a : Act} {w : World} (S : Facts) (hm : P.follows .mixedOrders = true) (hA : ancOk ops (ancs ops) = true) (hd : ops.all noDefer = true)
    (h : KGo P ops (OutN Q) (ancs ops) S ops.size (Array.replicate ops.size false) a w.drew) : (Code.region id ops true).wpIn (wideAt l) n P Q a w :=
  wpIn_region_any hm (wpAnyIn_wideAt (noDefer_all hd) _ _ _ _ (wpAny_of_K _ _ _ _ (h.go hA (fun j hj => by rw [getD_replicate_false'] at hj; cases hj))))
theorem kr_inRound {id n : Nat} (l : Nat) {a : Act} {w : World} (S : Facts) (hm : P.follows .mixedOrders = true) (hA : ancOk ops (ancs ops) = true) (hd : ops.all noDefer = true)
    (h : KGo P ops (OutN Q) (ancs ops) S ops.size (Array.replicate ops.size false) a w.drew) : (Code.region id ops true).wpIn (Fence.wide.inRound l) n P Q a w := kr_in (some l) S hm hA hd h
theorem kr_inWide {id n : Nat} {a : Act} {w : World} (S : Facts) (hm : P.follows .mixedOrders = true) (hA : ancOk ops (ancs ops) = true) (hd : ops.all noDefer = true)
    (h : KGo P ops (OutN Q) (ancs ops) S ops.size (Array.replicate ops.size false) a w.drew) : (Code.region id ops true).wpIn Fence.wide n P Q a w := kr_in none S hm hA hd h
end
end Go.Proofs.Ytfnphkijalkllaa
