/- Regions that draw their order, walked in one order (over any program): pure operations first, each under what it reads alone and only as long as it may still be outstanding. No condition. -/
import Derived.Deep.RegionHeld
import Derived.Deep.Light
import Derived.KernelRfl
import Derived.Test.YtfnphkijalkllaaMapRep
namespace Go.Proofs.Ytfnphkijalkllaa
set_option linter.unusedVariables false
set_option linter.unusedSimpArgs false
open Go.RowKit

/-- Whom each operation waits for, through others too. -/
def ancs (ops : Array Oper) : List (List Nat) :=
  ops.foldl (fun (acc : List (List Nat)) o => acc ++ [(o.after.foldl (fun (r : List Nat) e => if Region.binds .any e then (e.on :: acc.getD e.on []) ++ r else r) []).eraseDups]) []
def ancOk (ops : Array Oper) (A : List (List Nat)) : Bool :=
  (List.range ops.size).all fun j => (A.getD j []).all fun k => ((ops[j]?).map fun o => o.after.any fun e => Region.binds .any e && (e.on == k || (A.getD e.on []).contains k)).getD false

abbrev Facts := List (Nat × (World → Prop))
def SOf : Facts → Nat → World → Prop
  | [], _, _ => True
  | p :: r, i, w => if p.1 == i then p.2 w else SOf r i w
/-- What must still hold behind operation j: what those read that need not have come up by then. -/
def KHeld (A : List (List Nat)) (j : Nat) : Facts → World → Prop
  | [], _ => True
  | p :: r, w => (((A.getD j []).contains p.1 || (A.getD p.1 []).contains j || p.1 == j) = true ∨ p.2 w) ∧ KHeld A j r w
theorem KHeld.sOf {A : List (List Nat)} {j : Nat} {w : World} {k : Nat} (hk : (A.getD j []).contains k = false) (hk2 : (A.getD k []).contains j = false) (hkj : k ≠ j) : ∀ {S : Facts}, KHeld A j S w → SOf S k w
  | [], _ => trivial
  | p :: r, h => by
    unfold SOf
    split
    · rename_i e
      have e := eq_of_beq e
      rcases h.1 with h1 | h1
      · rw [e, hk, hk2] at h1
        simp [hkj] at h1
      · exact h1
    · exact KHeld.sOf hk hk2 hkj h.2

theorem getD_replicate_false' (n j : Nat) : (Array.replicate n false).getD j false = false := by
  rw [Array.getD_eq_getD_getElem?]
  by_cases h : j < n <;> simp [h, Array.getElem?_replicate]
section
variable {P : Program} {ops : Array Oper} {Q : Exit → Act → World → Prop} {A : List (List Nat)} {S : Facts}

def DownC (A : List (List Nat)) (listed : Array Bool) : Prop := ∀ j, listed.getD j false = true → ∀ k ∈ A.getD j [], listed.getD k false = true

theorem ancOk_spec (h : ancOk ops A = true) {j k : Nat} (hj : j < ops.size) (hk : k ∈ A.getD j []) : ∃ o, ops[j]? = some o ∧ ∃ e ∈ o.after, Region.binds .any e = true ∧ (e.on = k ∨ k ∈ A.getD e.on []) := by
  unfold ancOk at h
  rw [List.all_eq_true] at h
  have h := h j (List.mem_range.2 hj)
  rw [List.all_eq_true] at h
  have h := h k hk
  rw [Array.getElem?_eq_getElem hj] at h ⊢
  simp only [Option.map_some, Option.getD_some, Array.any_eq_true, Bool.and_eq_true, Bool.or_eq_true] at h
  obtain ⟨i, hi, hb, hc⟩ := h
  refine ⟨_, rfl, _, Array.getElem_mem hi, hb, ?_⟩
  rcases hc with hc | hc
  · exact .inl (eq_of_beq hc)
  · exact .inr (by simpa using hc)

theorem anc_listed (hA : ancOk ops A = true) {listed : Array Bool} (hd : DownC A listed) {j : Nat} (hj : j ∈ Region.ready .any ops listed) {k : Nat} (hk : k ∈ A.getD j []) : listed.getD k false = true := by
  obtain ⟨_, o, ho, hall⟩ := mem_ready.1 hj
  obtain ⟨o', ho', e, he, hb, hc⟩ := ancOk_spec hA (Array.getElem?_eq_some_iff.1 ho).1 hk
  rw [ho] at ho'
  cases ho'
  have h1 := hall e he hb
  rcases hc with rfl | hc
  · exact h1
  · exact hd _ h1 _ hc

theorem DownC.set (hA : ancOk ops A = true) {listed : Array Bool} (hd : DownC A listed) {j : Nat} (hj : j ∈ Region.ready .any ops listed) : DownC A (listed.setIfInBounds j true) := by
  intro i hi k hk
  by_cases e : j = i
  · subst e; exact getD_set_true (anc_listed hA hd hj hk)
  · rw [getD_set_ne false e] at hi
    exact getD_set_true (hd i hi k hk)

def KKeep (A : List (List Nat)) (j : Nat) (S : Facts) (w w' : World) : Prop := ∀ k, (A.getD j []).contains k = false → (A.getD k []).contains j = false → k ≠ j → SOf S k w → SOf S k w'
theorem KHeld.keep {j : Nat} {w w' : World} (h : KHeld A j S w') : KKeep A j S w w' := fun k hk hk2 hkj _ => h.sOf hk hk2 hkj

def wpAnyK (P : Program) (ops : Array Oper) (Q : Exit → Act → World → Prop) (A : List (List Nat)) (S : Facts) : Nat → Array Bool → Act → World → Prop
  | 0, listed, a, w => Region.ready .any ops listed = [] ∧ Q .normal a w
  | fuel + 1, listed, a, w =>
    (Region.ready .any ops listed = [] → Q .normal a w) ∧
    ∀ i ∈ Region.ready .any ops listed, wpOp P ops Q i (fun a' w' => KKeep A i S w w' ∧ wpAnyK P ops Q A S fuel (listed.setIfInBounds i true) a' w') a w

theorem wpAny_of_K : ∀ (fuel : Nat) (listed : Array Bool) (a : Act) (w : World), wpAnyK P ops Q A S fuel listed a w → wpAny P .any ops Q fuel listed a w
  | 0, _, _, _, h => h
  | fuel + 1, _, _, _, h => ⟨h.1, fun i hi => wpOp_mono (fun a' w' h' => wpAny_of_K fuel _ a' w' h'.2) (h.2 i hi)⟩

theorem wpAnyK_first (hA : ancOk ops A = true) {i : Nat} {oi : Oper} {v : Value} (hi : ops[i]? = some oi) (hsel : ∀ (j : Nat) (o : Oper) cs b, ops[j]? = some o → o.op ≠ .select cs b)
    (hQ : ∀ c a w, Q (.panic c) (a.put oi.dst v) w → Q (.panic c) a w) :
    ∀ (fuel : Nat) (listed : Array Bool) (a : Act) (w : World), DownC A listed →
      (∀ j oj, ops[j]? = some oj → j ≠ i → listed.getD j true = false → (∀ e ∈ oj.after, Region.binds .any e = true → e.on ≠ i) → oi.apart ops oj = true) →
      i ∈ Region.ready .any ops listed → YieldsIf P ops (SOf S i) oi v a → SOf S i w →
      wpAnyK P ops Q A S fuel (listed.setIfInBounds i true) (a.put oi.dst v) w → wpAnyK P ops Q A S (fuel + 1) listed a w := by
  intro fuel
  induction fuel with
  | zero =>
    intro listed a w hd _ hr hy hS H
    refine ⟨fun h => (by rw [h] at hr; cases hr), fun j hj => ?_⟩
    by_cases hji : j = i
    · subst hji; exact hy.wpOp hi hS ⟨fun _ _ _ _ h => h, H⟩
    · have := ready_mono hj hji
      rw [H.1] at this
      cases this
  | succ fuel ih =>
    intro listed a w hd hfree hr hy hS H
    refine ⟨fun h => (by rw [h] at hr; cases hr), fun j hj => ?_⟩
    by_cases hji : j = i
    · subst hji; exact hy.wpOp hi hS ⟨fun _ _ _ _ h => h, H⟩
    · have h1 := H.2 j (ready_mono hj hji)
      obtain ⟨hjun, oj, hoj, hall⟩ := mem_ready.1 hj
      have h0 := (mem_ready.1 hr).1
      have h0' : ¬ listed.getD i false = true := fun e => by
        rcases Nat.lt_or_ge i listed.size with h' | h'
        · simp [h'] at h0 e; rw [h0] at e; cases e
        · simp [Array.getElem?_eq_none h'] at e
      have hnot : ∀ e ∈ oj.after, Region.binds .any e = true → e.on ≠ i := fun e he hb heq => by
        have h1 := hall e he hb
        rw [heq] at h1
        exact h0' h1
      have hanc : (A.getD j []).contains i = false := by
        cases hc : (A.getD j []).contains i with
        | false => rfl
        | true => exact absurd (anc_listed hA hd hj (by simpa using hc)) h0'
      have hanc2 : (A.getD i []).contains j = false := by
        cases hc : (A.getD i []).contains j with
        | false => rfl
        | true =>
          have h3 := anc_listed hA hd hr (k := j) (by simpa using hc)
          rcases Nat.lt_or_ge j listed.size with h' | h'
          · simp [h'] at hjun h3; rw [hjun] at h3; cases h3
          · simp [Array.getElem?_eq_none h'] at h3
      have h2 := wpOp_putIf hoj (hfree j oj hoj hji hjun hnot) (fun cs b => hsel i oi cs b hi) (fun cs b => hsel j oj cs b hoj) hQ hy h1
      have hfree' : ∀ k ok, ops[k]? = some ok → k ≠ i → (listed.setIfInBounds j true).getD k true = false →
          (∀ e ∈ ok.after, Region.binds .any e = true → e.on ≠ i) → oi.apart ops ok = true := fun k ok hk hki hun hno => by
        refine hfree k ok hk hki ?_ hno
        by_cases hjk : j = k
        · subst hjk; exact hjun
        · rw [getD_set_ne true hjk] at hun; exact hun
      refine wpOp_mono (fun a' w' h3 => ⟨h3.2.1, ih (listed.setIfInBounds j true) a' w' (hd.set hA hj) hfree' (ready_mono hr (Ne.symm hji)) h3.1 (h3.2.1 i hanc hanc2 (Ne.symm hji) hS) ?_⟩) h2
      rw [Array.setIfInBounds_comm _ _ hji]
      exact h3.2.2

/-- What the walk goes by. -/
structure KGo (P : Program) (ops : Array Oper) (Q : Exit → Act → World → Prop) (A : List (List Nat)) (S : Facts) (fuel : Nat) (listed : Array Bool) (a : Act) (w : World) : Prop where
  go : ancOk ops A = true → DownC A listed → wpAnyK P ops Q A S fuel listed a w

theorem kr_start {id : Nat} {a : Act} {w : World} (S : Facts) (hm : P.follows .mixedOrders = true) (hA : ancOk ops (ancs ops) = true)
    (h : KGo P ops Q (ancs ops) S ops.size (Array.replicate ops.size false) a w.drew) : (Code.region id ops true).wp P Q a w :=
  wp_region_any hm (wpAny_of_K _ _ _ _ (h.go hA (fun j hj => by rw [getD_replicate_false'] at hj; cases hj)))

/-- A pure operation comes first: it yields v wherever its facts hold, and they hold now. -/
theorem kr_take (i : Nat) {oi : Oper} {v : Value} {fuel : Nat} {listed : Array Bool} {a : Act} {w : World} (hi : ops[i]? = some oi)
    (hs : Region.noSelect ops = true) (hf : Region.free .any ops listed i = true) (hr : (Region.ready .any ops listed).contains i = true)
    (hQ : ∀ c a w, Q (.panic c) (a.put oi.dst v) w → Q (.panic c) a w) (hy : YieldsIf P ops (SOf S i) oi v a) (hS : SOf S i w)
    (h : KGo P ops Q A S fuel (listed.setIfInBounds i true) (a.put oi.dst v) w) : KGo P ops Q A S (fuel + 1) listed a w := ⟨fun hA hd =>
  wpAnyK_first hA hi (Region.noSelect_spec hs) hQ fuel listed a w hd (Region.free_spec hi hf) (by simpa using hr) hy hS (h.go hA (hd.set hA (by simpa using hr)))⟩
/-- The same; the walk finds the value. -/
theorem kr_find (i : Nat) {oi : Oper} {fuel : Nat} {listed : Array Bool} {a : Act} {w : World} (hi : ops[i]? = some oi)
    (hs : Region.noSelect ops = true) (hf : Region.free .any ops listed i = true) (hr : (Region.ready .any ops listed).contains i = true)
    (hQ : ∀ v c a w, Q (.panic c) (a.put oi.dst v) w → Q (.panic c) a w) (hw : Region.wanted oi (yielded ops a.tmps) = true) (hS : SOf S i w)
    (h : ∃ v, (∀ w' : World, SOf S i w' → ∀ K : Result Next → Prop, Shut (K (.ok (.value v) w')) → K ((execOp a.eval oi).run P w')) ∧ KGo P ops Q A S fuel (listed.setIfInBounds i true) (a.put oi.dst v) w) : KGo P ops Q A S (fuel + 1) listed a w := by
  obtain ⟨v, h1, h2⟩ := h
  exact kr_take i hi hs hf hr (hQ v) (.inl ⟨hw, fun w' hT => h1 w' hT (fun r => r = .ok (.value v) w') rfl⟩) hS h2

def KAll (P : Program) (ops : Array Oper) (Q : Exit → Act → World → Prop) (A : List (List Nat)) (S : Facts) (fuel : Nat) (listed : Array Bool) (a : Act) (w : World) (rs : List Nat) : Prop :=
  ∀ i ∈ rs, wpOp P ops Q i (fun a' w' => KHeld A i S w' ∧ KGo P ops Q A S fuel (listed.setIfInBounds i true) a' w') a w
theorem KAll.nil {fuel : Nat} {listed : Array Bool} {a : Act} {w : World} : KAll P ops Q A S fuel listed a w [] := fun _ h => by cases h
theorem KAll.cons {fuel : Nat} {listed : Array Bool} {a : Act} {w : World} {i : Nat} {o : Oper} {rs : List Nat} (ho : ops[i]? = some o)
    (h : ∀ K' : Act → World → Prop, Shut (∀ a w, KHeld A i S w → KGo P ops Q A S fuel (listed.setIfInBounds i true) a w → K' a w) → if Region.wanted o (yielded ops a.tmps) = true then Oper.wp P o a w K' Q else K' (a.put o.dst undef) w)
    (hs : KAll P ops Q A S fuel listed a w rs) : KAll P ops Q A S fuel listed a w (i :: rs) := fun j hj => by
  rcases List.mem_cons.1 hj with rfl | hj
  · exact wpOp_step ho (fun K' hK => h K' (fun a w hS hW => hK a w ⟨hS, hW⟩))
  · exact hs j hj
/-- Whichever comes up of those that may. -/
theorem kr_ready {rs : List Nat} {fuel : Nat} {listed : Array Bool} {a : Act} {w : World} (hr : Region.ready .any ops listed = rs) (hne : rs ≠ [])
    (h : KAll P ops Q A S fuel listed a w rs) : KGo P ops Q A S (fuel + 1) listed a w := ⟨fun hA hd =>
  ⟨fun h0 => absurd (hr ▸ h0) hne, fun i hi => wpOp_mono (fun a' w' h' => ⟨h'.1.keep, h'.2.go hA (hd.set hA hi)⟩) (h i (hr ▸ hi))⟩⟩
/-- Just one may come up. -/
theorem kr_one (i : Nat) {o : Oper} {fuel : Nat} {listed : Array Bool} {a : Act} {w : World} (hr : Region.ready .any ops listed = [i]) (ho : ops[i]? = some o)
    (hw : Region.wanted o (yielded ops a.tmps) = true)
    (h : ∀ K' : Act → World → Prop, Shut (∀ a w, KHeld A i S w → KGo P ops Q A S fuel (listed.setIfInBounds i true) a w → K' a w) → Oper.wp P o a w K' Q) : KGo P ops Q A S (fuel + 1) listed a w :=
  kr_ready hr (by simp) (KAll.cons ho (fun K' hK => by rw [if_pos hw]; exact h K' hK) KAll.nil)
theorem kr_done {listed : Array Bool} {a : Act} {w : World} (hr : Region.ready .any ops listed = []) (h : Q .normal a w) :
    ∀ fuel, KGo P ops Q A S fuel listed a w
  | 0 => ⟨fun _ _ => ⟨hr, h⟩⟩
  | _ + 1 => ⟨fun _ _ => ⟨fun _ => h, by rw [hr]; simp⟩⟩

/-- A pure operation's value, found by the walk itself. -/
theorem kr_val {T : World → Prop} {o : Oper} {v : Value} {a : Act} (hw : Region.wanted o (yielded ops a.tmps) = true)
    (h : ∀ w' : World, T w' → ∀ K : Result Next → Prop, Shut (K (.ok (.value v) w')) → K ((execOp a.eval o).run P w')) : YieldsIf P ops T o v a :=
  .inl ⟨hw, fun w' hT => h w' hT (fun r => r = .ok (.value v) w') rfl⟩
theorem kr_not {T : World → Prop} {o : Oper} {a : Act} (hw : Region.wanted o (yielded ops a.tmps) = false) : YieldsIf P ops T o undef a := .inr ⟨hw, rfl⟩
theorem kr_slice {T : World → Prop} {o : Oper} {a : Act} (hg : o.guard = none) {t : TypeId} {x lo : Operand} (ho : o.op = .slice t x (some lo) none none) {v v' : Value} {k : Nat} (hx : a.eval x = v) (hl : a.eval lo = .int .i64 k)
    (hrun : ∀ w' : World, (Instr.sliceAt t v (some (.int .i64 k)) none none).run P w' = .ok v' w') : YieldsIf P ops T o v' a :=
  .inl ⟨by simp [Region.wanted, hg], fun w' _ => by unfold execOp; simp [ho, hx, hl, hrun, Result.andThen]⟩
theorem kr_sliceTo {T : World → Prop} {o : Oper} {a : Act} (hg : o.guard = none) {t : TypeId} {x hi : Operand} (ho : o.op = .slice t x none (some hi) none) {v v' : Value} {k : Nat} (hx : a.eval x = v) (hl : a.eval hi = .int .i64 k)
    (hrun : ∀ w' : World, (Instr.sliceAt t v none (some (.int .i64 k)) none).run P w' = .ok v' w') : YieldsIf P ops T o v' a :=
  .inl ⟨by simp [Region.wanted, hg], fun w' _ => by unfold execOp; simp [ho, hx, hl, hrun, Result.andThen]⟩
theorem kr_run {T : World → Prop} {o : Oper} {a : Act} {v : Value} (hg : o.guard = none) (hrun : ∀ w' : World, T w' → (execOp a.eval o).run P w' = .ok (.value v) w') : YieldsIf P ops T o v a :=
  .inl ⟨by simp [Region.wanted, hg], hrun⟩
end
end Go.Proofs.Ytfnphkijalkllaa
