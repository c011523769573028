/- '==' of flat values (structs and arrays of integers and bools, over any program) as one Bool. No condition. -/
import Derived.Test.YtfnphkijalkllaaLawOpen
import Derived.DeepKeys
import Derived.Laws.StructEq
namespace Go.Proofs.Ytfnphkijalkllaa
open Go.ChangeShapes Go.WideShapes Go.RowKit

def litOf : Value → Lit
  | .int k n => .int k n
  | .bool b => .bool b
  | _ => .nil

theorem FitsL.take_drop : ∀ {ks : List (Option IntKind)} {vs : List Value}, FitsL ks vs → ∀ (i c : Nat), FitsL ((ks.drop i).take c) ((vs.drop i).take c)
  | [], [], _, i, c => by simp; trivial
  | k :: ks, v :: vs, h, 0, 0 => by simp; trivial
  | k :: ks, v :: vs, h, 0, c + 1 => by
    have := h.2.take_drop 0 c
    simp only [List.drop_zero] at this
    simp only [List.drop_zero, List.take_succ_cons]
    exact ⟨h.1, this⟩
  | k :: ks, v :: vs, h, i + 1, c => by
    simp only [List.drop_succ_cons]
    exact h.2.take_drop i c
  | [], _ :: _, h, _, _ => h.elim
  | _ :: _, [], h, _, _ => h.elim
theorem FitsL.drop {ks : List (Option IntKind)} {vs : List Value} (h : FitsL ks vs) (i : Nat) : FitsL (ks.drop i) (vs.drop i) := by
  have := h.take_drop i (max ks.length vs.length)
  rwa [List.take_of_length_le (by simp; omega), List.take_of_length_le (by simp; omega)] at this
theorem litOf_inj : ∀ {ks : List (Option IntKind)} {xs ys : List Value}, FitsL ks xs → FitsL ks ys → xs.map litOf = ys.map litOf → xs = ys
  | [], [], [], _, _, _ => rfl
  | k :: ks, x :: xs, y :: ys, h, h', e => by
    simp only [List.map_cons, List.cons.injEq] at e
    rw [litOf_inj h.2 h'.2 e.2]
    congr 1
    cases k with
    | none =>
      obtain ⟨b, rfl⟩ := h.1
      obtain ⟨c, rfl⟩ := h'.1
      have := e.1
      simp only [litOf, Lit.bool.injEq] at this
      rw [this]
    | some k =>
      obtain ⟨b, rfl, _⟩ := h.1
      obtain ⟨c, rfl, _⟩ := h'.1
      have := e.1
      simp only [litOf, Lit.int.injEq] at this
      rw [this.2]
  | [], _ :: _, _, h, _, _ => h.elim
  | [], [], _ :: _, _, h, _ => h.elim
  | _ :: _, [], _, h, _, _ => h.elim
  | _ :: _, _ :: _, [], _, h, _ => h.elim

section
variable {P : Program}

theorem mapM_pieces (c : Nat) (f : List Value → Option (List Lit)) : ∀ (n : Nat) (cs : List Value), cs.length = n * c → (∀ i, i < n → f ((cs.drop (i * c)).take c) = some (((cs.drop (i * c)).take c).map litOf)) →
    ((List.range n).mapM fun i => f ((cs.drop (i * c)).take c)).map List.flatten = some (cs.map litOf)
  | 0, cs, h, _ => by
    have : cs = [] := List.length_eq_zero_iff.1 (by simpa using h)
    subst this; simp
  | n + 1, cs, h, hp => by
    have ih := mapM_pieces c f n (cs.drop c) (by rw [List.length_drop, h, Nat.succ_mul]; omega) (fun i hi => by
      have := hp (i + 1) (by omega)
      rw [List.drop_drop, show c + i * c = (i + 1) * c by rw [Nat.succ_mul]; omega]
      exact this)
    have h0 := hp 0 (by omega)
    rw [List.range_succ_eq_map, List.mapM_cons, h0, List.mapM_map]
    have e : ((fun i => f ((cs.drop (i * c)).take c)) ∘ Nat.succ) = fun i => f (((cs.drop c).drop (i * c)).take c) := by
      funext i
      simp only [Function.comp, List.drop_drop]
      rw [show c + i * c = Nat.succ i * c by rw [Nat.succ_mul]; omega]
    rw [e]
    obtain ⟨l, hl, hfl⟩ := Option.map_eq_some_iff.1 ih
    rw [hl]
    simp only [Option.bind_eq_bind, Option.bind_some, Option.pure_def, Option.map_some, List.flatten_cons, hfl, Nat.zero_mul, List.drop_zero, ← List.map_append, List.take_append_drop]

theorem flat_lits : ∀ (d : Nat) (t : TypeId) (ks : List (Option IntKind)), flatK P d t = some ks → ∀ cs : List Value, FitsL ks cs → P.keyLits d t cs = some (cs.map litOf)
  | 0, _, _, h, _, _ => by cases h
  | d + 1, t, ks, h, cs, hF => by
    rw [flatK] at h
    split at h
    · rename_i hu
      cases h
      match cs, hF with
      | [v], hF =>
        obtain ⟨b, rfl⟩ := hF.1
        simp [Program.keyLits, hu, litOf]
    · rename_i k hu
      cases h
      match cs, hF with
      | [v], hF =>
        obtain ⟨n, rfl, hw⟩ := hF.1
        simp [Program.keyLits, hu, litOf, hw]
    · rename_i n e hu
      obtain ⟨l, hl, h⟩ := Option.bind_eq_some_iff.1 h
      split at h
      · rename_i hc
        cases h
        have hlen : cs.length = n * P.cellsOf e := by rw [← hF.len, List.length_flatten, List.map_replicate, List.sum_replicate_nat, hc.1]
        conv => lhs; rw [Program.keyLits.eq_def]
        simp only [hu]
        rw [if_pos (by rw [hlen, hc.2])]
        refine mapM_pieces (P.cellsOf e) (P.keyLits d e) n cs hlen fun i hi => ?_
        refine flat_lits d e l hl _ ?_
        have := hF.take_drop (i * P.cellsOf e) (P.cellsOf e)
        have e1 : ((List.replicate n l).flatten.drop (i * P.cellsOf e)).take (P.cellsOf e) = l := by
          have : (List.replicate n l).flatten = (List.replicate i l).flatten ++ (l ++ (List.replicate (n - i - 1) l).flatten) := by
            rw [← List.flatten_cons, ← List.replicate_succ, ← List.flatten_append, List.replicate_append_replicate]
            congr 2; omega
          rw [this, List.drop_left' (by rw [List.length_flatten, List.map_replicate, List.sum_replicate_nat, hc.1]), List.take_left' hc.1]
        rw [e1] at this
        exact this
      · cases h
    · rename_i fs hu
      split at h
      case isFalse => cases h
      case isTrue hnm =>
      obtain ⟨r, hr, h⟩ := Option.bind_eq_some_iff.1 h
      split at h
      case isFalse => cases h
      case isTrue hlr =>
      cases h
      have hlen : cs.length = P.cellsOf t := by rw [← hF.len, hlr]
      have key : ∀ (fl : List Field) (r : List (Option IntKind)), r.length ≤ cs.length → FitsL r (cs.drop (cs.length - r.length)) →
          fl.foldr (fun f acc => acc.bind fun r => (flatK P d f.type).bind fun l => if l.length = P.cellsOf f.type ∧ f.offset + l.length + r.length = P.cellsOf t then some (l ++ r) else none) (some []) = some r →
          (fl.mapM fun f => P.keyLits d f.type ((cs.drop f.offset).take (P.cellsOf f.type))).map List.flatten = some ((cs.drop (cs.length - r.length)).map litOf) := by
        intro fl
        induction fl with
        | nil =>
          intro r _ _ hr
          cases hr
          simp
        | cons f fl ih =>
          intro r hle hF hr
          rw [List.foldr_cons] at hr
          obtain ⟨r', hr', hr⟩ := Option.bind_eq_some_iff.1 hr
          obtain ⟨l, hl, hr⟩ := Option.bind_eq_some_iff.1 hr
          split at hr
          · rename_i hc
            cases hr
            rw [List.length_append] at hle hF ⊢
            have hoff : cs.length - (l.length + r'.length) = f.offset := by rw [hlen]; omega
            have e2 : cs.length - r'.length = f.offset + P.cellsOf f.type := by rw [hlen, ← hc.1]; omega
            rw [hoff] at hF ⊢
            have h1 := hF.take_drop 0 l.length
            rw [List.drop_zero, List.drop_zero, List.take_left, hc.1] at h1
            have h2 := hF.drop l.length
            rw [List.drop_left, List.drop_drop, hc.1, ← e2] at h2
            have ih' := ih r' (by omega) h2 hr'
            obtain ⟨m, hm, hfm⟩ := Option.map_eq_some_iff.1 ih'
            rw [List.mapM_cons, flat_lits d f.type l hl _ h1, hm]
            simp only [Option.bind_eq_bind, Option.bind_some, Option.pure_def, Option.map_some, List.flatten_cons, hfm, e2, ← List.map_append]
            rw [← List.drop_drop, List.take_append_drop]
          · cases hr
      conv => lhs; rw [Program.keyLits.eq_def]
      simp only [hu]
      rw [if_pos ⟨hlen, hnm⟩]
      have := key fs.toList ks (by rw [hF.len]; omega) (by rw [hF.len, Nat.sub_self, List.drop_zero]; exact hF) hr
      rw [hF.len, Nat.sub_self, List.drop_zero] at this
      exact this
    · cases h

/-- '==' of two flat values. -/
theorem run_equalIn_flat {t : TypeId} {ks : List (Option IntKind)} (hk : flatK P 9 t = some ks) (hkt : P.keyTypeAt 9 t = true) {xs ys : List Value} (hx : FitsL ks xs) (hy : FitsL ks ys)
    (fx : (Value.agg xs.toArray).formed P t = true) (fy : (Value.agg ys.toArray).formed P t = true) (r : Bool) (hr : r = true ↔ xs = ys) (w : World) (d : Nat) :
    (Op.equalIn (d + 9) t (.agg xs.toArray) (.agg ys.toArray)).run P w = .ok r w := by
  obtain ⟨r', hr', hiff⟩ := run_equalIn_deep d 9 t hkt w 9 9 (.agg xs.toArray) (.agg ys.toArray) _ _ fx fy (by simpa [Value.cells] using flat_lits 9 t ks hk xs hx) (by simpa [Value.cells] using flat_lits 9 t ks hk ys hy)
  rw [hr']
  congr 1
  rw [Bool.eq_iff_iff, hiff, hr]
  exact ⟨litOf_inj hx hy, fun e => by rw [e]⟩
theorem run_eql_flat {t : TypeId} {ks : List (Option IntKind)} (hk : flatK P 9 t = some ks) (hkt : P.keyTypeAt 9 t = true) {xs ys : List Value} (hx : FitsL ks xs) (hy : FitsL ks ys)
    (fx : (Value.agg xs.toArray).formed P t = true) (fy : (Value.agg ys.toArray).formed P t = true) (r : Bool) (hr : r = true ↔ xs = ys) (w : World) :
    (binOp .eql t (.agg xs.toArray) (.agg ys.toArray)).run P w = .ok (.bool r) w := by
  rw [run_eql_struct, show (10000 : Nat) = 9991 + 9 from rfl, run_equalIn_flat hk hkt hx hy fx fy r hr]
  rfl
theorem run_neq_flat {t : TypeId} {ks : List (Option IntKind)} (hk : flatK P 9 t = some ks) (hkt : P.keyTypeAt 9 t = true) {xs ys : List Value} (hx : FitsL ks xs) (hy : FitsL ks ys)
    (fx : (Value.agg xs.toArray).formed P t = true) (fy : (Value.agg ys.toArray).formed P t = true) (r : Bool) (hr : r = true ↔ xs = ys) (w : World) :
    (binOp .neq t (.agg xs.toArray) (.agg ys.toArray)).run P w = .ok (.bool (!r)) w := by
  rw [run_neq_struct, show (10000 : Nat) = 9991 + 9 from rfl, run_equalIn_flat hk hkt hx hy fx fy r hr]
  rfl
end
end Go.Proofs.Ytfnphkijalkllaa
