/- Small things on blocks and frames (over any program). No condition. -/
import Derived.Test.YtfnphkijalkllaaKx
import Derived.Test.YtfnphkijalkllaaFlatEq
namespace Go.Proofs.Ytfnphkijalkllaa
set_option linter.unusedVariables false
set_option linter.unusedSimpArgs false
open Go.RowKit
theorem cells_at (w : World) (b : Nat) (cs : List Value) (t : TypeId) (h : w.heap[b]? = some (.cells cs.toArray t)) (j : Nat) (v : Value) (hj : cs[j]? = some v) : w.cell? ⟨b, j, none⟩ = some v := by
  rw [cell_of_row w b j cs.toArray t (0, 0) h]; simpa using hj
theorem range_at (w : World) (b : Nat) (cs : List Value) (t : TypeId) (h : w.heap[b]? = some (.cells cs.toArray t)) : w.rangeAt b 0 cs := fun j v hj => by
  rw [Nat.zero_add]; exact cells_at w b cs t h j v hj
theorem range_part {w : World} {b o : Nat} {cs : List Value} (h : w.rangeAt b o cs) (i n : Nat) : w.rangeAt b (o + i) ((cs.drop i).take n) := fun j v hj => by
  rw [List.getElem?_take] at hj
  split at hj
  · rw [List.getElem?_drop] at hj
    have := h (i + j) v hj
    rwa [← Nat.add_assoc] at this
  · cases hj
theorem Fr.then' {a b c : World} (h : Fr (fun _ => False) a b) (k : Fr (fun _ => False) b c) : Fr (fun _ => False) a c := h.trans k (fun _ _ e => e)
theorem Fr.upto {S : Nat → Prop} {a b : World} (h : Fr (fun _ => False) a b) : Fr S a b := h.mono (fun _ _ e => e.elim)
theorem there_at (w : World) (b : Nat) (cs : List Value) (t : TypeId) (h : w.heap[b]? = some (.cells cs.toArray t)) : w.there b 0 cs.length := fun j hj => by
  refine ⟨?_, frozen_of_row w _ _ _ t h⟩
  rw [Nat.zero_add, cell_of_row w b j cs.toArray t (0, 0) h]; simp [hj]
theorem Fr.setCells {S : Nat → Prop} {a : World} (p : Nat) (hp : p < a.heap.size → S p) : ∀ (vs : List Value) (o : Nat) (b : World), Fr S a b → Fr S a (b.setCells p o vs)
  | [], _, _, h => h
  | v :: vs, o, b, h => Fr.setCells p hp vs (o + 1) _ (h.setCell ⟨p, o, none⟩ v hp)
theorem rangeAt_set {w : World} {b : Nat} {vs : List Value} (h : w.rangeAt b 0 vs) (j : Nat) (v : Value) (hj : j < vs.length) : (w.setCell ⟨b, j, none⟩ v).rangeAt b 0 (vs.set j v) := fun k x hk => by
  rw [Nat.zero_add]
  by_cases e : k = j
  · subst e
    rw [List.getElem?_set_self hj] at hk
    cases hk
    have := h k _ (List.getElem?_eq_getElem hj)
    rw [Nat.zero_add] at this
    exact World.cell?_setCell_same' _ _ _ (by rw [this]; rfl)
  · rw [List.getElem?_set_ne (fun e' => e e'.symm)] at hk
    have hne : (⟨b, j, none⟩ : Addr) ≠ ⟨b, k, none⟩ := by intro e'; injection e' with _ e2; exact e e2.symm
    rw [World.cell?_setCell_other (h := hne)]
    have := h k x hk
    rwa [Nat.zero_add] at this
theorem there_set {w : World} {b n : Nat} (h : w.there b 0 n) (p : Addr) (v : Value) : (w.setCell p v).there b 0 n := fun j hj => by
  refine ⟨?_, ?_⟩
  · obtain ⟨x, hx⟩ := Option.isSome_iff_exists.1 (h j hj).1
    obtain ⟨y, hy⟩ := cell?_setCell_some (p := p) (x := v) hx
    rw [hy]; rfl
  · simpa using (h j hj).2
/-- A block that was just laid, in whatever comes of it. -/
theorem box_at (w : World) (cs : List Value) (t : TypeId) (w' : World) (f : Fr (fun _ => False) (w.alloc (.cells cs.toArray t)) w') : w'.heap[w.heap.size]? = some (.cells cs.toArray t) := (f.block _ (by simp) (fun e => e)).trans (heap_alloc_new w _)
/-- Values laid in one behind another. -/
def lset : List Value → Nat → List Value → List Value
  | cs, _, [] => cs
  | cs, j, v :: vs => lset (cs.set j v) (j + 1) vs
theorem lset_len : ∀ (vs cs : List Value) (j : Nat), (lset cs j vs).length = cs.length
  | [], _, _ => rfl
  | v :: vs, cs, j => by unfold lset; rw [lset_len vs, List.length_set]
theorem lset_pre : ∀ (vs pre cs : List Value) (j : Nat), lset (pre ++ cs) (pre.length + j) vs = pre ++ lset cs j vs
  | [], _, _, _ => rfl
  | v :: vs, pre, cs, j => by
    unfold lset
    rw [List.set_append_right _ _ (by omega), show pre.length + j - pre.length = j by omega, show pre.length + j + 1 = pre.length + (j + 1) by omega, lset_pre vs]
theorem lset_all : ∀ (vs old rest : List Value), old.length = vs.length → lset (old ++ rest) 0 vs = vs ++ rest
  | [], old, rest, h => by
    have : old = [] := List.eq_nil_of_length_eq_zero h
    subst this; rfl
  | v :: vs, o :: old, rest, h => by
    unfold lset
    rw [List.cons_append, List.set_cons_zero, show (0 : Nat) + 1 = [v].length + 0 by rfl, show v :: (old ++ rest) = [v] ++ (old ++ rest) by rfl, lset_pre, lset_all vs old rest (by simpa using h)]
    rfl
theorem Sl.setCells {base : Nat} {e : TypeId} {sz n g off cap : Nat} : ∀ (vs cs : List Value) (w : World) (j : Nat), Sl base e sz w (.slice (some ⟨g, off, none⟩) n cap) n cs → j + vs.length ≤ n * sz →
    Sl base e sz (w.setCells g (off + j) vs) (.slice (some ⟨g, off, none⟩) n cap) n (lset cs j vs)
  | [], _, _, _, h, _ => h
  | v :: vs, cs, w, j, h, hj => by
    have h1 := h.set j (by rw [List.length_cons] at hj; omega) v
    have := Sl.setCells vs (cs.set j v) _ (j + 1) h1 (by rw [List.length_cons] at hj; omega)
    exact this
theorem Sl.there {base : Nat} {e : TypeId} {sz n g off cap : Nat} {w : World} {cs : List Value} (h : Sl base e sz w (.slice (some ⟨g, off, none⟩) n cap) n cs) (j k : Nat) (hj : j + k ≤ n * sz) : w.there g (off + j) k := fun i hi => by
  rcases h.2 with ⟨hv, _⟩ | ⟨g', off', cap', cur, hv, hb, hg, h1, h2, h3, h4⟩
  · cases hv
  · injection hv with hv1 _ hv2
    injection hv1 with hv1
    injection hv1 with hv3 hv4
    subst hv2; subst hv3; subst hv4
    have hl : ((cur.toList.drop off).take (n * sz)).length = n * sz := by rw [h4]; exact h.1
    rw [List.length_take, List.length_drop, Array.length_toList] at hl
    refine ⟨?_, frozen_of_row w _ _ _ e hg⟩
    rw [cell_of_row w _ _ cur e (0, 0) hg, Array.getElem?_eq_getElem (by omega)]
    rfl
theorem Sl.tag {base : Nat} {e : TypeId} {sz n : Nat} {w : World} {v : Value} {cs : List Value} (h : Sl base e sz w v n cs) {k : Nat} (hk : v.ownBlock = some k) : ∃ cur, w.heap[k]? = some (.cells cur e) := by
  rcases h.2 with ⟨rfl, _⟩ | ⟨g', off', cap', cur, rfl, hb, hg, _⟩
  · cases hk
  · cases hk; exact ⟨cur, hg⟩
/-- A slice's block is no block of another type. -/
theorem Sl.ne {base : Nat} {e t : TypeId} {sz n g : Nat} {w : World} {v : Value} {cs : List Value} {cur : Array Value} (h : Sl base e sz w v n cs) (hg : w.heap[g]? = some (.cells cur t)) (ht : t ≠ e) : v.ownBlock ≠ some g := fun hk => by
  obtain ⟨c, h'⟩ := h.tag hk
  rw [hg] at h'
  cases h'
  exact ht rfl
theorem heap_setCells_other : ∀ (vs : List Value) (w : World) (b o k : Nat), k ≠ b → (w.setCells b o vs).heap[k]? = w.heap[k]?
  | [], _, _, _, _, _ => rfl
  | v :: vs, w, b, o, k, h => by
    show ((w.setCell ⟨b, o, none⟩ v).setCells b (o + 1) vs).heap[k]? = _
    rw [heap_setCells_other vs _ b (o + 1) k h, Below.heap_setCell _ _ _ _ (fun e => h (by first | exact e | exact e.symm))]
theorem wfu8 {n : Int} (h : 0 ≤ n ∧ n ≤ 255) : (Lit.int .u8 n).wf = true := by
  simp [Lit.wf, IntKind.min, IntKind.max, IntKind.signed, IntKind.bits]
  omega
theorem u8_of {n : Int} (h : (Lit.int .u8 n).wf = true) : 0 ≤ n ∧ n ≤ 255 := by
  simp [Lit.wf, IntKind.min, IntKind.max, IntKind.signed, IntKind.bits] at h
  omega
theorem i64_of {n : Int} (h : (Lit.int .i64 n).wf = true) : -9223372036854775808 ≤ n ∧ n ≤ 9223372036854775807 := by
  simp [Lit.wf, IntKind.min, IntKind.max, IntKind.signed, IntKind.bits] at h
  omega
theorem wfi64' {n : Int} (h : -9223372036854775808 ≤ n ∧ n ≤ 9223372036854775807) : (Lit.int .i64 n).wf = true := by
  simp [Lit.wf, IntKind.min, IntKind.max, IntKind.signed, IntKind.bits]
  omega
end Go.Proofs.Ytfnphkijalkllaa
