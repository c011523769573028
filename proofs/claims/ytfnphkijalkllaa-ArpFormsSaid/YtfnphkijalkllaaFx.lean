/- What came in, opened whole (over any program): integers, bools, arrays, structs and slices, in one another to any depth. No condition. -/
import Derived.Deep.Slices
import Derived.OpenShut
import Derived.ProofKit
import Derived.SizedLaws
import Derived.ChangeOld
import Derived.Test.YtfnphkijalkllaaMapRep
namespace Go.Proofs.Ytfnphkijalkllaa
set_option linter.unusedVariables false
open Go.ChangeShapes Go.WideShapes Go.RowKit

/-- Cells that came in as a value of type t: what its own cells are, and those that its slices lead to. -/
inductive FitsX (P : Program) (w : World) : TypeId → List Value → Prop
  | bool {t : TypeId} (b : Bool) (hu : P.underlying t = some .bool) : FitsX P w t [.bool b]
  | int {t : TypeId} {k : IntKind} (n : Int) (hu : P.underlying t = some (.int k)) (hn : (Lit.int k n).wf = true) : FitsX P w t [.int k n]
  | array {t e : TypeId} {n : Nat} {cs : List Value} (hu : P.underlying t = some (.array n e)) (hl : cs.length = P.cellsOf t) (h : ∀ i, i < n → FitsX P w e ((cs.drop (i * P.cellsOf e)).take (P.cellsOf e))) : FitsX P w t cs
  | struct {t : TypeId} {fs : Array Field} {cs : List Value} (hu : P.underlying t = some (.struct fs)) (hl : cs.length = P.cellsOf t) (h : ∀ (i : Nat) (f : Field), fs[i]? = some f → FitsX P w f.type ((cs.drop f.offset).take (P.cellsOf f.type))) : FitsX P w t cs
  | nil {t e : TypeId} (hu : P.underlying t = some (.slice e)) : FitsX P w t [.slice none 0 0]
  | slice {t e : TypeId} {a : Addr} {len cap : Nat} (C : Nat → List Value) (hu : P.underlying t = some (.slice e)) (hl : len ≤ cap) (hm : cap ≤ maxLen) (hb : cap * P.bytesOf e ≤ reachBytes)
      (hn : ∀ i, i < cap → (C i).length = P.cellsOf e) (hc : ∀ i, i < cap → ∀ j v, (C i)[j]? = some v → w.cell? (a.add (i * P.cellsOf e + j)) = some v) (h : ∀ i, i < cap → FitsX P w e (C i)) : FitsX P w t [.slice (some a) len cap]
  | other {t : TypeId} {cs : List Value} (h0 : P.underlying t ≠ some .bool) (h1 : ∀ k, P.underlying t ≠ some (.int k)) (h2 : ∀ n e, P.underlying t ≠ some (.array n e)) (h3 : ∀ fs, P.underlying t ≠ some (.struct fs)) (h4 : ∀ e, P.underlying t ≠ some (.slice e)) : FitsX P w t cs

section
variable {H : Type} {enc : TypeId × Value → H} {P : Program} {w : World}

theorem weights_all {e : TypeId} : ∀ {ds : List (DataW H)} {d : DataW H}, d ∈ ds → ∀ m ∈ d.weights P e, m ∈ DataW.weightsAll P e ds
  | d0 :: ds, d, hd, m, hm => by
    simp only [DataW.weightsAll, List.mem_append]
    rcases List.mem_cons.1 hd with rfl | hd
    · exact .inl hm
    · exact .inr (weights_all hd m hm)

theorem trod_fits : ∀ (n : Nat) (t : TypeId) (cs : List Value) (x : DataW H × List MemPlace), DataW.trod enc P w 0 (fun _ => true) true n t cs = some x → (∀ m ∈ x.1.weights P t, m ≤ reachBytes) → FitsX P w t cs
  | 0, _, _, _, h, _ => by simp [DataW.trod] at h
  | n + 1, t, cs, x, h, hs => by
    by_cases h0 : P.underlying t = some .bool
    · obtain ⟨b, rfl, _⟩ := DataW.trod_bool h0 h
      exact .bool b h0
    by_cases h1 : ∃ k, P.underlying t = some (.int k)
    · obtain ⟨k, hu⟩ := h1
      obtain ⟨m, rfl, _, hw⟩ := DataW.trod_int hu h
      exact .int m hu hw
    by_cases h2 : ∃ c e, P.underlying t = some (.array c e)
    · obtain ⟨c, e, hu⟩ := h2
      obtain ⟨xs, m, hm, hx, hlen, hxs, hi⟩ := DataW.trod_array hu h
      cases hm
      refine .array hu (by first | exact hlen | exact hlen.1) fun i hin => ?_
      have h1 := hi i hin
      rw [List.getElem?_eq_getElem (by omega)] at h1
      refine trod_fits n e _ _ h1 (fun m hm => hs m ?_)
      subst hx
      simp only [DataW.weights, hu]
      exact weights_all (List.mem_map.2 ⟨_, List.getElem_mem _, rfl⟩) m hm
    by_cases h3 : ∃ fs, P.underlying t = some (.struct fs)
    · obtain ⟨fs, hu⟩ := h3
      obtain ⟨xs, m, hm, hx, hlen, hxs, hi⟩ := DataW.trod_struct hu h
      cases hm
      refine .struct hu hlen fun i f hf => ?_
      have h1 := hi i f hf
      have hil : i < xs.length := by rw [hxs]; exact (Array.getElem?_eq_some_iff.1 hf).1
      rw [List.getElem?_eq_getElem hil] at h1
      refine trod_fits n f.type _ _ h1 (fun m hm => hs m ?_)
      subst hx
      simp only [DataW.weights, hu]
      exact DataW.weights_mem_each (j := i) (by simp [hf]) (by rw [List.getElem?_map, List.getElem?_eq_getElem hil]; rfl) m hm
    by_cases h4 : ∃ e, P.underlying t = some (.slice e)
    · obtain ⟨e, hu⟩ := h4
      rcases DataW.trod_slice hu h with ⟨hcs, hx⟩ | ⟨a, len, cap, elems, rest, m, hm, hcs, hx, hb, hl, hmx, hlen, hel, hsp, _⟩
      · subst hcs; exact .nil hu
      · cases hm
        subst hcs
        obtain ⟨hrl, hrest⟩ := hsp rfl
        have key : ∀ i, i < cap → (w.cells? 0 (a.add (i * P.cellsOf e)) (P.cellsOf e)).bind (DataW.trod enc P w 0 (fun _ => true) true n e) = (elems ++ rest)[i]? := fun i hi => by
          by_cases hil : i < len
          · rw [hel i hil, List.getElem?_append_left (by omega)]
          · have := hrest (i - len) (by omega)
            rw [show len + (i - len) = i by omega] at this
            rw [this, List.getElem?_append_right (by omega), hlen]
        have hw : cap * P.bytesOf e ≤ reachBytes := by
          have := hs (((elems.map (·.1)).length + (rest.map (·.1)).length) * P.bytesOf e) (by rw [hx]; simp only [DataW.weights, hu]; exact List.mem_cons_self)
          simp only [List.length_map, hlen, hrl] at this
          rwa [show len + (cap - len) = cap by omega] at this
        have hex : ∀ i, i < cap → ∃ cs', (w.cells? 0 (a.add (i * P.cellsOf e)) (P.cellsOf e) = some cs' ∧ FitsX P w e cs') := fun i hi => by
          have hk := key i hi
          have hia : i < (elems ++ rest).length := by rw [List.length_append]; omega
          rw [List.getElem?_eq_getElem hia] at hk
          obtain ⟨cs', h1, h2⟩ := Option.bind_eq_some_iff.1 hk
          refine ⟨cs', h1, trod_fits n e _ _ h2 (fun k hk => hs k ?_)⟩
          rw [hx]
          simp only [DataW.weights, hu]
          refine List.mem_cons_of_mem _ (List.mem_append.2 ?_)
          rcases List.mem_append.1 (List.getElem_mem hia) with hh | hh
          · exact .inl (weights_all (List.mem_map.2 ⟨_, hh, rfl⟩) k hk)
          · exact .inr (weights_all (List.mem_map.2 ⟨_, hh, rfl⟩) k hk)
        obtain ⟨C, hC⟩ := Deep.choose_lt hex
        refine .slice C hu hl hmx hw (fun i hi => (World.cells?_some (hC i hi).1).2.1) (fun i hi j v hj => ?_) (fun i hi => (hC i hi).2)
        have h1 := (World.cells?_some (hC i hi).1).2.2 j (by have := (List.getElem?_eq_some_iff.1 hj).1; rwa [(World.cells?_some (hC i hi).1).2.1] at this)
        rw [Deep.add_add, hj] at h1
        exact h1
    exact .other h0 (fun k e => h1 ⟨k, e⟩) (fun n e he => h2 ⟨n, e, he⟩) (fun fs e => h3 ⟨fs, e⟩) (fun e he => h4 ⟨e, he⟩)

theorem open_fits {t : TypeId} {v : Value} {d : DataW H} {ps : List MemPlace} (h : DataW.Trod enc P w 0 (fun _ => true) true t v d ps) (hs : ∀ m ∈ d.weights P t, m ≤ reachBytes) : FitsX P w t v.cells.toList := by
  obtain ⟨n, hn⟩ := h
  exact trod_fits n t _ _ hn hs
theorem weights_of {ts : List TypeId} {ds : List (DataW H)} {j : Nat} {t : TypeId} {d : DataW H} (hsz : (DataW.weightsEach P ts ds).all (· ≤ reachBytes) = true) (ht : ts[j]? = some t) (hd : ds[j]? = some d) : ∀ m ∈ d.weights P t, m ≤ reachBytes := fun m hm => by
  simpa using List.all_eq_true.1 hsz _ (DataW.weights_mem_each ht hd m hm)

theorem FitsX.toBool {t : TypeId} {cs : List Value} (h : FitsX P w t cs) (hu : P.underlying t = some .bool) : ∃ b, cs = [.bool b] := by
  cases h <;> simp_all
theorem FitsX.toInt {t : TypeId} {k : IntKind} {cs : List Value} (h : FitsX P w t cs) (hu : P.underlying t = some (.int k)) : ∃ n, cs = [.int k n] ∧ (Lit.int k n).wf = true := by
  cases h with
  | int n hu' hn => rw [hu] at hu'; cases hu'; exact ⟨n, rfl, hn⟩
  | other h0 h1 h2 h3 h4 => exact absurd hu (h1 k)
  | _ => simp_all
theorem FitsX.toStruct {t : TypeId} {fs : Array Field} {cs : List Value} (h : FitsX P w t cs) (hu : P.underlying t = some (.struct fs)) : cs.length = P.cellsOf t ∧ ∀ (i : Nat) (f : Field), fs[i]? = some f → FitsX P w f.type ((cs.drop f.offset).take (P.cellsOf f.type)) := by
  cases h with
  | struct hu' hl h => rw [hu] at hu'; cases hu'; exact ⟨hl, h⟩
  | other h0 h1 h2 h3 h4 => exact absurd hu (h3 fs)
  | _ => simp_all
theorem FitsX.field {t : TypeId} {fs : Array Field} {cs : List Value} (h : FitsX P w t cs) (hu : P.underlying t = some (.struct fs)) (i : Nat) {ft off k : Nat} (hf : fs[i]?.map (fun f => (f.type, f.offset)) = some (ft, off)) (hk : P.cellsOf ft = k) : FitsX P w ft ((cs.drop off).take k) := by
  obtain ⟨f, h1, h2⟩ := Option.map_eq_some_iff.1 hf
  injection h2 with h3 h4
  subst h3; subst h4; subst hk
  exact (h.toStruct hu).2 i f h1
theorem FitsX.toArray {t e : TypeId} {n : Nat} {cs : List Value} (h : FitsX P w t cs) (hu : P.underlying t = some (.array n e)) : cs.length = P.cellsOf t ∧ ∀ i, i < n → FitsX P w e ((cs.drop (i * P.cellsOf e)).take (P.cellsOf e)) := by
  cases h with
  | array hu' hl h => rw [hu] at hu'; cases hu'; exact ⟨hl, h⟩
  | other h0 h1 h2 h3 h4 => exact absurd hu (h2 n e)
  | _ => simp_all
theorem FitsX.toSlice {t e : TypeId} {cs : List Value} (h : FitsX P w t cs) (hu : P.underlying t = some (.slice e)) (hz : 0 < P.cellsOf e) : ∃ A len cap, cs = [.slice A len cap] ∧ len ≤ cap ∧ cap ≤ maxLen ∧ (A = none → cap = 0) ∧ cap * P.bytesOf e ≤ reachBytes ∧
    (0 < cap → ∃ b off, A = some ⟨b, off, none⟩ ∧ b < w.heap.size ∧ ∀ i, i < cap → ∃ cs', cs'.length = P.cellsOf e ∧ (∀ j v, cs'[j]? = some v → w.cell? ⟨b, off + i * P.cellsOf e + j, none⟩ = some v) ∧ FitsX P w e cs') := by
  cases h with
  | nil hu' => exact ⟨none, 0, 0, rfl, Nat.le_refl _, Nat.zero_le _, fun _ => rfl, by simp, fun h => absurd h (by omega)⟩
  | @slice _ e' a len cap C hu' hl hm hb hn hc h =>
    rw [hu] at hu'
    cases hu'
    refine ⟨some a, len, cap, rfl, hl, hm, (fun h => by cases h), hb, fun h0 => ?_⟩
    have hl0 := hn 0 h0
    have hc00 := hc 0 h0 0 _ (List.getElem?_eq_getElem (by omega))
    obtain ⟨b, off, spot⟩ := a
    have hspot : spot = none := by simpa [Addr.add] using World.cell?_spot hc00
    subst hspot
    refine ⟨b, off, rfl, ?_, fun i hi => ⟨C i, hn i hi, fun j v hj => ?_, h i hi⟩⟩
    · have := block_lt_of_cell hc00
      simpa [Addr.add] using this
    · have := hc i hi j v hj
      rw [show ((⟨b, off, none⟩ : Addr).add (i * P.cellsOf e + j)) = ⟨b, off + i * P.cellsOf e + j, none⟩ by
        unfold Addr.add; split
        · congr 1; omega
        · simp only [Addr.mk.injEq, true_and, and_true]; omega] at this
      exact this
  | other h0 h1 h2 h3 h4 => exact absurd hu (h4 e)
  | _ => simp_all
end
end Go.Proofs.Ytfnphkijalkllaa
