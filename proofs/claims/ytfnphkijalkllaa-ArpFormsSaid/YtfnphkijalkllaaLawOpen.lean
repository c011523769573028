/- Opening a law's arguments (over any program): values without pointers, and slices of such, as lists of cells of known kinds. No condition. -/
import Derived.Deep.Slices
import Derived.OpenShut
import Derived.ProofKit
import Derived.SizedLaws
import Derived.ChangeOld
namespace Go.Proofs.Ytfnphkijalkllaa
open Go.ChangeShapes Go.WideShapes Go.RowKit

/-- A cell of a kind: an integer of that kind that fits it, or a bool. -/
def FitsK : Option IntKind → Value → Prop
  | some k, v => ∃ n, v = .int k n ∧ (Lit.int k n).wf = true
  | none, v => ∃ b, v = .bool b

def FitsL : List (Option IntKind) → List Value → Prop
  | [], [] => True
  | k :: ks, v :: vs => FitsK k v ∧ FitsL ks vs
  | _, _ => False

theorem FitsL.append : ∀ {ks ks' : List (Option IntKind)} {vs vs' : List Value}, FitsL ks vs → FitsL ks' vs' → FitsL (ks ++ ks') (vs ++ vs')
  | [], _, [], _, _, h' => h'
  | _ :: _, _, _ :: _, _, h, h' => ⟨h.1, FitsL.append h.2 h'⟩
  | [], _, _ :: _, _, h, _ => h.elim
  | _ :: _, _, [], _, h, _ => h.elim
theorem FitsL.len : ∀ {ks : List (Option IntKind)} {vs : List Value}, FitsL ks vs → ks.length = vs.length
  | [], [], _ => rfl
  | _ :: _, _ :: _, h => by simp [FitsL.len h.2]
  | [], _ :: _, h => h.elim
  | _ :: _, [], h => h.elim

/-- The kinds of a flat type's cells. -/
def flatK (P : Program) : Nat → TypeId → Option (List (Option IntKind))
  | 0, _ => none
  | d + 1, t =>
    match P.underlying t with
    | some .bool => some [none]
    | some (.int k) => some [some k]
    | some (.array n e) => (flatK P d e).bind fun l => if l.length = P.cellsOf e ∧ P.cellsOf t = n * P.cellsOf e then some (List.replicate n l).flatten else none
    | some (.struct fs) => if fs.all (·.name != "_") = true then ((fs.toList.foldr (fun f acc => acc.bind fun r => (flatK P d f.type).bind fun l => if l.length = P.cellsOf f.type ∧ f.offset + l.length + r.length = P.cellsOf t then some (l ++ r) else none) (some [])).bind fun r => if r.length = P.cellsOf t then some r else none) else none
    | _ => none

section
variable {H : Type} {enc : TypeId × Value → H} {P : Program} {w : World} {base : Nat} {spare : Nat → Bool} {held : Bool}

theorem pieces_array (c : Nat) (l : List (Option IntKind)) (hl : l.length = c) : ∀ (n : Nat) (cs : List Value), cs.length = n * c → (∀ i, i < n → FitsL l ((cs.drop (i * c)).take c)) → FitsL (List.replicate n l).flatten cs
  | 0, cs, h, _ => by
    have : cs = [] := List.length_eq_zero_iff.1 (by simpa using h)
    subst this; trivial
  | n + 1, cs, h, hp => by
    have h0 := hp 0 (by omega)
    rw [Nat.zero_mul, List.drop_zero] at h0
    have e : cs = cs.take c ++ cs.drop c := (List.take_append_drop c cs).symm
    rw [List.replicate_succ, List.flatten_cons, e]
    refine h0.append (pieces_array c l hl n _ (by rw [List.length_drop, h, Nat.succ_mul]; omega) fun i hi => ?_)
    have := hp (i + 1) (by omega)
    rw [List.drop_drop, show c + i * c = (i + 1) * c by rw [Nat.succ_mul]; omega]
    exact this

theorem flat_fits : ∀ (d : Nat) (t : TypeId) (ks : List (Option IntKind)), flatK P d t = some ks → ∀ (fuel : Nat) (cs : List Value) (x : DataW H × List MemPlace), DataW.trod enc P w base spare held fuel t cs = some x → FitsL ks cs
  | 0, _, _, h, _, _, _, _ => by cases h
  | d + 1, t, ks, h, fuel, cs, x, ht => by
    rw [flatK] at h
    split at h
    · rename_i hu
      obtain ⟨b, rfl, _⟩ := DataW.trod_bool hu ht
      cases h
      exact ⟨⟨b, rfl⟩, trivial⟩
    · rename_i k hu
      obtain ⟨n, rfl, _, hw⟩ := DataW.trod_int hu ht
      cases h
      exact ⟨⟨n, rfl, hw⟩, trivial⟩
    · rename_i n e hu
      obtain ⟨l, hl, h⟩ := Option.bind_eq_some_iff.1 h
      split at h
      · rename_i hc
        cases h
        obtain ⟨xs, m, _, _, hlen, hxs, hi⟩ := DataW.trod_array hu ht
        refine pieces_array _ l hc.1 n cs (by rw [hlen, hc.2]) fun i hin => ?_
        have := hi i hin
        rw [List.getElem?_eq_getElem (by omega)] at this
        exact flat_fits d e l hl m _ _ this
      · cases h
    · rename_i fs hu
      obtain ⟨xs, n, _, _, hlen, hxs, hi⟩ := DataW.trod_struct hu ht
      have key : ∀ (fl : List Field) (r : List (Option IntKind)), (∀ f ∈ fl, ∃ y, DataW.trod enc P w base spare held n f.type ((cs.drop f.offset).take (P.cellsOf f.type)) = some y) →
          fl.foldr (fun f acc => acc.bind fun r => (flatK P d f.type).bind fun l => if l.length = P.cellsOf f.type ∧ f.offset + l.length + r.length = P.cellsOf t then some (l ++ r) else none) (some []) = some r →
          r.length ≤ cs.length ∧ FitsL r (cs.drop (cs.length - r.length)) := by
        intro fl
        induction fl with
        | nil =>
          intro r _ hr
          cases hr
          refine ⟨Nat.zero_le _, ?_⟩
          simp only [List.length_nil, Nat.sub_zero, List.drop_length]
          trivial
        | cons f fl ih =>
          intro r hy hr
          rw [List.foldr_cons] at hr
          obtain ⟨r', hr', hr⟩ := Option.bind_eq_some_iff.1 hr
          obtain ⟨l, hl, hr⟩ := Option.bind_eq_some_iff.1 hr
          split at hr
          · rename_i hc
            cases hr
            obtain ⟨h1, h2⟩ := ih r' (fun f hf => hy f (by simp [hf])) hr'
            obtain ⟨y, hy⟩ := hy f (by simp)
            have hF := flat_fits d f.type l hl n _ _ hy
            have hle : l.length + r'.length ≤ cs.length := by rw [hlen]; omega
            refine ⟨by simpa using hle, ?_⟩
            rw [List.length_append, show cs.length - (l.length + r'.length) = f.offset by rw [hlen]; omega]
            have e : cs.drop f.offset = (cs.drop f.offset).take (P.cellsOf f.type) ++ cs.drop (cs.length - r'.length) := by
              rw [show cs.length - r'.length = f.offset + P.cellsOf f.type by rw [hlen, ← hc.1]; omega, ← List.drop_drop, List.take_append_drop]
            rw [e]
            exact hF.append h2
          · cases hr
      split at h
      case isFalse => cases h
      case isTrue =>
      obtain ⟨r, hr, h⟩ := Option.bind_eq_some_iff.1 h
      split at h
      case isFalse => cases h
      case isTrue hlr =>
      cases h
      have hk := key fs.toList _ (fun f hf => by
        obtain ⟨i, hi', rfl⟩ := List.getElem_of_mem hf
        have := hi i fs.toList[i] (by simp)
        rw [List.getElem?_eq_getElem (by rw [hxs]; simpa using hi')] at this
        exact ⟨_, this⟩) hr
      rw [hlr, hlen, Nat.sub_self, List.drop_zero] at hk
      exact hk.2
    · cases h

/-- A slice of flat elements that came in: its cells, element by element. -/
theorem open_row {t e : TypeId} {sz : Nat} {ks : List (Option IntKind)} (ht : P.underlying t = some (.slice e)) (hk : flatK P 9 e = some ks) (hz : P.cellsOf e = sz) (hz0 : 0 < sz) {A : Option Addr} {len cap : Nat} {d : DataW H} {ps : List MemPlace}
    (h : DataW.Trod enc P w 0 (fun _ => true) true t (.slice A len cap) d ps) :
    (A = none ∧ len = 0 ∧ cap = 0 ∧ d = .nil) ∨ ∃ elems spare, d = .slice elems spare ∧ elems.length = len ∧ spare.length = cap - len ∧ len ≤ cap ∧ cap ≤ maxLen ∧
      (0 < cap → ∃ b off, A = some ⟨b, off, none⟩ ∧ b < w.heap.size ∧ ∀ i, i < cap → ∃ cs, FitsL ks cs ∧ ∀ j v, cs[j]? = some v → w.cell? ⟨b, off + i * sz + j, none⟩ = some v) := by
  obtain ⟨fuel, hf⟩ := h
  rcases Deep.open_slice ht hf with ⟨hcs, hx⟩ | ⟨a, len', cap', m, n, D, Pl, hcs, hb, hl, hm, hmm, hx, hall⟩
  · simp [Value.cells] at hcs
    simp only [Prod.mk.injEq] at hx
    exact .inl ⟨hcs.1, hcs.2.1, hcs.2.2, hx.1⟩
  · simp [Value.cells] at hcs
    obtain ⟨rfl, rfl, rfl⟩ := hcs
    simp only [Prod.mk.injEq] at hx
    simp only [if_true] at hmm
    subst hmm
    refine .inr ⟨_, _, hx.1, by simp, by simp, hl, hm, fun h0 => ?_⟩
    have hcell : ∀ i, i < m → ∃ cs, FitsL ks cs ∧ ∀ j v, cs[j]? = some v → w.cell? (a.add (i * sz + j)) = some v := by
      intro i hi
      obtain ⟨cs', h1, h2⟩ := hall i hi
      rw [hz] at h1
      obtain ⟨_, h3, h4⟩ := World.cells?_some h1
      refine ⟨cs', flat_fits 9 e ks hk n cs' _ h2, fun j v hj => ?_⟩
      have hjl : j < sz := by rw [← h3]; exact (List.getElem?_eq_some_iff.1 hj).1
      have := h4 j hjl
      rw [Deep.add_add, hj] at this
      exact this
    obtain ⟨cs0, hF0, hc0⟩ := hcell 0 h0
    have hlen0 : 0 < cs0.length := by
      obtain ⟨cs', h1, h2⟩ := hall 0 h0
      rw [hz] at h1
      have h3 := (flat_fits 9 e ks hk n cs' _ h2).len
      have h4 := hF0.len
      have h5 := (World.cells?_some h1).2.1
      omega
    have hc00 := hc0 0 _ (List.getElem?_eq_getElem hlen0)
    obtain ⟨b, off, spot⟩ := a
    have hspot : spot = none := by simpa [Addr.add] using World.cell?_spot hc00
    subst hspot
    refine ⟨b, off, rfl, ?_, fun i hi => ?_⟩
    · have := block_lt_of_cell hc00
      simpa [Addr.add] using this
    · obtain ⟨cs, hF, hc⟩ := hcell i hi
      refine ⟨cs, hF, fun j v hj => ?_⟩
      have := hc j v hj
      rw [show ((⟨b, off, none⟩ : Addr).add (i * sz + j)) = ⟨b, off + i * sz + j, none⟩ by
        unfold Addr.add; split
        · congr 1; omega
        · simp only [Addr.mk.injEq, true_and, and_true]; omega] at this
      exact this

/-- What a law's walk is told of a slice of flat elements (sz cells of the kinds ks each): nil, or a row of cap elements. -/
def RowIn (w : World) (A : Option Addr) (len cap sz : Nat) (ks : List (Option IntKind)) : Prop :=
  len ≤ cap ∧ cap ≤ maxLen ∧ (A = none → cap = 0) ∧
  (0 < cap → ∃ b off, A = some ⟨b, off, none⟩ ∧ b < w.heap.size ∧ ∀ i, i < cap → ∃ cs, FitsL ks cs ∧ ∀ j v, cs[j]? = some v → w.cell? ⟨b, off + i * sz + j, none⟩ = some v)

theorem open_rowIn {t e : TypeId} {sz : Nat} {ks : List (Option IntKind)} (ht : P.underlying t = some (.slice e)) (hk : flatK P 9 e = some ks) (hz : P.cellsOf e = sz) (hz0 : 0 < sz) {A : Option Addr} {len cap : Nat} {d : DataW H} {ps : List MemPlace}
    (h : DataW.Trod enc P w 0 (fun _ => true) true t (.slice A len cap) d ps) :
    RowIn w A len cap sz ks ∧ (d = .nil ∧ cap = 0 ∨ ∃ elems sp, d = .slice elems sp ∧ elems.length = len ∧ sp.length = cap - len) := by
  have hA : A = none → cap = 0 := by
    rintro rfl
    obtain ⟨fuel, hf⟩ := h
    rcases Deep.open_slice ht hf with ⟨hcs, hx⟩ | ⟨a, len', cap', m, n, D, Pl, hcs, _⟩
    · simp [Value.cells] at hcs; exact hcs.2
    · simp [Value.cells] at hcs
  rcases open_row ht hk hz hz0 h with ⟨rfl, rfl, rfl, rfl⟩ | ⟨elems, sp, rfl, h1, h2, h3, h4, h5⟩
  · exact ⟨⟨Nat.le_refl _, Nat.zero_le _, fun _ => rfl, fun h => absurd h (by omega)⟩, .inl ⟨rfl, rfl⟩⟩
  · exact ⟨⟨h3, h4, hA, h5⟩, .inr ⟨elems, sp, rfl, h1, h2⟩⟩

/-- .. and how many bytes it takes at most. -/
theorem row_size {t e : TypeId} {ts : List TypeId} {ds : List (DataW H)} {j len cap by_ : Nat} {d : DataW H} (hs : (DataW.weightsEach P ts ds).all (· ≤ reachBytes) = true) (ht : ts[j]? = some t) (hd : ds[j]? = some d) (hu : P.underlying t = some (.slice e)) (hb : P.bytesOf e = by_)
    (h : d = .nil ∧ cap = 0 ∨ ∃ elems sp, d = .slice elems sp ∧ elems.length = len ∧ sp.length = cap - len) (hlc : len ≤ cap) : cap * by_ ≤ 140737488351232 := by
  rcases h with ⟨_, rfl⟩ | ⟨elems, sp, rfl, h1, h2⟩
  · simp
  · have := sized_slice hs ht hd hu
    rw [hb, h1, h2, show len + (cap - len) = cap by omega] at this
    exact this

end
end Go.Proofs.Ytfnphkijalkllaa
