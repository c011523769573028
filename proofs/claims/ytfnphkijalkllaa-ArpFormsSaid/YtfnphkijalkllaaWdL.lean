/- A slice of bytes, opened from a law's argument. No condition. -/
import Derived.Test.YtfnphkijalkllaaProg
import Derived.Test.YtfnphkijalkllaaChecked
import Derived.Test.YtfnphkijalkllaaLawOpen
import Derived.Test.YtfnphkijalkllaaWdH
namespace Go.Proofs.Ytfnphkijalkllaa
set_option linter.unusedVariables false
open Go.RowKit

theorem u8_range {n : Int} (h : (Lit.int .u8 n).wf = true) : 0 ≤ n ∧ n ≤ 255 := by
  simp [Lit.wf, IntKind.min, IntKind.max, IntKind.signed, IntKind.bits] at h
  omega
theorem fits1 {k0 : IntKind} {cs : List Value} (h : FitsL [some k0] cs) : ∃ n, cs = [.int k0 n] ∧ (Lit.int k0 n).wf = true := by
  match cs, h with
  | [v0], h => obtain ⟨n, e, hw⟩ := h.1; exact ⟨n, by rw [e], hw⟩
theorem barg_of_row {W : World} {A : Option Addr} {len cap : Nat} (h : RowIn W A len cap 1 [some .u8]) (hs : cap * 1 ≤ 140737488351232) : ∃ l, l.length = len ∧ BArg W A cap l := by
  by_cases h0 : 0 < len
  · obtain ⟨b, off, hA, hb, hc⟩ := h.2.2.2 (by have := h.1; omega)
    have hex : ∀ i, i < len → ∃ x : Int, (0 ≤ x ∧ x ≤ 255) ∧ W.cell? ⟨b, off + i, none⟩ = some (.int .u8 x) := by
      intro i hi
      obtain ⟨cs, hF, hcs⟩ := hc i (by have := h.1; omega)
      obtain ⟨n, rfl, hw⟩ := fits1 hF
      have := hcs 0 _ rfl
      rw [Nat.mul_one, Nat.add_zero] at this
      exact ⟨n, u8_range hw, this⟩
    obtain ⟨f, hf⟩ := Deep.choose_lt hex
    have hget : ∀ i x, ((List.range len).map f)[i]? = some x → i < len ∧ x = f i := by
      intro i x hi
      rw [List.getElem?_map, Option.map_eq_some_iff] at hi
      obtain ⟨j, hj, rfl⟩ := hi
      obtain ⟨hjl, e⟩ := List.getElem?_eq_some_iff.1 hj
      simp at hjl e
      subst e
      exact ⟨hjl, rfl⟩
    refine ⟨(List.range len).map f, by simp, ?_, fun _ => ⟨b, off, hA, hb, fun i x hi => ?_⟩, by simpa using h.1, by omega⟩
    · intro x hx
      obtain ⟨i, hi⟩ := List.mem_iff_getElem?.1 hx
      obtain ⟨h1, rfl⟩ := hget i x hi
      exact (hf i h1).1
    · obtain ⟨h1, rfl⟩ := hget i x hi
      exact (hf i h1).2
  · exact ⟨[], by simp; omega, fun x hx => (by cases hx), fun h => absurd h (by simp), by simp, by omega⟩
end Go.Proofs.Ytfnphkijalkllaa
