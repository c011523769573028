/- The list of calls, opened from the law's argument. No condition. -/
import Derived.Test.YtcgghjjchfafiaaRestQ
import Derived.Test.YtcgghjjchfafiaaLawOpen
namespace Go.Proofs.Ytcgghjjchfafiaa
open Go.RowKit Go.Maps

theorem fits_int {k : IntKind} {v : Value} (h : FitsK (some k) v) : ∃ n, v = .int k n ∧ (Lit.int k n).wf = true := h
theorem fits8 {k0 k1 k2 k3 k4 k5 k6 k7 : Option IntKind} {cs : List Value} (h : FitsL [k0, k1, k2, k3, k4, k5, k6, k7] cs) :
    ∃ v0 v1 v2 v3 v4 v5 v6 v7, cs = [v0, v1, v2, v3, v4, v5, v6, v7] ∧ FitsK k0 v0 ∧ FitsK k1 v1 ∧ FitsK k2 v2 ∧ FitsK k3 v3 ∧ FitsK k4 v4 ∧ FitsK k5 v5 ∧ FitsK k6 v6 ∧ FitsK k7 v7 := by
  have hl := h.len
  simp at hl
  match cs, hl with
  | [v0, v1, v2, v3, v4, v5, v6, v7], _ => exact ⟨v0, v1, v2, v3, v4, v5, v6, v7, rfl, h.1, h.2.1, h.2.2.1, h.2.2.2.1, h.2.2.2.2.1, h.2.2.2.2.2.1, h.2.2.2.2.2.2.1, h.2.2.2.2.2.2.2.1⟩
theorem ops_of_row {W : World} {A : Option Addr} {len cap : Nat} (h : RowIn W A len cap 8 [some .i64, some .i64, some .u8, some .u8, some .u8, some .u8, some .i64, some .i64]) :
    ∃ (l : List Op8) (b off : Nat), l.length = len ∧ (0 < l.length → A = some ⟨b, off, none⟩ ∧ OpsAt W b off l) := by
  by_cases h0 : 0 < len
  · obtain ⟨b, off, hA, hb, hc⟩ := h.2.2.2 (by have := h.1; omega)
    have hex : ∀ i, i < len → ∃ o : Op8, o.ok ∧ W.cell? ⟨b, off + i * 8, none⟩ = some (.int .i64 o.kind) ∧ W.cell? ⟨b, off + i * 8 + 1, none⟩ = some (.int .i64 o.p) ∧ W.cell? ⟨b, off + i * 8 + 1 + 1, none⟩ = some (.int .u8 o.a) ∧
        W.cell? ⟨b, off + i * 8 + 1 + 2, none⟩ = some (.int .u8 o.b) ∧ W.cell? ⟨b, off + i * 8 + 1 + 3, none⟩ = some (.int .u8 o.c) ∧ W.cell? ⟨b, off + i * 8 + 1 + 4, none⟩ = some (.int .u8 o.d) ∧
        W.cell? ⟨b, off + i * 8 + 1 + 5, none⟩ = some (.int .i64 o.t) ∧ W.cell? ⟨b, off + i * 8 + 7, none⟩ = some (.int .i64 o.wait) := by
      intro i hi
      obtain ⟨cs, hF, hcs⟩ := hc i (by have := h.1; omega)
      obtain ⟨v0, v1, v2, v3, v4, v5, v6, v7, rfl, f0, f1, f2, f3, f4, f5, f6, f7⟩ := fits8 hF
      · skip
        obtain ⟨n0, rfl, w0⟩ := fits_int f0
        obtain ⟨n1, rfl, w1⟩ := fits_int f1
        obtain ⟨n2, rfl, w2⟩ := fits_int f2
        obtain ⟨n3, rfl, w3⟩ := fits_int f3
        obtain ⟨n4, rfl, w4⟩ := fits_int f4
        obtain ⟨n5, rfl, w5⟩ := fits_int f5
        obtain ⟨n6, rfl, w6⟩ := fits_int f6
        obtain ⟨n7, rfl, w7⟩ := fits_int f7
        exact ⟨⟨n0, n1, n2, n3, n4, n5, n6, n7⟩, ⟨⟨w1, w2, w3, w4, w5, w6⟩, w0, w7⟩, hcs 0 _ rfl, hcs 1 _ rfl, hcs 2 _ rfl, hcs 3 _ rfl, hcs 4 _ rfl, hcs 5 _ rfl, hcs 6 _ rfl, hcs 7 _ rfl⟩
    have : Inhabited Op8 := ⟨⟨0, 0, 0, 0, 0, 0, 0, 0⟩⟩
    obtain ⟨f, hf⟩ := Deep.choose_lt hex
    refine ⟨(List.range len).map f, b, off, by simp, fun _ => ⟨hA, hb, fun i o hi => ?_⟩⟩
    rw [List.getElem?_map, Option.map_eq_some_iff] at hi
    obtain ⟨j, hj, rfl⟩ := hi
    obtain ⟨hjl, e⟩ := List.getElem?_eq_some_iff.1 hj
    simp at hjl e
    subst e
    exact hf i hjl
  · exact ⟨[], 0, 0, by simp; omega, fun h => absurd h (by simp)⟩
end Go.Proofs.Ytcgghjjchfafiaa
