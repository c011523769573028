/- What came in as a slice of operations on ways, opened. No condition. -/
import Derived.Test.YtcfadmjihccimaaRtUb
import Derived.Test.YtcfadmjihccimaaRtW
namespace Go.Proofs.Ytcfadmjihccimaa
set_option linter.unusedVariables false
set_option linter.unusedSimpArgs false
open Go.RowKit
theorem cells71b : Try.prog.cellsOf 71 = 11 := by kernel_rfl
theorem bytes71b : Try.prog.bytesOf 71 = 32 := by kernel_rfl
set_option maxRecDepth 100000 in
theorem op_of_fits {W : World} {cs : List Value} (h : FitsX Try.prog W 71 cs) : ∃ x : O11, cs = x.cells ∧ x.way.ok := by
  obtain ⟨hl, hf⟩ := h.toStruct Try.underlying71
  rw [cells71b] at hl
  match cs, hl with
  | [c0, c1, c2, c3, c4, c5, c6, c7, c8, c9, c10], _ =>
    have h0 := h.field Try.underlying71 0 (ft := 3) (off := 0) (k := 1) rfl cells3b
    have h1 := h.field Try.underlying71 1 (ft := 69) (off := 1) (k := 10) rfl cells69b
    obtain ⟨n0, e0, _⟩ := h0.toInt Try.underlying3
    obtain ⟨x, e1, b1⟩ := way_of_fits h1
    cases e0
    cases e1
    exact ⟨⟨n0, x⟩, rfl, b1⟩
theorem list_of {α : Type} {P : Nat → α → Prop} : ∀ m, (∀ i, i < m → ∃ x, P i x) → ∃ ws : List α, ws.length = m ∧ ∀ i x, ws[i]? = some x → P i x
  | 0, _ => ⟨[], rfl, fun i x h => by simp at h⟩
  | m + 1, h => by
    obtain ⟨ws, hl, hp⟩ := list_of m (fun i hi => h i (by omega))
    obtain ⟨x, hx⟩ := h m (by omega)
    refine ⟨ws ++ [x], by simp [hl], fun i y hy => ?_⟩
    by_cases hi : i < m
    · rw [List.getElem?_append_left (by omega)] at hy
      exact hp i y hy
    · obtain ⟨hlt, _⟩ := List.getElem?_eq_some_iff.1 hy
      simp at hlt
      have : i = m := by omega
      subst this
      rw [List.getElem?_append_right (by omega), hl, Nat.sub_self] at hy
      cases hy
      exact hx
theorem ops_of_fits {W : World} {A : Option Addr} {n c : Nat} (h : FitsX Try.prog W 61 [.slice A n c]) : ∃ os, OpsIn W A n os ∧ n ≤ c := by
  obtain ⟨A', len, cap, e, h1, h2, h3, h4, h5⟩ := h.toSlice Try.underlying61 (by rw [cells71b]; decide)
  cases e
  rw [cells71b] at h5
  rw [bytes71b] at h4
  by_cases h0 : 0 < n
  · obtain ⟨b, off, rfl, hb, hc⟩ := h5 (by omega)
    obtain ⟨os, hl, hp⟩ := list_of (P := fun i (x : O11) => x.way.ok ∧ W.rangeAt b (off + i * 11) x.cells) n (fun i hi => by
      obtain ⟨cs, hl, hcell, hF⟩ := hc i (by omega)
      obtain ⟨x, rfl, hx⟩ := op_of_fits hF
      exact ⟨x, hx, fun j v hj => hcell j v hj⟩)
    refine ⟨os, ⟨hl, fun x hx => ?_, by simp only [reachBytes] at h4; omega, fun _ => ⟨b, off, rfl, hb, fun i x hx => (hp i x hx).2⟩⟩, h1⟩
    obtain ⟨i, hi⟩ := List.mem_iff_getElem?.1 hx
    exact (hp i x hi).1
  · have : n = 0 := by omega
    subst this
    exact ⟨[], ⟨rfl, (fun x hx => by cases hx), by omega, fun h => absurd h h0⟩, h1⟩
end Go.Proofs.Ytcfadmjihccimaa
