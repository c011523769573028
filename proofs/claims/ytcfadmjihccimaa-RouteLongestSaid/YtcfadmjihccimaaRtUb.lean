/- What came in as a way, opened. No condition. -/
import Derived.Test.YtcfadmjihccimaaRtC
import Derived.Test.YtcfadmjihccimaaFx
namespace Go.Proofs.Ytcfadmjihccimaa
set_option linter.unusedVariables false
set_option linter.unusedSimpArgs false
open Go.RowKit
theorem cells4b : Try.prog.cellsOf 4 = 1 := by kernel_rfl
theorem cells45b : Try.prog.cellsOf 45 = 4 := by kernel_rfl
theorem cells5b : Try.prog.cellsOf 5 = 1 := by kernel_rfl
theorem cells3b : Try.prog.cellsOf 3 = 1 := by kernel_rfl
theorem cells69b : Try.prog.cellsOf 69 = 10 := by kernel_rfl
theorem bytes69b : Try.prog.bytesOf 69 = 24 := by kernel_rfl
set_option maxRecDepth 100000 in
theorem i4_of_fits {W : World} {cs : List Value} (h : FitsX Try.prog W 45 cs) : ∃ k : I4, cs = k.cells ∧ k.ok := by
  obtain ⟨hl, hf⟩ := h.toArray Try.underlying45
  rw [cells45b] at hl
  simp only [cells5b] at hf
  match cs, hl with
  | [c0, c1, c2, c3], _ =>
    obtain ⟨n0, e0, w0⟩ := (hf 0 (by decide)).toInt Try.underlying5
    obtain ⟨n1, e1, w1⟩ := (hf 1 (by decide)).toInt Try.underlying5
    obtain ⟨n2, e2, w2⟩ := (hf 2 (by decide)).toInt Try.underlying5
    obtain ⟨n3, e3, w3⟩ := (hf 3 (by decide)).toInt Try.underlying5
    simp at e0 e1 e2 e3
    subst e0; subst e1; subst e2; subst e3
    exact ⟨⟨n0, n1, n2, n3⟩, rfl, w0, w1, w2, w3⟩
set_option maxRecDepth 100000 in
theorem way_of_fits {W : World} {cs : List Value} (h : FitsX Try.prog W 69 cs) : ∃ x : W10, cs = x.cells ∧ x.ok := by
  obtain ⟨hl, hf⟩ := h.toStruct Try.underlying69
  rw [cells69b] at hl
  match cs, hl with
  | [c0, c1, c2, c3, c4, c5, c6, c7, c8, c9], _ =>
    have h0 := h.field Try.underlying69 0 (ft := 45) (off := 0) (k := 4) rfl cells45b
    have h1 := h.field Try.underlying69 1 (ft := 3) (off := 4) (k := 1) rfl cells3b
    have h2 := h.field Try.underlying69 2 (ft := 45) (off := 5) (k := 4) rfl cells45b
    have h3 := h.field Try.underlying69 3 (ft := 4) (off := 9) (k := 1) rfl cells4b
    obtain ⟨k0, e0, b0⟩ := i4_of_fits h0
    obtain ⟨n1, e1, w1⟩ := h1.toInt Try.underlying3
    obtain ⟨k2, e2, b2⟩ := i4_of_fits h2
    obtain ⟨n3, e3⟩ := h3.toBool Try.underlying4
    cases e0; cases e1; cases e2; cases e3
    exact ⟨⟨k0, n1, k2, n3⟩, rfl, ⟨b0, w1, b2⟩⟩
end Go.Proofs.Ytcfadmjihccimaa
