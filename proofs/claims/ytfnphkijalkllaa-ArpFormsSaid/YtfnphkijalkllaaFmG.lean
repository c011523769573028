/- Law 8: what came in as a slice of bytes, opened. No condition. -/
import Derived.Test.YtfnphkijalkllaaFmF
import Derived.Test.YtfnphkijalkllaaArS
import Derived.Test.YtfnphkijalkllaaWdL
namespace Go.Proofs.Ytfnphkijalkllaa
set_option linter.unusedVariables false
open Go.RowKit
theorem pc_of_fits {W : World} {cs : List Value} (h : FitsX Try.prog W 55 cs) : ∃ A n c l, cs = [.slice A n c] ∧ n ≤ c ∧ Pc W A n l := by
  obtain ⟨A, len, cap, rfl, h1, h2, h3, h4, h5⟩ := h.toSlice Try.underlying55 (by rw [show Try.prog.cellsOf 5 = 1 by kernel_rfl]; decide)
  rw [show Try.prog.cellsOf 5 = 1 by kernel_rfl] at h5
  rw [show Try.prog.bytesOf 5 = 1 by kernel_rfl] at h4
  have row : RowIn W A len cap 1 [some .u8] := ⟨h1, h2, h3, fun h0 => by
    obtain ⟨b, off, hA, hb, hc⟩ := h5 h0
    refine ⟨b, off, hA, hb, fun i hi => ?_⟩
    obtain ⟨cs', hl, hcell, hF⟩ := hc i hi
    obtain ⟨n, rfl, hw⟩ := hF.toInt Try.underlying5
    exact ⟨[.int .u8 n], (show FitsK (some .u8) (.int .u8 n) ∧ True from ⟨⟨n, rfl, hw⟩, trivial⟩), hcell⟩⟩
  obtain ⟨l, hl, hB⟩ := barg_of_row row h4
  subst hl
  exact ⟨A, _, cap, l, rfl, hB.le, ⟨rfl, hB.ok, by have h6 := hB.top; have h7 := hB.le; simp only [reachBytes] at h4; omega, hB.here⟩⟩
end Go.Proofs.Ytfnphkijalkllaa
