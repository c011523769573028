/- Arguments of law 12, opened: bytes, messages. No condition. -/
import Derived.Test.YtcfadmjihccimaaFx
import Derived.Test.YtcfadmjihccimaaIcM
import Derived.Test.YtcfadmjihccimaaWdL
namespace Go.Proofs.Ytcfadmjihccimaa
set_option linter.unusedVariables false
set_option linter.unusedSimpArgs false
open Go.RowKit

theorem pc_of_fits {W : World} {cs : List Value} (h : FitsX Try.prog W 22 cs) : ∃ A n c l, cs = [.slice A n c] ∧ n ≤ c ∧ Pc W A n l := by
  obtain ⟨A, len, cap, rfl, h1, h2, h3, h4, h5⟩ := h.toSlice Try.underlying22 (by rw [show Try.prog.cellsOf 5 = 1 by kernel_rfl]; decide)
  rw [show Try.prog.cellsOf 5 = 1 by kernel_rfl] at h5
  rw [show Try.prog.bytesOf 5 = 1 by kernel_rfl] at h4
  have row : RowIn W A len cap 1 [some .u8] := ⟨h1, h2, h3, fun h0 => by
    obtain ⟨b, off, hA, hb, hc⟩ := h5 h0
    refine ⟨b, off, hA, hb, fun i hi => ?_⟩
    obtain ⟨cs', hl, hcell, hF⟩ := hc i hi
    obtain ⟨n, rfl, hw⟩ := hF.toInt Try.underlying5
    exact ⟨[.int .u8 n], (show FitsK (some .u8) (.int .u8 n) ∧ True from ⟨⟨n, rfl, hw⟩, trivial⟩), hcell⟩⟩
  obtain ⟨l, hl, hB⟩ := barg_of_row row h4
  subst hl
  exact ⟨A, _, cap, l, rfl, hB.le, ⟨rfl, hB.ok, by have h6 := hB.top; have h7 := hB.le; simp only [reachBytes] at h4; omega, hB.here⟩⟩
theorem cells3 : Try.prog.cellsOf 3 = 1 := by kernel_rfl
theorem cells22 : Try.prog.cellsOf 22 = 1 := by kernel_rfl
set_option maxRecDepth 100000 in
theorem icmp_of_fits {W : World} {cs : List Value} (h : FitsX Try.prog W 24 cs) : ∃ (m : Im) (A : Option Addr) (nd cd : Nat) (d : List Int), cs = [.int .i64 m.ty, .int .i64 m.code, .int .i64 m.id, .int .i64 m.seq, .int .i64 m.mtu, .slice A nd cd] ∧ nd ≤ cd ∧ Pc W A nd d := by
  obtain ⟨hl, hf⟩ := h.toStruct Try.underlying24
  rw [show Try.prog.cellsOf 24 = 6 by kernel_rfl] at hl
  match cs, hl with
  | [c0, c1, c2, c3, c4, c5], _ =>
    have h0 := h.field Try.underlying24 0 (ft := 3) (off := 0) (k := 1) rfl cells3
    have h1 := h.field Try.underlying24 1 (ft := 3) (off := 1) (k := 1) rfl cells3
    have h2 := h.field Try.underlying24 2 (ft := 3) (off := 2) (k := 1) rfl cells3
    have h3 := h.field Try.underlying24 3 (ft := 3) (off := 3) (k := 1) rfl cells3
    have h4 := h.field Try.underlying24 4 (ft := 3) (off := 4) (k := 1) rfl cells3
    have h5 := h.field Try.underlying24 5 (ft := 22) (off := 5) (k := 1) rfl cells22
    obtain ⟨n0, e0, _⟩ := h0.toInt Try.underlying3
    obtain ⟨n1, e1, _⟩ := h1.toInt Try.underlying3
    obtain ⟨n2, e2, _⟩ := h2.toInt Try.underlying3
    obtain ⟨n3, e3, _⟩ := h3.toInt Try.underlying3
    obtain ⟨n4, e4, _⟩ := h4.toInt Try.underlying3
    obtain ⟨A, n, c, l, e5, hnc, hp⟩ := pc_of_fits h5
    cases e0; cases e1; cases e2; cases e3; cases e4; cases e5
    exact ⟨⟨n0, n1, n2, n3, n4⟩, A, n, c, l, rfl, hnc, hp⟩
end Go.Proofs.Ytcfadmjihccimaa
