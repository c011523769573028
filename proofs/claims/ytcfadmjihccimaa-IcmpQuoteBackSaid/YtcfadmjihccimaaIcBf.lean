/- What came in as a packet, opened. No condition. -/
import Derived.Test.YtcfadmjihccimaaIcO
import Derived.Test.YtcfadmjihccimaaIcBe
namespace Go.Proofs.Ytcfadmjihccimaa
set_option linter.unusedVariables false
set_option linter.unusedSimpArgs false
open Go.RowKit
theorem cells4b : Try.prog.cellsOf 4 = 1 := by kernel_rfl
theorem cells45b : Try.prog.cellsOf 45 = 4 := by kernel_rfl
theorem cells5b : Try.prog.cellsOf 5 = 1 := by kernel_rfl
set_option maxRecDepth 100000 in
theorem ip_of_fits {W : World} {cs : List Value} (h : FitsX Try.prog W 45 cs) : ∃ a b c d : Int, cs = [.int .u8 a, .int .u8 b, .int .u8 c, .int .u8 d] ∧ isB [a, b, c, d] := by
  obtain ⟨hl, hf⟩ := h.toArray Try.underlying45
  rw [cells45b] at hl
  simp only [cells5b] at hf
  match cs, hl with
  | [c0, c1, c2, c3], _ =>
    obtain ⟨n0, e0, w0⟩ := (hf 0 (by decide)).toInt Try.underlying5
    obtain ⟨n1, e1, w1⟩ := (hf 1 (by decide)).toInt Try.underlying5
    obtain ⟨n2, e2, w2⟩ := (hf 2 (by decide)).toInt Try.underlying5
    obtain ⟨n3, e3, w3⟩ := (hf 3 (by decide)).toInt Try.underlying5
    simp at e0 e1 e2 e3
    subst e0; subst e1; subst e2; subst e3
    refine ⟨n0, n1, n2, n3, rfl, fun x hx => ?_⟩
    simp [Lit.wf, IntKind.min, IntKind.max, IntKind.signed, IntKind.bits] at w0 w1 w2 w3
    simp at hx
    omega
set_option maxRecDepth 100000 in
theorem packet_of_fits {W : World} {cs : List Value} (h : FitsX Try.prog W 58 cs) : ∃ (p : Ph) (A : Option Addr) (no co : Nat) (o : List Int), cs = [.int .u8 p.s0, .int .u8 p.s1, .int .u8 p.s2, .int .u8 p.s3, .int .u8 p.d0, .int .u8 p.d1, .int .u8 p.d2, .int .u8 p.d3, .int .i64 p.proto, .int .i64 p.ttl, .int .i64 p.id, .int .i64 p.tos, .bool p.whole, .bool p.more, .int .i64 p.off, .slice A no co] ∧ p.wf ∧ no ≤ co ∧ co ≤ maxLen ∧ Pc W A no o := by
  obtain ⟨hl, hf⟩ := h.toStruct Try.underlying58
  rw [show Try.prog.cellsOf 58 = 16 by kernel_rfl] at hl
  match cs, hl with
  | [c0, c1, c2, c3, c4, c5, c6, c7, c8, c9, c10, c11, c12, c13, c14, c15], _ =>
    have h0 := h.field Try.underlying58 0 (ft := 45) (off := 0) (k := 4) rfl cells45b
    have h1 := h.field Try.underlying58 1 (ft := 45) (off := 4) (k := 4) rfl cells45b
    have h2 := h.field Try.underlying58 2 (ft := 3) (off := 8) (k := 1) rfl cells3
    have h3 := h.field Try.underlying58 3 (ft := 3) (off := 9) (k := 1) rfl cells3
    have h4 := h.field Try.underlying58 4 (ft := 3) (off := 10) (k := 1) rfl cells3
    have h5 := h.field Try.underlying58 5 (ft := 3) (off := 11) (k := 1) rfl cells3
    have h6 := h.field Try.underlying58 6 (ft := 4) (off := 12) (k := 1) rfl cells4b
    have h7 := h.field Try.underlying58 7 (ft := 4) (off := 13) (k := 1) rfl cells4b
    have h8 := h.field Try.underlying58 8 (ft := 3) (off := 14) (k := 1) rfl cells3
    have h9 := h.field Try.underlying58 9 (ft := 22) (off := 15) (k := 1) rfl cells22
    obtain ⟨s0, s1, s2, s3, e0, b0⟩ := ip_of_fits h0
    obtain ⟨d0, d1, d2, d3, e1, b1⟩ := ip_of_fits h1
    obtain ⟨n2, e2, _⟩ := h2.toInt Try.underlying3
    obtain ⟨n3, e3, _⟩ := h3.toInt Try.underlying3
    obtain ⟨n4, e4, _⟩ := h4.toInt Try.underlying3
    obtain ⟨n5, e5, _⟩ := h5.toInt Try.underlying3
    obtain ⟨n6, e6⟩ := h6.toBool Try.underlying4
    obtain ⟨n7, e7⟩ := h7.toBool Try.underlying4
    obtain ⟨n8, e8, w8⟩ := h8.toInt Try.underlying3
    obtain ⟨A, n, c, l, e9, hnc, hp⟩ := pc_of_fits h9
    obtain ⟨A2, n2', c2, e10, _, hcm, _⟩ := h9.toSlice Try.underlying22 (by rw [cells5b]; decide)
    cases e0; cases e1; cases e2; cases e3; cases e4; cases e5; cases e6; cases e7; cases e8; cases e9; cases e10
    simp [Lit.wf, IntKind.min, IntKind.max, IntKind.signed, IntKind.bits] at w8
    exact ⟨⟨s0, s1, s2, s3, d0, d1, d2, d3, n2, n3, n4, n5, n6, n7, n8⟩, A, n, c, l, rfl, ⟨b0, b1, by omega⟩, hnc, hcm, hp⟩
end Go.Proofs.Ytcfadmjihccimaa
