/- Heads and addresses that come in as flat values. No condition. -/
import Derived.Test.YtmonaaappimphaaEtM
namespace Go.Proofs.Ytmonaaappimphaa
set_option linter.unusedVariables false
open Go.RowKit

theorem fits_int {k : IntKind} {ks : List (Option IntKind)} {cs : List Value} (h : FitsL (some k :: ks) cs) : ∃ n cs', cs = .int k n :: cs' ∧ (Lit.int k n).wf = true ∧ FitsL ks cs' := by
  cases cs with
  | nil => exact h.elim
  | cons v vs =>
    obtain ⟨⟨n, rfl, hn⟩, h2⟩ := h
    exact ⟨n, vs, rfl, hn, h2⟩
theorem fits_bool {ks : List (Option IntKind)} {cs : List Value} (h : FitsL (none :: ks) cs) : ∃ b cs', cs = .bool b :: cs' ∧ FitsL ks cs' := by
  cases cs with
  | nil => exact h.elim
  | cons v vs =>
    obtain ⟨⟨n, rfl⟩, h2⟩ := h
    exact ⟨n, vs, rfl, h2⟩
theorem fits_nil {cs : List Value} (h : FitsL [] cs) : cs = [] := by
  cases cs with
  | nil => rfl
  | cons v vs => exact h.elim
theorem m6_of_fits {cs : List Value} (h : FitsL k6 cs) : ∃ m : M6, m.ok ∧ cs = [.int .u8 m.a, .int .u8 m.b, .int .u8 m.c, .int .u8 m.d, .int .u8 m.e, .int .u8 m.f] := by
  unfold k6 at h
  obtain ⟨n0, cs0, rfl, w0, h0⟩ := fits_int h
  obtain ⟨n1, cs1, rfl, w1, h1⟩ := fits_int h0
  obtain ⟨n2, cs2, rfl, w2, h2⟩ := fits_int h1
  obtain ⟨n3, cs3, rfl, w3, h3⟩ := fits_int h2
  obtain ⟨n4, cs4, rfl, w4, h4⟩ := fits_int h3
  obtain ⟨n5, cs5, rfl, w5, h5⟩ := fits_int h4
  obtain rfl := fits_nil h5
  exact ⟨⟨n0, n1, n2, n3, n4, n5⟩, ⟨w0, w1, w2, w3, w4, w5⟩, rfl⟩
theorem fh_of_fits {cs : List Value} (h : FitsL k16 cs) : ∃ f : Fh, f.ok ∧ cs = [.int .u8 f.dst.a, .int .u8 f.dst.b, .int .u8 f.dst.c, .int .u8 f.dst.d, .int .u8 f.dst.e, .int .u8 f.dst.f, .int .u8 f.src.a, .int .u8 f.src.b, .int .u8 f.src.c, .int .u8 f.src.d, .int .u8 f.src.e, .int .u8 f.src.f, .bool f.tag, .int .i64 f.vlan, .int .i64 f.prio, .int .i64 f.ty] := by
  unfold k16 at h
  obtain ⟨n0, cs0, rfl, w0, h0⟩ := fits_int h
  obtain ⟨n1, cs1, rfl, w1, h1⟩ := fits_int h0
  obtain ⟨n2, cs2, rfl, w2, h2⟩ := fits_int h1
  obtain ⟨n3, cs3, rfl, w3, h3⟩ := fits_int h2
  obtain ⟨n4, cs4, rfl, w4, h4⟩ := fits_int h3
  obtain ⟨n5, cs5, rfl, w5, h5⟩ := fits_int h4
  obtain ⟨n6, cs6, rfl, w6, h6⟩ := fits_int h5
  obtain ⟨n7, cs7, rfl, w7, h7⟩ := fits_int h6
  obtain ⟨n8, cs8, rfl, w8, h8⟩ := fits_int h7
  obtain ⟨n9, cs9, rfl, w9, h9⟩ := fits_int h8
  obtain ⟨n10, cs10, rfl, w10, h10⟩ := fits_int h9
  obtain ⟨n11, cs11, rfl, w11, h11⟩ := fits_int h10
  obtain ⟨n12, cs12, rfl, h12⟩ := fits_bool h11
  obtain ⟨n13, cs13, rfl, w13, h13⟩ := fits_int h12
  obtain ⟨n14, cs14, rfl, w14, h14⟩ := fits_int h13
  obtain ⟨n15, cs15, rfl, w15, h15⟩ := fits_int h14
  obtain rfl := fits_nil h15
  exact ⟨⟨⟨n0, n1, n2, n3, n4, n5⟩, ⟨n6, n7, n8, n9, n10, n11⟩, n12, n13, n14, n15⟩, ⟨⟨w0, w1, w2, w3, w4, w5⟩, ⟨w6, w7, w8, w9, w10, w11⟩, w13, w14, w15⟩, rfl⟩
end Go.Proofs.Ytmonaaappimphaa
