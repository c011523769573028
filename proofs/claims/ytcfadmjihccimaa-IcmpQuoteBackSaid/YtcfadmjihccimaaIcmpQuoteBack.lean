/- The Go law IcmpQuoteBack returns true at every input, and its arguments read as they did. No condition. -/
import Derived.Test.YtcfadmjihccimaaRows
import Derived.Test.YtcfadmjihccimaaIcBf
import Derived.WalkKit
import Derived.ProofKit
import Derived.OpenShut
import Derived.ChangeOld
import Derived.Below
import Derived.SizedLaws
namespace Go.Proofs.Ytcfadmjihccimaa.icmpQuoteBack
open Go.ChangeShapes Go.WideShapes Go.ChangeAt Go.RowKit
set_option linter.unusedVariables false

theorem own : ownKnob Try.prog.godebug = none := by kernel_rfl
theorem laidOut : laidOutB Try.prog = true := by kernel_rfl

theorem walk (W : World) (cs : List Value) (h : FitsX Try.prog W 58 cs) (fr : Int) (wf : (Lit.int .i64 fr).wf = true) (tt : Int) (wt : (Lit.int .i64 tt).wf = true) (sq : Int) (ws : (Lit.int .u32 sq).wf = true) (B : Option Addr) (nb cb : Nat) (hb : FitsX Try.prog W 22 [.slice B nb cb]) :
    Calls Try.prog 7 #[.agg cs.toArray, .int .i64 fr, .int .i64 tt, .int .u32 sq, .slice B nb cb] W fun e w' => e = .returned (.bool true) ∧ Below W.heap.size W w' := by
  obtain ⟨p, A, no, co, o, rfl, hp, hco, hcm, P⟩ := packet_of_fits h
  obtain ⟨B', nb', cb', lb, e, hnc, PB⟩ := pc_of_fits hb
  cases e
  obtain ⟨A2, n2, c2, e, hle, _, _, hby, _⟩ := hb.toSlice Try.underlying22 (by rw [show Try.prog.cellsOf 5 = 1 by kernel_rfl]; decide)
  cases e
  rw [show Try.prog.bytesOf 5 = 1 by kernel_rfl] at hby
  simp [Lit.wf, IntKind.min, IntKind.max, IntKind.signed, IntKind.bits] at wf wt ws
  exact (quoteBack7 p A no co o fr tt sq B nb cb lb W hp P hco hcm PB (by simp only [reachBytes] at hby; omega) (by omega) (by omega) (by omega)).mono fun e w' h => ⟨h.1, h.2.below⟩


set_option maxRecDepth 100000 in
theorem lifted (os : Os) (started : os.Started) (H : Type) (enc : TypeId × Value → H) :
    ReturnsInHanded {} Try.checked os 7 .any (Rows.icmpQuoteBackSpec.pre6 enc Try.prog Try.f7 Rows.icmpQuoteBackRow.domain false) (Rows.icmpQuoteBackSpec.post enc Try.prog Try.f7 false true false false) := by
  refine returnsInHanded_of_change_sized (C := Try.checked) own started (by kernel_rfl) Try.func7
    (ChangeSpec.witness6 (enc := enc) (C := Try.checked) false ⟨#[], #[.agg #[.int .u8 0,.int .u8 0,.int .u8 0,.int .u8 0,.int .u8 0,.int .u8 0,.int .u8 0,.int .u8 0,.int .i64 0,.int .i64 0,.int .i64 0,.int .i64 0,.bool false,.bool false,.int .i64 0,.slice none 0 0], .int .i64 0, .int .i64 0, .int .u32 0, .slice none 0 0], []⟩ 8 (by kernel_rfl) (by kernel_rfl) (by kernel_rfl) (by kernel_rfl)) ?_
  intro W base args ds gs before hval0 hW _ hsz0 _
  have hsz : (DataW.weightsEach Try.prog (Try.f7.params.toList ++ Rows.icmpQuoteBackSpec.plain.varTypes Try.prog) (ds ++ gs)).all (· ≤ reachBytes) = true := hsz0
  clear hsz0
  have hval : ∀ (j : Nat) t v, Try.f7.params[j]? = some t → args[j]? = some v → Value.okWide Try.prog W .any base t v := hval0
  have hW' := hW
  obtain ⟨p, q, hA0, hV, rfl, hfz, hnd⟩ := hW
  have hA : DataW.TrodAll enc Try.prog W 0 (fun _ => true) true Try.f7.params.toList args.toList ds p := hA0
  rw [Try.params7] at hA hval hsz
  obtain ⟨v0, vs0, d0, ds0, p0, q0, hargs, rfl, rfl, h0, r0⟩ := trodAll_cons hA
  obtain ⟨v1, vs1, d1, ds1, p1, q1, rfl, rfl, rfl, h1, r1⟩ := trodAll_cons r0
  obtain ⟨v2, vs2, d2, ds2, p2, q2, rfl, rfl, rfl, h2, r2⟩ := trodAll_cons r1
  obtain ⟨v3, vs3, d3, ds3, p3, q3, rfl, rfl, rfl, h3, r3⟩ := trodAll_cons r2
  obtain ⟨v4, vs4, d4, ds4, p4, q4, rfl, rfl, rfl, h4, r4⟩ := trodAll_cons r3
  obtain ⟨rfl, rfl, rfl⟩ := trodAll_nil r4
  obtain rfl : args = #[v0, v1, v2, v3, v4] := by cases args; simp_all
  obtain ⟨rfl, rfl⟩ := trodVars_none hV
  obtain ⟨cs0, rfl⟩ : ∃ cs : List Value, v0 = .agg cs.toArray := by
    have hv := hval 0 58 v0 rfl rfl
    first | (obtain ⟨cs, h, _⟩ := okWide_struct Try.underlying58 hv; exact ⟨cs.toList, by simpa using h⟩) | (simp only [Value.okWide, Try.underlying58] at hv; obtain ⟨cs, h, _⟩ := hv; exact ⟨cs.toList, by simpa using h⟩)
  have k0 := h0
  have lt0 : ∀ x ∈ p0, x.block < W.heap.size := by obtain ⟨m, hm⟩ := k0; exact DataW.trod_lt m _ _ _ hm
  have fx0 : FitsX Try.prog W 58 cs0 := by simpa [Value.cells] using open_fits h0 (weights_of hsz (j := 0) rfl rfl)
  obtain ⟨a1, rfl, rfl, rfl, w1⟩ := open_int Try.underlying3 (hval 1 3 v1 rfl rfl) h1
  obtain ⟨a2, rfl, rfl, rfl, w2⟩ := open_int Try.underlying3 (hval 2 3 v2 rfl rfl) h2
  obtain ⟨a3, rfl, rfl, rfl, w3⟩ := open_int Try.underlying51 (hval 3 51 v3 rfl rfl) h3
  obtain ⟨a4, len4, cap4, rfl⟩ := okWide_slice Try.underlying22 (hval 4 22 v4 rfl rfl)
  have k4 := h4
  have lt4 : ∀ x ∈ p4, x.block < W.heap.size := by obtain ⟨m, hm⟩ := k4; exact DataW.trod_lt m _ _ _ hm
  have fx4 : FitsX Try.prog W 22 [.slice a4 len4 cap4] := by simpa [Value.cells] using open_fits h4 (weights_of hsz (j := 4) rfl rfl)
  clear hA0 hval0 hsz
  refine (walk W cs0 fx0 a1 w1 a2 w2 a3 w3 a4 len4 cap4 fx4).mono fun e W' ⟨he, bel⟩ => ?_
  subst he
  exact ⟨_, rfl, _, _, _, [], _, [], hW', trodAll_mk1 (shut_bool Try.underlying4 _), (trodAll_cons_mk (Below.trod laidOut (by kernel_rfl) (of_decide_eq_true (by kernel_rfl)) k0 bel lt0) (trodAll_cons_mk (shut_int Try.underlying3 w1) (trodAll_cons_mk (shut_int Try.underlying3 w2) (trodAll_cons_mk (shut_int Try.underlying51 w3) (trodAll_cons_mk (Below.trod laidOut (by kernel_rfl) (of_decide_eq_true (by kernel_rfl)) k4 bel lt4) trodAll_mk0))))), rfl, bel.frame _, fun h => by cases h⟩

theorem over : Rows.icmpQuoteBackRow.holds Try.pinned (OpenSpec.ofChange Rows.icmpQuoteBackSpec) :=
  OpenClaim.holds_of_wide 7 Try.f7 rfl rfl rfl rfl rfl rfl rfl ⟨rfl, rfl, rfl, rfl, rfl⟩ rfl rfl rfl rfl rfl (by kernel_rfl) Try.func7 (by kernel_rfl)
    (of_decide_eq_true (by kernel_rfl)) (by unfold Func.isWrapper; first | (rw [if_pos (by decide +kernel)]; kernel_rfl) | (rw [if_neg (by decide +kernel)]; exact ⟨rfl, rfl⟩))
    (fun os started H enc _ => lifted os started H enc)

theorem proved : Rows.IcmpQuoteBackSaid := over
#print axioms proved
end Go.Proofs.Ytcfadmjihccimaa.icmpQuoteBack
