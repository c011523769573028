/- The Go law RouteWhere returns true at every input, and its arguments read as they did. No condition. -/
import Derived.Test.YtcfadmjihccimaaRows
import Derived.Test.YtcfadmjihccimaaRtU
import Derived.WalkKit
import Derived.ProofKit
import Derived.OpenShut
import Derived.ChangeOld
import Derived.Below
import Derived.SizedLaws
namespace Go.Proofs.Ytcfadmjihccimaa.routeWhere
open Go.ChangeShapes Go.WideShapes Go.ChangeAt Go.RowKit
set_option linter.unusedVariables false

theorem own : ownKnob Try.prog.godebug = none := by kernel_rfl
theorem laidOut : laidOutB Try.prog = true := by kernel_rfl

theorem walk (W : World) (A : Option Addr) (n c : Nat) (h : FitsX Try.prog W 65 [.slice A n c]) (cs : List Value) (hk : FitsX Try.prog W 45 cs) :
    Calls Try.prog 10 #[.slice A n c, .agg cs.toArray] W fun e w' => e = .returned (.bool true) ∧ Below W.heap.size W w' := by
  obtain ⟨ws, hws, hc⟩ := ways_of_fits h
  obtain ⟨key, rfl, hkey⟩ := i4_of_fits hk
  exact (where10 A n c ws key W hws hc hkey).mono fun e w' h => ⟨h.1, h.2.below⟩


set_option maxRecDepth 100000 in
theorem lifted (os : Os) (started : os.Started) (H : Type) (enc : TypeId × Value → H) :
    ReturnsInHanded {} Try.checked os 10 .any (Rows.routeWhereSpec.pre6 enc Try.prog Try.f10 Rows.routeWhereRow.domain false) (Rows.routeWhereSpec.post enc Try.prog Try.f10 false true false false) := by
  refine returnsInHanded_of_change_sized (C := Try.checked) own started (by kernel_rfl) Try.func10
    (ChangeSpec.witness6 (enc := enc) (C := Try.checked) false ⟨#[], #[.slice none 0 0, .agg #[.int .u8 0,.int .u8 0,.int .u8 0,.int .u8 0]], []⟩ 8 (by kernel_rfl) (by kernel_rfl) (by kernel_rfl) (by kernel_rfl)) ?_
  intro W base args ds gs before hval0 hW _ hsz0 _
  have hsz : (DataW.weightsEach Try.prog (Try.f10.params.toList ++ Rows.routeWhereSpec.plain.varTypes Try.prog) (ds ++ gs)).all (· ≤ reachBytes) = true := hsz0
  clear hsz0
  have hval : ∀ (j : Nat) t v, Try.f10.params[j]? = some t → args[j]? = some v → Value.okWide Try.prog W .any base t v := hval0
  have hW' := hW
  obtain ⟨p, q, hA0, hV, rfl, hfz, hnd⟩ := hW
  have hA : DataW.TrodAll enc Try.prog W 0 (fun _ => true) true Try.f10.params.toList args.toList ds p := hA0
  rw [Try.params10] at hA hval hsz
  obtain ⟨v0, vs0, d0, ds0, p0, q0, hargs, rfl, rfl, h0, r0⟩ := trodAll_cons hA
  obtain ⟨v1, vs1, d1, ds1, p1, q1, rfl, rfl, rfl, h1, r1⟩ := trodAll_cons r0
  obtain ⟨rfl, rfl, rfl⟩ := trodAll_nil r1
  obtain rfl : args = #[v0, v1] := by cases args; simp_all
  obtain ⟨rfl, rfl⟩ := trodVars_none hV
  obtain ⟨a0, len0, cap0, rfl⟩ := okWide_slice Try.underlying65 (hval 0 65 v0 rfl rfl)
  have k0 := h0
  have lt0 : ∀ x ∈ p0, x.block < W.heap.size := by obtain ⟨m, hm⟩ := k0; exact DataW.trod_lt m _ _ _ hm
  have fx0 : FitsX Try.prog W 65 [.slice a0 len0 cap0] := by simpa [Value.cells] using open_fits h0 (weights_of hsz (j := 0) rfl rfl)
  obtain ⟨cs1, rfl⟩ : ∃ cs : List Value, v1 = .agg cs.toArray := by
    have hv := hval 1 45 v1 rfl rfl
    first | (obtain ⟨cs, h, _⟩ := okWide_struct Try.underlying45 hv; exact ⟨cs.toList, by simpa using h⟩) | (simp only [Value.okWide, Try.underlying45] at hv; obtain ⟨cs, h, _⟩ := hv; exact ⟨cs.toList, by simpa using h⟩)
  have k1 := h1
  have lt1 : ∀ x ∈ p1, x.block < W.heap.size := by obtain ⟨m, hm⟩ := k1; exact DataW.trod_lt m _ _ _ hm
  have fx1 : FitsX Try.prog W 45 cs1 := by simpa [Value.cells] using open_fits h1 (weights_of hsz (j := 1) rfl rfl)
  clear hA0 hval0 hsz
  refine (walk W a0 len0 cap0 fx0 cs1 fx1).mono fun e W' ⟨he, bel⟩ => ?_
  subst he
  exact ⟨_, rfl, _, _, _, [], _, [], hW', trodAll_mk1 (shut_bool Try.underlying4 _), (trodAll_cons_mk (Below.trod laidOut (by kernel_rfl) (of_decide_eq_true (by kernel_rfl)) k0 bel lt0) (trodAll_cons_mk (Below.trod laidOut (by kernel_rfl) (of_decide_eq_true (by kernel_rfl)) k1 bel lt1) trodAll_mk0)), rfl, bel.frame _, fun h => by cases h⟩

theorem over : Rows.routeWhereRow.holds Try.pinned (OpenSpec.ofChange Rows.routeWhereSpec) :=
  OpenClaim.holds_of_wide 10 Try.f10 rfl rfl rfl rfl rfl rfl rfl ⟨rfl, rfl, rfl, rfl, rfl⟩ rfl rfl rfl rfl rfl (by kernel_rfl) Try.func10 (by kernel_rfl)
    (of_decide_eq_true (by kernel_rfl)) (by unfold Func.isWrapper; first | (rw [if_pos (by decide +kernel)]; kernel_rfl) | (rw [if_neg (by decide +kernel)]; exact ⟨rfl, rfl⟩))
    (fun os started H enc _ => lifted os started H enc)

theorem proved : Rows.RouteWhereSaid := over
#print axioms proved
end Go.Proofs.Ytcfadmjihccimaa.routeWhere
