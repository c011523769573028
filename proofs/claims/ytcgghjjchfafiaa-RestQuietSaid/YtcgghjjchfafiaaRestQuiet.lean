/- The Go law RestQuiet returns true at every input, and its arguments read as they did. No condition. -/
import Derived.Test.YtcgghjjchfafiaaRows
import Derived.Test.YtcgghjjchfafiaaRestR
import Derived.Test.YtcgghjjchfafiaaRestO
import Derived.WalkKit
import Derived.ProofKit
import Derived.OpenShut
import Derived.ChangeOld
import Derived.Below
import Derived.SizedLaws
namespace Go.Proofs.Ytcgghjjchfafiaa.restQuiet
open Go.ChangeShapes Go.WideShapes Go.ChangeAt Go.RowKit
set_option linter.unusedVariables false

theorem own : ownKnob Try.prog.godebug = none := by kernel_rfl
theorem laidOut : laidOutB Try.prog = true := by kernel_rfl

/-- The cells of the list as the walk reads them. -/
theorem walk (W : World) (A : Option Addr) (len cap : Nat) (h : RowIn W A len cap 8 [some .i64, some .i64, some .u8, some .u8, some .u8, some .u8, some .i64, some .i64]) (hs : cap * 40 ≤ 140737488351232) :
    Calls Try.prog 4 #[.slice A len cap] W fun e w' => e = .returned (.bool true) ∧ Below W.heap.size W w' := by
  obtain ⟨l, b, off, hl, hA⟩ := ops_of_row h
  rw [← hl]
  exact (quiet4 A b off cap l W hA (by have := h.1; omega)).mono fun e w' h => ⟨h.1, h.2.below⟩


set_option maxRecDepth 100000 in
theorem lifted (os : Os) (started : os.Started) (H : Type) (enc : TypeId × Value → H) :
    ReturnsInHanded {} Try.checked os 4 .any (Rows.restQuietSpec.pre6 enc Try.prog Try.f4 Rows.restQuietRow.domain false) (Rows.restQuietSpec.post enc Try.prog Try.f4 false true false false) := by
  refine returnsInHanded_of_change_sized (C := Try.checked) own started (by kernel_rfl) Try.func4
    (ChangeSpec.witness6 (enc := enc) (C := Try.checked) false ⟨#[], #[.slice none 0 0], []⟩ 8 (by kernel_rfl) (by kernel_rfl) (by kernel_rfl) (by kernel_rfl)) ?_
  intro W base args ds gs before hval0 hW _ hsz0 _
  have hsz : (DataW.weightsEach Try.prog (Try.f4.params.toList ++ Rows.restQuietSpec.plain.varTypes Try.prog) (ds ++ gs)).all (· ≤ reachBytes) = true := hsz0
  clear hsz0
  have hval : ∀ (j : Nat) t v, Try.f4.params[j]? = some t → args[j]? = some v → Value.okWide Try.prog W .any base t v := hval0
  have hW' := hW
  obtain ⟨p, q, hA0, hV, rfl, hfz, hnd⟩ := hW
  have hA : DataW.TrodAll enc Try.prog W 0 (fun _ => true) true Try.f4.params.toList args.toList ds p := hA0
  rw [Try.params4] at hA hval hsz
  obtain ⟨v0, vs0, d0, ds0, p0, q0, hargs, rfl, rfl, h0, r0⟩ := trodAll_cons hA
  obtain ⟨rfl, rfl, rfl⟩ := trodAll_nil r0
  obtain rfl : args = #[v0] := by cases args; simp_all
  obtain ⟨rfl, rfl⟩ := trodVars_none hV
  obtain ⟨a0, len0, cap0, rfl⟩ := okWide_slice Try.underlying22 (hval 0 22 v0 rfl rfl)
  have k0 := h0
  have lt0 : ∀ x ∈ p0, x.block < W.heap.size := by obtain ⟨m, hm⟩ := k0; exact DataW.trod_lt m _ _ _ hm
  obtain ⟨row0, sh0⟩ := open_rowIn (sz := 8) (ks := [some .i64, some .i64, some .u8, some .u8, some .u8, some .u8, some .i64, some .i64]) Try.underlying22 (by kernel_rfl) (by kernel_rfl) (by omega) h0
  have sz0 : cap0 * 40 ≤ 140737488351232 := row_size (by_ := 40) hsz (j := 0) rfl rfl Try.underlying22 (by kernel_rfl) sh0 row0.1
  clear hA0 hval0 hsz
  refine (walk W a0 len0 cap0 row0 sz0).mono fun e W' ⟨he, bel⟩ => ?_
  subst he
  exact ⟨_, rfl, _, _, _, [], _, [], hW', trodAll_mk1 (shut_bool Try.underlying4 _), (trodAll_cons_mk (Below.trod laidOut (by kernel_rfl) (of_decide_eq_true (by kernel_rfl)) k0 bel lt0) trodAll_mk0), rfl, bel.frame _, fun h => by cases h⟩

theorem over : Rows.restQuietRow.holds Try.pinned (OpenSpec.ofChange Rows.restQuietSpec) :=
  OpenClaim.holds_of_wide 4 Try.f4 rfl rfl rfl rfl rfl rfl rfl ⟨rfl, rfl, rfl, rfl, rfl⟩ rfl rfl rfl rfl rfl (by kernel_rfl) Try.func4 (by kernel_rfl)
    (of_decide_eq_true (by kernel_rfl)) (by unfold Func.isWrapper; first | (rw [if_pos (by decide +kernel)]; kernel_rfl) | (rw [if_neg (by decide +kernel)]; exact ⟨rfl, rfl⟩))
    (fun os started H enc _ => lifted os started H enc)

theorem proved : Rows.RestQuietSaid := over
#print axioms proved
end Go.Proofs.Ytcgghjjchfafiaa.restQuiet
