/- The Go law EtherPads returns true at every input, and its arguments read as they did. No condition. -/
import Derived.Test.YtmonaaappimphaaRows
import Derived.Test.YtmonaaappimphaaEtS
import Derived.Test.YtmonaaappimphaaEtQ
import Derived.Test.YtmonaaappimphaaEtLaw
import Derived.Test.YtmonaaappimphaaEtL
import Derived.WalkKit
import Derived.ProofKit
import Derived.OpenShut
import Derived.ChangeOld
import Derived.Below
import Derived.SizedLaws
namespace Go.Proofs.Ytmonaaappimphaa.etherPads
open Go.ChangeShapes Go.WideShapes Go.ChangeAt Go.RowKit
set_option linter.unusedVariables false

theorem own : ownKnob Try.prog.godebug = none := by kernel_rfl
theorem laidOut : laidOutB Try.prog = true := by kernel_rfl

theorem walk (W : World) (cs : List Value) (h : FitsL k16 cs) (A : Option Addr) (len cap : Nat) (hr : RowIn W A len cap 1 [some .u8]) (hs : cap * 1 ≤ 140737488351232) :
    Calls Try.prog 7 #[.agg cs.toArray, .slice A len cap] W fun e w' => e = .returned (.bool true) ∧ Below W.heap.size W w' := by
  obtain ⟨f, hf, rfl⟩ := fh_of_fits h
  obtain ⟨l, rfl, hB⟩ := barg_of_row hr hs
  by_cases hm : f.may = true
  · by_cases hn : l.length ≤ 256
    · exact (pads7_ok f A l.length cap l _ _ W hm hn ⟨rfl, hB.ok, by omega, hB.here⟩ hB.le (by omega) rfl rfl).mono fun e w' h => ⟨h.1, h.2.below⟩
    · exact (pads7_bad f A l.length cap 2 W (.inr rfl) (fun w => encode13_long f A l.length cap w hm (by omega))).mono fun e w' h => ⟨h.1, h.2.below⟩
  · exact (pads7_bad f A l.length cap 1 W (.inl rfl) (fun w => encode13_bad f A l.length cap w (by simpa using hm))).mono fun e w' h => ⟨h.1, h.2.below⟩

set_option maxRecDepth 100000 in
theorem lifted (os : Os) (started : os.Started) (H : Type) (enc : TypeId × Value → H) :
    ReturnsInHanded {} Try.checked os 7 .any (Rows.etherPadsSpec.pre6 enc Try.prog Try.f7 Rows.etherPadsRow.domain false) (Rows.etherPadsSpec.post enc Try.prog Try.f7 false true false false) := by
  refine returnsInHanded_of_change_sized (C := Try.checked) own started (by kernel_rfl) Try.func7
    (ChangeSpec.witness6 (enc := enc) (C := Try.checked) false ⟨#[], #[.agg #[.int .u8 0, .int .u8 0, .int .u8 0, .int .u8 0, .int .u8 0, .int .u8 0, .int .u8 0, .int .u8 0, .int .u8 0, .int .u8 0, .int .u8 0, .int .u8 0, .bool false, .int .i64 0, .int .i64 0, .int .i64 0], .slice none 0 0], []⟩ 8 (by kernel_rfl) (by kernel_rfl) (by kernel_rfl) (by kernel_rfl)) ?_
  intro W base args ds gs before hval0 hW _ hsz0 _
  have hsz : (DataW.weightsEach Try.prog (Try.f7.params.toList ++ Rows.etherPadsSpec.plain.varTypes Try.prog) (ds ++ gs)).all (· ≤ reachBytes) = true := hsz0
  clear hsz0
  have hval : ∀ (j : Nat) t v, Try.f7.params[j]? = some t → args[j]? = some v → Value.okWide Try.prog W .any base t v := hval0
  have hW' := hW
  obtain ⟨p, q, hA0, hV, rfl, hfz, hnd⟩ := hW
  have hA : DataW.TrodAll enc Try.prog W 0 (fun _ => true) true Try.f7.params.toList args.toList ds p := hA0
  rw [Try.params7] at hA hval hsz
  obtain ⟨v0, vs0, d0, ds0, p0, q0, hargs, rfl, rfl, h0, r0⟩ := trodAll_cons hA
  obtain ⟨v1, vs1, d1, ds1, p1, q1, rfl, rfl, rfl, h1, r1⟩ := trodAll_cons r0
  obtain ⟨rfl, rfl, rfl⟩ := trodAll_nil r1
  obtain rfl : args = #[v0, v1] := by cases args; simp_all
  obtain ⟨rfl, rfl⟩ := trodVars_none hV
  obtain ⟨cs0, rfl, hcs0⟩ : ∃ cs : List Value, v0 = .agg cs.toArray ∧ FitsL [some .u8, some .u8, some .u8, some .u8, some .u8, some .u8, some .u8, some .u8, some .u8, some .u8, some .u8, some .u8, none, some .i64, some .i64, some .i64] cs := open_flat (P := Try.prog) (t := 25) (by kernel_rfl) (by first | exact Or.inl ⟨_, Try.underlying25⟩ | exact Or.inr ⟨_, _, Try.underlying25⟩) (hval 0 25 v0 rfl rfl) h0
  have k0 := h0
  have lt0 : ∀ x ∈ p0, x.block < W.heap.size := by obtain ⟨m, hm⟩ := k0; exact DataW.trod_lt m _ _ _ hm
  obtain ⟨a1, len1, cap1, rfl⟩ := okWide_slice Try.underlying26 (hval 1 26 v1 rfl rfl)
  have k1 := h1
  have lt1 : ∀ x ∈ p1, x.block < W.heap.size := by obtain ⟨m, hm⟩ := k1; exact DataW.trod_lt m _ _ _ hm
  obtain ⟨row1, sh1⟩ := open_rowIn (sz := 1) (ks := [some .u8]) Try.underlying26 (by kernel_rfl) (by kernel_rfl) (by omega) h1
  have sz1 : cap1 * 1 ≤ 140737488351232 := row_size (by_ := 1) hsz (j := 1) rfl rfl Try.underlying26 (by kernel_rfl) sh1 row1.1
  clear hA0 hval0 hsz
  refine (walk W cs0 hcs0 a1 len1 cap1 row1 sz1).mono fun e W' ⟨he, bel⟩ => ?_
  subst he
  exact ⟨_, rfl, _, _, _, [], _, [], hW', trodAll_mk1 (shut_bool Try.underlying4 _), (trodAll_cons_mk (Below.trod laidOut (by kernel_rfl) (of_decide_eq_true (by kernel_rfl)) k0 bel lt0) (trodAll_cons_mk (Below.trod laidOut (by kernel_rfl) (of_decide_eq_true (by kernel_rfl)) k1 bel lt1) trodAll_mk0)), rfl, bel.frame _, fun h => by cases h⟩

theorem over : Rows.etherPadsRow.holds Try.pinned (OpenSpec.ofChange Rows.etherPadsSpec) :=
  OpenClaim.holds_of_wide 7 Try.f7 rfl rfl rfl rfl rfl rfl rfl ⟨rfl, rfl, rfl, rfl, rfl⟩ rfl rfl rfl rfl rfl (by kernel_rfl) Try.func7 (by kernel_rfl)
    (of_decide_eq_true (by kernel_rfl)) (by unfold Func.isWrapper; first | (rw [if_pos (by decide +kernel)]; kernel_rfl) | (rw [if_neg (by decide +kernel)]; exact ⟨rfl, rfl⟩))
    (fun os started H enc _ => lifted os started H enc)

theorem proved : Rows.EtherPadsSaid := over
#print axioms proved
end Go.Proofs.Ytmonaaappimphaa.etherPads
