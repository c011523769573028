/- The Go law EtherForms returns true at every input, and its arguments read as they did. No condition. -/
import Derived.Test.YtmonaaappimphaaRows
import Derived.Test.YtmonaaappimphaaEtAc
import Derived.Test.YtmonaaappimphaaEtQ
import Derived.Test.YtmonaaappimphaaEtLaw
import Derived.Test.YtmonaaappimphaaEtL
import Derived.WalkKit
import Derived.ProofKit
import Derived.OpenShut
import Derived.ChangeOld
import Derived.Below
import Derived.SizedLaws
namespace Go.Proofs.Ytmonaaappimphaa.etherForms
open Go.ChangeShapes Go.WideShapes Go.ChangeAt Go.RowKit
set_option linter.unusedVariables false

theorem own : ownKnob Try.prog.godebug = none := by kernel_rfl
theorem laidOut : laidOutB Try.prog = true := by kernel_rfl

theorem walk (W : World) (cs : List Value) (h : FitsL k16 cs) (A : Option Addr) (len cap : Nat) (hr : RowIn W A len cap 1 [some .u8]) (hs : cap * 1 ≤ 140737488351232) (A2 : Option Addr) (len2 cap2 : Nat) (hr2 : RowIn W A2 len2 cap2 1 [some .u8]) (hs2 : cap2 * 1 ≤ 140737488351232) :
    Calls Try.prog 3 #[.agg cs.toArray, .slice A len cap, .slice A2 len2 cap2] W fun e w' => e = .returned (.bool true) ∧ Below W.heap.size W w' := by
  obtain ⟨f, hf, rfl⟩ := fh_of_fits h
  obtain ⟨l, rfl, hB⟩ := barg_of_row hr hs
  obtain ⟨l2, rfl, hB2⟩ := barg_of_row hr2 hs2
  exact (etherforms3 f A l.length cap l A2 l2.length cap2 l2 W hf ⟨rfl, hB.ok, by have := hB.le; omega, hB.here⟩ hB.le (by omega) ⟨rfl, hB2.ok, by have := hB2.le; omega, hB2.here⟩ hB2.le (by omega)).mono fun e w' h => ⟨h.1, h.2.below⟩

set_option maxRecDepth 100000 in
theorem lifted (os : Os) (started : os.Started) (H : Type) (enc : TypeId × Value → H) :
    ReturnsInHanded {} Try.checked os 3 .any (Rows.etherFormsSpec.pre6 enc Try.prog Try.f3 Rows.etherFormsRow.domain false) (Rows.etherFormsSpec.post enc Try.prog Try.f3 false true false false) := by
  refine returnsInHanded_of_change_sized (C := Try.checked) own started (by kernel_rfl) Try.func3
    (ChangeSpec.witness6 (enc := enc) (C := Try.checked) false ⟨#[], #[.agg #[.int .u8 0, .int .u8 0, .int .u8 0, .int .u8 0, .int .u8 0, .int .u8 0, .int .u8 0, .int .u8 0, .int .u8 0, .int .u8 0, .int .u8 0, .int .u8 0, .bool false, .int .i64 0, .int .i64 0, .int .i64 0], .slice none 0 0, .slice none 0 0], []⟩ 8 (by kernel_rfl) (by kernel_rfl) (by kernel_rfl) (by kernel_rfl)) ?_
  intro W base args ds gs before hval0 hW _ hsz0 _
  have hsz : (DataW.weightsEach Try.prog (Try.f3.params.toList ++ Rows.etherFormsSpec.plain.varTypes Try.prog) (ds ++ gs)).all (· ≤ reachBytes) = true := hsz0
  clear hsz0
  have hval : ∀ (j : Nat) t v, Try.f3.params[j]? = some t → args[j]? = some v → Value.okWide Try.prog W .any base t v := hval0
  have hW' := hW
  obtain ⟨p, q, hA0, hV, rfl, hfz, hnd⟩ := hW
  have hA : DataW.TrodAll enc Try.prog W 0 (fun _ => true) true Try.f3.params.toList args.toList ds p := hA0
  rw [Try.params3] at hA hval hsz
  obtain ⟨v0, vs0, d0, ds0, p0, q0, hargs, rfl, rfl, h0, r0⟩ := trodAll_cons hA
  obtain ⟨v1, vs1, d1, ds1, p1, q1, rfl, rfl, rfl, h1, r1⟩ := trodAll_cons r0
  obtain ⟨v2, vs2, d2, ds2, p2, q2, rfl, rfl, rfl, h2, r2⟩ := trodAll_cons r1
  obtain ⟨rfl, rfl, rfl⟩ := trodAll_nil r2
  obtain rfl : args = #[v0, v1, v2] := by cases args; simp_all
  obtain ⟨rfl, rfl⟩ := trodVars_none hV
  obtain ⟨cs0, rfl, hcs0⟩ : ∃ cs : List Value, v0 = .agg cs.toArray ∧ FitsL [some .u8, some .u8, some .u8, some .u8, some .u8, some .u8, some .u8, some .u8, some .u8, some .u8, some .u8, some .u8, none, some .i64, some .i64, some .i64] cs := open_flat (P := Try.prog) (t := 25) (by kernel_rfl) (by first | exact Or.inl ⟨_, Try.underlying25⟩ | exact Or.inr ⟨_, _, Try.underlying25⟩) (hval 0 25 v0 rfl rfl) h0
  have k0 := h0
  have lt0 : ∀ x ∈ p0, x.block < W.heap.size := by obtain ⟨m, hm⟩ := k0; exact DataW.trod_lt m _ _ _ hm
  obtain ⟨a1, len1, cap1, rfl⟩ := okWide_slice Try.underlying26 (hval 1 26 v1 rfl rfl)
  have k1 := h1
  have lt1 : ∀ x ∈ p1, x.block < W.heap.size := by obtain ⟨m, hm⟩ := k1; exact DataW.trod_lt m _ _ _ hm
  obtain ⟨row1, sh1⟩ := open_rowIn (sz := 1) (ks := [some .u8]) Try.underlying26 (by kernel_rfl) (by kernel_rfl) (by omega) h1
  have sz1 : cap1 * 1 ≤ 140737488351232 := row_size (by_ := 1) hsz (j := 1) rfl rfl Try.underlying26 (by kernel_rfl) sh1 row1.1
  obtain ⟨a2, len2, cap2, rfl⟩ := okWide_slice Try.underlying26 (hval 2 26 v2 rfl rfl)
  have k2 := h2
  have lt2 : ∀ x ∈ p2, x.block < W.heap.size := by obtain ⟨m, hm⟩ := k2; exact DataW.trod_lt m _ _ _ hm
  obtain ⟨row2, sh2⟩ := open_rowIn (sz := 1) (ks := [some .u8]) Try.underlying26 (by kernel_rfl) (by kernel_rfl) (by omega) h2
  have sz2 : cap2 * 1 ≤ 140737488351232 := row_size (by_ := 1) hsz (j := 2) rfl rfl Try.underlying26 (by kernel_rfl) sh2 row2.1
  clear hA0 hval0 hsz
  refine (walk W cs0 hcs0 a1 len1 cap1 row1 sz1 a2 len2 cap2 row2 sz2).mono fun e W' ⟨he, bel⟩ => ?_
  subst he
  exact ⟨_, rfl, _, _, _, [], _, [], hW', trodAll_mk1 (shut_bool Try.underlying4 _), (trodAll_cons_mk (Below.trod laidOut (by kernel_rfl) (of_decide_eq_true (by kernel_rfl)) k0 bel lt0) (trodAll_cons_mk (Below.trod laidOut (by kernel_rfl) (of_decide_eq_true (by kernel_rfl)) k1 bel lt1) (trodAll_cons_mk (Below.trod laidOut (by kernel_rfl) (of_decide_eq_true (by kernel_rfl)) k2 bel lt2) trodAll_mk0))), rfl, bel.frame _, fun h => by cases h⟩

theorem over : Rows.etherFormsRow.holds Try.pinned (OpenSpec.ofChange Rows.etherFormsSpec) :=
  OpenClaim.holds_of_wide 3 Try.f3 rfl rfl rfl rfl rfl rfl rfl ⟨rfl, rfl, rfl, rfl, rfl⟩ rfl rfl rfl rfl rfl (by kernel_rfl) Try.func3 (by kernel_rfl)
    (of_decide_eq_true (by kernel_rfl)) (by unfold Func.isWrapper; first | (rw [if_pos (by decide +kernel)]; kernel_rfl) | (rw [if_neg (by decide +kernel)]; exact ⟨rfl, rfl⟩))
    (fun os started H enc _ => lifted os started H enc)

theorem proved : Rows.EtherFormsSaid := over
#print axioms proved
end Go.Proofs.Ytmonaaappimphaa.etherForms
