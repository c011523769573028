/- The Go law RestDoes returns true at every input, and its arguments read as they did. No condition. -/
import Derived.Test.YtcgghjjchfafiaaRows
import Derived.Test.YtcgghjjchfafiaaRestW
import Derived.Test.YtcgghjjchfafiaaRestO
import Derived.WalkKit
import Derived.ProofKit
import Derived.OpenShut
import Derived.ChangeOld
import Derived.Below
import Derived.SizedLaws
namespace Go.Proofs.Ytcgghjjchfafiaa.restDoes
open Go.ChangeShapes Go.WideShapes Go.ChangeAt Go.RowKit
set_option linter.unusedVariables false

theorem own : ownKnob Try.prog.godebug = none := by kernel_rfl
theorem laidOut : laidOutB Try.prog = true := by kernel_rfl

set_option maxRecDepth 100000 in
set_option maxHeartbeats 3000000 in
theorem does3_out (now0 : Int) (A : Option Addr) (len cap : Nat) (w : World) (hm : now0 < -1000 ∨ 1099511627776 < now0) :
    Calls Try.prog 3 #[.int .i64 now0, .slice A len cap] w fun e w' => e = .returned (.bool true) ∧ Fr (fun _ => False) w w' := by
  rcases hm with hm | hm
  · go_enter Try.func3, Try.ntmps3
    go_wp2_with fail
    refine (awake14 _).mono ?_
    rintro e w1 ⟨rfl, f1⟩
    go_wp2_with fail
    refine (new15 _).mono ?_
    rintro e w2 ⟨g, m, rfl, T2, f2, hg, hm'⟩
    go_wp2_with fail
    go_ret
    exact ⟨rfl, (f1.none f2).alloc _⟩
  · have h0 : ¬ now0 < -1000 := by omega
    go_enter Try.func3, Try.ntmps3
    go_wp2_with fail
    refine (awake14 _).mono ?_
    rintro e w1 ⟨rfl, f1⟩
    go_wp2_with fail
    refine (new15 _).mono ?_
    rintro e w2 ⟨g, m, rfl, T2, f2, hg, hm'⟩
    go_wp2_with fail
    go_ret
    exact ⟨rfl, (f1.none f2).alloc _⟩

/-- The cells of the list as the walk reads them. -/
theorem walk (W : World) (now0 : Int) (hw : (Lit.int .i64 now0).wf = true) (A : Option Addr) (len cap : Nat) (h : RowIn W A len cap 8 [some .i64, some .i64, some .u8, some .u8, some .u8, some .u8, some .i64, some .i64]) (hs : cap * 40 ≤ 140737488351232) :
    Calls Try.prog 3 #[.int .i64 now0, .slice A len cap] W fun e w' => e = .returned (.bool true) ∧ Below W.heap.size W w' := by
  by_cases hm : now0 < -1000 ∨ 1099511627776 < now0
  · exact (does3_out now0 A len cap W hm).mono fun e w' h => ⟨h.1, h.2.below⟩
  · obtain ⟨l, b, off, hl, hA⟩ := ops_of_row h
    rw [← hl]
    exact (does3 now0 A b off cap l W hA (by have := h.1; omega) (by omega) (by omega)).mono fun e w' h => ⟨h.1, h.2.below⟩

set_option maxRecDepth 100000 in
theorem lifted (os : Os) (started : os.Started) (H : Type) (enc : TypeId × Value → H) :
    ReturnsInHanded {} Try.checked os 3 .any (Rows.restDoesSpec.pre6 enc Try.prog Try.f3 Rows.restDoesRow.domain false) (Rows.restDoesSpec.post enc Try.prog Try.f3 false true false false) := by
  refine returnsInHanded_of_change_sized (C := Try.checked) own started (by kernel_rfl) Try.func3
    (ChangeSpec.witness6 (enc := enc) (C := Try.checked) false ⟨#[], #[.int .i64 0, .slice none 0 0], []⟩ 8 (by kernel_rfl) (by kernel_rfl) (by kernel_rfl) (by kernel_rfl)) ?_
  intro W base args ds gs before hval0 hW _ hsz0 _
  have hsz : (DataW.weightsEach Try.prog (Try.f3.params.toList ++ Rows.restDoesSpec.plain.varTypes Try.prog) (ds ++ gs)).all (· ≤ reachBytes) = true := hsz0
  clear hsz0
  have hval : ∀ (j : Nat) t v, Try.f3.params[j]? = some t → args[j]? = some v → Value.okWide Try.prog W .any base t v := hval0
  have hW' := hW
  obtain ⟨p, q, hA0, hV, rfl, hfz, hnd⟩ := hW
  have hA : DataW.TrodAll enc Try.prog W 0 (fun _ => true) true Try.f3.params.toList args.toList ds p := hA0
  rw [Try.params3] at hA hval hsz
  obtain ⟨v0, vs0, d0, ds0, p0, q0, hargs, rfl, rfl, h0, r0⟩ := trodAll_cons hA
  obtain ⟨v1, vs1, d1, ds1, p1, q1, rfl, rfl, rfl, h1, r1⟩ := trodAll_cons r0
  obtain ⟨rfl, rfl, rfl⟩ := trodAll_nil r1
  obtain rfl : args = #[v0, v1] := by cases args; simp_all
  obtain ⟨rfl, rfl⟩ := trodVars_none hV
  obtain ⟨a0, rfl, rfl, rfl, w0⟩ := open_int Try.underlying3 (hval 0 3 v0 rfl rfl) h0
  obtain ⟨a1, len1, cap1, rfl⟩ := okWide_slice Try.underlying22 (hval 1 22 v1 rfl rfl)
  have k1 := h1
  have lt1 : ∀ x ∈ p1, x.block < W.heap.size := by obtain ⟨m, hm⟩ := k1; exact DataW.trod_lt m _ _ _ hm
  obtain ⟨row1, sh1⟩ := open_rowIn (sz := 8) (ks := [some .i64, some .i64, some .u8, some .u8, some .u8, some .u8, some .i64, some .i64]) Try.underlying22 (by kernel_rfl) (by kernel_rfl) (by omega) h1
  have sz1 : cap1 * 40 ≤ 140737488351232 := row_size (by_ := 40) hsz (j := 1) rfl rfl Try.underlying22 (by kernel_rfl) sh1 row1.1
  clear hA0 hval0 hsz
  refine (walk W a0 w0 a1 len1 cap1 row1 sz1).mono fun e W' ⟨he, bel⟩ => ?_
  subst he
  exact ⟨_, rfl, _, _, _, [], _, [], hW', trodAll_mk1 (shut_bool Try.underlying4 _), (trodAll_cons_mk (shut_int Try.underlying3 w0) (trodAll_cons_mk (Below.trod laidOut (by kernel_rfl) (of_decide_eq_true (by kernel_rfl)) k1 bel lt1) trodAll_mk0)), rfl, bel.frame _, fun h => by cases h⟩

theorem over : Rows.restDoesRow.holds Try.pinned (OpenSpec.ofChange Rows.restDoesSpec) :=
  OpenClaim.holds_of_wide 3 Try.f3 rfl rfl rfl rfl rfl rfl rfl ⟨rfl, rfl, rfl, rfl, rfl⟩ rfl rfl rfl rfl rfl (by kernel_rfl) Try.func3 (by kernel_rfl)
    (of_decide_eq_true (by kernel_rfl)) (by unfold Func.isWrapper; first | (rw [if_pos (by decide +kernel)]; kernel_rfl) | (rw [if_neg (by decide +kernel)]; exact ⟨rfl, rfl⟩))
    (fun os started H enc _ => lifted os started H enc)

theorem proved : Rows.RestDoesSaid := over
#print axioms proved
end Go.Proofs.Ytcgghjjchfafiaa.restDoes
