/- The reference of law 12: may. No condition but lengths. -/
import Derived.Test.YtcfadmjihccimaaIcE
import Derived.Test.YtcfadmjihccimaaKw
namespace Go.Proofs.Ytcfadmjihccimaa
set_option linter.unusedVariables false
set_option linter.unusedSimpArgs false
open Go.RowKit

set_option maxHeartbeats 8000000 in
set_option maxRecDepth 100000 in
theorem rmay43 (ty code id seq mtu : Int) (d : Value) (w : World) : Calls Try.prog 43 #[.agg #[.int .i64 ty, .int .i64 code, .int .i64 id, .int .i64 seq, .int .i64 mtu, d]] w fun e w' => e = .returned (.bool (Im.may ⟨ty, code, id, seq, mtu⟩)) ∧ Fr (fun _ => False) w w' := by
  obtain ⟨r, hr⟩ : ∃ r, Im.may ⟨ty, code, id, seq, mtu⟩ = r := ⟨_, rfl⟩
  rw [hr]
  have HR := Lib.hid hr
  clear hr
  have FA := Lib.hid (fun o => (Fr.refl (fun _ => False) w).alloc o)
  by_cases t0 : ty = 0
  · subst t0
    go_enter Try.func43, Try.ntmps43
    go_wp2_with fail
    all_goals (go_ret; refine ⟨?_, FA.out _⟩; rw [← HR.out]; show Ending.returned (Value.bool _) = Ending.returned (Value.bool _); congr 2; rw [Bool.eq_iff_iff]; simp_all [Im.may]; try omega)
  by_cases t8 : ty = 8
  · subst t8
    go_enter Try.func43, Try.ntmps43
    go_wp2_with fail
    all_goals (go_ret; refine ⟨?_, FA.out _⟩; rw [← HR.out]; show Ending.returned (Value.bool _) = Ending.returned (Value.bool _); congr 2; rw [Bool.eq_iff_iff]; simp_all [Im.may]; try omega)
  by_cases t11 : ty = 11
  · subst t11
    go_enter Try.func43, Try.ntmps43
    go_wp2_with fail
    all_goals (go_ret; refine ⟨?_, FA.out _⟩; rw [← HR.out]; show Ending.returned (Value.bool _) = Ending.returned (Value.bool _); congr 2; rw [Bool.eq_iff_iff]; simp_all [Im.may]; try omega)
  by_cases t3 : ty = 3
  · subst t3
    by_cases c4 : code = 4
    · subst c4
      go_enter Try.func43, Try.ntmps43
      go_wp2_with fail
      all_goals (go_ret; refine ⟨?_, FA.out _⟩; rw [← HR.out]; show Ending.returned (Value.bool _) = Ending.returned (Value.bool _); congr 2; rw [Bool.eq_iff_iff]; simp_all [Im.may]; try omega)
    · go_enter Try.func43, Try.ntmps43
      go_wp2_with fail
      all_goals (go_ret; refine ⟨?_, FA.out _⟩; rw [← HR.out]; show Ending.returned (Value.bool _) = Ending.returned (Value.bool _); congr 2; rw [Bool.eq_iff_iff]; simp_all [Im.may]; try omega)
  · go_enter Try.func43, Try.ntmps43
    go_wp2_with fail
    all_goals (go_ret; refine ⟨?_, FA.out _⟩; rw [← HR.out]; show Ending.returned (Value.bool _) = Ending.returned (Value.bool _); congr 2; rw [Bool.eq_iff_iff]; simp_all [Im.may]; try omega)
end Go.Proofs.Ytcfadmjihccimaa
