/- Small functions of package icmp: within, echo, may. No condition. -/
import Derived.WalkKit
import Derived.ProofKit
import Derived.Test.YtcfadmjihccimaaMapRep
import Derived.Lib.Hide
import Derived.Test.YtcfadmjihccimaaProg
namespace Go.Proofs.Ytcfadmjihccimaa
set_option linter.unusedVariables false
open Go.RowKit

def wi (n m : Int) : Bool := decide (0 ≤ n) && decide (n ≤ m)
theorem wi_iff (n m : Int) : wi n m = true ↔ 0 ≤ n ∧ n ≤ m := by simp [wi]
set_option maxHeartbeats 2000000 in
theorem within62 (n m : Int) (w : World) : Calls Try.prog 62 #[.int .i64 n, .int .i64 m] w fun e w' => e = .returned (.bool (wi n m)) ∧ w' = w := by
  by_cases h1 : 0 ≤ n
  · by_cases h2 : n ≤ m
    · have e : wi n m = true := (wi_iff n m).2 ⟨h1, h2⟩
      rw [e]
      clear e
      go_enter Try.func62, Try.ntmps62
      go_wp2_with fail
      go_ret
      exact ⟨rfl, rfl⟩
    · have e : wi n m = false := by simp [wi]; omega
      rw [e]
      clear e
      go_enter Try.func62, Try.ntmps62
      go_wp2_with fail
      go_ret
      exact ⟨rfl, rfl⟩
  · have e : wi n m = false := by simp [wi]; omega
    rw [e]
    clear e
    go_enter Try.func62, Try.ntmps62
    go_wp2_with fail
    go_ret
    exact ⟨rfl, rfl⟩
def ec (t : Int) : Bool := (t == 0) || (t == 8)
set_option maxHeartbeats 2000000 in
theorem echo48 (t : Int) (w : World) : Calls Try.prog 48 #[.int .i64 t] w fun e w' => e = .returned (.bool (ec t)) ∧ w' = w := by
  unfold ec
  obtain ⟨a, ha⟩ : ∃ a, (t == 0) = a := ⟨_, rfl⟩
  obtain ⟨b, hb⟩ : ∃ a, (t == 8) = a := ⟨_, rfl⟩
  rw [ha, hb]
  cases a <;> cases b
  all_goals go_enter Try.func48, Try.ntmps48
  all_goals go_wp2_with fail
  all_goals go_ret
  all_goals exact ⟨rfl, rfl⟩

/-- A message's head. -/
structure Im where
  ty : Int
  code : Int
  id : Int
  seq : Int
  mtu : Int
def Im.may (m : Im) : Bool :=
  if m.ty = 0 ∨ m.ty = 8 then decide (m.code = 0 ∧ 0 ≤ m.id ∧ m.id ≤ 65535 ∧ 0 ≤ m.seq ∧ m.seq ≤ 65535 ∧ m.mtu = 0)
  else if m.ty = 11 then decide (0 ≤ m.code ∧ m.code ≤ 1 ∧ m.id = 0 ∧ m.seq = 0 ∧ m.mtu = 0)
  else if m.ty = 3 then decide (0 ≤ m.code ∧ m.code ≤ 15 ∧ m.id = 0 ∧ m.seq = 0 ∧ 0 ≤ m.mtu ∧ m.mtu ≤ (if m.code = 4 then 65535 else 0)) else false

set_option maxHeartbeats 8000000 in
set_option maxRecDepth 100000 in
theorem may40P (ty code id seq mtu : Int) (d : Value) (w : World) : Calls Try.prog 40 #[.agg #[.int .i64 ty, .int .i64 code, .int .i64 id, .int .i64 seq, .int .i64 mtu, d]] w fun e w' => e = .returned (.bool (Im.may ⟨ty, code, id, seq, mtu⟩)) ∧ Fr (fun _ => False) w w' := by
  obtain ⟨r, hr⟩ : ∃ r, Im.may ⟨ty, code, id, seq, mtu⟩ = r := ⟨_, rfl⟩
  rw [hr]
  have HR := Lib.hid hr
  clear hr
  have FA := Lib.hid (fun o => (Fr.refl (fun _ => False) w).alloc o)
  by_cases t0 : ty = 0
  · subst t0
    go_enter Try.func40, Try.ntmps40
    go_wp2_with (go_at_call 62; refine (within62 _ _ _).mono ?_; rintro e w2 ⟨rfl, hw⟩; subst hw)
    all_goals (go_ret; refine ⟨?_, FA.out _⟩; rw [← HR.out]; show Ending.returned (Value.bool _) = Ending.returned (Value.bool _); congr 2; rw [Bool.eq_iff_iff]; simp_all [Im.may, wi]; try omega)
  by_cases t8 : ty = 8
  · subst t8
    go_enter Try.func40, Try.ntmps40
    go_wp2_with (go_at_call 62; refine (within62 _ _ _).mono ?_; rintro e w2 ⟨rfl, hw⟩; subst hw)
    all_goals (go_ret; refine ⟨?_, FA.out _⟩; rw [← HR.out]; show Ending.returned (Value.bool _) = Ending.returned (Value.bool _); congr 2; rw [Bool.eq_iff_iff]; simp_all [Im.may, wi]; try omega)
  by_cases t11 : ty = 11
  · subst t11
    go_enter Try.func40, Try.ntmps40
    go_wp2_with (go_at_call 62; refine (within62 _ _ _).mono ?_; rintro e w2 ⟨rfl, hw⟩; subst hw)
    all_goals (go_ret; refine ⟨?_, FA.out _⟩; rw [← HR.out]; show Ending.returned (Value.bool _) = Ending.returned (Value.bool _); congr 2; rw [Bool.eq_iff_iff]; simp_all [Im.may, wi]; try omega)
  by_cases t3 : ty = 3
  · subst t3
    by_cases c4 : code = 4
    · subst c4
      go_enter Try.func40, Try.ntmps40
      go_wp2_with (go_at_call 62; refine (within62 _ _ _).mono ?_; rintro e w2 ⟨rfl, hw⟩; subst hw)
      all_goals (go_ret; refine ⟨?_, FA.out _⟩; rw [← HR.out]; show Ending.returned (Value.bool _) = Ending.returned (Value.bool _); congr 2; rw [Bool.eq_iff_iff]; simp_all [Im.may, wi]; try omega)
    · go_enter Try.func40, Try.ntmps40
      go_wp2_with (go_at_call 62; refine (within62 _ _ _).mono ?_; rintro e w2 ⟨rfl, hw⟩; subst hw)
      all_goals (go_ret; refine ⟨?_, FA.out _⟩; rw [← HR.out]; show Ending.returned (Value.bool _) = Ending.returned (Value.bool _); congr 2; rw [Bool.eq_iff_iff]; simp_all [Im.may, wi]; try omega)
  · go_enter Try.func40, Try.ntmps40
    go_wp2_with (go_at_call 62; refine (within62 _ _ _).mono ?_; rintro e w2 ⟨rfl, hw⟩; subst hw)
    all_goals (go_ret; refine ⟨?_, FA.out _⟩; rw [← HR.out]; show Ending.returned (Value.bool _) = Ending.returned (Value.bool _); congr 2; rw [Bool.eq_iff_iff]; simp_all [Im.may]; try omega)

end Go.Proofs.Ytcfadmjihccimaa
