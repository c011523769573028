/- Small functions of package ether: may, pair, number, All. No condition. -/
import Derived.Test.YtmonaaappimphaaEtA
namespace Go.Proofs.Ytmonaaappimphaa
set_option linter.unusedVariables false
open Go.RowKit

/-- A frame's head as a value. -/
def frV (d0 d1 d2 d3 d4 d5 s0 s1 s2 s3 s4 s5 : Int) (tag : Bool) (vlan prio ty : Int) : Value :=
  .agg #[.int .u8 d0, .int .u8 d1, .int .u8 d2, .int .u8 d3, .int .u8 d4, .int .u8 d5, .int .u8 s0, .int .u8 s1, .int .u8 s2, .int .u8 s3, .int .u8 s4, .int .u8 s5, .bool tag, .int .i64 vlan, .int .i64 prio, .int .i64 ty]
/-- May a head be? -/
def mayB (tag : Bool) (vlan prio ty : Int) : Bool :=
  decide (1536 ≤ ty ∧ ty ≤ 65535 ∧ ty ≠ 33024) && (if tag then decide (0 ≤ vlan ∧ vlan < 4096 ∧ 0 ≤ prio ∧ prio < 8) else decide (vlan = 0 ∧ prio = 0))

set_option maxHeartbeats 4000000 in
set_option maxRecDepth 100000 in
theorem may32 (d0 d1 d2 d3 d4 d5 s0 s1 s2 s3 s4 s5 : Int) (tag : Bool) (vlan prio ty : Int) (w : World) :
    Calls Try.prog 32 #[frV d0 d1 d2 d3 d4 d5 s0 s1 s2 s3 s4 s5 tag vlan prio ty] w fun e w' => e = .returned (.bool (mayB tag vlan prio ty)) ∧ Fr (fun _ => False) w w' := by
  obtain ⟨r, hr⟩ : ∃ r, mayB tag vlan prio ty = r := ⟨_, rfl⟩
  rw [hr]
  have HR := Lib.hid hr
  clear hr
  unfold frV
  have FA := Lib.hid (fun o => (Fr.refl (fun _ => False) w).alloc o)
  by_cases h1 : ty < 1536
  · go_enter Try.func32, Try.ntmps32
    go_wp2_with fail
    go_ret
    refine ⟨?_, FA.out _⟩
    rw [← HR.out]; simp [mayB]; omega
  by_cases h2 : 65535 < ty
  · go_enter Try.func32, Try.ntmps32
    go_wp2_with fail
    go_ret
    refine ⟨?_, FA.out _⟩
    rw [← HR.out]; simp [mayB]; omega
  by_cases h3 : ty = 33024
  · subst h3
    go_enter Try.func32, Try.ntmps32
    go_wp2_with fail
    go_ret
    refine ⟨?_, FA.out _⟩
    rw [← HR.out]; simp [mayB]
  cases tag
  all_goals go_enter Try.func32, Try.ntmps32
  all_goals go_wp2_with fail
  all_goals (go_ret; refine ⟨?_, FA.out _⟩; rw [← HR.out]; show Ending.returned (Value.bool _) = Ending.returned (Value.bool _); congr 2; rw [Bool.eq_iff_iff]; simp [mayB]; omega)

set_option maxHeartbeats 2000000 in
theorem pair34 (n : Int) (w : World) : Calls Try.prog 34 #[.int .i64 n] w fun e w' => e = .returned (.slice (some ⟨w.heap.size, 0, none⟩) 2 2) ∧ w' = w.alloc (.cells (([n / 256 % 256, n % 256] : List Int).map (Value.int .u8)).toArray 5) := by
  go_enter Try.func34, Try.ntmps34
  go_wp2_with fail
  go_ret
  exact ⟨rfl, rfl⟩

set_option maxHeartbeats 2000000 in
theorem all19 (w : World) : Calls Try.prog 19 #[] w fun e w' => e = .returned (.agg #[.int .u8 255, .int .u8 255, .int .u8 255, .int .u8 255, .int .u8 255, .int .u8 255]) ∧ w' = w.alloc (.cells #[.int .u8 255, .int .u8 255, .int .u8 255, .int .u8 255, .int .u8 255, .int .u8 255] 23) := by
  go_enter Try.func19, Try.ntmps19
  go_wp2_with fail
  exact bodyPost_ret (v := .agg #[.int .u8 255, .int .u8 255, .int .u8 255, .int .u8 255, .int .u8 255, .int .u8 255]) (by simp [results, Try.results19, go_sem]) rfl ⟨rfl, rfl⟩
end Go.Proofs.Ytmonaaappimphaa
