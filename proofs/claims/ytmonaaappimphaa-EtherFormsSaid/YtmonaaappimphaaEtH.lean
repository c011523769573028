/- number and Decode of package ether. No condition but lengths. -/
import Derived.Test.YtmonaaappimphaaEtE
import Derived.Laws.Cover3
namespace Go.Proofs.Ytmonaaappimphaa
set_option linter.unusedVariables false
open Go.RowKit

theorem or_pair {x y : Int} (h₀ : 0 ≤ x) (h₁ : x < 256) (h₂ : 0 ≤ y) (h₃ : y < 256) : bits .or .i64 (x * 256) y = x * 256 + y := by
  rw [bits_join .i64 63 (by decide) wraps_i64 8 (x * 256) y (by omega) (by omega) (by omega) h₂ (by omega) (by omega)]
set_option maxHeartbeats 4000000 in
set_option maxRecDepth 100000 in
theorem number35 (b o n c : Nat) (x y : Int) (w : World) (hx : w.cell? ⟨b, o, none⟩ = some (.int .u8 x)) (hy : w.cell? ⟨b, o + 1, none⟩ = some (.int .u8 y)) (hn : 2 ≤ n) (x0 : 0 ≤ x ∧ x < 256) (y0 : 0 ≤ y ∧ y < 256) :
    Calls Try.prog 35 #[.slice (some ⟨b, o, none⟩) n c] w fun e w' => e = .returned (.int .i64 (x * 256 + y)) ∧ ∃ k, w' = w.drewN k := by
  have hor := or_pair x0.1 x0.2 y0.1 y0.2
  have hwr : IntKind.i64.wrap (x * 256) = x * 256 := IntWalk.i64_in _ (by omega)
  have cx : ∀ j, (w.drewN j).cell? ⟨b, o, none⟩ = some (.int .u8 x) := fun j => hx
  have cy : ∀ j, (w.drewN j).cell? ⟨b, o + 1, none⟩ = some (.int .u8 y) := fun j => hy
  go_enter Try.func35, Try.ntmps35
  go_upto_region 1 with (fail)
  go_quiet (fail)
  go_wp2_with fail
  go_ret
  exact ⟨rfl, _, rfl⟩

set_option maxHeartbeats 4000000 in
set_option maxRecDepth 100000 in
theorem decode15_short (A : Option Addr) (nb c : Nat) (w : World) (hn : nb < 60) :
    Calls Try.prog 15 #[.slice A nb c] w fun e w' => e = .returned (.tuple #[.agg #[.int .u8 0, .int .u8 0, .int .u8 0, .int .u8 0, .int .u8 0, .int .u8 0, .int .u8 0, .int .u8 0, .int .u8 0, .int .u8 0, .int .u8 0, .int .u8 0, .bool false, .int .i64 0, .int .i64 0, .int .i64 0], .slice none 0 0, .int .i64 3]) ∧ Fr (fun _ => False) w w' := by
  go_enter Try.func15, Try.ntmps15
  go_wp2_with fail
  exact bodyPost_ret (v := .tuple #[.agg #[.int .u8 0, .int .u8 0, .int .u8 0, .int .u8 0, .int .u8 0, .int .u8 0, .int .u8 0, .int .u8 0, .int .u8 0, .int .u8 0, .int .u8 0, .int .u8 0, .bool false, .int .i64 0, .int .i64 0, .int .i64 0], .slice none 0 0, .int .i64 3]) (by simp [results, Try.results15, go_sem]) rfl ⟨rfl, (Fr.refl _ _).alloc _⟩
end Go.Proofs.Ytmonaaappimphaa
