/- fold and Patch of package word. No condition on the world. -/
import Derived.WalkKit
import Derived.WalkSpells
import Derived.WalkLawsBesides
import Derived.Deep.QuietTactic
import Derived.Lib.Hide
import Derived.Test.YtcfadmjihccimaaProg
import Derived.Test.YtcfadmjihccimaaChecked
import Derived.Test.YtcfadmjihccimaaWdA
namespace Go.Proofs.Ytcfadmjihccimaa
set_option linter.unusedVariables false
open Go.RowKit

set_option maxHeartbeats 1000000 in
theorem fold41 (s0 : Int) (h0 : 0 ≤ s0) (h1 : s0 < 9223372036854775808) (w : World) :
    Calls Try.prog 65 #[.int .i64 s0] w fun e w' => e = .returned (.int .i64 (nrm s0)) ∧ w' = w := by
  go_enter Try.func65, Try.ntmps65
  go_wp2_with fail
  go_loopw [0] (fun v wr => ∃ s : Int, v = .int .i64 s ∧ 0 ≤ s ∧ s < 9223372036854775808 ∧ nrm s = nrm s0 ∧ wr = w) (fun v _ => (intOf v).toNat)
  case atStart => exact ⟨s0, rfl, h0, h1, rfl, rfl⟩
  case round =>
    obtain ⟨s, rfl, hs0, hs1, hn, rfl⟩ := hrel
    by_cases h : 65535 < s
    · have ha := and_ffff hs0 hs1
      have hq : s % 65536 + s / 65536 < s := by omega
      go_wp2_with fail
      go_roundw
      case rel => exact ⟨s % 65536 + s / 65536, rfl, by omega, by omega, by rw [nrm_step h, hn], by trivial⟩
      case measure => simp [intOf]; omega
    · go_wp2_with fail
      go_ret
      exact ⟨by rw [← hn, nrm_small hs0 (by omega)]; rfl, rfl⟩

theorem and_ffff' (x : Int) : bits .and .i64 x 65535 = x % 65536 := by
  unfold bits
  simp only []
  have h : (BitVec.ofInt IntKind.i64.bits x &&& BitVec.ofInt IntKind.i64.bits 65535).toNat = (x % 65536).toNat := by
    have e : (65535 : Nat) = 2 ^ 16 - 1 := rfl
    rw [BitVec.toNat_and, BitVec.toNat_ofInt, BitVec.toNat_ofInt]
    have e2 : ((65535 : Int) % ((2 ^ IntKind.i64.bits : Nat) : Int)).toNat = 2 ^ 16 - 1 := by decide
    rw [e2, Nat.and_two_pow_sub_one_eq_mod]
    have e3 : ((2 ^ IntKind.i64.bits : Nat) : Int) = 18446744073709551616 := by decide
    rw [e3]
    omega
  rw [h, wraps_i64 _ (by omega) (by omega)]
  omega

/-- The patched checksum. -/
def pt (s o n : Int) : Int := 65535 - nrm (65535 - s % 65536 + 65535 - o % 65536 + n % 65536)
end Go.Proofs.Ytcfadmjihccimaa
