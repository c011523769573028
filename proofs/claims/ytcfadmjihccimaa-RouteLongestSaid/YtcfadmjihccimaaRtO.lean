/- The table of law 10: Find. No condition but lengths. -/
import Derived.Test.YtcfadmjihccimaaRtN
import Derived.Test.YtcfadmjihccimaaRtH
import Derived.Test.YtcfadmjihccimaaRtP
namespace Go.Proofs.Ytcfadmjihccimaa
set_option linter.unusedVariables false
set_option linter.unusedSimpArgs false
open Go.RowKit
set_option maxHeartbeats 8000000 in
set_option maxRecDepth 100000 in
theorem stable72 (N n cap : Nat) (A : Option Addr) (L : List W10) (w : World) (hS : Sl N 69 10 w (.slice A n cap) n (wfl L)) (hn : L.length = n) (hlen : n ≤ 8) (hbits : ∀ p ∈ L, 0 ≤ p.bits ∧ p.bits ≤ 32) :
    Calls Try.prog 72 #[.slice A n cap, .int .i64 n, .func (.func 54) #[] #[]] w (InPost N n cap A L w) := by
  have HC := Lib.hid (insertion74 N n cap A L w hS hn hlen hbits)
  clear hS hn hbits
  have h1 : ¬ (20 : Int) ≤ (n : Int) := by omega
  have h2 : ¬ (20 : Int) < (n : Int) := by omega
  have h3 : ¬ 20 ≤ n := by omega
  have h4 : ¬ 20 < n := by omega
  have HT := Lib.hid True.intro
  go_enter Try.func72, Try.ntmps72
  go_wp2_with fail
  go_loopw [7, 8] (fun v7 v8 wr => v7 = .int .i64 0 ∧ v8 = .int .i64 20 ∧ wr = w) (fun _ _ _ => 0)
  case atStart => exact ⟨rfl, rfl, rfl⟩
  case round =>
    obtain ⟨rfl, rfl, hwr⟩ := hrel
    have hwr := hwr.symm
    subst hwr
    go_upto_region 7 with (go_at_call 74; refine HC.out.mono ?_; rintro e w2 ⟨rfl, hp⟩; have HP := Lib.hid hp; clear hp)
    go_wp2_with fail
    go_loopw [6] (fun v wr => v = .int .i64 20 ∧ wr = w2) (fun _ _ => 0)
    case atStart => exact ⟨rfl, rfl⟩
    case round =>
      obtain ⟨rfl, hwr⟩ := hrel
      have hwr := hwr.symm
      subst hwr
      go_wp2_with fail
      exact bodyPost_ret (v := .tuple #[]) (by simp [results, Try.results72, go_sem]) rfl ⟨rfl, HP.out⟩
set_option maxHeartbeats 8000000 in
set_option maxRecDepth 100000 in
theorem sort60 (N n cap : Nat) (A : Option Addr) (L : List W10) (w : World) (hS : Sl N 69 10 w (.slice A n cap) n (wfl L)) (hn : L.length = n) (hlen : n ≤ 8) (hbits : ∀ p ∈ L, 0 ≤ p.bits ∧ p.bits ≤ 32) :
    Calls Try.prog 60 #[.slice A n cap, .func (.func 54) #[] #[]] w (InPost N n cap A L w) := by
  have HC := Lib.hid (stable72 N n cap A L w hS hn hlen hbits)
  clear hS hn hbits
  go_enter Try.func60, Try.ntmps60
  go_wp2_with (go_at_call 72; refine HC.out.mono ?_; rintro e w2 ⟨rfl, hp⟩; have HP := Lib.hid hp; clear hp)
  exact bodyPost_ret (v := .tuple #[]) (by simp [results, Try.results60, go_sem]) rfl ⟨rfl, HP.out⟩
end Go.Proofs.Ytcfadmjihccimaa
