/- The chapter's example of package icmp: its numbers. No condition. -/
import Derived.Test.YtcfadmjihccimaaIcD
import Derived.Test.YtcfadmjihccimaaIcP
namespace Go.Proofs.Ytcfadmjihccimaa
set_option linter.unusedVariables false
open Go.RowKit

def m0 : Im := ⟨8, 0, 1, 2, 0⟩
def l0 : List Int := [8, 0, 150, 252, 0, 1, 0, 2, 97]
def l1 : List Int := [8, 0, 150, 252, 0, 1, 0, 2, 98]
theorem m0_may : m0.may = true := by decide
theorem m0_lay : m0.lay (ck (m0.lay 0 [97])) [97] = l0 := by decide
theorem l0_ck : ck l0 = 0 := by decide
theorem l1_ck : ck l1 ≠ 0 := by decide
theorem l0_ok : isB l0 := by intro x hx; simp [l0] at hx; omega
theorem l1_ok : isB l1 := by intro x hx; simp [l1] at hx; omega
theorem l01 : l0.set 8 98 = l1 := by decide
theorem encode_aw (A : Option Addr) (c : Nat) (w : World) (P : Pc w A 1 [97]) :
    Calls Try.prog 12 #[.agg #[.int .i64 8, .int .i64 0, .int .i64 1, .int .i64 2, .int .i64 0, .slice A 1 c]] w fun e w' => ∃ g cp, e = .returned (.tuple #[.slice (some ⟨g, 0, none⟩) 9 cp, .int .i64 0]) ∧ OwnB w.heap.size w' (.slice (some ⟨g, 0, none⟩) 9 cp) l0 ∧ Fr (fun _ => False) w w' := by
  refine (encode12_ok m0 A 1 c [97] w (by omega) m0_may P).mono ?_
  rintro e w' ⟨v, rfl, o, f⟩
  rw [m0_lay] at o
  obtain ⟨g, cp, rfl, _, _⟩ := o.form (n := 9) rfl (by omega)
  exact ⟨g, cp, rfl, o, f⟩
theorem decode_aw1 (A : Option Addr) (c : Nat) (w : World) (P : Pc w A 9 l1) :
    Calls Try.prog 14 #[.slice A 9 c] w fun e w' => e = .returned (.tuple #[.agg #[.int .i64 0, .int .i64 0, .int .i64 0, .int .i64 0, .int .i64 0, .slice none 0 0], .int .i64 5]) ∧ Fr (fun _ => False) w w' :=
  decode14_sum A 9 c l1 w (by omega) (by omega) P l1_ck
end Go.Proofs.Ytcfadmjihccimaa
