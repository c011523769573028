/- The walk of packhorselaw01.WordJoins, at arguments of at most 2^20 bytes. -/
import Derived.Test.YtcfadmjihccimaaProg
import Derived.Test.YtcfadmjihccimaaChecked
import Derived.Test.YtcfadmjihccimaaWdK
namespace Go.Proofs.Ytcfadmjihccimaa
set_option linter.unusedVariables false
open Go.RowKit

theorem OwnB.part {base : Nat} {w : World} {v : Value} {l : List Int} {n : Nat} (h : OwnB base w v l) (hn : l.length = n) (hB : isB l) (ht : n ≤ 140737488355328) : ∃ A c, v = .slice A n c ∧ Pc w A n l := by
  obtain ⟨A, c, e, hb⟩ := h.viewN hn
  exact ⟨A, c, e, hn, hB, ht, hb⟩
theorem put32_part (next : Int) (w : World) : Calls Try.prog 63 #[.slice none 0 0, .int .i64 next] w fun e w' => ∃ A c, e = .returned (.slice A 2 c) ∧ Pc w' A 2 (by16 next) ∧ Fr (fun _ => False) w w' := by
  refine (put32 none 0 0 [] next w (fun h => absurd h (by decide)) (by decide) (Nat.zero_le _)).mono ?_
  rintro e w1 ⟨v, rfl, o, f⟩
  rw [List.nil_append] at o
  obtain ⟨A, c, rfl, h⟩ := o.part (n := 2) rfl (by16_ok next) (by decide)
  exact ⟨A, c, rfl, h, f⟩

end Go.Proofs.Ytcfadmjihccimaa
