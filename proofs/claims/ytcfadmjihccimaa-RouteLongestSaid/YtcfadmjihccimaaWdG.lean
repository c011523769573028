/- packhorselaw01.awake gives true. No condition. -/
import Derived.Deep.CutBlock
import Derived.Deep.DeepCutAuto
import Derived.Deep.RegionHeld3
import Derived.Deep.DeepMust
import Derived.Test.YtcfadmjihccimaaProg
import Derived.Test.YtcfadmjihccimaaChecked
import Derived.Test.YtcfadmjihccimaaWdF
namespace Go.Proofs.Ytcfadmjihccimaa
set_option linter.unusedVariables false
open Go.RowKit

theorem str_bytes {n₀ : Nat} {w : World} {A : Option Addr} {l : List Int} (c : Nat) (h : BytesIn n₀ w A l) : (convert 22 9 (.slice A l.length c)).run Try.prog w = .ok (.string (strOfNums l)) w := by
  cases A with
  | none =>
    obtain rfl := h.none
    exact run_convert_bytes_nil w 22 5 Try.underlying22 Try.underlying5 0 c 9 Try.underlying9
  | some a =>
    by_cases hl : 0 < l.length
    · obtain ⟨b, off, e, hb, hc⟩ := h hl
      cases e
      refine run_convert_bytes_arg w 22 5 Try.underlying22 Try.underlying5 b off l.length c l rfl (fun i hi => ?_) 9 Try.underlying9
      rw [hc i l[i] (List.getElem?_eq_getElem hi)]
      simp [hi]
    · obtain rfl : l = [] := List.length_eq_zero_iff.1 (by omega)
      rw [run_convert_bytes_string w 22 9 5 _ _ c Try.underlying22 Try.underlying5 Try.underlying9, show ([] : List Int).length = 0 from rfl, run_bytesToString w a 0 c [] (by rw [loadCells]; unfold loadCellsFrom; rfl)]
      rfl
theorem at33_aw1 (b n₀ : Nat) (w : World) (hb : BytesIn n₀ w (some ⟨b, 0, none⟩) [1, 2, 3]) :
    Calls Try.prog 46 #[.slice (some ⟨b, 0, none⟩) 3 3, .int .i64 1] w fun e w' => e = .returned (.tuple #[.int .i64 515, .int .i64 0]) ∧ w' = w := by
  have h := at33 (some ⟨b, 0, none⟩) 3 n₀ [1, 2, 3] 1 w (by intro x hx; simp at hx; omega) hb (by decide) (by decide) (by decide)
  rw [show atV [1, 2, 3] 1 2 = 515 by decide, show atE [1, 2, 3] 1 2 = 0 by decide] at h
  exact h
theorem at33_aw2 (b n₀ : Nat) (w : World) (hb : BytesIn n₀ w (some ⟨b, 0, none⟩) [1, 2, 3]) :
    Calls Try.prog 46 #[.slice (some ⟨b, 0, none⟩) 3 3, .int .i64 2] w fun e w' => e = .returned (.tuple #[.int .i64 0, .int .i64 3]) ∧ w' = w := by
  have h := at33 (some ⟨b, 0, none⟩) 3 n₀ [1, 2, 3] 2 w (by intro x hx; simp at hx; omega) hb (by decide) (by decide) (by decide)
  rw [show atV [1, 2, 3] 2 2 = 0 by decide, show atE [1, 2, 3] 2 2 = 3 by decide] at h
  exact h
theorem sum28_one (b : Nat) (A : Option Addr) (c c' : Nat) (l : List Int) (w : World) (hB : isB l) (hl : l.length ≤ 140737488355328) (hb : w.cell? ⟨b, 0, none⟩ = some (.slice A l.length c)) (hb' : b < w.heap.size) (hA : BytesIn w.heap.size w A l) :
    Calls Try.prog 42 #[.slice (some ⟨b, 0, none⟩) 1 c'] w fun e w' => e = .returned (.int .i64 (ck l)) ∧ Fr (fun _ => False) w w' := by
  have h := sum28 (some ⟨b, 0, none⟩) c' [l] (by simpa using hB) (by simp) (by simpa using hl) w (fun _ => ⟨b, 0, rfl, hb', fun i p hi => by
    have hi0 : i = 0 := by have := (List.getElem?_eq_some_iff.1 hi).1; simp at this; omega
    subst hi0
    cases hi
    exact ⟨A, c, hb, hA⟩⟩)
  rw [show [l].flatten = l by simp] at h
  exact h

theorem Fr.then {w w' w'' : World} (h : Fr (fun _ => False) w w') (k : Fr (fun _ => False) w' w'') : Fr (fun _ => False) w w'' := h.trans k (fun _ _ e => e.elim)
theorem by16_aw : by16 70000 = [17, 112] := by decide
theorem by32_aw : by32 258 = [0, 0, 1, 2] := by decide
theorem put32_aw (w : World) : Calls Try.prog 63 #[.slice none 0 0, .int .i64 70000] w fun e w' => ∃ A c, e = .returned (.slice A 2 c) ∧ BytesIn w'.heap.size w' A [17, 112] ∧ Fr (fun _ => False) w w' := by
  refine (put32 none 0 0 [] 70000 w (fun h => absurd h (by decide)) (by decide) (Nat.zero_le _)).mono ?_
  rintro e w1 ⟨v, rfl, o, f⟩
  rw [by16_aw] at o
  obtain ⟨A, c, rfl, b⟩ := o.view
  exact ⟨A, c, rfl, b, f⟩
theorem ck_aw : ck [0, 1] = 65534 := by decide
theorem pt_aw : pt 65534 1 2 = 65533 := by decide
theorem sum28_box (A : Option Addr) (c : Nat) (l : List Int) (w : World) (hB : isB l) (hl : l.length ≤ 140737488355328) (hA : BytesIn w.heap.size w A l) (c' : Nat) :
    Calls Try.prog 42 #[.slice (some ⟨w.heap.size, 0, none⟩) 1 c'] (w.alloc (.cells #[.slice A l.length c] 22)) fun e w' => e = .returned (.int .i64 (ck l)) ∧ Fr (fun _ => False) w w' := by
  have f := (Fr.refl (fun _ => False) w).alloc (.cells #[.slice A l.length c] 22)
  refine (sum28_one w.heap.size A c c' l _ hB hl (cell_of_one (heap_alloc_new w _)) (by simp) ?_).mono ?_
  · have h := hA.fr f (Nat.le_refl _) (fun _ _ e => e)
    intro h0
    obtain ⟨b, off, e, hb, hc⟩ := h h0
    exact ⟨b, off, e, by simp; omega, hc⟩
  · rintro e w' ⟨rfl, f'⟩
    exact ⟨rfl, f.then f'⟩
theorem sum28_aw (w : World) : Calls Try.prog 42 #[.slice (some ⟨w.heap.size + 1, 0, none⟩) 1 1] ((w.alloc (.cells #[.int .u8 0, .int .u8 1] 5)).alloc (.cells #[.slice (some ⟨w.heap.size, 0, none⟩) 2 2] 22)) fun e w' => e = .returned (.int .i64 65534) ∧ Fr (fun _ => False) w w' := by
  have h := sum28_box (some ⟨w.heap.size, 0, none⟩) 2 [0, 1] (w.alloc (.cells #[.int .u8 0, .int .u8 1] 5)) (by intro x hx; simp at hx; omega) (by decide) (by simpa using bytes_lit w [0, 1]) 1
  rw [ck_aw, World.size_alloc] at h
  refine h.mono ?_
  rintro e w' ⟨rfl, f⟩
  exact ⟨rfl, ((Fr.refl (fun _ => False) w).alloc _).then f⟩
theorem str_aw1 : strOfNums [17, 112] = { data := #[17, 112] } := by decide
theorem str_aw2 : strOfNums [0, 0, 1, 2] = { data := #[0, 0, 1, 2] } := by decide

end Go.Proofs.Ytcfadmjihccimaa
