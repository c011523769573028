/- The chapter's examples hold (awake of law 07). No condition. -/
import Derived.Test.YtmonaaappimphaaEtI
import Derived.Test.YtmonaaappimphaaEtF
import Derived.Lib.SlBytesConst
namespace Go.Proofs.Ytmonaaappimphaa
set_option linter.unusedVariables false
open Go.RowKit

def f0 : Fh := ⟨allM, ⟨2, 0, 0, 0, 0, 1⟩, false, 0, 0, 2054⟩
theorem f0_ok : f0.ok := ⟨allM_ok, ⟨rfl, rfl, rfl, rfl, rfl, rfl⟩, rfl, rfl, rfl⟩
theorem f0_may : f0.may = true := by decide
def l0 : List Int := [255, 255, 255, 255, 255, 255, 2, 0, 0, 0, 0, 1, 8, 6, 97, 0, 0, 0, 0, 0, 0, 0, 0, 0, 0, 0, 0, 0, 0, 0, 0, 0, 0, 0, 0, 0, 0, 0, 0, 0, 0, 0, 0, 0, 0, 0, 0, 0, 0, 0, 0, 0, 0, 0, 0, 0, 0, 0, 0, 0]
theorem f0_pad : f0.pad [97] = l0 := by decide
theorem l0_len : l0.length = 60 := rfl
theorem l0_ok : isB l0 := by intro x hx; simp [l0] at hx; omega
theorem pc_lit (w : World) : Pc (w.alloc (.cells #[.int .u8 97] 5 (1, 2))) (some ⟨w.heap.size, 0, none⟩) 1 [97] :=
  ⟨rfl, by intro x hx; simp at hx; omega, by decide, fun _ => ⟨w.heap.size, 0, rfl, by simp, fun j x hj => by
    rw [World.cell?_alloc_mark, Nat.zero_add]
    match j, hj with
    | 0, hj => cases hj; rfl⟩⟩
theorem encode_aw (w : World) : Calls Try.prog 13 #[.agg #[.int .u8 255, .int .u8 255, .int .u8 255, .int .u8 255, .int .u8 255, .int .u8 255, .int .u8 2, .int .u8 0, .int .u8 0, .int .u8 0, .int .u8 0, .int .u8 1, .bool false, .int .i64 0, .int .i64 0, .int .i64 2054], .slice (some ⟨w.heap.size, 0, none⟩) 1 1] (w.alloc (.cells #[.int .u8 97] 5 (1, 2))) fun e w' => ∃ g c, e = .returned (.tuple #[.slice (some ⟨g, 0, none⟩) 60 c, .int .i64 0]) ∧ OwnB w.heap.size w' (.slice (some ⟨g, 0, none⟩) 60 c) l0 ∧ Fr (fun _ => False) w w' := by
  refine (encode13_ok f0 (some ⟨w.heap.size, 0, none⟩) 1 1 [97] _ f0_may (by decide) (pc_lit w)).mono ?_
  rintro e w' ⟨v, rfl, o, f⟩
  rw [f0_pad] at o
  obtain ⟨g, c, rfl, _, _⟩ := o.form l0_len (by decide)
  exact ⟨g, c, rfl, o.base (by simp), ((Fr.refl _ w).alloc _).then f⟩
theorem decode_aw (g c : Nat) (w : World) (hc : 60 ≤ c) (P : Pc w (some ⟨g, 0, none⟩) 60 l0) : Calls Try.prog 15 #[.slice (some ⟨g, 0, none⟩) 60 c] w fun e w' => ∃ A k, e = .returned (.tuple #[.agg #[.int .u8 255, .int .u8 255, .int .u8 255, .int .u8 255, .int .u8 255, .int .u8 255, .int .u8 2, .int .u8 0, .int .u8 0, .int .u8 0, .int .u8 0, .int .u8 1, .bool false, .int .i64 0, .int .i64 0, .int .i64 2054], .slice A 46 k, .int .i64 0]) ∧ Fr (fun _ => False) w w' := by
  obtain ⟨x, hx⟩ : ∃ x : Nat → Int, ∀ i, i < 18 → l0[i]? = some (x i) := ⟨fun i => l0.getD i 0, fun i hi => by
    show l0[i]? = some (l0.getD i 0)
    rw [List.getD_eq_getElem?_getD, List.getElem?_eq_getElem (by rw [l0_len]; omega)]; rfl⟩
  have e0 : x 0 = 255 := by have h := hx 0 (by omega); injection h with h; exact h.symm
  have e1 : x 1 = 255 := by have h := hx 1 (by omega); injection h with h; exact h.symm
  have e2 : x 2 = 255 := by have h := hx 2 (by omega); injection h with h; exact h.symm
  have e3 : x 3 = 255 := by have h := hx 3 (by omega); injection h with h; exact h.symm
  have e4 : x 4 = 255 := by have h := hx 4 (by omega); injection h with h; exact h.symm
  have e5 : x 5 = 255 := by have h := hx 5 (by omega); injection h with h; exact h.symm
  have e6 : x 6 = 2 := by have h := hx 6 (by omega); injection h with h; exact h.symm
  have e7 : x 7 = 0 := by have h := hx 7 (by omega); injection h with h; exact h.symm
  have e8 : x 8 = 0 := by have h := hx 8 (by omega); injection h with h; exact h.symm
  have e9 : x 9 = 0 := by have h := hx 9 (by omega); injection h with h; exact h.symm
  have e10 : x 10 = 0 := by have h := hx 10 (by omega); injection h with h; exact h.symm
  have e11 : x 11 = 1 := by have h := hx 11 (by omega); injection h with h; exact h.symm
  have e12 : x 12 = 8 := by have h := hx 12 (by omega); injection h with h; exact h.symm
  have e13 : x 13 = 6 := by have h := hx 13 (by omega); injection h with h; exact h.symm
  have e14 : x 12 * 256 + x 13 = 2054 := by rw [e12, e13]; rfl
  have h := decode15_plain g 0 60 c l0 x w (by decide) (by decide) hc P hx (by rw [e14]; decide) (by rw [e14, e0, e1, e2, e3, e4, e5, e6, e7, e8, e9, e10, e11]; decide)
  rw [e14, e0, e1, e2, e3, e4, e5, e6, e7, e8, e9, e10, e11] at h
  refine h.mono ?_
  rintro e w' ⟨v, rfl, o, f⟩
  obtain ⟨A, k, rfl, _⟩ := o.viewN (n := 46) rfl
  exact ⟨A, k, rfl, f⟩
end Go.Proofs.Ytmonaaappimphaa
