/- The reference's Decode in one contract: it answers as Decode does. No condition but lengths. -/
import Derived.Test.YtmonaaappimphaaEtAa
namespace Go.Proofs.Ytmonaaappimphaa
set_option linter.unusedVariables false
open Go.RowKit

def rG (l : List Int) : Fh := ⟨⟨dX l 0, dX l 1, dX l 2, dX l 3, dX l 4, dX l 5⟩, ⟨dX l 6, dX l 7, dX l 8, dX l 9, dX l 10, dX l 11⟩, dTg l, cond (dTg l) (dX l 14 % 16 * 256 + dX l 15) 0, cond (dTg l) (dX l 14 / 32) 0, dX l (dT l) * 256 + dX l (dT l + 1)⟩
def rBad (l : List Int) : Bool := decide ((rG l).ty < 1536) || (dTg l && ((dX l 14 / 16 % 2 == 1) || ((rG l).ty == 33024)))
theorem rG_eq (l : List Int) (hB : isB l) (hl : 60 ≤ l.length) : rBad l = !(dG l).may ∧ ((dG l).may = true → rG l = dG l) := by
  have bd : ∀ i, i < l.length → 0 ≤ dX l i ∧ dX l i ≤ 255 := fun i hi => hB _ (List.mem_of_getElem? (dX_get hi))
  have b12 := bd 12 (by omega)
  have b13 := bd 13 (by omega)
  have b14 := bd 14 (by omega)
  have b15 := bd 15 (by omega)
  have b16 := bd 16 (by omega)
  have b17 := bd 17 (by omega)
  cases k : dTg l
  · have hT : dT l = 12 := by unfold dT; rw [k]; rfl
    have ht : dX l 12 * 256 + dX l 13 ≠ 33024 := by simpa [dTg] using k
    have e : rG l = dG l := by unfold rG dG; rw [k]; rfl
    refine ⟨?_, fun _ => e⟩
    unfold rBad Fh.may mayB
    rw [e, k]
    have ety : (dG l).ty = dX l 12 * 256 + dX l 13 := by unfold dG; rw [hT]
    have etg : (dG l).tag = false := k
    have ev : (dG l).vlan = 0 := by unfold dG; rw [k]; rfl
    have ep : (dG l).prio = 0 := by unfold dG; rw [k]; rfl
    rw [ety, etg, ev, ep]
    by_cases h : dX l 12 * 256 + dX l 13 < 1536
    · simp [h]
    · simp [h]; omega
  · have hT : dT l = 16 := by unfold dT; rw [k]; rfl
    have ety : (dG l).ty = dX l 16 * 256 + dX l 17 := by unfold dG; rw [hT]
    have etr : (rG l).ty = dX l 16 * 256 + dX l 17 := by unfold rG; rw [hT]
    have etg : (dG l).tag = true := k
    have ev : (dG l).vlan = (dX l 14 * 256 + dX l 15) % 4096 := by unfold dG; rw [k]; rfl
    have ep : (dG l).prio = cond ((dX l 14 * 256 + dX l 15) / 4096 % 2 == 1) (-1) ((dX l 14 * 256 + dX l 15) / 8192) := by unfold dG; rw [k]; rfl
    have hq : (dX l 14 * 256 + dX l 15) / 4096 % 2 = dX l 14 / 16 % 2 := by omega
    constructor
    · unfold rBad Fh.may mayB
      rw [etr, ety, etg, ev, ep, k, hq]
      by_cases h2 : dX l 14 / 16 % 2 = 1
      · simp [h2]
      · have h2b : (dX l 14 / 16 % 2 == 1) = false := by simpa using h2
        rw [h2b]
        rw [Bool.eq_iff_iff]
        simp
        omega
    · intro hm
      have hv := may_tag hm etg
      rw [ep] at hv
      have h2b : (dX l 14 / 16 % 2 == 1) = false := by
        cases h : (dX l 14 / 16 % 2 == 1)
        · rfl
        · rw [hq, h] at hv
          simp only [cond_true] at hv
          omega
      have h2 : ¬ dX l 14 / 16 % 2 = 1 := by simpa using h2b
      unfold rG dG
      rw [k, hq, h2b]
      simp only [cond_true, cond_false, Fh.mk.injEq, true_and, and_true]
      omega
theorem rdecode_any (A : Option Addr) (n c : Nat) (l : List Int) (w : World) (hc : n ≤ c) (P : Pc w A n l) (g : Fh) (hg : decF l = g) :
    Calls Try.prog 16 #[.slice A n c] w fun e w' => ∃ A' n' c', e = .returned (.tuple #[.agg #[.int .u8 g.dst.a, .int .u8 g.dst.b, .int .u8 g.dst.c, .int .u8 g.dst.d, .int .u8 g.dst.e, .int .u8 g.dst.f, .int .u8 g.src.a, .int .u8 g.src.b, .int .u8 g.src.c, .int .u8 g.src.d, .int .u8 g.src.e, .int .u8 g.src.f, .bool g.tag, .int .i64 g.vlan, .int .i64 g.prio, .int .i64 g.ty], .slice A' n' c', .int .i64 (decK l)]) ∧ (decL l).length = n' ∧ BytesIn w'.heap.size w' A' (decL l) ∧ Fr (fun _ => False) w w' := by
  have hl := P.len
  have nilB : ∀ w' : World, BytesIn w'.heap.size w' none [] := fun w' h => absurd h (by simp)
  by_cases h1 : n < 60
  · have k : decK l = 3 := by unfold decK; rw [if_pos (by omega)]
    unfold decL
    have hz : z0 = g := by rw [← hg]; unfold decF; rw [k]; rfl
    subst hz
    rw [k]
    refine (rdecode16_short A n c w h1).mono ?_
    rintro e w' ⟨h1, h2⟩
    exact ⟨none, 0, 0, h1, rfl, nilB w', h2⟩
  · obtain ⟨b, off, rfl, _, _⟩ := P.here (by rw [P.len]; omega)
    obtain ⟨e1, e2⟩ := rG_eq l P.ok (by omega)
    refine (rdecode16_all b off n c l (dX l) (dTg l) (dT l) (dMo l) (rG l) (rBad l) w (by omega) hc P (fun i hi => dX_get (by rw [P.len]; omega)) rfl rfl rfl rfl rfl).mono ?_
    rintro e w' ⟨k1, k2, k3, k4⟩
    by_cases h2 : dMo l < (n : Int)
    · have k : decK l = 2 := by unfold decK; rw [if_neg (by omega), if_pos (by omega)]
      unfold decL
      have hz : z0 = g := by rw [← hg]; unfold decF; rw [k]; rfl
      subst hz
      rw [k]
      exact ⟨none, 0, 0, k2 h2, rfl, nilB w', k1⟩
    · cases hm : (dG l).may
      · have k : decK l = 4 := by unfold decK; rw [if_neg (by omega), if_neg (by omega), hm]; rfl
        unfold decL
        have hz : z0 = g := by rw [← hg]; unfold decF; rw [k]; rfl
        subst hz
        rw [k]
        exact ⟨none, 0, 0, k3 h2 (by rw [e1, hm]; rfl), rfl, nilB w', k1⟩
      · have k : decK l = 0 := by unfold decK; rw [if_neg (by omega), if_neg (by omega), if_pos hm]
        have hz : rG l = g := by rw [← hg]; unfold decF; rw [if_pos k]; exact e2 hm
        unfold decL
        rw [if_pos k, k]
        have hd := dMo_two l
        have k5 := k4 h2 (by rw [e1, hm]; rfl)
        rw [hz] at k5
        refine ⟨_, _, _, k5, by rw [List.length_drop, hl], ?_, k1⟩
        have h8 := ((P.here.fr k1 (Nat.le_refl _) (fun _ _ e => e)).up k1.size)
        exact h8.drop (dT l + 2)
end Go.Proofs.Ytmonaaappimphaa

