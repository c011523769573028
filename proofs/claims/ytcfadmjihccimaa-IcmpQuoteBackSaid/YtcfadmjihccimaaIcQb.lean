/- The reference's Quoting of law 12. -/
import Derived.Test.YtcfadmjihccimaaIcQa
namespace Go.Proofs.Ytcfadmjihccimaa
set_option linter.unusedVariables false
set_option linter.unusedSimpArgs false
open Go.RowKit
theorem Pc.nil (w : World) (P : Pc w none 0 []) : Pc w none 0 [] := P
set_option maxHeartbeats 4000000 in
set_option maxRecDepth 100000 in
theorem rquoting24 (A : Option Addr) (n c : Nat) (l : List Int) (w : World) (P : Pc w A n l) (hc : n ≤ c) (hcm : c ≤ maxLen) :
    Calls Try.prog 24 #[.slice A n c] w fun e w' => ∃ A' k' c', e = .returned (.slice A' k' c') ∧ Pc w A' k' (l.take (qn l n)) ∧ k' ≤ c' ∧ c' ≤ maxLen ∧ w' = w := by
  by_cases h0 : n = 0
  · subst h0
    have hl : l = [] := List.eq_nil_of_length_eq_zero P.len
    have HL := Lib.hid hl
    clear hl P
    go_enter Try.func24, Try.ntmps24
    go_wp2_with fail
    go_ret
    refine ⟨none, 0, 0, rfl, ?_, Nat.le_refl _, Nat.zero_le _, rfl⟩
    rw [HL.out]
    exact ⟨rfl, fun x hx => by simp at hx, Nat.zero_le _, fun h => absurd h (by simp)⟩
  · have HP := Lib.hid P
    have HC := Lib.hid hc
    have hb := hd0_bd P (by omega)
    have htop := P.top
    obtain ⟨h, hh⟩ : ∃ h, hd0 l = h := ⟨_, rfl⟩
    obtain ⟨bb, off, rfl, hbl, hcell⟩ := P.here (by rw [P.len]; omega)
    have x0 := hcell 0 (dX l 0) (dX_get (by rw [P.len]; omega))
    have t0 := P.ok _ (List.mem_of_getElem? (dX_get (l := l) (i := 0) (by rw [P.len]; omega)))
    rw [Nat.add_zero] at x0
    rw [hh] at hb
    have hh2 := hh
    unfold hd0 at hh2
    have hn0 : ((n : Int) == 0) = false := by simp; omega
    obtain ⟨k, hk⟩ : ∃ k, qn l n = k := ⟨_, rfl⟩
    have hkn : k ≤ n := by rw [← hk]; unfold qn; omega
    have hkc : k ≤ c := by omega
    have hk2 : min ((max 20 h).toNat + 8) n = k := by rw [← hk]; unfold qn; rw [hh]
    have hk3 : min (max 20 h + 8) (n : Int) = (k : Int) := by omega
    have HK := Lib.hid hk
    clear hcell P hh hk hk2
    generalize dX l 0 = x at x0 t0 hh2
    have hI : (0 : Int) < (n : Int) := by omega
    have hx16 : (x.tmod 16) = x % 16 := Int.tmod_eq_emod_of_nonneg t0.1
    unfold maxLen at hcm
    have hmx : max 20 h = if h < 20 then 20 else h := by omega
    rw [hmx] at hk3
    by_cases h20 : h < 20
    · rw [if_pos h20] at hk3
      by_cases hmn : (n : Int) < 28
      · obtain rfl : n = k := by omega
        clear hk3 hmx
        go_enter Try.func24, Try.ntmps24
        go_wp2_with fail
        go_ret
        refine ⟨_, n, c, rfl, ?_, HC.out, hcm, rfl⟩
        rw [HK.out]
        exact HP.out.take n (Nat.le_refl _)
      · obtain rfl : k = 28 := by omega
        have hmn' : ¬ (n : Int) < 28 := by omega
        clear hk3 hmx
        go_enter Try.func24, Try.ntmps24
        go_wp2_with fail
        go_ret
        refine ⟨_, 28, c, rfl, ?_, hkc, hcm, rfl⟩
        rw [HK.out]
        exact HP.out.take 28 hkn
    · rw [if_neg h20] at hk3
      by_cases hmn : (n : Int) < h + 8
      · obtain rfl : n = k := by omega
        clear hk3 hmx
        go_enter Try.func24, Try.ntmps24
        go_wp2_with fail
        go_ret
        refine ⟨_, n, c, rfl, ?_, HC.out, hcm, rfl⟩
        rw [HK.out]
        exact HP.out.take n (Nat.le_refl _)
      · have hkk : h + 8 = (k : Int) := by omega
        have hmn' : ¬ (n : Int) < (k : Int) := by omega
        clear hk3 hmx
        go_enter Try.func24, Try.ntmps24
        go_wp2_with fail
        go_ret
        refine ⟨_, k, c, rfl, ?_, hkc, hcm, rfl⟩
        rw [HK.out]
        exact HP.out.take k hkn
end Go.Proofs.Ytcfadmjihccimaa
