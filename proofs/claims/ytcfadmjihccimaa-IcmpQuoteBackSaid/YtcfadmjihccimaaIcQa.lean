/- Quoting of law 12, of the program and of the reference. No condition but lengths. -/
import Derived.Test.YtcfadmjihccimaaIcN
namespace Go.Proofs.Ytcfadmjihccimaa
set_option linter.unusedVariables false
set_option linter.unusedSimpArgs false
open Go.RowKit

theorem wraps_u8 (n : Int) (h₀ : 0 ≤ n) (h₁ : n < 2 ^ 8) : IntKind.u8.wrap n = n := IntWalk.u8_in n (by omega)
theorem and_15 {x : Int} (h₀ : 0 ≤ x) (h₁ : x ≤ 255) : bits .and .u8 x 15 = x % 16 := bits_mask .u8 8 (by decide) wraps_u8 4 (by decide) x h₀ (by omega)
def hd0 (l : List Int) : Int := dX l 0 % 16 * 4
set_option maxHeartbeats 4000000 in
set_option maxRecDepth 100000 in
theorem head50 (A : Option Addr) (n c : Nat) (l : List Int) (w : World) (P : Pc w A n l) (h0 : 0 < n) : Calls Try.prog 50 #[.slice A n c] w fun e w' => e = .returned (.int .i64 (hd0 l)) ∧ w' = w := by
  obtain ⟨bb, off, rfl, hbl, hcell⟩ := P.here (by rw [P.len]; omega)
  have x0 := hcell 0 (dX l 0) (dX_get (by rw [P.len]; omega))
  have t0 := P.ok _ (List.mem_of_getElem? (dX_get (l := l) (i := 0) (by rw [P.len]; omega)))
  rw [Nat.add_zero] at x0
  unfold hd0
  generalize dX l 0 = x at x0 t0 ⊢
  have ha := and_15 t0.1 t0.2
  have hI : (0 : Int) < (n : Int) := by omega
  have hw : IntKind.i64.wrap (x % 16) = x % 16 := IntWalk.i64_in _ (by omega)
  clear hcell P
  go_enter Try.func50, Try.ntmps50
  go_wp2_with fail
  go_ret
  exact ⟨rfl, rfl⟩
/-- How much is quoted of n bytes. -/
def qn (l : List Int) (n : Nat) : Nat := min ((max 20 (hd0 l)).toNat + 8) n
theorem hd0_bd {w : World} {A : Option Addr} {n : Nat} {l : List Int} (P : Pc w A n l) (h0 : 0 < n) : 0 ≤ hd0 l ∧ hd0 l ≤ 60 := by
  have t0 := P.ok _ (List.mem_of_getElem? (dX_get (l := l) (i := 0) (by rw [P.len]; omega)))
  unfold hd0; omega
theorem Pc.take {w : World} {A : Option Addr} {n : Nat} {l : List Int} (P : Pc w A n l) (k : Nat) (hk : k ≤ n) : Pc w A k (l.take k) := by
  refine ⟨by rw [List.length_take, P.len]; omega, fun x hx => P.ok x (List.mem_of_mem_take hx), by have := P.top; omega, fun h0 => ?_⟩
  rw [List.length_take] at h0
  obtain ⟨b, off, e, hb, hc⟩ := P.here (by omega)
  refine ⟨b, off, e, hb, fun j x hj => hc j x ?_⟩
  rw [List.getElem?_take] at hj
  split at hj
  · exact hj
  · cases hj
set_option maxHeartbeats 4000000 in
set_option maxRecDepth 100000 in
theorem quoting23 (A : Option Addr) (n c : Nat) (l : List Int) (w : World) (P : Pc w A n l) (hc : n ≤ c) (hcm : c ≤ maxLen) :
    Calls Try.prog 23 #[.slice A n c] w fun e w' => ∃ v, e = .returned v ∧ OwnB w.heap.size w' v (l.take (qn l n)) ∧ Fr (fun _ => False) w w' := by
  by_cases h0 : n = 0
  · subst h0
    have hl : l = [] := List.eq_nil_of_length_eq_zero P.len
    have HL := Lib.hid hl
    clear hl P
    go_enter Try.func23, Try.ntmps23
    go_wp2_with fail
    go_ret
    refine ⟨_, rfl, ?_, Fr.refl _ _⟩
    rw [HL.out]
    exact OwnB.nil _ _
  · have HP := Lib.hid P
    have hb := hd0_bd P (by omega)
    have htop := P.top
    obtain ⟨h, hh⟩ : ∃ h, hd0 l = h := ⟨_, rfl⟩
    have HH := Lib.hid hh
    rw [hh] at hb
    have hn0 : ((n : Int) == 0) = false := by simp; omega
    obtain ⟨k, hk⟩ : ∃ k, qn l n = k := ⟨_, rfl⟩
    have hkn : k ≤ n := by rw [← hk]; unfold qn; omega
    have hkc : k ≤ c := by omega
    have hk2 : min ((max 20 h).toNat + 8) n = k := by rw [← hk]; unfold qn; rw [hh]
    have hk3 : min (max 20 h + 8) (n : Int) = (k : Int) := by omega
    have HK := Lib.hid hk
    clear P hh hk hk2
    unfold maxLen at hcm
    have HK3 := Lib.hid hk3
    clear hk3
    have hk3 := HK3.out
    have hmx : max 20 h = if 20 < h then h else 20 := by omega
    rw [hmx] at hk3
    have hcase : (20 < h ∧ (n : Int) < h + 8 ∧ k = n) ∨ (20 < h ∧ ¬ (n : Int) < h + 8 ∧ h + 8 = (k : Int)) ∨ (¬ 20 < h ∧ n < 28 ∧ k = n) ∨ (¬ 20 < h ∧ ¬ n < 28 ∧ k = 28) := by
      split at hk3 <;> omega
    clear hk3 hmx
    by_cases h20 : 20 < h
    · by_cases hmn : (n : Int) < h + 8
      · obtain rfl : n = k := by omega
        go_enter Try.func23, Try.ntmps23
        go_wp2_with (first
          | (go_at_call 50; refine (head50 A n c l w HP.out (by omega)).mono ?_; rw [HH.out]; rintro e w1 ⟨rfl, hw1⟩; have hw1 := hw1.symm; subst hw1)
          | (go_at_call 47; refine (clone44N (A := A) c w.heap.size (l.take n) w (by rw [List.length_take, HP.out.len]; omega) (HP.out.take n (by omega)).here (by omega) (Nat.le_refl _)).mono ?_; rintro e w2 ⟨v2, rfl, o2, f2⟩; have O2 := Lib.hid o2; have F2 := Lib.hid f2; clear o2 f2))
        go_ret
        refine ⟨_, rfl, ?_, F2.out⟩
        rw [HK.out]
        exact O2.out
      · have hkk : h + 8 = (k : Int) := by omega
        have hmn' : ¬ (n : Int) < (k : Int) := by omega
        go_enter Try.func23, Try.ntmps23
        go_wp2_with (first
          | (go_at_call 50; refine (head50 A n c l w HP.out (by omega)).mono ?_; rw [HH.out]; rintro e w1 ⟨rfl, hw1⟩; have hw1 := hw1.symm; subst hw1)
          | (go_at_call 47; refine (clone44N (A := A) c w.heap.size (l.take k) w (by rw [List.length_take, HP.out.len]; omega) (HP.out.take k (by omega)).here (by omega) (Nat.le_refl _)).mono ?_; rintro e w2 ⟨v2, rfl, o2, f2⟩; have O2 := Lib.hid o2; have F2 := Lib.hid f2; clear o2 f2))
        go_ret
        refine ⟨_, rfl, ?_, F2.out⟩
        rw [HK.out]
        exact O2.out
    · by_cases hmn : n < 28
      · obtain rfl : n = k := by omega
        have hmn' : (n : Int) < 28 := by omega
        go_enter Try.func23, Try.ntmps23
        go_wp2_with (first
          | (go_at_call 50; refine (head50 A n c l w HP.out (by omega)).mono ?_; rw [HH.out]; rintro e w1 ⟨rfl, hw1⟩; have hw1 := hw1.symm; subst hw1)
          | (go_at_call 47; refine (clone44N (A := A) c w.heap.size (l.take n) w (by rw [List.length_take, HP.out.len]; omega) (HP.out.take n (by omega)).here (by omega) (Nat.le_refl _)).mono ?_; rintro e w2 ⟨v2, rfl, o2, f2⟩; have O2 := Lib.hid o2; have F2 := Lib.hid f2; clear o2 f2))
        go_ret
        refine ⟨_, rfl, ?_, F2.out⟩
        rw [HK.out]
        exact O2.out
      · obtain rfl : k = 28 := by omega
        have hmn' : ¬ (n : Int) < 28 := by omega
        go_enter Try.func23, Try.ntmps23
        go_wp2_with (first
          | (go_at_call 50; refine (head50 A n c l w HP.out (by omega)).mono ?_; rw [HH.out]; rintro e w1 ⟨rfl, hw1⟩; have hw1 := hw1.symm; subst hw1)
          | (go_at_call 47; refine (clone44N (A := A) c w.heap.size (l.take 28) w (by rw [List.length_take, HP.out.len]; omega) (HP.out.take 28 (by omega)).here (by omega) (Nat.le_refl _)).mono ?_; rintro e w2 ⟨v2, rfl, o2, f2⟩; have O2 := Lib.hid o2; have F2 := Lib.hid f2; clear o2 f2))
        go_ret
        refine ⟨_, rfl, ?_, F2.out⟩
        rw [HK.out]
        exact O2.out
end Go.Proofs.Ytcfadmjihccimaa
