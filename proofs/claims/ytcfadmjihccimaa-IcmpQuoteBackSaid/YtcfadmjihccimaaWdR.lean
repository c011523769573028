/- The reference for package word: fold, low, Patch, Sum. No condition but lengths. -/
import Derived.Test.YtcfadmjihccimaaProg
import Derived.Test.YtcfadmjihccimaaChecked
import Derived.Test.YtcfadmjihccimaaWdP
namespace Go.Proofs.Ytcfadmjihccimaa
set_option linter.unusedVariables false
open Go.RowKit

set_option maxHeartbeats 1000000 in
theorem rfold42 (s0 : Int) (h0 : 0 ≤ s0) (h1 : s0 < 9223372036854775808) (w : World) :
    Calls Try.prog 67 #[.int .i64 s0] w fun e w' => e = .returned (.int .i64 (nrm s0)) ∧ w' = w := by
  go_enter Try.func67, Try.ntmps67
  go_wp2_with fail
  go_loopw [0] (fun v wr => ∃ s : Int, v = .int .i64 s ∧ 0 ≤ s ∧ s < 9223372036854775808 ∧ nrm s = nrm s0 ∧ wr = w) (fun v _ => (intOf v).toNat)
  case atStart => exact ⟨s0, rfl, h0, h1, rfl, rfl⟩
  case round =>
    obtain ⟨s, rfl, hs0, hs1, hn, rfl⟩ := hrel
    by_cases h : 65535 < s
    · have hq : s % 65536 + s / 65536 < s := by omega
      go_wp2_with fail
      go_roundw
      case rel => exact ⟨s % 65536 + s / 65536, rfl, by omega, by omega, by rw [nrm_step h, hn], by trivial⟩
      case measure => simp [intOf]; omega
    · go_wp2_with fail
      go_ret
      exact ⟨by rw [← hn, nrm_small hs0 (by omega)]; rfl, rfl⟩
theorem low_val (n : Int) : (n.tmod 65536 + 65536) % 65536 = n % 65536 := by
  have := Int.lt_tmod_of_pos n (b := 65536) (by omega)
  have h2 := Int.tmod_lt_of_pos n (b := 65536) (by omega)
  have h3 : n = 65536 * n.tdiv 65536 + n.tmod 65536 := (Int.mul_tdiv_add_tmod n 65536).symm
  omega
theorem wt_take2 {l : List Int} {j : Nat} {x y : Int} (hx : l[2 * j]? = some x) (hy : l[2 * j + 1]? = some y) : wt false (l.take (2 * (j + 1))) = wt false (l.take (2 * j)) + 256 * x + y := by
  have h2 : 2 * j + 1 < l.length := (List.getElem?_eq_some_iff.1 hy).1
  have e : l.take (2 * (j + 1)) = l.take (2 * j) ++ [x, y] := by
    rw [show 2 * (j + 1) = 2 * j + 1 + 1 by omega, List.take_add_one, List.take_add_one, hx, hy]; simp
  rw [e, wt_even (by rw [List.length_take]; omega)]; simp [wt]; omega
theorem wt_take1 {l : List Int} {j : Nat} {x : Int} (hx : l[2 * j]? = some x) (hy : l.length = 2 * j + 1) : wt false (l.take (2 * (j + 1))) = wt false (l.take (2 * j)) + 256 * x := by
  have e : l.take (2 * (j + 1)) = l.take (2 * j) ++ [x] := by
    rw [List.take_of_length_le (by omega)]
    conv => lhs; rw [← List.take_append_drop (2 * j) l]
    congr 1
    rw [List.drop_eq_getElem_cons (by omega), List.drop_eq_nil_of_le (by omega)]
    rw [List.getElem?_eq_getElem (by omega)] at hx
    cases hx; rfl
  rw [e, wt_even (by rw [List.length_take]; omega)]; simp [wt]; 
set_option maxHeartbeats 2000000 in
set_option maxRecDepth 100000 in
theorem rsum29 {w : World} {A : Option Addr} {n : Nat} {l : List Int} (P : Pc w A n l) (c : Nat) :
    Calls Try.prog 45 #[.slice A n c] w fun e w' => e = .returned (.int .i64 (ck l)) ∧ w' = w := by
  have HP := Lib.hid P
  have ht := P.top
  clear P
  go_enter Try.func45, Try.ntmps45
  go_wp2_with fail
  go_loopw [3, 4] (fun v3 v4 wr => ∃ j : Nat, v4 = .int .i64 ((2 * j : Nat) : Int) ∧ 2 * j ≤ n + 1 ∧ v3 = .int .i64 (nrm (wt false (l.take (2 * j)))) ∧ wr = w) (fun _ v _ => n + 2 - (intOf v).toNat)
  case atStart => exact ⟨0, rfl, by omega, rfl, rfl⟩
  case round =>
    obtain ⟨j, rfl, hj, rfl, rfl⟩ := hrel
    have h0 := wt_nonneg false (l.take (2 * j)) (fun x hx => HP.out.ok x (List.mem_of_mem_take hx))
    have hbd := nrm_bd h0
    obtain ⟨i, hi⟩ : ∃ i, i = 2 * j := ⟨_, rfl⟩
    rw [← hi]
    by_cases hlt : i < n
    · obtain ⟨b, off, rfl, hb, hc⟩ := HP.out.here (by rw [HP.out.len]; omega)
      obtain ⟨x, hx⟩ : ∃ x, l[2 * j]? = some x := ⟨_, List.getElem?_eq_getElem (by rw [HP.out.len]; omega)⟩
      have hxB := HP.out.ok x (List.mem_of_getElem? hx)
      have cx := hc _ _ hx
      rw [← hi] at cx
      by_cases hl2 : i + 1 < n
      · obtain ⟨y, hy⟩ : ∃ y, l[2 * j + 1]? = some y := ⟨_, List.getElem?_eq_getElem (by rw [HP.out.len]; omega)⟩
        have hyB := HP.out.ok y (List.mem_of_getElem? hy)
        have cy := hc _ _ hy
        rw [← hi] at cy
        have hw := wt_take2 hx hy
        have hn := nrm_add (s := wt false (l.take (2 * j))) (t := 256 * x + y) h0 (by omega)
        rw [show wt false (l.take (2 * j)) + (256 * x + y) = wt false (l.take (2 * (j + 1))) by omega] at hn
        have HN := Lib.hid hn
        rw [← hi] at hbd HN
        have HI := Lib.hid hi
        obtain ⟨s, hs⟩ : ∃ s, nrm (wt false (l.take i)) = s := ⟨_, rfl⟩
        rw [hs] at hbd HN
        rw [hs]
        clear hx hy hw hn h0 hs hc hi
        go_wp2_with (go_at_call 67; refine (rfold42 _ (by omega) (by omega) _).mono ?_; rintro e w2 ⟨rfl, rfl⟩)
        go_roundw
        case rel => exact ⟨j + 1, by have := HI.out; first | (go_num; done) | (go_num; omega), by have := HI.out; omega, by rw [← HN.out]; congr 2; omega, by trivial⟩
        case measure => simp [intOf]; omega
      · have hle : l.length = 2 * j + 1 := by rw [HP.out.len]; omega
        have hw := wt_take1 hx hle
        have hn := nrm_add (s := wt false (l.take (2 * j))) (t := 256 * x) h0 (by omega)
        rw [show wt false (l.take (2 * j)) + (256 * x) = wt false (l.take (2 * (j + 1))) by omega] at hn
        have HN := Lib.hid hn
        rw [← hi] at hbd HN
        have HI := Lib.hid hi
        obtain ⟨s, hs⟩ : ∃ s, nrm (wt false (l.take i)) = s := ⟨_, rfl⟩
        rw [hs] at hbd HN
        rw [hs]
        clear hx hle hw hn h0 hs hc hi
        go_wp2_with (go_at_call 67; refine (rfold42 _ (by omega) (by omega) _).mono ?_; rintro e w2 ⟨rfl, rfl⟩)
        go_roundw
        case rel => exact ⟨j + 1, by have := HI.out; first | (go_num; done) | (go_num; omega), by have := HI.out; omega, by rw [← HN.out], by trivial⟩
        case measure => simp [intOf]; omega
    · have hfull : l.take (2 * j) = l := List.take_of_length_le (by rw [HP.out.len]; omega)
      rw [← hi] at hfull hbd
      rw [hfull] at hbd ⊢
      have hck : 65535 - nrm (wt false l) = ck l := rfl
      go_wp2_with fail
      go_ret
      exact ⟨by first | rfl | (rw [← hck]; rfl), by first | rfl | trivial⟩
end Go.Proofs.Ytcfadmjihccimaa
