/- Quoted of law 12: what it refuses. No condition but lengths. -/
import Derived.Test.YtcfadmjihccimaaIcQb
namespace Go.Proofs.Ytcfadmjihccimaa
set_option linter.unusedVariables false
set_option linter.unusedSimpArgs false
open Go.RowKit
def qv (s0 s1 s2 s3 d0 d1 d2 d3 p a b q : Int) : List Value := [.int .u8 s0, .int .u8 s1, .int .u8 s2, .int .u8 s3, .int .u8 d0, .int .u8 d1, .int .u8 d2, .int .u8 d3, .int .i64 p, .int .i64 a, .int .i64 b, .int .u32 q]
def qz : List Value := qv 0 0 0 0 0 0 0 0 0 0 0 0
theorem shr4 {x : Int} (h₀ : 0 ≤ x) (h₁ : x ≤ 255) : x / 16 = x >>> (4 : Nat) := by
  rw [Int.shiftRight_eq_div_pow]; rfl
set_option maxHeartbeats 4000000 in
set_option maxRecDepth 100000 in
theorem quoted25_short (A : Option Addr) (n c : Nat) (w : World) (hn : n < 20) :
    Calls Try.prog 25 #[.slice A n c] w fun e w' => e = .returned (.tuple #[.agg qz.toArray, .int .i64 3]) ∧ Fr (fun _ => False) w w' := by
  have FA := Lib.hid (Fr.refl (fun _ => False) w)
  go_enter Try.func25, Try.ntmps25
  go_wp2_with fail
  exact bodyPost_ret (v := .tuple #[.agg qz.toArray, .int .i64 3]) (by simp [results, Try.results25, go_sem, qz, qv]) rfl ⟨rfl, FA.out.alloc _⟩
set_option maxHeartbeats 4000000 in
set_option maxRecDepth 100000 in
theorem quoted25_form (A : Option Addr) (n c : Nat) (l : List Int) (w : World) (hn : 20 ≤ n) (P : Pc w A n l) (h : dX l 0 / 16 ≠ 4) :
    Calls Try.prog 25 #[.slice A n c] w fun e w' => e = .returned (.tuple #[.agg qz.toArray, .int .i64 4]) ∧ Fr (fun _ => False) w w' := by
  have FA := Lib.hid (Fr.refl (fun _ => False) w)
  obtain ⟨bb, off, rfl, hbl, hcell⟩ := P.here (by rw [P.len]; omega)
  have x0 := hcell 0 (dX l 0) (dX_get (by rw [P.len]; omega))
  have t0 := P.ok _ (List.mem_of_getElem? (dX_get (l := l) (i := 0) (by rw [P.len]; omega)))
  rw [Nat.add_zero] at x0
  have hn20 : ¬ n < 20 := by omega
  generalize dX l 0 = x at x0 t0 h
  have hI : (0 : Int) < (n : Int) := by omega
  have hb : (x / 16 == 4) = false := by simpa using h
  have h' := h
  rw [shr4 t0.1 t0.2] at h'
  have hb' : (x >>> (4 : Nat) == 4) = false := by simpa using h'
  have hw : IntKind.u8.wrap (x / 16) = x / 16 := IntWalk.u8_in _ (by omega)
  clear hcell P hn
  go_enter Try.func25, Try.ntmps25
  go_wp2_with fail
  exact bodyPost_ret (v := .tuple #[.agg qz.toArray, .int .i64 4]) (by simp [results, Try.results25, go_sem, qz, qv]) rfl ⟨rfl, FA.out.alloc _⟩
set_option maxHeartbeats 4000000 in
set_option maxRecDepth 100000 in
theorem quoted25_form2 (A : Option Addr) (n c : Nat) (l : List Int) (w : World) (hn : 20 ≤ n) (htop : n ≤ 140737488355328) (P : Pc w A n l) (h : dX l 0 / 16 = 4) (hh : hd0 l < 20) :
    Calls Try.prog 25 #[.slice A n c] w fun e w' => e = .returned (.tuple #[.agg qz.toArray, .int .i64 4]) ∧ Fr (fun _ => False) w w' := by
  have FA := Lib.hid (Fr.refl (fun _ => False) w)
  have FB := Lib.hid ((Fr.refl (fun _ => False) w).alloc (.cells #[.int .u8 0, .int .u8 0, .int .u8 0, .int .u8 0, .int .u8 0, .int .u8 0, .int .u8 0, .int .u8 0, .int .i64 0, .int .i64 0, .int .i64 0, .int .u32 0] 53))
  have HP := Lib.hid (P.fr FB.out)
  have hhb := hd0_bd P (by omega)
  obtain ⟨hd, hhd⟩ : ∃ hd, hd0 l = hd := ⟨_, rfl⟩
  rw [hhd] at hh hhb
  have HH := Lib.hid hhd
  obtain ⟨bb, off, rfl, hbl, hcell⟩ := P.here (by rw [P.len]; omega)
  have x0 := hcell 0 (dX l 0) (dX_get (by rw [P.len]; omega))
  have t0 := P.ok _ (List.mem_of_getElem? (dX_get (l := l) (i := 0) (by rw [P.len]; omega)))
  rw [Nat.add_zero] at x0
  have hn20 : ¬ n < 20 := by omega
  generalize dX l 0 = x at x0 t0 h
  have hI : (0 : Int) < (n : Int) := by omega
  have hb : (x / 16 == 4) = true := by simpa using h
  have hw : IntKind.u8.wrap (x / 16) = x / 16 := IntWalk.u8_in _ (by omega)
  clear hcell P hn hhd
  go_enter Try.func25, Try.ntmps25
  go_wp2_with (go_at_call 50; refine (head50 _ n c l _ HP.out (by omega)).mono ?_; rw [HH.out]; rintro e w1 ⟨rfl, hw1⟩; have hw1 := hw1.symm; subst hw1)
  exact bodyPost_ret (v := .tuple #[.agg qz.toArray, .int .i64 4]) (by simp [results, Try.results25, go_sem, qz, qv]) rfl ⟨rfl, FA.out.alloc _⟩
set_option maxHeartbeats 4000000 in
set_option maxRecDepth 100000 in
theorem quoted25_short2 (A : Option Addr) (n c : Nat) (l : List Int) (w : World) (hn : 20 ≤ n) (htop : n ≤ 140737488355328) (P : Pc w A n l) (h : dX l 0 / 16 = 4) (hh : 20 ≤ hd0 l ∧ (n : Int) < hd0 l + 8) :
    Calls Try.prog 25 #[.slice A n c] w fun e w' => e = .returned (.tuple #[.agg qz.toArray, .int .i64 3]) ∧ Fr (fun _ => False) w w' := by
  have FA := Lib.hid (Fr.refl (fun _ => False) w)
  have FB := Lib.hid ((Fr.refl (fun _ => False) w).alloc (.cells #[.int .u8 0, .int .u8 0, .int .u8 0, .int .u8 0, .int .u8 0, .int .u8 0, .int .u8 0, .int .u8 0, .int .i64 0, .int .i64 0, .int .i64 0, .int .u32 0] 53))
  have HP := Lib.hid (P.fr FB.out)
  have hhb := hd0_bd P (by omega)
  obtain ⟨hd, hhd⟩ : ∃ hd, hd0 l = hd := ⟨_, rfl⟩
  rw [hhd] at hh hhb
  have HH := Lib.hid hhd
  obtain ⟨bb, off, rfl, hbl, hcell⟩ := P.here (by rw [P.len]; omega)
  have x0 := hcell 0 (dX l 0) (dX_get (by rw [P.len]; omega))
  have t0 := P.ok _ (List.mem_of_getElem? (dX_get (l := l) (i := 0) (by rw [P.len]; omega)))
  rw [Nat.add_zero] at x0
  have hn20 : ¬ n < 20 := by omega
  generalize dX l 0 = x at x0 t0 h
  have hI : (0 : Int) < (n : Int) := by omega
  have hb : (x / 16 == 4) = true := by simpa using h
  have hw : IntKind.u8.wrap (x / 16) = x / 16 := IntWalk.u8_in _ (by omega)
  clear hcell P hn hhd
  have hh1 : ¬ hd < 20 := by omega
  have hh2 := hh.2
  clear hh
  have HTP := Lib.hid htop
  go_enter Try.func25, Try.ntmps25
  go_wp2_with (go_at_call 50; refine (head50 _ n c l _ HP.out (by omega)).mono ?_; rw [HH.out]; rintro e w1 ⟨rfl, hw1⟩; have hw1 := hw1.symm; subst hw1)
  exact bodyPost_ret (v := .tuple #[.agg qz.toArray, .int .i64 3]) (by simp [results, Try.results25, go_sem, qz, qv]) rfl ⟨rfl, FA.out.alloc _⟩
end Go.Proofs.Ytcfadmjihccimaa
