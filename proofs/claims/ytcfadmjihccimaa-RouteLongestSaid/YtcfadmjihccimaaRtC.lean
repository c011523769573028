/- The reference of law 10: may; ways. No condition. -/
import Derived.Test.YtcfadmjihccimaaRtB
namespace Go.Proofs.Ytcfadmjihccimaa
set_option linter.unusedVariables false
set_option linter.unusedSimpArgs false
open Go.RowKit
/-- A way. -/
structure W10 where
  n : I4
  bits : Int
  g : I4
  via : Bool
  deriving DecidableEq
def W10.cells (x : W10) : List Value := [.int .u8 x.n.a, .int .u8 x.n.b, .int .u8 x.n.c, .int .u8 x.n.d, .int .i64 x.bits, .int .u8 x.g.a, .int .u8 x.g.b, .int .u8 x.g.c, .int .u8 x.g.d, .bool x.via]
structure W10.ok (x : W10) : Prop where
  n : x.n.ok
  bits : (Lit.int .i64 x.bits).wf = true
  g : x.g.ok
def I4.zero : I4 := ⟨0, 0, 0, 0⟩
theorem I4.zero_ok : I4.zero.ok := ⟨by decide, by decide, by decide, by decide⟩
/-- From a bit on all are nought. -/
def tailB (n : I4) (b : Nat) : Bool := (List.range 32).all fun i => decide (i < b) || !(btI n i == 1)
def mayW (x : W10) : Bool := decide (0 ≤ x.bits) && (decide (x.bits ≤ 32) && ((x.via || decide (x.g = I4.zero)) && tailB x.n x.bits.toNat))
set_option maxHeartbeats 8000000 in
set_option maxRecDepth 100000 in
theorem may56 (x : W10) (w : World) (hx : x.ok) :
    Calls Try.prog 56 #[.agg x.cells.toArray] w fun e w' => e = .returned (.bool (mayW x)) ∧ Fr (fun _ => False) w w' := by
  have FA := Lib.hid (Fr.refl (fun _ => False) w)
  have HX := Lib.hid hx
  clear hx
  obtain ⟨r, hr⟩ : ∃ r, mayW x = r := ⟨_, rfl⟩
  have HR := Lib.hid hr
  rw [hr]
  clear hr
  unfold W10.cells
  go_enter Try.func56, Try.ntmps56
  go_upto_region 1 with (fail)
  have B1 := Lib.hid (box_at w x.cells 69)
  have F1 := Lib.hid (FA.out.alloc (.cells x.cells.toArray 69))
  unfold W10.cells at B1 F1
  generalize w.alloc (.cells #[.int .u8 x.n.a, .int .u8 x.n.b, .int .u8 x.n.c, .int .u8 x.n.d, .int .i64 x.bits, .int .u8 x.g.a, .int .u8 x.g.b, .int .u8 x.g.c, .int .u8 x.g.d, .bool x.via] 69) = w1 at B1 F1 ⊢
  obtain ⟨b0, hb0⟩ : ∃ b0, w.heap.size = b0 := ⟨_, rfl⟩
  rw [hb0] at B1 ⊢
  clear hb0
  have HQ := Lib.hid (fun (w' : World) (f : Fr (fun _ => False) w1 w') => cells_at w' b0 x.cells 69 (B1.out w' f))
  have q4 := HQ.out w1 (Fr.refl _ _) 4 _ rfl
  have q9 := HQ.out w1 (Fr.refl _ _) 9 _ rfl
  have RG := Lib.hid (fun (w' : World) (f : Fr (fun _ => False) w1 w') => range_part (range_at w' b0 x.cells 69 (B1.out w' f)) 5 4)
  have RN := Lib.hid (fun (w' : World) (f : Fr (fun _ => False) w1 w') => range_part (range_at w' b0 x.cells 69 (B1.out w' f)) 0 4)
  obtain ⟨bv, hbv⟩ : ∃ bv, x.via = bv := ⟨_, rfl⟩
  have HV := Lib.hid hbv
  rw [hbv] at q9
  clear hbv
  by_cases h1 : x.bits < 0
  · have HF := Lib.hid (show r = false by rw [← HR.out]; unfold mayW; rw [decide_eq_false (by omega)]; rfl)
    as_aux_lemma =>
    go_wp2_with fail
    go_ret
    exact ⟨by rw [HF.out]; rfl, F1.out⟩
  by_cases h2 : 32 < x.bits
  · have HF := Lib.hid (show r = false by rw [← HR.out]; unfold mayW; rw [decide_eq_false (show ¬ x.bits ≤ 32 by omega)]; simp)
    as_aux_lemma =>
    go_wp2_with fail
    go_ret
    exact ⟨by rw [HF.out]; rfl, F1.out⟩
  obtain ⟨nb, hnb⟩ : ∃ nb : Nat, x.bits = nb := ⟨x.bits.toNat, by omega⟩
  have HNB := Lib.hid hnb
  have hnb32 : nb ≤ 32 := by omega
  rw [hnb] at q4
  clear h1 h2 hnb
  have hB1 : ¬ (nb : Int) < 0 := by omega
  have hB2 : ¬ 32 < (nb : Int) := by omega
  have hrest : (bv || decide (x.g = I4.zero)) = false ∨ ((bv || decide (x.g = I4.zero)) = true ∧ r = tailB x.n nb) := by
    cases h : (bv || decide (x.g = I4.zero)) with
    | false => exact .inl rfl
    | true =>
      refine .inr ⟨rfl, ?_⟩
      rw [← HR.out]
      unfold mayW
      rw [HV.out, h, HNB.out, decide_eq_true (show (0 : Int) ≤ (nb : Int) by omega), decide_eq_true (show (nb : Int) ≤ 32 by omega)]
      simp
  go_cut [22] (fun v22 wc => v22 = .bool (!(bv || decide (x.g = I4.zero))) ∧ wc = w1)
  case first =>
    clear hrest
    cases bv
    · iterate 60 (first
        | (have := MK2; clear this)
        | (refine wpList_load_when (by rfl) 45 _ rfl b0 5 rfl x.g.cells _ (RG.out w1 (Fr.refl _ _)) Try.underlying45 rfl (by kernel_rfl) ?_)
        | (refine wpList_bin_agg (by rfl) .neq 45 45 _ _ rfl rfl rfl (by kernel_rfl) _ (neq45 HX.out.g I4.zero_ok w1) ?_; have MK2 := Lib.hid True.intro)
        | go_step)
      go_wp2_with fail
      go_meet
      exact ⟨rfl, rfl⟩
    · go_wp2_with fail
      go_meet
      exact ⟨rfl, rfl⟩
  case rest =>
  obtain ⟨rfl, hwc⟩ := hcut
  subst hwc
  obtain ⟨w1, hw1⟩ : ∃ y, y = wc := ⟨_, rfl⟩
  subst hw1
  rcases hrest with hr | ⟨hr, htl⟩
  · rw [hr]
    have HF := Lib.hid (show r = false by rw [← HR.out]; unfold mayW; rw [HV.out, hr]; simp)
    clear hr
    as_aux_lemma =>
    go_wp2_with fail
    go_ret
    exact ⟨by rw [HF.out]; rfl, F1.out⟩
  · rw [hr]
    have HT := Lib.hid htl
    clear hr htl
    go_wp2_with fail
    go_loopw [3] (fun v wr => ∃ i : Nat, v = .int .i64 i ∧ nb ≤ i ∧ i ≤ 32 ∧ (∀ j, nb ≤ j → j < i → btI x.n j ≠ 1) ∧ Fr (fun _ => False) w1 wr) (fun v _ => 32 - (intOf v).toNat)
    case atStart => exact ⟨nb, rfl, Nat.le_refl _, hnb32, fun j h1 h2 => absurd h2 (by omega), Fr.refl _ _⟩
    case round =>
      obtain ⟨i, rfl, hi0, hi, hall, hf⟩ := hrel
      have HALL := Lib.hid hall
      have HF := Lib.hid hf
      clear hall hf
      by_cases hlt : i < 32
      · have hltI : (i : Int) < 32 := by omega
        obtain ⟨y, hy⟩ : ∃ y, btI x.n i = y := ⟨_, rfl⟩
        have HY := Lib.hid hy
        clear hy
        iterate 60 (first
          | (have := MK2; clear this)
          | (refine wpList_load_when (by rfl) 45 _ rfl b0 0 rfl x.n.cells _ (RN.out wr HF.out) Try.underlying45 rfl (by kernel_rfl) ?_; have MK2 := Lib.hid True.intro)
          | go_step)
        go_upto_if 33 with (go_at_call 70; refine (bit70 x.n i _ HX.out.n hlt).mono ?_; rw [HY.out]; rintro e w5 ⟨rfl, f5⟩; have F5 := Lib.hid (HF.out.then' f5); clear f5)
        by_cases he : y = 1
        · have hb : (y == 1) = true := by simpa using he
          have HE := Lib.hid he
          clear he
          go_wp2_with fail
          go_ret
          refine ⟨?_, F1.out.then' F5.out⟩
          have : r = false := by
            rw [HT.out]
            unfold tailB
            rw [List.all_eq_false]
            exact ⟨i, List.mem_range.2 hlt, by rw [HY.out, HE.out]; simp; omega⟩
          rw [this]
          rfl
        · have hb : (y == 1) = false := by simpa using he
          have HE := Lib.hid he
          clear he
          go_wp2_with fail
          refine ⟨⟨i + 1, by go_num, by omega, by omega, ?_, F5.out⟩, by simp [intOf]; omega⟩
          intro j h1 h2
          by_cases hj : j = i
          · subst hj; rw [HY.out]; exact HE.out
          · exact HALL.out j h1 (by omega)
      · obtain rfl : i = 32 := by omega
        go_wp2_with fail
        go_ret
        refine ⟨?_, F1.out.then' HF.out⟩
        have : r = true := by
          rw [HT.out]
          unfold tailB
          rw [List.all_eq_true]
          intro j hj
          have hj := List.mem_range.1 hj
          by_cases hb : j < nb
          · simp [hb]
          · have := HALL.out j (by omega) hj
            simp [this]
        rw [this]
        rfl
end Go.Proofs.Ytcfadmjihccimaa
