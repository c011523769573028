/- The chapter's example of law 10 holds. No condition. -/
import Derived.Test.YtcfadmjihccimaaRtR
import Derived.Test.YtcfadmjihccimaaRtM
namespace Go.Proofs.Ytcfadmjihccimaa
set_option linter.unusedVariables false
set_option linter.unusedSimpArgs false
open Go.RowKit
theorem bd69 : BdTy Try.prog 69 #[(0, 4), (4, 1), (5, 4), (9, 1)] (.agg #[.int .u8 0, .int .u8 0, .int .u8 0, .int .u8 0, .int .i64 0, .int .u8 0, .int .u8 0, .int .u8 0, .int .u8 0, .bool false]) := ⟨⟨_, Try.underlying69, fun w => by kernel_rfl⟩, fun w => by kernel_rfl⟩
def wA : W10 := ⟨⟨10, 0, 0, 0⟩, 8, ⟨0, 0, 0, 0⟩, false⟩
def wB : W10 := ⟨⟨0, 0, 0, 0⟩, 0, ⟨10, 0, 0, 9⟩, true⟩
theorem wA_ok : wA.ok := ⟨⟨by decide, by decide, by decide, by decide⟩, by decide, ⟨by decide, by decide, by decide, by decide⟩⟩
theorem wB_ok : wB.ok := ⟨⟨by decide, by decide, by decide, by decide⟩, by decide, ⟨by decide, by decide, by decide, by decide⟩⟩
theorem aw_1 : addE [] wA = 0 ∧ addL [] wA = [wA] := by decide +kernel
theorem aw_2 : addE [wA] wB = 0 ∧ addL [wA] wB = [wA, wB] := by decide +kernel
theorem aw_3 : findA [wA, wB] ⟨10, 1, 2, 3⟩ = ⟨10, 1, 2, 3⟩ ∧ findE [wA, wB] ⟨10, 1, 2, 3⟩ = 0 := by decide +kernel
theorem aw_4 : findA [wA, wB] ⟨9, 9, 9, 9⟩ = ⟨10, 0, 0, 9⟩ ∧ findE [wA, wB] ⟨9, 9, 9, 9⟩ = 0 := by decide +kernel
theorem aw_5 : dropE [wA, wB] ⟨0, 0, 0, 0⟩ 0 = 0 ∧ dropL [wA, wB] ⟨0, 0, 0, 0⟩ 0 = [wA] := by decide +kernel
theorem aw_6 : findA [wA] ⟨9, 9, 9, 9⟩ = ⟨0, 0, 0, 0⟩ ∧ findE [wA] ⟨9, 9, 9, 9⟩ = 100 := by decide +kernel
theorem aw_may : (∀ p ∈ [wA, wB], mayW p = true) ∧ ∀ p ∈ [wA], mayW p = true := by decide +kernel
theorem ip_a : (⟨10, 1, 2, 3⟩ : I4).ok := ⟨by decide, by decide, by decide, by decide⟩
theorem ip_b : (⟨9, 9, 9, 9⟩ : I4).ok := ⟨by decide, by decide, by decide, by decide⟩
theorem ip_c : (⟨10, 0, 0, 9⟩ : I4).ok := ⟨by decide, by decide, by decide, by decide⟩
/-- The table's blocks were laid by the call. -/
def Pt (N : Nat) (w0 w : World) (g m : Nat) (L : List W10) : Prop := ∃ lv, PtAt N w g m L lv ∧ Fr (fun _ => False) w0 w
theorem Pt.step {N : Nat} {w0 w w' : World} {g m : Nat} {L L' : List W10} {lv lv' : Value} (hN : w0.heap.size ≤ N) (h : PtAt N w g m L lv) (f0 : Fr (fun _ => False) w0 w) (h' : PtAt N w' g m L' lv') (f : Fr (fun i => i = g ∨ i = m ∨ lv.ownBlock = some i) w w') : Pt N w0 w' g m L' :=
  ⟨lv', h', f0.trans f (fun i hi e => by
    have h1 := h.hg
    have h2 := h.hm
    rcases e with e | e | e
    · omega
    · omega
    · have := (h.sl.lt i e).1; omega)⟩
/-- What is no table's stays. -/
def Keep (w w' : World) : Prop := ∀ (b : Nat) (cs : Array Value) (t : TypeId), w.heap[b]? = some (Obj.cells cs t) → t ≠ 111 → t ≠ 114 → w'.heap[b]? = some (Obj.cells cs t)
theorem PtAt.keep {N : Nat} {w w' : World} {g m : Nat} {L : List W10} {lv : Value} (h : PtAt N w g m L lv) (f : Fr (fun i => i = g ∨ i = m ∨ lv.ownBlock = some i) w w') : Keep w w' := fun b cs t hb h1 h2 => by
  rw [f.block b (lt_of_block hb) (fun e => ?_)]
  · exact hb
  · rcases e with e | e | e
    · subst e; rw [h.blk] at hb; cases hb; exact h1 rfl
    · subst e
      obtain ⟨⟨es, ⟨es1, ck, h3, _⟩, _⟩, _⟩ := h.map
      rw [h3] at hb
      cases hb
    · obtain ⟨c, h3⟩ := h.sl.tag e
      rw [h3] at hb
      cases hb
      exact h2 rfl
theorem add_aw {N : Nat} {w0 w : World} {g m : Nat} {L L' : List W10} {r : Int} (x : W10) (hx : x.ok) (hN : w0.heap.size ≤ N) (hN2 : N ≤ w.heap.size) (h : Pt N w0 w g m L) (hlen : L.length ≤ 8) (he : addE L x = r) (hl : addL L x = L') :
    Calls Try.prog 30 #[.pointer (some ⟨g, 0, none⟩), .agg x.cells.toArray] w fun e w' => e = .returned (.int .i64 r) ∧ Pt N w0 w' g m L' ∧ w.heap.size ≤ w'.heap.size ∧ Keep w w' := by
  obtain ⟨lv, hp, f⟩ := h
  subst he; subst hl
  refine (add30 N g m L lv x w hx hp hlen hN2).mono ?_
  rintro e w' ⟨rfl, lv', hp', f'⟩
  exact ⟨rfl, Pt.step hN hp f hp' f', f'.size, hp.keep f'⟩
theorem drop_aw {N : Nat} {w0 w : World} {g m : Nat} {L L' : List W10} {r : Int} (k : I4) (b : Int) (hk : (⟨k, b⟩ : N5).ok) (hN : w0.heap.size ≤ N) (hN2 : N ≤ w.heap.size) (h : Pt N w0 w g m L) (hlen : L.length ≤ 8) (he : dropE L k b = r) (hl : dropL L k b = L') :
    Calls Try.prog 32 #[.pointer (some ⟨g, 0, none⟩), .agg #[.int .u8 k.a, .int .u8 k.b, .int .u8 k.c, .int .u8 k.d], .int .i64 b] w fun e w' => e = .returned (.int .i64 r) ∧ Pt N w0 w' g m L' ∧ w.heap.size ≤ w'.heap.size ∧ Keep w w' := by
  obtain ⟨lv, hp, f⟩ := h
  subst he; subst hl
  refine (drop32 N g m L lv k b w hk hp hlen hN2).mono ?_
  rintro e w' ⟨rfl, lv', hp', f'⟩
  exact ⟨rfl, Pt.step hN hp f hp' f', f'.size, hp.keep f'⟩
theorem find_aw {N : Nat} {w0 w : World} {g m : Nat} {L : List W10} {ra : I4} {re : Int} (k : I4) (hk : k.ok) (h : Pt N w0 w g m L) (hlen : L.length ≤ 8) (hm : ∀ p ∈ L, mayW p = true) (hf : findA L k = ra ∧ findE L k = re) :
    Calls Try.prog 34 #[.pointer (some ⟨g, 0, none⟩), .agg #[.int .u8 k.a, .int .u8 k.b, .int .u8 k.c, .int .u8 k.d]] w fun e w' => e = .returned (.tuple #[.agg #[.int .u8 ra.a, .int .u8 ra.b, .int .u8 ra.c, .int .u8 ra.d], .int .i64 re]) ∧ Pt N w0 w' g m L ∧ Fr (fun _ => False) w w' := by
  obtain ⟨lv, hp, f⟩ := h
  refine (find34 N g m L lv k w hk hp hlen hm).mono ?_
  rintro e w' ⟨rfl, f'⟩
  refine ⟨?_, ⟨lv, hp.fr f', f.then' f'⟩, f'⟩
  rw [hf.1, hf.2]
  rfl
theorem Pt.fr {N : Nat} {w0 w w' : World} {g m : Nat} {L : List W10} (h : Pt N w0 w g m L) (f : Fr (fun _ => False) w w') : Pt N w0 w' g m L := by
  obtain ⟨lv, hp, f0⟩ := h
  exact ⟨lv, hp.fr f, f0.then' f⟩
set_option maxHeartbeats 16000000 in
set_option maxRecDepth 100000 in
theorem awake28 (w : World) : Calls Try.prog 28 #[] w fun e w' => e = .returned (.bool true) ∧ Fr (fun _ => False) w w' := by
  go_enter Try.func28, Try.ntmps28
  go_upto_region 2 with (go_at_call 29; refine (new29 w).mono ?_; rintro e w1 ⟨g, m, rfl, hp, f⟩; have P1 := Lib.hid (show Pt w.heap.size w w1 g m [] from ⟨_, hp, f⟩); have Z1 := Lib.hid f.size; clear hp f)
  go_upto_region 4 with (fail)
  iterate 60 (first
    | (have := MK1; clear this)
    | (refine wpList_build bd69 rfl rfl [(0, .agg #[.int .u8 10, .int .u8 0, .int .u8 0, .int .u8 0]), (1, .int .i64 8)] (by rfl) wA.cells.toArray (by rfl) ?_; have MK1 := Lib.hid True.intro)
    | go_step)
  go_upto_region 5 with (go_at_call 30; refine (add_aw wA wA_ok (Nat.le_refl _) Z1.out P1.out (by decide) aw_1.1 aw_1.2).mono ?_; rintro e w2 ⟨rfl, hp, hz, _⟩; have P2 := Lib.hid hp; have Z2 := Lib.hid (Nat.le_trans Z1.out hz); clear hp hz)
  iterate 60 (first
    | (have := MK2; clear this)
    | (refine wpList_build bd69 rfl rfl [(2, .agg #[.int .u8 10, .int .u8 0, .int .u8 0, .int .u8 9]), (3, .bool true)] (by rfl) wB.cells.toArray (by rfl) ?_; have MK2 := Lib.hid True.intro)
    | go_step)
  go_upto_region 6 with (go_at_call 30; refine (add_aw wB wB_ok (Nat.le_refl _) Z2.out P2.out (by decide) aw_2.1 aw_2.2).mono ?_; rintro e w3 ⟨rfl, hp, hz, _⟩; have P3 := Lib.hid hp; have Z3 := Lib.hid (Nat.le_trans Z2.out hz); clear hp hz)
  go_upto_region 7 with (go_at_call 34; refine (find_aw ⟨10, 1, 2, 3⟩ ip_a P3.out (by decide) aw_may.1 aw_3).mono ?_; rintro e w4 ⟨rfl, hp, f⟩; have P4 := Lib.hid hp; have Z4 := Lib.hid (Nat.le_trans Z3.out f.size); clear hp f)
  have C4 := Lib.hid (fun (w' : World) (f : Fr (fun _ => False) (w4.alloc (.cells #[.int .u8 10, .int .u8 1, .int .u8 2, .int .u8 3] 45)) w') => box_at w4 [.int .u8 10, .int .u8 1, .int .u8 2, .int .u8 3] 45 w' f)
  have FA4 := Lib.hid ((Fr.refl (fun _ => False) w4).alloc (.cells #[.int .u8 10, .int .u8 1, .int .u8 2, .int .u8 3] 45))
  generalize w4.alloc (.cells #[.int .u8 10, .int .u8 1, .int .u8 2, .int .u8 3] 45) = v4 at C4 FA4 ⊢
  obtain ⟨b4, hb4⟩ : ∃ b, w4.heap.size = b := ⟨_, rfl⟩
  rw [hb4] at C4 ⊢
  clear hb4
  go_upto_region 8 with (go_at_call 34; refine (find_aw ⟨9, 9, 9, 9⟩ ip_b (P4.out.fr FA4.out) (by decide) aw_may.1 aw_4).mono ?_; rintro e w5 ⟨rfl, hp, f⟩; have P5 := Lib.hid hp; have G5 := Lib.hid (FA4.out.then' f); have H45a := Lib.hid f; clear hp f)
  have C5 := Lib.hid (fun (w' : World) (f : Fr (fun _ => False) (w5.alloc (.cells #[.int .u8 10, .int .u8 0, .int .u8 0, .int .u8 9] 45)) w') => box_at w5 [.int .u8 10, .int .u8 0, .int .u8 0, .int .u8 9] 45 w' f)
  have FA5 := Lib.hid ((Fr.refl (fun _ => False) w5).alloc (.cells #[.int .u8 10, .int .u8 0, .int .u8 0, .int .u8 9] 45))
  generalize w5.alloc (.cells #[.int .u8 10, .int .u8 0, .int .u8 0, .int .u8 9] 45) = v5 at C5 FA5 ⊢
  obtain ⟨b5, hb5⟩ : ∃ b, w5.heap.size = b := ⟨_, rfl⟩
  rw [hb5] at C5 ⊢
  clear hb5
  have H45 := Lib.hid (H45a.out.then' FA5.out)
  have Z5 := Lib.hid (show w.heap.size ≤ v5.heap.size by have h1 := Z4.out; have h2 := G5.out.size; have h3 := FA5.out.size; omega)
  go_upto_region 9 with (go_at_call 32; refine (drop_aw ⟨0, 0, 0, 0⟩ 0 ⟨I4.zero_ok, by decide⟩ (Nat.le_refl _) Z5.out (P5.out.fr FA5.out) (by decide) aw_5.1 aw_5.2).mono ?_; rintro e w6 ⟨rfl, hp, hz, hkp⟩; have P6 := Lib.hid hp; have K6 := Lib.hid hkp; clear hp hz hkp)
  have D4 := Lib.hid (K6.out b4 _ _ (C4.out v5 (H45.out)) (by decide) (by decide))
  have D5 := Lib.hid (K6.out b5 _ _ (C5.out v5 (Fr.refl _ _)) (by decide) (by decide))
  go_upto_region 10 with (go_at_call 34; refine (find_aw ⟨9, 9, 9, 9⟩ ip_b P6.out (by decide) aw_may.2 aw_6).mono ?_; rintro e w7 ⟨rfl, hp, f⟩; have P7 := Lib.hid hp; have G7 := Lib.hid f; clear hp f)
  have FA7 := Lib.hid ((Fr.refl (fun _ => False) w7).alloc (.cells #[.int .u8 0, .int .u8 0, .int .u8 0, .int .u8 0] 45))
  generalize w7.alloc (.cells #[.int .u8 0, .int .u8 0, .int .u8 0, .int .u8 0] 45) = v7 at FA7 ⊢
  have P7v := Lib.hid (P7.out.fr FA7.out)
  have R4 := Lib.hid (range_at v7 b4 [.int .u8 10, .int .u8 1, .int .u8 2, .int .u8 3] 45 (((G7.out.then' FA7.out).block b4 (lt_of_block D4.out) (fun e => e)).trans D4.out))
  have R5 := Lib.hid (range_at v7 b5 [.int .u8 10, .int .u8 0, .int .u8 0, .int .u8 9] 45 (((G7.out.then' FA7.out).block b5 (lt_of_block D5.out) (fun e => e)).trans D5.out))
  have E4 := Lib.hid (fun w => eql45x (w := w) ip_a ip_a)
  have E5 := Lib.hid (fun w => eql45x (w := w) ip_c ip_c)
  obtain ⟨lv, hp7, hf7⟩ := P7v.out
  have HP7 := Lib.hid hp7
  have HF7 := Lib.hid hf7
  clear hp7 hf7
  iterate 200 (first
    | (have := MK5; clear this)
    | (refine wpList_load_when (by rfl) 45 _ rfl b4 0 rfl [.int .u8 10, .int .u8 1, .int .u8 2, .int .u8 3] _ R4.out Try.underlying45 rfl (by kernel_rfl) ?_)
    | (refine wpList_load_when (by rfl) 45 _ rfl b5 0 rfl [.int .u8 10, .int .u8 0, .int .u8 0, .int .u8 9] _ R5.out Try.underlying45 rfl (by kernel_rfl) ?_)
    | (refine wpList_bin_agg (by rfl) .eql 45 45 _ _ rfl rfl rfl (by kernel_rfl) _ (E4.out v7) ?_)
    | (refine wpList_bin_agg (by rfl) .eql 45 45 _ _ rfl rfl rfl (by kernel_rfl) _ (E5.out v7) ?_; have MK5 := Lib.hid True.intro)
    | go_step)
  go_wp2_with (go_at_call 36; refine (all36 w.heap.size g m [wA] lv v7 HP7.out (by decide)).mono ?_; rintro e w9 ⟨v9, rfl, s9, f9⟩; obtain ⟨A9, c9, hv9, _, _⟩ := s9.form; subst hv9; have F9 := Lib.hid f9; clear s9 f9)
  go_ret
  exact ⟨rfl, HF7.out.then' F9.out⟩
end Go.Proofs.Ytcfadmjihccimaa
