/- The table of law 10: DeleteFunc at its keys. No condition but lengths. -/
import Derived.Test.YtcfadmjihccimaaRtH
import Derived.Laws.IdiomCopy
namespace Go.Proofs.Ytcfadmjihccimaa
set_option linter.unusedVariables false
set_option linter.unusedSimpArgs false
open Go.RowKit
theorem flat114 : flatK Try.prog 9 114 = some [some .u8, some .u8, some .u8, some .u8, some .i64] := by kernel_rfl
theorem fits114 {k : N5} (h : k.ok) : FitsL [some .u8, some .u8, some .u8, some .u8, some .i64] k.cells := ⟨⟨_, rfl, h.1.1⟩, ⟨_, rfl, h.1.2.1⟩, ⟨_, rfl, h.1.2.2.1⟩, ⟨_, rfl, h.1.2.2.2⟩, ⟨_, rfl, h.2⟩, trivial⟩
theorem n5_iff (m k : N5) : decide (m = k) = true ↔ m.cells = k.cells := by
  rw [decide_eq_true_iff]
  constructor
  · intro e; rw [e]
  · intro e
    obtain ⟨⟨_, _, _, _⟩, _⟩ := m; obtain ⟨⟨_, _, _, _⟩, _⟩ := k
    simp [N5.cells] at e
    obtain ⟨rfl, rfl, rfl, rfl, rfl⟩ := e
    rfl
theorem eql114 {k k' : N5} (h : k.ok) (h' : k'.ok) (w : World) : (binOp .eql 114 (.agg k.cells.toArray) (.agg k'.cells.toArray)).run Try.prog w = .ok (.bool (decide (k = k'))) w :=
  run_eql_flat (P := Try.prog) flat114 (by kernel_rfl) (fits114 h) (fits114 h') (by kernel_rfl) (by kernel_rfl) _ (n5_iff k k') w
set_option maxHeartbeats 8000000 in
set_option maxRecDepth 100000 in
theorem closure59 (k y : N5) (kb : Nat) (w : World) (hk : k.ok) (hy : y.ok) (hr : w.rangeAt kb 0 k.cells) (hkb : kb < w.heap.size) :
    Calls Try.prog 59 #[.agg y.cells.toArray, .pointer (some ⟨kb, 0, none⟩)] w fun e w' => e = .returned (.bool (decide (y = k))) ∧ Fr (fun _ => False) w w' := by
  have FA := Lib.hid (Fr.refl (fun _ => False) w)
  have HO := Lib.hid (And.intro hk hy)
  obtain ⟨r, hr0⟩ : ∃ r, decide (y = k) = r := ⟨_, rfl⟩
  have HQ := Lib.hid (fun w : World => show (binOp .eql 114 (.agg y.cells.toArray) (.agg k.cells.toArray)).run Try.prog w = .ok (.bool r) w from by rw [← hr0]; exact eql114 hy hk w)
  rw [hr0]
  have HKB := Lib.hid (fun (w' : World) (f : Fr (fun _ => False) w w') => show w'.rangeAt kb 0 k.cells from fun j v hj => (World.cell?_of_block (f.block kb hkb (fun e => e))).trans (hr j v hj))
  clear hk hy hr hr0
  unfold N5.cells
  go_enter Try.func59, Try.ntmps59
  go_upto_region 1 with (fail)
  have B1 := Lib.hid (box_at w y.cells 114)
  have F1 := Lib.hid (FA.out.alloc (.cells y.cells.toArray 114))
  unfold N5.cells at B1 F1
  generalize w.alloc (.cells #[.int .u8 y.ip.a, .int .u8 y.ip.b, .int .u8 y.ip.c, .int .u8 y.ip.d, .int .i64 y.bits] 114) = w1 at B1 F1 ⊢
  iterate 40 (first
    | (have := MK1; clear this)
    | (refine wpList_load_mid rfl 114 _ rfl w.heap.size 0 rfl y.cells _ (range_at _ _ _ 114 (B1.out w1 (Fr.refl _ _))) Try.underlying114 rfl (by kernel_rfl) ?_)
    | (refine wpList_load_mid rfl 114 _ rfl kb 0 rfl k.cells _ (HKB.out w1 F1.out) Try.underlying114 rfl (by kernel_rfl) ?_)
    | (refine wpList_bin_agg (by rfl) .eql 114 114 _ _ rfl rfl rfl (by kernel_rfl) _ (HQ.out w1) ?_; have MK1 := Lib.hid True.intro)
    | go_step)
  go_wp2_with fail
  go_ret
  exact ⟨rfl, F1.out⟩
def idxK (L : List W10) (k : N5) : Int := match L.findIdx? (fun y => decide (y.key = k)) with | some i => i | none => -1
theorem idxK_at {L : List W10} {k : N5} {i : Nat} {q : W10} (hi : L[i]? = some q) (hq : q.key = k) (h : ∀ (j : Nat) (q : W10), j < i → L[j]? = some q → q.key ≠ k) : idxK L k = i := by
  unfold idxK
  have : L.findIdx? (fun y => decide (y.key = k)) = some i := by
    obtain ⟨hlt, e⟩ := List.getElem?_eq_some_iff.1 hi
    rw [List.findIdx?_eq_some_iff_getElem]
    refine ⟨hlt, by rw [e]; simpa using hq, fun j hj => ?_⟩
    have := h j L[j] hj (List.getElem?_eq_getElem (by omega))
    simpa using this
  rw [this]
theorem idxK_not {L : List W10} {k : N5} (h : ∀ (j : Nat) (q : W10), L[j]? = some q → q.key ≠ k) : idxK L k = -1 := by
  unfold idxK
  rw [List.findIdx?_eq_none_iff.2 (fun p hp => by obtain ⟨j, hj⟩ := List.getElem?_of_mem hp; simpa using h j p hj)]
theorem Sl.keys {N n : Nat} {w : World} {b off cap : Nat} {L : List W10} (h : Sl N 114 5 w (.slice (some ⟨b, off, none⟩) n cap) n (kfl L)) {i : Nat} {q : W10} (hi : L[i]? = some q) : w.rangeAt b (off + i * 5) q.key.cells := by
  have hl := h.len
  rw [kfl_len] at hl
  have hlt := (List.getElem?_eq_some_iff.1 hi).1
  obtain ⟨b', off', cap', hv, _, _, _, _, hc, _⟩ := h.form1 (by omega)
  injection hv with hv1 _ hv2
  injection hv1 with hv1
  injection hv1 with hv3 hv4
  subst hv3; subst hv4
  intro j v hj
  rw [Nat.add_assoc]
  exact hc _ v (kfl_at hi hj)
set_option maxHeartbeats 8000000 in
set_option maxRecDepth 100000 in
theorem index71 (N b off n cap kb : Nat) (L : List W10) (k : N5) (w : World) (hS : Sl N 114 5 w (.slice (some ⟨b, off, none⟩) n cap) n (kfl L)) (hn : L.length = n) (hlen : n ≤ 8) (hok : ∀ p ∈ L, p.ok) (hk : k.ok) (hr : w.rangeAt kb 0 k.cells) (hkb : kb < w.heap.size) :
    Calls Try.prog 71 #[.slice (some ⟨b, off, none⟩) n cap, .func (.func 59) #[] #[.pointer (some ⟨kb, 0, none⟩)]] w fun e w' => e = .returned (.int .i64 (idxK L k)) ∧ Fr (fun _ => False) w w' := by
  have FA := Lib.hid (Fr.refl (fun _ => False) w)
  have HS := Lib.hid hS
  have HO := Lib.hid (And.intro hok hk)
  have Hn := Lib.hid hn
  obtain ⟨A9, c9, hv9, hcap, _⟩ := hS.form
  cases hv9
  have HKB := Lib.hid (fun (w' : World) (f : Fr (fun _ => False) w w') => show w'.rangeAt kb 0 k.cells ∧ kb < w'.heap.size from ⟨fun j v hj => (World.cell?_of_block (f.block kb hkb (fun e => e))).trans (hr j v hj), Nat.lt_of_lt_of_le hkb f.size⟩)
  obtain ⟨r, hr0⟩ : ∃ r, idxK L k = r := ⟨_, rfl⟩
  have HR := Lib.hid hr0
  rw [hr0]
  clear hS hn hok hk hr hkb hr0
  go_enter Try.func71, Try.ntmps71
  go_wp2_with fail
  go_loopw [8] (fun v wr => ∃ i : Nat, v = .int .i64 i ∧ i ≤ n ∧ (∀ (j : Nat) (q : W10), j < i → L[j]? = some q → q.key ≠ k) ∧ Fr (fun _ => False) w wr) (fun v _ => n - (intOf v).toNat)
  case atStart => exact ⟨0, rfl, Nat.zero_le _, (fun j q hj => absurd hj (Nat.not_lt_zero _)), Fr.refl _ _⟩
  case round =>
    obtain ⟨i, rfl, hi, hno, hf⟩ := hrel
    have Hno := Lib.hid hno
    have HF := Lib.hid hf
    clear hno hf
    by_cases hlt : i < n
    · obtain ⟨q, hq⟩ : ∃ q, L[i]? = some q := ⟨_, List.getElem?_eq_getElem (by rw [Hn.out]; exact hlt)⟩
      have Hq := Lib.hid hq
      have HQO := Lib.hid (HO.out.1 q (List.mem_of_getElem? hq)).key
      have RK := Lib.hid ((HS.out.fr0 HF.out).keys hq)
      obtain ⟨e1, he1⟩ : ∃ e1, decide (q.key = k) = e1 := ⟨_, rfl⟩
      have HE := Lib.hid he1
      clear hq he1
      have hic : i < cap := by omega
      go_upto_region 4 with (fail)
      iterate 40 (first
        | (have := MK1; clear this)
        | (refine wpList_load_mid rfl 114 _ rfl b (off + i * 5) rfl q.key.cells _ RK.out Try.underlying114 rfl (by kernel_rfl) ?_; have MK1 := Lib.hid True.intro)
        | go_step)
      go_upto_if 16 with (go_at_call 59; refine (closure59 k q.key kb _ HO.out.2 HQO.out (HKB.out _ HF.out).1 (HKB.out _ HF.out).2).mono ?_; rw [HE.out]; rintro e w5 ⟨rfl, f5⟩; have F5 := Lib.hid (HF.out.then' f5); clear f5)
      cases e1
      · go_wp2_with fail
        refine ⟨⟨i + 1, by go_num, by omega, ?_, F5.out⟩, by simp [intOf]; omega⟩
        intro j p hj hp
        by_cases e : j = i
        · subst e
          rw [Hq.out] at hp
          cases hp
          exact of_decide_eq_false HE.out
        · exact Hno.out j p (by omega) hp
      · have HX := Lib.hid (idxK_at Hq.out (of_decide_eq_true HE.out) Hno.out)
        go_wp2_with fail
        go_ret
        refine ⟨?_, F5.out⟩
        rw [← HR.out, HX.out]
        try rfl
    · obtain rfl : i = n := by omega
      go_wp2_with fail
      go_ret
      refine ⟨?_, HF.out⟩
      rw [← HR.out, idxK_not (fun j q hj => Hno.out j q (by have := (List.getElem?_eq_some_iff.1 hj).1; rw [Hn.out] at this; omega) hj)]
      try rfl
end Go.Proofs.Ytcfadmjihccimaa
