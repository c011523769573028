/- Masks and bits: plain law. No condition. -/
import Derived.Test.YtcfadmjihccimaaRtC
namespace Go.Proofs.Ytcfadmjihccimaa
set_option linter.unusedVariables false
open Go.RowKit
/-- The first k bits of a byte. -/
def top (x : Int) (k : Nat) : Int := x / 2 ^ (8 - k)
theorem mk_tab : ∀ m : Fin 9, ∀ x : Fin 256, bits .and .u8 (x.val : Int) (65280 / 2 ^ m.val % 256) = top (x.val : Int) m.val * 2 ^ (8 - m.val) := by decide +kernel
theorem tail_tab : ∀ m : Fin 9, ∀ x : Fin 256, decide (top (x.val : Int) m.val * 2 ^ (8 - m.val) = (x.val : Int)) = (List.range 8).all (fun j => decide (j < m.val) || !(btB (x.val : Int) j == 1)) := by decide +kernel
def kq (b : Nat) (o : Nat) : Nat := min 8 (b - o)
theorem kpE_eq (b o : Nat) : (kpE b o).toNat = kq b o := by
  unfold kpE kq
  split <;> split at * <;> omega
theorem mkB_eq {x : Int} (hx : 0 ≤ x ∧ x ≤ 255) (b o : Nat) : mkB x b o = top x (kq b o) * 2 ^ (8 - kq b o) := by
  have h := mk_tab ⟨kq b o, by unfold kq; omega⟩ ⟨x.toNat, by omega⟩
  simp only [Int.toNat_of_nonneg hx.1] at h
  unfold mkB
  rw [kpE_eq]
  exact h
theorem top_succ {x : Int} (hx : 0 ≤ x ∧ x ≤ 255) {k : Nat} (hk : k < 8) : top x (k + 1) = 2 * top x k + btB x k := by
  unfold top btB
  rw [show 8 - (k + 1) = 7 - k by omega, show 8 - k = (7 - k) + 1 by omega, Int.pow_succ, ← Int.ediv_ediv_of_nonneg (Int.le_of_lt (Int.pow_pos (by omega)))]
  omega
theorem top_iff {x y : Int} (hx : 0 ≤ x ∧ x ≤ 255) (hy : 0 ≤ y ∧ y ≤ 255) : ∀ {k : Nat}, k ≤ 8 → (top x k = top y k ↔ ∀ j, j < k → btB x j = btB y j)
  | 0, _ => by
    constructor
    · intro _ j hj; omega
    · intro _
      unfold top
      simp
      omega
  | k + 1, hk => by
    have ih := top_iff hx hy (k := k) (by omega)
    rw [top_succ hx (by omega), top_succ hy (by omega)]
    have bx : btB x k = 0 ∨ btB x k = 1 := by unfold btB; omega
    have by_ : btB y k = 0 ∨ btB y k = 1 := by unfold btB; omega
    constructor
    · intro h j hj
      have h1 : top x k = top y k := by omega
      by_cases e : j = k
      · subst e; omega
      · exact ih.1 h1 j (by omega)
    · intro h
      have h1 := ih.2 (fun j hj => h j (by omega))
      have h2 := h k (by omega)
      omega
theorem mk_iff {x y : Int} (hx : 0 ≤ x ∧ x ≤ 255) (hy : 0 ≤ y ∧ y ≤ 255) (b o : Nat) : mkB x b o = mkB y b o ↔ ∀ j, j < kq b o → btB x j = btB y j := by
  rw [mkB_eq hx, mkB_eq hy, ← top_iff hx hy (by unfold kq; omega)]
  have hp : (2 : Int) ^ (8 - kq b o) ≠ 0 := Int.ne_of_gt (Int.pow_pos (by omega))
  constructor
  · intro h; exact Int.eq_of_mul_eq_mul_right hp h
  · intro h; rw [h]
theorem mk_fix {x : Int} (hx : 0 ≤ x ∧ x ≤ 255) (b o : Nat) : mkB x b o = x ↔ ∀ j, j < 8 → j < kq b o ∨ btB x j ≠ 1 := by
  rw [mkB_eq hx]
  have h := tail_tab ⟨kq b o, by unfold kq; omega⟩ ⟨x.toNat, by omega⟩
  simp only [Int.toNat_of_nonneg hx.1] at h
  rw [← decide_eq_true_iff (p := top x (kq b o) * 2 ^ (8 - kq b o) = x), h, List.all_eq_true]
  constructor
  · intro h j hj
    have := h j (List.mem_range.2 hj)
    simpa using this
  · intro h j hj
    have := h j (List.mem_range.1 hj)
    simpa using this
theorem mkB_ok {x : Int} (hx : 0 ≤ x ∧ x ≤ 255) (b o : Nat) : 0 ≤ mkB x b o ∧ mkB x b o ≤ 255 := by
  rw [mkB_eq hx]
  unfold top
  have hp : (0 : Int) < 2 ^ (8 - kq b o) := Int.pow_pos (by omega)
  have h1 := Int.ediv_mul_le x (Int.ne_of_gt hp)
  have h2 : 0 ≤ x / 2 ^ (8 - kq b o) * 2 ^ (8 - kq b o) := Int.mul_nonneg (Int.ediv_nonneg hx.1 (Int.le_of_lt hp)) (Int.le_of_lt hp)
  omega
/-- Bytes apart. -/
theorem by_byte (P : Nat → Nat → Prop) : (∀ i, i < 32 → P (i / 8) (i % 8)) ↔ ((∀ j, j < 8 → P 0 j) ∧ (∀ j, j < 8 → P 1 j) ∧ (∀ j, j < 8 → P 2 j) ∧ ∀ j, j < 8 → P 3 j) := by
  constructor
  · intro h
    refine ⟨fun j hj => ?_, fun j hj => ?_, fun j hj => ?_, fun j hj => ?_⟩
    · have := h j (by omega); rwa [show j / 8 = 0 by omega, show j % 8 = j by omega] at this
    · have := h (8 + j) (by omega); rwa [show (8 + j) / 8 = 1 by omega, show (8 + j) % 8 = j by omega] at this
    · have := h (16 + j) (by omega); rwa [show (16 + j) / 8 = 2 by omega, show (16 + j) % 8 = j by omega] at this
    · have := h (24 + j) (by omega); rwa [show (24 + j) / 8 = 3 by omega, show (24 + j) % 8 = j by omega] at this
  · intro ⟨h0, h1, h2, h3⟩ i hi
    have hj : i % 8 < 8 := by omega
    match hq : i / 8, (by omega : i / 8 < 4) with
    | 0, _ => exact h0 _ hj
    | 1, _ => exact h1 _ hj
    | 2, _ => exact h2 _ hj
    | 3, _ => exact h3 _ hj
theorem I4.ok.bytes {k : I4} (h : k.ok) : (0 ≤ k.a ∧ k.a ≤ 255) ∧ (0 ≤ k.b ∧ k.b ≤ 255) ∧ (0 ≤ k.c ∧ k.c ≤ 255) ∧ (0 ≤ k.d ∧ k.d ≤ 255) := ⟨u8_of h.1, u8_of h.2.1, u8_of h.2.2.1, u8_of h.2.2.2⟩
theorem mkI_ok {k : I4} (h : k.ok) (b : Nat) : (mkI k b).ok := by
  obtain ⟨h0, h1, h2, h3⟩ := h.bytes
  exact ⟨wfu8 (mkB_ok h0 b 0), wfu8 (mkB_ok h1 b 8), wfu8 (mkB_ok h2 b 16), wfu8 (mkB_ok h3 b 24)⟩
theorem mkI_fix {n : I4} (h : n.ok) {b : Nat} (hb : b ≤ 32) : mkI n b = n ↔ tailB n b = true := by
  obtain ⟨h0, h1, h2, h3⟩ := h.bytes
  have e : tailB n b = true ↔ ∀ i, i < 32 → ((i % 8 < kq b (8 * (i / 8))) ∨ btB (n.nth (i / 8)) (i % 8) ≠ 1) := by
    unfold tailB
    rw [List.all_eq_true]
    constructor
    · intro h i hi
      have := h i (List.mem_range.2 hi)
      simp only [Bool.or_eq_true, decide_eq_true_eq, Bool.not_eq_true', beq_eq_false_iff_ne] at this
      rcases this with h | h
      · left; unfold kq; omega
      · right; exact h
    · intro h i hi
      have := h i (List.mem_range.1 hi)
      simp only [Bool.or_eq_true, decide_eq_true_eq, Bool.not_eq_true', beq_eq_false_iff_ne]
      rcases this with h | h
      · left; unfold kq at h; omega
      · right; exact h
  rw [e, by_byte (fun q j => (j < kq b (8 * q)) ∨ btB (n.nth q) j ≠ 1)]
  have f0 := mk_fix h0 b 0
  have f1 := mk_fix h1 b 8
  have f2 := mk_fix h2 b 16
  have f3 := mk_fix h3 b 24
  constructor
  · intro h
    have h' : mkB n.a b 0 = n.a ∧ mkB n.b b 8 = n.b ∧ mkB n.c b 16 = n.c ∧ mkB n.d b 24 = n.d := by
      unfold mkI at h
      cases n
      simpa using h
    exact ⟨f0.1 h'.1, f1.1 h'.2.1, f2.1 h'.2.2.1, f3.1 h'.2.2.2⟩
  · intro ⟨a0, a1, a2, a3⟩
    unfold mkI
    have g0 := f0.2 a0
    have g1 := f1.2 a1
    have g2 := f2.2 a2
    have g3 := f3.2 a3
    simp only [Int.ofNat_zero] at g0
    cases n
    simp_all
theorem mkI_beg {n ip : I4} (hn : n.ok) (hi : ip.ok) {b : Nat} (hb : b ≤ 32) (hfix : mkI n b = n) : (decide (mkI ip b = n)) = begB n ip b := by
  obtain ⟨h0, h1, h2, h3⟩ := hn.bytes
  obtain ⟨k0, k1, k2, k3⟩ := hi.bytes
  rw [Bool.eq_iff_iff, decide_eq_true_iff]
  have e : begB n ip b = true ↔ ∀ i, i < 32 → (i % 8 < kq b (8 * (i / 8)) → btB (ip.nth (i / 8)) (i % 8) = btB (n.nth (i / 8)) (i % 8)) := by
    unfold begB
    rw [List.all_eq_true]
    constructor
    · intro h i hi hk
      have := h i (List.mem_range.2 (by unfold kq at hk; omega))
      exact (by simpa using this : btI n i = btI ip i).symm
    · intro h i hi
      have hib := List.mem_range.1 hi
      have := h i (by omega) (by unfold kq; omega)
      simp only [beq_iff_eq]
      exact this.symm
  rw [e, by_byte (fun q j => j < kq b (8 * q) → btB (ip.nth q) j = btB (n.nth q) j)]
  have f0 := mk_iff k0 h0 b 0
  have f1 := mk_iff k1 h1 b 8
  have f2 := mk_iff k2 h2 b 16
  have f3 := mk_iff k3 h3 b 24
  have kb : ∀ o, kq b o ≤ 8 := fun o => by unfold kq; omega
  constructor
  · intro h
    rw [← hfix] at h
    unfold mkI at h
    simp only [I4.mk.injEq] at h
    obtain ⟨a0, a1, a2, a3⟩ := h
    exact ⟨fun j _ hj => f0.1 a0 j hj, fun j _ hj => f1.1 a1 j hj, fun j _ hj => f2.1 a2 j hj, fun j _ hj => f3.1 a3 j hj⟩
  · intro ⟨a0, a1, a2, a3⟩
    have g0 := f0.2 (fun j hj => a0 j (by have := kb 0; omega) hj)
    have g1 := f1.2 (fun j hj => a1 j (by have := kb 8; omega) hj)
    have g2 := f2.2 (fun j hj => a2 j (by have := kb 16; omega) hj)
    have g3 := f3.2 (fun j hj => a3 j (by have := kb 24; omega) hj)
    conv => rhs; rw [← hfix]
    unfold mkI
    simp only [I4.mk.injEq]
    exact ⟨g0, g1, g2, g3⟩
/-- What Add asks. -/
def mayP (x : W10) : Bool := decide (0 ≤ x.bits) && (decide (x.bits ≤ 32) && (decide (mkI x.n x.bits = x.n) && (x.via || decide (x.g = I4.zero))))
theorem mayP_eq {x : W10} (h : x.ok) : mayP x = mayW x := by
  unfold mayP mayW
  by_cases h1 : 0 ≤ x.bits
  · by_cases h2 : x.bits ≤ 32
    · obtain ⟨b, hb⟩ : ∃ b : Nat, x.bits = b := ⟨x.bits.toNat, by omega⟩
      have := mkI_fix h.n (b := b) (by omega)
      rw [hb, Int.toNat_natCast]
      have e : decide (mkI x.n b = x.n) = tailB x.n b := by rw [Bool.eq_iff_iff, decide_eq_true_iff, this]
      rw [e, Bool.and_comm (tailB x.n b)]
    · simp [h2]
  · simp [h1]
end Go.Proofs.Ytcfadmjihccimaa
