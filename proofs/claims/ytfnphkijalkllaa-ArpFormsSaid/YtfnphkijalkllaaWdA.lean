/- Checksums in plain Lean: words of bytes, one's complement sums, and the bits of fold. No program. -/
import Derived.Laws.BitsLemmas
import Derived.RowKit
import Derived.ProofKit
import Derived.Test.YtfnphkijalkllaaProg
import Derived.Test.YtfnphkijalkllaaChecked
import Derived.Test.YtfnphkijalkllaaMapRep
namespace Go.Proofs.Ytfnphkijalkllaa
set_option linter.unusedVariables false
open Go.RowKit

/-- What a sum becomes when what is above 16 bits is added to the lowest 16, till nothing is above. -/
def nrm (s : Int) : Int := if s = 0 then 0 else (s - 1) % 65535 + 1
theorem nrm_zero : nrm 0 = 0 := rfl
theorem nrm_pos {s : Int} (h : 0 < s) : nrm s = (s - 1) % 65535 + 1 := by unfold nrm; rw [if_neg (by omega)]
theorem nrm_bd {s : Int} (h : 0 ≤ s) : 0 ≤ nrm s ∧ nrm s ≤ 65535 := by unfold nrm; split <;> omega
theorem nrm_small {s : Int} (h : 0 ≤ s) (h1 : s ≤ 65535) : nrm s = s := by unfold nrm; split <;> omega
theorem nrm_step {s : Int} (h : 65535 < s) : nrm (s % 65536 + s / 65536) = nrm s := by
  rw [nrm_pos (by omega), nrm_pos (by omega)]; omega
theorem nrm_add {s t : Int} (h : 0 ≤ s) (h1 : 0 ≤ t) : nrm (nrm s + t) = nrm (s + t) := by
  unfold nrm; split <;> split <;> split <;> omega
theorem nrm_zero_iff {s : Int} (h : 0 ≤ s) : nrm s = 0 ↔ s = 0 := by unfold nrm; split <;> omega

theorem wraps_i64 (n : Int) (h₀ : 0 ≤ n) (h₁ : n < 2 ^ 63) : IntKind.i64.wrap n = n := by
  simp only [IntKind.wrap, IntKind.bits, IntKind.signed]; simp; omega
theorem and_ffff {x : Int} (h₀ : 0 ≤ x) (h₁ : x < 9223372036854775808) : bits .and .i64 x 65535 = x % 65536 := bits_mask .i64 63 (by decide) wraps_i64 16 (by decide) x h₀ (by simpa using h₁)
theorem or_byte {x y : Int} (h₀ : 0 ≤ x) (h₁ : x ≤ 255) (h₂ : 0 ≤ y) (h₃ : y ≤ 255) : bits .or .i64 (x * 256) y = 256 * x + y := by
  rw [bits_join .i64 63 (by decide) wraps_i64 8 (x * 256) y (by omega) (by omega) (by omega) h₂ (by omega) (by omega)]; omega

/-- The words that are whole, and the byte that waits for its fellow. -/
def stp (s : List Int × Option Int) (x : Int) : List Int × Option Int := match s.2 with
  | none => (s.1, some x)
  | some h => (s.1 ++ [256 * h + x], none)
def st (c : List Int) : List Int × Option Int := c.foldl stp ([], none)
def wend (s : List Int × Option Int) : List Int := match s.2 with
  | none => s.1
  | some h => s.1 ++ [256 * h]
/-- The words of bytes. -/
def wordsOf (c : List Int) : List Int := wend (st c)
theorem st_snoc (c : List Int) (x : Int) : st (c ++ [x]) = stp (st c) x := by simp [st, List.foldl_append]
def isB (l : List Int) : Prop := ∀ x ∈ l, 0 ≤ x ∧ x ≤ 255
theorem isB.app {a b : List Int} (h : isB a) (k : isB b) : isB (a ++ b) := fun x hx => (List.mem_append.1 hx).elim (h x) (k x)
theorem isB.left {a b : List Int} (h : isB (a ++ b)) : isB a := fun x hx => h x (List.mem_append.2 (.inl hx))
theorem isB.right {a b : List Int} (h : isB (a ++ b)) : isB b := fun x hx => h x (List.mem_append.2 (.inr hx))

/-- The weight of bytes: even ones count 256 times. -/
def wt : Bool → List Int → Int
  | _, [] => 0
  | false, x :: r => 256 * x + wt true r
  | true, x :: r => x + wt false r
theorem wt_nonneg : ∀ (o : Bool) (l : List Int), isB l → 0 ≤ wt o l
  | _, [], _ => by simp [wt]
  | false, x :: r, h => by
    have := wt_nonneg true r (fun y hy => h y (by simp [hy])); have := h x (by simp); simp only [wt]; omega
  | true, x :: r, h => by
    have := wt_nonneg false r (fun y hy => h y (by simp [hy])); have := h x (by simp); simp only [wt]; omega
theorem foldl_stp (c : List Int) : ∀ (ws : List Int) (p : Option Int), (wend (c.foldl stp (ws, p))).sum = ws.sum + (match p with | none => wt false c | some h => 256 * h + wt true c) := by
  induction c with
  | nil => intro ws p; cases p <;> simp [wend, wt]
  | cons x r ih =>
    intro ws p
    rw [List.foldl_cons]
    cases p with
    | none => rw [show stp (ws, none) x = (ws, some x) from rfl, ih]; simp [wt]
    | some h => rw [show stp (ws, some h) x = (ws ++ [256 * h + x], none) from rfl, ih]; simp [wt]; omega
theorem wordsOf_sum (c : List Int) : (wordsOf c).sum = wt false c := by
  unfold wordsOf st; rw [foldl_stp]; simp
theorem foldl_stp_ok (c : List Int) (hc : isB c) : ∀ (ws : List Int) (p : Option Int), (∀ w ∈ ws, 0 ≤ w ∧ w ≤ 65535) → (∀ h, p = some h → 0 ≤ h ∧ h ≤ 255) →
    (∀ w ∈ (c.foldl stp (ws, p)).1, 0 ≤ w ∧ w ≤ 65535) ∧ (∀ h, (c.foldl stp (ws, p)).2 = some h → 0 ≤ h ∧ h ≤ 255) := by
  induction c with
  | nil => intro ws p h1 h2; exact ⟨h1, h2⟩
  | cons x r ih =>
    intro ws p h1 h2
    have hx := hc x (by simp)
    rw [List.foldl_cons]
    cases p with
    | none => exact ih (fun y hy => hc y (by simp [hy])) _ _ h1 (fun h e => by cases e; exact hx)
    | some k =>
      have hk := h2 k rfl
      refine ih (fun y hy => hc y (by simp [hy])) _ _ (fun w hw => ?_) (fun h e => by cases e)
      rcases List.mem_append.1 hw with hw | hw
      · exact h1 w hw
      · simp at hw; omega
theorem st_ok {c : List Int} (hc : isB c) : (∀ w ∈ (st c).1, 0 ≤ w ∧ w ≤ 65535) ∧ (∀ h, (st c).2 = some h → 0 ≤ h ∧ h ≤ 255) := foldl_stp_ok c hc _ _ (by simp) (by simp)
theorem wordsOf_ok {c : List Int} (hc : isB c) : ∀ w ∈ wordsOf c, 0 ≤ w ∧ w ≤ 65535 := by
  obtain ⟨h1, h2⟩ := st_ok hc
  unfold wordsOf wend
  cases h : (st c).2 with
  | none => exact h1
  | some k =>
    have := h2 k h
    intro w hw
    rcases List.mem_append.1 hw with hw | hw
    · exact h1 w hw
    · simp at hw; omega
theorem foldl_stp_prefix (c : List Int) : ∀ s : List Int × Option Int, s.1 <+: (c.foldl stp s).1 := by
  induction c with
  | nil => intro s; exact List.prefix_rfl
  | cons x r ih =>
    intro s
    refine List.IsPrefix.trans ?_ (ih (stp s x))
    unfold stp
    split
    · exact List.prefix_rfl
    · exact List.prefix_append _ _
theorem st_prefix (a b : List Int) : (st a).1 <+: (st (a ++ b)).1 := by
  rw [st, st, List.foldl_append]; exact foldl_stp_prefix b _
theorem st_prefix_words (a : List Int) : (st a).1 <+: wordsOf a := by
  unfold wordsOf wend; split
  · exact List.prefix_rfl
  · exact List.prefix_append _ _
theorem st_prefix_all (a b : List Int) : (st a).1 <+: wordsOf (a ++ b) := (st_prefix a b).trans (st_prefix_words _)
theorem st_len (a b : List Int) : (st a).1.length ≤ (wordsOf (a ++ b)).length := (st_prefix_all a b).length_le
/-- The checksum of bytes. -/
def ck (c : List Int) : Int := 65535 - nrm (wt false c)
end Go.Proofs.Ytfnphkijalkllaa
