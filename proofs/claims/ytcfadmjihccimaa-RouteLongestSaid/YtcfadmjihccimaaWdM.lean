/- One bit turned, one byte set: what becomes of the weight; rows of one's own that are stored into. No condition. -/
import Derived.Test.YtcfadmjihccimaaProg
import Derived.Test.YtcfadmjihccimaaChecked
import Derived.Test.YtcfadmjihccimaaWdH
namespace Go.Proofs.Ytcfadmjihccimaa
set_option linter.unusedVariables false
open Go.RowKit

theorem xor_ne {x z : Int} (h₀ : 0 ≤ x) (h₁ : x ≤ 255) (h₂ : 0 < z) (h₃ : z ≤ 255) : 0 ≤ bits .xor .u8 x z ∧ bits .xor .u8 x z ≤ 255 ∧ bits .xor .u8 x z ≠ x := by
  have hb : bits .xor .u8 x z = ((BitVec.ofInt 8 x ^^^ BitVec.ofInt 8 z).toNat : Int) := by
    have h := (BitVec.ofInt 8 x ^^^ BitVec.ofInt 8 z).isLt
    show IntKind.u8.wrap ((BitVec.ofInt 8 x ^^^ BitVec.ofInt 8 z).toNat : Int) = _
    rw [IntKind.wrap_u8]; omega
  have h := (BitVec.ofInt 8 x ^^^ BitVec.ofInt 8 z).isLt
  rw [hb]
  refine ⟨by omega, by omega, fun e => ?_⟩
  have hx : (BitVec.ofInt 8 x).toNat = x.toNat := by rw [BitVec.toNat_ofInt]; omega
  have hz : (BitVec.ofInt 8 z).toNat = z.toNat := by rw [BitVec.toNat_ofInt]; omega
  have e1 : BitVec.ofInt 8 x ^^^ BitVec.ofInt 8 z = BitVec.ofInt 8 x := by
    apply BitVec.eq_of_toNat_eq; rw [hx]; omega
  have e2 : BitVec.ofInt 8 z = 0#8 := by
    have : BitVec.ofInt 8 x ^^^ (BitVec.ofInt 8 x ^^^ BitVec.ofInt 8 z) = BitVec.ofInt 8 x ^^^ BitVec.ofInt 8 x := by rw [e1]
    rwa [← BitVec.xor_assoc, BitVec.xor_self, BitVec.zero_xor] at this
  rw [e2] at hz
  simp at hz
  omega
theorem isB.set {l : List Int} (h : isB l) {j : Nat} {x : Int} (hx : 0 ≤ x ∧ x ≤ 255) : isB (l.set j x) := fun y hy => by
  rcases List.mem_or_eq_of_mem_set hy with h1 | h1
  · exact h y h1
  · rw [h1]; exact hx
/-- What a byte at a place counts. -/
def wat (o : Bool) (j : Nat) : Int := if (j % 2 = 0) = (o = false) then 256 else 1
theorem wt_set : ∀ (l : List Int) (o : Bool) (j : Nat) (x y : Int), l[j]? = some x → wt o (l.set j y) = wt o l + wat o j * (y - x)
  | [], o, j, x, y, h => by simp at h
  | a :: r, false, 0, x, y, h => by simp at h; subst h; simp [wt, wat]; omega
  | a :: r, true, 0, x, y, h => by simp at h; subst h; simp [wt, wat]; omega
  | a :: r, false, j + 1, x, y, h => by
    have ih := wt_set r true j x y (by simpa using h)
    have e : wat false (j + 1) = wat true j := by
      unfold wat; rcases Nat.mod_two_eq_zero_or_one j with h2 | h2 <;> simp [h2, Nat.add_mod]
    rw [List.set_cons_succ, wt, ih, wt, e]; omega
  | a :: r, true, j + 1, x, y, h => by
    have ih := wt_set r false j x y (by simpa using h)
    have e : wat true (j + 1) = wat false j := by
      unfold wat; rcases Nat.mod_two_eq_zero_or_one j with h2 | h2 <;> simp [h2, Nat.add_mod]
    rw [List.set_cons_succ, wt, ih, wt, e]; omega
/-- One byte that is another one makes another checksum. -/
theorem turn_law {l : List Int} (hB : isB l) {j : Nat} {x y : Int} (hj : l[j]? = some x) (hy : 0 ≤ y ∧ y ≤ 255) (hne : y ≠ x) : ck l ≠ ck (l.set j y) := by
  have hx := hB x (List.mem_of_getElem? hj)
  have h0 := wt_nonneg false l hB
  have h1 := wt_nonneg false _ (hB.set (j := j) hy)
  rw [wt_set l false j x y hj] at h1
  unfold ck
  rw [wt_set l false j x y hj]
  have hw : wat false j = 256 ∨ wat false j = 1 := by unfold wat; split <;> simp
  rcases hw with e | e <;> rw [e] at h1 ⊢ <;> unfold nrm <;> split <;> split <;> omega

theorem OwnB.form {base : Nat} {w : World} {v : Value} {l : List Int} {n : Nat} (h : OwnB base w v l) (hn : l.length = n) (h0 : 0 < n) : ∃ g c, v = .slice (some ⟨g, 0, none⟩) n c ∧ base ≤ g ∧ g < w.heap.size := by
  subst hn
  rcases h.2 with ⟨_, e⟩ | ⟨g, cap, cur, hv, hb, hg, _⟩
  · omega
  · exact ⟨g, cap, hv, hb, lt_of_block hg⟩
theorem OwnB.cell {base : Nat} {w : World} {g n c : Nat} {l : List Int} (h : OwnB base w (.slice (some ⟨g, 0, none⟩) n c) l) {j : Nat} {x : Int} (hj : l[j]? = some x) : w.cell? ⟨g, j, none⟩ = some (.int .u8 x) ∧ w.frozen? ⟨g, j, none⟩ = false := by
  have hn : n = l.length := by
    rcases h.2 with ⟨e, _⟩ | ⟨g', cap, cur, hv, _⟩
    · cases e
    · injection hv
  subst hn
  exact ⟨by rw [World.ownsRow.cellAt h j (by have := (List.getElem?_eq_some_iff.1 hj).1; omega)]; simp [hj], World.ownsRow.frozenAt h j⟩
theorem OwnB.set {base : Nat} {w : World} {g n c : Nat} {l : List Int} (h : OwnB base w (.slice (some ⟨g, 0, none⟩) n c) l) (j : Nat) (y : Int) :
    OwnB base (w.setCell ⟨g, j, none⟩ (.int .u8 y)) (.slice (some ⟨g, 0, none⟩) n c) (l.set j y) ∧ Fr (fun i => i = g) w (w.setCell ⟨g, j, none⟩ (.int .u8 y)) := by
  have hn : n = l.length := by
    rcases h.2 with ⟨e, _⟩ | ⟨g', cap, cur, hv, _⟩
    · cases e
    · injection hv
  subst hn
  obtain ⟨h1, h2⟩ := World.ownsRow.stored h j (.int .u8 y)
  refine ⟨?_, h2.os, h2.tape, h2.output, h2.size, fun i hi hS => h2.block i hi (fun e => hS (by simpa using e))⟩
  unfold OwnB
  rw [List.length_set, List.map_set]
  exact h1
end Go.Proofs.Ytcfadmjihccimaa
