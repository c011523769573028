/- The walk of packhorselaw01.WordTurns. No condition but lengths. -/
import Derived.Test.YtcgghjjchfafiaaWdM
namespace Go.Proofs.Ytcgghjjchfafiaa
set_option linter.unusedVariables false
open Go.RowKit

set_option maxHeartbeats 4000000 in
set_option maxRecDepth 100000 in
theorem turns8_out (A : Option Addr) (len cap : Nat) (bit : Int) (w : World) (hlen : (len : Int) ≤ 140737488351232) (h : len = 0 ∨ bit < 0 ∨ 8 * (len : Int) ≤ bit) :
    Calls Try.prog 8 #[.slice A len cap, .int .i64 bit] w fun e w' => e = .returned (.bool true) ∧ Fr (fun _ => False) w w' := by
  by_cases h1 : len = 0
  · clear h
    subst h1
    go_enter Try.func8, Try.ntmps8
    go_wp2_with (go_at_call 27; refine (awake27 _).mono ?_; rintro e w1 ⟨rfl, f1⟩)
    go_ret
    exact ⟨rfl, f1⟩
  · by_cases h2 : bit < 0
    · clear h
      go_enter Try.func8, Try.ntmps8
      go_wp2_with (go_at_call 27; refine (awake27 _).mono ?_; rintro e w1 ⟨rfl, f1⟩)
      go_ret
      exact ⟨rfl, f1⟩
    · have h3 : 8 * (len : Int) ≤ bit := by omega
      clear h
      go_enter Try.func8, Try.ntmps8
      go_wp2_with (go_at_call 27; refine (awake27 _).mono ?_; rintro e w1 ⟨rfl, f1⟩)
      go_ret
      exact ⟨rfl, f1⟩

set_option maxHeartbeats 4000000 in
set_option maxRecDepth 100000 in
theorem turns8 (A : Option Addr) (cap : Nat) (l : List Int) (k : Nat) (w : World) (hL : BArg w A cap l) (hk : k < 8 * l.length) :
    Calls Try.prog 8 #[.slice A l.length cap, .int .i64 k] w fun e w' => e = .returned (.bool true) ∧ Fr (fun _ => False) w w' := by
  have hlen0 : 0 < l.length := by omega
  obtain ⟨b, off, hA, hb, hc⟩ := hL.here hlen0
  obtain ⟨j, hj⟩ : ∃ j, j = k / 8 := ⟨_, rfl⟩
  obtain ⟨r, hr⟩ : ∃ r, r = k % 8 := ⟨_, rfl⟩
  have hjl : j < l.length := by omega
  obtain ⟨x, hx⟩ : ∃ x, l[j]? = some x := ⟨_, List.getElem?_eq_getElem hjl⟩
  have hxB := hL.ok x (List.mem_of_getElem? hx)
  have HL := Lib.hid hL
  obtain ⟨len, hlen⟩ : ∃ n, n = l.length := ⟨_, rfl⟩
  have hle : len ≤ cap := by rw [hlen]; exact hL.le
  have htop : cap ≤ 140737488351232 := hL.top
  have hk8 : (k : Int) < 8 * len := by omega
  have hlen1 : 0 < len := by omega
  have hjl : j < len := by omega
  have hq : (k : Int) / 8 = (j : Int) := by omega
  have hm : (k : Int) % 8 = (r : Int) := by omega
  have hr8 : r < 8 := by omega
  rw [← hlen]
  have Hlen := Lib.hid hlen.symm
  have Hx := Lib.hid hx
  clear hlen hL hk hlen0 hj hr hx hA hb hc
  have hb1 : ((len : Int) == 0) = false := by simp; omega
  have hb2 : decide ((k : Int) < 0) = false := by simp
  have hb3 : decide (8 * (len : Int) ≤ k) = false := by simp; omega
  go_enter Try.func8, Try.ntmps8
  go_upto_region 5 with (first
    | (go_at_call 27; refine (awake27 _).mono ?_; rintro e w1 ⟨rfl, f1⟩)
    | (at_builtin; refine wpList_appN _ rfl _ _ rfl w1.heap.size _ [] rfl (OwnB.nil _ _) w.heap.size A len cap l Hlen.out (by exact rfl) (by exact (HL.out.here.fr f1 (Nat.le_refl _) (fun _ _ e => e))) (by simp; omega) (Nat.le_refl _) ?_; intro v3 w3 o3 f3; have f3 := f3.fromNil; (have o3 : OwnB w1.heap.size w3 v3 l := by simpa using o3); obtain ⟨g, c3, rfl, hg1, hg2⟩ := o3.form Hlen.out hlen1))
  obtain ⟨cx, fx⟩ := o3.cell Hx.out
  obtain ⟨y, hy⟩ : ∃ y, bits .xor .u8 x (2 ^ r % 256) = y := ⟨_, rfl⟩
  have hyy : 0 ≤ y ∧ y ≤ 255 ∧ y ≠ x := by
    rw [← hy]
    have hz : 0 < (2 : Int) ^ r % 256 ∧ (2 : Int) ^ r % 256 ≤ 255 := by
      have : r = 0 ∨ r = 1 ∨ r = 2 ∨ r = 3 ∨ r = 4 ∨ r = 5 ∨ r = 6 ∨ r = 7 := by omega
      rcases this with rfl | rfl | rfl | rfl | rfl | rfl | rfl | rfl <;> decide
    exact xor_ne hxB.1 hxB.2 hz.1 hz.2
  obtain ⟨o4, f4⟩ := o3.set j y
  have hne := turn_law HL.out.ok Hx.out ⟨hyy.1, hyy.2.1⟩ hyy.2.2
  have hB4 := HL.out.ok.set (j := j) ⟨hyy.1, hyy.2.1⟩
  have hg3 : w.heap.size ≤ g := by have := f1.size; omega
  have g3 := f1.then f3
  have g4 := g3.trans f4 (fun i hi e => by omega)
  have hL4 := HL.out.fr g4
  have hl4 : (l.set j y).length = len := by rw [List.length_set]; exact Hlen.out
  have hs4 : w.heap.size ≤ (w3.setCell ⟨g, j, none⟩ (.int .u8 y)).heap.size := g4.size
  have b4 := hL4.here
  have ho4 := o4.viewN hl4
  obtain ⟨A', c', hv', b4'⟩ := ho4
  cases hv'
  have Hne := Lib.hid hne
  have HB4 := Lib.hid hB4
  have Hl4 := Lib.hid hl4
  clear o3 o4 hne hB4 hl4 hL4 hyy hxB g3
  go_upto_region 6 with (fail)
  have hsz : (w3.setCell ⟨g, j, none⟩ (.int .u8 y)).heap.size = w3.heap.size := by simp
  clear hy
  generalize w3.setCell ⟨g, j, none⟩ (.int .u8 y) = w4 at *
  clear hsz cx fx hg2 f3 f4
  go_wp2_with (first
    | (go_at_call 28; refine (sum28_boxN cap l _ Hlen.out HL.out.ok (by omega) b4 _).mono ?_; rintro e w5 ⟨rfl, f5⟩; have b5 := (b4'.fr f5 (Nat.le_refl _) (fun _ _ e => e)).up f5.size; clear b4)
    | (go_at_call 28; refine (sum28_boxN c3 _ _ Hl4.out HB4.out (by omega) b5 _).mono ?_; rintro e w6 ⟨rfl, f6⟩))
  have hr : (ck l != ck (l.set j y)) = true := by simpa using Hne.out
  rw [hr]
  go_ret
  exact ⟨rfl, (g4.then f5).then f6⟩
end Go.Proofs.Ytcgghjjchfafiaa
