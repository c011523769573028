/- packhorselaw19.awake returns true and turns nothing that was there. No condition. -/
import Derived.Test.YtcgghjjchfafiaaRestB
namespace Go.Proofs.Ytcgghjjchfafiaa
open Go.RowKit Go.Maps

theorem TabAt.fr {w w' : World} {g m : Nat} {L : List (K4 × Int)} (h : TabAt w g m L) (f : Fr (fun _ => False) w w') : TabAt w' g m L :=
  h.heap (f.block g h.ltg (fun e => e)) (f.block m h.ltm (fun e => e))
theorem TabAt.alloc {w : World} {g m : Nat} {L : List (K4 × Int)} (h : TabAt w g m L) (o : Obj) : TabAt (w.alloc o) g m L := h.fr ((Fr.refl _ w).alloc o)

theorem ex_ok : K4.ok ⟨5, 10, 0, 0, 2, 7⟩ := ⟨by decide, by decide, by decide, by decide, by decide, by decide⟩
/-- The example's key lies in a block of its own. -/
def KB (w : World) (b : Nat) : Prop := w.heap[b]? = some (.cells #[.int .i64 5, .int .u8 10, .int .u8 0, .int .u8 0, .int .u8 2, .int .i64 7] 33 (0, 0))
theorem KB.fr {w w' : World} {b m : Nat} (h : KB w b) (f : Fr (fun i => i = m) w w') (hne : b ≠ m) : KB w' b := (f.block b (lt_of_block h) hne).trans h
theorem Fr.far {a b c : World} {m : Nat} (h : Fr (fun _ => False) a b) (h' : Fr (fun i => i = m) b c) (hm : a.heap.size ≤ m) : Fr (fun _ => False) a c :=
  h.trans h' (fun i hi e => by omega)
theorem Fr.none {a b c : World} (h : Fr (fun _ => False) a b) (h' : Fr (fun _ => False) b c) : Fr (fun _ => False) a c := h.trans h' (fun _ _ e => e)

set_option maxHeartbeats 1000000 in
theorem awake14 (w : World) : Calls Try.prog 14 #[] w fun e w' => e = .returned (.bool true) ∧ Fr (fun _ => False) w w' := by
  go_enter Try.func14, Try.ntmps14
  go_wp2_with fail
  refine (new15 _).mono ?_
  rintro e w1 ⟨g, m, rfl, T1, f1, hg, hm⟩
  obtain ⟨w2, hw2⟩ : ∃ w2, w2 = w1.alloc (.cells #[.int .i64 5, .int .u8 10, .int .u8 0, .int .u8 0, .int .u8 2, .int .i64 7] 33) := ⟨_, rfl⟩
  have T2 : TabAt w2 g m [] := hw2 ▸ T1.alloc _
  have f2 : Fr (fun _ => False) w w2 := hw2 ▸ f1.alloc _
  have K2 : KB w2 w1.heap.size := by rw [hw2]; exact heap_alloc_new _ _
  have hbm : w1.heap.size ≠ m := by have := T1.ltm; omega
  have Hw2 := Lib.hid hw2.symm
  clear hw2
  go_wp2_with fail
  rw [Hw2.out]
  clear Hw2 T1 f1
  refine (open16 g m [] 5 10 0 0 2 7 _ ex_ok T2 (by simp)).mono ?_
  rintro e w3 ⟨rfl, T3, f3⟩
  have K3 := K2.fr f3 hbm
  have f3 := f2.far f3 hm
  obtain ⟨k0, k1, k2, k3, k4, k5⟩ := six K3
  rw [show mayF [] ⟨5, 10, 0, 0, 2, 7⟩ = 0 from by decide +kernel]
  rw [show openL [] ⟨5, 10, 0, 0, 2, 7⟩ = [(⟨5, 10, 0, 0, 2, 7⟩, -4611686018427387904)] from by decide +kernel] at T3
  clear T2 K2 f2
  go_wp2_with fail
  clear k0 k1 k2 k3 k4 k5
  refine (open16 g m _ 5 10 0 0 2 7 _ ex_ok T3 (by simp)).mono ?_
  rintro e w4 ⟨rfl, T4, f4⟩
  have K4 := K3.fr f4 hbm
  have f4 := f3.far f4 hm
  obtain ⟨k0, k1, k2, k3, k4, k5⟩ := six K4
  rw [show mayF [(⟨5, 10, 0, 0, 2, 7⟩, -4611686018427387904)] ⟨5, 10, 0, 0, 2, 7⟩ = 191 from by decide +kernel]
  rw [show openL [(⟨5, 10, 0, 0, 2, 7⟩, -4611686018427387904)] ⟨5, 10, 0, 0, 2, 7⟩ = [(⟨5, 10, 0, 0, 2, 7⟩, -4611686018427387904)] from by decide +kernel] at T4
  clear T3 K3 f3
  go_wp2_with fail
  clear k0 k1 k2 k3 k4 k5
  refine (close18 g m _ 5 10 0 0 2 7 5 _ ex_ok T4 (by simp) (by omega) (by omega)).mono ?_
  rintro e w5 ⟨rfl, T5, f5⟩
  have K5 := K4.fr f5 hbm
  have f5 := f4.far f5 hm
  rw [show closeF [(⟨5, 10, 0, 0, 2, 7⟩, -4611686018427387904)] ⟨5, 10, 0, 0, 2, 7⟩ = 0 from by decide +kernel]
  rw [show closeL [(⟨5, 10, 0, 0, 2, 7⟩, -4611686018427387904)] ⟨5, 10, 0, 0, 2, 7⟩ 5 = [(⟨5, 10, 0, 0, 2, 7⟩, 13)] from by decide +kernel] at T5
  clear T4 K4 f4
  go_wp2_with fail
  refine (tick20 g m _ 12 _ T5).mono ?_
  rintro e w6 ⟨rfl, T6, f6⟩
  have K6 := K5.fr f6 hbm
  have f6 := f5.far f6 hm
  obtain ⟨k0, k1, k2, k3, k4, k5⟩ := six K6
  rw [show tickL [(⟨5, 10, 0, 0, 2, 7⟩, 13)] 12 = [(⟨5, 10, 0, 0, 2, 7⟩, 13)] from by decide +kernel] at T6
  clear T5 K5 f5
  go_wp2_with fail
  clear k0 k1 k2 k3 k4 k5
  refine (may22 g m _ 5 10 0 0 2 7 _ ex_ok T6).mono ?_
  rintro e w7 ⟨rfl, f7⟩
  have T7 := T6.fr f7
  have K7 := K6.fr (f7.mono (fun _ _ e => e.elim)) hbm
  have f7 := f6.none f7
  obtain ⟨k0, k1, k2, k3, k4, k5⟩ := six K7
  rw [show mayF [(⟨5, 10, 0, 0, 2, 7⟩, 13)] ⟨5, 10, 0, 0, 2, 7⟩ = 191 from by decide +kernel]
  clear T6 K6 f6
  go_wp2_with fail
  clear k0 k1 k2 k3 k4 k5
  refine (rests24 g m _ 5 10 0 0 2 7 _ ex_ok T7).mono ?_
  rintro e w8 ⟨rfl, f8⟩
  have T8 := T7.fr f8
  have K8 := K7.fr (f8.mono (fun _ _ e => e.elim)) hbm
  have f8 := f7.none f8
  rw [show restsF [(⟨5, 10, 0, 0, 2, 7⟩, 13)] ⟨5, 10, 0, 0, 2, 7⟩ = true from by decide +kernel]
  clear T7 K7 f7
  go_wp2_with fail
  refine (tick20 g m _ 13 _ T8).mono ?_
  rintro e w9 ⟨rfl, T9, f9⟩
  have K9 := K8.fr f9 hbm
  have f9 := f8.far f9 hm
  obtain ⟨k0, k1, k2, k3, k4, k5⟩ := six K9
  rw [show tickL [(⟨5, 10, 0, 0, 2, 7⟩, 13)] 13 = [] from by decide +kernel] at T9
  clear T8 K8 f8
  go_wp2_with fail
  clear k0 k1 k2 k3 k4 k5
  refine (may22 g m _ 5 10 0 0 2 7 _ ex_ok T9).mono ?_
  rintro e w10 ⟨rfl, f10⟩
  have T10 := T9.fr f10
  have f10 := f9.none f10
  rw [show mayF [] ⟨5, 10, 0, 0, 2, 7⟩ = 0 from by decide +kernel]
  clear T9 K9 f9
  go_wp2_with fail
  refine (len26 g m _ _ T10).mono ?_
  rintro e w11 ⟨rfl, rfl⟩
  go_wp2_with fail
  go_ret
  exact ⟨rfl, f10⟩
end Go.Proofs.Ytcgghjjchfafiaa
