/- Buckets of package icmp, at the chapter's example. No condition. -/
import Derived.Test.YtcfadmjihccimaaIcC
import Derived.BigQuiet
namespace Go.Proofs.Ytcfadmjihccimaa
set_option linter.unusedVariables false
open Go.RowKit

set_option maxHeartbeats 2000000 in
theorem newBucket37 (n : Int) (w : World) : Calls Try.prog 37 #[.int .i64 n] w fun e w' => e = .returned (.pointer (some ⟨w.heap.size, 0, none⟩)) ∧ w' = w.alloc (.cells #[.int .i64 4, .int .i64 n, .int .i64 n] 123) := by
  go_enter Try.func37, Try.ntmps37
  go_wp2_with fail
  go_ret
  exact ⟨rfl, rfl⟩
def bk (k : Int) : Obj := .cells #[.int .i64 k, .int .i64 0, .int .i64 0] 123
set_option maxHeartbeats 8000000 in
set_option maxRecDepth 100000 in
theorem left39c (g : Nat) (k : Int) (w : World) (hk : k = 3 ∨ k = 4) (h : w.heap[g]? = some (bk k)) :
    Calls Try.prog 39 #[.pointer (some ⟨g, 0, none⟩), .int .i64 0] w fun e w' => e = .returned (.int .i64 k) ∧ w'.heap[g]? = some (bk k) ∧ Fr (fun i => i = g) w w' := by
  unfold bk at h
  have H := Lib.hid h
  have c2 := cells_at w g [.int .i64 k, .int .i64 0, .int .i64 0] 123 h 2 _ rfl
  have z2 := frozen_of_row w g 2 _ 123 h
  clear h
  go_enter Try.func39, Try.ntmps39
  go_upto_region 2 with (fail)
  clear c2 z2
  have h1 : (w.setCell ⟨g, 2, none⟩ (.int .i64 0)).heap[g]? = some (.cells #[.int .i64 k, .int .i64 0, .int .i64 0] 123) := by rw [heap_setCell_same w g 2 _ 123 _ H.out]; rfl
  have f1 : Fr (fun i => i = g) w (w.setCell ⟨g, 2, none⟩ (.int .i64 0)) := (Fr.refl (fun i => i = g) w).setCell _ _ (fun _ => rfl)
  generalize w.setCell ⟨g, 2, none⟩ (.int .i64 0) = w1 at h1 f1 ⊢
  have F1 := Lib.hid f1
  have H1 := Lib.hid h1
  have c0 : ∀ j, (w1.drewN j).cell? ⟨g, 0, none⟩ = some (.int .i64 k) := fun j => cells_at (w1.drewN j) g [.int .i64 k, .int .i64 0, .int .i64 0] 123 h1 0 _ rfl
  have c1 : ∀ j, (w1.drewN j).cell? ⟨g, 1, none⟩ = some (.int .i64 0) := fun j => cells_at (w1.drewN j) g [.int .i64 k, .int .i64 0, .int .i64 0] 123 h1 1 _ rfl
  have c2 : ∀ j, (w1.drewN j).cell? ⟨g, 2, none⟩ = some (.int .i64 0) := fun j => cells_at (w1.drewN j) g [.int .i64 k, .int .i64 0, .int .i64 0] 123 h1 2 _ rfl
  clear f1 h1
  rcases hk with rfl | rfl
  all_goals go_quiet (fail)
  all_goals clear c0 c1 c2
  all_goals have F2 := Lib.hid (F1.out.drewN nq)
  all_goals have H2 := Lib.hid (show (w1.drewN nq).heap[g]? = _ from H1.out)
  all_goals generalize w1.drewN nq = w2 at F2 H2 ⊢
  all_goals have d0 := cells_at w2 g [.int .i64 _, .int .i64 0, .int .i64 0] 123 H2.out 0 _ rfl
  all_goals have d1 := cells_at w2 g [.int .i64 _, .int .i64 0, .int .i64 0] 123 H2.out 1 _ rfl
  all_goals have d2 := cells_at w2 g [.int .i64 _, .int .i64 0, .int .i64 0] 123 H2.out 2 _ rfl
  all_goals have z0 := frozen_of_row w2 g 0 _ 123 H2.out
  all_goals have z1 := frozen_of_row w2 g 1 _ 123 H2.out
  all_goals go_wp2_with fail
  all_goals go_ret
  · refine ⟨rfl, ?_, (F2.out.setCell _ _ (fun _ => rfl)).setCell _ _ (fun _ => rfl)⟩
    rw [heap_setCell_same _ g 1 _ 123 _ (heap_setCell_same w2 g 0 _ 123 _ H2.out)]; rfl
  · refine ⟨rfl, ?_, ((F2.out.setCell _ _ (fun _ => rfl)).setCell _ _ (fun _ => rfl)).setCell _ _ (fun _ => rfl)⟩
    rw [heap_setCell_same _ g 1 _ 123 _ (heap_setCell_same _ g 1 _ 123 _ (heap_setCell_same w2 g 0 _ 123 _ H2.out))]; rfl

set_option maxHeartbeats 4000000 in
set_option maxRecDepth 100000 in
theorem take38c (g : Nat) (w : World) (h : w.heap[g]? = some (bk 4)) :
    Calls Try.prog 38 #[.pointer (some ⟨g, 0, none⟩), .int .i64 0] w fun e w' => e = .returned (.int .i64 0) ∧ w'.heap[g]? = some (bk 3) ∧ Fr (fun i => i = g) w w' := by
  have H := Lib.hid h
  clear h
  go_enter Try.func38, Try.ntmps38
  go_upto_region 3 with (go_at_call 39; refine (left39c g 4 w (.inr rfl) H.out).mono ?_; rintro e w2 ⟨rfl, h2, f2⟩; have H2 := Lib.hid h2; have F2 := Lib.hid f2; clear h2 f2)
  have d0 := cells_at w2 g [.int .i64 4, .int .i64 0, .int .i64 0] 123 H2.out 0 _ rfl
  have z0 := frozen_of_row w2 g 0 _ 123 H2.out
  go_wp2_with fail
  go_ret
  refine ⟨rfl, ?_, F2.out.setCell _ _ (fun _ => rfl)⟩
  rw [heap_setCell_same w2 g 0 _ 123 _ H2.out]; rfl
end Go.Proofs.Ytcfadmjihccimaa
