/- The walk of packhorselaw07.EtherMine. No condition. -/
import Derived.Test.YtmonaaappimphaaEtO
namespace Go.Proofs.Ytmonaaappimphaa
set_option linter.unusedVariables false
open Go.RowKit

set_option maxHeartbeats 8000000 in
set_option maxRecDepth 100000 in
theorem ethermine4 (f : Fh) (m : M6) (v : Int) (w : World) (hf : f.ok) (hm : m.ok) :
    Calls Try.prog 4 #[.agg #[.int .u8 f.dst.a, .int .u8 f.dst.b, .int .u8 f.dst.c, .int .u8 f.dst.d, .int .u8 f.dst.e, .int .u8 f.dst.f, .int .u8 f.src.a, .int .u8 f.src.b, .int .u8 f.src.c, .int .u8 f.src.d, .int .u8 f.src.e, .int .u8 f.src.f, .bool f.tag, .int .i64 f.vlan, .int .i64 f.prio, .int .i64 f.ty], .agg #[.int .u8 m.a, .int .u8 m.b, .int .u8 m.c, .int .u8 m.d, .int .u8 m.e, .int .u8 m.f], .int .i64 v] w fun e w' => e = .returned (.bool true) ∧ Fr (fun _ => False) w w' := by
  have FA := Lib.hid (Fr.refl (fun _ => False) w)
  obtain ⟨r, hr⟩ : ∃ r, mineB f m v = r := ⟨_, rfl⟩
  have HR := Lib.hid hr
  clear hr
  have hrr : (r == r) = true := by cases r <;> rfl
  go_enter Try.func4, Try.ntmps4
  go_upto_region 1 with (fail)
  have HS := Lib.hid (show Fm w.heap.size (w.heap.size + 1) f m ((w.alloc (.cells #[.int .u8 f.dst.a, .int .u8 f.dst.b, .int .u8 f.dst.c, .int .u8 f.dst.d, .int .u8 f.dst.e, .int .u8 f.dst.f, .int .u8 f.src.a, .int .u8 f.src.b, .int .u8 f.src.c, .int .u8 f.src.d, .int .u8 f.src.e, .int .u8 f.src.f, .bool f.tag, .int .i64 f.vlan, .int .i64 f.prio, .int .i64 f.ty] 25)).alloc (.cells #[.int .u8 m.a, .int .u8 m.b, .int .u8 m.c, .int .u8 m.d, .int .u8 m.e, .int .u8 m.f] 23)) from fm_of (two_alloc _ _ _).1 (two_alloc _ _ _).2.1)
  have FB := Lib.hid ((FA.out.alloc (.cells #[.int .u8 f.dst.a, .int .u8 f.dst.b, .int .u8 f.dst.c, .int .u8 f.dst.d, .int .u8 f.dst.e, .int .u8 f.dst.f, .int .u8 f.src.a, .int .u8 f.src.b, .int .u8 f.src.c, .int .u8 f.src.d, .int .u8 f.src.e, .int .u8 f.src.f, .bool f.tag, .int .i64 f.vlan, .int .i64 f.prio, .int .i64 f.ty] 25)).alloc (.cells #[.int .u8 m.a, .int .u8 m.b, .int .u8 m.c, .int .u8 m.d, .int .u8 m.e, .int .u8 m.f] 23))
  have hz : (((w.alloc (.cells #[.int .u8 f.dst.a, .int .u8 f.dst.b, .int .u8 f.dst.c, .int .u8 f.dst.d, .int .u8 f.dst.e, .int .u8 f.dst.f, .int .u8 f.src.a, .int .u8 f.src.b, .int .u8 f.src.c, .int .u8 f.src.d, .int .u8 f.src.e, .int .u8 f.src.f, .bool f.tag, .int .i64 f.vlan, .int .i64 f.prio, .int .i64 f.ty] 25)).alloc (.cells #[.int .u8 m.a, .int .u8 m.b, .int .u8 m.c, .int .u8 m.d, .int .u8 m.e, .int .u8 m.f] 23))).heap.size = w.heap.size + 2 := by simp
  generalize ((w.alloc (.cells #[.int .u8 f.dst.a, .int .u8 f.dst.b, .int .u8 f.dst.c, .int .u8 f.dst.d, .int .u8 f.dst.e, .int .u8 f.dst.f, .int .u8 f.src.a, .int .u8 f.src.b, .int .u8 f.src.c, .int .u8 f.src.d, .int .u8 f.src.e, .int .u8 f.src.f, .bool f.tag, .int .i64 f.vlan, .int .i64 f.prio, .int .i64 f.ty] 25)).alloc (.cells #[.int .u8 m.a, .int .u8 m.b, .int .u8 m.c, .int .u8 m.d, .int .u8 m.e, .int .u8 m.f] 23)) = w1 at HS FB hz ⊢
  go_upto_region 2 with (go_at_call 12; refine (awake12 _).mono ?_; rintro e w2 ⟨rfl, f2⟩; have F2 := Lib.hid f2; clear f2)
  have HA : ∀ w', Fr (fun _ => False) w2 w' → Fm w.heap.size (w.heap.size + 1) f m w' := fun w' k => HS.out.fr (F2.out.then k) (by omega) (by omega)
  have HA := Lib.hid HA
  have R1 := Lib.hid (Fr.refl (fun _ => False) w2).drew
  clear hz
  have T1 := Lib.hid True.intro
  have T2 := Lib.hid True.intro
  go_region_held_law (fun w' => (w'.cell? ⟨w.heap.size, 0, none⟩ = some (.int .u8 f.dst.a) ∧ w'.cell? ⟨w.heap.size, 1, none⟩ = some (.int .u8 f.dst.b) ∧ w'.cell? ⟨w.heap.size, 2, none⟩ = some (.int .u8 f.dst.c) ∧ w'.cell? ⟨w.heap.size, 3, none⟩ = some (.int .u8 f.dst.d) ∧ w'.cell? ⟨w.heap.size, 4, none⟩ = some (.int .u8 f.dst.e) ∧ w'.cell? ⟨w.heap.size, 5, none⟩ = some (.int .u8 f.dst.f) ∧ w'.cell? ⟨w.heap.size, 6, none⟩ = some (.int .u8 f.src.a) ∧ w'.cell? ⟨w.heap.size, 7, none⟩ = some (.int .u8 f.src.b) ∧ w'.cell? ⟨w.heap.size, 8, none⟩ = some (.int .u8 f.src.c) ∧ w'.cell? ⟨w.heap.size, 9, none⟩ = some (.int .u8 f.src.d) ∧ w'.cell? ⟨w.heap.size, 10, none⟩ = some (.int .u8 f.src.e) ∧ w'.cell? ⟨w.heap.size, 11, none⟩ = some (.int .u8 f.src.f) ∧ w'.cell? ⟨w.heap.size, 12, none⟩ = some (.bool f.tag) ∧ w'.cell? ⟨w.heap.size, 13, none⟩ = some (.int .i64 f.vlan) ∧ w'.cell? ⟨w.heap.size, 14, none⟩ = some (.int .i64 f.prio) ∧ w'.cell? ⟨w.heap.size, 15, none⟩ = some (.int .i64 f.ty)) ∧ w'.cell? ⟨(w.heap.size + 1), 0, none⟩ = some (.int .u8 m.a) ∧ w'.cell? ⟨(w.heap.size + 1), 1, none⟩ = some (.int .u8 m.b) ∧ w'.cell? ⟨(w.heap.size + 1), 2, none⟩ = some (.int .u8 m.c) ∧ w'.cell? ⟨(w.heap.size + 1), 3, none⟩ = some (.int .u8 m.d) ∧ w'.cell? ⟨(w.heap.size + 1), 4, none⟩ = some (.int .u8 m.e) ∧ w'.cell? ⟨(w.heap.size + 1), 5, none⟩ = some (.int .u8 m.f))
    (first | exact HA.out _ (Fr.refl _ _) | exact HA.out _ R1.out | exact HA.out _ (by assumption))
    (first
      | (have TK := T1.out; go_at_call 17; refine (mine17 f m v _ hf hm).mono ?_; rw [HR.out]; rintro e w3 ⟨rfl, f3⟩; have G3 := R1.out.then f3; clear T1 TK)
      | (have TK := T2.out; go_at_call 18; refine (rmine18 f m v _ hf hm).mono ?_; rw [HR.out]; rintro e w4 ⟨rfl, f4⟩; have G4 := G3.then f4; clear T2 TK)
      | (have TK := T2.out; go_at_call 18; refine (rmine18 f m v _ hf hm).mono ?_; rw [HR.out]; rintro e w3 ⟨rfl, f3⟩; have G3 := R1.out.then f3; clear T2 TK)
      | (have TK := T1.out; go_at_call 17; refine (mine17 f m v _ hf hm).mono ?_; rw [HR.out]; rintro e w4 ⟨rfl, f4⟩; have G4 := G3.then f4; clear T1 TK))
  all_goals go_wp2_with fail
  all_goals go_ret
  all_goals exact ⟨rfl, FB.out.then (F2.out.then G4)⟩
end Go.Proofs.Ytmonaaappimphaa
