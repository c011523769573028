/- The walk of packhorselaw07.EtherApart. No condition. -/
import Derived.Test.YtmonaaappimphaaEtO
import Derived.Deep.MidRow
import Derived.Deep.RegionHeldLaw
namespace Go.Proofs.Ytmonaaappimphaa
set_option linter.unusedVariables false
open Go.RowKit

theorem apart_plain (f : Fh) (a b : M6) (v u : Int) (r1 r2 r3 s1 s2 s3 : Bool) (h1 : mineB f a v = r1) (h2 : mineB f b v = r2) (h3 : mineB f a u = r3) (k1 : decide (f.src = a) = s1) (k2 : decide (a = b) = s2) (k3 : decide (f.dst = allM) = s3) :
    (r1 = true → s1 = false) ∧ (s2 = false → r1 = true → r2 = true → s3 = true) ∧ (r1 = true → r3 = true → v = u ∨ v ≤ 0 ∧ u ≤ 0) := by
  subst h1 h2 h3 k1 k2 k3
  refine ⟨fun h => ?_, fun k h h' => ?_, fun h h' => ?_⟩
  · unfold mineB at h
    split at h
    · cases h
    · split at h
      · cases h
      · rename_i q; exact decide_eq_false (fun e => q (Or.inl e))
  · unfold mineB at h h'
    split at h
    · cases h
    · split at h'
      · cases h'
      · rename_i p q
        refine decide_eq_true ?_
        by_cases e : f.dst = allM
        · exact e
        · have e1 : f.dst = a := Classical.byContradiction fun n => p ⟨n, e⟩
          have e2 : f.dst = b := Classical.byContradiction fun n => q ⟨n, e⟩
          exact absurd (e1.symm.trans e2) (of_decide_eq_false k)
  · unfold mineB at h h'
    split at h
    · cases h
    · split at h
      · cases h
      · split at h' <;> simp_all
        split at h <;> split at h' <;> simp_all <;> first | omega | (cases ht : f.tag <;> simp_all <;> omega) | skip

set_option maxHeartbeats 8000000 in
set_option maxRecDepth 100000 in
theorem etherapart6 (f : Fh) (a b : M6) (v u : Int) (w : World) (hf : f.ok) (ha : a.ok) (hb : b.ok) :
    Calls Try.prog 6 #[.agg #[.int .u8 f.dst.a, .int .u8 f.dst.b, .int .u8 f.dst.c, .int .u8 f.dst.d, .int .u8 f.dst.e, .int .u8 f.dst.f, .int .u8 f.src.a, .int .u8 f.src.b, .int .u8 f.src.c, .int .u8 f.src.d, .int .u8 f.src.e, .int .u8 f.src.f, .bool f.tag, .int .i64 f.vlan, .int .i64 f.prio, .int .i64 f.ty], .agg #[.int .u8 a.a, .int .u8 a.b, .int .u8 a.c, .int .u8 a.d, .int .u8 a.e, .int .u8 a.f], .agg #[.int .u8 b.a, .int .u8 b.b, .int .u8 b.c, .int .u8 b.d, .int .u8 b.e, .int .u8 b.f], .int .i64 v, .int .i64 u] w fun e w' => e = .returned (.bool true) ∧ Fr (fun _ => False) w w' := by
  have FA := Lib.hid (Fr.refl (fun _ => False) w)
  obtain ⟨r1, h1⟩ : ∃ r, mineB f a v = r := ⟨_, rfl⟩
  obtain ⟨r2, h2⟩ : ∃ r, mineB f b v = r := ⟨_, rfl⟩
  obtain ⟨r3, h3⟩ : ∃ r, mineB f a u = r := ⟨_, rfl⟩
  obtain ⟨s1, k1⟩ : ∃ r, decide (f.src = a) = r := ⟨_, rfl⟩
  obtain ⟨s2, k2⟩ : ∃ r, decide (a = b) = r := ⟨_, rfl⟩
  obtain ⟨s3, k3⟩ : ∃ r, decide (f.dst = allM) = r := ⟨_, rfl⟩
  have e1 := fun w => eql23 hf.src ha w
  have e2 := fun w => neq23 ha hb w
  have e3 : ∀ w, (binOp .neq 23 (.agg #[.int .u8 f.dst.a, .int .u8 f.dst.b, .int .u8 f.dst.c, .int .u8 f.dst.d, .int .u8 f.dst.e, .int .u8 f.dst.f]) (.agg #[.int .u8 255, .int .u8 255, .int .u8 255, .int .u8 255, .int .u8 255, .int .u8 255])).run Try.prog w = .ok (.bool (!decide (f.dst = allM))) w := fun w => neq23 hf.dst allM_ok w
  rw [k1] at e1
  rw [k2] at e2
  rw [k3] at e3
  have PL := apart_plain f a b v u r1 r2 r3 s1 s2 s3 h1 h2 h3 k1 k2 k3
  have M1 := fun w => mine17 f a v w hf ha
  have M2 := fun w => mine17 f b v w hf hb
  have M3 := fun w => mine17 f a u w hf ha
  rw [h1] at M1
  rw [h2] at M2
  rw [h3] at M3
  have M1 := Lib.hid M1
  have M2 := Lib.hid M2
  have M3 := Lib.hid M3
  have PL := Lib.hid PL
  clear h1 h2 h3 k1 k2 k3
  go_enter Try.func6, Try.ntmps6
  go_upto_region 1 with (fail)
  obtain ⟨g0, g1, g2, hz⟩ := three_alloc w (.cells #[.int .u8 f.dst.a, .int .u8 f.dst.b, .int .u8 f.dst.c, .int .u8 f.dst.d, .int .u8 f.dst.e, .int .u8 f.dst.f, .int .u8 f.src.a, .int .u8 f.src.b, .int .u8 f.src.c, .int .u8 f.src.d, .int .u8 f.src.e, .int .u8 f.src.f, .bool f.tag, .int .i64 f.vlan, .int .i64 f.prio, .int .i64 f.ty] 25) (.cells #[.int .u8 a.a, .int .u8 a.b, .int .u8 a.c, .int .u8 a.d, .int .u8 a.e, .int .u8 a.f] 23) (.cells #[.int .u8 b.a, .int .u8 b.b, .int .u8 b.c, .int .u8 b.d, .int .u8 b.e, .int .u8 b.f] 23)
  have FB := Lib.hid (((FA.out.alloc (.cells #[.int .u8 f.dst.a, .int .u8 f.dst.b, .int .u8 f.dst.c, .int .u8 f.dst.d, .int .u8 f.dst.e, .int .u8 f.dst.f, .int .u8 f.src.a, .int .u8 f.src.b, .int .u8 f.src.c, .int .u8 f.src.d, .int .u8 f.src.e, .int .u8 f.src.f, .bool f.tag, .int .i64 f.vlan, .int .i64 f.prio, .int .i64 f.ty] 25)).alloc (.cells #[.int .u8 a.a, .int .u8 a.b, .int .u8 a.c, .int .u8 a.d, .int .u8 a.e, .int .u8 a.f] 23)).alloc (.cells #[.int .u8 b.a, .int .u8 b.b, .int .u8 b.c, .int .u8 b.d, .int .u8 b.e, .int .u8 b.f] 23))
  generalize (((w.alloc (.cells #[.int .u8 f.dst.a, .int .u8 f.dst.b, .int .u8 f.dst.c, .int .u8 f.dst.d, .int .u8 f.dst.e, .int .u8 f.dst.f, .int .u8 f.src.a, .int .u8 f.src.b, .int .u8 f.src.c, .int .u8 f.src.d, .int .u8 f.src.e, .int .u8 f.src.f, .bool f.tag, .int .i64 f.vlan, .int .i64 f.prio, .int .i64 f.ty] 25)).alloc (.cells #[.int .u8 a.a, .int .u8 a.b, .int .u8 a.c, .int .u8 a.d, .int .u8 a.e, .int .u8 a.f] 23)).alloc (.cells #[.int .u8 b.a, .int .u8 b.b, .int .u8 b.c, .int .u8 b.d, .int .u8 b.e, .int .u8 b.f] 23)) = w1 at g0 g1 g2 hz FB ⊢
  have HG := Lib.hid (And.intro g0 (And.intro g1 (And.intro g2 hz)))
  clear g0 g1 g2 hz
  go_upto_region 2 with (go_at_call 12; refine (awake12 _).mono ?_; rintro e w2 ⟨rfl, f2⟩; have F2 := Lib.hid f2; clear f2)
  have HA : ∀ w', Fr (fun _ => False) w2 w' → (w'.cell? ⟨w.heap.size, 0, none⟩ = some (.int .u8 f.dst.a) ∧ w'.cell? ⟨w.heap.size, 1, none⟩ = some (.int .u8 f.dst.b) ∧ w'.cell? ⟨w.heap.size, 2, none⟩ = some (.int .u8 f.dst.c) ∧ w'.cell? ⟨w.heap.size, 3, none⟩ = some (.int .u8 f.dst.d) ∧ w'.cell? ⟨w.heap.size, 4, none⟩ = some (.int .u8 f.dst.e) ∧ w'.cell? ⟨w.heap.size, 5, none⟩ = some (.int .u8 f.dst.f) ∧ w'.cell? ⟨w.heap.size, 6, none⟩ = some (.int .u8 f.src.a) ∧ w'.cell? ⟨w.heap.size, 7, none⟩ = some (.int .u8 f.src.b) ∧ w'.cell? ⟨w.heap.size, 8, none⟩ = some (.int .u8 f.src.c) ∧ w'.cell? ⟨w.heap.size, 9, none⟩ = some (.int .u8 f.src.d) ∧ w'.cell? ⟨w.heap.size, 10, none⟩ = some (.int .u8 f.src.e) ∧ w'.cell? ⟨w.heap.size, 11, none⟩ = some (.int .u8 f.src.f) ∧ w'.cell? ⟨w.heap.size, 12, none⟩ = some (.bool f.tag) ∧ w'.cell? ⟨w.heap.size, 13, none⟩ = some (.int .i64 f.vlan) ∧ w'.cell? ⟨w.heap.size, 14, none⟩ = some (.int .i64 f.prio) ∧ w'.cell? ⟨w.heap.size, 15, none⟩ = some (.int .i64 f.ty)) ∧ (w'.cell? ⟨w.heap.size + 1, 0, none⟩ = some (.int .u8 a.a) ∧ w'.cell? ⟨w.heap.size + 1, 1, none⟩ = some (.int .u8 a.b) ∧ w'.cell? ⟨w.heap.size + 1, 2, none⟩ = some (.int .u8 a.c) ∧ w'.cell? ⟨w.heap.size + 1, 3, none⟩ = some (.int .u8 a.d) ∧ w'.cell? ⟨w.heap.size + 1, 4, none⟩ = some (.int .u8 a.e) ∧ w'.cell? ⟨w.heap.size + 1, 5, none⟩ = some (.int .u8 a.f)) ∧ (w'.cell? ⟨w.heap.size + 1 + 1, 0, none⟩ = some (.int .u8 b.a) ∧ w'.cell? ⟨w.heap.size + 1 + 1, 1, none⟩ = some (.int .u8 b.b) ∧ w'.cell? ⟨w.heap.size + 1 + 1, 2, none⟩ = some (.int .u8 b.c) ∧ w'.cell? ⟨w.heap.size + 1 + 1, 3, none⟩ = some (.int .u8 b.d) ∧ w'.cell? ⟨w.heap.size + 1 + 1, 4, none⟩ = some (.int .u8 b.e) ∧ w'.cell? ⟨w.heap.size + 1 + 1, 5, none⟩ = some (.int .u8 b.f)) := fun w' k => by
    obtain ⟨g0, g1, g2, hz⟩ := HG.out
    have q0 := cells_at w' w.heap.size [.int .u8 f.dst.a, .int .u8 f.dst.b, .int .u8 f.dst.c, .int .u8 f.dst.d, .int .u8 f.dst.e, .int .u8 f.dst.f, .int .u8 f.src.a, .int .u8 f.src.b, .int .u8 f.src.c, .int .u8 f.src.d, .int .u8 f.src.e, .int .u8 f.src.f, .bool f.tag, .int .i64 f.vlan, .int .i64 f.prio, .int .i64 f.ty] 25 (((F2.out.then k).block _ (by omega) (fun e => e)).trans g0)
    have q1 := cells_at w' (w.heap.size + 1) [.int .u8 a.a, .int .u8 a.b, .int .u8 a.c, .int .u8 a.d, .int .u8 a.e, .int .u8 a.f] 23 (((F2.out.then k).block _ (by omega) (fun e => e)).trans g1)
    have q2 := cells_at w' (w.heap.size + 1 + 1) [.int .u8 b.a, .int .u8 b.b, .int .u8 b.c, .int .u8 b.d, .int .u8 b.e, .int .u8 b.f] 23 (((F2.out.then k).block _ (by omega) (fun e => e)).trans g2)
    exact ⟨⟨q0 0 _ rfl, q0 1 _ rfl, q0 2 _ rfl, q0 3 _ rfl, q0 4 _ rfl, q0 5 _ rfl, q0 6 _ rfl, q0 7 _ rfl, q0 8 _ rfl, q0 9 _ rfl, q0 10 _ rfl, q0 11 _ rfl, q0 12 _ rfl, q0 13 _ rfl, q0 14 _ rfl, q0 15 _ rfl⟩, ⟨q1 0 _ rfl, q1 1 _ rfl, q1 2 _ rfl, q1 3 _ rfl, q1 4 _ rfl, q1 5 _ rfl⟩, ⟨q2 0 _ rfl, q2 1 _ rfl, q2 2 _ rfl, q2 3 _ rfl, q2 4 _ rfl, q2 5 _ rfl⟩⟩
  have HL : ∀ w', Fr (fun _ => False) w2 w' → w'.rangeAt w.heap.size 0 [.int .u8 f.dst.a, .int .u8 f.dst.b, .int .u8 f.dst.c, .int .u8 f.dst.d, .int .u8 f.dst.e, .int .u8 f.dst.f, .int .u8 f.src.a, .int .u8 f.src.b, .int .u8 f.src.c, .int .u8 f.src.d, .int .u8 f.src.e, .int .u8 f.src.f, .bool f.tag, .int .i64 f.vlan, .int .i64 f.prio, .int .i64 f.ty] := fun w' k => range16 (HA w' k).1
  have HK : ∀ w', Fr (fun _ => False) w2 w' → (w'.cell? ⟨w.heap.size + 1, 0, none⟩ = some (.int .u8 a.a) ∧ w'.cell? ⟨w.heap.size + 1, 1, none⟩ = some (.int .u8 a.b) ∧ w'.cell? ⟨w.heap.size + 1, 2, none⟩ = some (.int .u8 a.c) ∧ w'.cell? ⟨w.heap.size + 1, 3, none⟩ = some (.int .u8 a.d) ∧ w'.cell? ⟨w.heap.size + 1, 4, none⟩ = some (.int .u8 a.e) ∧ w'.cell? ⟨w.heap.size + 1, 5, none⟩ = some (.int .u8 a.f)) := fun w' k => (HA w' k).2.1
  have HB : ∀ w', Fr (fun _ => False) w2 w' → (w'.cell? ⟨w.heap.size + 1 + 1, 0, none⟩ = some (.int .u8 b.a) ∧ w'.cell? ⟨w.heap.size + 1 + 1, 1, none⟩ = some (.int .u8 b.b) ∧ w'.cell? ⟨w.heap.size + 1 + 1, 2, none⟩ = some (.int .u8 b.c) ∧ w'.cell? ⟨w.heap.size + 1 + 1, 3, none⟩ = some (.int .u8 b.d) ∧ w'.cell? ⟨w.heap.size + 1 + 1, 4, none⟩ = some (.int .u8 b.e) ∧ w'.cell? ⟨w.heap.size + 1 + 1, 5, none⟩ = some (.int .u8 b.f)) := fun w' k => (HA w' k).2.2
  have HS : ∀ w', Fr (fun _ => False) w2 w' → (w'.cell? ⟨w.heap.size, 6, none⟩ = some (.int .u8 f.src.a) ∧ w'.cell? ⟨w.heap.size, 7, none⟩ = some (.int .u8 f.src.b) ∧ w'.cell? ⟨w.heap.size, 8, none⟩ = some (.int .u8 f.src.c) ∧ w'.cell? ⟨w.heap.size, 9, none⟩ = some (.int .u8 f.src.d) ∧ w'.cell? ⟨w.heap.size, 10, none⟩ = some (.int .u8 f.src.e) ∧ w'.cell? ⟨w.heap.size, 11, none⟩ = some (.int .u8 f.src.f)) := fun w' k => by
    obtain ⟨⟨x0, x1, x2, x3, x4, x5, x6, x7, x8, x9, x10, x11, x12, x13, x14, x15⟩, _⟩ := HA w' k
    exact ⟨x6, x7, x8, x9, x10, x11⟩
  have HR : ∀ w', Fr (fun _ => False) w2 w' → (w'.cell? ⟨w.heap.size, 0, none⟩ = some (.int .u8 f.dst.a) ∧ w'.cell? ⟨w.heap.size, 1, none⟩ = some (.int .u8 f.dst.b) ∧ w'.cell? ⟨w.heap.size, 2, none⟩ = some (.int .u8 f.dst.c) ∧ w'.cell? ⟨w.heap.size, 3, none⟩ = some (.int .u8 f.dst.d) ∧ w'.cell? ⟨w.heap.size, 4, none⟩ = some (.int .u8 f.dst.e) ∧ w'.cell? ⟨w.heap.size, 5, none⟩ = some (.int .u8 f.dst.f)) ∧ (w'.cell? ⟨w.heap.size + 1, 0, none⟩ = some (.int .u8 a.a) ∧ w'.cell? ⟨w.heap.size + 1, 1, none⟩ = some (.int .u8 a.b) ∧ w'.cell? ⟨w.heap.size + 1, 2, none⟩ = some (.int .u8 a.c) ∧ w'.cell? ⟨w.heap.size + 1, 3, none⟩ = some (.int .u8 a.d) ∧ w'.cell? ⟨w.heap.size + 1, 4, none⟩ = some (.int .u8 a.e) ∧ w'.cell? ⟨w.heap.size + 1, 5, none⟩ = some (.int .u8 a.f)) ∧ (w'.cell? ⟨w.heap.size + 1 + 1, 0, none⟩ = some (.int .u8 b.a) ∧ w'.cell? ⟨w.heap.size + 1 + 1, 1, none⟩ = some (.int .u8 b.b) ∧ w'.cell? ⟨w.heap.size + 1 + 1, 2, none⟩ = some (.int .u8 b.c) ∧ w'.cell? ⟨w.heap.size + 1 + 1, 3, none⟩ = some (.int .u8 b.d) ∧ w'.cell? ⟨w.heap.size + 1 + 1, 4, none⟩ = some (.int .u8 b.e) ∧ w'.cell? ⟨w.heap.size + 1 + 1, 5, none⟩ = some (.int .u8 b.f)) := fun w' k => by
    obtain ⟨⟨x0, x1, x2, x3, x4, x5, x6, x7, x8, x9, x10, x11, x12, x13, x14, x15⟩, y, z⟩ := HA w' k
    exact ⟨⟨x0, x1, x2, x3, x4, x5⟩, y, z⟩
  have HL := Lib.hid HL
  have HK := Lib.hid HK
  have HB := Lib.hid HB
  have HS := Lib.hid HS
  have HR := Lib.hid HR
  clear HA
  have E1 := Lib.hid e1
  have E2 := Lib.hid e2
  have E3 := Lib.hid e3
  clear e1 e2 e3
  have a2 := HK.out _ (Fr.refl _ w2)
  go_step
  refine wpList_load_mid rfl 25 _ rfl w.heap.size 0 rfl [.int .u8 f.dst.a, .int .u8 f.dst.b, .int .u8 f.dst.c, .int .u8 f.dst.d, .int .u8 f.dst.e, .int .u8 f.dst.f, .int .u8 f.src.a, .int .u8 f.src.b, .int .u8 f.src.c, .int .u8 f.src.d, .int .u8 f.src.e, .int .u8 f.src.f, .bool f.tag, .int .i64 f.vlan, .int .i64 f.prio, .int .i64 f.ty] _ (HL.out _ (Fr.refl _ w2)) Try.underlying25 rfl (by kernel_rfl) ?_
  go_upto_region 3 with (go_at_call 17; refine (M1.out _).mono ?_; rintro e w3 ⟨rfl, f3⟩; have F3 := Lib.hid f3; clear f3 a2)
  have a3 := HK.out _ F3.out
  cases r1
  case' true =>
    have s3c := HS.out _ F3.out
    have e1' := E1.out
    rw [PL.out.1 rfl] at e1'
  all_goals go_upto_region 5 with (fail)
  all_goals try clear s3c e1'
  all_goals clear a3
  all_goals have b3 := HB.out _ F3.out
  all_goals go_step
  all_goals refine wpList_load_mid rfl 25 _ rfl w.heap.size 0 rfl [.int .u8 f.dst.a, .int .u8 f.dst.b, .int .u8 f.dst.c, .int .u8 f.dst.d, .int .u8 f.dst.e, .int .u8 f.dst.f, .int .u8 f.src.a, .int .u8 f.src.b, .int .u8 f.src.c, .int .u8 f.src.d, .int .u8 f.src.e, .int .u8 f.src.f, .bool f.tag, .int .i64 f.vlan, .int .i64 f.prio, .int .i64 f.ty] _ (HL.out _ F3.out) Try.underlying25 rfl (by kernel_rfl) ?_
  all_goals go_upto_region 6 with (go_at_call 17; refine (M2.out _).mono ?_; rintro e w4 ⟨rfl, f4⟩; have F4 := Lib.hid (F3.out.then f4); clear f4 b3)
  all_goals have HR4 := Lib.hid (fun w' k => HR.out w' (F4.out.then k))
  all_goals have e2 := E2.out
  all_goals cases s2
  · cases r2
    · have hc0 : ∀ j, ((w4.drewN j).cell? ⟨w.heap.size, 0, none⟩ = some (.int .u8 f.dst.a) ∧ (w4.drewN j).cell? ⟨w.heap.size, 1, none⟩ = some (.int .u8 f.dst.b) ∧ (w4.drewN j).cell? ⟨w.heap.size, 2, none⟩ = some (.int .u8 f.dst.c) ∧ (w4.drewN j).cell? ⟨w.heap.size, 3, none⟩ = some (.int .u8 f.dst.d) ∧ (w4.drewN j).cell? ⟨w.heap.size, 4, none⟩ = some (.int .u8 f.dst.e) ∧ (w4.drewN j).cell? ⟨w.heap.size, 5, none⟩ = some (.int .u8 f.dst.f)) ∧ ((w4.drewN j).cell? ⟨w.heap.size + 1, 0, none⟩ = some (.int .u8 a.a) ∧ (w4.drewN j).cell? ⟨w.heap.size + 1, 1, none⟩ = some (.int .u8 a.b) ∧ (w4.drewN j).cell? ⟨w.heap.size + 1, 2, none⟩ = some (.int .u8 a.c) ∧ (w4.drewN j).cell? ⟨w.heap.size + 1, 3, none⟩ = some (.int .u8 a.d) ∧ (w4.drewN j).cell? ⟨w.heap.size + 1, 4, none⟩ = some (.int .u8 a.e) ∧ (w4.drewN j).cell? ⟨w.heap.size + 1, 5, none⟩ = some (.int .u8 a.f)) ∧ ((w4.drewN j).cell? ⟨w.heap.size + 1 + 1, 0, none⟩ = some (.int .u8 b.a) ∧ (w4.drewN j).cell? ⟨w.heap.size + 1 + 1, 1, none⟩ = some (.int .u8 b.b) ∧ (w4.drewN j).cell? ⟨w.heap.size + 1 + 1, 2, none⟩ = some (.int .u8 b.c) ∧ (w4.drewN j).cell? ⟨w.heap.size + 1 + 1, 3, none⟩ = some (.int .u8 b.d) ∧ (w4.drewN j).cell? ⟨w.heap.size + 1 + 1, 4, none⟩ = some (.int .u8 b.e) ∧ (w4.drewN j).cell? ⟨w.heap.size + 1 + 1, 5, none⟩ = some (.int .u8 b.f)) := fun j => HR4.out _ ((Fr.refl _ w4).drewN j)
      go_quiet (fail)
      clear hc0 HR4
      have F5 := Lib.hid (F4.out.drewN nq)
      generalize w4.drewN nq = w5 at F5 ⊢
      clear E1 E2 E3 M1 M2
      go_upto_region 8 with (fail)
      try clear e2
      have a5 := HK.out _ F5.out
      go_step
      refine wpList_load_mid rfl 25 _ rfl w.heap.size 0 rfl [.int .u8 f.dst.a, .int .u8 f.dst.b, .int .u8 f.dst.c, .int .u8 f.dst.d, .int .u8 f.dst.e, .int .u8 f.dst.f, .int .u8 f.src.a, .int .u8 f.src.b, .int .u8 f.src.c, .int .u8 f.src.d, .int .u8 f.src.e, .int .u8 f.src.f, .bool f.tag, .int .i64 f.vlan, .int .i64 f.prio, .int .i64 f.ty] _ (HL.out _ F5.out) Try.underlying25 rfl (by kernel_rfl) ?_
      have P3 := PL.out.2.2
      cases r3
      · go_wp2_with (first | (go_at_call 17; refine (M3.out _).mono ?_; rintro e w6 ⟨rfl, f6⟩; have F6 := Lib.hid (F5.out.then f6); clear f6 a5))
        go_ret
        exact ⟨rfl, FB.out.then (F2.out.then F6.out)⟩
      · by_cases hvu : v = u
        · subst hvu
          go_wp2_with (first | (go_at_call 17; refine (M3.out _).mono ?_; rintro e w6 ⟨rfl, f6⟩; have F6 := Lib.hid (F5.out.then f6); clear f6 a5))
          go_ret
          exact ⟨rfl, FB.out.then (F2.out.then F6.out)⟩
        · have hle : v ≤ 0 ∧ u ≤ 0 := by
            rcases P3 (by first | rfl | exact True.intro) (by first | rfl | exact True.intro) with h | h
            · exact absurd h hvu
            · exact h
          clear P3
          go_wp2_with (first | (go_at_call 17; refine (M3.out _).mono ?_; rintro e w6 ⟨rfl, f6⟩; have F6 := Lib.hid (F5.out.then f6); clear f6 a5))
          go_ret
          exact ⟨rfl, FB.out.then (F2.out.then F6.out)⟩
    · have e3 := E3.out
      rw [PL.out.2.1 (by first | rfl | exact True.intro) (by first | rfl | exact True.intro) (by first | rfl | exact True.intro)] at e3
      go_region_held_law (fun w' => (w'.cell? ⟨w.heap.size, 0, none⟩ = some (.int .u8 f.dst.a) ∧ w'.cell? ⟨w.heap.size, 1, none⟩ = some (.int .u8 f.dst.b) ∧ w'.cell? ⟨w.heap.size, 2, none⟩ = some (.int .u8 f.dst.c) ∧ w'.cell? ⟨w.heap.size, 3, none⟩ = some (.int .u8 f.dst.d) ∧ w'.cell? ⟨w.heap.size, 4, none⟩ = some (.int .u8 f.dst.e) ∧ w'.cell? ⟨w.heap.size, 5, none⟩ = some (.int .u8 f.dst.f)) ∧ (w'.cell? ⟨w.heap.size + 1, 0, none⟩ = some (.int .u8 a.a) ∧ w'.cell? ⟨w.heap.size + 1, 1, none⟩ = some (.int .u8 a.b) ∧ w'.cell? ⟨w.heap.size + 1, 2, none⟩ = some (.int .u8 a.c) ∧ w'.cell? ⟨w.heap.size + 1, 3, none⟩ = some (.int .u8 a.d) ∧ w'.cell? ⟨w.heap.size + 1, 4, none⟩ = some (.int .u8 a.e) ∧ w'.cell? ⟨w.heap.size + 1, 5, none⟩ = some (.int .u8 a.f)) ∧ (w'.cell? ⟨w.heap.size + 1 + 1, 0, none⟩ = some (.int .u8 b.a) ∧ w'.cell? ⟨w.heap.size + 1 + 1, 1, none⟩ = some (.int .u8 b.b) ∧ w'.cell? ⟨w.heap.size + 1 + 1, 2, none⟩ = some (.int .u8 b.c) ∧ w'.cell? ⟨w.heap.size + 1 + 1, 3, none⟩ = some (.int .u8 b.d) ∧ w'.cell? ⟨w.heap.size + 1 + 1, 4, none⟩ = some (.int .u8 b.e) ∧ w'.cell? ⟨w.heap.size + 1 + 1, 5, none⟩ = some (.int .u8 b.f)))
        (first | exact HR4.out _ (Fr.refl _ _) | exact HR4.out _ (Fr.refl _ _).drew | exact HR4.out _ (((Fr.refl _ _).drew).alloc _))
        (first | (go_at_call 19; go_must (refine (all19 _).mono ?_); rintro e w5 ⟨rfl, rfl⟩))
      have F5 := Lib.hid ((F4.out.alloc (.cells #[.int .u8 255, .int .u8 255, .int .u8 255, .int .u8 255, .int .u8 255, .int .u8 255] 23)).drew)
      generalize (w4.alloc (.cells #[.int .u8 255, .int .u8 255, .int .u8 255, .int .u8 255, .int .u8 255, .int .u8 255] 23)).drew = w5 at F5 ⊢
      clear E1 E2 E3 M1 M2 HR4
      go_upto_region 8 with (fail)
      try clear e2
      try clear e3
      have a5 := HK.out _ F5.out
      go_step
      refine wpList_load_mid rfl 25 _ rfl w.heap.size 0 rfl [.int .u8 f.dst.a, .int .u8 f.dst.b, .int .u8 f.dst.c, .int .u8 f.dst.d, .int .u8 f.dst.e, .int .u8 f.dst.f, .int .u8 f.src.a, .int .u8 f.src.b, .int .u8 f.src.c, .int .u8 f.src.d, .int .u8 f.src.e, .int .u8 f.src.f, .bool f.tag, .int .i64 f.vlan, .int .i64 f.prio, .int .i64 f.ty] _ (HL.out _ F5.out) Try.underlying25 rfl (by kernel_rfl) ?_
      have P3 := PL.out.2.2
      cases r3
      · go_wp2_with (first | (go_at_call 17; refine (M3.out _).mono ?_; rintro e w6 ⟨rfl, f6⟩; have F6 := Lib.hid (F5.out.then f6); clear f6 a5))
        go_ret
        exact ⟨rfl, FB.out.then (F2.out.then F6.out)⟩
      · by_cases hvu : v = u
        · subst hvu
          go_wp2_with (first | (go_at_call 17; refine (M3.out _).mono ?_; rintro e w6 ⟨rfl, f6⟩; have F6 := Lib.hid (F5.out.then f6); clear f6 a5))
          go_ret
          exact ⟨rfl, FB.out.then (F2.out.then F6.out)⟩
        · have hle : v ≤ 0 ∧ u ≤ 0 := by
            rcases P3 (by first | rfl | exact True.intro) (by first | rfl | exact True.intro) with h | h
            · exact absurd h hvu
            · exact h
          clear P3
          go_wp2_with (first | (go_at_call 17; refine (M3.out _).mono ?_; rintro e w6 ⟨rfl, f6⟩; have F6 := Lib.hid (F5.out.then f6); clear f6 a5))
          go_ret
          exact ⟨rfl, FB.out.then (F2.out.then F6.out)⟩
  · have hc0 : ∀ j, ((w4.drewN j).cell? ⟨w.heap.size, 0, none⟩ = some (.int .u8 f.dst.a) ∧ (w4.drewN j).cell? ⟨w.heap.size, 1, none⟩ = some (.int .u8 f.dst.b) ∧ (w4.drewN j).cell? ⟨w.heap.size, 2, none⟩ = some (.int .u8 f.dst.c) ∧ (w4.drewN j).cell? ⟨w.heap.size, 3, none⟩ = some (.int .u8 f.dst.d) ∧ (w4.drewN j).cell? ⟨w.heap.size, 4, none⟩ = some (.int .u8 f.dst.e) ∧ (w4.drewN j).cell? ⟨w.heap.size, 5, none⟩ = some (.int .u8 f.dst.f)) ∧ ((w4.drewN j).cell? ⟨w.heap.size + 1, 0, none⟩ = some (.int .u8 a.a) ∧ (w4.drewN j).cell? ⟨w.heap.size + 1, 1, none⟩ = some (.int .u8 a.b) ∧ (w4.drewN j).cell? ⟨w.heap.size + 1, 2, none⟩ = some (.int .u8 a.c) ∧ (w4.drewN j).cell? ⟨w.heap.size + 1, 3, none⟩ = some (.int .u8 a.d) ∧ (w4.drewN j).cell? ⟨w.heap.size + 1, 4, none⟩ = some (.int .u8 a.e) ∧ (w4.drewN j).cell? ⟨w.heap.size + 1, 5, none⟩ = some (.int .u8 a.f)) ∧ ((w4.drewN j).cell? ⟨w.heap.size + 1 + 1, 0, none⟩ = some (.int .u8 b.a) ∧ (w4.drewN j).cell? ⟨w.heap.size + 1 + 1, 1, none⟩ = some (.int .u8 b.b) ∧ (w4.drewN j).cell? ⟨w.heap.size + 1 + 1, 2, none⟩ = some (.int .u8 b.c) ∧ (w4.drewN j).cell? ⟨w.heap.size + 1 + 1, 3, none⟩ = some (.int .u8 b.d) ∧ (w4.drewN j).cell? ⟨w.heap.size + 1 + 1, 4, none⟩ = some (.int .u8 b.e) ∧ (w4.drewN j).cell? ⟨w.heap.size + 1 + 1, 5, none⟩ = some (.int .u8 b.f)) := fun j => HR4.out _ ((Fr.refl _ w4).drewN j)
    go_quiet (fail)
    clear hc0 HR4
    have F5 := Lib.hid (F4.out.drewN nq)
    generalize w4.drewN nq = w5 at F5 ⊢
    clear E1 E2 E3 M1 M2
    go_upto_region 8 with (fail)
    try clear e2
    have a5 := HK.out _ F5.out
    go_step
    refine wpList_load_mid rfl 25 _ rfl w.heap.size 0 rfl [.int .u8 f.dst.a, .int .u8 f.dst.b, .int .u8 f.dst.c, .int .u8 f.dst.d, .int .u8 f.dst.e, .int .u8 f.dst.f, .int .u8 f.src.a, .int .u8 f.src.b, .int .u8 f.src.c, .int .u8 f.src.d, .int .u8 f.src.e, .int .u8 f.src.f, .bool f.tag, .int .i64 f.vlan, .int .i64 f.prio, .int .i64 f.ty] _ (HL.out _ F5.out) Try.underlying25 rfl (by kernel_rfl) ?_
    have P3 := PL.out.2.2
    cases r3
    · go_wp2_with (first | (go_at_call 17; refine (M3.out _).mono ?_; rintro e w6 ⟨rfl, f6⟩; have F6 := Lib.hid (F5.out.then f6); clear f6 a5))
      go_ret
      exact ⟨rfl, FB.out.then (F2.out.then F6.out)⟩
    · by_cases hvu : v = u
      · subst hvu
        go_wp2_with (first | (go_at_call 17; refine (M3.out _).mono ?_; rintro e w6 ⟨rfl, f6⟩; have F6 := Lib.hid (F5.out.then f6); clear f6 a5))
        go_ret
        exact ⟨rfl, FB.out.then (F2.out.then F6.out)⟩
      · have hle : v ≤ 0 ∧ u ≤ 0 := by
          rcases P3 (by first | rfl | exact True.intro) (by first | rfl | exact True.intro) with h | h
          · exact absurd h hvu
          · exact h
        clear P3
        go_wp2_with (first | (go_at_call 17; refine (M3.out _).mono ?_; rintro e w6 ⟨rfl, f6⟩; have F6 := Lib.hid (F5.out.then f6); clear f6 a5))
        go_ret
        exact ⟨rfl, FB.out.then (F2.out.then F6.out)⟩
  · have hc0 : ∀ j, ((w4.drewN j).cell? ⟨w.heap.size, 0, none⟩ = some (.int .u8 f.dst.a) ∧ (w4.drewN j).cell? ⟨w.heap.size, 1, none⟩ = some (.int .u8 f.dst.b) ∧ (w4.drewN j).cell? ⟨w.heap.size, 2, none⟩ = some (.int .u8 f.dst.c) ∧ (w4.drewN j).cell? ⟨w.heap.size, 3, none⟩ = some (.int .u8 f.dst.d) ∧ (w4.drewN j).cell? ⟨w.heap.size, 4, none⟩ = some (.int .u8 f.dst.e) ∧ (w4.drewN j).cell? ⟨w.heap.size, 5, none⟩ = some (.int .u8 f.dst.f)) ∧ ((w4.drewN j).cell? ⟨w.heap.size + 1, 0, none⟩ = some (.int .u8 a.a) ∧ (w4.drewN j).cell? ⟨w.heap.size + 1, 1, none⟩ = some (.int .u8 a.b) ∧ (w4.drewN j).cell? ⟨w.heap.size + 1, 2, none⟩ = some (.int .u8 a.c) ∧ (w4.drewN j).cell? ⟨w.heap.size + 1, 3, none⟩ = some (.int .u8 a.d) ∧ (w4.drewN j).cell? ⟨w.heap.size + 1, 4, none⟩ = some (.int .u8 a.e) ∧ (w4.drewN j).cell? ⟨w.heap.size + 1, 5, none⟩ = some (.int .u8 a.f)) ∧ ((w4.drewN j).cell? ⟨w.heap.size + 1 + 1, 0, none⟩ = some (.int .u8 b.a) ∧ (w4.drewN j).cell? ⟨w.heap.size + 1 + 1, 1, none⟩ = some (.int .u8 b.b) ∧ (w4.drewN j).cell? ⟨w.heap.size + 1 + 1, 2, none⟩ = some (.int .u8 b.c) ∧ (w4.drewN j).cell? ⟨w.heap.size + 1 + 1, 3, none⟩ = some (.int .u8 b.d) ∧ (w4.drewN j).cell? ⟨w.heap.size + 1 + 1, 4, none⟩ = some (.int .u8 b.e) ∧ (w4.drewN j).cell? ⟨w.heap.size + 1 + 1, 5, none⟩ = some (.int .u8 b.f)) := fun j => HR4.out _ ((Fr.refl _ w4).drewN j)
    go_quiet (fail)
    clear hc0 HR4
    have F5 := Lib.hid (F4.out.drewN nq)
    generalize w4.drewN nq = w5 at F5 ⊢
    clear E1 E2 E3 M1 M2
    go_upto_region 8 with (fail)
    try clear e2
    have a5 := HK.out _ F5.out
    go_step
    refine wpList_load_mid rfl 25 _ rfl w.heap.size 0 rfl [.int .u8 f.dst.a, .int .u8 f.dst.b, .int .u8 f.dst.c, .int .u8 f.dst.d, .int .u8 f.dst.e, .int .u8 f.dst.f, .int .u8 f.src.a, .int .u8 f.src.b, .int .u8 f.src.c, .int .u8 f.src.d, .int .u8 f.src.e, .int .u8 f.src.f, .bool f.tag, .int .i64 f.vlan, .int .i64 f.prio, .int .i64 f.ty] _ (HL.out _ F5.out) Try.underlying25 rfl (by kernel_rfl) ?_
    all_goals cases r3
    all_goals go_wp2_with (first | (go_at_call 17; refine (M3.out _).mono ?_; rintro e w6 ⟨rfl, f6⟩; have F6 := Lib.hid (F5.out.then f6); clear f6 a5))
    all_goals go_ret
    all_goals exact ⟨rfl, FB.out.then (F2.out.then F6.out)⟩
  · have hc0 : ∀ j, ((w4.drewN j).cell? ⟨w.heap.size, 0, none⟩ = some (.int .u8 f.dst.a) ∧ (w4.drewN j).cell? ⟨w.heap.size, 1, none⟩ = some (.int .u8 f.dst.b) ∧ (w4.drewN j).cell? ⟨w.heap.size, 2, none⟩ = some (.int .u8 f.dst.c) ∧ (w4.drewN j).cell? ⟨w.heap.size, 3, none⟩ = some (.int .u8 f.dst.d) ∧ (w4.drewN j).cell? ⟨w.heap.size, 4, none⟩ = some (.int .u8 f.dst.e) ∧ (w4.drewN j).cell? ⟨w.heap.size, 5, none⟩ = some (.int .u8 f.dst.f)) ∧ ((w4.drewN j).cell? ⟨w.heap.size + 1, 0, none⟩ = some (.int .u8 a.a) ∧ (w4.drewN j).cell? ⟨w.heap.size + 1, 1, none⟩ = some (.int .u8 a.b) ∧ (w4.drewN j).cell? ⟨w.heap.size + 1, 2, none⟩ = some (.int .u8 a.c) ∧ (w4.drewN j).cell? ⟨w.heap.size + 1, 3, none⟩ = some (.int .u8 a.d) ∧ (w4.drewN j).cell? ⟨w.heap.size + 1, 4, none⟩ = some (.int .u8 a.e) ∧ (w4.drewN j).cell? ⟨w.heap.size + 1, 5, none⟩ = some (.int .u8 a.f)) ∧ ((w4.drewN j).cell? ⟨w.heap.size + 1 + 1, 0, none⟩ = some (.int .u8 b.a) ∧ (w4.drewN j).cell? ⟨w.heap.size + 1 + 1, 1, none⟩ = some (.int .u8 b.b) ∧ (w4.drewN j).cell? ⟨w.heap.size + 1 + 1, 2, none⟩ = some (.int .u8 b.c) ∧ (w4.drewN j).cell? ⟨w.heap.size + 1 + 1, 3, none⟩ = some (.int .u8 b.d) ∧ (w4.drewN j).cell? ⟨w.heap.size + 1 + 1, 4, none⟩ = some (.int .u8 b.e) ∧ (w4.drewN j).cell? ⟨w.heap.size + 1 + 1, 5, none⟩ = some (.int .u8 b.f)) := fun j => HR4.out _ ((Fr.refl _ w4).drewN j)
    go_quiet (fail)
    clear hc0 HR4
    have F5 := Lib.hid (F4.out.drewN nq)
    generalize w4.drewN nq = w5 at F5 ⊢
    clear E1 E2 E3 M1 M2
    go_upto_region 8 with (fail)
    try clear e2
    have a5 := HK.out _ F5.out
    go_step
    refine wpList_load_mid rfl 25 _ rfl w.heap.size 0 rfl [.int .u8 f.dst.a, .int .u8 f.dst.b, .int .u8 f.dst.c, .int .u8 f.dst.d, .int .u8 f.dst.e, .int .u8 f.dst.f, .int .u8 f.src.a, .int .u8 f.src.b, .int .u8 f.src.c, .int .u8 f.src.d, .int .u8 f.src.e, .int .u8 f.src.f, .bool f.tag, .int .i64 f.vlan, .int .i64 f.prio, .int .i64 f.ty] _ (HL.out _ F5.out) Try.underlying25 rfl (by kernel_rfl) ?_
    all_goals cases r3
    all_goals go_wp2_with (first | (go_at_call 17; refine (M3.out _).mono ?_; rintro e w6 ⟨rfl, f6⟩; have F6 := Lib.hid (F5.out.then f6); clear f6 a5))
    all_goals go_ret
    all_goals exact ⟨rfl, FB.out.then (F2.out.then F6.out)⟩
end Go.Proofs.Ytmonaaappimphaa

