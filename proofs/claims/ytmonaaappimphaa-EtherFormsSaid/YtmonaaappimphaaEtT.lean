/- ether.Decode, whole (from 60 bytes on): tagged or not, too long, not to be let through. No condition but lengths. -/
import Derived.Test.YtmonaaappimphaaEtI
import Derived.Deep.MidRow
namespace Go.Proofs.Ytmonaaappimphaa
set_option linter.unusedVariables false
open Go.RowKit

theorem results_cell15 (tmps : Array Value) (w : World) (b : Nat) (cs : List Value) (hp : tmps.getD 2 undef = .pointer (some ⟨b, 0, none⟩)) (hl : (loadVar 25 ⟨b, 0, none⟩).run Try.prog w = .ok (.agg cs.toArray) w) :
    (results Try.f15 tmps).run Try.prog w = .ok (.tuple #[.agg cs.toArray, tmps.getD 3 undef, tmps.getD 4 undef]) w := by
  have ha : (asAddr (.pointer (some ⟨b, 0, none⟩))).run Try.prog w = .ok ⟨b, 0, none⟩ w := by rfl
  rw [Array.getD_eq_getD_getElem?] at *
  simp [results, Try.results15, hp, hl, ha, Sem.run_bind]

set_option maxHeartbeats 8000000 in
set_option maxRecDepth 100000 in
theorem decode15_all (bb off nb c : Nat) (b : List Int) (x : Nat → Int) (tg : Bool) (t : Nat) (mo : Int) (g : Fh) (w : World) (hn : 60 ≤ nb) (hc : nb ≤ c) (P : Pc w (some ⟨bb, off, none⟩) nb b) (hxb : ∀ i, i < 18 → b[i]? = some (x i))
    (htg : (x 12 * 256 + x 13 == 33024) = tg) (ht : t = cond tg 16 12) (hmo : mo = cond tg 274 270)
    (hg : g = ⟨⟨x 0, x 1, x 2, x 3, x 4, x 5⟩, ⟨x 6, x 7, x 8, x 9, x 10, x 11⟩, tg, cond tg ((x 14 * 256 + x 15) % 4096) 0, cond tg (cond ((x 14 * 256 + x 15) / 4096 % 2 == 1) (-1) ((x 14 * 256 + x 15) / 8192)) 0, x t * 256 + x (t + 1)⟩) :
    Calls Try.prog 15 #[.slice (some ⟨bb, off, none⟩) nb c] w fun e w' => Fr (fun _ => False) w w' ∧ (mo < nb → e = .returned (.tuple #[.agg #[.int .u8 0, .int .u8 0, .int .u8 0, .int .u8 0, .int .u8 0, .int .u8 0, .int .u8 0, .int .u8 0, .int .u8 0, .int .u8 0, .int .u8 0, .int .u8 0, .bool false, .int .i64 0, .int .i64 0, .int .i64 0], .slice none 0 0, .int .i64 2])) ∧ (¬ mo < nb → g.may = false → e = .returned (.tuple #[.agg #[.int .u8 0, .int .u8 0, .int .u8 0, .int .u8 0, .int .u8 0, .int .u8 0, .int .u8 0, .int .u8 0, .int .u8 0, .int .u8 0, .int .u8 0, .int .u8 0, .bool false, .int .i64 0, .int .i64 0, .int .i64 0], .slice none 0 0, .int .i64 4])) ∧ (¬ mo < nb → g.may = true → ∃ v, e = .returned (.tuple #[.agg #[.int .u8 g.dst.a, .int .u8 g.dst.b, .int .u8 g.dst.c, .int .u8 g.dst.d, .int .u8 g.dst.e, .int .u8 g.dst.f, .int .u8 g.src.a, .int .u8 g.src.b, .int .u8 g.src.c, .int .u8 g.src.d, .int .u8 g.src.e, .int .u8 g.src.f, .bool g.tag, .int .i64 g.vlan, .int .i64 g.prio, .int .i64 g.ty], v, .int .i64 0]) ∧ OwnB w.heap.size w' v (b.drop (t + 2))) := by
  have hx : ∀ i, i < 18 → w.cell? ⟨bb, off + i, none⟩ = some (.int .u8 (x i)) ∧ 0 ≤ x i ∧ x i < 256 := fun i hi => by
    obtain ⟨b', o', e, _, hcell⟩ := P.here (by rw [P.len]; omega)
    cases e
    have := P.ok _ (List.mem_of_getElem? (hxb i hi))
    exact ⟨hcell i _ (hxb i hi), by omega, by omega⟩
  have HP := Lib.hid P
  have HT12 := Lib.hid (show t = 12 ∨ t = 16 by cases tg <;> simp_all)
  have HMO := Lib.hid (show mo = 270 ∨ mo = 274 by cases tg <;> simp_all)
  have HTG := Lib.hid htg
  have HTT := Lib.hid ht
  have HMM := Lib.hid hmo
  have HGG := Lib.hid hg
  clear P hxb htg ht hmo hg
  have hb : bb < w.heap.size := block_lt_of_cell (hx 0 (by omega)).1
  have F0 := Lib.hid ((Fr.refl (fun _ => False) w).alloc (.cells #[.int .u8 0, .int .u8 0, .int .u8 0, .int .u8 0, .int .u8 0, .int .u8 0, .int .u8 0, .int .u8 0, .int .u8 0, .int .u8 0, .int .u8 0, .int .u8 0, .bool false, .int .i64 0, .int .i64 0, .int .i64 0] 25))
  have HX := Lib.hid hx
  clear hx
  have hat0 : ∀ w, (Instr.arrayAt 23 (.slice (some ⟨bb, off, none⟩) nb c)).run Try.prog w = .ok (.pointer (some ⟨bb, off, none⟩)) w := fun w => run_arrayAt w 23 _ 6 _ nb c Try.underlying23 (by omega)
  have hat6 : ∀ w, (Instr.arrayAt 23 (.slice (some ⟨bb, off + 6, none⟩) (nb - 6) (c - 6))).run Try.prog w = .ok (.pointer (some ⟨bb, off + 6, none⟩)) w := fun w => run_arrayAt w 23 _ 6 _ (nb - 6) (c - 6) Try.underlying23 (by omega)
  go_enter Try.func15, Try.ntmps15
  go_upto_region 3 with (fail)
  have HR := Lib.hid (heap_alloc_new w (.cells #[.int .u8 0, .int .u8 0, .int .u8 0, .int .u8 0, .int .u8 0, .int .u8 0, .int .u8 0, .int .u8 0, .int .u8 0, .int .u8 0, .int .u8 0, .int .u8 0, .bool false, .int .i64 0, .int .i64 0, .int .i64 0] 25))
  have hz : (w.alloc (.cells #[.int .u8 0, .int .u8 0, .int .u8 0, .int .u8 0, .int .u8 0, .int .u8 0, .int .u8 0, .int .u8 0, .int .u8 0, .int .u8 0, .int .u8 0, .int .u8 0, .bool false, .int .i64 0, .int .i64 0, .int .i64 0] 25)).heap.size = w.heap.size + 1 := by simp
  generalize (w.alloc (.cells #[.int .u8 0, .int .u8 0, .int .u8 0, .int .u8 0, .int .u8 0, .int .u8 0, .int .u8 0, .int .u8 0, .int .u8 0, .int .u8 0, .int .u8 0, .int .u8 0, .bool false, .int .i64 0, .int .i64 0, .int .i64 0] 25)) = w1 at F0 HR hz ⊢
  have hcx : ∀ i, i < 18 → w1.cell? ⟨bb, off + i, none⟩ = some (.int .u8 (x i)) := fun i hi => (World.cell?_of_block (F0.out.block bb hb (fun e => e))).trans (HX.out i hi).1
  have hcx2 : w1.cell? ⟨bb, off, none⟩ = some (.int .u8 (x 0)) ∧ w1.cell? ⟨bb, off + 1, none⟩ = some (.int .u8 (x 1)) ∧ w1.cell? ⟨bb, off + 2, none⟩ = some (.int .u8 (x 2)) ∧ w1.cell? ⟨bb, off + 3, none⟩ = some (.int .u8 (x 3)) ∧ w1.cell? ⟨bb, off + 4, none⟩ = some (.int .u8 (x 4)) ∧ w1.cell? ⟨bb, off + 5, none⟩ = some (.int .u8 (x 5)) ∧ w1.cell? ⟨bb, off + 6, none⟩ = some (.int .u8 (x 6)) ∧ w1.cell? ⟨bb, off + 7, none⟩ = some (.int .u8 (x 7)) ∧ w1.cell? ⟨bb, off + 8, none⟩ = some (.int .u8 (x 8)) ∧ w1.cell? ⟨bb, off + 9, none⟩ = some (.int .u8 (x 9)) ∧ w1.cell? ⟨bb, off + 10, none⟩ = some (.int .u8 (x 10)) ∧ w1.cell? ⟨bb, off + 11, none⟩ = some (.int .u8 (x 11)) := ⟨hcx 0 (by omega), hcx 1 (by omega), hcx 2 (by omega), hcx 3 (by omega), hcx 4 (by omega), hcx 5 (by omega), hcx 6 (by omega), hcx 7 (by omega), hcx 8 (by omega), hcx 9 (by omega), hcx 10 (by omega), hcx 11 (by omega)⟩
  have HCX := Lib.hid hcx
  have hb1 : bb < w1.heap.size := by omega
  have HSF : ∀ w', Fr (fun _ => False) w1 w' → (w'.cell? ⟨bb, off, none⟩ = some (.int .u8 (x 0)) ∧ w'.cell? ⟨bb, off + 1, none⟩ = some (.int .u8 (x 1)) ∧ w'.cell? ⟨bb, off + 2, none⟩ = some (.int .u8 (x 2)) ∧ w'.cell? ⟨bb, off + 3, none⟩ = some (.int .u8 (x 3)) ∧ w'.cell? ⟨bb, off + 4, none⟩ = some (.int .u8 (x 4)) ∧ w'.cell? ⟨bb, off + 5, none⟩ = some (.int .u8 (x 5)) ∧ w'.cell? ⟨bb, off + 6, none⟩ = some (.int .u8 (x 6)) ∧ w'.cell? ⟨bb, off + 7, none⟩ = some (.int .u8 (x 7)) ∧ w'.cell? ⟨bb, off + 8, none⟩ = some (.int .u8 (x 8)) ∧ w'.cell? ⟨bb, off + 9, none⟩ = some (.int .u8 (x 9)) ∧ w'.cell? ⟨bb, off + 10, none⟩ = some (.int .u8 (x 10)) ∧ w'.cell? ⟨bb, off + 11, none⟩ = some (.int .u8 (x 11))) := fun w' k => by
    have e : ∀ j, w'.cell? ⟨bb, j, none⟩ = w1.cell? ⟨bb, j, none⟩ := fun j => World.cell?_of_block (k.block bb hb1 (fun e => e))
    simp only [e]
    exact hcx2
  have HSF := Lib.hid HSF
  have R1 := Lib.hid (Fr.refl (fun _ => False) w1).drew
  clear hcx hcx2
  go_cut [5] (fun v5 wc => v5 = .pointer (some ⟨w.heap.size + 1, 0, none⟩) ∧ Fr (fun _ => False) w1 wc ∧ wc.heap[w.heap.size + 1]? = some (.cells #[.int .u8 (x 0), .int .u8 (x 1), .int .u8 (x 2), .int .u8 (x 3), .int .u8 (x 4), .int .u8 (x 5), .int .u8 (x 6), .int .u8 (x 7), .int .u8 (x 8), .int .u8 (x 9), .int .u8 (x 10), .int .u8 (x 11), .bool false, .int .i64 0, .int .i64 0, .int .i64 0] 25) ∧ wc.heap.size = w.heap.size + 2)
  case first =>
    go_region_held_law (fun w' => w'.cell? ⟨bb, off, none⟩ = some (.int .u8 (x 0)) ∧ w'.cell? ⟨bb, off + 1, none⟩ = some (.int .u8 (x 1)) ∧ w'.cell? ⟨bb, off + 2, none⟩ = some (.int .u8 (x 2)) ∧ w'.cell? ⟨bb, off + 3, none⟩ = some (.int .u8 (x 3)) ∧ w'.cell? ⟨bb, off + 4, none⟩ = some (.int .u8 (x 4)) ∧ w'.cell? ⟨bb, off + 5, none⟩ = some (.int .u8 (x 5)) ∧ w'.cell? ⟨bb, off + 6, none⟩ = some (.int .u8 (x 6)) ∧ w'.cell? ⟨bb, off + 7, none⟩ = some (.int .u8 (x 7)) ∧ w'.cell? ⟨bb, off + 8, none⟩ = some (.int .u8 (x 8)) ∧ w'.cell? ⟨bb, off + 9, none⟩ = some (.int .u8 (x 9)) ∧ w'.cell? ⟨bb, off + 10, none⟩ = some (.int .u8 (x 10)) ∧ w'.cell? ⟨bb, off + 11, none⟩ = some (.int .u8 (x 11)))
      (first | exact HSF.out _ (Fr.refl _ _) | exact HSF.out _ R1.out | exact HSF.out _ (R1.out.alloc _))
      (fail)
    all_goals go_wp2_with fail
    all_goals go_meet
    all_goals exact ⟨rfl, ((Fr.refl (fun _ => False) w1).alloc _).drew, by have := heap_alloc_new w1 (.cells #[.int .u8 (x 0), .int .u8 (x 1), .int .u8 (x 2), .int .u8 (x 3), .int .u8 (x 4), .int .u8 (x 5), .int .u8 (x 6), .int .u8 (x 7), .int .u8 (x 8), .int .u8 (x 9), .int .u8 (x 10), .int .u8 (x 11), .bool false, .int .i64 0, .int .i64 0, .int .i64 0] 25); rwa [hz] at this, by show (World.alloc _ _).heap.size = _; simp; omega⟩
  case rest =>
    revert wc
    intro wa hcut
    obtain ⟨rfl, f2, h2, hz2⟩ := hcut
    have F2 := Lib.hid (F0.out.then f2)
    have HX2 := Lib.hid (fun i hi => (World.cell?_of_block (F2.out.block bb hb (fun e => e))).trans (HX.out i hi).1)
    have d12 : wa.cell? ⟨bb, off + 12, none⟩ = some (.int .u8 (x 12)) := HX2.out 12 (by omega)
    have d13 : wa.cell? ⟨bb, off + 12 + 1, none⟩ = some (.int .u8 (x 13)) := HX2.out 13 (by omega)
    have r12 := (HX.out 12 (by omega)).2
    have r13 := (HX.out 13 (by omega)).2
    have HR2 := Lib.hid ((f2.block w.heap.size (by omega) (fun e => e)).trans HR.out)
    have H2 := Lib.hid h2
    clear f2 h2
    have htg := HTG.out
    go_upto_if 25 with (go_at_call 35; refine (number35 bb (off + 12) (nb - 12) (c - 12) (x 12) (x 13) _ (by exact d12) (by exact d13) (by omega) r12 r13).mono ?_; rintro e w3 ⟨rfl, k3, rfl⟩)
    go_cut [6, 7] (fun v6 v7 wd => v6 = .slice (some ⟨bb, off + cond tg 16 12, none⟩) (nb - cond tg 16 12) (c - cond tg 16 12) ∧ v7 = .int .i64 (cond tg 274 270) ∧ Fr (fun i => i = w.heap.size + 1) wa wd ∧ wd.heap[w.heap.size + 1]? = some (.cells #[.int .u8 (x 0), .int .u8 (x 1), .int .u8 (x 2), .int .u8 (x 3), .int .u8 (x 4), .int .u8 (x 5), .int .u8 (x 6), .int .u8 (x 7), .int .u8 (x 8), .int .u8 (x 9), .int .u8 (x 10), .int .u8 (x 11), .bool tg, .int .i64 (cond tg ((x 14 * 256 + x 15) % 4096) 0), .int .i64 (cond tg (cond ((x 14 * 256 + x 15) / 4096 % 2 == 1) (-1) ((x 14 * 256 + x 15) / 8192)) 0), .int .i64 0] 25) ∧ wd.heap.size = w.heap.size + 2)
    case first =>
      clear d12 d13 r12 r13
      cases tg
      · clear htg
        go_wp2_with fail
        go_meet
        exact ⟨rfl, rfl, (Fr.refl _ wa).drewN _, H2.out, hz2⟩
      · clear htg
        have d14 : wa.cell? ⟨bb, off + 12 + 2, none⟩ = some (.int .u8 (x 14)) := HX2.out 14 (by omega)
        have d15 : wa.cell? ⟨bb, off + 12 + 2 + 1, none⟩ = some (.int .u8 (x 15)) := HX2.out 15 (by omega)
        have r14 := (HX.out 14 (by omega)).2
        have r15 := (HX.out 15 (by omega)).2
        obtain ⟨vv, hvv⟩ : ∃ vv, (x 14 * 256 + x 15) = vv := ⟨_, rfl⟩
        have rv : 0 ≤ vv ∧ vv < 65536 := by omega
        have q1 : bits .and .i64 vv 4095 = vv % 4096 := bits_mask .i64 63 (by decide) wraps_i64 12 (by decide) vv rv.1 (by have := rv.2; omega)
        have q2 : bits .and .i64 (vv / 4096) 1 = vv / 4096 % 2 := bits_mask .i64 63 (by decide) wraps_i64 1 (by decide) (vv / 4096) (by omega) (by omega)
        have c12 : wa.cell? ⟨w.heap.size + 1, 12, none⟩ = some (.bool false) := cells_at wa _ [.int .u8 (x 0), .int .u8 (x 1), .int .u8 (x 2), .int .u8 (x 3), .int .u8 (x 4), .int .u8 (x 5), .int .u8 (x 6), .int .u8 (x 7), .int .u8 (x 8), .int .u8 (x 9), .int .u8 (x 10), .int .u8 (x 11), .bool false, .int .i64 0, .int .i64 0, .int .i64 0] 25 H2.out 12 _ rfl
        have c13 : wa.cell? ⟨w.heap.size + 1, 13, none⟩ = some (.int .i64 0) := cells_at wa _ [.int .u8 (x 0), .int .u8 (x 1), .int .u8 (x 2), .int .u8 (x 3), .int .u8 (x 4), .int .u8 (x 5), .int .u8 (x 6), .int .u8 (x 7), .int .u8 (x 8), .int .u8 (x 9), .int .u8 (x 10), .int .u8 (x 11), .bool false, .int .i64 0, .int .i64 0, .int .i64 0] 25 H2.out 13 _ rfl
        have c14 : wa.cell? ⟨w.heap.size + 1, 14, none⟩ = some (.int .i64 0) := cells_at wa _ [.int .u8 (x 0), .int .u8 (x 1), .int .u8 (x 2), .int .u8 (x 3), .int .u8 (x 4), .int .u8 (x 5), .int .u8 (x 6), .int .u8 (x 7), .int .u8 (x 8), .int .u8 (x 9), .int .u8 (x 10), .int .u8 (x 11), .bool false, .int .i64 0, .int .i64 0, .int .i64 0] 25 H2.out 14 _ rfl
        have z12 : wa.frozen? ⟨w.heap.size + 1, 12, none⟩ = false := frozen_of_row wa _ 12 _ 25 H2.out
        have z13 : wa.frozen? ⟨w.heap.size + 1, 13, none⟩ = false := frozen_of_row wa _ 13 _ 25 H2.out
        have z14 : wa.frozen? ⟨w.heap.size + 1, 14, none⟩ = false := frozen_of_row wa _ 14 _ 25 H2.out
        have HV := Lib.hid hvv
        clear hvv
        go_upto_region 10 with (go_at_call 35; refine (number35 bb (off + 12 + 2) (nb - 12 - 2) (c - 12 - 2) (x 14) (x 15) _ (by exact d14) (by exact d15) (by omega) r14 r15).mono ?_; rw [HV.out]; rintro e w4 ⟨rfl, k4, rfl⟩)
        clear c12 c13 c14 z12 z13 z14 d14 d15 q1
        have z14b : (((((wa.drewN (k3 + k4)).setCell ⟨w.heap.size + 1, 12, none⟩ (.bool true)).setCell ⟨w.heap.size + 1, 14, none⟩ (.int .i64 (vv / 8192))).setCell ⟨w.heap.size + 1, 13, none⟩ (.int .i64 (vv % 4096)))).heap[w.heap.size + 1]? = some (.cells #[.int .u8 (x 0), .int .u8 (x 1), .int .u8 (x 2), .int .u8 (x 3), .int .u8 (x 4), .int .u8 (x 5), .int .u8 (x 6), .int .u8 (x 7), .int .u8 (x 8), .int .u8 (x 9), .int .u8 (x 10), .int .u8 (x 11), .bool true, .int .i64 (vv % 4096), .int .i64 (vv / 8192), .int .i64 0] 25) := by
          rw [heap_setCell_same _ (w.heap.size + 1) 13 _ 25 _ (heap_setCell_same _ (w.heap.size + 1) 14 _ 25 _ (heap_setCell_same (wa.drewN (k3 + k4)) (w.heap.size + 1) 12 #[.int .u8 (x 0), .int .u8 (x 1), .int .u8 (x 2), .int .u8 (x 3), .int .u8 (x 4), .int .u8 (x 5), .int .u8 (x 6), .int .u8 (x 7), .int .u8 (x 8), .int .u8 (x 9), .int .u8 (x 10), .int .u8 (x 11), .bool false, .int .i64 0, .int .i64 0, .int .i64 0] 25 _ H2.out))]; rfl
        have g4 : Fr (fun i => i = w.heap.size + 1) wa (((((wa.drewN (k3 + k4)).setCell ⟨w.heap.size + 1, 12, none⟩ (.bool true)).setCell ⟨w.heap.size + 1, 14, none⟩ (.int .i64 (vv / 8192))).setCell ⟨w.heap.size + 1, 13, none⟩ (.int .i64 (vv % 4096)))) := (((((Fr.refl (fun i => i = w.heap.size + 1) wa).drewN (k3 + k4)).setCell _ _ (fun _ => rfl)).setCell _ _ (fun _ => rfl)).setCell _ _ (fun _ => rfl))
        have s4 : (((((wa.drewN (k3 + k4)).setCell ⟨w.heap.size + 1, 12, none⟩ (.bool true)).setCell ⟨w.heap.size + 1, 14, none⟩ (.int .i64 (vv / 8192))).setCell ⟨w.heap.size + 1, 13, none⟩ (.int .i64 (vv % 4096)))).heap.size = w.heap.size + 2 := by rw [← hz2]; simp [World.setCell]
        generalize (((((wa.drewN (k3 + k4)).setCell ⟨w.heap.size + 1, 12, none⟩ (.bool true)).setCell ⟨w.heap.size + 1, 14, none⟩ (.int .i64 (vv / 8192))).setCell ⟨w.heap.size + 1, 13, none⟩ (.int .i64 (vv % 4096)))) = w4 at z14b g4 s4 ⊢
        have Z4 := Lib.hid z14b
        have S4 := Lib.hid s4
        have G4 := Lib.hid g4
        clear z14b g4 s4
        obtain ⟨uu, hu⟩ : ∃ uu, (vv / 4096 % 2 == 1) = uu := ⟨_, rfl⟩
        cases uu
        · go_wp2_with fail
          go_meet
          have hv := HV.out
          subst hv
          refine ⟨by rw [show off + cond true 16 12 = off + 12 + 4 from rfl, show nb - cond true 16 12 = nb - 12 - 4 from (Nat.sub_sub nb 12 4).symm, show c - cond true 16 12 = c - 12 - 4 from (Nat.sub_sub c 12 4).symm], rfl, G4.out, ?_, S4.out⟩
          rw [hu]
          exact Z4.out
        · have c14 : w4.cell? ⟨w.heap.size + 1, 14, none⟩ = some (.int .i64 (vv / 8192)) := cells_at w4 _ [.int .u8 (x 0), .int .u8 (x 1), .int .u8 (x 2), .int .u8 (x 3), .int .u8 (x 4), .int .u8 (x 5), .int .u8 (x 6), .int .u8 (x 7), .int .u8 (x 8), .int .u8 (x 9), .int .u8 (x 10), .int .u8 (x 11), .bool true, .int .i64 (vv % 4096), .int .i64 (vv / 8192), .int .i64 0] 25 Z4.out 14 _ rfl
          have z14 : w4.frozen? ⟨w.heap.size + 1, 14, none⟩ = false := frozen_of_row w4 _ 14 _ 25 Z4.out
          go_wp2_with fail
          go_meet
          have hv := HV.out
          subst hv
          refine ⟨by rw [show off + cond true 16 12 = off + 12 + 4 from rfl, show nb - cond true 16 12 = nb - 12 - 4 from (Nat.sub_sub nb 12 4).symm, show c - cond true 16 12 = c - 12 - 4 from (Nat.sub_sub c 12 4).symm], rfl, G4.out.setCell _ _ (fun _ => rfl), ?_, by rw [← S4.out]; simp [World.setCell]⟩
          rw [hu, heap_setCell_same _ (w.heap.size + 1) 14 _ 25 _ Z4.out]; rfl
    case rest =>
      as_aux_lemma =>
        obtain ⟨rfl, rfl, f3, h3, hz3⟩ := hcut
        have hwl : w.heap.size < wc.heap.size := by omega
        have FWd := Lib.hid (F2.out.trans (S' := fun i => i = w.heap.size + 1) f3 (fun i hi e => by omega))
        have HRd := Lib.hid ((f3.block w.heap.size (by omega) (by omega)).trans HR2.out)
        clear d12 d13 r12 r13 H2 HR2 HX2 HR HCX f3 hz2 hat0 hat6 HSF R1 F0 F2
        have hgE := HGG.out
        obtain ⟨ty, hty⟩ : ∃ ty, x t * 256 + x (t + 1) = ty := ⟨_, rfl⟩
        rw [hty] at hgE
        have h4 : wc.heap[w.heap.size + 1]? = some (.cells #[.int .u8 g.dst.a, .int .u8 g.dst.b, .int .u8 g.dst.c, .int .u8 g.dst.d, .int .u8 g.dst.e, .int .u8 g.dst.f, .int .u8 g.src.a, .int .u8 g.src.b, .int .u8 g.src.c, .int .u8 g.src.d, .int .u8 g.src.e, .int .u8 g.src.f, .bool g.tag, .int .i64 g.vlan, .int .i64 g.prio, .int .i64 0] 25) := by subst hgE; exact h3
        have hgt : g.ty = ty := by subst hgE; rfl
        have H4 := Lib.hid h4
        have HGT := Lib.hid hgt
        have HTY := Lib.hid hty
        clear h3 h4 hgE HGG htg hgt hty
        rw [← HTT.out, ← HMM.out]
        clear HTT HMM HTG
        have e0 : wc.cell? ⟨bb, off + t, none⟩ = some (.int .u8 (x t)) := (World.cell?_of_block (FWd.out.block bb hb (fun e => e))).trans (HX.out t (by have := HT12.out; omega)).1
        have e1 : wc.cell? ⟨bb, off + t + 1, none⟩ = some (.int .u8 (x (t + 1))) := (World.cell?_of_block (FWd.out.block bb hb (fun e => e))).trans (HX.out (t + 1) (by have := HT12.out; omega)).1
        have y0 := (HX.out t (by have := HT12.out; omega)).2
        have y1 := (HX.out (t + 1) (by have := HT12.out; omega)).2
        have ht2 : 2 ≤ nb - t := by have := HT12.out; omega
        have ht3 : t ≤ nb ∧ t ≤ c := by have := HT12.out; omega
        have c15 : wc.cell? ⟨w.heap.size + 1, 15, none⟩ = some (.int .i64 0) := cells_at wc _ [.int .u8 g.dst.a, .int .u8 g.dst.b, .int .u8 g.dst.c, .int .u8 g.dst.d, .int .u8 g.dst.e, .int .u8 g.dst.f, .int .u8 g.src.a, .int .u8 g.src.b, .int .u8 g.src.c, .int .u8 g.src.d, .int .u8 g.src.e, .int .u8 g.src.f, .bool g.tag, .int .i64 g.vlan, .int .i64 g.prio, .int .i64 0] 25 H4.out 15 _ rfl
        have z15 : wc.frozen? ⟨w.heap.size + 1, 15, none⟩ = false := frozen_of_row wc _ 15 _ 25 H4.out
        go_upto_region 14 with (go_at_call 35; refine (number35 bb (off + t) (nb - t) (c - t) (x t) (x (t + 1)) _ (by exact e0) (by exact e1) ht2 y0 y1).mono ?_; rw [HTY.out]; rintro e w5 ⟨rfl, k5, rfl⟩)
        have HA : ((wc.drewN k5).setCell ⟨w.heap.size + 1, 15, none⟩ (.int .i64 ty)).heap[w.heap.size + 1]? = some (.cells #[.int .u8 g.dst.a, .int .u8 g.dst.b, .int .u8 g.dst.c, .int .u8 g.dst.d, .int .u8 g.dst.e, .int .u8 g.dst.f, .int .u8 g.src.a, .int .u8 g.src.b, .int .u8 g.src.c, .int .u8 g.src.d, .int .u8 g.src.e, .int .u8 g.src.f, .bool g.tag, .int .i64 g.vlan, .int .i64 g.prio, .int .i64 g.ty] 25) := by
          rw [heap_setCell_same (wc.drewN k5) (w.heap.size + 1) 15 _ 25 _ H4.out, HGT.out]; rfl
        have g5 : Fr (fun i => i = w.heap.size + 1) wc ((wc.drewN k5).setCell ⟨w.heap.size + 1, 15, none⟩ (.int .i64 ty)) := ((Fr.refl (fun i => i = w.heap.size + 1) wc).drewN k5).setCell _ _ (fun _ => rfl)
        have s5 : ((wc.drewN k5).setCell ⟨w.heap.size + 1, 15, none⟩ (.int .i64 ty)).heap.size = w.heap.size + 2 := by rw [← hz3]; simp [World.setCell]
        generalize (wc.drewN k5).setCell ⟨w.heap.size + 1, 15, none⟩ (.int .i64 ty) = wE at HA g5 s5 ⊢
        have FWE := Lib.hid (FWd.out.trans (S' := fun i => i = w.heap.size + 1) g5 (fun i hi e => by omega))
        have HB := (g5.block w.heap.size (by omega) (by omega)).trans HRd.out
        clear e0 e1 y0 y1 c15 z15 g5 FWd HRd H4 HGT HTY
        have HA := Lib.hid HA
        have HB := Lib.hid HB
        have HZ : ∀ w', Fr (fun _ => False) wE w' → w'.there w.heap.size 0 16 := fun w' k => by
          have hh := (k.block w.heap.size (by omega) (fun e => e)).trans HB.out
          refine fun j hj => ⟨?_, frozen_of_row w' _ _ _ 25 hh⟩
          rw [Nat.zero_add, cell_of_row w' w.heap.size j _ 25 (0, 0) hh, Array.getElem?_eq_getElem (by simpa using hj)]; rfl
        have HZ := Lib.hid HZ
        have HG : ∀ w', Fr (fun _ => False) wE w' → w'.heap[w.heap.size + 1]? = some (.cells #[.int .u8 g.dst.a, .int .u8 g.dst.b, .int .u8 g.dst.c, .int .u8 g.dst.d, .int .u8 g.dst.e, .int .u8 g.dst.f, .int .u8 g.src.a, .int .u8 g.src.b, .int .u8 g.src.c, .int .u8 g.src.d, .int .u8 g.src.e, .int .u8 g.src.f, .bool g.tag, .int .i64 g.vlan, .int .i64 g.prio, .int .i64 g.ty] 25) := fun w' k => (k.block (w.heap.size + 1) (by omega) (fun e => e)).trans HA.out
        have HG := Lib.hid HG
        by_cases hlong : mo < (nb : Int)
        · have HLG := Lib.hid hlong
          have hd : decide (mo < (nb : Int)) = true := decide_eq_true hlong
          clear hlong
          as_aux_lemma =>
            go_upto_region 15 with (fail)
            clear hd
            go_step
            refine wpList_plain rfl fun K hK => ?_
            go_simp
            refine hK _ _ ?_
            refine wpList_store_mid rfl 25 _ _ rfl w.heap.size 0 #[.int .u8 0, .int .u8 0, .int .u8 0, .int .u8 0, .int .u8 0, .int .u8 0, .int .u8 0, .int .u8 0, .int .u8 0, .int .u8 0, .int .u8 0, .int .u8 0, .bool false, .int .i64 0, .int .i64 0, .int .i64 0] rfl rfl (HZ.out _ (Fr.refl _ _)) (by kernel_rfl) (by kernel_rfl) ?_
            have hrow := World.rangeAt_setCells_same wE w.heap.size 0 [.int .u8 0, .int .u8 0, .int .u8 0, .int .u8 0, .int .u8 0, .int .u8 0, .int .u8 0, .int .u8 0, .int .u8 0, .int .u8 0, .int .u8 0, .int .u8 0, .bool false, .int .i64 0, .int .i64 0, .int .i64 0] (HZ.out _ (Fr.refl _ _))
            have F7 : Fr (fun _ => False) w (wE.setCells w.heap.size 0 [.int .u8 0, .int .u8 0, .int .u8 0, .int .u8 0, .int .u8 0, .int .u8 0, .int .u8 0, .int .u8 0, .int .u8 0, .int .u8 0, .int .u8 0, .int .u8 0, .bool false, .int .i64 0, .int .i64 0, .int .i64 0]) := Fr.setCells w.heap.size (fun h => by omega) _ 0 wE FWE.out
            have c0 := hrow
            generalize wE.setCells w.heap.size 0 [.int .u8 0, .int .u8 0, .int .u8 0, .int .u8 0, .int .u8 0, .int .u8 0, .int .u8 0, .int .u8 0, .int .u8 0, .int .u8 0, .int .u8 0, .int .u8 0, .bool false, .int .i64 0, .int .i64 0, .int .i64 0] = w6 at F7 c0 ⊢
            clear hrow
            go_wp2_with fail
            exact bodyPost_ret (v := .tuple #[.agg #[.int .u8 0, .int .u8 0, .int .u8 0, .int .u8 0, .int .u8 0, .int .u8 0, .int .u8 0, .int .u8 0, .int .u8 0, .int .u8 0, .int .u8 0, .int .u8 0, .bool false, .int .i64 0, .int .i64 0, .int .i64 0], .slice none 0 0, .int .i64 2]) (results_cell15 _ w6 w.heap.size [.int .u8 0, .int .u8 0, .int .u8 0, .int .u8 0, .int .u8 0, .int .u8 0, .int .u8 0, .int .u8 0, .int .u8 0, .int .u8 0, .int .u8 0, .int .u8 0, .bool false, .int .i64 0, .int .i64 0, .int .i64 0] rfl (run_loadVar_mid w6 w.heap.size 0 25 [.int .u8 0, .int .u8 0, .int .u8 0, .int .u8 0, .int .u8 0, .int .u8 0, .int .u8 0, .int .u8 0, .int .u8 0, .int .u8 0, .int .u8 0, .int .u8 0, .bool false, .int .i64 0, .int .i64 0, .int .i64 0] _ c0 Try.underlying25 rfl (by kernel_rfl))) rfl ⟨F7, fun _ => rfl, fun h => (by have := HLG.out; omega), fun h => (by have := HLG.out; omega)⟩
        · as_aux_lemma =>
            have HLG := Lib.hid hlong
            have hd : decide (mo < (nb : Int)) = false := decide_eq_false hlong
            clear hlong
            go_upto_region 16 with (fail)
            clear hd
            go_step
            refine wpList_load_mid rfl 25 _ rfl (w.heap.size + 1) 0 rfl [.int .u8 g.dst.a, .int .u8 g.dst.b, .int .u8 g.dst.c, .int .u8 g.dst.d, .int .u8 g.dst.e, .int .u8 g.dst.f, .int .u8 g.src.a, .int .u8 g.src.b, .int .u8 g.src.c, .int .u8 g.src.d, .int .u8 g.src.e, .int .u8 g.src.f, .bool g.tag, .int .i64 g.vlan, .int .i64 g.prio, .int .i64 g.ty] _ (fun j v hj => by rw [Nat.zero_add]; exact cells_at wE (w.heap.size + 1) [.int .u8 g.dst.a, .int .u8 g.dst.b, .int .u8 g.dst.c, .int .u8 g.dst.d, .int .u8 g.dst.e, .int .u8 g.dst.f, .int .u8 g.src.a, .int .u8 g.src.b, .int .u8 g.src.c, .int .u8 g.src.d, .int .u8 g.src.e, .int .u8 g.src.f, .bool g.tag, .int .i64 g.vlan, .int .i64 g.prio, .int .i64 g.ty] 25 (HG.out _ (Fr.refl _ _)) j v hj) Try.underlying25 rfl (by kernel_rfl) ?_
            obtain ⟨r, hr⟩ : ∃ r, g.may = r := ⟨_, rfl⟩
            have HMR := Lib.hid hr
            clear hr
            cases r
            · go_upto_region 17 with (go_at_call 32; refine (may32F g _).mono ?_; rw [HMR.out]; rintro e w4 ⟨rfl, f4⟩)
              have FW4 := Lib.hid (FWE.out.then f4)
              have HZ4 := Lib.hid (fun w' k => HZ.out w' (f4.then k))
              have s4 := f4.size
              clear f4
              go_step
              refine wpList_plain rfl fun K hK => ?_
              go_simp
              refine hK _ _ ?_
              refine wpList_store_mid rfl 25 _ _ rfl w.heap.size 0 #[.int .u8 0, .int .u8 0, .int .u8 0, .int .u8 0, .int .u8 0, .int .u8 0, .int .u8 0, .int .u8 0, .int .u8 0, .int .u8 0, .int .u8 0, .int .u8 0, .bool false, .int .i64 0, .int .i64 0, .int .i64 0] rfl rfl (HZ4.out _ (Fr.refl _ _)) (by kernel_rfl) (by kernel_rfl) ?_
              have hrow := World.rangeAt_setCells_same w4 w.heap.size 0 [.int .u8 0, .int .u8 0, .int .u8 0, .int .u8 0, .int .u8 0, .int .u8 0, .int .u8 0, .int .u8 0, .int .u8 0, .int .u8 0, .int .u8 0, .int .u8 0, .bool false, .int .i64 0, .int .i64 0, .int .i64 0] (HZ4.out _ (Fr.refl _ _))
              have F7 : Fr (fun _ => False) w (w4.setCells w.heap.size 0 [.int .u8 0, .int .u8 0, .int .u8 0, .int .u8 0, .int .u8 0, .int .u8 0, .int .u8 0, .int .u8 0, .int .u8 0, .int .u8 0, .int .u8 0, .int .u8 0, .bool false, .int .i64 0, .int .i64 0, .int .i64 0]) := Fr.setCells w.heap.size (fun h => by omega) _ 0 w4 FW4.out
              have c0 := hrow
              generalize w4.setCells w.heap.size 0 [.int .u8 0, .int .u8 0, .int .u8 0, .int .u8 0, .int .u8 0, .int .u8 0, .int .u8 0, .int .u8 0, .int .u8 0, .int .u8 0, .int .u8 0, .int .u8 0, .bool false, .int .i64 0, .int .i64 0, .int .i64 0] = w6 at F7 c0 ⊢
              clear hrow
              go_wp2_with fail
              exact bodyPost_ret (v := .tuple #[.agg #[.int .u8 0, .int .u8 0, .int .u8 0, .int .u8 0, .int .u8 0, .int .u8 0, .int .u8 0, .int .u8 0, .int .u8 0, .int .u8 0, .int .u8 0, .int .u8 0, .bool false, .int .i64 0, .int .i64 0, .int .i64 0], .slice none 0 0, .int .i64 4]) (results_cell15 _ w6 w.heap.size [.int .u8 0, .int .u8 0, .int .u8 0, .int .u8 0, .int .u8 0, .int .u8 0, .int .u8 0, .int .u8 0, .int .u8 0, .int .u8 0, .int .u8 0, .int .u8 0, .bool false, .int .i64 0, .int .i64 0, .int .i64 0] rfl (run_loadVar_mid w6 w.heap.size 0 25 [.int .u8 0, .int .u8 0, .int .u8 0, .int .u8 0, .int .u8 0, .int .u8 0, .int .u8 0, .int .u8 0, .int .u8 0, .int .u8 0, .int .u8 0, .int .u8 0, .bool false, .int .i64 0, .int .i64 0, .int .i64 0] _ c0 Try.underlying25 rfl (by kernel_rfl))) rfl ⟨F7, fun h => (by have := HLG.out; omega), fun _ _ => rfl, fun _ h => by rw [HMR.out] at h; cases h⟩
            · go_upto_region 18 with (go_at_call 32; refine (may32F g _).mono ?_; rw [HMR.out]; rintro e w4 ⟨rfl, f4⟩)
              have HA4 := Lib.hid ((f4.block (w.heap.size + 1) (by omega) (fun e => e)).trans HA.out)
              have HB4 := Lib.hid ((f4.block w.heap.size (by omega) (fun e => e)).trans HB.out)
              have FW4 := Lib.hid (FWE.out.then f4)
              have hz4 : w.heap.size + 2 ≤ w4.heap.size := by have := f4.size; omega
              clear f4 HA HB HZ HG FWE s5
              as_aux_lemma =>
                have HSF : ∀ w', Fr (fun i => i = w.heap.size) w4 w' → w'.heap[w.heap.size + 1]? = some (.cells #[.int .u8 g.dst.a, .int .u8 g.dst.b, .int .u8 g.dst.c, .int .u8 g.dst.d, .int .u8 g.dst.e, .int .u8 g.dst.f, .int .u8 g.src.a, .int .u8 g.src.b, .int .u8 g.src.c, .int .u8 g.src.d, .int .u8 g.src.e, .int .u8 g.src.f, .bool g.tag, .int .i64 g.vlan, .int .i64 g.prio, .int .i64 g.ty] 25) := fun w' k => (k.block (w.heap.size + 1) (by omega) (by omega)).trans HA4.out
                have HSF := Lib.hid HSF
                have HZ : ∀ w', Fr (fun _ => False) w4 w' → w'.there w.heap.size 0 16 := fun w' k => by
                  have hh := (k.block w.heap.size (by omega) (fun e => e)).trans HB4.out
                  refine fun j hj => ⟨?_, frozen_of_row w' _ _ _ 25 hh⟩
                  rw [Nat.zero_add, cell_of_row w' w.heap.size j _ 25 (0, 0) hh, Array.getElem?_eq_getElem (by simpa using hj)]; rfl
                have HZ := Lib.hid HZ
                have R0 := Lib.hid (Fr.refl (fun i => i = w.heap.size) w4)
                have hl14 : (b.drop (t + 2)).length = nb - t - 2 := by rw [List.length_drop, HP.out.len]; omega
                have HBY := Lib.hid (show BytesIn w.heap.size w4.drew (some ⟨bb, off + t + 2, none⟩) (b.drop (t + 2)) from by rw [Nat.add_assoc]; exact ((HP.out.here.drop (t + 2)).fr FW4.out.drew (Nat.le_refl _) (fun _ _ e => e)))
                have HL14 := Lib.hid hl14
                have hk2 : ¬ (c - t = 2) := by have := HT12.out; omega
                have hk3 : ¬ (c - t - 2 = 0) := by have := HT12.out; omega
                have hk4 : ¬ (c - t ≤ 2) := by have := HT12.out; omega
                have hk1 : 2 < c - t := by have := HT12.out; omega
                clear hl14
                refine wp_region_held_drew (S := fun w' => w'.heap[w.heap.size + 1]? = some (.cells #[.int .u8 g.dst.a, .int .u8 g.dst.b, .int .u8 g.dst.c, .int .u8 g.dst.d, .int .u8 g.dst.e, .int .u8 g.dst.f, .int .u8 g.src.a, .int .u8 g.src.b, .int .u8 g.src.c, .int .u8 g.src.d, .int .u8 g.src.e, .int .u8 g.src.f, .bool g.tag, .int .i64 g.vlan, .int .i64 g.prio, .int .i64 g.ty] 25)) (by kernel_rfl) (HSF.out _ R0.out.drew) (fun hHeld => ?_)
                refine wpAnyH_take (i := 0) (oi := _) (v := _) rfl (by kernel_rfl) (by kernel_rfl) (by kernel_rfl) (fun _ _ _ h => h) (yieldsIf_load_mid (by rfl) 25 _ rfl (w.heap.size + 1) 0 rfl [.int .u8 g.dst.a, .int .u8 g.dst.b, .int .u8 g.dst.c, .int .u8 g.dst.d, .int .u8 g.dst.e, .int .u8 g.dst.f, .int .u8 g.src.a, .int .u8 g.src.b, .int .u8 g.src.c, .int .u8 g.src.d, .int .u8 g.src.e, .int .u8 g.src.f, .bool g.tag, .int .i64 g.vlan, .int .i64 g.prio, .int .i64 g.ty] _ (fun w' hS j v hj => by rw [Nat.zero_add]; exact cells_at w' (w.heap.size + 1) [.int .u8 g.dst.a, .int .u8 g.dst.b, .int .u8 g.dst.c, .int .u8 g.dst.d, .int .u8 g.dst.e, .int .u8 g.dst.f, .int .u8 g.src.a, .int .u8 g.src.b, .int .u8 g.src.c, .int .u8 g.src.d, .int .u8 g.src.e, .int .u8 g.src.f, .bool g.tag, .int .i64 g.vlan, .int .i64 g.prio, .int .i64 g.ty] 25 hS j v hj) Try.underlying25 rfl (by kernel_rfl)) (by assumption) ?_
                try simp only [Act.put, List.getElem_toArray, List.getElem_cons_zero, List.setIfInBounds_toArray, List.set_cons_zero, List.set_cons_succ]
                refine wpAnyH_take (i := 1) (oi := _) (v := _) rfl (by kernel_rfl) (by kernel_rfl) (by kernel_rfl) (fun _ _ _ h => h) (Or.inl ⟨by rfl, fun w' hS => by rfl⟩) (by assumption) ?_
                try simp only [Act.put, List.getElem_toArray, List.getElem_cons_zero, List.getElem_cons_succ, List.setIfInBounds_toArray, List.set_cons_zero, List.set_cons_succ]
                refine wpAnyH_ready (rs := [2]) (by kernel_rfl) (by simp) ?_
                refine AllReadyH.cons rfl (fun K hK => ?_) AllReadyH.nil
                go_simp
                go_wp2_with fail
                refine hK.out _ _ (HSF.out _ R0.out.drew) (fun hHeld => ?_)
                clear hK K
                try simp only [Act.put, List.getElem_toArray, List.getElem_cons_zero, List.getElem_cons_succ, List.setIfInBounds_toArray, List.set_cons_zero, List.set_cons_succ]
                refine wpAnyH_ready (rs := [3]) (by kernel_rfl) (by simp) ?_
                refine AllReadyH.cons rfl (fun K hK => ?_) AllReadyH.nil
                go_simp
                go_at_call 36
                refine (clone36N (A := some ⟨bb, off + t + 2, none⟩) (c - t - 2) w.heap.size (b.drop (t + 2)) _ HL14.out HBY.out (by have := HP.out.top; omega) (by show w.heap.size ≤ w4.heap.size; omega)).mono ?_
                rintro e w5 ⟨v5, rfl, o5, f5⟩
                have F5 : Fr (fun _ => False) w4 w5 := ((Fr.refl (fun _ => False) w4).drew).then f5
                have F5b : Fr (fun i => i = w.heap.size) w4 w5 := F5.mono (fun _ _ e => e.elim)
                refine hK.out _ _ (HSF.out _ F5b) (fun hHeld => ?_)
                clear hK K
                try simp only [Act.put, List.getElem_toArray, List.getElem_cons_zero, List.getElem_cons_succ, List.setIfInBounds_toArray, List.set_cons_zero, List.set_cons_succ]
                refine wpAnyH_ready (rs := [4]) (by kernel_rfl) (by simp) ?_
                refine AllReadyH.cons rfl (fun K hK => ?_) AllReadyH.nil
                rw [if_pos (by rfl)]
                refine store_list 25 _ _ rfl w.heap.size 0 [.int .u8 g.dst.a, .int .u8 g.dst.b, .int .u8 g.dst.c, .int .u8 g.dst.d, .int .u8 g.dst.e, .int .u8 g.dst.f, .int .u8 g.src.a, .int .u8 g.src.b, .int .u8 g.src.c, .int .u8 g.src.d, .int .u8 g.src.e, .int .u8 g.src.f, .bool g.tag, .int .i64 g.vlan, .int .i64 g.prio, .int .i64 g.ty] rfl rfl (HZ.out _ F5) (by kernel_rfl) (by kernel_rfl) ?_
                have hrow := World.rangeAt_setCells_same w5 w.heap.size 0 [.int .u8 g.dst.a, .int .u8 g.dst.b, .int .u8 g.dst.c, .int .u8 g.dst.d, .int .u8 g.dst.e, .int .u8 g.dst.f, .int .u8 g.src.a, .int .u8 g.src.b, .int .u8 g.src.c, .int .u8 g.src.d, .int .u8 g.src.e, .int .u8 g.src.f, .bool g.tag, .int .i64 g.vlan, .int .i64 g.prio, .int .i64 g.ty] (HZ.out _ F5)
                have F6 : Fr (fun i => i = w.heap.size) w4 (w5.setCells w.heap.size 0 [.int .u8 g.dst.a, .int .u8 g.dst.b, .int .u8 g.dst.c, .int .u8 g.dst.d, .int .u8 g.dst.e, .int .u8 g.dst.f, .int .u8 g.src.a, .int .u8 g.src.b, .int .u8 g.src.c, .int .u8 g.src.d, .int .u8 g.src.e, .int .u8 g.src.f, .bool g.tag, .int .i64 g.vlan, .int .i64 g.prio, .int .i64 g.ty]) := Fr.setCells (S := fun i => i = w.heap.size) w.heap.size (fun _ => rfl) _ 0 w5 F5b
                have F7 : Fr (fun _ => False) w (w5.setCells w.heap.size 0 [.int .u8 g.dst.a, .int .u8 g.dst.b, .int .u8 g.dst.c, .int .u8 g.dst.d, .int .u8 g.dst.e, .int .u8 g.dst.f, .int .u8 g.src.a, .int .u8 g.src.b, .int .u8 g.src.c, .int .u8 g.src.d, .int .u8 g.src.e, .int .u8 g.src.f, .bool g.tag, .int .i64 g.vlan, .int .i64 g.prio, .int .i64 g.ty]) := Fr.setCells w.heap.size (fun h => by omega) _ 0 w5 (FW4.out.then F5)
                have o6 : OwnB w.heap.size (w5.setCells w.heap.size 0 [.int .u8 g.dst.a, .int .u8 g.dst.b, .int .u8 g.dst.c, .int .u8 g.dst.d, .int .u8 g.dst.e, .int .u8 g.dst.f, .int .u8 g.src.a, .int .u8 g.src.b, .int .u8 g.src.c, .int .u8 g.src.d, .int .u8 g.src.e, .int .u8 g.src.f, .bool g.tag, .int .i64 g.vlan, .int .i64 g.prio, .int .i64 g.ty]) v5 (b.drop (t + 2)) := by
                  have hb5 := World.ownsRow.lt o5
                  refine (o5.base (base' := w.heap.size) (by show w.heap.size ≤ w4.heap.size; omega)).fr (Fr.setCells (S := fun i => i = w.heap.size) w.heap.size (fun _ => rfl) _ 0 w5 (Fr.refl _ _)) (fun k hk e => ?_)
                  have := (hb5 k hk).1
                  have h4 : w4.drew.heap.size = w4.heap.size := rfl
                  omega
                have c0 := hrow
                generalize w5.setCells w.heap.size 0 [.int .u8 g.dst.a, .int .u8 g.dst.b, .int .u8 g.dst.c, .int .u8 g.dst.d, .int .u8 g.dst.e, .int .u8 g.dst.f, .int .u8 g.src.a, .int .u8 g.src.b, .int .u8 g.src.c, .int .u8 g.src.d, .int .u8 g.src.e, .int .u8 g.src.f, .bool g.tag, .int .i64 g.vlan, .int .i64 g.prio, .int .i64 g.ty] = w6 at F6 F7 o6 c0 ⊢
                clear hrow
                refine hK.out _ _ (HSF.out _ F6) (fun hHeld => ?_)
                clear hK K
                try simp only [Act.put, List.getElem_toArray, List.getElem_cons_zero, List.getElem_cons_succ]
                refine wpAnyH_ready (rs := [5]) (by kernel_rfl) (by simp) ?_
                refine AllReadyH.cons rfl (fun K hK => ?_) AllReadyH.nil
                go_simp
                refine hK.out _ _ (HSF.out _ F6) (fun hHeld => ?_)
                clear hK K
                try simp only [Act.put, List.getElem_toArray, List.getElem_cons_zero, List.getElem_cons_succ, List.setIfInBounds_toArray, List.set_cons_zero, List.set_cons_succ]
                refine wpAnyH_ready (rs := [6]) (by kernel_rfl) (by simp) ?_
                refine AllReadyH.cons rfl (fun K hK => ?_) AllReadyH.nil
                go_simp
                refine hK.out _ _ (HSF.out _ F6) (fun hHeld => ?_)
                clear hK K
                try simp only [Act.put, List.getElem_toArray, List.getElem_cons_zero, List.getElem_cons_succ, List.setIfInBounds_toArray, List.set_cons_zero, List.set_cons_succ]
                refine wpAnyH_done (by kernel_rfl) ?_ _
                go_wp2_with fail
                exact bodyPost_ret (v := .tuple #[.agg #[.int .u8 g.dst.a, .int .u8 g.dst.b, .int .u8 g.dst.c, .int .u8 g.dst.d, .int .u8 g.dst.e, .int .u8 g.dst.f, .int .u8 g.src.a, .int .u8 g.src.b, .int .u8 g.src.c, .int .u8 g.src.d, .int .u8 g.src.e, .int .u8 g.src.f, .bool g.tag, .int .i64 g.vlan, .int .i64 g.prio, .int .i64 g.ty], v5, .int .i64 0]) (results_cell15 _ w6 w.heap.size [.int .u8 g.dst.a, .int .u8 g.dst.b, .int .u8 g.dst.c, .int .u8 g.dst.d, .int .u8 g.dst.e, .int .u8 g.dst.f, .int .u8 g.src.a, .int .u8 g.src.b, .int .u8 g.src.c, .int .u8 g.src.d, .int .u8 g.src.e, .int .u8 g.src.f, .bool g.tag, .int .i64 g.vlan, .int .i64 g.prio, .int .i64 g.ty] rfl (run_loadVar_mid w6 w.heap.size 0 25 [.int .u8 g.dst.a, .int .u8 g.dst.b, .int .u8 g.dst.c, .int .u8 g.dst.d, .int .u8 g.dst.e, .int .u8 g.dst.f, .int .u8 g.src.a, .int .u8 g.src.b, .int .u8 g.src.c, .int .u8 g.src.d, .int .u8 g.src.e, .int .u8 g.src.f, .bool g.tag, .int .i64 g.vlan, .int .i64 g.prio, .int .i64 g.ty] _ c0 Try.underlying25 rfl (by kernel_rfl))) rfl ⟨F7, fun h => (by have := HLG.out; omega), fun _ h => (by rw [HMR.out] at h; cases h), fun _ _ => ⟨v5, rfl, o6⟩⟩
end Go.Proofs.Ytmonaaappimphaa

