/- Decode of package ether. No condition but lengths. -/
import Derived.Test.YtmonaaappimphaaEtH
import Derived.Deep.MidRow
namespace Go.Proofs.Ytmonaaappimphaa
set_option linter.unusedVariables false
open Go.RowKit

theorem Fr.setCells {S : Nat → Prop} {a : World} (p : Nat) (hp : p < a.heap.size → S p) : ∀ (vs : List Value) (o : Nat) (b : World), Fr S a b → Fr S a (b.setCells p o vs)
  | [], _, _, h => h
  | v :: r, o, b, h => Fr.setCells p hp r (o + 1) _ (h.setCell ⟨p, o, none⟩ v hp)
theorem store_list {op : Oper} {a : Act} {w : World} {K : Act → World → Prop} {Q : Exit → Act → World → Prop} (ty : TypeId) (x y : Operand) (ho : op.op = .store ty x y)
    (b o : Nat) (cells : List Value) (hx : a.eval x = .pointer (some ⟨b, o, none⟩)) (hy : a.eval y = .agg cells.toArray)
    (ht : w.there b o cells.length) (hi : (Try.prog.info? ty).map (·.size) = some cells.length) (h1 : cells.toArray.all (·.oneCell') = true)
    (h : K (a.put op.dst undef) (w.setCells b o cells)) : op.wp Try.prog a w K Q :=
  wp_store_mid ty x y ho b o cells.toArray hx hy (by simpa using ht) (by simpa using hi) h1 (by simpa using h)
theorem clone36N {A : Option Addr} {n : Nat} (cap n₀ : Nat) (l : List Int) (w : World) (hn : l.length = n) (hb : BytesIn n₀ w A l) (hlen : n ≤ 140737488355328) (hn₀ : n₀ ≤ w.heap.size) :
    Calls Try.prog 36 #[.slice A n cap] w fun e w' => ∃ v', e = .returned v' ∧ OwnB w.heap.size w' v' l ∧ Fr (fun _ => False) w w' := by subst hn; exact clone36 A cap n₀ l w hb hlen hn₀

set_option maxHeartbeats 8000000 in
set_option maxRecDepth 100000 in
theorem decode15_plain (bb off nb c : Nat) (b : List Int) (x : Nat → Int) (w : World) (hn : 60 ≤ nb) (hn2 : nb ≤ 270) (hc : nb ≤ c) (P : Pc w (some ⟨bb, off, none⟩) nb b) (hxb : ∀ i, i < 18 → b[i]? = some (x i)) (ht : x 12 * 256 + x 13 ≠ 33024)
    (hm : Fh.may ⟨⟨x 0, x 1, x 2, x 3, x 4, x 5⟩, ⟨x 6, x 7, x 8, x 9, x 10, x 11⟩, false, 0, 0, x 12 * 256 + x 13⟩ = true) :
    Calls Try.prog 15 #[.slice (some ⟨bb, off, none⟩) nb c] w fun e w' => ∃ v, e = .returned (.tuple #[.agg #[.int .u8 (x 0), .int .u8 (x 1), .int .u8 (x 2), .int .u8 (x 3), .int .u8 (x 4), .int .u8 (x 5), .int .u8 (x 6), .int .u8 (x 7), .int .u8 (x 8), .int .u8 (x 9), .int .u8 (x 10), .int .u8 (x 11), .bool false, .int .i64 0, .int .i64 0, .int .i64 (x 12 * 256 + x 13)], v, .int .i64 0]) ∧ OwnB w.heap.size w' v (b.drop 14) ∧ Fr (fun _ => False) w w' := by
  have hx : ∀ i, i < 18 → w.cell? ⟨bb, off + i, none⟩ = some (.int .u8 (x i)) ∧ 0 ≤ x i ∧ x i < 256 := fun i hi => by
    obtain ⟨b', o', e, _, hcell⟩ := P.here (by rw [P.len]; omega)
    cases e
    have := P.ok _ (List.mem_of_getElem? (hxb i hi))
    exact ⟨hcell i _ (hxb i hi), by omega, by omega⟩
  have HP := Lib.hid P
  have HM := Lib.hid hm
  clear P hm hxb
  have hb : bb < w.heap.size := block_lt_of_cell (hx 0 (by omega)).1
  have F0 := Lib.hid ((Fr.refl (fun _ => False) w).alloc (.cells #[.int .u8 0, .int .u8 0, .int .u8 0, .int .u8 0, .int .u8 0, .int .u8 0, .int .u8 0, .int .u8 0, .int .u8 0, .int .u8 0, .int .u8 0, .int .u8 0, .bool false, .int .i64 0, .int .i64 0, .int .i64 0] 25))
  have HX := Lib.hid hx
  clear hx
  have hat0 : ∀ w, (Instr.arrayAt 23 (.slice (some ⟨bb, off, none⟩) nb c)).run Try.prog w = .ok (.pointer (some ⟨bb, off, none⟩)) w := fun w => run_arrayAt w 23 _ 6 _ nb c Try.underlying23 (by omega)
  have hat6 : ∀ w, (Instr.arrayAt 23 (.slice (some ⟨bb, off + 6, none⟩) (nb - 6) (c - 6))).run Try.prog w = .ok (.pointer (some ⟨bb, off + 6, none⟩)) w := fun w => run_arrayAt w 23 _ 6 _ (nb - 6) (c - 6) Try.underlying23 (by omega)
  go_enter Try.func15, Try.ntmps15
  go_upto_region 3 with (fail)
  have HR := Lib.hid (heap_alloc_new w (.cells #[.int .u8 0, .int .u8 0, .int .u8 0, .int .u8 0, .int .u8 0, .int .u8 0, .int .u8 0, .int .u8 0, .int .u8 0, .int .u8 0, .int .u8 0, .int .u8 0, .bool false, .int .i64 0, .int .i64 0, .int .i64 0] 25))
  have hz : (w.alloc (.cells #[.int .u8 0, .int .u8 0, .int .u8 0, .int .u8 0, .int .u8 0, .int .u8 0, .int .u8 0, .int .u8 0, .int .u8 0, .int .u8 0, .int .u8 0, .int .u8 0, .bool false, .int .i64 0, .int .i64 0, .int .i64 0] 25)).heap.size = w.heap.size + 1 := by simp
  generalize (w.alloc (.cells #[.int .u8 0, .int .u8 0, .int .u8 0, .int .u8 0, .int .u8 0, .int .u8 0, .int .u8 0, .int .u8 0, .int .u8 0, .int .u8 0, .int .u8 0, .int .u8 0, .bool false, .int .i64 0, .int .i64 0, .int .i64 0] 25)) = w1 at F0 HR hz ⊢
  have hcx : ∀ i, i < 18 → w1.cell? ⟨bb, off + i, none⟩ = some (.int .u8 (x i)) := fun i hi => (World.cell?_of_block (F0.out.block bb hb (fun e => e))).trans (HX.out i hi).1
  have hcx2 : w1.cell? ⟨bb, off, none⟩ = some (.int .u8 (x 0)) ∧ w1.cell? ⟨bb, off + 1, none⟩ = some (.int .u8 (x 1)) ∧ w1.cell? ⟨bb, off + 2, none⟩ = some (.int .u8 (x 2)) ∧ w1.cell? ⟨bb, off + 3, none⟩ = some (.int .u8 (x 3)) ∧ w1.cell? ⟨bb, off + 4, none⟩ = some (.int .u8 (x 4)) ∧ w1.cell? ⟨bb, off + 5, none⟩ = some (.int .u8 (x 5)) ∧ w1.cell? ⟨bb, off + 6, none⟩ = some (.int .u8 (x 6)) ∧ w1.cell? ⟨bb, off + 7, none⟩ = some (.int .u8 (x 7)) ∧ w1.cell? ⟨bb, off + 8, none⟩ = some (.int .u8 (x 8)) ∧ w1.cell? ⟨bb, off + 9, none⟩ = some (.int .u8 (x 9)) ∧ w1.cell? ⟨bb, off + 10, none⟩ = some (.int .u8 (x 10)) ∧ w1.cell? ⟨bb, off + 11, none⟩ = some (.int .u8 (x 11)) := ⟨hcx 0 (by omega), hcx 1 (by omega), hcx 2 (by omega), hcx 3 (by omega), hcx 4 (by omega), hcx 5 (by omega), hcx 6 (by omega), hcx 7 (by omega), hcx 8 (by omega), hcx 9 (by omega), hcx 10 (by omega), hcx 11 (by omega)⟩
  have HCX := Lib.hid hcx
  have hb1 : bb < w1.heap.size := by omega
  have HSF : ∀ w', Fr (fun _ => False) w1 w' → (w'.cell? ⟨bb, off, none⟩ = some (.int .u8 (x 0)) ∧ w'.cell? ⟨bb, off + 1, none⟩ = some (.int .u8 (x 1)) ∧ w'.cell? ⟨bb, off + 2, none⟩ = some (.int .u8 (x 2)) ∧ w'.cell? ⟨bb, off + 3, none⟩ = some (.int .u8 (x 3)) ∧ w'.cell? ⟨bb, off + 4, none⟩ = some (.int .u8 (x 4)) ∧ w'.cell? ⟨bb, off + 5, none⟩ = some (.int .u8 (x 5)) ∧ w'.cell? ⟨bb, off + 6, none⟩ = some (.int .u8 (x 6)) ∧ w'.cell? ⟨bb, off + 7, none⟩ = some (.int .u8 (x 7)) ∧ w'.cell? ⟨bb, off + 8, none⟩ = some (.int .u8 (x 8)) ∧ w'.cell? ⟨bb, off + 9, none⟩ = some (.int .u8 (x 9)) ∧ w'.cell? ⟨bb, off + 10, none⟩ = some (.int .u8 (x 10)) ∧ w'.cell? ⟨bb, off + 11, none⟩ = some (.int .u8 (x 11))) := fun w' k => by
    have e : ∀ j, w'.cell? ⟨bb, j, none⟩ = w1.cell? ⟨bb, j, none⟩ := fun j => World.cell?_of_block (k.block bb hb1 (fun e => e))
    simp only [e]
    exact hcx2
  have HSF := Lib.hid HSF
  have R1 := Lib.hid (Fr.refl (fun _ => False) w1).drew
  clear hcx hcx2
  go_cut [5] (fun v5 wc => v5 = .pointer (some ⟨w.heap.size + 1, 0, none⟩) ∧ Fr (fun _ => False) w1 wc ∧ wc.heap[w.heap.size + 1]? = some (.cells #[.int .u8 (x 0), .int .u8 (x 1), .int .u8 (x 2), .int .u8 (x 3), .int .u8 (x 4), .int .u8 (x 5), .int .u8 (x 6), .int .u8 (x 7), .int .u8 (x 8), .int .u8 (x 9), .int .u8 (x 10), .int .u8 (x 11), .bool false, .int .i64 0, .int .i64 0, .int .i64 0] 25) ∧ wc.heap.size = w.heap.size + 2)
  case first =>
    go_region_held_law (fun w' => w'.cell? ⟨bb, off, none⟩ = some (.int .u8 (x 0)) ∧ w'.cell? ⟨bb, off + 1, none⟩ = some (.int .u8 (x 1)) ∧ w'.cell? ⟨bb, off + 2, none⟩ = some (.int .u8 (x 2)) ∧ w'.cell? ⟨bb, off + 3, none⟩ = some (.int .u8 (x 3)) ∧ w'.cell? ⟨bb, off + 4, none⟩ = some (.int .u8 (x 4)) ∧ w'.cell? ⟨bb, off + 5, none⟩ = some (.int .u8 (x 5)) ∧ w'.cell? ⟨bb, off + 6, none⟩ = some (.int .u8 (x 6)) ∧ w'.cell? ⟨bb, off + 7, none⟩ = some (.int .u8 (x 7)) ∧ w'.cell? ⟨bb, off + 8, none⟩ = some (.int .u8 (x 8)) ∧ w'.cell? ⟨bb, off + 9, none⟩ = some (.int .u8 (x 9)) ∧ w'.cell? ⟨bb, off + 10, none⟩ = some (.int .u8 (x 10)) ∧ w'.cell? ⟨bb, off + 11, none⟩ = some (.int .u8 (x 11)))
      (first | exact HSF.out _ (Fr.refl _ _) | exact HSF.out _ R1.out | exact HSF.out _ (R1.out.alloc _))
      (fail)
    all_goals go_wp2_with fail
    all_goals go_meet
    all_goals exact ⟨rfl, ((Fr.refl (fun _ => False) w1).alloc _).drew, by have := heap_alloc_new w1 (.cells #[.int .u8 (x 0), .int .u8 (x 1), .int .u8 (x 2), .int .u8 (x 3), .int .u8 (x 4), .int .u8 (x 5), .int .u8 (x 6), .int .u8 (x 7), .int .u8 (x 8), .int .u8 (x 9), .int .u8 (x 10), .int .u8 (x 11), .bool false, .int .i64 0, .int .i64 0, .int .i64 0] 25); rwa [hz] at this, by show (World.alloc _ _).heap.size = _; simp; omega⟩
  case rest =>
    obtain ⟨rfl, f2, h2, hz2⟩ := hcut
    have F2 := Lib.hid (F0.out.then f2)
    have HX2 := Lib.hid (fun i hi => (World.cell?_of_block (F2.out.block bb hb (fun e => e))).trans (HX.out i hi).1)
    have d12 : wc.cell? ⟨bb, off + 12, none⟩ = some (.int .u8 (x 12)) := HX2.out 12 (by omega)
    have d13 : wc.cell? ⟨bb, off + 12 + 1, none⟩ = some (.int .u8 (x 13)) := HX2.out 13 (by omega)
    have r12 := (HX.out 12 (by omega)).2
    have r13 := (HX.out 13 (by omega)).2
    have HR2 := Lib.hid ((f2.block w.heap.size (by omega) (fun e => e)).trans HR.out)
    have H2 := Lib.hid h2
    have htB : (x 12 * 256 + x 13 == 33024) = false := by simpa using ht
    have d15 : wc.cell? ⟨w.heap.size + 1, 15, none⟩ = some (.int .i64 0) := cells_at wc _ [.int .u8 (x 0), .int .u8 (x 1), .int .u8 (x 2), .int .u8 (x 3), .int .u8 (x 4), .int .u8 (x 5), .int .u8 (x 6), .int .u8 (x 7), .int .u8 (x 8), .int .u8 (x 9), .int .u8 (x 10), .int .u8 (x 11), .bool false, .int .i64 0, .int .i64 0, .int .i64 0] 25 h2 15 _ rfl
    have z15 : wc.frozen? ⟨w.heap.size + 1, 15, none⟩ = false := frozen_of_row wc _ 15 _ 25 h2
    clear f2 h2 ht
    have T1 := Lib.hid True.intro
    go_upto_region 14 with (first
      | (have TK := T1.out; go_at_call 35; refine (number35 bb (off + 12) (nb - 12) (c - 12) (x 12) (x 13) _ (by first | exact d12 | assumption) (by first | exact d13 | assumption) (by omega) r12 r13).mono ?_; clear T1 TK; rintro e w3 ⟨rfl, k3, rfl⟩)
      | (go_at_call 35; refine (number35 bb (off + 12) (nb - 12) (c - 12) (x 12) (x 13) _ (by first | exact d12 | assumption) (by first | exact d13 | assumption) (by omega) r12 r13).mono ?_; rintro e w3 ⟨rfl, k4, rfl⟩))
    have H3 : ∀ k, ((wc.drewN k).setCell ⟨w.heap.size + 1, 15, none⟩ (.int .i64 (x 12 * 256 + x 13))).heap[w.heap.size + 1]? = some (.cells #[.int .u8 (x 0), .int .u8 (x 1), .int .u8 (x 2), .int .u8 (x 3), .int .u8 (x 4), .int .u8 (x 5), .int .u8 (x 6), .int .u8 (x 7), .int .u8 (x 8), .int .u8 (x 9), .int .u8 (x 10), .int .u8 (x 11), .bool false, .int .i64 0, .int .i64 0, .int .i64 (x 12 * 256 + x 13)] 25) := fun k => by
      rw [heap_setCell_same (wc.drewN k) (w.heap.size + 1) 15 #[.int .u8 (x 0), .int .u8 (x 1), .int .u8 (x 2), .int .u8 (x 3), .int .u8 (x 4), .int .u8 (x 5), .int .u8 (x 6), .int .u8 (x 7), .int .u8 (x 8), .int .u8 (x 9), .int .u8 (x 10), .int .u8 (x 11), .bool false, .int .i64 0, .int .i64 0, .int .i64 0] 25 _ H2.out]; rfl
    have G3 : ∀ k, Fr (fun i => i = w.heap.size + 1) wc ((wc.drewN k).setCell ⟨w.heap.size + 1, 15, none⟩ (.int .i64 (x 12 * 256 + x 13))) := fun k => ((Fr.refl (fun i => i = w.heap.size + 1) wc).drewN k).setCell _ _ (fun _ => rfl)
    clear d12 d13 d15 z15 htB
    have HA := H3 (k3 + k4)
    have G4 := G3 (k3 + k4)
    have hz3 : ((wc.drewN (k3 + k4)).setCell ⟨w.heap.size + 1, 15, none⟩ (.int .i64 (x 12 * 256 + x 13))).heap.size = w.heap.size + 2 := by rw [← hz2]; simp [World.setCell]
    generalize (wc.drewN (k3 + k4)).setCell ⟨w.heap.size + 1, 15, none⟩ (.int .i64 (x 12 * 256 + x 13)) = w3 at HA G4 hz3 ⊢
    have HB := (G4.block w.heap.size (by omega) (by omega)).trans HR2.out
    have FW : Fr (fun _ => False) w w3 := F2.out.trans G4 (fun i hi e => by omega)
    clear H3 G3 G4 H2 HR2 HX2 HR HCX F0 r12 r13
    have HA := Lib.hid HA
    have HB := Lib.hid HB
    have FW := Lib.hid FW
    have hmx : Fh.may ⟨⟨x 0, x 1, x 2, x 3, x 4, x 5⟩, ⟨x 6, x 7, x 8, x 9, x 10, x 11⟩, false, 0, 0, x 12 * 256 + x 13⟩ = true := HM.out
    have FC := fc_of (w := w3) (b0 := w.heap.size + 1) (f := ⟨⟨x 0, x 1, x 2, x 3, x 4, x 5⟩, ⟨x 6, x 7, x 8, x 9, x 10, x 11⟩, false, 0, 0, x 12 * 256 + x 13⟩) HA.out
    unfold Fc at FC
    clear hmx
    go_upto_region 18 with (go_at_call 32; refine (may32F ⟨⟨x 0, x 1, x 2, x 3, x 4, x 5⟩, ⟨x 6, x 7, x 8, x 9, x 10, x 11⟩, false, 0, 0, x 12 * 256 + x 13⟩ _).mono ?_; rw [HM.out]; rintro e w4 ⟨rfl, f4⟩)
    clear FC
    have HA4 := Lib.hid ((f4.block (w.heap.size + 1) (by omega) (fun e => e)).trans HA.out)
    have HB4 := Lib.hid ((f4.block w.heap.size (by omega) (fun e => e)).trans HB.out)
    have FW4 := Lib.hid (FW.out.then f4)
    have hz4 : w.heap.size + 2 ≤ w4.heap.size := by have := f4.size; omega
    clear f4 HA HB FW hz3
    have HSF : ∀ w', Fr (fun i => i = w.heap.size) w4 w' → w'.heap[w.heap.size + 1]? = some (.cells #[.int .u8 (x 0), .int .u8 (x 1), .int .u8 (x 2), .int .u8 (x 3), .int .u8 (x 4), .int .u8 (x 5), .int .u8 (x 6), .int .u8 (x 7), .int .u8 (x 8), .int .u8 (x 9), .int .u8 (x 10), .int .u8 (x 11), .bool false, .int .i64 0, .int .i64 0, .int .i64 (x 12 * 256 + x 13)] 25) := fun w' k => (k.block (w.heap.size + 1) (by omega) (by omega)).trans HA4.out
    have HSF := Lib.hid HSF
    have HZ : ∀ w', Fr (fun _ => False) w4 w' → w'.there w.heap.size 0 16 := fun w' k => by
      have hh := (k.block w.heap.size (by omega) (fun e => e)).trans HB4.out
      refine fun j hj => ⟨?_, frozen_of_row w' _ _ _ 25 hh⟩
      rw [Nat.zero_add, cell_of_row w' w.heap.size j _ 25 (0, 0) hh, Array.getElem?_eq_getElem (by simpa using hj)]; rfl
    have HZ := Lib.hid HZ
    have R0 := Lib.hid (Fr.refl (fun i => i = w.heap.size) w4)
    have hl14 : (b.drop 14).length = nb - 12 - 2 := by rw [List.length_drop, HP.out.len]; omega
    have HBY := Lib.hid (show BytesIn w.heap.size w4.drew (some ⟨bb, off + 12 + 2, none⟩) (b.drop 14) from by rw [Nat.add_assoc]; exact ((HP.out.here.drop 14).fr FW4.out.drew (Nat.le_refl _) (fun _ _ e => e)))
    have HL14 := Lib.hid hl14
    clear hl14
    refine wp_region_held_drew (S := fun w' => w'.heap[w.heap.size + 1]? = some (.cells #[.int .u8 (x 0), .int .u8 (x 1), .int .u8 (x 2), .int .u8 (x 3), .int .u8 (x 4), .int .u8 (x 5), .int .u8 (x 6), .int .u8 (x 7), .int .u8 (x 8), .int .u8 (x 9), .int .u8 (x 10), .int .u8 (x 11), .bool false, .int .i64 0, .int .i64 0, .int .i64 (x 12 * 256 + x 13)] 25)) (by kernel_rfl) (HSF.out _ R0.out.drew) (fun hHeld => ?_)
    refine wpAnyH_take (i := 0) (oi := _) (v := _) rfl (by kernel_rfl) (by kernel_rfl) (by kernel_rfl) (fun _ _ _ h => h) (yieldsIf_load_mid (by rfl) 25 _ rfl (w.heap.size + 1) 0 rfl [.int .u8 (x 0), .int .u8 (x 1), .int .u8 (x 2), .int .u8 (x 3), .int .u8 (x 4), .int .u8 (x 5), .int .u8 (x 6), .int .u8 (x 7), .int .u8 (x 8), .int .u8 (x 9), .int .u8 (x 10), .int .u8 (x 11), .bool false, .int .i64 0, .int .i64 0, .int .i64 (x 12 * 256 + x 13)] _ (fun w' hS j v hj => by rw [Nat.zero_add]; exact cells_at w' (w.heap.size + 1) [.int .u8 (x 0), .int .u8 (x 1), .int .u8 (x 2), .int .u8 (x 3), .int .u8 (x 4), .int .u8 (x 5), .int .u8 (x 6), .int .u8 (x 7), .int .u8 (x 8), .int .u8 (x 9), .int .u8 (x 10), .int .u8 (x 11), .bool false, .int .i64 0, .int .i64 0, .int .i64 (x 12 * 256 + x 13)] 25 hS j v hj) Try.underlying25 rfl (by kernel_rfl)) (by assumption) ?_
    try simp only [Act.put, List.getElem_toArray, List.getElem_cons_zero, List.setIfInBounds_toArray, List.set_cons_zero, List.set_cons_succ]
    refine wpAnyH_take (i := 1) (oi := _) (v := _) rfl (by kernel_rfl) (by kernel_rfl) (by kernel_rfl) (fun _ _ _ h => h) (Or.inl ⟨by rfl, fun w' hS => by rfl⟩) (by assumption) ?_
    try simp only [Act.put, List.getElem_toArray, List.getElem_cons_zero, List.getElem_cons_succ, List.setIfInBounds_toArray, List.set_cons_zero, List.set_cons_succ]
    refine wpAnyH_ready (rs := [2]) (by kernel_rfl) (by simp) ?_
    refine AllReadyH.cons rfl (fun K hK => ?_) AllReadyH.nil
    go_simp
    go_wp2_with fail
    refine hK.out _ _ (HSF.out _ R0.out.drew) (fun hHeld => ?_)
    clear hK K
    try simp only [Act.put, List.getElem_toArray, List.getElem_cons_zero, List.getElem_cons_succ, List.setIfInBounds_toArray, List.set_cons_zero, List.set_cons_succ]
    refine wpAnyH_ready (rs := [3]) (by kernel_rfl) (by simp) ?_
    refine AllReadyH.cons rfl (fun K hK => ?_) AllReadyH.nil
    go_simp
    go_at_call 36
    refine (clone36N (A := some ⟨bb, off + 12 + 2, none⟩) (c - 12 - 2) w.heap.size (b.drop 14) _ HL14.out HBY.out (by omega) (by show w.heap.size ≤ w4.heap.size; omega)).mono ?_
    rintro e w5 ⟨v5, rfl, o5, f5⟩
    have F5 : Fr (fun _ => False) w4 w5 := ((Fr.refl (fun _ => False) w4).drew).then f5
    have F5b : Fr (fun i => i = w.heap.size) w4 w5 := F5.mono (fun _ _ e => e.elim)
    refine hK.out _ _ (HSF.out _ F5b) (fun hHeld => ?_)
    clear hK K
    try simp only [Act.put, List.getElem_toArray, List.getElem_cons_zero, List.getElem_cons_succ, List.setIfInBounds_toArray, List.set_cons_zero, List.set_cons_succ]
    refine wpAnyH_ready (rs := [4]) (by kernel_rfl) (by simp) ?_
    refine AllReadyH.cons rfl (fun K hK => ?_) AllReadyH.nil
    rw [if_pos (by rfl)]
    refine store_list 25 _ _ rfl w.heap.size 0 [.int .u8 (x 0), .int .u8 (x 1), .int .u8 (x 2), .int .u8 (x 3), .int .u8 (x 4), .int .u8 (x 5), .int .u8 (x 6), .int .u8 (x 7), .int .u8 (x 8), .int .u8 (x 9), .int .u8 (x 10), .int .u8 (x 11), .bool false, .int .i64 0, .int .i64 0, .int .i64 (x 12 * 256 + x 13)] rfl rfl (HZ.out _ F5) (by kernel_rfl) (by kernel_rfl) ?_
    have hrow := World.rangeAt_setCells_same w5 w.heap.size 0 [.int .u8 (x 0), .int .u8 (x 1), .int .u8 (x 2), .int .u8 (x 3), .int .u8 (x 4), .int .u8 (x 5), .int .u8 (x 6), .int .u8 (x 7), .int .u8 (x 8), .int .u8 (x 9), .int .u8 (x 10), .int .u8 (x 11), .bool false, .int .i64 0, .int .i64 0, .int .i64 (x 12 * 256 + x 13)] (HZ.out _ F5)
    have F6 : Fr (fun i => i = w.heap.size) w4 (w5.setCells w.heap.size 0 [.int .u8 (x 0), .int .u8 (x 1), .int .u8 (x 2), .int .u8 (x 3), .int .u8 (x 4), .int .u8 (x 5), .int .u8 (x 6), .int .u8 (x 7), .int .u8 (x 8), .int .u8 (x 9), .int .u8 (x 10), .int .u8 (x 11), .bool false, .int .i64 0, .int .i64 0, .int .i64 (x 12 * 256 + x 13)]) := Fr.setCells (S := fun i => i = w.heap.size) w.heap.size (fun _ => rfl) _ 0 w5 F5b
    have F7 : Fr (fun _ => False) w (w5.setCells w.heap.size 0 [.int .u8 (x 0), .int .u8 (x 1), .int .u8 (x 2), .int .u8 (x 3), .int .u8 (x 4), .int .u8 (x 5), .int .u8 (x 6), .int .u8 (x 7), .int .u8 (x 8), .int .u8 (x 9), .int .u8 (x 10), .int .u8 (x 11), .bool false, .int .i64 0, .int .i64 0, .int .i64 (x 12 * 256 + x 13)]) := Fr.setCells w.heap.size (fun h => by omega) _ 0 w5 (FW4.out.then F5)
    have o6 : OwnB w.heap.size (w5.setCells w.heap.size 0 [.int .u8 (x 0), .int .u8 (x 1), .int .u8 (x 2), .int .u8 (x 3), .int .u8 (x 4), .int .u8 (x 5), .int .u8 (x 6), .int .u8 (x 7), .int .u8 (x 8), .int .u8 (x 9), .int .u8 (x 10), .int .u8 (x 11), .bool false, .int .i64 0, .int .i64 0, .int .i64 (x 12 * 256 + x 13)]) v5 (b.drop 14) := by
      have hb5 := World.ownsRow.lt o5
      refine (o5.base (base' := w.heap.size) (by show w.heap.size ≤ w4.heap.size; omega)).fr (Fr.setCells (S := fun i => i = w.heap.size) w.heap.size (fun _ => rfl) _ 0 w5 (Fr.refl _ _)) (fun k hk e => ?_)
      have := (hb5 k hk).1
      have h4 : w4.drew.heap.size = w4.heap.size := rfl
      omega
    have c0 := fun j v hj => by have := hrow j v hj; rwa [Nat.zero_add] at this
    generalize w5.setCells w.heap.size 0 [.int .u8 (x 0), .int .u8 (x 1), .int .u8 (x 2), .int .u8 (x 3), .int .u8 (x 4), .int .u8 (x 5), .int .u8 (x 6), .int .u8 (x 7), .int .u8 (x 8), .int .u8 (x 9), .int .u8 (x 10), .int .u8 (x 11), .bool false, .int .i64 0, .int .i64 0, .int .i64 (x 12 * 256 + x 13)] = w6 at F6 F7 o6 c0 ⊢
    clear hrow
    refine hK.out _ _ (HSF.out _ F6) (fun hHeld => ?_)
    clear hK K
    try simp only [Act.put, List.getElem_toArray, List.getElem_cons_zero, List.getElem_cons_succ]
    refine wpAnyH_ready (rs := [5]) (by kernel_rfl) (by simp) ?_
    refine AllReadyH.cons rfl (fun K hK => ?_) AllReadyH.nil
    go_simp
    refine hK.out _ _ (HSF.out _ F6) (fun hHeld => ?_)
    clear hK K
    try simp only [Act.put, List.getElem_toArray, List.getElem_cons_zero, List.getElem_cons_succ, List.setIfInBounds_toArray, List.set_cons_zero, List.set_cons_succ]
    refine wpAnyH_ready (rs := [6]) (by kernel_rfl) (by simp) ?_
    refine AllReadyH.cons rfl (fun K hK => ?_) AllReadyH.nil
    go_simp
    refine hK.out _ _ (HSF.out _ F6) (fun hHeld => ?_)
    clear hK K
    try simp only [Act.put, List.getElem_toArray, List.getElem_cons_zero, List.getElem_cons_succ, List.setIfInBounds_toArray, List.set_cons_zero, List.set_cons_succ]
    refine wpAnyH_done (by kernel_rfl) ?_ _
    go_wp2_with fail
    have hc := And.intro (c0 0 _ rfl) (And.intro (c0 1 _ rfl) (And.intro (c0 2 _ rfl) (And.intro (c0 3 _ rfl) (And.intro (c0 4 _ rfl) (And.intro (c0 5 _ rfl) (And.intro (c0 6 _ rfl) (And.intro (c0 7 _ rfl) (And.intro (c0 8 _ rfl) (And.intro (c0 9 _ rfl) (And.intro (c0 10 _ rfl) (And.intro (c0 11 _ rfl) (And.intro (c0 12 _ rfl) (And.intro (c0 13 _ rfl) (And.intro (c0 14 _ rfl) (c0 15 _ rfl)))))))))))))))
    exact bodyPost_ret (v := .tuple #[.agg #[.int .u8 (x 0), .int .u8 (x 1), .int .u8 (x 2), .int .u8 (x 3), .int .u8 (x 4), .int .u8 (x 5), .int .u8 (x 6), .int .u8 (x 7), .int .u8 (x 8), .int .u8 (x 9), .int .u8 (x 10), .int .u8 (x 11), .bool false, .int .i64 0, .int .i64 0, .int .i64 (x 12 * 256 + x 13)], v5, .int .i64 0]) (by simp [results, Try.results15, go_sem, hc]) rfl ⟨v5, rfl, o6, F7⟩
end Go.Proofs.Ytmonaaappimphaa
