/- The reference's Decode (function 16). No condition but lengths. -/
import Derived.Test.YtmonaaappimphaaEtV
import Derived.Deep.DeepCutAuto
import Derived.StillTailTactics
namespace Go.Proofs.Ytmonaaappimphaa
set_option linter.unusedVariables false
open Go.RowKit

theorem results_cell16 (tmps : Array Value) (w : World) (b : Nat) (cs : List Value) (hp : tmps.getD 2 undef = .pointer (some ⟨b, 0, none⟩)) (hl : (loadVar 25 ⟨b, 0, none⟩).run Try.prog w = .ok (.agg cs.toArray) w) :
    (results Try.f16 tmps).run Try.prog w = .ok (.tuple #[.agg cs.toArray, tmps.getD 3 undef, tmps.getD 4 undef]) w := by
  have ha : (asAddr (.pointer (some ⟨b, 0, none⟩))).run Try.prog w = .ok ⟨b, 0, none⟩ w := by rfl
  rw [Array.getD_eq_getD_getElem?] at *
  simp [results, Try.results16, hp, hl, ha, Sem.run_bind]
theorem wpStill_load_mid {P : Program} {ops : Array Oper} {w : World} {Q : Act → Prop} {a : Act} {op : Oper} {rest : List Oper} (hw : Region.wanted op (yielded ops a.tmps) = true) (ty : TypeId) (x : Operand) (ho : op.op = .load ty x)
    (b o : Nat) (hx : a.eval x = .pointer (some ⟨b, o, none⟩)) (cs : List Value) (d : TypeDesc) (hc : w.rangeAt b o cs)
    (hu : P.underlying ty = some d) (hd : d.isRow = true) (hi : (P.info? ty).map (·.size) = some cs.length) (h : wpStill P ops w Q rest (a.put op.dst (.agg cs.toArray))) : wpStill P ops w Q (op :: rest) a :=
  wpStill_step fun K hK => by
    rw [if_pos hw]
    unfold Oper.still execOp
    simp only [ho, hx, Instr.loadAt, Instr.sureAddr, Sem.run_bind, Sem.run_pure, Result.andThen_ok, run_loadVar_mid w b o ty cs d hc hu hd hi]
    exact ⟨rfl, hK _ h⟩

set_option maxHeartbeats 8000000 in
set_option maxRecDepth 100000 in
theorem rdecode16_short (A : Option Addr) (nb c : Nat) (w : World) (hn : nb < 60) :
    Calls Try.prog 16 #[.slice A nb c] w fun e w' => e = .returned (.tuple #[.agg #[.int .u8 0, .int .u8 0, .int .u8 0, .int .u8 0, .int .u8 0, .int .u8 0, .int .u8 0, .int .u8 0, .int .u8 0, .int .u8 0, .int .u8 0, .int .u8 0, .bool false, .int .i64 0, .int .i64 0, .int .i64 0], .slice none 0 0, .int .i64 3]) ∧ Fr (fun _ => False) w w' := by
  go_enter Try.func16, Try.ntmps16
  go_upto_region 2 with (fail)
  have hz : w.heap.size < (w.alloc (.cells #[.int .u8 0, .int .u8 0, .int .u8 0, .int .u8 0, .int .u8 0, .int .u8 0, .int .u8 0, .int .u8 0, .int .u8 0, .int .u8 0, .int .u8 0, .int .u8 0, .bool false, .int .i64 0, .int .i64 0, .int .i64 0] 25)).heap.size := by simp
  have HB := Lib.hid (heap_alloc_new w (.cells #[.int .u8 0, .int .u8 0, .int .u8 0, .int .u8 0, .int .u8 0, .int .u8 0, .int .u8 0, .int .u8 0, .int .u8 0, .int .u8 0, .int .u8 0, .int .u8 0, .bool false, .int .i64 0, .int .i64 0, .int .i64 0] 25))
  have FWE := Lib.hid ((Fr.refl (fun _ => False) w).alloc (.cells #[.int .u8 0, .int .u8 0, .int .u8 0, .int .u8 0, .int .u8 0, .int .u8 0, .int .u8 0, .int .u8 0, .int .u8 0, .int .u8 0, .int .u8 0, .int .u8 0, .bool false, .int .i64 0, .int .i64 0, .int .i64 0] 25))
  generalize w.alloc (.cells #[.int .u8 0, .int .u8 0, .int .u8 0, .int .u8 0, .int .u8 0, .int .u8 0, .int .u8 0, .int .u8 0, .int .u8 0, .int .u8 0, .int .u8 0, .int .u8 0, .bool false, .int .i64 0, .int .i64 0, .int .i64 0] 25) = wE at hz HB FWE ⊢
  have HZ : ∀ w', Fr (fun _ => False) wE w' → w'.there w.heap.size 0 16 := fun w' k => by
    have hh := (k.block w.heap.size (by omega) (fun e => e)).trans HB.out
    refine fun j hj => ⟨?_, frozen_of_row w' _ _ _ 25 hh⟩
    rw [Nat.zero_add, cell_of_row w' w.heap.size j _ 25 (0, 0) hh, Array.getElem?_eq_getElem (by simpa using hj)]; rfl
  have HZ := Lib.hid HZ
  go_step
  refine wpList_plain rfl fun K hK => ?_
  go_simp
  refine hK _ _ ?_
  refine wpList_store_mid rfl 25 _ _ rfl w.heap.size 0 #[.int .u8 0, .int .u8 0, .int .u8 0, .int .u8 0, .int .u8 0, .int .u8 0, .int .u8 0, .int .u8 0, .int .u8 0, .int .u8 0, .int .u8 0, .int .u8 0, .bool false, .int .i64 0, .int .i64 0, .int .i64 0] rfl rfl (HZ.out _ (Fr.refl _ _)) (by kernel_rfl) (by kernel_rfl) ?_
  have hrow := World.rangeAt_setCells_same wE w.heap.size 0 [.int .u8 0, .int .u8 0, .int .u8 0, .int .u8 0, .int .u8 0, .int .u8 0, .int .u8 0, .int .u8 0, .int .u8 0, .int .u8 0, .int .u8 0, .int .u8 0, .bool false, .int .i64 0, .int .i64 0, .int .i64 0] (HZ.out _ (Fr.refl _ _))
  have F7 : Fr (fun _ => False) w (wE.setCells w.heap.size 0 [.int .u8 0, .int .u8 0, .int .u8 0, .int .u8 0, .int .u8 0, .int .u8 0, .int .u8 0, .int .u8 0, .int .u8 0, .int .u8 0, .int .u8 0, .int .u8 0, .bool false, .int .i64 0, .int .i64 0, .int .i64 0]) := Fr.setCells w.heap.size (fun h => by omega) _ 0 wE FWE.out
  have c0 := hrow
  generalize wE.setCells w.heap.size 0 [.int .u8 0, .int .u8 0, .int .u8 0, .int .u8 0, .int .u8 0, .int .u8 0, .int .u8 0, .int .u8 0, .int .u8 0, .int .u8 0, .int .u8 0, .int .u8 0, .bool false, .int .i64 0, .int .i64 0, .int .i64 0] = w6 at F7 c0 ⊢
  clear hrow
  go_wp2_with fail
  exact bodyPost_ret (v := .tuple #[.agg #[.int .u8 0, .int .u8 0, .int .u8 0, .int .u8 0, .int .u8 0, .int .u8 0, .int .u8 0, .int .u8 0, .int .u8 0, .int .u8 0, .int .u8 0, .int .u8 0, .bool false, .int .i64 0, .int .i64 0, .int .i64 0], .slice none 0 0, .int .i64 3]) (results_cell16 _ w6 w.heap.size [.int .u8 0, .int .u8 0, .int .u8 0, .int .u8 0, .int .u8 0, .int .u8 0, .int .u8 0, .int .u8 0, .int .u8 0, .int .u8 0, .int .u8 0, .int .u8 0, .bool false, .int .i64 0, .int .i64 0, .int .i64 0] rfl (run_loadVar_mid w6 w.heap.size 0 25 [.int .u8 0, .int .u8 0, .int .u8 0, .int .u8 0, .int .u8 0, .int .u8 0, .int .u8 0, .int .u8 0, .int .u8 0, .int .u8 0, .int .u8 0, .int .u8 0, .bool false, .int .i64 0, .int .i64 0, .int .i64 0] _ c0 Try.underlying25 rfl (by kernel_rfl))) rfl ⟨rfl, F7⟩

set_option maxHeartbeats 8000000 in
set_option maxRecDepth 100000 in
theorem rdecode16_all (bb off nb c : Nat) (b : List Int) (x : Nat → Int) (tg : Bool) (t : Nat) (mo : Int) (g : Fh) (bad : Bool) (w : World) (hn : 60 ≤ nb) (hc : nb ≤ c) (P : Pc w (some ⟨bb, off, none⟩) nb b) (hxb : ∀ i, i < 18 → b[i]? = some (x i))
    (htg : (x 12 * 256 + x 13 == 33024) = tg) (ht : t = cond tg 16 12) (hmo : mo = cond tg 274 270)
    (hg : g = ⟨⟨x 0, x 1, x 2, x 3, x 4, x 5⟩, ⟨x 6, x 7, x 8, x 9, x 10, x 11⟩, tg, cond tg (x 14 % 16 * 256 + x 15) 0, cond tg (x 14 / 32) 0, x t * 256 + x (t + 1)⟩)
    (hbad : bad = (decide (g.ty < 1536) || (tg && ((x 14 / 16 % 2 == 1) || (g.ty == 33024))))) :
    Calls Try.prog 16 #[.slice (some ⟨bb, off, none⟩) nb c] w fun e w' => Fr (fun _ => False) w w' ∧ (mo < nb → e = .returned (.tuple #[.agg #[.int .u8 0, .int .u8 0, .int .u8 0, .int .u8 0, .int .u8 0, .int .u8 0, .int .u8 0, .int .u8 0, .int .u8 0, .int .u8 0, .int .u8 0, .int .u8 0, .bool false, .int .i64 0, .int .i64 0, .int .i64 0], .slice none 0 0, .int .i64 2])) ∧ (¬ mo < nb → bad = true → e = .returned (.tuple #[.agg #[.int .u8 0, .int .u8 0, .int .u8 0, .int .u8 0, .int .u8 0, .int .u8 0, .int .u8 0, .int .u8 0, .int .u8 0, .int .u8 0, .int .u8 0, .int .u8 0, .bool false, .int .i64 0, .int .i64 0, .int .i64 0], .slice none 0 0, .int .i64 4])) ∧ (¬ mo < nb → bad = false → e = .returned (.tuple #[.agg #[.int .u8 g.dst.a, .int .u8 g.dst.b, .int .u8 g.dst.c, .int .u8 g.dst.d, .int .u8 g.dst.e, .int .u8 g.dst.f, .int .u8 g.src.a, .int .u8 g.src.b, .int .u8 g.src.c, .int .u8 g.src.d, .int .u8 g.src.e, .int .u8 g.src.f, .bool g.tag, .int .i64 g.vlan, .int .i64 g.prio, .int .i64 g.ty], .slice (some ⟨bb, off + (t + 2), none⟩) (nb - (t + 2)) (c - (t + 2)), .int .i64 0])) := by
  have hx : ∀ i, i < 18 → w.cell? ⟨bb, off + i, none⟩ = some (.int .u8 (x i)) ∧ 0 ≤ x i ∧ x i < 256 := fun i hi => by
    obtain ⟨b', o', e, _, hcell⟩ := P.here (by rw [P.len]; omega)
    cases e
    have := P.ok _ (List.mem_of_getElem? (hxb i hi))
    exact ⟨hcell i _ (hxb i hi), by omega, by omega⟩
  have HP := Lib.hid P
  have hb : bb < w.heap.size := block_lt_of_cell (hx 0 (by omega)).1
  have HX := Lib.hid hx
  have HTG := Lib.hid htg
  have HTT := Lib.hid ht
  have HMO := Lib.hid hmo
  have HGG := Lib.hid hg
  have HBAD := Lib.hid hbad
  clear P hxb hx htg ht hmo hg hbad
  go_enter Try.func16, Try.ntmps16
  go_upto_region 3 with (fail)
  have HR := Lib.hid (heap_alloc_new w (.cells #[.int .u8 0, .int .u8 0, .int .u8 0, .int .u8 0, .int .u8 0, .int .u8 0, .int .u8 0, .int .u8 0, .int .u8 0, .int .u8 0, .int .u8 0, .int .u8 0, .bool false, .int .i64 0, .int .i64 0, .int .i64 0] 25))
  have F0 := Lib.hid ((Fr.refl (fun _ => False) w).alloc (.cells #[.int .u8 0, .int .u8 0, .int .u8 0, .int .u8 0, .int .u8 0, .int .u8 0, .int .u8 0, .int .u8 0, .int .u8 0, .int .u8 0, .int .u8 0, .int .u8 0, .bool false, .int .i64 0, .int .i64 0, .int .i64 0] 25))
  have hz : (w.alloc (.cells #[.int .u8 0, .int .u8 0, .int .u8 0, .int .u8 0, .int .u8 0, .int .u8 0, .int .u8 0, .int .u8 0, .int .u8 0, .int .u8 0, .int .u8 0, .int .u8 0, .bool false, .int .i64 0, .int .i64 0, .int .i64 0] 25)).heap.size = w.heap.size + 1 := by simp
  generalize w.alloc (.cells #[.int .u8 0, .int .u8 0, .int .u8 0, .int .u8 0, .int .u8 0, .int .u8 0, .int .u8 0, .int .u8 0, .int .u8 0, .int .u8 0, .int .u8 0, .int .u8 0, .bool false, .int .i64 0, .int .i64 0, .int .i64 0] 25) = w1 at F0 HR hz ⊢
  go_wp2_with fail
  have HR5 := Lib.hid (heap_alloc_new w1 (.cells #[.int .u8 0, .int .u8 0, .int .u8 0, .int .u8 0, .int .u8 0, .int .u8 0, .int .u8 0, .int .u8 0, .int .u8 0, .int .u8 0, .int .u8 0, .int .u8 0, .bool false, .int .i64 0, .int .i64 0, .int .i64 0] 25))
  have F1 := Lib.hid ((Fr.refl (fun _ => False) w1).alloc (.cells #[.int .u8 0, .int .u8 0, .int .u8 0, .int .u8 0, .int .u8 0, .int .u8 0, .int .u8 0, .int .u8 0, .int .u8 0, .int .u8 0, .int .u8 0, .int .u8 0, .bool false, .int .i64 0, .int .i64 0, .int .i64 0] 25))
  have hz2 : (w1.alloc (.cells #[.int .u8 0, .int .u8 0, .int .u8 0, .int .u8 0, .int .u8 0, .int .u8 0, .int .u8 0, .int .u8 0, .int .u8 0, .int .u8 0, .int .u8 0, .int .u8 0, .bool false, .int .i64 0, .int .i64 0, .int .i64 0] 25)).heap.size = w.heap.size + 2 := by simp; omega
  have e5 : w1.heap.size = w.heap.size + 1 := hz
  rw [hz] at HR5
  generalize w1.alloc (.cells #[.int .u8 0, .int .u8 0, .int .u8 0, .int .u8 0, .int .u8 0, .int .u8 0, .int .u8 0, .int .u8 0, .int .u8 0, .int .u8 0, .int .u8 0, .int .u8 0, .bool false, .int .i64 0, .int .i64 0, .int .i64 0] 25) = w2 at F1 HR5 hz2 ⊢
  have FW2 := Lib.hid (F0.out.then F1.out)
  have HR2 := Lib.hid ((F1.out.block w.heap.size (by omega) (fun e => e)).trans HR.out)
  clear HR F0 F1 e5
  go_loopw [6] (fun v6 wr => ∃ i : Nat, v6 = .int .i64 i ∧ i ≤ 6 ∧ wr.heap[w.heap.size + 1]? = some (.cells #[.int .u8 (cond (Nat.blt 0 i) (x 0) 0), .int .u8 (cond (Nat.blt 1 i) (x 1) 0), .int .u8 (cond (Nat.blt 2 i) (x 2) 0), .int .u8 (cond (Nat.blt 3 i) (x 3) 0), .int .u8 (cond (Nat.blt 4 i) (x 4) 0), .int .u8 (cond (Nat.blt 5 i) (x 5) 0), .int .u8 (cond (Nat.blt 0 i) (x 6) 0), .int .u8 (cond (Nat.blt 1 i) (x 7) 0), .int .u8 (cond (Nat.blt 2 i) (x 8) 0), .int .u8 (cond (Nat.blt 3 i) (x 9) 0), .int .u8 (cond (Nat.blt 4 i) (x 10) 0), .int .u8 (cond (Nat.blt 5 i) (x 11) 0), .bool false, .int .i64 0, .int .i64 0, .int .i64 0] 25) ∧ Fr (fun k => k = w.heap.size + 1) w2 wr ∧ wr.heap.size = w.heap.size + 2) (fun v _ => 6 - (intOf v).toNat)
  case atStart => exact ⟨0, rfl, Nat.zero_le _, HR5.out, Fr.refl _ _, hz2⟩
  case round =>
    obtain ⟨i, rfl, hi, hrow, hF, hsz⟩ := hrel
    rename World => wr
    have HROW := Lib.hid hrow
    have HFR := Lib.hid hF
    have FWR := Lib.hid (FW2.out.trans (S' := fun k => k = w.heap.size + 1) hF (fun i hi e => by omega))
    clear hrow hF HR5
    by_cases hlt : i < 6
    · rcases (by omega : i = 0 ∨ i = 1 ∨ i = 2 ∨ i = 3 ∨ i = 4 ∨ i = 5) with rfl | rfl | rfl | rfl | rfl | rfl
      · clear hi hlt
        have hr : wr.heap[w.heap.size + 1]? = some (.cells #[.int .u8 0, .int .u8 0, .int .u8 0, .int .u8 0, .int .u8 0, .int .u8 0, .int .u8 0, .int .u8 0, .int .u8 0, .int .u8 0, .int .u8 0, .int .u8 0, .bool false, .int .i64 0, .int .i64 0, .int .i64 0] 25) := HROW.out
        have a0 : wr.cell? ⟨bb, off, none⟩ = some (.int .u8 (x 0)) := (World.cell?_of_block (FWR.out.block bb hb (fun e => e))).trans (HX.out 0 (by omega)).1
        have a1 : wr.cell? ⟨bb, off + 6, none⟩ = some (.int .u8 (x 6)) := (World.cell?_of_block (FWR.out.block bb hb (fun e => e))).trans (HX.out 6 (by omega)).1
        have c0 : wr.cell? ⟨w.heap.size + 1, 0, none⟩ = some (.int .u8 0) := cells_at wr _ [.int .u8 0, .int .u8 0, .int .u8 0, .int .u8 0, .int .u8 0, .int .u8 0, .int .u8 0, .int .u8 0, .int .u8 0, .int .u8 0, .int .u8 0, .int .u8 0, .bool false, .int .i64 0, .int .i64 0, .int .i64 0] 25 hr 0 _ rfl
        have c1 : wr.cell? ⟨w.heap.size + 1, 6, none⟩ = some (.int .u8 0) := cells_at wr _ [.int .u8 0, .int .u8 0, .int .u8 0, .int .u8 0, .int .u8 0, .int .u8 0, .int .u8 0, .int .u8 0, .int .u8 0, .int .u8 0, .int .u8 0, .int .u8 0, .bool false, .int .i64 0, .int .i64 0, .int .i64 0] 25 hr 6 _ rfl
        have z0 : wr.frozen? ⟨w.heap.size + 1, 0, none⟩ = false := frozen_of_row wr _ 0 _ 25 hr
        have z1 : wr.frozen? ⟨w.heap.size + 1, 6, none⟩ = false := frozen_of_row wr _ 6 _ 25 hr
        have HRR := Lib.hid hr
        clear hr
        go_wp2_with fail
        go_roundw
        case rel => exact ⟨1, by go_num, by omega, by rw [heap_setCell_same _ (w.heap.size + 1) 6 _ 25 _ (heap_setCell_same wr (w.heap.size + 1) 0 _ 25 _ HRR.out)]; rfl, (HFR.out.setCell _ _ (fun _ => rfl)).setCell _ _ (fun _ => rfl), by rw [← hsz]; simp [World.setCell]⟩
        case measure => simp [intOf]
      · clear hi hlt
        have hr : wr.heap[w.heap.size + 1]? = some (.cells #[.int .u8 (x 0), .int .u8 0, .int .u8 0, .int .u8 0, .int .u8 0, .int .u8 0, .int .u8 (x 6), .int .u8 0, .int .u8 0, .int .u8 0, .int .u8 0, .int .u8 0, .bool false, .int .i64 0, .int .i64 0, .int .i64 0] 25) := HROW.out
        have a0 : wr.cell? ⟨bb, off + 1, none⟩ = some (.int .u8 (x 1)) := (World.cell?_of_block (FWR.out.block bb hb (fun e => e))).trans (HX.out 1 (by omega)).1
        have a1 : wr.cell? ⟨bb, off + 7, none⟩ = some (.int .u8 (x 7)) := (World.cell?_of_block (FWR.out.block bb hb (fun e => e))).trans (HX.out 7 (by omega)).1
        have c0 : wr.cell? ⟨w.heap.size + 1, 1, none⟩ = some (.int .u8 0) := cells_at wr _ [.int .u8 (x 0), .int .u8 0, .int .u8 0, .int .u8 0, .int .u8 0, .int .u8 0, .int .u8 (x 6), .int .u8 0, .int .u8 0, .int .u8 0, .int .u8 0, .int .u8 0, .bool false, .int .i64 0, .int .i64 0, .int .i64 0] 25 hr 1 _ rfl
        have c1 : wr.cell? ⟨w.heap.size + 1, 7, none⟩ = some (.int .u8 0) := cells_at wr _ [.int .u8 (x 0), .int .u8 0, .int .u8 0, .int .u8 0, .int .u8 0, .int .u8 0, .int .u8 (x 6), .int .u8 0, .int .u8 0, .int .u8 0, .int .u8 0, .int .u8 0, .bool false, .int .i64 0, .int .i64 0, .int .i64 0] 25 hr 7 _ rfl
        have z0 : wr.frozen? ⟨w.heap.size + 1, 1, none⟩ = false := frozen_of_row wr _ 1 _ 25 hr
        have z1 : wr.frozen? ⟨w.heap.size + 1, 7, none⟩ = false := frozen_of_row wr _ 7 _ 25 hr
        have HRR := Lib.hid hr
        clear hr
        go_wp2_with fail
        go_roundw
        case rel => exact ⟨2, by go_num, by omega, by rw [heap_setCell_same _ (w.heap.size + 1) 7 _ 25 _ (heap_setCell_same wr (w.heap.size + 1) 1 _ 25 _ HRR.out)]; rfl, (HFR.out.setCell _ _ (fun _ => rfl)).setCell _ _ (fun _ => rfl), by rw [← hsz]; simp [World.setCell]⟩
        case measure => simp [intOf]
      · clear hi hlt
        have hr : wr.heap[w.heap.size + 1]? = some (.cells #[.int .u8 (x 0), .int .u8 (x 1), .int .u8 0, .int .u8 0, .int .u8 0, .int .u8 0, .int .u8 (x 6), .int .u8 (x 7), .int .u8 0, .int .u8 0, .int .u8 0, .int .u8 0, .bool false, .int .i64 0, .int .i64 0, .int .i64 0] 25) := HROW.out
        have a0 : wr.cell? ⟨bb, off + 2, none⟩ = some (.int .u8 (x 2)) := (World.cell?_of_block (FWR.out.block bb hb (fun e => e))).trans (HX.out 2 (by omega)).1
        have a1 : wr.cell? ⟨bb, off + 8, none⟩ = some (.int .u8 (x 8)) := (World.cell?_of_block (FWR.out.block bb hb (fun e => e))).trans (HX.out 8 (by omega)).1
        have c0 : wr.cell? ⟨w.heap.size + 1, 2, none⟩ = some (.int .u8 0) := cells_at wr _ [.int .u8 (x 0), .int .u8 (x 1), .int .u8 0, .int .u8 0, .int .u8 0, .int .u8 0, .int .u8 (x 6), .int .u8 (x 7), .int .u8 0, .int .u8 0, .int .u8 0, .int .u8 0, .bool false, .int .i64 0, .int .i64 0, .int .i64 0] 25 hr 2 _ rfl
        have c1 : wr.cell? ⟨w.heap.size + 1, 8, none⟩ = some (.int .u8 0) := cells_at wr _ [.int .u8 (x 0), .int .u8 (x 1), .int .u8 0, .int .u8 0, .int .u8 0, .int .u8 0, .int .u8 (x 6), .int .u8 (x 7), .int .u8 0, .int .u8 0, .int .u8 0, .int .u8 0, .bool false, .int .i64 0, .int .i64 0, .int .i64 0] 25 hr 8 _ rfl
        have z0 : wr.frozen? ⟨w.heap.size + 1, 2, none⟩ = false := frozen_of_row wr _ 2 _ 25 hr
        have z1 : wr.frozen? ⟨w.heap.size + 1, 8, none⟩ = false := frozen_of_row wr _ 8 _ 25 hr
        have HRR := Lib.hid hr
        clear hr
        go_wp2_with fail
        go_roundw
        case rel => exact ⟨3, by go_num, by omega, by rw [heap_setCell_same _ (w.heap.size + 1) 8 _ 25 _ (heap_setCell_same wr (w.heap.size + 1) 2 _ 25 _ HRR.out)]; rfl, (HFR.out.setCell _ _ (fun _ => rfl)).setCell _ _ (fun _ => rfl), by rw [← hsz]; simp [World.setCell]⟩
        case measure => simp [intOf]
      · clear hi hlt
        have hr : wr.heap[w.heap.size + 1]? = some (.cells #[.int .u8 (x 0), .int .u8 (x 1), .int .u8 (x 2), .int .u8 0, .int .u8 0, .int .u8 0, .int .u8 (x 6), .int .u8 (x 7), .int .u8 (x 8), .int .u8 0, .int .u8 0, .int .u8 0, .bool false, .int .i64 0, .int .i64 0, .int .i64 0] 25) := HROW.out
        have a0 : wr.cell? ⟨bb, off + 3, none⟩ = some (.int .u8 (x 3)) := (World.cell?_of_block (FWR.out.block bb hb (fun e => e))).trans (HX.out 3 (by omega)).1
        have a1 : wr.cell? ⟨bb, off + 9, none⟩ = some (.int .u8 (x 9)) := (World.cell?_of_block (FWR.out.block bb hb (fun e => e))).trans (HX.out 9 (by omega)).1
        have c0 : wr.cell? ⟨w.heap.size + 1, 3, none⟩ = some (.int .u8 0) := cells_at wr _ [.int .u8 (x 0), .int .u8 (x 1), .int .u8 (x 2), .int .u8 0, .int .u8 0, .int .u8 0, .int .u8 (x 6), .int .u8 (x 7), .int .u8 (x 8), .int .u8 0, .int .u8 0, .int .u8 0, .bool false, .int .i64 0, .int .i64 0, .int .i64 0] 25 hr 3 _ rfl
        have c1 : wr.cell? ⟨w.heap.size + 1, 9, none⟩ = some (.int .u8 0) := cells_at wr _ [.int .u8 (x 0), .int .u8 (x 1), .int .u8 (x 2), .int .u8 0, .int .u8 0, .int .u8 0, .int .u8 (x 6), .int .u8 (x 7), .int .u8 (x 8), .int .u8 0, .int .u8 0, .int .u8 0, .bool false, .int .i64 0, .int .i64 0, .int .i64 0] 25 hr 9 _ rfl
        have z0 : wr.frozen? ⟨w.heap.size + 1, 3, none⟩ = false := frozen_of_row wr _ 3 _ 25 hr
        have z1 : wr.frozen? ⟨w.heap.size + 1, 9, none⟩ = false := frozen_of_row wr _ 9 _ 25 hr
        have HRR := Lib.hid hr
        clear hr
        go_wp2_with fail
        go_roundw
        case rel => exact ⟨4, by go_num, by omega, by rw [heap_setCell_same _ (w.heap.size + 1) 9 _ 25 _ (heap_setCell_same wr (w.heap.size + 1) 3 _ 25 _ HRR.out)]; rfl, (HFR.out.setCell _ _ (fun _ => rfl)).setCell _ _ (fun _ => rfl), by rw [← hsz]; simp [World.setCell]⟩
        case measure => simp [intOf]
      · clear hi hlt
        have hr : wr.heap[w.heap.size + 1]? = some (.cells #[.int .u8 (x 0), .int .u8 (x 1), .int .u8 (x 2), .int .u8 (x 3), .int .u8 0, .int .u8 0, .int .u8 (x 6), .int .u8 (x 7), .int .u8 (x 8), .int .u8 (x 9), .int .u8 0, .int .u8 0, .bool false, .int .i64 0, .int .i64 0, .int .i64 0] 25) := HROW.out
        have a0 : wr.cell? ⟨bb, off + 4, none⟩ = some (.int .u8 (x 4)) := (World.cell?_of_block (FWR.out.block bb hb (fun e => e))).trans (HX.out 4 (by omega)).1
        have a1 : wr.cell? ⟨bb, off + 10, none⟩ = some (.int .u8 (x 10)) := (World.cell?_of_block (FWR.out.block bb hb (fun e => e))).trans (HX.out 10 (by omega)).1
        have c0 : wr.cell? ⟨w.heap.size + 1, 4, none⟩ = some (.int .u8 0) := cells_at wr _ [.int .u8 (x 0), .int .u8 (x 1), .int .u8 (x 2), .int .u8 (x 3), .int .u8 0, .int .u8 0, .int .u8 (x 6), .int .u8 (x 7), .int .u8 (x 8), .int .u8 (x 9), .int .u8 0, .int .u8 0, .bool false, .int .i64 0, .int .i64 0, .int .i64 0] 25 hr 4 _ rfl
        have c1 : wr.cell? ⟨w.heap.size + 1, 10, none⟩ = some (.int .u8 0) := cells_at wr _ [.int .u8 (x 0), .int .u8 (x 1), .int .u8 (x 2), .int .u8 (x 3), .int .u8 0, .int .u8 0, .int .u8 (x 6), .int .u8 (x 7), .int .u8 (x 8), .int .u8 (x 9), .int .u8 0, .int .u8 0, .bool false, .int .i64 0, .int .i64 0, .int .i64 0] 25 hr 10 _ rfl
        have z0 : wr.frozen? ⟨w.heap.size + 1, 4, none⟩ = false := frozen_of_row wr _ 4 _ 25 hr
        have z1 : wr.frozen? ⟨w.heap.size + 1, 10, none⟩ = false := frozen_of_row wr _ 10 _ 25 hr
        have HRR := Lib.hid hr
        clear hr
        go_wp2_with fail
        go_roundw
        case rel => exact ⟨5, by go_num, by omega, by rw [heap_setCell_same _ (w.heap.size + 1) 10 _ 25 _ (heap_setCell_same wr (w.heap.size + 1) 4 _ 25 _ HRR.out)]; rfl, (HFR.out.setCell _ _ (fun _ => rfl)).setCell _ _ (fun _ => rfl), by rw [← hsz]; simp [World.setCell]⟩
        case measure => simp [intOf]
      · clear hi hlt
        have hr : wr.heap[w.heap.size + 1]? = some (.cells #[.int .u8 (x 0), .int .u8 (x 1), .int .u8 (x 2), .int .u8 (x 3), .int .u8 (x 4), .int .u8 0, .int .u8 (x 6), .int .u8 (x 7), .int .u8 (x 8), .int .u8 (x 9), .int .u8 (x 10), .int .u8 0, .bool false, .int .i64 0, .int .i64 0, .int .i64 0] 25) := HROW.out
        have a0 : wr.cell? ⟨bb, off + 5, none⟩ = some (.int .u8 (x 5)) := (World.cell?_of_block (FWR.out.block bb hb (fun e => e))).trans (HX.out 5 (by omega)).1
        have a1 : wr.cell? ⟨bb, off + 11, none⟩ = some (.int .u8 (x 11)) := (World.cell?_of_block (FWR.out.block bb hb (fun e => e))).trans (HX.out 11 (by omega)).1
        have c0 : wr.cell? ⟨w.heap.size + 1, 5, none⟩ = some (.int .u8 0) := cells_at wr _ [.int .u8 (x 0), .int .u8 (x 1), .int .u8 (x 2), .int .u8 (x 3), .int .u8 (x 4), .int .u8 0, .int .u8 (x 6), .int .u8 (x 7), .int .u8 (x 8), .int .u8 (x 9), .int .u8 (x 10), .int .u8 0, .bool false, .int .i64 0, .int .i64 0, .int .i64 0] 25 hr 5 _ rfl
        have c1 : wr.cell? ⟨w.heap.size + 1, 11, none⟩ = some (.int .u8 0) := cells_at wr _ [.int .u8 (x 0), .int .u8 (x 1), .int .u8 (x 2), .int .u8 (x 3), .int .u8 (x 4), .int .u8 0, .int .u8 (x 6), .int .u8 (x 7), .int .u8 (x 8), .int .u8 (x 9), .int .u8 (x 10), .int .u8 0, .bool false, .int .i64 0, .int .i64 0, .int .i64 0] 25 hr 11 _ rfl
        have z0 : wr.frozen? ⟨w.heap.size + 1, 5, none⟩ = false := frozen_of_row wr _ 5 _ 25 hr
        have z1 : wr.frozen? ⟨w.heap.size + 1, 11, none⟩ = false := frozen_of_row wr _ 11 _ 25 hr
        have HRR := Lib.hid hr
        clear hr
        go_wp2_with fail
        go_roundw
        case rel => exact ⟨6, by go_num, by omega, by rw [heap_setCell_same _ (w.heap.size + 1) 11 _ 25 _ (heap_setCell_same wr (w.heap.size + 1) 5 _ 25 _ HRR.out)]; rfl, (HFR.out.setCell _ _ (fun _ => rfl)).setCell _ _ (fun _ => rfl), by rw [← hsz]; simp [World.setCell]⟩
        case measure => simp [intOf]
    · obtain rfl : i = 6 := by omega
      clear hi hlt
      have hr6 : wr.heap[w.heap.size + 1]? = some (.cells #[.int .u8 (x 0), .int .u8 (x 1), .int .u8 (x 2), .int .u8 (x 3), .int .u8 (x 4), .int .u8 (x 5), .int .u8 (x 6), .int .u8 (x 7), .int .u8 (x 8), .int .u8 (x 9), .int .u8 (x 10), .int .u8 (x 11), .bool false, .int .i64 0, .int .i64 0, .int .i64 0] 25) := HROW.out
      have H6 := Lib.hid hr6
      clear hr6 HROW
      have d12 : wr.cell? ⟨bb, off + 12, none⟩ = some (.int .u8 (x 12)) := (World.cell?_of_block (FWR.out.block bb hb (fun e => e))).trans (HX.out 12 (by omega)).1
      have d13 : wr.cell? ⟨bb, off + 13, none⟩ = some (.int .u8 (x 13)) := (World.cell?_of_block (FWR.out.block bb hb (fun e => e))).trans (HX.out 13 (by omega)).1
      have c12 : wr.cell? ⟨w.heap.size + 1, 12, none⟩ = some (.bool false) := cells_at wr _ [.int .u8 (x 0), .int .u8 (x 1), .int .u8 (x 2), .int .u8 (x 3), .int .u8 (x 4), .int .u8 (x 5), .int .u8 (x 6), .int .u8 (x 7), .int .u8 (x 8), .int .u8 (x 9), .int .u8 (x 10), .int .u8 (x 11), .bool false, .int .i64 0, .int .i64 0, .int .i64 0] 25 H6.out 12 _ rfl
      have z12 : wr.frozen? ⟨w.heap.size + 1, 12, none⟩ = false := frozen_of_row wr _ 12 _ 25 H6.out
      have r12 := (HX.out 12 (by omega)).2
      have r13 := (HX.out 13 (by omega)).2
      go_upto_region 10 with (fail)
      go_cut [7] (fun v7 wc => v7 = .int .i64 12 ∧ wc.heap[w.heap.size + 1]? = some (.cells #[.int .u8 (x 0), .int .u8 (x 1), .int .u8 (x 2), .int .u8 (x 3), .int .u8 (x 4), .int .u8 (x 5), .int .u8 (x 6), .int .u8 (x 7), .int .u8 (x 8), .int .u8 (x 9), .int .u8 (x 10), .int .u8 (x 11), .bool tg, .int .i64 0, .int .i64 0, .int .i64 0] 25) ∧ Fr (fun k => k = w.heap.size + 1) w2 wc ∧ wc.heap.size = w.heap.size + 2)
      case first =>
        have hst : ∀ u : Bool, (wr.setCell ⟨w.heap.size + 1, 12, none⟩ (.bool u)).heap[w.heap.size + 1]? = some (.cells #[.int .u8 (x 0), .int .u8 (x 1), .int .u8 (x 2), .int .u8 (x 3), .int .u8 (x 4), .int .u8 (x 5), .int .u8 (x 6), .int .u8 (x 7), .int .u8 (x 8), .int .u8 (x 9), .int .u8 (x 10), .int .u8 (x 11), .bool u, .int .i64 0, .int .i64 0, .int .i64 0] 25) := fun u => by
          rw [heap_setCell_same wr (w.heap.size + 1) 12 _ 25 _ H6.out]; rfl
        have HST := Lib.hid hst
        clear hst
        by_cases e12 : x 12 = 129
        · by_cases e13 : x 13 = 0
          · have ht : tg = true := by rw [← HTG.out, e12, e13]; rfl
            have HT := Lib.hid ht
            clear ht
            have e12b : (x 12 == 129) = true := by simpa using e12
            have e13b : (x 13 == 0) = true := by simpa using e13
            clear e12 e13
            go_wp2_with fail
            go_meet
            refine ⟨rfl, ?_, HFR.out.setCell _ _ (fun _ => rfl), by rw [← hsz]; simp [World.setCell]⟩
            rw [HT.out]; exact HST.out true
          · have ht : tg = false := by rw [← HTG.out]; simp; omega
            have HT := Lib.hid ht
            clear ht
            have e12b : (x 12 == 129) = true := by simpa using e12
            have e13b : (x 13 == 0) = false := by simpa using e13
            clear e12 e13
            go_wp2_with fail
            go_meet
            refine ⟨rfl, ?_, HFR.out.setCell _ _ (fun _ => rfl), by rw [← hsz]; simp [World.setCell]⟩
            rw [HT.out]; exact HST.out false
        · have ht : tg = false := by rw [← HTG.out]; simp; omega
          have HT := Lib.hid ht
          clear ht
          have e12b : (x 12 == 129) = false := by simpa using e12
          clear e12
          go_wp2_with fail
          go_meet
          refine ⟨rfl, ?_, HFR.out.setCell _ _ (fun _ => rfl), by rw [← hsz]; simp [World.setCell]⟩
          rw [HT.out]; exact HST.out false
      case rest =>
        as_aux_lemma =>
          obtain ⟨rfl, hrow, hF, hs3⟩ := hcut
          have HROW := Lib.hid hrow
          have FWC := Lib.hid (FW2.out.trans (S' := fun k => k = w.heap.size + 1) hF (fun i hi e => by omega))
          have HBC := (hF.block w.heap.size (by omega) (by omega)).trans HR2.out
          have HBC := Lib.hid HBC
          clear d12 d13 c12 z12 r12 r13 hrow hF H6 HFR FWR hsz FW2 HR2 HTG
          have c12 : wc.cell? ⟨w.heap.size + 1, 12, none⟩ = some (.bool tg) := cells_at wc _ [.int .u8 (x 0), .int .u8 (x 1), .int .u8 (x 2), .int .u8 (x 3), .int .u8 (x 4), .int .u8 (x 5), .int .u8 (x 6), .int .u8 (x 7), .int .u8 (x 8), .int .u8 (x 9), .int .u8 (x 10), .int .u8 (x 11), .bool tg, .int .i64 0, .int .i64 0, .int .i64 0] 25 HROW.out 12 _ rfl
          cases tg
          · as_aux_lemma =>
              go_upto_region 11 with (fail)
              go_cut [55] (fun v55 wd => v55 = .bool (decide ((270 : Int) < (nb : Int))) ∧ wd = wc)
              case first =>
                by_cases h1 : (274 : Int) < (nb : Int)
                · have hd1 : decide ((274 : Int) < (nb : Int)) = true := decide_eq_true h1
                  have hd2 : decide ((270 : Int) < (nb : Int)) = true := decide_eq_true (by omega)
                  have HMN := Lib.hid h1
                  clear h1
                  go_wp2_with fail
                  go_meet
                  exact ⟨congrArg Value.bool (decide_eq_true (p := (270 : Int) < (nb : Int)) (by have := HMN.out; omega)).symm, rfl⟩
                · have hd1 : decide ((274 : Int) < (nb : Int)) = false := decide_eq_false h1
                  by_cases h2 : (270 : Int) < (nb : Int)
                  · have hd2 : decide ((270 : Int) < (nb : Int)) = true := decide_eq_true h2
                    have HMN := Lib.hid (And.intro h1 h2)
                    clear h1 h2
                    go_wp2_with fail
                    go_meet
                    exact ⟨congrArg Value.bool ((decide_eq_true (p := (270 : Int) < (nb : Int)) (by have := HMN.out; omega)).symm), rfl⟩
                  · have hd2 : decide ((270 : Int) < (nb : Int)) = false := decide_eq_false h2
                    have HMN := Lib.hid (And.intro h1 h2)
                    clear h1 h2
                    go_wp2_with fail
                    go_meet
                    exact ⟨congrArg Value.bool (decide_eq_false (p := (270 : Int) < (nb : Int)) (by have := HMN.out; omega)).symm, rfl⟩
              case rest =>
                obtain ⟨rfl, rfl⟩ := hcut
                obtain rfl : t = 12 := HTT.out
                have HM2 := Lib.hid (show mo = 270 from HMO.out)
                have HZ : ∀ w', Fr (fun k => k = w.heap.size + 1) wc w' → w'.there w.heap.size 0 16 := fun w' k => by
                  have hh := (k.block w.heap.size (by omega) (by omega)).trans HBC.out
                  refine fun j hj => ⟨?_, frozen_of_row w' _ _ _ 25 hh⟩
                  rw [Nat.zero_add, cell_of_row w' w.heap.size j _ 25 (0, 0) hh, Array.getElem?_eq_getElem (by simpa using hj)]; rfl
                have HZ := Lib.hid HZ
                by_cases hlong : (270 : Int) < (nb : Int)
                · have HLG := Lib.hid hlong
                  have hlongN : 270 < nb := by omega
                  · go_upto_region 12 with (fail)
                    clear hlong hlongN
                    clear c12
                    go_step
                    refine wpList_plain rfl fun K hK => ?_
                    go_simp
                    refine hK _ _ ?_
                    refine wpList_store_mid rfl 25 _ _ rfl w.heap.size 0 #[.int .u8 0, .int .u8 0, .int .u8 0, .int .u8 0, .int .u8 0, .int .u8 0, .int .u8 0, .int .u8 0, .int .u8 0, .int .u8 0, .int .u8 0, .int .u8 0, .bool false, .int .i64 0, .int .i64 0, .int .i64 0] rfl rfl (HZ.out _ (Fr.refl _ wc)) (by kernel_rfl) (by kernel_rfl) ?_
                    have hrow := World.rangeAt_setCells_same wc w.heap.size 0 [.int .u8 0, .int .u8 0, .int .u8 0, .int .u8 0, .int .u8 0, .int .u8 0, .int .u8 0, .int .u8 0, .int .u8 0, .int .u8 0, .int .u8 0, .int .u8 0, .bool false, .int .i64 0, .int .i64 0, .int .i64 0] (HZ.out _ (Fr.refl _ wc))
                    have F7 : Fr (fun _ => False) w (wc.setCells w.heap.size 0 [.int .u8 0, .int .u8 0, .int .u8 0, .int .u8 0, .int .u8 0, .int .u8 0, .int .u8 0, .int .u8 0, .int .u8 0, .int .u8 0, .int .u8 0, .int .u8 0, .bool false, .int .i64 0, .int .i64 0, .int .i64 0]) := Fr.setCells w.heap.size (fun h => by omega) _ 0 wc FWC.out
                    have c0 := hrow
                    generalize wc.setCells w.heap.size 0 [.int .u8 0, .int .u8 0, .int .u8 0, .int .u8 0, .int .u8 0, .int .u8 0, .int .u8 0, .int .u8 0, .int .u8 0, .int .u8 0, .int .u8 0, .int .u8 0, .bool false, .int .i64 0, .int .i64 0, .int .i64 0] = w6 at F7 c0 ⊢
                    clear hrow
                    go_wp2_with fail
                    exact bodyPost_ret (v := .tuple #[.agg #[.int .u8 0, .int .u8 0, .int .u8 0, .int .u8 0, .int .u8 0, .int .u8 0, .int .u8 0, .int .u8 0, .int .u8 0, .int .u8 0, .int .u8 0, .int .u8 0, .bool false, .int .i64 0, .int .i64 0, .int .i64 0], .slice none 0 0, .int .i64 2]) (results_cell16 _ w6 w.heap.size [.int .u8 0, .int .u8 0, .int .u8 0, .int .u8 0, .int .u8 0, .int .u8 0, .int .u8 0, .int .u8 0, .int .u8 0, .int .u8 0, .int .u8 0, .int .u8 0, .bool false, .int .i64 0, .int .i64 0, .int .i64 0] rfl (run_loadVar_mid w6 w.heap.size 0 25 [.int .u8 0, .int .u8 0, .int .u8 0, .int .u8 0, .int .u8 0, .int .u8 0, .int .u8 0, .int .u8 0, .int .u8 0, .int .u8 0, .int .u8 0, .int .u8 0, .bool false, .int .i64 0, .int .i64 0, .int .i64 0] _ c0 Try.underlying25 rfl (by kernel_rfl))) rfl ⟨F7, fun _ => rfl, fun h => (by have := HLG.out; have := HM2.out; omega), fun h => (by have := HLG.out; have := HM2.out; omega)⟩
                · have HLG := Lib.hid hlong
                  have hd : decide ((270 : Int) < (nb : Int)) = false := decide_eq_false hlong
                  clear hlong
                  have HXC := Lib.hid (fun (w' : World) (k : Fr (fun k => k = w.heap.size + 1) wc w') i (hi : i < 18) => (World.cell?_of_block ((FWC.out.trans (S' := fun k => k = w.heap.size + 1) k (fun i hi e => by omega)).block bb hb (fun e => e))).trans (HX.out i hi).1)
                  have rr := fun i hi => (HX.out i hi).2
                  as_aux_lemma =>
                    go_upto_region 17 with (fail)
                    clear hd c12
                    obtain ⟨wM, hwM⟩ : ∃ wM, wM = wc := ⟨_, rfl⟩
                    have GM := Lib.hid (show Fr (fun k => k = w.heap.size + 1) wc wM by rw [hwM]; exact Fr.refl _ _)
                    have RM := Lib.hid (show wM.heap[w.heap.size + 1]? = some (.cells #[.int .u8 (x 0), .int .u8 (x 1), .int .u8 (x 2), .int .u8 (x 3), .int .u8 (x 4), .int .u8 (x 5), .int .u8 (x 6), .int .u8 (x 7), .int .u8 (x 8), .int .u8 (x 9), .int .u8 (x 10), .int .u8 (x 11), .bool false, .int .i64 0, .int .i64 0, .int .i64 0] 25) by rw [hwM]; exact HROW.out)
                    rw [← hwM]
                    clear hwM
                    have rt := (HX.out 12 (by omega)).2
                    have rt1 := (HX.out 13 (by omega)).2
                    have at0 : wM.cell? ⟨bb, off + 12, none⟩ = some (.int .u8 (x 12)) := HXC.out wM GM.out 12 (by omega)
                    have at1 : wM.cell? ⟨bb, off + 13, none⟩ = some (.int .u8 (x 13)) := HXC.out wM GM.out 13 (by omega)
                    have c15 : wM.cell? ⟨w.heap.size + 1, 15, none⟩ = some (.int .i64 0) := cells_at wM _ [.int .u8 (x 0), .int .u8 (x 1), .int .u8 (x 2), .int .u8 (x 3), .int .u8 (x 4), .int .u8 (x 5), .int .u8 (x 6), .int .u8 (x 7), .int .u8 (x 8), .int .u8 (x 9), .int .u8 (x 10), .int .u8 (x 11), .bool false, .int .i64 0, .int .i64 0, .int .i64 0] 25 RM.out 15 _ rfl
                    have z15 : wM.frozen? ⟨w.heap.size + 1, 15, none⟩ = false := frozen_of_row wM _ 15 _ 25 RM.out
                    have hw1 : IntKind.i64.wrap (256 * x 12) = 256 * x 12 := IntWalk.i64_in _ (by omega)
                    have hw2 : IntKind.i64.wrap (256 * x 12 + x 13) = 256 * x 12 + x 13 := IntWalk.i64_in _ (by omega)
                    have hi0 : 12 < nb := by omega
                    have hi1 : 13 < nb := by omega
                    have hj0 : (12 : Int) < (nb : Int) := by omega
                    have hj1 : (13 : Int) < (nb : Int) := by omega
                    have hwi : IntKind.i64.wrap 13 = 13 := by decide
                    have hwj : IntKind.i64.wrap (12 + 1) = 13 := by decide
                    go_still_tail 14, (by kernel_rfl)
                    go_upto_region 18 with (fail)
                    clear at0 at1 c15 z15 hw1 hw2 hi0 hi1 hj0 hj1 hwi hwj
                    have R4 : ((wM.setCell ⟨w.heap.size + 1, 15, none⟩ (.int .i64 (256 * x 12 + x 13))).drew).heap[w.heap.size + 1]? = some (.cells #[.int .u8 g.dst.a, .int .u8 g.dst.b, .int .u8 g.dst.c, .int .u8 g.dst.d, .int .u8 g.dst.e, .int .u8 g.dst.f, .int .u8 g.src.a, .int .u8 g.src.b, .int .u8 g.src.c, .int .u8 g.src.d, .int .u8 g.src.e, .int .u8 g.src.f, .bool g.tag, .int .i64 g.vlan, .int .i64 g.prio, .int .i64 g.ty] 25) := by
                      show (wM.setCell ⟨w.heap.size + 1, 15, none⟩ (.int .i64 (256 * x 12 + x 13))).heap[w.heap.size + 1]? = _
                      rw [heap_setCell_same wM (w.heap.size + 1) 15 _ 25 _ RM.out, HGG.out, Int.mul_comm 256]; rfl
                    have G4 : Fr (fun k => k = w.heap.size + 1) wc ((wM.setCell ⟨w.heap.size + 1, 15, none⟩ (.int .i64 (256 * x 12 + x 13))).drew) := (GM.out.setCell _ _ (fun _ => rfl)).drew
                    have hgty : g.ty = 256 * x 12 + x 13 := by rw [HGG.out, Int.mul_comm 256]
                    have htgl : g.tag = false := by rw [HGG.out]
                    rw [← hgty] at R4 G4
                    rw [← hgty]
                    generalize ((wM.setCell ⟨w.heap.size + 1, 15, none⟩ (.int .i64 g.ty)).drew) = w4 at R4 G4 ⊢
                    have FW4 := Lib.hid (FWC.out.trans (S' := fun k => k = w.heap.size + 1) G4 (fun i hi e => by omega))
                    have HZ4 := Lib.hid (HZ.out _ G4)
                    have R4L := fun j v hj => cells_at w4 (w.heap.size + 1) [.int .u8 g.dst.a, .int .u8 g.dst.b, .int .u8 g.dst.c, .int .u8 g.dst.d, .int .u8 g.dst.e, .int .u8 g.dst.f, .int .u8 g.src.a, .int .u8 g.src.b, .int .u8 g.src.c, .int .u8 g.src.d, .int .u8 g.src.e, .int .u8 g.src.f, .bool g.tag, .int .i64 g.vlan, .int .i64 g.prio, .int .i64 g.ty] 25 R4 j v hj
                    have c12 : w4.cell? ⟨w.heap.size + 1, 12, none⟩ = some (.bool false) := by have h := R4L 12 _ rfl; rwa [htgl] at h
                    have c15 : w4.cell? ⟨w.heap.size + 1, 15, none⟩ = some (.int .i64 g.ty) := R4L 15 _ rfl
                    have a14 : w4.cell? ⟨bb, off + 14, none⟩ = some (.int .u8 (x 14)) := HXC.out w4 G4 14 (by omega)
                    have r14 := (HX.out 14 (by omega)).2
                    have q16 : Int.tdiv (x 14) 16 = x 14 / 16 := Int.tdiv_eq_ediv_of_nonneg (by omega)
                    have q2 : Int.tmod (x 14 / 16) 2 = x 14 / 16 % 2 := Int.tmod_eq_emod_of_nonneg (by omega)
                    have R4 := Lib.hid R4
                    obtain ⟨ty, hty⟩ : ∃ ty, g.ty = ty := ⟨_, rfl⟩
                    have hb0 := HBAD.out
                    rw [hty] at hb0 c15
                    have HB := Lib.hid hb0
                    clear hb0 HBAD R4L hgty htgl hty rt rt1 rr
                    go_cut [111] (fun v111 wd => v111 = .bool bad ∧ wd = w4)
                    case first =>
                      by_cases k1 : ty < 1536
                      · go_wp2_with fail
                        go_meet
                        exact ⟨by rw [HB.out]; simp [k1], rfl⟩
                      · go_wp2_with fail
                        go_meet
                        exact ⟨by rw [HB.out]; simp [k1], rfl⟩
                    case rest =>
                      obtain ⟨rfl, rfl⟩ := hcut
                      clear c12 c15 a14 r14 q16 q2 HB
                      cases bad
                      · as_aux_lemma =>
                          go_upto_region 20 with (fail)
                          have hs0 : IntKind.i64.wrap (12 + 2) = 14 := by decide
                          have hs1 : IntKind.i64.wrap 14 = 14 := by decide
                          have hs2 : 14 < nb := by omega
                          have hs3b : 14 ≤ nb := by omega
                          have hs4 : 14 ≤ c := by omega
                          have hs5 : ¬ c - 14 = 0 := by omega
                          have hs6 : ¬ c = 14 := by omega
                          have hs7 : (14 : Int) ≤ (nb : Int) := by omega
                          have hs8 : (nb : Int) ≤ (c : Int) := by omega
                          have HSF : ∀ w', Fr (fun i => i = w.heap.size) wc w' → w'.heap[w.heap.size + 1]? = some (.cells #[.int .u8 g.dst.a, .int .u8 g.dst.b, .int .u8 g.dst.c, .int .u8 g.dst.d, .int .u8 g.dst.e, .int .u8 g.dst.f, .int .u8 g.src.a, .int .u8 g.src.b, .int .u8 g.src.c, .int .u8 g.src.d, .int .u8 g.src.e, .int .u8 g.src.f, .bool g.tag, .int .i64 g.vlan, .int .i64 g.prio, .int .i64 g.ty] 25) := fun w' k => (k.block (w.heap.size + 1) (lt_of_block R4.out) (by omega)).trans R4.out
                          have HSF := Lib.hid HSF
                          have R0 := Lib.hid (Fr.refl (fun i => i = w.heap.size) wc)
                          refine wp_region_held_drew (S := fun w' => w'.heap[w.heap.size + 1]? = some (.cells #[.int .u8 g.dst.a, .int .u8 g.dst.b, .int .u8 g.dst.c, .int .u8 g.dst.d, .int .u8 g.dst.e, .int .u8 g.dst.f, .int .u8 g.src.a, .int .u8 g.src.b, .int .u8 g.src.c, .int .u8 g.src.d, .int .u8 g.src.e, .int .u8 g.src.f, .bool g.tag, .int .i64 g.vlan, .int .i64 g.prio, .int .i64 g.ty] 25)) (by kernel_rfl) (HSF.out _ R0.out.drew) (fun hHeld => ?_)
                          refine wpAnyH_take (i := 0) (oi := _) (v := _) rfl (by kernel_rfl) (by kernel_rfl) (by kernel_rfl) (fun _ _ _ h => h) (yieldsIf_load_mid (by rfl) 25 _ rfl (w.heap.size + 1) 0 rfl [.int .u8 g.dst.a, .int .u8 g.dst.b, .int .u8 g.dst.c, .int .u8 g.dst.d, .int .u8 g.dst.e, .int .u8 g.dst.f, .int .u8 g.src.a, .int .u8 g.src.b, .int .u8 g.src.c, .int .u8 g.src.d, .int .u8 g.src.e, .int .u8 g.src.f, .bool g.tag, .int .i64 g.vlan, .int .i64 g.prio, .int .i64 g.ty] _ (fun w' hS j v hj => by rw [Nat.zero_add]; exact cells_at w' (w.heap.size + 1) [.int .u8 g.dst.a, .int .u8 g.dst.b, .int .u8 g.dst.c, .int .u8 g.dst.d, .int .u8 g.dst.e, .int .u8 g.dst.f, .int .u8 g.src.a, .int .u8 g.src.b, .int .u8 g.src.c, .int .u8 g.src.d, .int .u8 g.src.e, .int .u8 g.src.f, .bool g.tag, .int .i64 g.vlan, .int .i64 g.prio, .int .i64 g.ty] 25 hS j v hj) Try.underlying25 rfl (by kernel_rfl)) (by assumption) ?_
                          try simp only [Act.put, List.getElem_toArray, List.getElem_cons_zero, List.setIfInBounds_toArray, List.set_cons_zero, List.set_cons_succ]
                          refine wpAnyH_take (i := 1) (oi := _) (v := _) rfl (by kernel_rfl) (by kernel_rfl) (by kernel_rfl) (fun _ _ _ h => h) (Or.inl ⟨by rfl, fun w' hS => by rfl⟩) (by assumption) ?_
                          try simp only [Act.put, List.getElem_toArray, List.getElem_cons_zero, List.getElem_cons_succ, List.setIfInBounds_toArray, List.set_cons_zero, List.set_cons_succ]
                          refine wpAnyH_take (i := 2) (oi := _) (v := _) rfl (by kernel_rfl) (by kernel_rfl) (by kernel_rfl) (fun _ _ _ h => h) (Or.inl ⟨by rfl, fun w' hS => by rfl⟩) (by assumption) ?_
                          try simp only [Act.put, List.getElem_toArray, List.getElem_cons_zero, List.getElem_cons_succ, List.setIfInBounds_toArray, List.set_cons_zero, List.set_cons_succ]
                          refine wpAnyH_take (i := 3) (oi := _) (v := .int .i64 14) rfl (by kernel_rfl) (by kernel_rfl) (by kernel_rfl) (fun _ _ _ h => h) (Or.inl ⟨by rfl, fun w' hS => by rfl⟩) (by assumption) ?_
                          try simp only [Act.put, List.getElem_toArray, List.getElem_cons_zero, List.getElem_cons_succ, List.setIfInBounds_toArray, List.set_cons_zero, List.set_cons_succ]
                          refine wpAnyH_take (i := 4) (oi := _) (v := .slice (some ⟨bb, off + 14, none⟩) (nb - 14) (c - 14)) rfl (by kernel_rfl) (by kernel_rfl) (by kernel_rfl) (fun _ _ _ h => h) (Or.inl ⟨by rfl, fun w' hS => by go_simp⟩) (by assumption) ?_
                          try simp only [Act.put, List.getElem_toArray, List.getElem_cons_zero, List.getElem_cons_succ, List.setIfInBounds_toArray, List.set_cons_zero, List.set_cons_succ]
                          clear hs0 hs1 hs2 hs3b hs4 hs5 hs6 hs7 hs8
                          refine wpAnyH_ready (rs := [5]) (by kernel_rfl) (by simp) ?_
                          refine AllReadyH.cons rfl (fun K hK => ?_) AllReadyH.nil
                          rw [if_pos (by rfl)]
                          refine store_list 25 _ _ rfl w.heap.size 0 [.int .u8 g.dst.a, .int .u8 g.dst.b, .int .u8 g.dst.c, .int .u8 g.dst.d, .int .u8 g.dst.e, .int .u8 g.dst.f, .int .u8 g.src.a, .int .u8 g.src.b, .int .u8 g.src.c, .int .u8 g.src.d, .int .u8 g.src.e, .int .u8 g.src.f, .bool g.tag, .int .i64 g.vlan, .int .i64 g.prio, .int .i64 g.ty] rfl rfl HZ4.out (by kernel_rfl) (by kernel_rfl) ?_
                          have hrow := World.rangeAt_setCells_same wc.drew w.heap.size 0 [.int .u8 g.dst.a, .int .u8 g.dst.b, .int .u8 g.dst.c, .int .u8 g.dst.d, .int .u8 g.dst.e, .int .u8 g.dst.f, .int .u8 g.src.a, .int .u8 g.src.b, .int .u8 g.src.c, .int .u8 g.src.d, .int .u8 g.src.e, .int .u8 g.src.f, .bool g.tag, .int .i64 g.vlan, .int .i64 g.prio, .int .i64 g.ty] HZ4.out
                          have F6 : Fr (fun i => i = w.heap.size) wc (wc.drew.setCells w.heap.size 0 [.int .u8 g.dst.a, .int .u8 g.dst.b, .int .u8 g.dst.c, .int .u8 g.dst.d, .int .u8 g.dst.e, .int .u8 g.dst.f, .int .u8 g.src.a, .int .u8 g.src.b, .int .u8 g.src.c, .int .u8 g.src.d, .int .u8 g.src.e, .int .u8 g.src.f, .bool g.tag, .int .i64 g.vlan, .int .i64 g.prio, .int .i64 g.ty]) := Fr.setCells (S := fun i => i = w.heap.size) w.heap.size (fun _ => rfl) _ 0 wc.drew R0.out.drew
                          have F7 : Fr (fun _ => False) w (wc.drew.setCells w.heap.size 0 [.int .u8 g.dst.a, .int .u8 g.dst.b, .int .u8 g.dst.c, .int .u8 g.dst.d, .int .u8 g.dst.e, .int .u8 g.dst.f, .int .u8 g.src.a, .int .u8 g.src.b, .int .u8 g.src.c, .int .u8 g.src.d, .int .u8 g.src.e, .int .u8 g.src.f, .bool g.tag, .int .i64 g.vlan, .int .i64 g.prio, .int .i64 g.ty]) := Fr.setCells w.heap.size (fun h => by omega) _ 0 wc.drew FW4.out.drew
                          have c0 := hrow
                          generalize wc.drew.setCells w.heap.size 0 [.int .u8 g.dst.a, .int .u8 g.dst.b, .int .u8 g.dst.c, .int .u8 g.dst.d, .int .u8 g.dst.e, .int .u8 g.dst.f, .int .u8 g.src.a, .int .u8 g.src.b, .int .u8 g.src.c, .int .u8 g.src.d, .int .u8 g.src.e, .int .u8 g.src.f, .bool g.tag, .int .i64 g.vlan, .int .i64 g.prio, .int .i64 g.ty] = w6 at F6 F7 c0 ⊢
                          clear hrow
                          refine hK.out _ _ (HSF.out _ F6) (fun hHeld => ?_)
                          clear hK K
                          try simp only [Act.put, List.getElem_toArray, List.getElem_cons_zero, List.getElem_cons_succ]
                          refine wpAnyH_ready (rs := [6]) (by kernel_rfl) (by simp) ?_
                          refine AllReadyH.cons rfl (fun K hK => ?_) AllReadyH.nil
                          go_simp
                          refine hK.out _ _ (HSF.out _ F6) (fun hHeld => ?_)
                          clear hK K
                          try simp only [Act.put, List.getElem_toArray, List.getElem_cons_zero, List.getElem_cons_succ, List.setIfInBounds_toArray, List.set_cons_zero, List.set_cons_succ]
                          refine wpAnyH_ready (rs := [7]) (by kernel_rfl) (by simp) ?_
                          refine AllReadyH.cons rfl (fun K hK => ?_) AllReadyH.nil
                          go_simp
                          refine hK.out _ _ (HSF.out _ F6) (fun hHeld => ?_)
                          clear hK K
                          try simp only [Act.put, List.getElem_toArray, List.getElem_cons_zero, List.getElem_cons_succ, List.setIfInBounds_toArray, List.set_cons_zero, List.set_cons_succ]
                          refine wpAnyH_done (by kernel_rfl) ?_ _
                          go_wp2_with fail
                          exact bodyPost_ret (v := .tuple #[.agg #[.int .u8 g.dst.a, .int .u8 g.dst.b, .int .u8 g.dst.c, .int .u8 g.dst.d, .int .u8 g.dst.e, .int .u8 g.dst.f, .int .u8 g.src.a, .int .u8 g.src.b, .int .u8 g.src.c, .int .u8 g.src.d, .int .u8 g.src.e, .int .u8 g.src.f, .bool g.tag, .int .i64 g.vlan, .int .i64 g.prio, .int .i64 g.ty], .slice (some ⟨bb, off + 14, none⟩) (nb - 14) (c - 14), .int .i64 0]) (results_cell16 _ w6 w.heap.size [.int .u8 g.dst.a, .int .u8 g.dst.b, .int .u8 g.dst.c, .int .u8 g.dst.d, .int .u8 g.dst.e, .int .u8 g.dst.f, .int .u8 g.src.a, .int .u8 g.src.b, .int .u8 g.src.c, .int .u8 g.src.d, .int .u8 g.src.e, .int .u8 g.src.f, .bool g.tag, .int .i64 g.vlan, .int .i64 g.prio, .int .i64 g.ty] rfl (run_loadVar_mid w6 w.heap.size 0 25 [.int .u8 g.dst.a, .int .u8 g.dst.b, .int .u8 g.dst.c, .int .u8 g.dst.d, .int .u8 g.dst.e, .int .u8 g.dst.f, .int .u8 g.src.a, .int .u8 g.src.b, .int .u8 g.src.c, .int .u8 g.src.d, .int .u8 g.src.e, .int .u8 g.src.f, .bool g.tag, .int .i64 g.vlan, .int .i64 g.prio, .int .i64 g.ty] _ c0 Try.underlying25 rfl (by kernel_rfl))) rfl (by first | exact ⟨F7, fun h => (by have := HLG.out; have := HM2.out; omega), fun _ => rfl⟩ | exact ⟨F7, fun h => (by have := HLG.out; have := HM2.out; omega), fun _ h => (by cases h), fun _ _ => rfl⟩ | exact ⟨F7, fun h => (by have := HLG.out; have := HM2.out; omega), fun _ => rfl, fun _ => rfl⟩ | exact ⟨F7, fun h => (by have := HLG.out; have := HM2.out; omega), trivial, fun _ => rfl⟩ | exact ⟨F7, fun h => (by have := HLG.out; have := HM2.out; omega), fun _ h => (by cases h), fun _ => rfl⟩)
                      · go_upto_region 19 with (fail)
                        go_step
                        refine wpList_plain rfl fun K hK => ?_
                        go_simp
                        refine hK _ _ ?_
                        refine wpList_store_mid rfl 25 _ _ rfl w.heap.size 0 #[.int .u8 0, .int .u8 0, .int .u8 0, .int .u8 0, .int .u8 0, .int .u8 0, .int .u8 0, .int .u8 0, .int .u8 0, .int .u8 0, .int .u8 0, .int .u8 0, .bool false, .int .i64 0, .int .i64 0, .int .i64 0] rfl rfl HZ4.out (by kernel_rfl) (by kernel_rfl) ?_
                        have hrow := World.rangeAt_setCells_same wc w.heap.size 0 [.int .u8 0, .int .u8 0, .int .u8 0, .int .u8 0, .int .u8 0, .int .u8 0, .int .u8 0, .int .u8 0, .int .u8 0, .int .u8 0, .int .u8 0, .int .u8 0, .bool false, .int .i64 0, .int .i64 0, .int .i64 0] HZ4.out
                        have F7 : Fr (fun _ => False) w (wc.setCells w.heap.size 0 [.int .u8 0, .int .u8 0, .int .u8 0, .int .u8 0, .int .u8 0, .int .u8 0, .int .u8 0, .int .u8 0, .int .u8 0, .int .u8 0, .int .u8 0, .int .u8 0, .bool false, .int .i64 0, .int .i64 0, .int .i64 0]) := Fr.setCells w.heap.size (fun h => by omega) _ 0 wc FW4.out
                        have c0 := hrow
                        generalize wc.setCells w.heap.size 0 [.int .u8 0, .int .u8 0, .int .u8 0, .int .u8 0, .int .u8 0, .int .u8 0, .int .u8 0, .int .u8 0, .int .u8 0, .int .u8 0, .int .u8 0, .int .u8 0, .bool false, .int .i64 0, .int .i64 0, .int .i64 0] = w6 at F7 c0 ⊢
                        clear hrow
                        go_wp2_with fail
                        exact bodyPost_ret (v := .tuple #[.agg #[.int .u8 0, .int .u8 0, .int .u8 0, .int .u8 0, .int .u8 0, .int .u8 0, .int .u8 0, .int .u8 0, .int .u8 0, .int .u8 0, .int .u8 0, .int .u8 0, .bool false, .int .i64 0, .int .i64 0, .int .i64 0], .slice none 0 0, .int .i64 4]) (results_cell16 _ w6 w.heap.size [.int .u8 0, .int .u8 0, .int .u8 0, .int .u8 0, .int .u8 0, .int .u8 0, .int .u8 0, .int .u8 0, .int .u8 0, .int .u8 0, .int .u8 0, .int .u8 0, .bool false, .int .i64 0, .int .i64 0, .int .i64 0] rfl (run_loadVar_mid w6 w.heap.size 0 25 [.int .u8 0, .int .u8 0, .int .u8 0, .int .u8 0, .int .u8 0, .int .u8 0, .int .u8 0, .int .u8 0, .int .u8 0, .int .u8 0, .int .u8 0, .int .u8 0, .bool false, .int .i64 0, .int .i64 0, .int .i64 0] _ c0 Try.underlying25 rfl (by kernel_rfl))) rfl (by first | exact ⟨F7, fun h => (by have := HLG.out; have := HM2.out; omega), fun _ => rfl, fun _ h => (by cases h)⟩ | exact ⟨F7, fun h => (by have := HLG.out; have := HM2.out; omega), fun _ _ => rfl, fun _ h => (by cases h)⟩ | exact ⟨F7, fun h => (by have := HLG.out; have := HM2.out; omega), fun _ => rfl⟩ | exact ⟨F7, fun h => (by have := HLG.out; have := HM2.out; omega), fun _ => rfl, trivial⟩ | (refine ⟨F7, fun h => (by have := HLG.out; have := HM2.out; omega), fun _ => rfl, ?_⟩; simp))

          · as_aux_lemma =>
              go_upto_region 11 with (fail)
              go_cut [55] (fun v55 wd => v55 = .bool (decide ((274 : Int) < (nb : Int))) ∧ wd = wc)
              case first =>
                by_cases h1 : (274 : Int) < (nb : Int)
                · have hd1 : decide ((274 : Int) < (nb : Int)) = true := decide_eq_true h1
                  have hd2 : decide ((270 : Int) < (nb : Int)) = true := decide_eq_true (by omega)
                  have HMN := Lib.hid h1
                  clear h1
                  go_wp2_with fail
                  go_meet
                  exact ⟨congrArg Value.bool (decide_eq_true (p := (274 : Int) < (nb : Int)) (by have := HMN.out; omega)).symm, rfl⟩
                · have hd1 : decide ((274 : Int) < (nb : Int)) = false := decide_eq_false h1
                  by_cases h2 : (270 : Int) < (nb : Int)
                  · have hd2 : decide ((270 : Int) < (nb : Int)) = true := decide_eq_true h2
                    have HMN := Lib.hid (And.intro h1 h2)
                    clear h1 h2
                    go_wp2_with fail
                    go_meet
                    exact ⟨congrArg Value.bool ((decide_eq_false (p := (274 : Int) < (nb : Int)) (by have := HMN.out; omega)).symm), rfl⟩
                  · have hd2 : decide ((270 : Int) < (nb : Int)) = false := decide_eq_false h2
                    have HMN := Lib.hid (And.intro h1 h2)
                    clear h1 h2
                    go_wp2_with fail
                    go_meet
                    exact ⟨congrArg Value.bool (decide_eq_false (p := (274 : Int) < (nb : Int)) (by have := HMN.out; omega)).symm, rfl⟩
              case rest =>
                obtain ⟨rfl, rfl⟩ := hcut
                obtain rfl : t = 16 := HTT.out
                have HM2 := Lib.hid (show mo = 274 from HMO.out)
                have HZ : ∀ w', Fr (fun k => k = w.heap.size + 1) wc w' → w'.there w.heap.size 0 16 := fun w' k => by
                  have hh := (k.block w.heap.size (by omega) (by omega)).trans HBC.out
                  refine fun j hj => ⟨?_, frozen_of_row w' _ _ _ 25 hh⟩
                  rw [Nat.zero_add, cell_of_row w' w.heap.size j _ 25 (0, 0) hh, Array.getElem?_eq_getElem (by simpa using hj)]; rfl
                have HZ := Lib.hid HZ
                by_cases hlong : (274 : Int) < (nb : Int)
                · have HLG := Lib.hid hlong
                  have hlongN : 274 < nb := by omega
                  · go_upto_region 12 with (fail)
                    clear hlong hlongN
                    clear c12
                    go_step
                    refine wpList_plain rfl fun K hK => ?_
                    go_simp
                    refine hK _ _ ?_
                    refine wpList_store_mid rfl 25 _ _ rfl w.heap.size 0 #[.int .u8 0, .int .u8 0, .int .u8 0, .int .u8 0, .int .u8 0, .int .u8 0, .int .u8 0, .int .u8 0, .int .u8 0, .int .u8 0, .int .u8 0, .int .u8 0, .bool false, .int .i64 0, .int .i64 0, .int .i64 0] rfl rfl (HZ.out _ (Fr.refl _ wc)) (by kernel_rfl) (by kernel_rfl) ?_
                    have hrow := World.rangeAt_setCells_same wc w.heap.size 0 [.int .u8 0, .int .u8 0, .int .u8 0, .int .u8 0, .int .u8 0, .int .u8 0, .int .u8 0, .int .u8 0, .int .u8 0, .int .u8 0, .int .u8 0, .int .u8 0, .bool false, .int .i64 0, .int .i64 0, .int .i64 0] (HZ.out _ (Fr.refl _ wc))
                    have F7 : Fr (fun _ => False) w (wc.setCells w.heap.size 0 [.int .u8 0, .int .u8 0, .int .u8 0, .int .u8 0, .int .u8 0, .int .u8 0, .int .u8 0, .int .u8 0, .int .u8 0, .int .u8 0, .int .u8 0, .int .u8 0, .bool false, .int .i64 0, .int .i64 0, .int .i64 0]) := Fr.setCells w.heap.size (fun h => by omega) _ 0 wc FWC.out
                    have c0 := hrow
                    generalize wc.setCells w.heap.size 0 [.int .u8 0, .int .u8 0, .int .u8 0, .int .u8 0, .int .u8 0, .int .u8 0, .int .u8 0, .int .u8 0, .int .u8 0, .int .u8 0, .int .u8 0, .int .u8 0, .bool false, .int .i64 0, .int .i64 0, .int .i64 0] = w6 at F7 c0 ⊢
                    clear hrow
                    go_wp2_with fail
                    exact bodyPost_ret (v := .tuple #[.agg #[.int .u8 0, .int .u8 0, .int .u8 0, .int .u8 0, .int .u8 0, .int .u8 0, .int .u8 0, .int .u8 0, .int .u8 0, .int .u8 0, .int .u8 0, .int .u8 0, .bool false, .int .i64 0, .int .i64 0, .int .i64 0], .slice none 0 0, .int .i64 2]) (results_cell16 _ w6 w.heap.size [.int .u8 0, .int .u8 0, .int .u8 0, .int .u8 0, .int .u8 0, .int .u8 0, .int .u8 0, .int .u8 0, .int .u8 0, .int .u8 0, .int .u8 0, .int .u8 0, .bool false, .int .i64 0, .int .i64 0, .int .i64 0] rfl (run_loadVar_mid w6 w.heap.size 0 25 [.int .u8 0, .int .u8 0, .int .u8 0, .int .u8 0, .int .u8 0, .int .u8 0, .int .u8 0, .int .u8 0, .int .u8 0, .int .u8 0, .int .u8 0, .int .u8 0, .bool false, .int .i64 0, .int .i64 0, .int .i64 0] _ c0 Try.underlying25 rfl (by kernel_rfl))) rfl ⟨F7, fun _ => rfl, fun h => (by have := HLG.out; have := HM2.out; omega), fun h => (by have := HLG.out; have := HM2.out; omega)⟩
                · have HLG := Lib.hid hlong
                  have hd : decide ((274 : Int) < (nb : Int)) = false := decide_eq_false hlong
                  clear hlong
                  have HXC := Lib.hid (fun (w' : World) (k : Fr (fun k => k = w.heap.size + 1) wc w') i (hi : i < 18) => (World.cell?_of_block ((FWC.out.trans (S' := fun k => k = w.heap.size + 1) k (fun i hi e => by omega)).block bb hb (fun e => e))).trans (HX.out i hi).1)
                  have rr := fun i hi => (HX.out i hi).2
                  as_aux_lemma =>
                    have a14 : wc.cell? ⟨bb, off + 14, none⟩ = some (.int .u8 (x 14)) := HXC.out wc (Fr.refl _ _) 14 (by omega)
                    have r14 := (HX.out 14 (by omega)).2
                    have r15 := (HX.out 15 (by omega)).2
                    have q32 : Int.tdiv (x 14) 32 = x 14 / 32 := Int.tdiv_eq_ediv_of_nonneg (by omega)
                    have c14 : wc.cell? ⟨w.heap.size + 1, 14, none⟩ = some (.int .i64 0) := cells_at wc _ [.int .u8 (x 0), .int .u8 (x 1), .int .u8 (x 2), .int .u8 (x 3), .int .u8 (x 4), .int .u8 (x 5), .int .u8 (x 6), .int .u8 (x 7), .int .u8 (x 8), .int .u8 (x 9), .int .u8 (x 10), .int .u8 (x 11), .bool true, .int .i64 0, .int .i64 0, .int .i64 0] 25 HROW.out 14 _ rfl
                    have z14 : wc.frozen? ⟨w.heap.size + 1, 14, none⟩ = false := frozen_of_row wc _ 14 _ 25 HROW.out
                    go_upto_region 15 with (fail)
                    clear hd c12 c14 z14 q32 a14
                    have R3 : (wc.setCell ⟨w.heap.size + 1, 14, none⟩ (.int .i64 (x 14 / 32))).heap[w.heap.size + 1]? = some (.cells #[.int .u8 (x 0), .int .u8 (x 1), .int .u8 (x 2), .int .u8 (x 3), .int .u8 (x 4), .int .u8 (x 5), .int .u8 (x 6), .int .u8 (x 7), .int .u8 (x 8), .int .u8 (x 9), .int .u8 (x 10), .int .u8 (x 11), .bool true, .int .i64 0, .int .i64 (x 14 / 32), .int .i64 0] 25) := by rw [heap_setCell_same wc (w.heap.size + 1) 14 _ 25 _ HROW.out]; rfl
                    have G3 : Fr (fun k => k = w.heap.size + 1) wc (wc.setCell ⟨w.heap.size + 1, 14, none⟩ (.int .i64 (x 14 / 32))) := (Fr.refl (fun k => k = w.heap.size + 1) wc).setCell _ _ (fun _ => rfl)
                    generalize wc.setCell ⟨w.heap.size + 1, 14, none⟩ (.int .i64 (x 14 / 32)) = w3 at R3 G3 ⊢
                    have R3 := Lib.hid R3
                    have G3 := Lib.hid G3
                    have a14 : w3.cell? ⟨bb, off + 14, none⟩ = some (.int .u8 (x 14)) := HXC.out w3 G3.out 14 (by omega)
                    have a15 : w3.cell? ⟨bb, off + 15, none⟩ = some (.int .u8 (x 15)) := HXC.out w3 G3.out 15 (by omega)
                    have c13 : w3.cell? ⟨w.heap.size + 1, 13, none⟩ = some (.int .i64 0) := cells_at w3 _ [.int .u8 (x 0), .int .u8 (x 1), .int .u8 (x 2), .int .u8 (x 3), .int .u8 (x 4), .int .u8 (x 5), .int .u8 (x 6), .int .u8 (x 7), .int .u8 (x 8), .int .u8 (x 9), .int .u8 (x 10), .int .u8 (x 11), .bool true, .int .i64 0, .int .i64 (x 14 / 32), .int .i64 0] 25 R3.out 13 _ rfl
                    have z13 : w3.frozen? ⟨w.heap.size + 1, 13, none⟩ = false := frozen_of_row w3 _ 13 _ 25 R3.out
                    have q16 : Int.tmod (x 14) 16 = x 14 % 16 := Int.tmod_eq_emod_of_nonneg (by omega)
                    have hw1 : IntKind.i64.wrap (x 14 % 16 * 256) = x 14 % 16 * 256 := IntWalk.i64_in _ (by omega)
                    have hw2 : IntKind.i64.wrap (x 14 % 16 * 256 + x 15) = x 14 % 16 * 256 + x 15 := IntWalk.i64_in _ (by omega)
                    have hi0 : 14 < nb := by omega
                    have hi1 : 15 < nb := by omega
                    have hj0 : (14 : Int) < (nb : Int) := by omega
                    have hj1 : (15 : Int) < (nb : Int) := by omega
                    go_still_tail 12, (by kernel_rfl)
                    go_upto_region 17 with (fail)
                    clear a14 a15 c13 z13 q16 hw1 hw2 hi0 hi1 hj0 hj1 r14 r15
                    have RM : ((w3.setCell ⟨w.heap.size + 1, 13, none⟩ (.int .i64 (x 14 % 16 * 256 + x 15))).drew).heap[w.heap.size + 1]? = some (.cells #[.int .u8 (x 0), .int .u8 (x 1), .int .u8 (x 2), .int .u8 (x 3), .int .u8 (x 4), .int .u8 (x 5), .int .u8 (x 6), .int .u8 (x 7), .int .u8 (x 8), .int .u8 (x 9), .int .u8 (x 10), .int .u8 (x 11), .bool true, .int .i64 (x 14 % 16 * 256 + x 15), .int .i64 (x 14 / 32), .int .i64 0] 25) := by
                      show (w3.setCell ⟨w.heap.size + 1, 13, none⟩ (.int .i64 (x 14 % 16 * 256 + x 15))).heap[w.heap.size + 1]? = _
                      rw [heap_setCell_same w3 (w.heap.size + 1) 13 _ 25 _ R3.out]; rfl
                    have GM : Fr (fun k => k = w.heap.size + 1) wc ((w3.setCell ⟨w.heap.size + 1, 13, none⟩ (.int .i64 (x 14 % 16 * 256 + x 15))).drew) := (G3.out.setCell _ _ (fun _ => rfl)).drew
                    generalize ((w3.setCell ⟨w.heap.size + 1, 13, none⟩ (.int .i64 (x 14 % 16 * 256 + x 15))).drew) = wM at RM GM ⊢
                    have RM := Lib.hid RM
                    have GM := Lib.hid GM
                    clear R3 G3
                    have rt := (HX.out 16 (by omega)).2
                    have rt1 := (HX.out 17 (by omega)).2
                    have at0 : wM.cell? ⟨bb, off + 16, none⟩ = some (.int .u8 (x 16)) := HXC.out wM GM.out 16 (by omega)
                    have at1 : wM.cell? ⟨bb, off + 17, none⟩ = some (.int .u8 (x 17)) := HXC.out wM GM.out 17 (by omega)
                    have c15 : wM.cell? ⟨w.heap.size + 1, 15, none⟩ = some (.int .i64 0) := cells_at wM _ [.int .u8 (x 0), .int .u8 (x 1), .int .u8 (x 2), .int .u8 (x 3), .int .u8 (x 4), .int .u8 (x 5), .int .u8 (x 6), .int .u8 (x 7), .int .u8 (x 8), .int .u8 (x 9), .int .u8 (x 10), .int .u8 (x 11), .bool true, .int .i64 (x 14 % 16 * 256 + x 15), .int .i64 (x 14 / 32), .int .i64 0] 25 RM.out 15 _ rfl
                    have z15 : wM.frozen? ⟨w.heap.size + 1, 15, none⟩ = false := frozen_of_row wM _ 15 _ 25 RM.out
                    have hw1 : IntKind.i64.wrap (256 * x 16) = 256 * x 16 := IntWalk.i64_in _ (by omega)
                    have hw2 : IntKind.i64.wrap (256 * x 16 + x 17) = 256 * x 16 + x 17 := IntWalk.i64_in _ (by omega)
                    have hi0 : 16 < nb := by omega
                    have hi1 : 17 < nb := by omega
                    have hj0 : (16 : Int) < (nb : Int) := by omega
                    have hj1 : (17 : Int) < (nb : Int) := by omega
                    have hwi : IntKind.i64.wrap 17 = 17 := by decide
                    have hwj : IntKind.i64.wrap (16 + 1) = 17 := by decide
                    go_still_tail 14, (by kernel_rfl)
                    go_upto_region 18 with (fail)
                    clear at0 at1 c15 z15 hw1 hw2 hi0 hi1 hj0 hj1 hwi hwj
                    have R4 : ((wM.setCell ⟨w.heap.size + 1, 15, none⟩ (.int .i64 (256 * x 16 + x 17))).drew).heap[w.heap.size + 1]? = some (.cells #[.int .u8 g.dst.a, .int .u8 g.dst.b, .int .u8 g.dst.c, .int .u8 g.dst.d, .int .u8 g.dst.e, .int .u8 g.dst.f, .int .u8 g.src.a, .int .u8 g.src.b, .int .u8 g.src.c, .int .u8 g.src.d, .int .u8 g.src.e, .int .u8 g.src.f, .bool g.tag, .int .i64 g.vlan, .int .i64 g.prio, .int .i64 g.ty] 25) := by
                      show (wM.setCell ⟨w.heap.size + 1, 15, none⟩ (.int .i64 (256 * x 16 + x 17))).heap[w.heap.size + 1]? = _
                      rw [heap_setCell_same wM (w.heap.size + 1) 15 _ 25 _ RM.out, HGG.out, Int.mul_comm 256]; rfl
                    have G4 : Fr (fun k => k = w.heap.size + 1) wc ((wM.setCell ⟨w.heap.size + 1, 15, none⟩ (.int .i64 (256 * x 16 + x 17))).drew) := (GM.out.setCell _ _ (fun _ => rfl)).drew
                    have hgty : g.ty = 256 * x 16 + x 17 := by rw [HGG.out, Int.mul_comm 256]
                    have htgl : g.tag = true := by rw [HGG.out]
                    rw [← hgty] at R4 G4
                    rw [← hgty]
                    generalize ((wM.setCell ⟨w.heap.size + 1, 15, none⟩ (.int .i64 g.ty)).drew) = w4 at R4 G4 ⊢
                    have FW4 := Lib.hid (FWC.out.trans (S' := fun k => k = w.heap.size + 1) G4 (fun i hi e => by omega))
                    have HZ4 := Lib.hid (HZ.out _ G4)
                    have R4L := fun j v hj => cells_at w4 (w.heap.size + 1) [.int .u8 g.dst.a, .int .u8 g.dst.b, .int .u8 g.dst.c, .int .u8 g.dst.d, .int .u8 g.dst.e, .int .u8 g.dst.f, .int .u8 g.src.a, .int .u8 g.src.b, .int .u8 g.src.c, .int .u8 g.src.d, .int .u8 g.src.e, .int .u8 g.src.f, .bool g.tag, .int .i64 g.vlan, .int .i64 g.prio, .int .i64 g.ty] 25 R4 j v hj
                    have c12 : w4.cell? ⟨w.heap.size + 1, 12, none⟩ = some (.bool true) := by have h := R4L 12 _ rfl; rwa [htgl] at h
                    have c15 : w4.cell? ⟨w.heap.size + 1, 15, none⟩ = some (.int .i64 g.ty) := R4L 15 _ rfl
                    have a14 : w4.cell? ⟨bb, off + 14, none⟩ = some (.int .u8 (x 14)) := HXC.out w4 G4 14 (by omega)
                    have r14 := (HX.out 14 (by omega)).2
                    have q16 : Int.tdiv (x 14) 16 = x 14 / 16 := Int.tdiv_eq_ediv_of_nonneg (by omega)
                    have q2 : Int.tmod (x 14 / 16) 2 = x 14 / 16 % 2 := Int.tmod_eq_emod_of_nonneg (by omega)
                    have R4 := Lib.hid R4
                    obtain ⟨ty, hty⟩ : ∃ ty, g.ty = ty := ⟨_, rfl⟩
                    have hb0 := HBAD.out
                    rw [hty] at hb0 c15
                    have HB := Lib.hid hb0
                    clear hb0 HBAD R4L hgty htgl hty rt rt1 rr
                    go_cut [111] (fun v111 wd => v111 = .bool bad ∧ wd = w4)
                    case first =>
                      by_cases k1 : ty < 1536
                      · go_wp2_with fail
                        go_meet
                        exact ⟨by rw [HB.out]; simp [k1], rfl⟩
                      · by_cases k2 : x 14 / 16 % 2 = 1
                        · have k2b : (x 14 / 16 % 2 == 1) = true := by simpa using k2
                          go_wp2_with fail
                          go_meet
                          exact ⟨by rw [HB.out]; simp [k2], rfl⟩
                        · have k2b : (x 14 / 16 % 2 == 1) = false := by simpa using k2
                          by_cases k3 : ty = 33024
                          · have k3b : (ty == 33024) = true := by simpa using k3
                            have HK3 := Lib.hid k3
                            clear k3
                            go_wp2_with fail
                            go_meet
                            exact ⟨by rw [HB.out]; simp [HK3.out], rfl⟩
                          · have k3b : (ty == 33024) = false := by simpa using k3
                            go_wp2_with fail
                            go_meet
                            exact ⟨by rw [HB.out]; simp [k1, k2b, k3b], rfl⟩
                    case rest =>
                      obtain ⟨rfl, rfl⟩ := hcut
                      clear c12 c15 a14 r14 q16 q2 HB
                      cases bad
                      · as_aux_lemma =>
                          go_upto_region 20 with (fail)
                          have hs0 : IntKind.i64.wrap (16 + 2) = 18 := by decide
                          have hs1 : IntKind.i64.wrap 18 = 18 := by decide
                          have hs2 : 18 < nb := by omega
                          have hs3b : 18 ≤ nb := by omega
                          have hs4 : 18 ≤ c := by omega
                          have hs5 : ¬ c - 18 = 0 := by omega
                          have hs6 : ¬ c = 18 := by omega
                          have hs7 : (18 : Int) ≤ (nb : Int) := by omega
                          have hs8 : (nb : Int) ≤ (c : Int) := by omega
                          have HSF : ∀ w', Fr (fun i => i = w.heap.size) wc w' → w'.heap[w.heap.size + 1]? = some (.cells #[.int .u8 g.dst.a, .int .u8 g.dst.b, .int .u8 g.dst.c, .int .u8 g.dst.d, .int .u8 g.dst.e, .int .u8 g.dst.f, .int .u8 g.src.a, .int .u8 g.src.b, .int .u8 g.src.c, .int .u8 g.src.d, .int .u8 g.src.e, .int .u8 g.src.f, .bool g.tag, .int .i64 g.vlan, .int .i64 g.prio, .int .i64 g.ty] 25) := fun w' k => (k.block (w.heap.size + 1) (lt_of_block R4.out) (by omega)).trans R4.out
                          have HSF := Lib.hid HSF
                          have R0 := Lib.hid (Fr.refl (fun i => i = w.heap.size) wc)
                          refine wp_region_held_drew (S := fun w' => w'.heap[w.heap.size + 1]? = some (.cells #[.int .u8 g.dst.a, .int .u8 g.dst.b, .int .u8 g.dst.c, .int .u8 g.dst.d, .int .u8 g.dst.e, .int .u8 g.dst.f, .int .u8 g.src.a, .int .u8 g.src.b, .int .u8 g.src.c, .int .u8 g.src.d, .int .u8 g.src.e, .int .u8 g.src.f, .bool g.tag, .int .i64 g.vlan, .int .i64 g.prio, .int .i64 g.ty] 25)) (by kernel_rfl) (HSF.out _ R0.out.drew) (fun hHeld => ?_)
                          refine wpAnyH_take (i := 0) (oi := _) (v := _) rfl (by kernel_rfl) (by kernel_rfl) (by kernel_rfl) (fun _ _ _ h => h) (yieldsIf_load_mid (by rfl) 25 _ rfl (w.heap.size + 1) 0 rfl [.int .u8 g.dst.a, .int .u8 g.dst.b, .int .u8 g.dst.c, .int .u8 g.dst.d, .int .u8 g.dst.e, .int .u8 g.dst.f, .int .u8 g.src.a, .int .u8 g.src.b, .int .u8 g.src.c, .int .u8 g.src.d, .int .u8 g.src.e, .int .u8 g.src.f, .bool g.tag, .int .i64 g.vlan, .int .i64 g.prio, .int .i64 g.ty] _ (fun w' hS j v hj => by rw [Nat.zero_add]; exact cells_at w' (w.heap.size + 1) [.int .u8 g.dst.a, .int .u8 g.dst.b, .int .u8 g.dst.c, .int .u8 g.dst.d, .int .u8 g.dst.e, .int .u8 g.dst.f, .int .u8 g.src.a, .int .u8 g.src.b, .int .u8 g.src.c, .int .u8 g.src.d, .int .u8 g.src.e, .int .u8 g.src.f, .bool g.tag, .int .i64 g.vlan, .int .i64 g.prio, .int .i64 g.ty] 25 hS j v hj) Try.underlying25 rfl (by kernel_rfl)) (by assumption) ?_
                          try simp only [Act.put, List.getElem_toArray, List.getElem_cons_zero, List.setIfInBounds_toArray, List.set_cons_zero, List.set_cons_succ]
                          refine wpAnyH_take (i := 1) (oi := _) (v := _) rfl (by kernel_rfl) (by kernel_rfl) (by kernel_rfl) (fun _ _ _ h => h) (Or.inl ⟨by rfl, fun w' hS => by rfl⟩) (by assumption) ?_
                          try simp only [Act.put, List.getElem_toArray, List.getElem_cons_zero, List.getElem_cons_succ, List.setIfInBounds_toArray, List.set_cons_zero, List.set_cons_succ]
                          refine wpAnyH_take (i := 2) (oi := _) (v := _) rfl (by kernel_rfl) (by kernel_rfl) (by kernel_rfl) (fun _ _ _ h => h) (Or.inl ⟨by rfl, fun w' hS => by rfl⟩) (by assumption) ?_
                          try simp only [Act.put, List.getElem_toArray, List.getElem_cons_zero, List.getElem_cons_succ, List.setIfInBounds_toArray, List.set_cons_zero, List.set_cons_succ]
                          refine wpAnyH_take (i := 3) (oi := _) (v := .int .i64 18) rfl (by kernel_rfl) (by kernel_rfl) (by kernel_rfl) (fun _ _ _ h => h) (Or.inl ⟨by rfl, fun w' hS => by rfl⟩) (by assumption) ?_
                          try simp only [Act.put, List.getElem_toArray, List.getElem_cons_zero, List.getElem_cons_succ, List.setIfInBounds_toArray, List.set_cons_zero, List.set_cons_succ]
                          refine wpAnyH_take (i := 4) (oi := _) (v := .slice (some ⟨bb, off + 18, none⟩) (nb - 18) (c - 18)) rfl (by kernel_rfl) (by kernel_rfl) (by kernel_rfl) (fun _ _ _ h => h) (Or.inl ⟨by rfl, fun w' hS => by go_simp⟩) (by assumption) ?_
                          try simp only [Act.put, List.getElem_toArray, List.getElem_cons_zero, List.getElem_cons_succ, List.setIfInBounds_toArray, List.set_cons_zero, List.set_cons_succ]
                          clear hs0 hs1 hs2 hs3b hs4 hs5 hs6 hs7 hs8
                          refine wpAnyH_ready (rs := [5]) (by kernel_rfl) (by simp) ?_
                          refine AllReadyH.cons rfl (fun K hK => ?_) AllReadyH.nil
                          rw [if_pos (by rfl)]
                          refine store_list 25 _ _ rfl w.heap.size 0 [.int .u8 g.dst.a, .int .u8 g.dst.b, .int .u8 g.dst.c, .int .u8 g.dst.d, .int .u8 g.dst.e, .int .u8 g.dst.f, .int .u8 g.src.a, .int .u8 g.src.b, .int .u8 g.src.c, .int .u8 g.src.d, .int .u8 g.src.e, .int .u8 g.src.f, .bool g.tag, .int .i64 g.vlan, .int .i64 g.prio, .int .i64 g.ty] rfl rfl HZ4.out (by kernel_rfl) (by kernel_rfl) ?_
                          have hrow := World.rangeAt_setCells_same wc.drew w.heap.size 0 [.int .u8 g.dst.a, .int .u8 g.dst.b, .int .u8 g.dst.c, .int .u8 g.dst.d, .int .u8 g.dst.e, .int .u8 g.dst.f, .int .u8 g.src.a, .int .u8 g.src.b, .int .u8 g.src.c, .int .u8 g.src.d, .int .u8 g.src.e, .int .u8 g.src.f, .bool g.tag, .int .i64 g.vlan, .int .i64 g.prio, .int .i64 g.ty] HZ4.out
                          have F6 : Fr (fun i => i = w.heap.size) wc (wc.drew.setCells w.heap.size 0 [.int .u8 g.dst.a, .int .u8 g.dst.b, .int .u8 g.dst.c, .int .u8 g.dst.d, .int .u8 g.dst.e, .int .u8 g.dst.f, .int .u8 g.src.a, .int .u8 g.src.b, .int .u8 g.src.c, .int .u8 g.src.d, .int .u8 g.src.e, .int .u8 g.src.f, .bool g.tag, .int .i64 g.vlan, .int .i64 g.prio, .int .i64 g.ty]) := Fr.setCells (S := fun i => i = w.heap.size) w.heap.size (fun _ => rfl) _ 0 wc.drew R0.out.drew
                          have F7 : Fr (fun _ => False) w (wc.drew.setCells w.heap.size 0 [.int .u8 g.dst.a, .int .u8 g.dst.b, .int .u8 g.dst.c, .int .u8 g.dst.d, .int .u8 g.dst.e, .int .u8 g.dst.f, .int .u8 g.src.a, .int .u8 g.src.b, .int .u8 g.src.c, .int .u8 g.src.d, .int .u8 g.src.e, .int .u8 g.src.f, .bool g.tag, .int .i64 g.vlan, .int .i64 g.prio, .int .i64 g.ty]) := Fr.setCells w.heap.size (fun h => by omega) _ 0 wc.drew FW4.out.drew
                          have c0 := hrow
                          generalize wc.drew.setCells w.heap.size 0 [.int .u8 g.dst.a, .int .u8 g.dst.b, .int .u8 g.dst.c, .int .u8 g.dst.d, .int .u8 g.dst.e, .int .u8 g.dst.f, .int .u8 g.src.a, .int .u8 g.src.b, .int .u8 g.src.c, .int .u8 g.src.d, .int .u8 g.src.e, .int .u8 g.src.f, .bool g.tag, .int .i64 g.vlan, .int .i64 g.prio, .int .i64 g.ty] = w6 at F6 F7 c0 ⊢
                          clear hrow
                          refine hK.out _ _ (HSF.out _ F6) (fun hHeld => ?_)
                          clear hK K
                          try simp only [Act.put, List.getElem_toArray, List.getElem_cons_zero, List.getElem_cons_succ]
                          refine wpAnyH_ready (rs := [6]) (by kernel_rfl) (by simp) ?_
                          refine AllReadyH.cons rfl (fun K hK => ?_) AllReadyH.nil
                          go_simp
                          refine hK.out _ _ (HSF.out _ F6) (fun hHeld => ?_)
                          clear hK K
                          try simp only [Act.put, List.getElem_toArray, List.getElem_cons_zero, List.getElem_cons_succ, List.setIfInBounds_toArray, List.set_cons_zero, List.set_cons_succ]
                          refine wpAnyH_ready (rs := [7]) (by kernel_rfl) (by simp) ?_
                          refine AllReadyH.cons rfl (fun K hK => ?_) AllReadyH.nil
                          go_simp
                          refine hK.out _ _ (HSF.out _ F6) (fun hHeld => ?_)
                          clear hK K
                          try simp only [Act.put, List.getElem_toArray, List.getElem_cons_zero, List.getElem_cons_succ, List.setIfInBounds_toArray, List.set_cons_zero, List.set_cons_succ]
                          refine wpAnyH_done (by kernel_rfl) ?_ _
                          go_wp2_with fail
                          exact bodyPost_ret (v := .tuple #[.agg #[.int .u8 g.dst.a, .int .u8 g.dst.b, .int .u8 g.dst.c, .int .u8 g.dst.d, .int .u8 g.dst.e, .int .u8 g.dst.f, .int .u8 g.src.a, .int .u8 g.src.b, .int .u8 g.src.c, .int .u8 g.src.d, .int .u8 g.src.e, .int .u8 g.src.f, .bool g.tag, .int .i64 g.vlan, .int .i64 g.prio, .int .i64 g.ty], .slice (some ⟨bb, off + 18, none⟩) (nb - 18) (c - 18), .int .i64 0]) (results_cell16 _ w6 w.heap.size [.int .u8 g.dst.a, .int .u8 g.dst.b, .int .u8 g.dst.c, .int .u8 g.dst.d, .int .u8 g.dst.e, .int .u8 g.dst.f, .int .u8 g.src.a, .int .u8 g.src.b, .int .u8 g.src.c, .int .u8 g.src.d, .int .u8 g.src.e, .int .u8 g.src.f, .bool g.tag, .int .i64 g.vlan, .int .i64 g.prio, .int .i64 g.ty] rfl (run_loadVar_mid w6 w.heap.size 0 25 [.int .u8 g.dst.a, .int .u8 g.dst.b, .int .u8 g.dst.c, .int .u8 g.dst.d, .int .u8 g.dst.e, .int .u8 g.dst.f, .int .u8 g.src.a, .int .u8 g.src.b, .int .u8 g.src.c, .int .u8 g.src.d, .int .u8 g.src.e, .int .u8 g.src.f, .bool g.tag, .int .i64 g.vlan, .int .i64 g.prio, .int .i64 g.ty] _ c0 Try.underlying25 rfl (by kernel_rfl))) rfl (by first | exact ⟨F7, fun h => (by have := HLG.out; have := HM2.out; omega), fun _ => rfl⟩ | exact ⟨F7, fun h => (by have := HLG.out; have := HM2.out; omega), fun _ h => (by cases h), fun _ _ => rfl⟩ | exact ⟨F7, fun h => (by have := HLG.out; have := HM2.out; omega), fun _ => rfl, fun _ => rfl⟩ | exact ⟨F7, fun h => (by have := HLG.out; have := HM2.out; omega), trivial, fun _ => rfl⟩ | exact ⟨F7, fun h => (by have := HLG.out; have := HM2.out; omega), fun _ h => (by cases h), fun _ => rfl⟩)
                      · go_upto_region 19 with (fail)
                        go_step
                        refine wpList_plain rfl fun K hK => ?_
                        go_simp
                        refine hK _ _ ?_
                        refine wpList_store_mid rfl 25 _ _ rfl w.heap.size 0 #[.int .u8 0, .int .u8 0, .int .u8 0, .int .u8 0, .int .u8 0, .int .u8 0, .int .u8 0, .int .u8 0, .int .u8 0, .int .u8 0, .int .u8 0, .int .u8 0, .bool false, .int .i64 0, .int .i64 0, .int .i64 0] rfl rfl HZ4.out (by kernel_rfl) (by kernel_rfl) ?_
                        have hrow := World.rangeAt_setCells_same wc w.heap.size 0 [.int .u8 0, .int .u8 0, .int .u8 0, .int .u8 0, .int .u8 0, .int .u8 0, .int .u8 0, .int .u8 0, .int .u8 0, .int .u8 0, .int .u8 0, .int .u8 0, .bool false, .int .i64 0, .int .i64 0, .int .i64 0] HZ4.out
                        have F7 : Fr (fun _ => False) w (wc.setCells w.heap.size 0 [.int .u8 0, .int .u8 0, .int .u8 0, .int .u8 0, .int .u8 0, .int .u8 0, .int .u8 0, .int .u8 0, .int .u8 0, .int .u8 0, .int .u8 0, .int .u8 0, .bool false, .int .i64 0, .int .i64 0, .int .i64 0]) := Fr.setCells w.heap.size (fun h => by omega) _ 0 wc FW4.out
                        have c0 := hrow
                        generalize wc.setCells w.heap.size 0 [.int .u8 0, .int .u8 0, .int .u8 0, .int .u8 0, .int .u8 0, .int .u8 0, .int .u8 0, .int .u8 0, .int .u8 0, .int .u8 0, .int .u8 0, .int .u8 0, .bool false, .int .i64 0, .int .i64 0, .int .i64 0] = w6 at F7 c0 ⊢
                        clear hrow
                        go_wp2_with fail
                        exact bodyPost_ret (v := .tuple #[.agg #[.int .u8 0, .int .u8 0, .int .u8 0, .int .u8 0, .int .u8 0, .int .u8 0, .int .u8 0, .int .u8 0, .int .u8 0, .int .u8 0, .int .u8 0, .int .u8 0, .bool false, .int .i64 0, .int .i64 0, .int .i64 0], .slice none 0 0, .int .i64 4]) (results_cell16 _ w6 w.heap.size [.int .u8 0, .int .u8 0, .int .u8 0, .int .u8 0, .int .u8 0, .int .u8 0, .int .u8 0, .int .u8 0, .int .u8 0, .int .u8 0, .int .u8 0, .int .u8 0, .bool false, .int .i64 0, .int .i64 0, .int .i64 0] rfl (run_loadVar_mid w6 w.heap.size 0 25 [.int .u8 0, .int .u8 0, .int .u8 0, .int .u8 0, .int .u8 0, .int .u8 0, .int .u8 0, .int .u8 0, .int .u8 0, .int .u8 0, .int .u8 0, .int .u8 0, .bool false, .int .i64 0, .int .i64 0, .int .i64 0] _ c0 Try.underlying25 rfl (by kernel_rfl))) rfl (by first | exact ⟨F7, fun h => (by have := HLG.out; have := HM2.out; omega), fun _ => rfl, fun _ h => (by cases h)⟩ | exact ⟨F7, fun h => (by have := HLG.out; have := HM2.out; omega), fun _ _ => rfl, fun _ h => (by cases h)⟩ | exact ⟨F7, fun h => (by have := HLG.out; have := HM2.out; omega), fun _ => rfl⟩ | exact ⟨F7, fun h => (by have := HLG.out; have := HM2.out; omega), fun _ => rfl, trivial⟩ | (refine ⟨F7, fun h => (by have := HLG.out; have := HM2.out; omega), fun _ => rfl, ?_⟩; simp))

end Go.Proofs.Ytmonaaappimphaa

