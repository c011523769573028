/- route.masked. No condition but the bits' bounds. -/
import Derived.Test.YtcfadmjihccimaaUt
import Derived.Test.YtcfadmjihccimaaIcK
namespace Go.Proofs.Ytcfadmjihccimaa
set_option linter.unusedVariables false
set_option linter.unusedSimpArgs false
open Go.RowKit
def kpE (n o : Int) : Int := if (if o < n then n - o else 0) < 8 then (if o < n then n - o else 0) else 8
def mkB (x n o : Int) : Int := bits .and .u8 x (65280 / 2 ^ (kpE n o).toNat % 256)
def mkl (a b c d n : Int) (k : Nat) : List Value :=
  let f := fun (j : Nat) (x o : Int) => if j < k then Value.int .u8 (mkB x n o) else .int .u8 x
  [f 0 a 0, f 1 b 8, f 2 c 16, f 3 d 24]
def mkI (k : I4) (n : Int) : I4 := ⟨mkB k.a n 0, mkB k.b n 8, mkB k.c n 16, mkB k.d n 24⟩
theorem results_cell55 (tmps : Array Value) (w : World) (b : Nat) (cs : List Value) (hp : tmps.getD 4 undef = .pointer (some ⟨b, 0, none⟩)) (hl : (loadVar 45 ⟨b, 0, none⟩).run Try.prog w = .ok (.agg cs.toArray) w) :
    (results Try.f55 tmps).run Try.prog w = .ok (.agg cs.toArray) w := by
  have ha : (asAddr (.pointer (some ⟨b, 0, none⟩))).run Try.prog w = .ok ⟨b, 0, none⟩ w := by rfl
  rw [Array.getD_eq_getD_getElem?] at *
  simp [results, Try.results55, hp, hl, ha, Sem.run_bind]
theorem flat45 : flatK Try.prog 9 45 = some [some .u8, some .u8, some .u8, some .u8] := by kernel_rfl
def I4.cells (k : I4) : List Value := [.int .u8 k.a, .int .u8 k.b, .int .u8 k.c, .int .u8 k.d]
theorem fits45 {k : I4} (h : k.ok) : FitsL [some .u8, some .u8, some .u8, some .u8] k.cells := ⟨⟨_, rfl, h.1⟩, ⟨_, rfl, h.2.1⟩, ⟨_, rfl, h.2.2.1⟩, ⟨_, rfl, h.2.2.2⟩, trivial⟩
theorem i4_iff (m k : I4) : decide (m = k) = true ↔ m.cells = k.cells := by
  rw [decide_eq_true_iff]
  constructor
  · intro e; rw [e]
  · intro e; cases m; cases k; simpa [I4.cells] using e
theorem eql45 {k k' : I4} (h : k.ok) (h' : k'.ok) (w : World) : (binOp .eql 45 (.agg k.cells.toArray) (.agg k'.cells.toArray)).run Try.prog w = .ok (.bool (decide (k = k'))) w :=
  run_eql_flat (P := Try.prog) flat45 (by kernel_rfl) (fits45 h) (fits45 h') (by kernel_rfl) (by kernel_rfl) _ (i4_iff k k') w
theorem neq45 {k k' : I4} (h : k.ok) (h' : k'.ok) (w : World) : (binOp .neq 45 (.agg k.cells.toArray) (.agg k'.cells.toArray)).run Try.prog w = .ok (.bool (!decide (k = k'))) w :=
  run_neq_flat (P := Try.prog) flat45 (by kernel_rfl) (fits45 h) (fits45 h') (by kernel_rfl) (by kernel_rfl) _ (i4_iff k k') w
theorem cells_at4 (w : World) (b : Nat) (cs : List Value) (t : TypeId) (h : w.heap[b]? = some (.cells cs.toArray t)) (j : Nat) (v : Value) (hj : cs[j]? = some v) : w.cell? ⟨b, j, none⟩ = some v := by
  rw [cell_of_row _ _ j _ t (0, 0) h]; simpa using hj
set_option maxHeartbeats 8000000 in
set_option maxRecDepth 100000 in
theorem masked55 (a b c d n : Int) (w : World) (hn : 0 ≤ n ∧ n ≤ 32) :
    Calls Try.prog 55 #[.agg #[.int .u8 a, .int .u8 b, .int .u8 c, .int .u8 d], .int .i64 n] w fun e w' => e = .returned (.agg #[.int .u8 (mkB a n 0), .int .u8 (mkB b n 8), .int .u8 (mkB c n 16), .int .u8 (mkB d n 24)]) ∧ Fr (fun _ => False) w w' := by
  have FA := Lib.hid (Fr.refl (fun _ => False) w)
  go_enter Try.func55, Try.ntmps55
  go_upto_region 1 with (fail)
  obtain ⟨w1, hw1⟩ : ∃ w1, (w.alloc (.cells #[.int .u8 a, .int .u8 b, .int .u8 c, .int .u8 d] 45)).alloc (.cells #[.int .u8 0, .int .u8 0, .int .u8 0, .int .u8 0] 45) = w1 := ⟨_, rfl⟩
  have g0 : w1.heap[w.heap.size]? = some (.cells #[.int .u8 a, .int .u8 b, .int .u8 c, .int .u8 d] 45) := by
    rw [← hw1, Below.heap_alloc _ _ _ (by simp)]; exact heap_alloc_new w _
  have g1 : w1.heap[w.heap.size + 1]? = some (.cells #[.int .u8 0, .int .u8 0, .int .u8 0, .int .u8 0] 45) := by
    rw [← hw1]; have := heap_alloc_new (w.alloc (.cells #[.int .u8 a, .int .u8 b, .int .u8 c, .int .u8 d] 45)) (.cells #[.int .u8 0, .int .u8 0, .int .u8 0, .int .u8 0] 45); simpa using this
  have F1 := Lib.hid (show Fr (fun _ => False) w w1 from hw1 ▸ (FA.out.alloc _).alloc _)
  rw [hw1]
  clear hw1
  obtain ⟨b0, hb0⟩ : ∃ b0, w.heap.size = b0 := ⟨_, rfl⟩
  have HB := Lib.hid hb0
  rw [hb0] at g0 g1 ⊢
  clear hb0
  have G0 := Lib.hid g0
  have G1 := Lib.hid g1
  clear g1
  have HG := Lib.hid g0
  clear g0
  go_wp2_with fail
  go_loopw [8] (fun v wr => ∃ k : Nat, v = .int .i64 k ∧ k ≤ 4 ∧ wr.heap[b0]? = some (.cells (mkl a b c d n k).toArray 45) ∧ Fr (fun i => i = b0) w1 wr) (fun v _ => (4 - intOf v).toNat)
  case atStart => exact ⟨0, rfl, by omega, HG.out, Fr.refl _ _⟩
  case round =>
    obtain ⟨k, rfl, hk, hg, hf⟩ := hrel
    match k, hk with
    | 0, _ =>
      have x0 := cells_at4 _ _ _ _ hg 0 _ rfl
      have z0 := frozen_of_row wr b0 0 _ 45 hg
      have HG := Lib.hid hg
      have HF := Lib.hid hf
      clear hg hf
      go_wp2_with fail
      refine ⟨⟨1, rfl, by omega, ?_, HF.out.setCell _ _ (fun _ => rfl)⟩, by simp [intOf]⟩
      rw [heap_setCell_same wr b0 0 _ 45 _ HG.out]
      simp [mkl, mkB, kpE]
    | 1, _ =>
      have x0 := cells_at4 _ _ _ _ hg 1 _ rfl
      have z0 := frozen_of_row wr b0 1 _ 45 hg
      have HG := Lib.hid hg
      have HF := Lib.hid hf
      clear hg hf
      go_wp2_with fail
      refine ⟨⟨2, rfl, by omega, ?_, HF.out.setCell _ _ (fun _ => rfl)⟩, by simp [intOf]⟩
      rw [heap_setCell_same wr b0 1 _ 45 _ HG.out]
      rfl
    | 2, _ =>
      have x0 := cells_at4 _ _ _ _ hg 2 _ rfl
      have z0 := frozen_of_row wr b0 2 _ 45 hg
      have HG := Lib.hid hg
      have HF := Lib.hid hf
      clear hg hf
      go_wp2_with fail
      refine ⟨⟨3, rfl, by omega, ?_, HF.out.setCell _ _ (fun _ => rfl)⟩, by simp [intOf]⟩
      rw [heap_setCell_same wr b0 2 _ 45 _ HG.out]
      rfl
    | 3, _ =>
      have x0 := cells_at4 _ _ _ _ hg 3 _ rfl
      have z0 := frozen_of_row wr b0 3 _ 45 hg
      have HG := Lib.hid hg
      have HF := Lib.hid hf
      clear hg hf
      go_wp2_with fail
      refine ⟨⟨4, rfl, by omega, ?_, HF.out.setCell _ _ (fun _ => rfl)⟩, by simp [intOf]⟩
      rw [heap_setCell_same wr b0 3 _ 45 _ HG.out]
      rfl
    | 4, _ =>
      have R0 := Lib.hid (cells_at wr b0 (mkl a b c d n 4) 45 hg)
      have h1 : wr.heap[b0 + 1]? = some (.cells #[.int .u8 0, .int .u8 0, .int .u8 0, .int .u8 0] 45) := (hf.block (b0 + 1) (lt_of_block G1.out) (by omega)).trans G1.out
      have T1 := Lib.hid (show wr.there (b0 + 1) 0 4 from fun j hj => ⟨by rw [Nat.zero_add, cell_of_row _ _ j _ 45 (0, 0) h1, Array.getElem?_eq_getElem (by simpa using hj)]; rfl, frozen_of_row wr _ _ _ 45 h1⟩)
      have HF := Lib.hid hf
      clear hg hf h1
      iterate 20 (first
        | (have := MK1; clear this)
        | (refine wpList_load_mid rfl 45 _ rfl b0 0 rfl (mkl a b c d n 4) _ (fun j v hj => by rw [Nat.zero_add]; exact R0.out j v hj) Try.underlying45 rfl (by kernel_rfl) ?_; have MK1 := Lib.hid True.intro)
        | go_step)
      refine wpList_store_mid rfl 45 _ _ rfl (b0 + 1) 0 (mkl a b c d n 4).toArray rfl rfl T1.out (by kernel_rfl) (by simp [mkl, Value.oneCell']) ?_
      rw [show (mkl a b c d n 4).toArray.toList = mkl a b c d n 4 from rfl]
      have R1 := Lib.hid (World.rangeAt_setCells_same wr (b0 + 1) 0 (mkl a b c d n 4) T1.out)
      have F9 := Lib.hid (Fr.setCells (S := fun _ => False) (b0 + 1) (fun h => absurd h (by have := HB.out; omega)) (mkl a b c d n 4) 0 wr (F1.out.trans HF.out (fun i hi e => by have := HB.out; omega)))
      generalize wr.setCells (b0 + 1) 0 (mkl a b c d n 4) = w9 at R1 F9 ⊢
      go_wp2_with fail
      exact bodyPost_ret (v := .agg (mkl a b c d n 4).toArray) (results_cell55 _ w9 (b0 + 1) (mkl a b c d n 4) rfl (run_loadVar_mid _ _ 0 45 _ _ R1.out Try.underlying45 rfl (by kernel_rfl))) rfl ⟨rfl, F9.out⟩
end Go.Proofs.Ytcfadmjihccimaa
