/- Decode of package icmp: too short, too long, a wrong sum. No condition but lengths. -/
import Derived.Test.YtcfadmjihccimaaIcC
import Derived.Deep.MidRow
namespace Go.Proofs.Ytcfadmjihccimaa
set_option linter.unusedVariables false
open Go.RowKit

theorem results_cell14 (tmps : Array Value) (w : World) (b : Nat) (cs : List Value) (hp : tmps.getD 2 undef = .pointer (some ⟨b, 0, none⟩)) (hl : (loadVar 24 ⟨b, 0, none⟩).run Try.prog w = .ok (.agg cs.toArray) w) :
    (results Try.f14 tmps).run Try.prog w = .ok (.tuple #[.agg cs.toArray, tmps.getD 3 undef]) w := by
  have ha : (asAddr (.pointer (some ⟨b, 0, none⟩))).run Try.prog w = .ok ⟨b, 0, none⟩ w := by rfl
  rw [Array.getD_eq_getD_getElem?] at *
  simp [results, Try.results14, hp, hl, ha, Sem.run_bind]
theorem results_row14 (tmps : Array Value) (w : World) (b : Nat) (cs : List Value) (hn : cs.length = 6) (hp : tmps.getD 2 undef = .pointer (some ⟨b, 0, none⟩)) (hr : w.heap[b]? = some (.cells cs.toArray 24)) :
    (results Try.f14 tmps).run Try.prog w = .ok (.tuple #[.agg cs.toArray, tmps.getD 3 undef]) w :=
  results_cell14 tmps w b cs hp (run_loadVar_mid w b 0 24 cs _ (fun j v hj => by rw [Nat.zero_add]; exact cells_at w b cs 24 hr j v hj) Try.underlying24 rfl (by rw [hn]; kernel_rfl))
/-- Six cells stored one by one. -/
theorem six_row {w : World} {b : Nat} {a0 a1 a2 a3 a4 a5 v0 v1 v2 v3 v4 v5 : Value} (h : w.heap[b]? = some (.cells #[a0, a1, a2, a3, a4, a5] 24)) :
    ((((((w.setCell ⟨b, 0, none⟩ v0).setCell ⟨b, 1, none⟩ v1).setCell ⟨b, 2, none⟩ v2).setCell ⟨b, 3, none⟩ v3).setCell ⟨b, 4, none⟩ v4).setCell ⟨b, 5, none⟩ v5).heap[b]? = some (.cells #[v0, v1, v2, v3, v4, v5] 24) := by
  rw [heap_setCell_same _ b 5 _ 24 _ (heap_setCell_same _ b 4 _ 24 _ (heap_setCell_same _ b 3 _ 24 _ (heap_setCell_same _ b 2 _ 24 _ (heap_setCell_same _ b 1 _ 24 _ (heap_setCell_same w b 0 _ 24 _ h)))))]; rfl
theorem six_fr {w0 w : World} (f : Fr (fun _ => False) w0 w) {v0 v1 v2 v3 v4 v5 : Value} :
    Fr (fun _ => False) w0 ((((((w.setCell ⟨w0.heap.size, 0, none⟩ v0).setCell ⟨w0.heap.size, 1, none⟩ v1).setCell ⟨w0.heap.size, 2, none⟩ v2).setCell ⟨w0.heap.size, 3, none⟩ v3).setCell ⟨w0.heap.size, 4, none⟩ v4).setCell ⟨w0.heap.size, 5, none⟩ v5) :=
  (((((f.setCell _ _ (fun h => absurd h (Nat.lt_irrefl _))).setCell _ _ (fun h => absurd h (Nat.lt_irrefl _))).setCell _ _ (fun h => absurd h (Nat.lt_irrefl _))).setCell _ _ (fun h => absurd h (Nat.lt_irrefl _))).setCell _ _ (fun h => absurd h (Nat.lt_irrefl _))).setCell _ _ (fun h => absurd h (Nat.lt_irrefl _))

set_option maxHeartbeats 8000000 in
set_option maxRecDepth 100000 in
theorem decode14_short (A : Option Addr) (n c : Nat) (w : World) (hn : n < 8) :
    Calls Try.prog 14 #[.slice A n c] w fun e w' => e = .returned (.tuple #[.agg #[.int .i64 0, .int .i64 0, .int .i64 0, .int .i64 0, .int .i64 0, .slice none 0 0], .int .i64 3]) ∧ Fr (fun _ => False) w w' := by
  have FA := Lib.hid (Fr.refl (fun _ => False) w)
  go_enter Try.func14, Try.ntmps14
  go_wp2_with fail
  exact bodyPost_ret (v := .tuple #[.agg #[.int .i64 0, .int .i64 0, .int .i64 0, .int .i64 0, .int .i64 0, .slice none 0 0], .int .i64 3]) (by simp [results, Try.results14, go_sem]) rfl ⟨rfl, FA.out.alloc _⟩
set_option maxHeartbeats 8000000 in
set_option maxRecDepth 100000 in
theorem decode14_long (A : Option Addr) (n c : Nat) (w : World) (hn : 1024 < n) :
    Calls Try.prog 14 #[.slice A n c] w fun e w' => e = .returned (.tuple #[.agg #[.int .i64 0, .int .i64 0, .int .i64 0, .int .i64 0, .int .i64 0, .slice none 0 0], .int .i64 2]) ∧ Fr (fun _ => False) w w' := by
  have FA := Lib.hid (Fr.refl (fun _ => False) w)
  have h8 : ¬ n < 8 := by omega
  go_enter Try.func14, Try.ntmps14
  go_wp2_with fail
  exact bodyPost_ret (v := .tuple #[.agg #[.int .i64 0, .int .i64 0, .int .i64 0, .int .i64 0, .int .i64 0, .slice none 0 0], .int .i64 2]) (by simp [results, Try.results14, go_sem]) rfl ⟨rfl, FA.out.alloc _⟩
set_option maxHeartbeats 8000000 in
set_option maxRecDepth 100000 in
theorem decode14_sum (A : Option Addr) (n c : Nat) (l : List Int) (w : World) (hn : 8 ≤ n) (hn2 : n ≤ 1024) (P : Pc w A n l) (hs : ck l ≠ 0) :
    Calls Try.prog 14 #[.slice A n c] w fun e w' => e = .returned (.tuple #[.agg #[.int .i64 0, .int .i64 0, .int .i64 0, .int .i64 0, .int .i64 0, .slice none 0 0], .int .i64 5]) ∧ Fr (fun _ => False) w w' := by
  have FA := Lib.hid (Fr.refl (fun _ => False) w)
  have HP := Lib.hid P
  obtain ⟨s, hse⟩ : ∃ s, ck l = s := ⟨_, rfl⟩
  have HS := Lib.hid hse
  rw [hse] at hs
  have hsb : (s == 0) = false := by simpa using hs
  clear P hse
  go_enter Try.func14, Try.ntmps14
  go_upto_region 5 with (fail)
  have g0 := heap_alloc_new w (.cells #[.int .i64 0, .int .i64 0, .int .i64 0, .int .i64 0, .int .i64 0, .slice none 0 0] 24)
  have FB := Lib.hid (FA.out.alloc (.cells #[.int .i64 0, .int .i64 0, .int .i64 0, .int .i64 0, .int .i64 0, .slice none 0 0] 24))
  have hz : w.heap.size < (w.alloc (.cells #[.int .i64 0, .int .i64 0, .int .i64 0, .int .i64 0, .int .i64 0, .slice none 0 0] 24)).heap.size := by simp
  generalize w.alloc (.cells #[.int .i64 0, .int .i64 0, .int .i64 0, .int .i64 0, .int .i64 0, .slice none 0 0] 24) = w1 at g0 FB hz ⊢
  have P1 := Lib.hid (HP.out.fr FB.out)
  have HG := Lib.hid (And.intro g0 hz)
  clear g0 hz
  go_upto_region 6 with (go_at_call 42; refine (sum28_boxN c l w1 P1.out.len P1.out.ok (by omega) P1.out.here 1).mono ?_; rw [HS.out]; rintro e w2 ⟨rfl, f2⟩; have F2 := Lib.hid f2; clear f2)
  have hrow := (F2.out.block w.heap.size HG.out.2 (fun e => e)).trans HG.out.1
  have hc : ∀ j v, ([.int .i64 0, .int .i64 0, .int .i64 0, .int .i64 0, .int .i64 0, .slice none 0 0] : List Value)[j]? = some v → w2.cell? ⟨w.heap.size, j, none⟩ = some v := fun j v hj => cells_at w2 w.heap.size _ 24 hrow j v hj
  have hf : ∀ j, w2.frozen? ⟨w.heap.size, j, none⟩ = false := fun j => frozen_of_row w2 _ j _ 24 hrow
  have d0 := hc 0 _ rfl
  have d1 := hc 1 _ rfl
  have d2 := hc 2 _ rfl
  have d3 := hc 3 _ rfl
  have d4 := hc 4 _ rfl
  have d5 := hc 5 _ rfl
  have FW := Lib.hid (FB.out.then' F2.out)
  have HROW := Lib.hid hrow
  clear hc hrow
  go_wp2_with fail
  exact bodyPost_ret (v := .tuple #[.agg #[.int .i64 0, .int .i64 0, .int .i64 0, .int .i64 0, .int .i64 0, .slice none 0 0], .int .i64 5]) (results_row14 _ _ w.heap.size [.int .i64 0, .int .i64 0, .int .i64 0, .int .i64 0, .int .i64 0, .slice none 0 0] rfl rfl (six_row HROW.out)) rfl ⟨rfl, six_fr FW.out⟩
end Go.Proofs.Ytcfadmjihccimaa
