/- The reference of law 12: Quoted, what it reads. No condition but lengths. -/
import Derived.Test.YtcfadmjihccimaaIcQe
namespace Go.Proofs.Ytcfadmjihccimaa
set_option linter.unusedVariables false
set_option linter.unusedSimpArgs false
open Go.RowKit
theorem results_cell26 (tmps : Array Value) (w : World) (b : Nat) (cs : List Value) (hp : tmps.getD 2 undef = .pointer (some ⟨b, 0, none⟩)) (hl : (loadVar 53 ⟨b, 0, none⟩).run Try.prog w = .ok (.agg cs.toArray) w) :
    (results Try.f26 tmps).run Try.prog w = .ok (.tuple #[.agg cs.toArray, tmps.getD 3 undef]) w := by
  have ha : (asAddr (.pointer (some ⟨b, 0, none⟩))).run Try.prog w = .ok ⟨b, 0, none⟩ w := by rfl
  rw [Array.getD_eq_getD_getElem?] at *
  simp [results, Try.results26, hp, hl, ha, Sem.run_bind]
theorem results_set26 (tmps : Array Value) (w : World) (b : Nat) (cs : List Value) (hn : cs.length = 12) (hp : tmps.getD 2 undef = .pointer (some ⟨b, 0, none⟩)) (ht : w.there b 0 12) :
    (results Try.f26 tmps).run Try.prog (w.setCells b 0 cs) = .ok (.tuple #[.agg cs.toArray, tmps.getD 3 undef]) (w.setCells b 0 cs) :=
  results_cell26 tmps _ b cs hp (run_loadVar_mid _ b 0 53 cs _ (World.rangeAt_setCells_same w b 0 cs (by rw [hn]; exact ht)) Try.underlying53 rfl (by rw [hn]; kernel_rfl))
theorem rat38_i (A : Option Addr) (len cap : Nat) (l : List Int) (f size : Nat) (fi : Int) (hfi : fi = (f : Int)) (w : World) (P : Pc w A len l) (hf : f + size ≤ len) (hs0 : 0 < size) (hs : size ≤ 4) :
    Calls Try.prog 49 #[.slice A len cap, .int .i64 fi, .int .i64 size] w fun e w' => e = .returned (.int .i64 (be ((l.drop f).take size))) ∧ w' = w := by
  subst hfi; exact rat38_ok A len cap l f size w P hf hs0 hs
def ml5 (s0 s1 s2 s3 d0 d1 d2 d3 p a b q : Int) : List Value := [.int .u8 s0, .int .u8 s1, .int .u8 s2, .int .u8 s3, .int .u8 d0, .int .u8 d1, .int .u8 d2, .int .u8 d3, .int .i64 p, .int .i64 a, .int .i64 b, .int .u32 q]
def ml (s0 s1 s2 s3 d0 d1 d2 d3 p : Int) (i : Nat) : List Value :=
  let f := fun (j : Nat) (x : Int) => if j < i then Value.int .u8 x else .int .u8 0
  [f 0 s0, f 1 s1, f 2 s2, f 3 s3, f 0 d0, f 1 d1, f 2 d2, f 3 d3, .int .i64 p, .int .i64 0, .int .i64 0, .int .u32 0]
set_option maxHeartbeats 8000000 in
set_option maxRecDepth 100000 in
theorem rquoted26_ok (A : Option Addr) (n c : Nat) (l : List Int) (w : World) (hn : 20 ≤ n) (hcp : n ≤ c) (htop : n ≤ 140737488355328) (P : Pc w A n l) (h : dX l 0 / 16 = 4) (h' : Nat) (hh : hd0 l = (h' : Int)) (hh20 : 20 ≤ h') (hhn : h' + 8 ≤ n)
    (s0 s1 s2 s3 d0 d1 d2 d3 p : Int) (a b q : Int) (hv : if p = 6 then a = atV (l.drop h') 0 2 ∧ b = atV (l.drop h') 2 2 ∧ q = atV (l.drop h') 4 4 else if p = 17 then a = atV (l.drop h') 0 2 ∧ b = atV (l.drop h') 2 2 ∧ q = 0 else if p = 1 then a = atV (l.drop h') 4 2 ∧ b = 0 ∧ q = 0 else a = 0 ∧ b = 0 ∧ q = 0)
    (e9 : dX l 9 = p) (e12 : dX l 12 = s0) (e13 : dX l 13 = s1) (e14 : dX l 14 = s2) (e15 : dX l 15 = s3) (e16 : dX l 16 = d0) (e17 : dX l 17 = d1) (e18 : dX l 18 = d2) (e19 : dX l 19 = d3) :
    Calls Try.prog 26 #[.slice A n c] w fun e w' => e = .returned (.tuple #[.agg #[.int .u8 s0, .int .u8 s1, .int .u8 s2, .int .u8 s3, .int .u8 d0, .int .u8 d1, .int .u8 d2, .int .u8 d3, .int .i64 p, .int .i64 a, .int .i64 b, .int .u32 q], .int .i64 0]) ∧ Fr (fun _ => False) w w' := by
  have FA := Lib.hid (Fr.refl (fun _ => False) w)
  have HP := Lib.hid P
  have HH := Lib.hid hh
  have hhb := hd0_bd P (by omega)
  rw [hh] at hhb
  obtain ⟨bb, off, rfl, hbl, hcell⟩ := P.here (by rw [P.len]; omega)
  have PR := Lib.hid (show Pc w (some ⟨bb, off + h', none⟩) (n - h') (l.drop h') from ⟨by rw [List.length_drop, P.len], fun x hx => P.ok x (List.mem_of_mem_drop hx), by omega, P.here.drop h'⟩)
  have x0 := hcell 0 (dX l 0) (dX_get (by rw [P.len]; omega))
  have t0 := P.ok _ (List.mem_of_getElem? (dX_get (l := l) (i := 0) (by rw [P.len]; omega)))
  rw [Nat.add_zero] at x0
  have HC := Lib.hid (show w.rangeAt bb (off + 12) [.int .u8 s0, .int .u8 s1, .int .u8 s2, .int .u8 s3] ∧ w.rangeAt bb (off + 16) [.int .u8 d0, .int .u8 d1, .int .u8 d2, .int .u8 d3] ∧ w.cell? ⟨bb, off + 9, none⟩ = some (.int .u8 p) from by
    have q : ∀ i, i < 20 → w.cell? ⟨bb, off + i, none⟩ = some (.int .u8 (dX l i)) := fun i hi => hcell i (dX l i) (dX_get (by rw [P.len]; omega))
    have q9 := q 9 (by omega)
    have q12 := q 12 (by omega)
    have q13 := q 13 (by omega)
    have q14 := q 14 (by omega)
    have q15 := q 15 (by omega)
    have q16 := q 16 (by omega)
    have q17 := q 17 (by omega)
    have q18 := q 18 (by omega)
    have q19 := q 19 (by omega)
    rw [e9] at q9
    rw [e12] at q12
    rw [e13] at q13
    rw [e14] at q14
    rw [e15] at q15
    rw [e16] at q16
    rw [e17] at q17
    rw [e18] at q18
    rw [e19] at q19
    exact ⟨range4 q12 q13 q14 q15, range4 q16 q17 q18 q19, q9⟩)
  have t9 := P.ok _ (List.mem_of_getElem? (dX_get (l := l) (i := 9) (by rw [P.len]; omega)))
  rw [e9] at t9
  have hn20 : ¬ n < 20 := by omega
  have hh1 : ¬ (h' : Int) < 20 := by omega
  have hh2 : ¬ (n : Int) < (h' : Int) + 8 := by omega
  have hx16 : (dX l 0).tmod 16 = dX l 0 % 16 := Int.tmod_eq_emod_of_nonneg t0.1
  have hdd : dX l 0 % 16 * 4 = (h' : Int) := HH.out
  generalize dX l 0 = x at x0 t0 h hx16 hdd
  have hI : (0 : Int) < (n : Int) := by omega
  have hb : (x / 16 == 4) = true := by simpa using h
  have htd : x.tdiv 16 = x / 16 := Int.tdiv_eq_ediv_of_nonneg t0.1
  have hw : IntKind.u8.wrap (x / 16) = x / 16 := IntWalk.u8_in _ (by omega)
  have hwp : IntKind.i64.wrap p = p := IntWalk.i64_in _ (by omega)
  have HV := Lib.hid hv
  clear hv
  clear hcell P hh e9 e12 e13 e14 e15 e16 e17 e18 e19
  go_enter Try.func26, Try.ntmps26
  go_upto_region 1 with (fail)
  have g0 := heap_alloc_new w (.cells #[.int .u8 0, .int .u8 0, .int .u8 0, .int .u8 0, .int .u8 0, .int .u8 0, .int .u8 0, .int .u8 0, .int .i64 0, .int .i64 0, .int .i64 0, .int .u32 0] 53)
  have FB := Lib.hid (FA.out.alloc (.cells #[.int .u8 0, .int .u8 0, .int .u8 0, .int .u8 0, .int .u8 0, .int .u8 0, .int .u8 0, .int .u8 0, .int .i64 0, .int .i64 0, .int .i64 0, .int .u32 0] 53))
  have hz : w.heap.size < (w.alloc (.cells #[.int .u8 0, .int .u8 0, .int .u8 0, .int .u8 0, .int .u8 0, .int .u8 0, .int .u8 0, .int .u8 0, .int .i64 0, .int .i64 0, .int .i64 0, .int .u32 0] 53)).heap.size := by simp
  have T0 := Lib.hid (there_newN g0 rfl : (w.alloc (.cells #[.int .u8 0, .int .u8 0, .int .u8 0, .int .u8 0, .int .u8 0, .int .u8 0, .int .u8 0, .int .u8 0, .int .i64 0, .int .i64 0, .int .i64 0, .int .u32 0] 53)).there w.heap.size 0 12)
  have x0' : (w.alloc (.cells #[.int .u8 0, .int .u8 0, .int .u8 0, .int .u8 0, .int .u8 0, .int .u8 0, .int .u8 0, .int .u8 0, .int .i64 0, .int .i64 0, .int .i64 0, .int .u32 0] 53)).cell? ⟨bb, off, none⟩ = some (.int .u8 x) := (World.cell?_of_block (FB.out.block bb hbl (fun e => e))).trans x0
  have x9' : (w.alloc (.cells #[.int .u8 0, .int .u8 0, .int .u8 0, .int .u8 0, .int .u8 0, .int .u8 0, .int .u8 0, .int .u8 0, .int .i64 0, .int .i64 0, .int .i64 0, .int .u32 0] 53)).cell? ⟨bb, off + 9, none⟩ = some (.int .u8 p) := (World.cell?_of_block (FB.out.block bb hbl (fun e => e))).trans HC.out.2.2
  have hI9 : (9 : Int) < (n : Int) := by omega
  generalize w.alloc (.cells #[.int .u8 0, .int .u8 0, .int .u8 0, .int .u8 0, .int .u8 0, .int .u8 0, .int .u8 0, .int .u8 0, .int .i64 0, .int .i64 0, .int .i64 0, .int .u32 0] 53) = w2 at g0 FB hz T0 x0' x9' ⊢
  have P2 := Lib.hid (HP.out.fr FB.out)
  have HG := Lib.hid (And.intro g0 hz)
  clear g0 hz x0
  go_upto_region 9 with (fail)

  have FC := Lib.hid ((Fr.refl (fun _ => False) w2).alloc (.cells #[.int .u8 0, .int .u8 0, .int .u8 0, .int .u8 0, .int .u8 0, .int .u8 0, .int .u8 0, .int .u8 0, .int .i64 p, .int .i64 0, .int .i64 0, .int .u32 0] 53))
  have hzc : w2.heap.size < (w2.alloc (.cells #[.int .u8 0, .int .u8 0, .int .u8 0, .int .u8 0, .int .u8 0, .int .u8 0, .int .u8 0, .int .u8 0, .int .i64 p, .int .i64 0, .int .i64 0, .int .u32 0] 53)).heap.size := by simp
  have gc := heap_alloc_new w2 (.cells #[.int .u8 0, .int .u8 0, .int .u8 0, .int .u8 0, .int .u8 0, .int .u8 0, .int .u8 0, .int .u8 0, .int .i64 p, .int .i64 0, .int .i64 0, .int .u32 0] 53)
  have TC := Lib.hid (there_newN gc rfl : (w2.alloc (.cells #[.int .u8 0, .int .u8 0, .int .u8 0, .int .u8 0, .int .u8 0, .int .u8 0, .int .u8 0, .int .u8 0, .int .i64 p, .int .i64 0, .int .i64 0, .int .u32 0] 53)).there w2.heap.size 0 12)
  have RC := Lib.hid (show (w2.alloc (.cells #[.int .u8 0, .int .u8 0, .int .u8 0, .int .u8 0, .int .u8 0, .int .u8 0, .int .u8 0, .int .u8 0, .int .i64 p, .int .i64 0, .int .i64 0, .int .u32 0] 53)).rangeAt w2.heap.size 0 [.int .u8 0, .int .u8 0, .int .u8 0, .int .u8 0, .int .u8 0, .int .u8 0, .int .u8 0, .int .u8 0, .int .i64 p, .int .i64 0, .int .i64 0, .int .u32 0] from fun j v hj => by rw [Nat.zero_add, cell_of_row _ _ j _ 53 (0, 0) gc]; simpa using hj)
  clear gc
  generalize w2.alloc (.cells #[.int .u8 0, .int .u8 0, .int .u8 0, .int .u8 0, .int .u8 0, .int .u8 0, .int .u8 0, .int .u8 0, .int .i64 p, .int .i64 0, .int .i64 0, .int .u32 0] 53) = w3 at FC hzc TC RC ⊢
  have HK0 := Lib.hid (fun (w' : World) (k : Fr (fun i => i = w2.heap.size) w3 w') => show w'.rangeAt bb (off + 12) [.int .u8 s0, .int .u8 s1, .int .u8 s2, .int .u8 s3] ∧ w'.rangeAt bb (off + 16) [.int .u8 d0, .int .u8 d1, .int .u8 d2, .int .u8 d3] from
    have B := ((FB.out.then' FC.out).trans k (fun i hi e => by have := HG.out.2; omega)).block bb hbl (fun e => e)
    ⟨fun j v hj => (World.cell?_of_block B).trans (HC.out.1 j v hj), fun j v hj => (World.cell?_of_block B).trans (HC.out.2.1 j v hj)⟩)
  have hI12 : (12 : Int) < (n : Int) := by omega
  have hI13 : (13 : Int) < (n : Int) := by omega
  have hI14 : (14 : Int) < (n : Int) := by omega
  have hI15 : (15 : Int) < (n : Int) := by omega
  have hI16 : (16 : Int) < (n : Int) := by omega
  have hI17 : (17 : Int) < (n : Int) := by omega
  have hI18 : (18 : Int) < (n : Int) := by omega
  have hI19 : (19 : Int) < (n : Int) := by omega
  go_wp2_with fail
  go_loopw [6] (fun v wr => ∃ k : Nat, v = .int .i64 k ∧ k ≤ 4 ∧ wr.rangeAt w2.heap.size 0 (ml s0 s1 s2 s3 d0 d1 d2 d3 p k) ∧ wr.there w2.heap.size 0 12 ∧ Fr (fun i => i = w2.heap.size) w3 wr) (fun v _ => (4 - intOf v).toNat)
  case atStart => exact ⟨0, rfl, Nat.zero_le _, RC.out, TC.out, Fr.refl _ _⟩
  case round =>
    obtain ⟨k, rfl, hk, hr, ht, hf⟩ := hrel
    match k, hk with
    | 0, _ =>
      have xs := hr 0 _ rfl
      have xd := hr 4 _ rfl
      have ys := (ht 0 (by omega)).2
      have yd := (ht 4 (by omega)).2
      simp only [Nat.zero_add] at xs xd ys yd
      have q := HK0.out _ hf
      have q1 := q.1 0 _ rfl
      have q2 := q.2 0 _ rfl
      simp only [Nat.add_assoc, Nat.reduceAdd] at q1 q2
      have HR := Lib.hid hr
      have HT := Lib.hid ht
      have HF := Lib.hid hf
      clear hr ht hf q
      go_wp2_with fail
      go_roundw
      case rel => exact ⟨1, rfl, by omega, rangeAt_set (rangeAt_set HR.out 0 (.int .u8 s0) (by simp [ml])) 4 (.int .u8 d0) (by simp [ml]), there_set (there_set HT.out _ _) _ _, (HF.out.setCell _ _ (fun _ => rfl)).setCell _ _ (fun _ => rfl)⟩
      case measure => simp [intOf]
    | 1, _ =>
      have xs := hr 1 _ rfl
      have xd := hr 5 _ rfl
      have ys := (ht 1 (by omega)).2
      have yd := (ht 5 (by omega)).2
      simp only [Nat.zero_add] at xs xd ys yd
      have q := HK0.out _ hf
      have q1 := q.1 1 _ rfl
      have q2 := q.2 1 _ rfl
      simp only [Nat.add_assoc, Nat.reduceAdd] at q1 q2
      have HR := Lib.hid hr
      have HT := Lib.hid ht
      have HF := Lib.hid hf
      clear hr ht hf q
      go_wp2_with fail
      go_roundw
      case rel => exact ⟨2, rfl, by omega, rangeAt_set (rangeAt_set HR.out 1 (.int .u8 s1) (by simp [ml])) 5 (.int .u8 d1) (by simp [ml]), there_set (there_set HT.out _ _) _ _, (HF.out.setCell _ _ (fun _ => rfl)).setCell _ _ (fun _ => rfl)⟩
      case measure => simp [intOf]
    | 2, _ =>
      have xs := hr 2 _ rfl
      have xd := hr 6 _ rfl
      have ys := (ht 2 (by omega)).2
      have yd := (ht 6 (by omega)).2
      simp only [Nat.zero_add] at xs xd ys yd
      have q := HK0.out _ hf
      have q1 := q.1 2 _ rfl
      have q2 := q.2 2 _ rfl
      simp only [Nat.add_assoc, Nat.reduceAdd] at q1 q2
      have HR := Lib.hid hr
      have HT := Lib.hid ht
      have HF := Lib.hid hf
      clear hr ht hf q
      go_wp2_with fail
      go_roundw
      case rel => exact ⟨3, rfl, by omega, rangeAt_set (rangeAt_set HR.out 2 (.int .u8 s2) (by simp [ml])) 6 (.int .u8 d2) (by simp [ml]), there_set (there_set HT.out _ _) _ _, (HF.out.setCell _ _ (fun _ => rfl)).setCell _ _ (fun _ => rfl)⟩
      case measure => simp [intOf]
    | 3, _ =>
      have xs := hr 3 _ rfl
      have xd := hr 7 _ rfl
      have ys := (ht 3 (by omega)).2
      have yd := (ht 7 (by omega)).2
      simp only [Nat.zero_add] at xs xd ys yd
      have q := HK0.out _ hf
      have q1 := q.1 3 _ rfl
      have q2 := q.2 3 _ rfl
      simp only [Nat.add_assoc, Nat.reduceAdd] at q1 q2
      have HR := Lib.hid hr
      have HT := Lib.hid ht
      have HF := Lib.hid hf
      clear hr ht hf q
      go_wp2_with fail
      go_roundw
      case rel => exact ⟨4, rfl, by omega, rangeAt_set (rangeAt_set HR.out 3 (.int .u8 s3) (by simp [ml])) 7 (.int .u8 d3) (by simp [ml]), there_set (there_set HT.out _ _) _ _, (HF.out.setCell _ _ (fun _ => rfl)).setCell _ _ (fun _ => rfl)⟩
      case measure => simp [intOf]
    | 4, _ =>
      have HR := Lib.hid (show wr.rangeAt w2.heap.size 0 [.int .u8 s0, .int .u8 s1, .int .u8 s2, .int .u8 s3, .int .u8 d0, .int .u8 d1, .int .u8 d2, .int .u8 d3, .int .i64 p, .int .i64 0, .int .i64 0, .int .u32 0] from hr)
      have HT := Lib.hid ht
      have HF := Lib.hid hf
      have PX := Lib.hid (HP.out.fr ((FB.out.then' FC.out).trans hf (fun i hi e => by have := HG.out.2; omega)))
      have B1 := Lib.hid (show be ((l.drop (h' + 0)).take 2) = atV (l.drop h') 0 2 from by rw [← List.drop_drop]; exact at_be PR.out.len (by omega))
      have B2 := Lib.hid (show be ((l.drop (h' + 2)).take 2) = atV (l.drop h') 2 2 from by rw [← List.drop_drop]; exact at_be PR.out.len (by omega))
      have B3 := Lib.hid (show be ((l.drop (h' + 4)).take 2) = atV (l.drop h') 4 2 from by rw [← List.drop_drop]; exact at_be PR.out.len (by omega))
      have B4 := Lib.hid (show be ((l.drop (h' + 4)).take 4) = atV (l.drop h') 4 4 from by rw [← List.drop_drop]; exact at_be PR.out.len (by omega))
      clear hr ht hf
      have hv := HV.out
      rcases (by omega : p = 6 ∨ (p ≠ 6 ∧ p = 17) ∨ (p ≠ 6 ∧ p ≠ 17 ∧ p = 1) ∨ (p ≠ 6 ∧ p ≠ 17 ∧ p ≠ 1)) with h6 | ⟨h6, h17⟩ | ⟨h6, h17, h1⟩ | ⟨h6, h17, h1⟩
      · have hp1 : (p == 6) = true := by simp [h6]
        have hp2 : (p == 17) = false := by simp [h6]
        have hp3 : (p == 1) = false := by simp [h6]
        rw [if_pos h6] at hv
        have HV2 := Lib.hid hv
        have hb4 := atV_bd (l.drop h') PR.out.ok 4 4 (by decide)
        have hw4 : IntKind.u32.wrap (atV (l.drop h') 4 4) = atV (l.drop h') 4 4 := IntWalk.u32_in _ (by omega)
        clear hv h6 hb4
        have x8 := HR.out 8 _ rfl
        have y8 := (HT.out 8 (by omega)).2
        have x9 := HR.out 9 _ rfl
        have y9 := (HT.out 9 (by omega)).2
        simp only [Nat.zero_add] at x8 y8 x9 y9
        go_upto_region 16 with (go_at_call 49; refine (rat38_i _ n c l (h' + 0) 2 (h' : Int) (by omega) wr PX.out (by omega) (by decide) (by decide)).mono ?_; rw [B1.out]; rintro e w3' ⟨rfl, hw3⟩; have hw3 := hw3.symm; subst hw3)
        have RS1 := Lib.hid (rangeAt_set HR.out 9 (.int .i64 (atV (l.drop h') 0 2)) (by simp))
        have TS1 := Lib.hid (there_set HT.out ⟨w2.heap.size, 9, none⟩ (.int .i64 (atV (l.drop h') 0 2)))
        have FS1 := Lib.hid (HF.out.setCell ⟨w2.heap.size, 9, none⟩ (.int .i64 (atV (l.drop h') 0 2)) (fun _ => rfl))
        have PS1 := Lib.hid (show Pc (wr.setCell ⟨w2.heap.size, 9, none⟩ (.int .i64 (atV (l.drop h') 0 2))) (some ⟨bb, off, none⟩) n l from HP.out.fr ((FB.out.then' FC.out).trans FS1.out (fun i hi e => by have := HG.out.2; omega)))
        clear x8 y8 x9 y9
        generalize wr.setCell ⟨w2.heap.size, 9, none⟩ (.int .i64 (atV (l.drop h') 0 2)) = wz1 at RS1 TS1 FS1 PS1 ⊢
        have x8 := RS1.out 8 _ rfl
        have y8 := (TS1.out 8 (by omega)).2
        have x10 := RS1.out 10 _ rfl
        have y10 := (TS1.out 10 (by omega)).2
        simp only [Nat.zero_add] at x8 y8 x10 y10
        go_upto_region 18 with (go_at_call 49; refine (rat38_i _ n c l (h' + 2) 2 ((h' : Int) + 2) (by omega) wz1 PS1.out (by omega) (by decide) (by decide)).mono ?_; rw [B2.out]; rintro e w3' ⟨rfl, hw3⟩; have hw3 := hw3.symm; subst hw3)
        have RS2 := Lib.hid (rangeAt_set RS1.out 10 (.int .i64 (atV (l.drop h') 2 2)) (by simp))
        have TS2 := Lib.hid (there_set TS1.out ⟨w2.heap.size, 10, none⟩ (.int .i64 (atV (l.drop h') 2 2)))
        have FS2 := Lib.hid (FS1.out.setCell ⟨w2.heap.size, 10, none⟩ (.int .i64 (atV (l.drop h') 2 2)) (fun _ => rfl))
        have PS2 := Lib.hid (show Pc (wz1.setCell ⟨w2.heap.size, 10, none⟩ (.int .i64 (atV (l.drop h') 2 2))) (some ⟨bb, off, none⟩) n l from HP.out.fr ((FB.out.then' FC.out).trans FS2.out (fun i hi e => by have := HG.out.2; omega)))
        clear x8 y8 x10 y10
        generalize wz1.setCell ⟨w2.heap.size, 10, none⟩ (.int .i64 (atV (l.drop h') 2 2)) = wz2 at RS2 TS2 FS2 PS2 ⊢
        have x8 := RS2.out 8 _ rfl
        have y8 := (TS2.out 8 (by omega)).2
        have x11 := RS2.out 11 _ rfl
        have y11 := (TS2.out 11 (by omega)).2
        simp only [Nat.zero_add] at x8 y8 x11 y11
        go_upto_region 21 with (go_at_call 49; refine (rat38_i _ n c l (h' + 4) 4 ((h' : Int) + 4) (by omega) wz2 PS2.out (by omega) (by decide) (by decide)).mono ?_; rw [B4.out]; rintro e w3' ⟨rfl, hw3⟩; have hw3 := hw3.symm; subst hw3)
        have RS3 := Lib.hid (rangeAt_set RS2.out 11 (.int .u32 (atV (l.drop h') 4 4)) (by simp))
        have TS3 := Lib.hid (there_set TS2.out ⟨w2.heap.size, 11, none⟩ (.int .u32 (atV (l.drop h') 4 4)))
        have FS3 := Lib.hid (FS2.out.setCell ⟨w2.heap.size, 11, none⟩ (.int .u32 (atV (l.drop h') 4 4)) (fun _ => rfl))
        have PS3 := Lib.hid (show Pc (wz2.setCell ⟨w2.heap.size, 11, none⟩ (.int .u32 (atV (l.drop h') 4 4))) (some ⟨bb, off, none⟩) n l from HP.out.fr ((FB.out.then' FC.out).trans FS3.out (fun i hi e => by have := HG.out.2; omega)))
        clear x8 y8 x11 y11
        generalize wz2.setCell ⟨w2.heap.size, 11, none⟩ (.int .u32 (atV (l.drop h') 4 4)) = wz3 at RS3 TS3 FS3 PS3 ⊢
        have F2d : Fr (fun _ => False) w2 wz3 := FC.out.trans FS3.out (fun i hi e => by omega)
        have FWd := Lib.hid (FB.out.then' F2d)
        have HTr := Lib.hid (show wz3.there w.heap.size 0 12 from there_newN ((F2d.block w.heap.size HG.out.2 (fun e => e)).trans HG.out.1) rfl)
        have RM := Lib.hid (show wz3.rangeAt w2.heap.size 0 [.int .u8 s0, .int .u8 s1, .int .u8 s2, .int .u8 s3, .int .u8 d0, .int .u8 d1, .int .u8 d2, .int .u8 d3, .int .i64 p, .int .i64 a, .int .i64 b, .int .u32 q] from by rw [HV2.out.1, HV2.out.2.1, HV2.out.2.2]; exact RS3.out)
        go_step
        refine wpList_load53 rfl _ rfl w2.heap.size rfl [.int .u8 s0, .int .u8 s1, .int .u8 s2, .int .u8 s3, .int .u8 d0, .int .u8 d1, .int .u8 d2, .int .u8 d3, .int .i64 p, .int .i64 a, .int .i64 b, .int .u32 q] RM.out rfl ?_
        refine wpList_store53 rfl _ _ rfl w.heap.size [.int .u8 s0, .int .u8 s1, .int .u8 s2, .int .u8 s3, .int .u8 d0, .int .u8 d1, .int .u8 d2, .int .u8 d3, .int .i64 p, .int .i64 a, .int .i64 b, .int .u32 q] rfl rfl HTr.out rfl (by kernel_rfl) ?_
        have F7 := Lib.hid (Fr.setCells (S := fun _ => False) w.heap.size (fun h => absurd h (Nat.lt_irrefl _)) [.int .u8 s0, .int .u8 s1, .int .u8 s2, .int .u8 s3, .int .u8 d0, .int .u8 d1, .int .u8 d2, .int .u8 d3, .int .i64 p, .int .i64 a, .int .i64 b, .int .u32 q] 0 wz3 FWd.out)
        have RS := Lib.hid (fun tmps hp => results_set26 tmps wz3 w.heap.size [.int .u8 s0, .int .u8 s1, .int .u8 s2, .int .u8 s3, .int .u8 d0, .int .u8 d1, .int .u8 d2, .int .u8 d3, .int .i64 p, .int .i64 a, .int .i64 b, .int .u32 q] rfl hp HTr.out)
        generalize wz3.setCells w.heap.size 0 [.int .u8 s0, .int .u8 s1, .int .u8 s2, .int .u8 s3, .int .u8 d0, .int .u8 d1, .int .u8 d2, .int .u8 d3, .int .i64 p, .int .i64 a, .int .i64 b, .int .u32 q] = w9 at F7 RS ⊢
        go_wp2_with fail
        exact bodyPost_ret (v := .tuple #[.agg #[.int .u8 s0, .int .u8 s1, .int .u8 s2, .int .u8 s3, .int .u8 d0, .int .u8 d1, .int .u8 d2, .int .u8 d3, .int .i64 p, .int .i64 a, .int .i64 b, .int .u32 q], .int .i64 0]) (RS.out _ rfl) rfl ⟨rfl, F7.out⟩
      · have hp1 : (p == 6) = false := by simp [h6]
        have hp2 : (p == 17) = true := by simp [h17]
        have hp3 : (p == 1) = false := by simp [h17]
        rw [if_neg h6, if_pos h17] at hv
        have HV2 := Lib.hid hv
        clear hv h17
        have x8 := HR.out 8 _ rfl
        have y8 := (HT.out 8 (by omega)).2
        have x9 := HR.out 9 _ rfl
        have y9 := (HT.out 9 (by omega)).2
        simp only [Nat.zero_add] at x8 y8 x9 y9
        go_upto_region 16 with (go_at_call 49; refine (rat38_i _ n c l (h' + 0) 2 (h' : Int) (by omega) wr PX.out (by omega) (by decide) (by decide)).mono ?_; rw [B1.out]; rintro e w3' ⟨rfl, hw3⟩; have hw3 := hw3.symm; subst hw3)
        have RS1 := Lib.hid (rangeAt_set HR.out 9 (.int .i64 (atV (l.drop h') 0 2)) (by simp))
        have TS1 := Lib.hid (there_set HT.out ⟨w2.heap.size, 9, none⟩ (.int .i64 (atV (l.drop h') 0 2)))
        have FS1 := Lib.hid (HF.out.setCell ⟨w2.heap.size, 9, none⟩ (.int .i64 (atV (l.drop h') 0 2)) (fun _ => rfl))
        have PS1 := Lib.hid (show Pc (wr.setCell ⟨w2.heap.size, 9, none⟩ (.int .i64 (atV (l.drop h') 0 2))) (some ⟨bb, off, none⟩) n l from HP.out.fr ((FB.out.then' FC.out).trans FS1.out (fun i hi e => by have := HG.out.2; omega)))
        clear x8 y8 x9 y9
        generalize wr.setCell ⟨w2.heap.size, 9, none⟩ (.int .i64 (atV (l.drop h') 0 2)) = wz1 at RS1 TS1 FS1 PS1 ⊢
        have x8 := RS1.out 8 _ rfl
        have y8 := (TS1.out 8 (by omega)).2
        have x10 := RS1.out 10 _ rfl
        have y10 := (TS1.out 10 (by omega)).2
        simp only [Nat.zero_add] at x8 y8 x10 y10
        go_upto_region 21 with (go_at_call 49; refine (rat38_i _ n c l (h' + 2) 2 ((h' : Int) + 2) (by omega) wz1 PS1.out (by omega) (by decide) (by decide)).mono ?_; rw [B2.out]; rintro e w3' ⟨rfl, hw3⟩; have hw3 := hw3.symm; subst hw3)
        have RS2 := Lib.hid (rangeAt_set RS1.out 10 (.int .i64 (atV (l.drop h') 2 2)) (by simp))
        have TS2 := Lib.hid (there_set TS1.out ⟨w2.heap.size, 10, none⟩ (.int .i64 (atV (l.drop h') 2 2)))
        have FS2 := Lib.hid (FS1.out.setCell ⟨w2.heap.size, 10, none⟩ (.int .i64 (atV (l.drop h') 2 2)) (fun _ => rfl))
        have PS2 := Lib.hid (show Pc (wz1.setCell ⟨w2.heap.size, 10, none⟩ (.int .i64 (atV (l.drop h') 2 2))) (some ⟨bb, off, none⟩) n l from HP.out.fr ((FB.out.then' FC.out).trans FS2.out (fun i hi e => by have := HG.out.2; omega)))
        clear x8 y8 x10 y10
        generalize wz1.setCell ⟨w2.heap.size, 10, none⟩ (.int .i64 (atV (l.drop h') 2 2)) = wz2 at RS2 TS2 FS2 PS2 ⊢
        have F2d : Fr (fun _ => False) w2 wz2 := FC.out.trans FS2.out (fun i hi e => by omega)
        have FWd := Lib.hid (FB.out.then' F2d)
        have HTr := Lib.hid (show wz2.there w.heap.size 0 12 from there_newN ((F2d.block w.heap.size HG.out.2 (fun e => e)).trans HG.out.1) rfl)
        have RM := Lib.hid (show wz2.rangeAt w2.heap.size 0 [.int .u8 s0, .int .u8 s1, .int .u8 s2, .int .u8 s3, .int .u8 d0, .int .u8 d1, .int .u8 d2, .int .u8 d3, .int .i64 p, .int .i64 a, .int .i64 b, .int .u32 q] from by rw [HV2.out.1, HV2.out.2.1, HV2.out.2.2]; exact RS2.out)
        go_step
        refine wpList_load53 rfl _ rfl w2.heap.size rfl [.int .u8 s0, .int .u8 s1, .int .u8 s2, .int .u8 s3, .int .u8 d0, .int .u8 d1, .int .u8 d2, .int .u8 d3, .int .i64 p, .int .i64 a, .int .i64 b, .int .u32 q] RM.out rfl ?_
        refine wpList_store53 rfl _ _ rfl w.heap.size [.int .u8 s0, .int .u8 s1, .int .u8 s2, .int .u8 s3, .int .u8 d0, .int .u8 d1, .int .u8 d2, .int .u8 d3, .int .i64 p, .int .i64 a, .int .i64 b, .int .u32 q] rfl rfl HTr.out rfl (by kernel_rfl) ?_
        have F7 := Lib.hid (Fr.setCells (S := fun _ => False) w.heap.size (fun h => absurd h (Nat.lt_irrefl _)) [.int .u8 s0, .int .u8 s1, .int .u8 s2, .int .u8 s3, .int .u8 d0, .int .u8 d1, .int .u8 d2, .int .u8 d3, .int .i64 p, .int .i64 a, .int .i64 b, .int .u32 q] 0 wz2 FWd.out)
        have RS := Lib.hid (fun tmps hp => results_set26 tmps wz2 w.heap.size [.int .u8 s0, .int .u8 s1, .int .u8 s2, .int .u8 s3, .int .u8 d0, .int .u8 d1, .int .u8 d2, .int .u8 d3, .int .i64 p, .int .i64 a, .int .i64 b, .int .u32 q] rfl hp HTr.out)
        generalize wz2.setCells w.heap.size 0 [.int .u8 s0, .int .u8 s1, .int .u8 s2, .int .u8 s3, .int .u8 d0, .int .u8 d1, .int .u8 d2, .int .u8 d3, .int .i64 p, .int .i64 a, .int .i64 b, .int .u32 q] = w9 at F7 RS ⊢
        go_wp2_with fail
        exact bodyPost_ret (v := .tuple #[.agg #[.int .u8 s0, .int .u8 s1, .int .u8 s2, .int .u8 s3, .int .u8 d0, .int .u8 d1, .int .u8 d2, .int .u8 d3, .int .i64 p, .int .i64 a, .int .i64 b, .int .u32 q], .int .i64 0]) (RS.out _ rfl) rfl ⟨rfl, F7.out⟩
      · have hp1 : (p == 6) = false := by simp [h6]
        have hp2 : (p == 17) = false := by simp [h17]
        have hp3 : (p == 1) = true := by simp [h1]
        rw [if_neg h6, if_neg h17, if_pos h1] at hv
        have HV2 := Lib.hid hv
        clear hv
        have x8 := HR.out 8 _ rfl
        have y8 := (HT.out 8 (by omega)).2
        have x9 := HR.out 9 _ rfl
        have y9 := (HT.out 9 (by omega)).2
        simp only [Nat.zero_add] at x8 y8 x9 y9
        go_upto_region 21 with (go_at_call 49; refine (rat38_i _ n c l (h' + 4) 2 ((h' : Int) + 4) (by omega) wr PX.out (by omega) (by decide) (by decide)).mono ?_; rw [B3.out]; rintro e w3' ⟨rfl, hw3⟩; have hw3 := hw3.symm; subst hw3)
        have RS1 := Lib.hid (rangeAt_set HR.out 9 (.int .i64 (atV (l.drop h') 4 2)) (by simp))
        have TS1 := Lib.hid (there_set HT.out ⟨w2.heap.size, 9, none⟩ (.int .i64 (atV (l.drop h') 4 2)))
        have FS1 := Lib.hid (HF.out.setCell ⟨w2.heap.size, 9, none⟩ (.int .i64 (atV (l.drop h') 4 2)) (fun _ => rfl))
        clear x8 y8 x9 y9
        generalize wr.setCell ⟨w2.heap.size, 9, none⟩ (.int .i64 (atV (l.drop h') 4 2)) = wz at RS1 TS1 FS1 ⊢
        have F2d : Fr (fun _ => False) w2 wz := FC.out.trans FS1.out (fun i hi e => by omega)
        have FWd := Lib.hid (FB.out.then' F2d)
        have HTr := Lib.hid (show wz.there w.heap.size 0 12 from there_newN ((F2d.block w.heap.size HG.out.2 (fun e => e)).trans HG.out.1) rfl)
        have RM := Lib.hid (show wz.rangeAt w2.heap.size 0 [.int .u8 s0, .int .u8 s1, .int .u8 s2, .int .u8 s3, .int .u8 d0, .int .u8 d1, .int .u8 d2, .int .u8 d3, .int .i64 p, .int .i64 a, .int .i64 b, .int .u32 q] from by rw [HV2.out.1, HV2.out.2.1, HV2.out.2.2]; exact RS1.out)
        go_step
        refine wpList_load53 rfl _ rfl w2.heap.size rfl [.int .u8 s0, .int .u8 s1, .int .u8 s2, .int .u8 s3, .int .u8 d0, .int .u8 d1, .int .u8 d2, .int .u8 d3, .int .i64 p, .int .i64 a, .int .i64 b, .int .u32 q] RM.out rfl ?_
        refine wpList_store53 rfl _ _ rfl w.heap.size [.int .u8 s0, .int .u8 s1, .int .u8 s2, .int .u8 s3, .int .u8 d0, .int .u8 d1, .int .u8 d2, .int .u8 d3, .int .i64 p, .int .i64 a, .int .i64 b, .int .u32 q] rfl rfl HTr.out rfl (by kernel_rfl) ?_
        have F7 := Lib.hid (Fr.setCells (S := fun _ => False) w.heap.size (fun h => absurd h (Nat.lt_irrefl _)) [.int .u8 s0, .int .u8 s1, .int .u8 s2, .int .u8 s3, .int .u8 d0, .int .u8 d1, .int .u8 d2, .int .u8 d3, .int .i64 p, .int .i64 a, .int .i64 b, .int .u32 q] 0 wz FWd.out)
        have RS := Lib.hid (fun tmps hp => results_set26 tmps wz w.heap.size [.int .u8 s0, .int .u8 s1, .int .u8 s2, .int .u8 s3, .int .u8 d0, .int .u8 d1, .int .u8 d2, .int .u8 d3, .int .i64 p, .int .i64 a, .int .i64 b, .int .u32 q] rfl hp HTr.out)
        generalize wz.setCells w.heap.size 0 [.int .u8 s0, .int .u8 s1, .int .u8 s2, .int .u8 s3, .int .u8 d0, .int .u8 d1, .int .u8 d2, .int .u8 d3, .int .i64 p, .int .i64 a, .int .i64 b, .int .u32 q] = w9 at F7 RS ⊢
        go_wp2_with fail
        exact bodyPost_ret (v := .tuple #[.agg #[.int .u8 s0, .int .u8 s1, .int .u8 s2, .int .u8 s3, .int .u8 d0, .int .u8 d1, .int .u8 d2, .int .u8 d3, .int .i64 p, .int .i64 a, .int .i64 b, .int .u32 q], .int .i64 0]) (RS.out _ rfl) rfl ⟨rfl, F7.out⟩
      · have hp1 : (p == 6) = false := by simp [h6]
        have hp2 : (p == 17) = false := by simp [h17]
        have hp3 : (p == 1) = false := by simp [h1]
        rw [if_neg h6, if_neg h17, if_neg h1] at hv
        have HV2 := Lib.hid hv
        clear hv
        have x8 := HR.out 8 _ rfl
        have y8 := (HT.out 8 (by omega)).2
        simp only [Nat.zero_add] at x8 y8
        go_upto_region 21 with (fail)
        clear x8 y8
        have F2d : Fr (fun _ => False) w2 wr := FC.out.trans HF.out (fun i hi e => by omega)
        have FWd := Lib.hid (FB.out.then' F2d)
        have HTr := Lib.hid (show wr.there w.heap.size 0 12 from there_newN ((F2d.block w.heap.size HG.out.2 (fun e => e)).trans HG.out.1) rfl)
        have RM := Lib.hid (show wr.rangeAt w2.heap.size 0 [.int .u8 s0, .int .u8 s1, .int .u8 s2, .int .u8 s3, .int .u8 d0, .int .u8 d1, .int .u8 d2, .int .u8 d3, .int .i64 p, .int .i64 a, .int .i64 b, .int .u32 q] from by rw [HV2.out.1, HV2.out.2.1, HV2.out.2.2]; exact HR.out)
        go_step
        refine wpList_load53 rfl _ rfl w2.heap.size rfl [.int .u8 s0, .int .u8 s1, .int .u8 s2, .int .u8 s3, .int .u8 d0, .int .u8 d1, .int .u8 d2, .int .u8 d3, .int .i64 p, .int .i64 a, .int .i64 b, .int .u32 q] RM.out rfl ?_
        refine wpList_store53 rfl _ _ rfl w.heap.size [.int .u8 s0, .int .u8 s1, .int .u8 s2, .int .u8 s3, .int .u8 d0, .int .u8 d1, .int .u8 d2, .int .u8 d3, .int .i64 p, .int .i64 a, .int .i64 b, .int .u32 q] rfl rfl HTr.out rfl (by kernel_rfl) ?_
        have F7 := Lib.hid (Fr.setCells (S := fun _ => False) w.heap.size (fun h => absurd h (Nat.lt_irrefl _)) [.int .u8 s0, .int .u8 s1, .int .u8 s2, .int .u8 s3, .int .u8 d0, .int .u8 d1, .int .u8 d2, .int .u8 d3, .int .i64 p, .int .i64 a, .int .i64 b, .int .u32 q] 0 wr FWd.out)
        have RS := Lib.hid (fun tmps hp => results_set26 tmps wr w.heap.size [.int .u8 s0, .int .u8 s1, .int .u8 s2, .int .u8 s3, .int .u8 d0, .int .u8 d1, .int .u8 d2, .int .u8 d3, .int .i64 p, .int .i64 a, .int .i64 b, .int .u32 q] rfl hp HTr.out)
        generalize wr.setCells w.heap.size 0 [.int .u8 s0, .int .u8 s1, .int .u8 s2, .int .u8 s3, .int .u8 d0, .int .u8 d1, .int .u8 d2, .int .u8 d3, .int .i64 p, .int .i64 a, .int .i64 b, .int .u32 q] = w9 at F7 RS ⊢
        go_wp2_with fail
        exact bodyPost_ret (v := .tuple #[.agg #[.int .u8 s0, .int .u8 s1, .int .u8 s2, .int .u8 s3, .int .u8 d0, .int .u8 d1, .int .u8 d2, .int .u8 d3, .int .i64 p, .int .i64 a, .int .i64 b, .int .u32 q], .int .i64 0]) (RS.out _ rfl) rfl ⟨rfl, F7.out⟩
end Go.Proofs.Ytcfadmjihccimaa
