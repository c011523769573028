/- Law 8: Decode. No condition but lengths. -/
import Derived.Test.YtfnphkijalkllaaFmC
namespace Go.Proofs.Ytfnphkijalkllaa
set_option linter.unusedVariables false
set_option linter.unusedSimpArgs false
open Go.RowKit
def gB (l : List Int) (i : Nat) : Int := l.getD i 0
theorem gB_at {l : List Int} {i : Nat} (h : i < l.length) : l[i]? = some (gB l i) := by
  unfold gB; rw [List.getD_eq_getElem?_getD, List.getElem?_eq_getElem h]; rfl
theorem gB_ok {l : List Int} (h : isB l) (i : Nat) : (Lit.int .u8 (gB l i)).wf = true := by
  unfold gB
  rw [List.getD_eq_getElem?_getD]
  cases hx : l[i]? with
  | none => decide
  | some x => exact wfu8 (h x (List.mem_of_getElem? hx))
def decR (l : List Int) : Rq := ⟨decide (gB l 7 = 2), ⟨gB l 8, gB l 9, gB l 10, gB l 11, gB l 12, gB l 13⟩, ⟨gB l 14, gB l 15, gB l 16, gB l 17⟩, ⟨gB l 18, gB l 19, gB l 20, gB l 21, gB l 22, gB l 23⟩, ⟨gB l 24, gB l 25, gB l 26, gB l 27⟩⟩
theorem decR_ok {l : List Int} (h : isB l) : (decR l).ok := ⟨⟨gB_ok h _, gB_ok h _, gB_ok h _, gB_ok h _, gB_ok h _, gB_ok h _⟩, ⟨gB_ok h _, gB_ok h _, gB_ok h _, gB_ok h _⟩, ⟨gB_ok h _, gB_ok h _, gB_ok h _, gB_ok h _, gB_ok h _, gB_ok h _⟩, ⟨gB_ok h _, gB_ok h _, gB_ok h _, gB_ok h _⟩⟩
def zRq : Rq := ⟨false, M6.zero, I4.zero, M6.zero, I4.zero⟩
theorem zRq_ok : zRq.ok := ⟨M6.zero_ok, I4.zero_ok, M6.zero_ok, I4.zero_ok⟩
def decE (l : List Int) : Rq × Int := if l.length < 28 then (zRq, 3) else if (decR l).sm.a % 2 = 1 ∨ ab (decR l) ≠ l.take 28 then (zRq, 4) else (decR l, 0)
theorem setAll {w : World} {b : Nat} {cs vs : List Value} {t : TypeId} (hl : cs.length = vs.length) (h : w.heap[b]? = some (.cells cs.toArray t)) : (w.setCells b 0 vs).heap[b]? = some (.cells vs.toArray t) := by
  have h1 := heap_setCells_same vs cs w b 0 t h
  have h2 := lset_all vs cs [] hl
  rw [List.append_nil, List.append_nil] at h2
  rw [h2] at h1
  exact h1
theorem rfill (an : Bool) (a b c d e f g h i j k l m n o p q r s t : Int) : Instr.fill ((#[(0, 1), (1, 6), (7, 4), (11, 6), (17, 4)] : Array (Nat × Nat))[·]?) (Value.agg #[.bool false, .int .u8 0, .int .u8 0, .int .u8 0, .int .u8 0, .int .u8 0, .int .u8 0, .int .u8 0, .int .u8 0, .int .u8 0, .int .u8 0, .int .u8 0, .int .u8 0, .int .u8 0, .int .u8 0, .int .u8 0, .int .u8 0, .int .u8 0, .int .u8 0, .int .u8 0, .int .u8 0]).cells [(0, .bool an), (1, .agg #[.int .u8 a, .int .u8 b, .int .u8 c, .int .u8 d, .int .u8 e, .int .u8 f]), (2, .agg #[.int .u8 g, .int .u8 h, .int .u8 i, .int .u8 j]), (3, .agg #[.int .u8 k, .int .u8 l, .int .u8 m, .int .u8 n, .int .u8 o, .int .u8 p]), (4, .agg #[.int .u8 q, .int .u8 r, .int .u8 s, .int .u8 t])] = some #[.bool an, .int .u8 a, .int .u8 b, .int .u8 c, .int .u8 d, .int .u8 e, .int .u8 f, .int .u8 g, .int .u8 h, .int .u8 i, .int .u8 j, .int .u8 k, .int .u8 l, .int .u8 m, .int .u8 n, .int .u8 o, .int .u8 p, .int .u8 q, .int .u8 r, .int .u8 s, .int .u8 t] := by kernel_rfl
theorem cells_of_fr {w w' : World} {p : Addr} {v : Value} (h : w.cell? p = some v) (f : Fr (fun _ => False) w w') : w'.cell? p = some v := (World.cell?_of_block (f.block _ (block_lt_of_cell h) (fun e => e))).trans h
theorem rblk2 {w w' : World} {b o : Nat} {cs : List Value} (f : Fr (fun _ => False) w w') (r : w.rangeAt b o cs) : w'.rangeAt b o cs := fun j v hj => cells_of_fr (r j v hj) f
theorem six_run {n₀ : Nat} {w : World} {b off : Nat} {l : List Int} (h : BytesIn n₀ w (some ⟨b, off, Option.none⟩) l) (i : Nat) (hi : i + 6 ≤ l.length) : w.rangeAt b (off + i) [.int .u8 (gB l i), .int .u8 (gB l (i + 1)), .int .u8 (gB l (i + 2)), .int .u8 (gB l (i + 3)), .int .u8 (gB l (i + 4)), .int .u8 (gB l (i + 5))] := fun j v hj => by
  have hb : ∀ m, m < l.length → w.cell? ⟨b, off + m, Option.none⟩ = some (.int .u8 (gB l m)) := fun m hm => h.byte (gB_at hm)
  rw [Nat.add_assoc]
  match j, hj with
  | 0, hj => cases hj; exact hb _ (by omega)
  | 1, hj => cases hj; exact hb _ (by omega)
  | 2, hj => cases hj; exact hb _ (by omega)
  | 3, hj => cases hj; exact hb _ (by omega)
  | 4, hj => cases hj; exact hb _ (by omega)
  | 5, hj => cases hj; exact hb _ (by omega)
theorem four_run {n₀ : Nat} {w : World} {b off : Nat} {l : List Int} (h : BytesIn n₀ w (some ⟨b, off, Option.none⟩) l) (i : Nat) (hi : i + 4 ≤ l.length) : w.rangeAt b (off + i) [.int .u8 (gB l i), .int .u8 (gB l (i + 1)), .int .u8 (gB l (i + 2)), .int .u8 (gB l (i + 3))] := fun j v hj => by
  have hb : ∀ m, m < l.length → w.cell? ⟨b, off + m, Option.none⟩ = some (.int .u8 (gB l m)) := fun m hm => h.byte (gB_at hm)
  rw [Nat.add_assoc]
  match j, hj with
  | 0, hj => cases hj; exact hb _ (by omega)
  | 1, hj => cases hj; exact hb _ (by omega)
  | 2, hj => cases hj; exact hb _ (by omega)
  | 3, hj => cases hj; exact hb _ (by omega)
theorem results_cell22 (tmps : Array Value) (w : World) (b : Nat) (v e : Value) (hp : tmps.getD 2 undef = .pointer (some ⟨b, 0, none⟩)) (he : tmps.getD 3 undef = e) (hl : (loadVar 33 ⟨b, 0, none⟩).run Try.prog w = .ok v w) :
    (results Try.f22 tmps).run Try.prog w = .ok (.tuple #[v, e]) w := by
  have ha : (asAddr (.pointer (some ⟨b, 0, none⟩))).run Try.prog w = .ok ⟨b, 0, none⟩ w := by rfl
  rw [Array.getD_eq_getD_getElem?] at *
  simp [results, Try.results22, hp, he, hl, ha, Sem.run_bind]
theorem loads33 {w : World} {b : Nat} {a : Rq} (h : w.heap[b]? = some (.cells a.cells.toArray 33)) : (loadVar 33 ⟨b, 0, none⟩).run Try.prog w = .ok (.agg a.cells.toArray) w :=
  run_loadVar_mid w b 0 33 a.cells _ (range_at w b _ 33 h) Try.underlying33 rfl (by kernel_rfl)
set_option maxRecDepth 100000 in
set_option maxHeartbeats 4000000 in
theorem dec22_short (A : Option Addr) (n c : Nat) (w : World) (hn : n < 28) :
    Calls Try.prog 22 #[.slice A n c] w fun e w' => e = .returned (.tuple #[.agg zRq.cells.toArray, .int .i64 3]) ∧ Fr (fun _ => False) w w' := by
  have FA := Lib.hid (Fr.refl (fun _ => False) w)
  have hnI : (n : Int) < 28 := by omega
  go_enter Try.func22, Try.ntmps22
  go_upto_region 1 with (fail)
  obtain ⟨h1, h2, h3⟩ := one_new w zRq.cells.toArray 33
  change Code.wp Try.prog _ _ _ (w.alloc (.cells zRq.cells.toArray 33))
  generalize w.alloc (.cells zRq.cells.toArray 33) = w1 at h1 h2 h3 ⊢
  obtain ⟨b2, eb2⟩ : ∃ k, w.heap.size = k := ⟨_, rfl⟩
  rw [eb2] at h1 ⊢
  have B2 := Lib.hid h1
  have F2 := Lib.hid h2
  have TH := Lib.hid (there_at w1 b2 zRq.cells 33 B2.out)
  have ZB := Lib.hid eb2
  clear h1 h2 h3 eb2
  go_upto_region 2 with (fail)
  iterate 40 (first
    | (have := MK1; clear this)
    | (refine wpList_store_mid rfl 33 _ _ rfl b2 0 zRq.cells.toArray rfl rfl TH.out (by kernel_rfl) (by kernel_rfl) ?_; have MK1 := Lib.hid True.intro)
    | go_step)
  change wpList Try.prog _ _ _ _ (w1.setCells b2 0 zRq.cells)
  have RS := Lib.hid (fun (tmps : Array Value) hp he => results_cell22 tmps (w1.setCells b2 0 zRq.cells) b2 _ (.int .i64 3) hp he (loads33 (setAll (cs := zRq.cells) rfl B2.out)))
  have F3 := Lib.hid (Fr.setCells (S := fun _ => False) (a := w) b2 (fun h => by have := ZB.out; omega) zRq.cells 0 w1 F2.out)
  generalize w1.setCells b2 0 zRq.cells = w3 at RS F3 ⊢
  go_wp2_with fail
  exact bodyPost_ret (RS.out _ rfl rfl) rfl ⟨rfl, F3.out⟩
set_option maxRecDepth 100000 in
set_option maxHeartbeats 8000000 in
theorem dec22_long (A : Option Addr) (n c : Nat) (l : List Int) (w : World) (hl : l.length = n) (hn : 28 ≤ n) (hc : n ≤ c) (hB : isB l) (hA : BytesIn w.heap.size w A l) (hm : n ≤ 140737488355328) :
    Calls Try.prog 22 #[.slice A n c] w fun e w' => e = .returned (.tuple #[.agg (decE l).1.cells.toArray, .int .i64 (decE l).2]) ∧ Fr (fun _ => False) w w' := by
  have FA := Lib.hid (Fr.refl (fun _ => False) w)
  have HL := Lib.hid hl
  have HB := Lib.hid hB
  obtain ⟨b, off, rfl, hbl, _⟩ := hA (by omega)
  have HA := Lib.hid hA
  have HBL := Lib.hid hbl
  have hnI : ¬ (n : Int) < 28 := by omega
  have hc28 : 28 ≤ c := by omega
  have hcI : (28 : Int) ≤ (c : Int) := by omega
  have h7 : (7 : Int) < (n : Int) := by omega
  have h7N : 7 < n := by omega
  have h14 : (14 : Int) ≤ (c : Int) := by omega
  have h18 : (18 : Int) ≤ (c : Int) := by omega
  have h24 : (24 : Int) ≤ (c : Int) := by omega
  have hn8 : ¬ c = 8 := by omega
  have hn14 : ¬ c = 14 := by omega
  have hn18 : ¬ c = 18 := by omega
  have hn24 : ¬ c = 24 := by omega
  have h14N : 14 ≤ c := by omega
  have h18N : 18 ≤ c := by omega
  have h24N : 24 ≤ c := by omega
  clear hl hB hA hbl
  go_enter Try.func22, Try.ntmps22
  go_upto_region 1 with (fail)
  obtain ⟨h1, h2, h3⟩ := one_new w zRq.cells.toArray 33
  change Code.wp Try.prog _ _ _ (w.alloc (.cells zRq.cells.toArray 33))
  generalize w.alloc (.cells zRq.cells.toArray 33) = w1 at h1 h2 h3 ⊢
  obtain ⟨b2, eb2⟩ : ∃ k, w.heap.size = k := ⟨_, rfl⟩
  rw [eb2] at h1 ⊢
  have B2 := Lib.hid h1
  have F2 := Lib.hid h2
  have ZB := Lib.hid eb2
  clear h1 h2 h3 eb2
  go_upto_region 3 with (fail)
  have Fd := Lib.hid (F2.out.then' (Fr.refl _ w1).drew)
  have hAd := HA.out.fr Fd.out (Nat.le_refl _) (fun _ _ e => e)
  have C7 := Lib.hid (hAd.byte (gB_at (i := 7) (by rw [HL.out]; omega)))
  have R8 := Lib.hid (six_run hAd 8 (by rw [HL.out]; omega))
  have R14 := Lib.hid (four_run hAd 14 (by rw [HL.out]; omega))
  have R18 := Lib.hid (six_run hAd 18 (by rw [HL.out]; omega))
  have R24 := Lib.hid (four_run hAd 24 (by rw [HL.out]; omega))
  clear hAd
  obtain ⟨an, han⟩ : ∃ an, decide (gB l 7 = 2) = an := ⟨_, rfl⟩
  have han2 : (gB l 7 == 2) = an := by rw [← han]; rfl
  have HAN := Lib.hid han
  have B2d := Lib.hid (show w1.drew.heap[b2]? = some (.cells zRq.cells.toArray 33) from B2.out)
  refine kr_start [(2, fun W => W.cell? ⟨b, off + 7, none⟩ = some (.int .u8 (gB l 7))), (7, fun W => W.rangeAt b (off + 8) [.int .u8 (gB l 8), .int .u8 (gB l 9), .int .u8 (gB l 10), .int .u8 (gB l 11), .int .u8 (gB l 12), .int .u8 (gB l 13)]), (11, fun W => W.rangeAt b (off + 14) [.int .u8 (gB l 14), .int .u8 (gB l 15), .int .u8 (gB l 16), .int .u8 (gB l 17)]), (15, fun W => W.rangeAt b (off + 18) [.int .u8 (gB l 18), .int .u8 (gB l 19), .int .u8 (gB l 20), .int .u8 (gB l 21), .int .u8 (gB l 22), .int .u8 (gB l 23)]), (19, fun W => W.rangeAt b (off + 24) [.int .u8 (gB l 24), .int .u8 (gB l 25), .int .u8 (gB l 26), .int .u8 (gB l 27)])] (by kernel_rfl) (by kernel_rfl) ?_
  generalize w1.drew = wd at Fd C7 R8 R14 R18 R24 B2d ⊢
  refine kr_find 0 rfl (by kernel_rfl) (by kernel_rfl) (by kernel_rfl) (fun _ _ _ _ h => h) (by rfl) trivial ?_
  apply Exists.intro; apply And.intro
  · intro w' hS K hK
    clear hS
    go_light
    go_simp
    exact hK.out
  try simp only [Act.put, List.getElem_toArray, List.getElem_cons_zero, List.getElem_cons_succ, List.setIfInBounds_toArray, List.set_cons_zero, List.set_cons_succ]
  refine kr_find 1 rfl (by kernel_rfl) (by kernel_rfl) (by kernel_rfl) (fun _ _ _ _ h => h) (by rfl) trivial ?_
  apply Exists.intro; apply And.intro
  · intro w' hS K hK
    clear hS
    go_light
    go_simp
    exact hK.out
  try simp only [Act.put, List.getElem_toArray, List.getElem_cons_zero, List.getElem_cons_succ, List.setIfInBounds_toArray, List.set_cons_zero, List.set_cons_succ]
  refine kr_find 2 rfl (by kernel_rfl) (by kernel_rfl) (by kernel_rfl) (fun _ _ _ _ h => h) (by rfl) (show _ from C7.out) ?_
  apply Exists.intro; apply And.intro
  · intro w' hS K hK
    have hS : w'.cell? ⟨b, off + 7, none⟩ = some (.int .u8 (gB l 7)) := hS
    go_light
    go_simp
    exact hK.out
  try simp only [Act.put, List.getElem_toArray, List.getElem_cons_zero, List.getElem_cons_succ, List.setIfInBounds_toArray, List.set_cons_zero, List.set_cons_succ]
  refine kr_find 3 rfl (by kernel_rfl) (by kernel_rfl) (by kernel_rfl) (fun _ _ _ _ h => h) (by rfl) trivial ?_
  apply Exists.intro; apply And.intro
  · intro w' hS K hK
    clear hS
    go_light
    go_simp
    exact hK.out
  try simp only [Act.put, List.getElem_toArray, List.getElem_cons_zero, List.getElem_cons_succ, List.setIfInBounds_toArray, List.set_cons_zero, List.set_cons_succ]
  refine kr_find 4 rfl (by kernel_rfl) (by kernel_rfl) (by kernel_rfl) (fun _ _ _ _ h => h) (by rfl) trivial ?_
  apply Exists.intro; apply And.intro
  · intro w' hS K hK
    clear hS
    go_light
    go_simp
    exact hK.out
  try simp only [Act.put, List.getElem_toArray, List.getElem_cons_zero, List.getElem_cons_succ, List.setIfInBounds_toArray, List.set_cons_zero, List.set_cons_succ]
  refine kr_find 5 rfl (by kernel_rfl) (by kernel_rfl) (by kernel_rfl) (fun _ _ _ _ h => h) (by rfl) trivial ?_
  apply Exists.intro; apply And.intro
  · intro w' hS K hK
    clear hS
    go_light
    go_simp
    exact hK.out
  try simp only [Act.put, List.getElem_toArray, List.getElem_cons_zero, List.getElem_cons_succ, List.setIfInBounds_toArray, List.set_cons_zero, List.set_cons_succ]
  refine kr_find 6 rfl (by kernel_rfl) (by kernel_rfl) (by kernel_rfl) (fun _ _ _ _ h => h) (by rfl) trivial ?_
  apply Exists.intro; apply And.intro
  · intro w' hS K hK
    clear hS
    go_light
    go_simp
    exact hK.out
  try simp only [Act.put, List.getElem_toArray, List.getElem_cons_zero, List.getElem_cons_succ, List.setIfInBounds_toArray, List.set_cons_zero, List.set_cons_succ]
  refine kr_take 7 rfl (by kernel_rfl) (by kernel_rfl) (by kernel_rfl) (fun _ _ _ h => h) (yieldsIf_load_mid (by rfl) 27 _ rfl (b) (off + 8) rfl ([.int .u8 (gB l 8), .int .u8 (gB l 9), .int .u8 (gB l 10), .int .u8 (gB l 11), .int .u8 (gB l 12), .int .u8 (gB l 13)]) _ (fun _ h => h) Try.underlying27 rfl (by kernel_rfl)) (show _ from R8.out) ?_
  try simp only [Act.put, List.getElem_toArray, List.getElem_cons_zero, List.getElem_cons_succ, List.setIfInBounds_toArray, List.set_cons_zero, List.set_cons_succ]
  refine kr_find 8 rfl (by kernel_rfl) (by kernel_rfl) (by kernel_rfl) (fun _ _ _ _ h => h) (by rfl) trivial ?_
  apply Exists.intro; apply And.intro
  · intro w' hS K hK
    clear hS
    go_light
    go_simp
    exact hK.out
  try simp only [Act.put, List.getElem_toArray, List.getElem_cons_zero, List.getElem_cons_succ, List.setIfInBounds_toArray, List.set_cons_zero, List.set_cons_succ]
  refine kr_find 9 rfl (by kernel_rfl) (by kernel_rfl) (by kernel_rfl) (fun _ _ _ _ h => h) (by rfl) trivial ?_
  apply Exists.intro; apply And.intro
  · intro w' hS K hK
    clear hS
    go_light
    go_simp
    exact hK.out
  try simp only [Act.put, List.getElem_toArray, List.getElem_cons_zero, List.getElem_cons_succ, List.setIfInBounds_toArray, List.set_cons_zero, List.set_cons_succ]
  refine kr_find 10 rfl (by kernel_rfl) (by kernel_rfl) (by kernel_rfl) (fun _ _ _ _ h => h) (by rfl) trivial ?_
  apply Exists.intro; apply And.intro
  · intro w' hS K hK
    clear hS
    go_light
    go_simp
    exact hK.out
  try simp only [Act.put, List.getElem_toArray, List.getElem_cons_zero, List.getElem_cons_succ, List.setIfInBounds_toArray, List.set_cons_zero, List.set_cons_succ]
  refine kr_take 11 rfl (by kernel_rfl) (by kernel_rfl) (by kernel_rfl) (fun _ _ _ h => h) (yieldsIf_load_mid (by rfl) 29 _ rfl (b) (off + 14) rfl ([.int .u8 (gB l 14), .int .u8 (gB l 15), .int .u8 (gB l 16), .int .u8 (gB l 17)]) _ (fun _ h => h) Try.underlying29 rfl (by kernel_rfl)) (show _ from R14.out) ?_
  try simp only [Act.put, List.getElem_toArray, List.getElem_cons_zero, List.getElem_cons_succ, List.setIfInBounds_toArray, List.set_cons_zero, List.set_cons_succ]
  refine kr_find 12 rfl (by kernel_rfl) (by kernel_rfl) (by kernel_rfl) (fun _ _ _ _ h => h) (by rfl) trivial ?_
  apply Exists.intro; apply And.intro
  · intro w' hS K hK
    clear hS
    go_light
    go_simp
    exact hK.out
  try simp only [Act.put, List.getElem_toArray, List.getElem_cons_zero, List.getElem_cons_succ, List.setIfInBounds_toArray, List.set_cons_zero, List.set_cons_succ]
  refine kr_find 13 rfl (by kernel_rfl) (by kernel_rfl) (by kernel_rfl) (fun _ _ _ _ h => h) (by rfl) trivial ?_
  apply Exists.intro; apply And.intro
  · intro w' hS K hK
    clear hS
    go_light
    go_simp
    exact hK.out
  try simp only [Act.put, List.getElem_toArray, List.getElem_cons_zero, List.getElem_cons_succ, List.setIfInBounds_toArray, List.set_cons_zero, List.set_cons_succ]
  refine kr_find 14 rfl (by kernel_rfl) (by kernel_rfl) (by kernel_rfl) (fun _ _ _ _ h => h) (by rfl) trivial ?_
  apply Exists.intro; apply And.intro
  · intro w' hS K hK
    clear hS
    go_light
    go_simp
    exact hK.out
  try simp only [Act.put, List.getElem_toArray, List.getElem_cons_zero, List.getElem_cons_succ, List.setIfInBounds_toArray, List.set_cons_zero, List.set_cons_succ]
  refine kr_take 15 rfl (by kernel_rfl) (by kernel_rfl) (by kernel_rfl) (fun _ _ _ h => h) (yieldsIf_load_mid (by rfl) 27 _ rfl (b) (off + 18) rfl ([.int .u8 (gB l 18), .int .u8 (gB l 19), .int .u8 (gB l 20), .int .u8 (gB l 21), .int .u8 (gB l 22), .int .u8 (gB l 23)]) _ (fun _ h => h) Try.underlying27 rfl (by kernel_rfl)) (show _ from R18.out) ?_
  try simp only [Act.put, List.getElem_toArray, List.getElem_cons_zero, List.getElem_cons_succ, List.setIfInBounds_toArray, List.set_cons_zero, List.set_cons_succ]
  refine kr_find 16 rfl (by kernel_rfl) (by kernel_rfl) (by kernel_rfl) (fun _ _ _ _ h => h) (by rfl) trivial ?_
  apply Exists.intro; apply And.intro
  · intro w' hS K hK
    clear hS
    go_light
    go_simp
    exact hK.out
  try simp only [Act.put, List.getElem_toArray, List.getElem_cons_zero, List.getElem_cons_succ, List.setIfInBounds_toArray, List.set_cons_zero, List.set_cons_succ]
  refine kr_find 17 rfl (by kernel_rfl) (by kernel_rfl) (by kernel_rfl) (fun _ _ _ _ h => h) (by rfl) trivial ?_
  apply Exists.intro; apply And.intro
  · intro w' hS K hK
    clear hS
    go_light
    go_simp
    exact hK.out
  try simp only [Act.put, List.getElem_toArray, List.getElem_cons_zero, List.getElem_cons_succ, List.setIfInBounds_toArray, List.set_cons_zero, List.set_cons_succ]
  refine kr_find 18 rfl (by kernel_rfl) (by kernel_rfl) (by kernel_rfl) (fun _ _ _ _ h => h) (by rfl) trivial ?_
  apply Exists.intro; apply And.intro
  · intro w' hS K hK
    clear hS
    go_light
    go_simp
    exact hK.out
  try simp only [Act.put, List.getElem_toArray, List.getElem_cons_zero, List.getElem_cons_succ, List.setIfInBounds_toArray, List.set_cons_zero, List.set_cons_succ]
  refine kr_take 19 rfl (by kernel_rfl) (by kernel_rfl) (by kernel_rfl) (fun _ _ _ h => h) (yieldsIf_load_mid (by rfl) 29 _ rfl (b) (off + 24) rfl ([.int .u8 (gB l 24), .int .u8 (gB l 25), .int .u8 (gB l 26), .int .u8 (gB l 27)]) _ (fun _ h => h) Try.underlying29 rfl (by kernel_rfl)) (show _ from R24.out) ?_
  try simp only [Act.put, List.getElem_toArray, List.getElem_cons_zero, List.getElem_cons_succ, List.setIfInBounds_toArray, List.set_cons_zero, List.set_cons_succ]
  refine kr_take 20 rfl (by kernel_rfl) (by kernel_rfl) (by kernel_rfl) (fun _ _ _ h => h) (kr_build bd33 rfl rfl [(0, .bool an), (1, .agg #[.int .u8 (gB l 8), .int .u8 (gB l 9), .int .u8 (gB l 10), .int .u8 (gB l 11), .int .u8 (gB l 12), .int .u8 (gB l 13)]), (2, .agg #[.int .u8 (gB l 14), .int .u8 (gB l 15), .int .u8 (gB l 16), .int .u8 (gB l 17)]), (3, .agg #[.int .u8 (gB l 18), .int .u8 (gB l 19), .int .u8 (gB l 20), .int .u8 (gB l 21), .int .u8 (gB l 22), .int .u8 (gB l 23)]), (4, .agg #[.int .u8 (gB l 24), .int .u8 (gB l 25), .int .u8 (gB l 26), .int .u8 (gB l 27)])] (by rfl) #[.bool an, .int .u8 (gB l 8), .int .u8 (gB l 9), .int .u8 (gB l 10), .int .u8 (gB l 11), .int .u8 (gB l 12), .int .u8 (gB l 13), .int .u8 (gB l 14), .int .u8 (gB l 15), .int .u8 (gB l 16), .int .u8 (gB l 17), .int .u8 (gB l 18), .int .u8 (gB l 19), .int .u8 (gB l 20), .int .u8 (gB l 21), .int .u8 (gB l 22), .int .u8 (gB l 23), .int .u8 (gB l 24), .int .u8 (gB l 25), .int .u8 (gB l 26), .int .u8 (gB l 27)] (rfill _ _ _ _ _ _ _ _ _ _ _ _ _ _ _ _ _ _ _ _ _ )) trivial ?_
  try simp only [Act.put, List.getElem_toArray, List.getElem_cons_zero, List.getElem_cons_succ, List.setIfInBounds_toArray, List.set_cons_zero, List.set_cons_succ]
  refine kr_one 21 (by kernel_rfl) rfl (by rfl) (fun K hK => ?_)
  go_simp
  obtain ⟨h1, h2, h3⟩ := one_new wd #[.bool false, .int .u8 0, .int .u8 0, .int .u8 0, .int .u8 0, .int .u8 0, .int .u8 0, .int .u8 0, .int .u8 0, .int .u8 0, .int .u8 0, .int .u8 0, .int .u8 0, .int .u8 0, .int .u8 0, .int .u8 0, .int .u8 0, .int .u8 0, .int .u8 0, .int .u8 0, .int .u8 0] 33
  generalize wd.alloc (.cells #[.bool false, .int .u8 0, .int .u8 0, .int .u8 0, .int .u8 0, .int .u8 0, .int .u8 0, .int .u8 0, .int .u8 0, .int .u8 0, .int .u8 0, .int .u8 0, .int .u8 0, .int .u8 0, .int .u8 0, .int .u8 0, .int .u8 0, .int .u8 0, .int .u8 0, .int .u8 0, .int .u8 0] 33) = w4 at h1 h2 h3 ⊢
  obtain ⟨b4, h4⟩ : ∃ k, wd.heap.size = k := ⟨_, rfl⟩
  have Z4 := Lib.hid (show wd.heap.size = b4 from h4)
  rw [h4] at h1 ⊢
  have B4a := Lib.hid h1
  have F4 := Lib.hid (Fd.out.then' h2)
  have F4d := Lib.hid h2
  clear h1 h2 h3 h4
  refine hK.out _ _ ⟨.inr (cells_of_fr C7.out F4d.out), .inr (rblk2 F4d.out R8.out), .inr (rblk2 F4d.out R14.out), .inr (rblk2 F4d.out R18.out), .inr (rblk2 F4d.out R24.out), trivial⟩ ?_
  clear hK K
  try simp only [Act.put, List.getElem_toArray, List.getElem_cons_zero, List.getElem_cons_succ, List.setIfInBounds_toArray, List.set_cons_zero, List.set_cons_succ]
  refine kr_one 22 (by kernel_rfl) rfl (by rfl) (fun K hK => ?_)
  refine wp_store_mid 33 _ _ rfl b4 0 #[.bool an, .int .u8 (gB l 8), .int .u8 (gB l 9), .int .u8 (gB l 10), .int .u8 (gB l 11), .int .u8 (gB l 12), .int .u8 (gB l 13), .int .u8 (gB l 14), .int .u8 (gB l 15), .int .u8 (gB l 16), .int .u8 (gB l 17), .int .u8 (gB l 18), .int .u8 (gB l 19), .int .u8 (gB l 20), .int .u8 (gB l 21), .int .u8 (gB l 22), .int .u8 (gB l 23), .int .u8 (gB l 24), .int .u8 (gB l 25), .int .u8 (gB l 26), .int .u8 (gB l 27)] rfl rfl (there_at w4 b4 [.bool false, .int .u8 0, .int .u8 0, .int .u8 0, .int .u8 0, .int .u8 0, .int .u8 0, .int .u8 0, .int .u8 0, .int .u8 0, .int .u8 0, .int .u8 0, .int .u8 0, .int .u8 0, .int .u8 0, .int .u8 0, .int .u8 0, .int .u8 0, .int .u8 0, .int .u8 0, .int .u8 0] 33 B4a.out) (by kernel_rfl) (by simp [Value.oneCell']) ?_
  refine hK.out _ _ ⟨.inl (by kernel_rfl), .inl (by kernel_rfl), .inl (by kernel_rfl), .inl (by kernel_rfl), .inl (by kernel_rfl), trivial⟩ ?_
  have B5 := Lib.hid (show (w4.setCells b4 0 (decR l).cells).heap[b4]? = some (.cells (decR l).cells.toArray 33) from setAll (cs := [.bool false, .int .u8 0, .int .u8 0, .int .u8 0, .int .u8 0, .int .u8 0, .int .u8 0, .int .u8 0, .int .u8 0, .int .u8 0, .int .u8 0, .int .u8 0, .int .u8 0, .int .u8 0, .int .u8 0, .int .u8 0, .int .u8 0, .int .u8 0, .int .u8 0, .int .u8 0, .int .u8 0]) rfl B4a.out)
  have F5 := Lib.hid (Fr.setCells (S := fun _ => False) (a := w) b4 (fun h => by have h1 := Fd.out.size; have h2 := Z4.out; omega) (decR l).cells 0 w4 F4.out)
  have B25 := Lib.hid (show (w4.setCells b4 0 (decR l).cells).heap[b2]? = some (.cells zRq.cells.toArray 33) from (heap_setCells_other _ _ _ _ _ (fun e => by have h1 := lt_of_block B2d.out; have h2 := Z4.out; omega)).trans ((F4d.out.block b2 (lt_of_block B2d.out) (fun e => e)).trans B2d.out))
  have HDR := Lib.hid (show w4.setCells b4 0 [.bool an, .int .u8 (gB l 8), .int .u8 (gB l 9), .int .u8 (gB l 10), .int .u8 (gB l 11), .int .u8 (gB l 12), .int .u8 (gB l 13), .int .u8 (gB l 14), .int .u8 (gB l 15), .int .u8 (gB l 16), .int .u8 (gB l 17), .int .u8 (gB l 18), .int .u8 (gB l 19), .int .u8 (gB l 20), .int .u8 (gB l 21), .int .u8 (gB l 22), .int .u8 (gB l 23), .int .u8 (gB l 24), .int .u8 (gB l 25), .int .u8 (gB l 26), .int .u8 (gB l 27)] = w4.setCells b4 0 (decR l).cells from by rw [← HAN.out]; rfl)
  clear hK K
  try simp only [Act.put, List.getElem_toArray, List.getElem_cons_zero, List.getElem_cons_succ, List.setIfInBounds_toArray, List.set_cons_zero, List.set_cons_succ]
  rw [HDR.out]
  generalize w4.setCells b4 0 (decR l).cells = w5 at B5 F5 B25 ⊢
  clear HDR
  try simp only [Act.put, List.getElem_toArray, List.getElem_cons_zero, List.getElem_cons_succ, List.setIfInBounds_toArray, List.set_cons_zero, List.set_cons_succ]
  refine kr_done (by kernel_rfl) ?_ _
  have HAO := Lib.hid (decR_ok HB.out)
  have HDC := Lib.hid (show decE l = if (decR l).sm.a % 2 = 1 ∨ ab (decR l) ≠ l.take 28 then (zRq, 4) else (decR l, 0) from by unfold decE; rw [if_neg (by rw [HL.out]; omega)])
  clear han han2 HAN C7 R8 R14 R18 R24 hn8 hn14 hn18 hn24 h7 h7N h14 h18 h24 h14N h18N h24N
  obtain ⟨a, ha⟩ : ∃ a, decR l = a := ⟨_, rfl⟩
  rw [ha] at B5 HAO HDC
  clear ha
  have RB := Lib.hid (range_at w5 b4 _ 33 B5.out)
  go_upto_region 4 with (fail)
  iterate 40 (first
    | (have := MK1; clear this)
    | (refine wpList_load_mid rfl 33 _ rfl b4 0 rfl a.cells _ RB.out Try.underlying33 rfl (by kernel_rfl) ?_; have MK1 := Lib.hid True.intro)
    | go_step)
  by_cases hod : a.sm.a % 2 = 1
  · have HDE := Lib.hid (show decE l = (zRq, 4) from by rw [HDC.out, if_pos (.inl hod)])
    go_upto_region 6 with (go_at_call 20; refine (enc20_bad a HAO.out hod _).mono ?_; rintro e wz ⟨rfl, f6⟩; have F6 := Lib.hid f6; clear f6)
    have B2z := Lib.hid ((F6.out.block b2 (lt_of_block B25.out) (fun e => e)).trans B25.out)
    have TH := Lib.hid (there_at wz b2 zRq.cells 33 B2z.out)
    have Fz := Lib.hid (F5.out.then' F6.out)
    iterate 40 (first
      | (have := MKz; clear this)
      | (refine wpList_store_mid rfl 33 _ _ rfl b2 0 zRq.cells.toArray rfl rfl TH.out (by kernel_rfl) (by kernel_rfl) ?_; have MKz := Lib.hid True.intro)
      | go_step)
    change wpList Try.prog _ _ _ _ (wz.setCells b2 0 zRq.cells)
    have RS := Lib.hid (fun (tmps : Array Value) hp he => results_cell22 tmps (wz.setCells b2 0 zRq.cells) b2 _ (.int .i64 4) hp he (loads33 (setAll (cs := zRq.cells) rfl B2z.out)))
    have F9 := Lib.hid (Fr.setCells (S := fun _ => False) (a := w) b2 (fun h => by have := ZB.out; omega) zRq.cells 0 wz Fz.out)
    generalize wz.setCells b2 0 zRq.cells = w9 at RS F9 ⊢
    go_wp2_with fail
    exact bodyPost_ret (RS.out _ rfl rfl) rfl ⟨by rw [HDE.out], F9.out⟩
  · have HEN := Lib.hid (enc20_ok a HAO.out hod w5)
    have HOD := Lib.hid hod
    clear hod
    go_upto_region 5 with (go_at_call 20; refine HEN.out.mono ?_; rintro e w6 ⟨v6, rfl, o6, f6⟩; obtain ⟨g6, c6, rfl, _, _⟩ := o6.form (n := 28) (ab_len a) (by decide); have O6 := Lib.hid o6; have F6 := Lib.hid f6; clear o6 f6)
    obtain ⟨A6, cc6, hv6, hb6, hc6, _⟩ := O6.out.cap (n := 28) (ab_len a)
    injection hv6 with e1 _ e2
    subst e1; subst e2
    have HB6 := Lib.hid hb6
    clear hb6
    have Fw6 := Lib.hid (F5.out.then' F6.out)
    have HEQ := Lib.hid (equal47 (some ⟨g6, 0, none⟩) (some ⟨b, off, none⟩) 28 c6 c (ab a) (l.take 28) w6 (ab_len a) (by rw [List.length_take, HL.out]; omega) hc6 hc28 (by decide) HB6.out ((HA.out.take 28).fr Fw6.out (Nat.le_refl _) (fun _ _ e => e) |>.up Fw6.out.size))
    obtain ⟨eq, heq⟩ : ∃ eq, decide (ab a = l.take 28) = eq := ⟨_, rfl⟩
    rw [heq] at HEQ
    have HE2 := Lib.hid heq
    clear heq hc6
    have h28 : (28 : Int) ≤ (n : Int) := by omega
    have hne0 : ¬ c = 0 := by omega
    cases eq with
    | false =>
      have HDE := Lib.hid (show decE l = (zRq, 4) from by rw [HDC.out, if_pos (.inr (of_decide_eq_false HE2.out))])
      go_upto_region 6 with (go_at_call 47; refine HEQ.out.mono ?_; rintro e wz ⟨rfl, f7⟩; have F7 := Lib.hid f7; clear f7)
      have Fz := Lib.hid (Fw6.out.then' F7.out)
      have B2z := Lib.hid (((F6.out.then' F7.out).block b2 (lt_of_block B25.out) (fun e => e)).trans B25.out)
      have TH := Lib.hid (there_at wz b2 zRq.cells 33 B2z.out)
      iterate 40 (first
        | (have := MKz; clear this)
        | (refine wpList_store_mid rfl 33 _ _ rfl b2 0 zRq.cells.toArray rfl rfl TH.out (by kernel_rfl) (by kernel_rfl) ?_; have MKz := Lib.hid True.intro)
        | go_step)
      change wpList Try.prog _ _ _ _ (wz.setCells b2 0 zRq.cells)
      have RS := Lib.hid (fun (tmps : Array Value) hp he => results_cell22 tmps (wz.setCells b2 0 zRq.cells) b2 _ (.int .i64 4) hp he (loads33 (setAll (cs := zRq.cells) rfl B2z.out)))
      have F9 := Lib.hid (Fr.setCells (S := fun _ => False) (a := w) b2 (fun h => by have := ZB.out; omega) zRq.cells 0 wz Fz.out)
      generalize wz.setCells b2 0 zRq.cells = w9 at RS F9 ⊢
      go_wp2_with fail
      exact bodyPost_ret (RS.out _ rfl rfl) rfl ⟨by rw [HDE.out], F9.out⟩
    | true =>
      have HDE := Lib.hid (show decE l = (a, 0) from by rw [HDC.out, if_neg (fun h => h.elim HOD.out (fun h => h (of_decide_eq_true HE2.out)))])
      go_upto_region 7 with (go_at_call 47; refine HEQ.out.mono ?_; rintro e wz ⟨rfl, f7⟩; have F7 := Lib.hid f7; clear f7)
      have Fz := Lib.hid (Fw6.out.then' F7.out)
      have B2z := Lib.hid (((F6.out.then' F7.out).block b2 (lt_of_block B25.out) (fun e => e)).trans B25.out)
      have B4z := Lib.hid (((F6.out.then' F7.out).block b4 (lt_of_block B5.out) (fun e => e)).trans B5.out)
      have TH := Lib.hid (there_at wz b2 zRq.cells 33 B2z.out)
      have RB7 := Lib.hid (range_at wz b4 _ 33 B4z.out)
      iterate 40 (first
        | (have := MKz; clear this)
        | (refine wpList_load_mid rfl 33 _ rfl b4 0 rfl a.cells _ RB7.out Try.underlying33 rfl (by kernel_rfl) ?_)
        | (refine wpList_store_mid rfl 33 _ _ rfl b2 0 a.cells.toArray rfl rfl TH.out (by kernel_rfl) (by simp [Rq.cells, Value.oneCell']) ?_; have MKz := Lib.hid True.intro)
        | go_step)
      change wpList Try.prog _ _ _ _ (wz.setCells b2 0 a.cells)
      have RS := Lib.hid (fun (tmps : Array Value) hp he => results_cell22 tmps (wz.setCells b2 0 a.cells) b2 _ (.int .i64 0) hp he (loads33 (setAll (cs := zRq.cells) rfl B2z.out)))
      have F9 := Lib.hid (Fr.setCells (S := fun _ => False) (a := w) b2 (fun h => by have := ZB.out; omega) a.cells 0 wz Fz.out)
      generalize wz.setCells b2 0 a.cells = w9 at RS F9 ⊢
      go_wp2_with fail
      exact bodyPost_ret (RS.out _ rfl rfl) rfl ⟨by rw [HDE.out], F9.out⟩
end Go.Proofs.Ytfnphkijalkllaa
