/- Quoted of law 12: what it reads. No condition but lengths. -/
import Derived.Test.YtcfadmjihccimaaIcQc
namespace Go.Proofs.Ytcfadmjihccimaa
set_option linter.unusedVariables false
set_option linter.unusedSimpArgs false
open Go.RowKit
theorem results_cell25 (tmps : Array Value) (w : World) (b : Nat) (cs : List Value) (hp : tmps.getD 2 undef = .pointer (some ⟨b, 0, none⟩)) (hl : (loadVar 53 ⟨b, 0, none⟩).run Try.prog w = .ok (.agg cs.toArray) w) :
    (results Try.f25 tmps).run Try.prog w = .ok (.tuple #[.agg cs.toArray, tmps.getD 3 undef]) w := by
  have ha : (asAddr (.pointer (some ⟨b, 0, none⟩))).run Try.prog w = .ok ⟨b, 0, none⟩ w := by rfl
  rw [Array.getD_eq_getD_getElem?] at *
  simp [results, Try.results25, hp, hl, ha, Sem.run_bind]
theorem results_set25 (tmps : Array Value) (w : World) (b : Nat) (cs : List Value) (hn : cs.length = 12) (hp : tmps.getD 2 undef = .pointer (some ⟨b, 0, none⟩)) (ht : w.there b 0 12) :
    (results Try.f25 tmps).run Try.prog (w.setCells b 0 cs) = .ok (.tuple #[.agg cs.toArray, tmps.getD 3 undef]) (w.setCells b 0 cs) :=
  results_cell25 tmps _ b cs hp (run_loadVar_mid _ b 0 53 cs _ (World.rangeAt_setCells_same w b 0 cs (by rw [hn]; exact ht)) Try.underlying53 rfl (by rw [hn]; kernel_rfl))
theorem there_newN {w : World} {b k : Nat} {t : TypeId} {cs : Array Value} (h : w.heap[b]? = some (.cells cs t)) (hn : cs.size = k) : w.there b 0 k := fun j hj => by
  refine ⟨?_, frozen_of_row w _ _ _ t h⟩
  rw [Nat.zero_add, cell_of_row w b j cs t (0, 0) h, Array.getElem?_eq_getElem (by omega)]; rfl
theorem wpList_load53 {ops : Array Oper} {rest : List Oper} {op : Oper} {a : Act} {w : World} {Q : Exit → Act → World → Prop} (hgd : op.guard = none) (x : Operand) (ho : op.op = .load 53 x) (b : Nat) (hx : a.eval x = .pointer (some ⟨b, 0, none⟩)) (cs : List Value) (hc : w.rangeAt b 0 cs) (hn : cs.length = 12)
    (h : wpList Try.prog ops Q rest (a.put op.dst (.agg cs.toArray)) w) : wpList Try.prog ops Q (op :: rest) a w :=
  wpList_load_mid hgd 53 x ho b 0 hx cs _ hc Try.underlying53 rfl (by rw [hn]; kernel_rfl) h
theorem wpList_store53 {ops : Array Oper} {rest : List Oper} {op : Oper} {a : Act} {w : World} {Q : Exit → Act → World → Prop} (hgd : op.guard = none) (x y : Operand) (ho : op.op = .store 53 x y) (b : Nat) (cs : List Value) (hx : a.eval x = .pointer (some ⟨b, 0, none⟩)) (hy : a.eval y = .agg cs.toArray) (ht : w.there b 0 12) (hn : cs.length = 12)
    (h1 : cs.toArray.all (·.oneCell') = true)
    (h : wpList Try.prog ops Q rest (a.put op.dst undef) (w.setCells b 0 cs)) : wpList Try.prog ops Q (op :: rest) a w :=
  wpList_store_mid hgd 53 x y ho b 0 cs.toArray hx hy (by simpa [hn] using ht) (by simp only [List.size_toArray, hn]; kernel_rfl) h1 (by simpa using h)
theorem range4 {w : World} {b o : Nat} {v0 v1 v2 v3 : Value} (h0 : w.cell? ⟨b, o, none⟩ = some v0) (h1 : w.cell? ⟨b, o + 1, none⟩ = some v1) (h2 : w.cell? ⟨b, o + 2, none⟩ = some v2) (h3 : w.cell? ⟨b, o + 3, none⟩ = some v3) :
    w.rangeAt b o [v0, v1, v2, v3] := fun j v hj => by
  match j, hj with
  | 0, hj => cases hj; exact h0
  | 1, hj => cases hj; exact h1
  | 2, hj => cases hj; exact h2
  | 3, hj => cases hj; exact h3
  | j + 4, hj => simp at hj
set_option maxHeartbeats 8000000 in
set_option maxRecDepth 100000 in
theorem quoted25_ok (A : Option Addr) (n c : Nat) (l : List Int) (w : World) (hn : 20 ≤ n) (hcp : n ≤ c) (htop : n ≤ 140737488355328) (P : Pc w A n l) (h : dX l 0 / 16 = 4) (h' : Nat) (hh : hd0 l = (h' : Int)) (hh20 : 20 ≤ h') (hhn : h' + 8 ≤ n)
    (s0 s1 s2 s3 d0 d1 d2 d3 p : Int) (a b q : Int) (hv : if p = 6 then a = atV (l.drop h') 0 2 ∧ b = atV (l.drop h') 2 2 ∧ q = atV (l.drop h') 4 4 else if p = 17 then a = atV (l.drop h') 0 2 ∧ b = atV (l.drop h') 2 2 ∧ q = 0 else if p = 1 then a = atV (l.drop h') 4 2 ∧ b = 0 ∧ q = 0 else a = 0 ∧ b = 0 ∧ q = 0)
    (e9 : dX l 9 = p) (e12 : dX l 12 = s0) (e13 : dX l 13 = s1) (e14 : dX l 14 = s2) (e15 : dX l 15 = s3) (e16 : dX l 16 = d0) (e17 : dX l 17 = d1) (e18 : dX l 18 = d2) (e19 : dX l 19 = d3) :
    Calls Try.prog 25 #[.slice A n c] w fun e w' => e = .returned (.tuple #[.agg #[.int .u8 s0, .int .u8 s1, .int .u8 s2, .int .u8 s3, .int .u8 d0, .int .u8 d1, .int .u8 d2, .int .u8 d3, .int .i64 p, .int .i64 a, .int .i64 b, .int .u32 q], .int .i64 0]) ∧ Fr (fun _ => False) w w' := by
  have FA := Lib.hid (Fr.refl (fun _ => False) w)
  have HP := Lib.hid P
  have HH := Lib.hid hh
  have hhb := hd0_bd P (by omega)
  rw [hh] at hhb
  obtain ⟨bb, off, rfl, hbl, hcell⟩ := P.here (by rw [P.len]; omega)
  have PR := Lib.hid (show Pc w (some ⟨bb, off + h', none⟩) (n - h') (l.drop h') from ⟨by rw [List.length_drop, P.len], fun x hx => P.ok x (List.mem_of_mem_drop hx), by omega, P.here.drop h'⟩)
  have x0 := hcell 0 (dX l 0) (dX_get (by rw [P.len]; omega))
  have t0 := P.ok _ (List.mem_of_getElem? (dX_get (l := l) (i := 0) (by rw [P.len]; omega)))
  rw [Nat.add_zero] at x0
  have HC := Lib.hid (show w.rangeAt bb (off + 12) [.int .u8 s0, .int .u8 s1, .int .u8 s2, .int .u8 s3] ∧ w.rangeAt bb (off + 16) [.int .u8 d0, .int .u8 d1, .int .u8 d2, .int .u8 d3] ∧ w.cell? ⟨bb, off + 9, none⟩ = some (.int .u8 p) from by
    have q : ∀ i, i < 20 → w.cell? ⟨bb, off + i, none⟩ = some (.int .u8 (dX l i)) := fun i hi => hcell i (dX l i) (dX_get (by rw [P.len]; omega))
    have q9 := q 9 (by omega)
    have q12 := q 12 (by omega)
    have q13 := q 13 (by omega)
    have q14 := q 14 (by omega)
    have q15 := q 15 (by omega)
    have q16 := q 16 (by omega)
    have q17 := q 17 (by omega)
    have q18 := q 18 (by omega)
    have q19 := q 19 (by omega)
    rw [e9] at q9
    rw [e12] at q12
    rw [e13] at q13
    rw [e14] at q14
    rw [e15] at q15
    rw [e16] at q16
    rw [e17] at q17
    rw [e18] at q18
    rw [e19] at q19
    exact ⟨range4 q12 q13 q14 q15, range4 q16 q17 q18 q19, q9⟩)
  have t9 := P.ok _ (List.mem_of_getElem? (dX_get (l := l) (i := 9) (by rw [P.len]; omega)))
  rw [e9] at t9
  have hn20 : ¬ n < 20 := by omega
  have hh1 : ¬ (h' : Int) < 20 := by omega
  have hh2 : ¬ (n : Int) < (h' : Int) + 8 := by omega
  generalize dX l 0 = x at x0 t0 h
  have hI : (0 : Int) < (n : Int) := by omega
  have hb : (x / 16 == 4) = true := by simpa using h
  have hw : IntKind.u8.wrap (x / 16) = x / 16 := IntWalk.u8_in _ (by omega)
  have hwp : IntKind.i64.wrap p = p := IntWalk.i64_in _ (by omega)
  have HV := Lib.hid hv
  clear hv
  clear hcell P hh e9 e12 e13 e14 e15 e16 e17 e18 e19
  go_enter Try.func25, Try.ntmps25
  go_upto_region 1 with (fail)
  have g0 := heap_alloc_new w (.cells #[.int .u8 0, .int .u8 0, .int .u8 0, .int .u8 0, .int .u8 0, .int .u8 0, .int .u8 0, .int .u8 0, .int .i64 0, .int .i64 0, .int .i64 0, .int .u32 0] 53)
  have FB := Lib.hid (FA.out.alloc (.cells #[.int .u8 0, .int .u8 0, .int .u8 0, .int .u8 0, .int .u8 0, .int .u8 0, .int .u8 0, .int .u8 0, .int .i64 0, .int .i64 0, .int .i64 0, .int .u32 0] 53))
  have hz : w.heap.size < (w.alloc (.cells #[.int .u8 0, .int .u8 0, .int .u8 0, .int .u8 0, .int .u8 0, .int .u8 0, .int .u8 0, .int .u8 0, .int .i64 0, .int .i64 0, .int .i64 0, .int .u32 0] 53)).heap.size := by simp
  have T0 := Lib.hid (there_newN g0 rfl : (w.alloc (.cells #[.int .u8 0, .int .u8 0, .int .u8 0, .int .u8 0, .int .u8 0, .int .u8 0, .int .u8 0, .int .u8 0, .int .i64 0, .int .i64 0, .int .i64 0, .int .u32 0] 53)).there w.heap.size 0 12)
  have x0' : (w.alloc (.cells #[.int .u8 0, .int .u8 0, .int .u8 0, .int .u8 0, .int .u8 0, .int .u8 0, .int .u8 0, .int .u8 0, .int .i64 0, .int .i64 0, .int .i64 0, .int .u32 0] 53)).cell? ⟨bb, off, none⟩ = some (.int .u8 x) := (World.cell?_of_block (FB.out.block bb hbl (fun e => e))).trans x0
  generalize w.alloc (.cells #[.int .u8 0, .int .u8 0, .int .u8 0, .int .u8 0, .int .u8 0, .int .u8 0, .int .u8 0, .int .u8 0, .int .i64 0, .int .i64 0, .int .i64 0, .int .u32 0] 53) = w2 at g0 FB hz T0 x0' ⊢
  have P2 := Lib.hid (HP.out.fr FB.out)
  have HG := Lib.hid (And.intro g0 hz)
  clear g0 hz x0
  go_upto_region 7 with (go_at_call 50; refine (head50 _ n c l w2 P2.out (by omega)).mono ?_; rw [HH.out]; rintro e w3 ⟨rfl, hw3⟩; have hw3 := hw3.symm; subst hw3)
  have HK0 := Lib.hid (fun (w' : World) (k : Fr (fun _ => False) w2 w') => show w'.rangeAt bb (off + 12) [.int .u8 s0, .int .u8 s1, .int .u8 s2, .int .u8 s3] ∧ w'.rangeAt bb (off + 16) [.int .u8 d0, .int .u8 d1, .int .u8 d2, .int .u8 d3] ∧ w'.cell? ⟨bb, off + 9, none⟩ = some (.int .u8 p) from
    have B := (FB.out.then' k).block bb hbl (fun e => e)
    ⟨fun j v hj => (World.cell?_of_block B).trans (HC.out.1 j v hj), fun j v hj => (World.cell?_of_block B).trans (HC.out.2.1 j v hj), (World.cell?_of_block B).trans HC.out.2.2⟩)
  have e1' : 20 ≤ n := by omega
  have e2' : (9 : Int) < (n : Int) := by omega
  have e3' : 20 ≤ c := by omega
  have e4' : (16 : Int) ≤ (c : Int) := by omega
  have e5' : (20 : Int) ≤ (c : Int) := by omega
  have e6' : ¬ c = 12 := by omega
  have e7' : ¬ c = 16 := by omega
  go_cut [4] (fun v4 wc => ∃ g8 : Nat, v4 = .pointer (some ⟨g8, 0, none⟩) ∧ w2.heap.size ≤ g8 ∧ g8 < wc.heap.size ∧ wc.rangeAt g8 0 [.int .u8 s0, .int .u8 s1, .int .u8 s2, .int .u8 s3, .int .u8 d0, .int .u8 d1, .int .u8 d2, .int .u8 d3, .int .i64 p, .int .i64 0, .int .i64 0, .int .u32 0] ∧ wc.there g8 0 12 ∧ Fr (fun _ => False) w2 wc)
  case first =>
    have HXc := Lib.hid (HK0.out _ (Fr.refl _ w2).drew)
    have HXa := Lib.hid (HK0.out _ ((Fr.refl _ w2).drew.alloc (.cells #[.int .u8 0, .int .u8 0, .int .u8 0, .int .u8 0, .int .u8 0, .int .u8 0, .int .u8 0, .int .u8 0, .int .i64 0, .int .i64 0, .int .i64 0, .int .u32 0] 53)))
    have HTH := Lib.hid (show (w2.drew.alloc (.cells #[.int .u8 0, .int .u8 0, .int .u8 0, .int .u8 0, .int .u8 0, .int .u8 0, .int .u8 0, .int .u8 0, .int .i64 0, .int .i64 0, .int .i64 0, .int .u32 0] 53)).there w2.heap.size 0 12 from there_newN (heap_alloc_new w2.drew _) rfl)
    refine kr_start [(3, fun W => W.rangeAt bb (off + 12) [.int .u8 s0, .int .u8 s1, .int .u8 s2, .int .u8 s3]), (7, fun W => W.rangeAt bb (off + 16) [.int .u8 d0, .int .u8 d1, .int .u8 d2, .int .u8 d3]), (10, fun W => W.cell? ⟨bb, off + 9, none⟩ = some (.int .u8 p))] (by kernel_rfl) (by kernel_rfl) ?_
    refine kr_find 0 rfl (by kernel_rfl) (by kernel_rfl) (by kernel_rfl) (fun _ _ _ _ h => h) (by rfl) trivial ?_
    apply Exists.intro; apply And.intro
    · intro w' hS K hK
      clear hS
      go_light
      go_simp
      exact hK.out
    try simp only [Act.put, List.getElem_toArray, List.getElem_cons_zero, List.getElem_cons_succ, List.setIfInBounds_toArray, List.set_cons_zero, List.set_cons_succ]
    refine kr_find 1 rfl (by kernel_rfl) (by kernel_rfl) (by kernel_rfl) (fun _ _ _ _ h => h) (by rfl) trivial ?_
    apply Exists.intro; apply And.intro
    · intro w' hS K hK
      clear hS
      go_light
      go_simp
      exact hK.out
    try simp only [Act.put, List.getElem_toArray, List.getElem_cons_zero, List.getElem_cons_succ, List.setIfInBounds_toArray, List.set_cons_zero, List.set_cons_succ]
    refine kr_find 2 rfl (by kernel_rfl) (by kernel_rfl) (by kernel_rfl) (fun _ _ _ _ h => h) (by rfl) trivial ?_
    apply Exists.intro; apply And.intro
    · intro w' hS K hK
      clear hS
      go_light
      go_simp
      exact hK.out
    try simp only [Act.put, List.getElem_toArray, List.getElem_cons_zero, List.getElem_cons_succ, List.setIfInBounds_toArray, List.set_cons_zero, List.set_cons_succ]
    refine kr_take 3 rfl (by kernel_rfl) (by kernel_rfl) (by kernel_rfl) (fun _ _ _ h => h) (yieldsIf_load_mid (by rfl) 45 _ rfl bb (off + 12) rfl [.int .u8 s0, .int .u8 s1, .int .u8 s2, .int .u8 s3] _ (fun _ h => h) Try.underlying45 rfl (by kernel_rfl)) (show _ from HXc.out.1) ?_
    try simp only [Act.put, List.getElem_toArray, List.getElem_cons_zero, List.getElem_cons_succ, List.setIfInBounds_toArray, List.set_cons_zero, List.set_cons_succ]
    refine kr_find 4 rfl (by kernel_rfl) (by kernel_rfl) (by kernel_rfl) (fun _ _ _ _ h => h) (by rfl) trivial ?_
    apply Exists.intro; apply And.intro
    · intro w' hS K hK
      clear hS
      go_light
      go_simp
      exact hK.out
    try simp only [Act.put, List.getElem_toArray, List.getElem_cons_zero, List.getElem_cons_succ, List.setIfInBounds_toArray, List.set_cons_zero, List.set_cons_succ]
    refine kr_find 5 rfl (by kernel_rfl) (by kernel_rfl) (by kernel_rfl) (fun _ _ _ _ h => h) (by rfl) trivial ?_
    apply Exists.intro; apply And.intro
    · intro w' hS K hK
      clear hS
      go_light
      go_simp
      exact hK.out
    try simp only [Act.put, List.getElem_toArray, List.getElem_cons_zero, List.getElem_cons_succ, List.setIfInBounds_toArray, List.set_cons_zero, List.set_cons_succ]
    refine kr_find 6 rfl (by kernel_rfl) (by kernel_rfl) (by kernel_rfl) (fun _ _ _ _ h => h) (by rfl) trivial ?_
    apply Exists.intro; apply And.intro
    · intro w' hS K hK
      clear hS
      go_light
      go_simp
      exact hK.out
    try simp only [Act.put, List.getElem_toArray, List.getElem_cons_zero, List.getElem_cons_succ, List.setIfInBounds_toArray, List.set_cons_zero, List.set_cons_succ]
    refine kr_take 7 rfl (by kernel_rfl) (by kernel_rfl) (by kernel_rfl) (fun _ _ _ h => h) (yieldsIf_load_mid (by rfl) 45 _ rfl bb (off + 16) rfl [.int .u8 d0, .int .u8 d1, .int .u8 d2, .int .u8 d3] _ (fun _ h => h) Try.underlying45 rfl (by kernel_rfl)) (show _ from HXc.out.2.1) ?_
    try simp only [Act.put, List.getElem_toArray, List.getElem_cons_zero, List.getElem_cons_succ, List.setIfInBounds_toArray, List.set_cons_zero, List.set_cons_succ]
    refine kr_find 8 rfl (by kernel_rfl) (by kernel_rfl) (by kernel_rfl) (fun _ _ _ _ h => h) (by rfl) trivial ?_
    apply Exists.intro; apply And.intro
    · intro w' hS K hK
      clear hS
      go_light
      go_simp
      exact hK.out
    try simp only [Act.put, List.getElem_toArray, List.getElem_cons_zero, List.getElem_cons_succ, List.setIfInBounds_toArray, List.set_cons_zero, List.set_cons_succ]
    refine kr_find 9 rfl (by kernel_rfl) (by kernel_rfl) (by kernel_rfl) (fun _ _ _ _ h => h) (by rfl) trivial ?_
    apply Exists.intro; apply And.intro
    · intro w' hS K hK
      clear hS
      go_light
      go_simp
      exact hK.out
    try simp only [Act.put, List.getElem_toArray, List.getElem_cons_zero, List.getElem_cons_succ, List.setIfInBounds_toArray, List.set_cons_zero, List.set_cons_succ]
    refine kr_find 10 rfl (by kernel_rfl) (by kernel_rfl) (by kernel_rfl) (fun _ _ _ _ h => h) (by rfl) (show _ from HXc.out.2.2) ?_
    apply Exists.intro; apply And.intro
    · intro w' hS K hK
      have hS : w'.cell? ⟨bb, off + 9, none⟩ = some (.int .u8 p) := hS
      go_light
      go_simp
      exact hK.out
    try simp only [Act.put, List.getElem_toArray, List.getElem_cons_zero, List.getElem_cons_succ, List.setIfInBounds_toArray, List.set_cons_zero, List.set_cons_succ]
    refine kr_find 11 rfl (by kernel_rfl) (by kernel_rfl) (by kernel_rfl) (fun _ _ _ _ h => h) (by rfl) trivial ?_
    apply Exists.intro; apply And.intro
    · intro w' hS K hK
      clear hS
      go_light
      go_simp
      exact hK.out
    try simp only [Act.put, List.getElem_toArray, List.getElem_cons_zero, List.getElem_cons_succ, List.setIfInBounds_toArray, List.set_cons_zero, List.set_cons_succ]
    refine kr_find 12 rfl (by kernel_rfl) (by kernel_rfl) (by kernel_rfl) (fun _ _ _ _ h => h) (by rfl) trivial ?_
    apply Exists.intro; apply And.intro
    · intro w' hS K hK
      clear hS
      go_light
      go_simp
      exact hK.out
    try simp only [Act.put, List.getElem_toArray, List.getElem_cons_zero, List.getElem_cons_succ, List.setIfInBounds_toArray, List.set_cons_zero, List.set_cons_succ]
    refine kr_one 13 (by kernel_rfl) rfl (by rfl) (fun K hK => ?_)
    go_simp
    refine hK.out _ _ ⟨.inr HXa.out.1, .inr HXa.out.2.1, .inr HXa.out.2.2, trivial⟩ ?_
    clear hK K
    try simp only [Act.put, List.getElem_toArray, List.getElem_cons_zero, List.getElem_cons_succ, List.setIfInBounds_toArray, List.set_cons_zero, List.set_cons_succ]
    refine kr_one 14 (by kernel_rfl) rfl (by rfl) (fun K hK => ?_)
    refine wp_store_mid 53 _ _ rfl w2.heap.size 0 #[.int .u8 s0, .int .u8 s1, .int .u8 s2, .int .u8 s3, .int .u8 d0, .int .u8 d1, .int .u8 d2, .int .u8 d3, .int .i64 p, .int .i64 0, .int .i64 0, .int .u32 0] rfl rfl HTH.out (by kernel_rfl) (by kernel_rfl) ?_
    refine hK.out _ _ ⟨.inl (by kernel_rfl), .inl (by kernel_rfl), .inl (by kernel_rfl), trivial⟩ ?_
    clear hK K
    try simp only [Act.put, List.getElem_toArray, List.getElem_cons_zero, List.getElem_cons_succ, List.setIfInBounds_toArray, List.set_cons_zero, List.set_cons_succ]
    refine kr_done (by kernel_rfl) ?_ _
    go_wp2_with fail
    go_meet
    have r5 := World.rangeAt_setCells_same (w2.drew.alloc (.cells #[.int .u8 0, .int .u8 0, .int .u8 0, .int .u8 0, .int .u8 0, .int .u8 0, .int .u8 0, .int .u8 0, .int .i64 0, .int .i64 0, .int .i64 0, .int .u32 0] 53)) w2.heap.size 0 [.int .u8 s0, .int .u8 s1, .int .u8 s2, .int .u8 s3, .int .u8 d0, .int .u8 d1, .int .u8 d2, .int .u8 d3, .int .i64 p, .int .i64 0, .int .i64 0, .int .u32 0] HTH.out
    exact ⟨w2.heap.size, rfl, Nat.le_refl _, lt_of_block2 r5 rfl, r5, World.there_setCells HTH.out _ _ _, Fr.setCells w2.heap.size (fun h => absurd h (Nat.lt_irrefl _)) _ 0 _ ((Fr.refl (fun _ => False) w2).drew.alloc _)⟩
  case rest =>
    as_aux_lemma =>
    obtain ⟨g8, rfl, hg0, hg1, hr8, ht8, hf8⟩ := hcut
    obtain ⟨wx, hwx⟩ : ∃ x, x = wc := ⟨_, rfl⟩
    subst hwx
    have hsz2 : w.heap.size < w2.heap.size := HG.out.2
    have HR8 := Lib.hid hr8
    have HT8 := Lib.hid ht8
    have HF8 := Lib.hid hf8
    have PX := Lib.hid (P2.out.fr hf8)
    have RX := Lib.hid ((PR.out.fr FB.out).fr hf8)
    have e8' : (h' : Int) ≤ (c : Int) := by omega
    have e9' : ¬ c = h' := by omega
    have e10' : ¬ c - h' = 0 := by omega
    have e11' : (h' : Int) ≤ (n : Int) := by omega
    have e12' : h' ≤ n := by omega
    have e13' : h' ≤ c := by omega
    clear hr8 ht8 hf8 e1' e2' e3' e4' e5' e6' e7'
    go_upto_region 8 with (fail)
    go_cut [5] (fun v5 wd => v5 = .slice (some ⟨bb, off + h', none⟩) (n - h') (c - h') ∧ wd = wx)
    case first =>
      go_wp2_with (go_at_call 50; refine (head50 _ n c l wx PX.out (by omega)).mono ?_; rw [HH.out]; rintro e w3 ⟨rfl, hw3⟩; have hw3 := hw3.symm; subst hw3)
      go_meet
      exact ⟨rfl, rfl⟩
    case rest =>
      obtain ⟨rfl, hwc⟩ := hcut
      subst hwc
      obtain ⟨wy, hwy⟩ : ∃ x, x = wc := ⟨_, rfl⟩
      subst hwy
      clear e8' e9' e10' e11'
      go_step
      go_step
      go_cut [] (fun wd => wd.rangeAt g8 0 [.int .u8 s0, .int .u8 s1, .int .u8 s2, .int .u8 s3, .int .u8 d0, .int .u8 d1, .int .u8 d2, .int .u8 d3, .int .i64 p, .int .i64 a, .int .i64 b, .int .u32 q] ∧ wd.there g8 0 12 ∧ Fr (fun i => i = g8) wy wd)
      case first =>
        have hv := HV.out
        rcases (by omega : p = 6 ∨ (p ≠ 6 ∧ p = 17) ∨ (p ≠ 6 ∧ p ≠ 17 ∧ p = 1) ∨ (p ≠ 6 ∧ p ≠ 17 ∧ p ≠ 1)) with h6 | ⟨h6, h17⟩ | ⟨h6, h17, h1⟩ | ⟨h6, h17, h1⟩
        · as_aux_lemma =>
          have hp1 : (p == 6) = true := by simp [h6]
          rw [if_pos h6] at hv
          have HV2 := Lib.hid hv
          clear hv
          have x8 := HR8.out 8 _ rfl
          have y8 := (HT8.out 8 (by omega)).2
          have x11 := HR8.out 11 _ rfl
          have y11 := (HT8.out 11 (by omega)).2
          simp only [Nat.zero_add] at x8 y8 x11 y11
          go_upto_region 14 with (go_at_call 51; refine (at37N (c - h') wy.heap.size (l.drop h') 4 wy RX.out.len RX.out.ok RX.out.here (by omega) RX.out.top (by decide)).mono ?_; rintro e w3 ⟨rfl, hw3⟩; have hw3 := hw3.symm; subst hw3)
          have RS1 := Lib.hid (rangeAt_set HR8.out 11 (.int .u32 (atV (l.drop h') 4 4)) (by simp))
          have TS1 := Lib.hid (there_set HT8.out ⟨g8, 11, none⟩ (.int .u32 (atV (l.drop h') 4 4)))
          have FS1 := Lib.hid ((Fr.refl (fun i => i = g8) wy).setCell ⟨g8, 11, none⟩ (.int .u32 (atV (l.drop h') 4 4)) (fun _ => rfl))
          have RP1 := Lib.hid (show Pc (wy.setCell ⟨g8, 11, none⟩ (.int .u32 (atV (l.drop h') 4 4))) (some ⟨bb, off + h', none⟩) (n - h') (l.drop h') from PR.out.fr (((FB.out.then' HF8.out)).trans FS1.out (fun i hi e => by omega)))
          clear x8 y8 x11 y11
          generalize wy.setCell ⟨g8, 11, none⟩ (.int .u32 (atV (l.drop h') 4 4)) = wz1 at RS1 TS1 FS1 RP1 ⊢
          have x9 := RS1.out 9 _ rfl
          have y9 := (TS1.out 9 (by omega)).2
          simp only [Nat.zero_add] at x9 y9
          go_upto_region 15 with (go_at_call 46; refine (at33M (c - h') wz1.heap.size (l.drop h') 0 wz1 RP1.out.len RP1.out.ok RP1.out.here (by omega) RP1.out.top (by decide)).mono ?_; rintro e w3 ⟨rfl, hw3⟩; have hw3 := hw3.symm; subst hw3)
          have RS2 := Lib.hid (rangeAt_set RS1.out 9 (.int .i64 (atV (l.drop h') 0 2)) (by simp))
          have TS2 := Lib.hid (there_set TS1.out ⟨g8, 9, none⟩ (.int .i64 (atV (l.drop h') 0 2)))
          have FS2 := Lib.hid (FS1.out.setCell ⟨g8, 9, none⟩ (.int .i64 (atV (l.drop h') 0 2)) (fun _ => rfl))
          have RP2 := Lib.hid (show Pc (wz1.setCell ⟨g8, 9, none⟩ (.int .i64 (atV (l.drop h') 0 2))) (some ⟨bb, off + h', none⟩) (n - h') (l.drop h') from PR.out.fr (((FB.out.then' HF8.out)).trans FS2.out (fun i hi e => by omega)))
          clear x9 y9
          generalize wz1.setCell ⟨g8, 9, none⟩ (.int .i64 (atV (l.drop h') 0 2)) = wz2 at RS2 TS2 FS2 RP2 ⊢
          have x10 := RS2.out 10 _ rfl
          have y10 := (TS2.out 10 (by omega)).2
          simp only [Nat.zero_add] at x10 y10
          go_wp2_with (go_at_call 46; refine (at33M (c - h') wz2.heap.size (l.drop h') 2 wz2 RP2.out.len RP2.out.ok RP2.out.here (by omega) RP2.out.top (by decide)).mono ?_; rintro e w3 ⟨rfl, hw3⟩; have hw3 := hw3.symm; subst hw3)
          go_meet
          refine ⟨?_, there_set TS2.out _ _, FS2.out.setCell _ _ (fun _ => rfl)⟩
          rw [HV2.out.1, HV2.out.2.1, HV2.out.2.2]
          exact rangeAt_set RS2.out 10 (.int .i64 (atV (l.drop h') 2 2)) (by simp)
        · as_aux_lemma =>
          have hp1 : (p == 6) = false := by simp [h6]
          have hp2 : (p == 17) = true := by simp [h17]
          rw [if_neg h6, if_pos h17] at hv
          have HV2 := Lib.hid hv
          clear hv
          have x8 := HR8.out 8 _ rfl
          have y8 := (HT8.out 8 (by omega)).2
          have x9 := HR8.out 9 _ rfl
          have y9 := (HT8.out 9 (by omega)).2
          simp only [Nat.zero_add] at x8 y8 x9 y9
          go_upto_region 15 with (go_at_call 46; refine (at33M (c - h') wy.heap.size (l.drop h') 0 wy RX.out.len RX.out.ok RX.out.here (by omega) RX.out.top (by decide)).mono ?_; rintro e w3 ⟨rfl, hw3⟩; have hw3 := hw3.symm; subst hw3)
          have RS1 := Lib.hid (rangeAt_set HR8.out 9 (.int .i64 (atV (l.drop h') 0 2)) (by simp))
          have TS1 := Lib.hid (there_set HT8.out ⟨g8, 9, none⟩ (.int .i64 (atV (l.drop h') 0 2)))
          have FS1 := Lib.hid ((Fr.refl (fun i => i = g8) wy).setCell ⟨g8, 9, none⟩ (.int .i64 (atV (l.drop h') 0 2)) (fun _ => rfl))
          have RP1 := Lib.hid (show Pc (wy.setCell ⟨g8, 9, none⟩ (.int .i64 (atV (l.drop h') 0 2))) (some ⟨bb, off + h', none⟩) (n - h') (l.drop h') from PR.out.fr (((FB.out.then' HF8.out)).trans FS1.out (fun i hi e => by omega)))
          clear x8 y8 x9 y9
          generalize wy.setCell ⟨g8, 9, none⟩ (.int .i64 (atV (l.drop h') 0 2)) = wz1 at RS1 TS1 FS1 RP1 ⊢
          have x10 := RS1.out 10 _ rfl
          have y10 := (TS1.out 10 (by omega)).2
          simp only [Nat.zero_add] at x10 y10
          go_wp2_with (go_at_call 46; refine (at33M (c - h') wz1.heap.size (l.drop h') 2 wz1 RP1.out.len RP1.out.ok RP1.out.here (by omega) RP1.out.top (by decide)).mono ?_; rintro e w3 ⟨rfl, hw3⟩; have hw3 := hw3.symm; subst hw3)
          go_meet
          refine ⟨?_, there_set TS1.out _ _, FS1.out.setCell _ _ (fun _ => rfl)⟩
          rw [HV2.out.1, HV2.out.2.1, HV2.out.2.2]
          exact rangeAt_set RS1.out 10 (.int .i64 (atV (l.drop h') 2 2)) (by simp)
        · as_aux_lemma =>
          have hp1 : (p == 6) = false := by simp [h6]
          have hp2 : (p == 17) = false := by simp [h17]
          have hp3 : (p == 1) = true := by simp [h1]
          rw [if_neg h6, if_neg h17, if_pos h1] at hv
          have HV2 := Lib.hid hv
          clear hv
          have x8 := HR8.out 8 _ rfl
          have y8 := (HT8.out 8 (by omega)).2
          have x9 := HR8.out 9 _ rfl
          have y9 := (HT8.out 9 (by omega)).2
          simp only [Nat.zero_add] at x8 y8 x9 y9
          go_wp2_with (go_at_call 46; refine (at33M (c - h') wy.heap.size (l.drop h') 4 wy RX.out.len RX.out.ok RX.out.here (by omega) RX.out.top (by decide)).mono ?_; rintro e w3 ⟨rfl, hw3⟩; have hw3 := hw3.symm; subst hw3)
          go_meet
          refine ⟨?_, there_set HT8.out _ _, (Fr.refl (fun i => i = g8) wy).setCell _ _ (fun _ => rfl)⟩
          rw [HV2.out.1, HV2.out.2.1, HV2.out.2.2]
          exact rangeAt_set HR8.out 9 (.int .i64 (atV (l.drop h') 4 2)) (by simp)
        · as_aux_lemma =>
          have hp1 : (p == 6) = false := by simp [h6]
          have hp2 : (p == 17) = false := by simp [h17]
          have hp3 : (p == 1) = false := by simp [h1]
          rw [if_neg h6, if_neg h17, if_neg h1] at hv
          have HV2 := Lib.hid hv
          clear hv
          have x8 := HR8.out 8 _ rfl
          have y8 := (HT8.out 8 (by omega)).2
          simp only [Nat.zero_add] at x8 y8
          go_wp2_with fail
          go_meet
          refine ⟨?_, HT8.out, Fr.refl _ _⟩
          rw [HV2.out.1, HV2.out.2.1, HV2.out.2.2]
          exact HR8.out
      case rest =>
        as_aux_lemma =>
        obtain ⟨rm, rt, rf⟩ := hcut
        have F2d : Fr (fun _ => False) w2 wc := HF8.out.trans rf (fun i hi e => by omega)
        have FWd := Lib.hid (FB.out.then' F2d)
        have HT := Lib.hid (show wc.there w.heap.size 0 12 from there_newN ((F2d.block w.heap.size HG.out.2 (fun e => e)).trans HG.out.1) rfl)
        have RM := Lib.hid rm
        clear rm rt rf F2d
        go_upto_region 17 with (fail)
        go_step
        refine wpList_load53 rfl _ rfl g8 rfl [.int .u8 s0, .int .u8 s1, .int .u8 s2, .int .u8 s3, .int .u8 d0, .int .u8 d1, .int .u8 d2, .int .u8 d3, .int .i64 p, .int .i64 a, .int .i64 b, .int .u32 q] RM.out rfl ?_
        refine wpList_store53 rfl _ _ rfl w.heap.size [.int .u8 s0, .int .u8 s1, .int .u8 s2, .int .u8 s3, .int .u8 d0, .int .u8 d1, .int .u8 d2, .int .u8 d3, .int .i64 p, .int .i64 a, .int .i64 b, .int .u32 q] rfl rfl HT.out rfl (by kernel_rfl) ?_
        have F7 := Lib.hid (Fr.setCells (S := fun _ => False) w.heap.size (fun h => absurd h (Nat.lt_irrefl _)) [.int .u8 s0, .int .u8 s1, .int .u8 s2, .int .u8 s3, .int .u8 d0, .int .u8 d1, .int .u8 d2, .int .u8 d3, .int .i64 p, .int .i64 a, .int .i64 b, .int .u32 q] 0 wc FWd.out)
        have RS := Lib.hid (fun tmps hp => results_set25 tmps wc w.heap.size [.int .u8 s0, .int .u8 s1, .int .u8 s2, .int .u8 s3, .int .u8 d0, .int .u8 d1, .int .u8 d2, .int .u8 d3, .int .i64 p, .int .i64 a, .int .i64 b, .int .u32 q] rfl hp HT.out)
        generalize wc.setCells w.heap.size 0 [.int .u8 s0, .int .u8 s1, .int .u8 s2, .int .u8 s3, .int .u8 d0, .int .u8 d1, .int .u8 d2, .int .u8 d3, .int .i64 p, .int .i64 a, .int .i64 b, .int .u32 q] = w9 at F7 RS ⊢
        go_wp2_with fail
        exact bodyPost_ret (v := .tuple #[.agg #[.int .u8 s0, .int .u8 s1, .int .u8 s2, .int .u8 s3, .int .u8 d0, .int .u8 d1, .int .u8 d2, .int .u8 d3, .int .i64 p, .int .i64 a, .int .i64 b, .int .u32 q], .int .i64 0]) (RS.out _ rfl) rfl ⟨rfl, F7.out⟩
end Go.Proofs.Ytcfadmjihccimaa
