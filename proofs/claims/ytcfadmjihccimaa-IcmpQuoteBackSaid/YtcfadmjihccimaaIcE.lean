/- Decode of package icmp, behind a sum that is right. No condition but lengths. -/
import Derived.Test.YtcfadmjihccimaaIcD
namespace Go.Proofs.Ytcfadmjihccimaa
set_option linter.unusedVariables false
open Go.RowKit

def dX (l : List Int) (i : Nat) : Int := l.getD i 0
theorem dX_get {l : List Int} {i : Nat} (h : i < l.length) : l[i]? = some (dX l i) := by
  unfold dX
  rw [List.getD_eq_getElem?_getD, List.getElem?_eq_getElem h]; rfl
def dI (l : List Int) : Im := ⟨dX l 0, dX l 1, cond (ec (dX l 0)) (atV l 4 2) 0, cond (ec (dX l 0)) (atV l 6 2) 0, cond (ec (dX l 0)) 0 (atV l 6 2)⟩

theorem clone44N {A : Option Addr} {n : Nat} (cap n₀ : Nat) (l : List Int) (w : World) (hn : l.length = n) (hb : BytesIn n₀ w A l) (hlen : n ≤ 140737488355328) (hn₀ : n₀ ≤ w.heap.size) :
    Calls Try.prog 47 #[.slice A n cap] w fun e w' => ∃ v', e = .returned v' ∧ OwnB w.heap.size w' v' l ∧ Fr (fun _ => False) w w' := by subst hn; exact clone44 A cap n₀ l w hb hlen hn₀

theorem lt_of_block2 {w : World} {b : Nat} {v : Value} {vs : List Value} (h : w.rangeAt b 0 (v :: vs)) (_ : True = True) : b < w.heap.size := block_lt_of_cell (h 0 v rfl)
theorem there_new {w : World} {b : Nat} {cs : Array Value} (h : w.heap[b]? = some (.cells cs 24)) (hn : cs.size = 6) : w.there b 0 6 := fun j hj => by
  refine ⟨?_, frozen_of_row w _ _ _ 24 h⟩
  rw [Nat.zero_add, cell_of_row w b j cs 24 (0, 0) h, Array.getElem?_eq_getElem (by omega)]; rfl
theorem Fr.setCells {S : Nat → Prop} {a : World} (p : Nat) (hp : p < a.heap.size → S p) : ∀ (vs : List Value) (o : Nat) (b : World), Fr S a b → Fr S a (b.setCells p o vs)
  | [], _, _, h => h
  | v :: vs, o, b, h => Fr.setCells p hp vs (o + 1) _ (h.setCell ⟨p, o, none⟩ v hp)
theorem rangeAt_set {w : World} {b : Nat} {vs : List Value} (h : w.rangeAt b 0 vs) (j : Nat) (v : Value) (hj : j < vs.length) : (w.setCell ⟨b, j, none⟩ v).rangeAt b 0 (vs.set j v) := fun k x hk => by
  rw [Nat.zero_add]
  by_cases e : k = j
  · subst e
    rw [List.getElem?_set_self hj] at hk
    cases hk
    have := h k _ (List.getElem?_eq_getElem hj)
    rw [Nat.zero_add] at this
    exact World.cell?_setCell_same' _ _ _ (by rw [this]; rfl)
  · rw [List.getElem?_set_ne (fun e' => e e'.symm)] at hk
    have hne : (⟨b, j, none⟩ : Addr) ≠ ⟨b, k, none⟩ := by intro e'; injection e' with _ e2; exact e e2.symm
    rw [World.cell?_setCell_other (h := hne)]
    have := h k x hk
    rwa [Nat.zero_add] at this
theorem there_set {w : World} {b n : Nat} (h : w.there b 0 n) (p : Addr) (v : Value) : (w.setCell p v).there b 0 n := fun j hj => by
  refine ⟨?_, ?_⟩
  · obtain ⟨x, hx⟩ := Option.isSome_iff_exists.1 (h j hj).1
    obtain ⟨y, hy⟩ := cell?_setCell_some (p := p) (x := v) hx
    rw [hy]; rfl
  · simpa using (h j hj).2
theorem wpList_load24 {ops : Array Oper} {rest : List Oper} {op : Oper} {a : Act} {w : World} {Q : Exit → Act → World → Prop} (hgd : op.guard = none) (x : Operand) (ho : op.op = .load 24 x) (b : Nat) (hx : a.eval x = .pointer (some ⟨b, 0, none⟩)) (cs : List Value) (hc : w.rangeAt b 0 cs) (hn : cs.length = 6)
    (h : wpList Try.prog ops Q rest (a.put op.dst (.agg cs.toArray)) w) : wpList Try.prog ops Q (op :: rest) a w :=
  wpList_load_mid hgd 24 x ho b 0 hx cs _ hc Try.underlying24 rfl (by rw [hn]; kernel_rfl) h
theorem wpList_store24 {ops : Array Oper} {rest : List Oper} {op : Oper} {a : Act} {w : World} {Q : Exit → Act → World → Prop} (hgd : op.guard = none) (x y : Operand) (ho : op.op = .store 24 x y) (b : Nat) (cs : List Value) (hx : a.eval x = .pointer (some ⟨b, 0, none⟩)) (hy : a.eval y = .agg cs.toArray) (ht : w.there b 0 6) (hn : cs.length = 6)
    (h1 : cs.toArray.all (·.oneCell') = true)
    (h : wpList Try.prog ops Q rest (a.put op.dst undef) (w.setCells b 0 cs)) : wpList Try.prog ops Q (op :: rest) a w :=
  wpList_store_mid hgd 24 x y ho b 0 cs.toArray hx hy (by simpa [hn] using ht) (by simp only [List.size_toArray, hn]; kernel_rfl) h1 (by simpa using h)
theorem results_set14 (tmps : Array Value) (w : World) (b : Nat) (cs : List Value) (hn : cs.length = 6) (hp : tmps.getD 2 undef = .pointer (some ⟨b, 0, none⟩)) (ht : w.there b 0 6) :
    (results Try.f14 tmps).run Try.prog (w.setCells b 0 cs) = .ok (.tuple #[.agg cs.toArray, tmps.getD 3 undef]) (w.setCells b 0 cs) :=
  results_cell14 tmps _ b cs hp (run_loadVar_mid _ b 0 24 cs _ (World.rangeAt_setCells_same w b 0 cs (by rw [hn]; exact ht)) Try.underlying24 rfl (by rw [hn]; kernel_rfl))
/-- Behind the echo: what the message's cells hold. -/
def MsgAt (w : World) (g : Nat) (m : Im) (v : Value) : Prop := w.rangeAt g 0 [.int .i64 m.ty, .int .i64 m.code, .int .i64 m.id, .int .i64 m.seq, .int .i64 m.mtu, v]
set_option maxHeartbeats 8000000 in
set_option maxRecDepth 100000 in
theorem decode14_rest (A : Option Addr) (n c : Nat) (l : List Int) (w : World) (hn : 8 ≤ n) (hn2 : n ≤ 1024) (hcp : n ≤ c) (P : Pc w A n l) (hs : ck l = 0) (m : Im) (hm : dI l = m) (b : Bool) (hb : ec m.ty = b) (hbb : m.id = cond b (atV l 4 2) 0) (hbs : m.seq = cond b (atV l 6 2) 0) (hbm : m.mtu = cond b 0 (atV l 6 2)) (hty : dX l 0 = m.ty) (hco : dX l 1 = m.code) :
    Calls Try.prog 14 #[.slice A n c] w fun e w' => Fr (fun _ => False) w w' ∧
      ((m.may && (b || (atV l 4 2 == 0))) = true → ∃ v, e = .returned (.tuple #[.agg #[.int .i64 m.ty, .int .i64 m.code, .int .i64 m.id, .int .i64 m.seq, .int .i64 m.mtu, v], .int .i64 0]) ∧ OwnB w.heap.size w' v (l.drop 8)) ∧
      ((m.may && (b || (atV l 4 2 == 0))) = false → e = .returned (.tuple #[.agg #[.int .i64 0, .int .i64 0, .int .i64 0, .int .i64 0, .int .i64 0, .slice none 0 0], .int .i64 4])) := by
  obtain ⟨i1, hi1⟩ : ∃ s, atV l 4 2 = s := ⟨_, rfl⟩
  obtain ⟨i2, hi2⟩ : ∃ s, atV l 6 2 = s := ⟨_, rfl⟩
  obtain ⟨j1, hj1⟩ : ∃ s, atE l 4 2 = s := ⟨_, rfl⟩
  obtain ⟨j2, hj2⟩ : ∃ s, atE l 6 2 = s := ⟨_, rfl⟩
  rw [hi1] at hbb ⊢
  rw [hi2] at hbs hbm
  have FA := Lib.hid (Fr.refl (fun _ => False) w)
  have HP := Lib.hid P
  have HS := Lib.hid hs
  have HM := Lib.hid hm
  have HEB := Lib.hid hb
  have HI := Lib.hid (And.intro hbb (And.intro hbs hbm))
  have HTC := Lib.hid (And.intro hty hco)
  obtain ⟨bb, off, rfl, hbl, hcell⟩ := P.here (by rw [P.len]; omega)
  have x0 := hcell 0 (dX l 0) (dX_get (by rw [P.len]; omega))
  have x1 := hcell 1 (dX l 1) (dX_get (by rw [P.len]; omega))
  rw [hty] at x0
  rw [hco] at x1
  have t0 := P.ok _ (List.mem_of_getElem? (dX_get (l := l) (i := 0) (by rw [P.len]; omega)))
  have t1 := P.ok _ (List.mem_of_getElem? (dX_get (l := l) (i := 1) (by rw [P.len]; omega)))
  rw [hty] at t0
  rw [hco] at t1
  have HX := Lib.hid (And.intro x0 x1)
  clear P hs hm hb hbb hbs hbm hty hco x0 x1 hcell
  go_enter Try.func14, Try.ntmps14
  go_upto_region 5 with (fail)
  have g0 := heap_alloc_new w (.cells #[.int .i64 0, .int .i64 0, .int .i64 0, .int .i64 0, .int .i64 0, .slice none 0 0] 24)
  have FB := Lib.hid (FA.out.alloc (.cells #[.int .i64 0, .int .i64 0, .int .i64 0, .int .i64 0, .int .i64 0, .slice none 0 0] 24))
  have hz : w.heap.size < (w.alloc (.cells #[.int .i64 0, .int .i64 0, .int .i64 0, .int .i64 0, .int .i64 0, .slice none 0 0] 24)).heap.size := by simp
  generalize w.alloc (.cells #[.int .i64 0, .int .i64 0, .int .i64 0, .int .i64 0, .int .i64 0, .slice none 0 0] 24) = w1 at g0 FB hz ⊢
  have P1 := Lib.hid (HP.out.fr FB.out)
  have HG := Lib.hid (And.intro g0 hz)
  clear g0 hz
  have A1 := fun w (P : Pc w (some ⟨bb, off, none⟩) n l) => at33M c w.heap.size l 4 w P.len P.ok P.here hcp (by omega) (by decide)
  have A2 := fun w (P : Pc w (some ⟨bb, off, none⟩) n l) => at33M c w.heap.size l 6 w P.len P.ok P.here hcp (by omega) (by decide)
  rw [hi1, hj1] at A1
  rw [hi2, hj2] at A2
  have A1 := Lib.hid A1
  have A2 := Lib.hid A2
  clear hi1 hi2 hj1 hj2
  go_upto_region 7 with (go_at_call 42; refine (sum28_boxN c l w1 P1.out.len P1.out.ok (by omega) P1.out.here 1).mono ?_; rw [HS.out]; rintro e w2 ⟨rfl, f2⟩; have F2 := Lib.hid f2; clear f2)
  have FW := Lib.hid (FB.out.then' F2.out)
  have P2 := Lib.hid (HP.out.fr FW.out)
  have T1 := Lib.hid True.intro
  go_upto_region 9 with (first
    | (have TK := T1.out; go_at_call 46; refine (A1.out _ P2.out).mono ?_; clear T1 TK; rintro e w3 ⟨rfl, hw⟩; have hw := hw.symm; subst hw)
    | (go_at_call 46; refine (A2.out _ P2.out).mono ?_; rintro e w3 ⟨rfl, hw⟩; have hw := hw.symm; subst hw))
  have y0 := HX.out.1
  have y1 := HX.out.2
  have HK := Lib.hid (fun (w' : World) (k : Fr (fun _ => False) w2 w') => show w'.cell? ⟨bb, off, none⟩ = some (.int .u8 m.ty) ∧ w'.cell? ⟨bb, off + 1, none⟩ = some (.int .u8 m.code) from ⟨(World.cell?_of_block ((FW.out.then' k).block bb hbl (fun e => e))).trans y0, (World.cell?_of_block ((FW.out.then' k).block bb hbl (fun e => e))).trans y1⟩)
  clear y0 y1
  have hl8 : (l.drop 8).length = n - 8 := by rw [List.length_drop, HP.out.len]
  have HL8 := Lib.hid hl8
  clear hl8
  have e0 : 0 < n := by omega
  have e1 : 1 < n := by omega
  have e2 : (0 : Int) < (n : Int) := by omega
  have e3 : (1 : Int) < (n : Int) := by omega
  have e4 : 8 ≤ c := by omega
  obtain ⟨A9, hA9, hB9⟩ : ∃ A9, (A9 = if c ≤ 8 then some ⟨bb, off, none⟩ else some ⟨bb, off + 8, none⟩) ∧ BytesIn w2.heap.size w2 A9 (l.drop 8) := by
    by_cases h8 : c ≤ 8
    · have h0 := HL8.out
      exact ⟨_, by rw [if_pos h8], fun h => by omega⟩
    · exact ⟨_, by rw [if_neg h8], P2.out.here.drop 8⟩
  have HA9 := Lib.hid hA9
  have HB9 := Lib.hid hB9
  clear hA9 hB9
  go_cut [8] (fun v8 wc => ∃ (g8 : Nat) (A4 : Option Addr) (cp4 : Nat), v8 = .pointer (some ⟨g8, 0, none⟩) ∧ w2.heap.size ≤ g8 ∧ g8 < wc.heap.size ∧ wc.rangeAt g8 0 [.int .i64 m.ty, .int .i64 m.code, .int .i64 0, .int .i64 0, .int .i64 0, .slice A4 (n - 8) cp4] ∧ wc.there g8 0 6 ∧ (∀ w', Fr (fun i => i = g8) wc w' → OwnB w2.heap.size w' (.slice A4 (n - 8) cp4) (l.drop 8)) ∧ Fr (fun _ => False) w2 wc)
  case first =>
    clear A1 A2 HI HTC HEB HM HX HG P1 F2 FB FA HS HP
    have hw0 : IntKind.i64.wrap m.ty = m.ty := IntWalk.i64_in _ (by omega)
    have hw1 : IntKind.i64.wrap m.code = m.code := IntWalk.i64_in _ (by omega)
    refine wp_region_held_drew (S := fun w' => w'.cell? ⟨bb, off, none⟩ = some (.int .u8 m.ty) ∧ w'.cell? ⟨bb, off + 1, none⟩ = some (.int .u8 m.code)) (by kernel_rfl) (HK.out _ (Fr.refl _ _).drew) (fun hHeld => ?_)
    refine wpAnyH_take (i := 0) (oi := _) (v := _) rfl (by kernel_rfl) (by kernel_rfl) (by kernel_rfl) (fun _ _ _ h => h) (Or.inl ⟨by rfl, fun w' hS => by rfl⟩) (by assumption) ?_
    try simp only [Act.put, List.getElem_toArray, List.getElem_cons_zero, List.setIfInBounds_toArray, List.set_cons_zero, List.set_cons_succ]
    refine wpAnyH_take (i := 1) (oi := _) (v := .pointer (some ⟨bb, off, none⟩)) rfl (by kernel_rfl) (by kernel_rfl) (by kernel_rfl) (fun _ _ _ h => h) (Or.inl ⟨by rfl, fun w' hS => by (obtain ⟨s0, s1⟩ := hS; go_simp)⟩) (by assumption) ?_
    try simp only [Act.put, List.getElem_toArray, List.getElem_cons_zero, List.getElem_cons_succ, List.setIfInBounds_toArray, List.set_cons_zero, List.set_cons_succ]
    refine wpAnyH_take (i := 2) (oi := _) (v := .int .u8 m.ty) rfl (by kernel_rfl) (by kernel_rfl) (by kernel_rfl) (fun _ _ _ h => h) (Or.inl ⟨by rfl, fun w' hS => by (obtain ⟨s0, s1⟩ := hS; go_simp)⟩) (by assumption) ?_
    try simp only [Act.put, List.getElem_toArray, List.getElem_cons_zero, List.getElem_cons_succ, List.setIfInBounds_toArray, List.set_cons_zero, List.set_cons_succ]
    refine wpAnyH_take (i := 3) (oi := _) (v := .int .i64 m.ty) rfl (by kernel_rfl) (by kernel_rfl) (by kernel_rfl) (fun _ _ _ h => h) (Or.inl ⟨by rfl, fun w' hS => by (obtain ⟨s0, s1⟩ := hS; go_simp)⟩) (by assumption) ?_
    try simp only [Act.put, List.getElem_toArray, List.getElem_cons_zero, List.getElem_cons_succ, List.setIfInBounds_toArray, List.set_cons_zero, List.set_cons_succ]
    refine wpAnyH_take (i := 4) (oi := _) (v := _) rfl (by kernel_rfl) (by kernel_rfl) (by kernel_rfl) (fun _ _ _ h => h) (Or.inl ⟨by rfl, fun w' hS => by rfl⟩) (by assumption) ?_
    try simp only [Act.put, List.getElem_toArray, List.getElem_cons_zero, List.getElem_cons_succ, List.setIfInBounds_toArray, List.set_cons_zero, List.set_cons_succ]
    refine wpAnyH_take (i := 5) (oi := _) (v := .pointer (some ⟨bb, off + 1, none⟩)) rfl (by kernel_rfl) (by kernel_rfl) (by kernel_rfl) (fun _ _ _ h => h) (Or.inl ⟨by rfl, fun w' hS => by (obtain ⟨s0, s1⟩ := hS; go_simp)⟩) (by assumption) ?_
    try simp only [Act.put, List.getElem_toArray, List.getElem_cons_zero, List.getElem_cons_succ, List.setIfInBounds_toArray, List.set_cons_zero, List.set_cons_succ]
    refine wpAnyH_take (i := 6) (oi := _) (v := .int .u8 m.code) rfl (by kernel_rfl) (by kernel_rfl) (by kernel_rfl) (fun _ _ _ h => h) (Or.inl ⟨by rfl, fun w' hS => by (obtain ⟨s0, s1⟩ := hS; go_simp)⟩) (by assumption) ?_
    try simp only [Act.put, List.getElem_toArray, List.getElem_cons_zero, List.getElem_cons_succ, List.setIfInBounds_toArray, List.set_cons_zero, List.set_cons_succ]
    refine wpAnyH_take (i := 7) (oi := _) (v := .int .i64 m.code) rfl (by kernel_rfl) (by kernel_rfl) (by kernel_rfl) (fun _ _ _ h => h) (Or.inl ⟨by rfl, fun w' hS => by (obtain ⟨s0, s1⟩ := hS; go_simp)⟩) (by assumption) ?_
    try simp only [Act.put, List.getElem_toArray, List.getElem_cons_zero, List.getElem_cons_succ, List.setIfInBounds_toArray, List.set_cons_zero, List.set_cons_succ]
    refine wpAnyH_take (i := 8) (oi := _) (v := _) rfl (by kernel_rfl) (by kernel_rfl) (by kernel_rfl) (fun _ _ _ h => h) (Or.inl ⟨by rfl, fun w' hS => by rfl⟩) (by assumption) ?_
    try simp only [Act.put, List.getElem_toArray, List.getElem_cons_zero, List.getElem_cons_succ, List.setIfInBounds_toArray, List.set_cons_zero, List.set_cons_succ]
    refine wpAnyH_take (i := 9) (oi := _) (v := .slice A9 (n - 8) (c - 8)) rfl (by kernel_rfl) (by kernel_rfl) (by kernel_rfl) (fun _ _ _ h => h) (Or.inl ⟨by rfl, fun w' hS => by (obtain ⟨s0, s1⟩ := hS; have hA := HA9.out; by_cases h8 : c ≤ 8; (have h8' : c = 8 := by omega); (have hn8 : n = 8 := by omega); (subst h8'; subst hn8; simp at hA; subst hA; go_simp); (rw [if_neg h8] at hA; subst hA; have e5 : ¬ c - 8 = 0 := by omega); (have e6 : ¬ c = 8 := by omega); go_simp)⟩) (by assumption) ?_
    try simp only [Act.put, List.getElem_toArray, List.getElem_cons_zero, List.getElem_cons_succ, List.setIfInBounds_toArray, List.set_cons_zero, List.set_cons_succ]
    refine wpAnyH_ready (rs := [10, 12]) (by kernel_rfl) (by simp) ?_
    refine AllReadyH.cons rfl (fun K hK => ?_) (AllReadyH.cons rfl (fun K hK => ?_) AllReadyH.nil)
    · go_simp
      go_at_call 47
      refine (clone44N (A := A9) (c - 8) w2.heap.size (l.drop 8) w2.drew HL8.out (by exact HB9.out) (by omega) (by exact Nat.le_refl _)).mono ?_
      rintro e w4 ⟨v4, rfl, o4, f4⟩
      obtain ⟨A4, cp4, rfl, hb4, hc4, hm4⟩ := o4.cap HL8.out
      have f4b : Fr (fun _ => False) w2 w4 := ((Fr.refl (fun _ => False) w2).drew).then' f4
      refine hK.out _ _ (HK.out _ f4b) (fun hHeld => ?_)
      clear hK K
      try simp only [Act.put, List.getElem_toArray, List.getElem_cons_zero, List.getElem_cons_succ, List.setIfInBounds_toArray, List.set_cons_zero, List.set_cons_succ]
      refine wpAnyH_take (i := 11) (oi := _) (v := .agg #[.int .i64 m.ty, .int .i64 m.code, .int .i64 0, .int .i64 0, .int .i64 0, .slice A4 (n - 8) cp4]) rfl (by kernel_rfl) (by kernel_rfl) (by kernel_rfl) (fun _ _ _ h => h) (Or.inl ⟨by rfl, fun w' hS => by go_simp⟩) (by assumption) ?_
      try simp only [Act.put, List.getElem_toArray, List.getElem_cons_zero, List.getElem_cons_succ, List.setIfInBounds_toArray, List.set_cons_zero, List.set_cons_succ]
      refine wpAnyH_ready (rs := [12]) (by kernel_rfl) (by simp) ?_
      refine AllReadyH.cons rfl (fun K hK => ?_) AllReadyH.nil
      go_simp
      refine hK.out _ _ (HK.out _ (f4b.alloc _)) (fun hHeld => ?_)
      clear hK K
      try simp only [Act.put, List.getElem_toArray, List.getElem_cons_zero, List.getElem_cons_succ, List.setIfInBounds_toArray, List.set_cons_zero, List.set_cons_succ]
      have hth : (w4.alloc (.cells #[.int .i64 0, .int .i64 0, .int .i64 0, .int .i64 0, .int .i64 0, .slice none 0 0] 24)).there w4.heap.size 0 6 := there_new (heap_alloc_new w4 _) rfl
      refine wpAnyH_ready (rs := [13]) (by kernel_rfl) (by simp) ?_
      refine AllReadyH.cons rfl (fun K hK => ?_) AllReadyH.nil
      rw [if_pos (by rfl)]
      refine wp_store_mid 24 _ _ rfl w4.heap.size 0 #[.int .i64 m.ty, .int .i64 m.code, .int .i64 0, .int .i64 0, .int .i64 0, .slice A4 (n - 8) cp4] rfl rfl hth (by kernel_rfl) (by kernel_rfl) ?_
      have f5 : Fr (fun _ => False) w2 ((w4.alloc (.cells #[.int .i64 0, .int .i64 0, .int .i64 0, .int .i64 0, .int .i64 0, .slice none 0 0] 24)).setCells w4.heap.size 0 [.int .i64 m.ty, .int .i64 m.code, .int .i64 0, .int .i64 0, .int .i64 0, .slice A4 (n - 8) cp4]) := Fr.setCells w4.heap.size (fun h => by have := f4b.size; omega) _ 0 _ (f4b.alloc _)
      have r5 := World.rangeAt_setCells_same (w4.alloc (.cells #[.int .i64 0, .int .i64 0, .int .i64 0, .int .i64 0, .int .i64 0, .slice none 0 0] 24)) w4.heap.size 0 [.int .i64 m.ty, .int .i64 m.code, .int .i64 0, .int .i64 0, .int .i64 0, .slice A4 (n - 8) cp4] hth
      refine hK.out _ _ (HK.out _ f5) (fun hHeld => ?_)
      clear hK K
      try simp only [Act.put, List.getElem_toArray, List.getElem_cons_zero, List.getElem_cons_succ]
      refine wpAnyH_done (by kernel_rfl) ?_ _
      go_wp2_with fail
      go_meet
      refine ⟨w4.heap.size, A4, cp4, rfl, f4b.size, lt_of_block2 r5 rfl, r5, World.there_setCells hth _ _ _, fun w' kf => ?_, f5⟩
      refine (o4.fr0 ((Fr.refl (fun _ => False) w4).alloc _)).fr ((Fr.setCells (S := fun i => i = w4.heap.size) w4.heap.size (fun _ => rfl) _ 0 _ (Fr.refl _ _)).trans kf (fun _ _ e => e)) (fun k hk e => ?_)
      have := (World.ownsRow.lt o4 k hk).2
      omega
    · go_simp
      have RZ : Fr (fun _ => False) w2 (w2.drew.alloc (.cells #[.int .i64 0, .int .i64 0, .int .i64 0, .int .i64 0, .int .i64 0, .slice none 0 0] 24)) := ((Fr.refl (fun _ => False) w2).drew).alloc _
      refine hK.out _ _ (HK.out _ RZ) (fun hHeld => ?_)
      clear hK K
      try simp only [Act.put, List.getElem_toArray, List.getElem_cons_zero, List.getElem_cons_succ, List.setIfInBounds_toArray, List.set_cons_zero, List.set_cons_succ]
      refine wpAnyH_ready (rs := [10]) (by kernel_rfl) (by simp) ?_
      refine AllReadyH.cons rfl (fun K hK => ?_) AllReadyH.nil
      go_simp
      go_at_call 47
      refine (clone44N (A := A9) (c - 8) w2.heap.size (l.drop 8) (w2.drew.alloc (.cells #[.int .i64 0, .int .i64 0, .int .i64 0, .int .i64 0, .int .i64 0, .slice none 0 0] 24)) HL8.out (by exact HB9.out.fr RZ (Nat.le_refl _) (fun _ _ e => e)) (by omega) (by exact RZ.size)).mono ?_
      rintro e w4 ⟨v4, rfl, o4, f4⟩
      obtain ⟨A4, cp4, rfl, hb4, hc4, hm4⟩ := o4.cap HL8.out
      have f4b : Fr (fun _ => False) w2 w4 := RZ.then' f4
      have hsz : (w2.drew.alloc (.cells #[.int .i64 0, .int .i64 0, .int .i64 0, .int .i64 0, .int .i64 0, .slice none 0 0] 24)).heap.size = w2.heap.size + 1 := by show (World.alloc _ _).heap.size = _; simp
      have hth : w4.there w2.heap.size 0 6 := there_new ((f4.block w2.heap.size (by omega) (fun e => e)).trans (heap_alloc_new w2.drew _)) rfl
      refine hK.out _ _ (HK.out _ f4b) (fun hHeld => ?_)
      clear hK K
      try simp only [Act.put, List.getElem_toArray, List.getElem_cons_zero, List.getElem_cons_succ, List.setIfInBounds_toArray, List.set_cons_zero, List.set_cons_succ]
      refine wpAnyH_take (i := 11) (oi := _) (v := .agg #[.int .i64 m.ty, .int .i64 m.code, .int .i64 0, .int .i64 0, .int .i64 0, .slice A4 (n - 8) cp4]) rfl (by kernel_rfl) (by kernel_rfl) (by kernel_rfl) (fun _ _ _ h => h) (Or.inl ⟨by rfl, fun w' hS => by go_simp⟩) (by assumption) ?_
      try simp only [Act.put, List.getElem_toArray, List.getElem_cons_zero, List.getElem_cons_succ, List.setIfInBounds_toArray, List.set_cons_zero, List.set_cons_succ]
      refine wpAnyH_ready (rs := [13]) (by kernel_rfl) (by simp) ?_
      refine AllReadyH.cons rfl (fun K hK => ?_) AllReadyH.nil
      rw [if_pos (by rfl)]
      refine wp_store_mid 24 _ _ rfl w2.heap.size 0 #[.int .i64 m.ty, .int .i64 m.code, .int .i64 0, .int .i64 0, .int .i64 0, .slice A4 (n - 8) cp4] rfl rfl hth (by kernel_rfl) (by kernel_rfl) ?_
      have f5 : Fr (fun _ => False) w2 (w4.setCells w2.heap.size 0 [.int .i64 m.ty, .int .i64 m.code, .int .i64 0, .int .i64 0, .int .i64 0, .slice A4 (n - 8) cp4]) := Fr.setCells w2.heap.size (fun h => absurd h (Nat.lt_irrefl _)) _ 0 _ f4b
      have r5 := World.rangeAt_setCells_same w4 w2.heap.size 0 [.int .i64 m.ty, .int .i64 m.code, .int .i64 0, .int .i64 0, .int .i64 0, .slice A4 (n - 8) cp4] hth
      refine hK.out _ _ (HK.out _ f5) (fun hHeld => ?_)
      clear hK K
      try simp only [Act.put, List.getElem_toArray, List.getElem_cons_zero, List.getElem_cons_succ]
      refine wpAnyH_done (by kernel_rfl) ?_ _
      go_wp2_with fail
      go_meet
      refine ⟨w2.heap.size, A4, cp4, rfl, Nat.le_refl _, lt_of_block2 r5 rfl, r5, World.there_setCells hth _ _ _, fun w' kf => ?_, f5⟩
      refine (o4.base (base' := w2.heap.size) (by omega)).fr ((Fr.setCells (S := fun i => i = w2.heap.size) w2.heap.size (fun _ => rfl) _ 0 _ (Fr.refl _ _)).trans kf (fun _ _ e => e)) (fun k hk e => ?_)
      have := (World.ownsRow.lt o4 k hk).1
      omega
  case rest =>
    as_aux_lemma =>
      obtain ⟨wx, hwx⟩ : ∃ x, x = wc := ⟨_, rfl⟩
      subst hwx
      obtain ⟨g8, A4, cp4, rfl, hg0, hg1, hr8, ht8, ho8, hf8⟩ := hcut
      have q0 := hr8 0 _ rfl
      have q1 := hr8 1 _ rfl
      have q2 := hr8 2 _ rfl
      have q3 := hr8 3 _ rfl
      have q4 := hr8 4 _ rfl
      have q5 := hr8 5 _ rfl
      have y2 := ht8 2 (by omega)
      have y3 := ht8 3 (by omega)
      have y4 := ht8 4 (by omega)
      simp only [Nat.zero_add] at q0 q1 q2 q3 q4 q5 y2 y3 y4
      have z2 := y2.2
      have z3 := y3.2
      have z4 := y4.2
      have HO8 := Lib.hid ho8
      have HF8 := Lib.hid hf8
      have HT8 := Lib.hid ht8
      have HR8 := Lib.hid hr8
      clear y2 y3 y4 ho8 hf8 ht8 hr8 e0 e1 e2 e3 e4
      go_upto_if 49 with (go_at_call 48; refine (echo48 m.ty _).mono ?_; rw [HEB.out]; rintro e w3 ⟨rfl, hw⟩; have hw := hw.symm; subst hw)
      go_cut [] (fun wd => MsgAt wd g8 m (.slice A4 (n - 8) cp4) ∧ wd.there g8 0 6 ∧ Fr (fun i => i = g8) wx wd)
      case first =>
        have qi := HI.out
        cases b
        · simp only [cond_false] at qi
          obtain ⟨i1e, i2e, i3e⟩ := qi
          have HIE := Lib.hid (And.intro i1e (And.intro i2e i3e))
          clear i1e i2e i3e HI
          go_wp2_with fail
          go_meet
          refine ⟨?_, there_set HT8.out _ _, (Fr.refl (fun i => i = g8) wx).setCell _ _ (fun _ => rfl)⟩
          unfold MsgAt
          rw [HIE.out.1, HIE.out.2.1, HIE.out.2.2]
          exact rangeAt_set HR8.out 4 (.int .i64 i2) (by simp)
        · simp only [cond_true] at qi
          obtain ⟨i1e, i2e, i3e⟩ := qi
          have HIE := Lib.hid (And.intro i1e (And.intro i2e i3e))
          clear i1e i2e i3e HI
          go_wp2_with fail
          go_meet
          refine ⟨?_, there_set (there_set HT8.out _ _) _ _, ((Fr.refl (fun i => i = g8) wx).setCell _ _ (fun _ => rfl)).setCell _ _ (fun _ => rfl)⟩
          unfold MsgAt
          rw [HIE.out.1, HIE.out.2.1, HIE.out.2.2]
          exact rangeAt_set (rangeAt_set HR8.out 2 (.int .i64 i1) (by simp)) 3 (.int .i64 i2) (by simp)
      case rest =>
        as_aux_lemma =>
          clear q0 q1 q2 q3 q4 q5 z2 z3 z4 HT8 HR8
          obtain ⟨rm, rt, rf⟩ := hcut
          have hsz2 : w.heap.size < w2.heap.size := Nat.lt_of_lt_of_le HG.out.2 F2.out.size
          have F2d : Fr (fun _ => False) w2 wc := HF8.out.trans rf (fun i hi e => by omega)
          have FWd := Lib.hid (FW.out.then' F2d)
          have OD := Lib.hid (HO8.out wc rf)
          have HW := Lib.hid (fun (w' : World) (k : Fr (fun _ => False) wc w') => show MsgAt w' g8 m (.slice A4 (n - 8) cp4) ∧ w'.heap[w.heap.size]? = some (.cells #[.int .i64 0, .int .i64 0, .int .i64 0, .int .i64 0, .int .i64 0, .slice none 0 0] 24) from
            ⟨fun j v hj => (World.cell?_of_block (k.block g8 (by have := rf.size; omega) (fun e => e))).trans (rm j v hj), (((F2.out.then' F2d).then' k).block w.heap.size HG.out.2 (fun e => e)).trans HG.out.1⟩)
          have hsz := Lib.hid hsz2
          have q0 := rm 0 _ rfl
          have q1 := rm 1 _ rfl
          have q2 := rm 2 _ rfl
          have q3 := rm 3 _ rfl
          have q4 := rm 4 _ rfl
          have q5 := rm 5 _ rfl
          simp only [Nat.zero_add] at q0 q1 q2 q3 q4 q5
          clear rm rt rf F2d hsz2 HO8 HF8 HI hg0 hg1 HTC HS HM HX FB P1 HG F2 FW P2 HK HL8 A1 A2
          obtain ⟨mv, hmv⟩ : ∃ mv, m.may = mv := ⟨_, rfl⟩
          obtain ⟨iz, hiz⟩ : ∃ iz, (i1 == 0) = iz := ⟨_, rfl⟩
          have HIZ := Lib.hid hiz
          have HMV := Lib.hid hmv
          clear hmv
          have hin : (i1 != 0) = !iz := by rw [← hiz]; rfl
          clear hiz
          have HIN := Lib.hid hin
          clear hin
          cases mv
          · as_aux_lemma =>
              have hin := HIN.out
              go_upto_region 14 with (first
                | (go_at_call 40; refine (may40P m.ty m.code m.id m.seq m.mtu _ _).mono ?_; rw [show Im.may ⟨m.ty, m.code, m.id, m.seq, m.mtu⟩ = _ from HMV.out]; rintro e w5 ⟨rfl, f5⟩; have F5 := Lib.hid f5; have q := (HW.out w5 f5).1 0 _ rfl; rw [Nat.zero_add] at q; clear f5)
                | (go_at_call 48; refine (echo48 m.ty _).mono ?_; rw [HEB.out]; rintro e w6 ⟨rfl, hw⟩; have hw := hw.symm; subst hw))
              have hrow := (HW.out w5 F5.out).2
              have HT := Lib.hid (there_new (w := w5) (b := w.heap.size) hrow rfl)
              have R5 := Lib.hid (HW.out w5 F5.out).1
              clear q0 q1 q2 q3 q4 q5 q hrow hin
              go_step
              refine wpList_plain rfl fun K hK => ?_
              go_simp
              refine hK _ _ ?_
              refine wpList_store24 rfl _ _ rfl w.heap.size [.int .i64 0, .int .i64 0, .int .i64 0, .int .i64 0, .int .i64 0, .slice none 0 0] rfl rfl HT.out rfl (by kernel_rfl) ?_
              have F7 := Lib.hid (Fr.setCells (S := fun _ => False) w.heap.size (fun h => absurd h (Nat.lt_irrefl _)) [.int .i64 0, .int .i64 0, .int .i64 0, .int .i64 0, .int .i64 0, .slice none 0 0] 0 w5 (FWd.out.then' F5.out))
              have RS := Lib.hid (fun tmps hp => results_set14 tmps w5 w.heap.size [.int .i64 0, .int .i64 0, .int .i64 0, .int .i64 0, .int .i64 0, .slice none 0 0] rfl hp HT.out)
              generalize w5.setCells w.heap.size 0 [.int .i64 0, .int .i64 0, .int .i64 0, .int .i64 0, .int .i64 0, .slice none 0 0] = w7 at F7 RS ⊢
              go_wp2_with fail
              exact bodyPost_ret (v := .tuple #[.agg #[.int .i64 0, .int .i64 0, .int .i64 0, .int .i64 0, .int .i64 0, .slice none 0 0], .int .i64 4]) (RS.out _ rfl) rfl ⟨F7.out, And.intro (fun hx => by rw [HMV.out, HIZ.out] at hx; cases hx) (fun _ => rfl)⟩
          · cases b
            · cases iz
              · as_aux_lemma =>
                  have hin := HIN.out
                  go_upto_region 14 with (first
                    | (go_at_call 40; refine (may40P m.ty m.code m.id m.seq m.mtu _ _).mono ?_; rw [show Im.may ⟨m.ty, m.code, m.id, m.seq, m.mtu⟩ = _ from HMV.out]; rintro e w5 ⟨rfl, f5⟩; have F5 := Lib.hid f5; have q := (HW.out w5 f5).1 0 _ rfl; rw [Nat.zero_add] at q; clear f5)
                    | (go_at_call 48; refine (echo48 m.ty _).mono ?_; rw [HEB.out]; rintro e w6 ⟨rfl, hw⟩; have hw := hw.symm; subst hw))
                  have hrow := (HW.out w5 F5.out).2
                  have HT := Lib.hid (there_new (w := w5) (b := w.heap.size) hrow rfl)
                  have R5 := Lib.hid (HW.out w5 F5.out).1
                  clear q0 q1 q2 q3 q4 q5 q hrow hin
                  go_step
                  refine wpList_plain rfl fun K hK => ?_
                  go_simp
                  refine hK _ _ ?_
                  refine wpList_store24 rfl _ _ rfl w.heap.size [.int .i64 0, .int .i64 0, .int .i64 0, .int .i64 0, .int .i64 0, .slice none 0 0] rfl rfl HT.out rfl (by kernel_rfl) ?_
                  have F7 := Lib.hid (Fr.setCells (S := fun _ => False) w.heap.size (fun h => absurd h (Nat.lt_irrefl _)) [.int .i64 0, .int .i64 0, .int .i64 0, .int .i64 0, .int .i64 0, .slice none 0 0] 0 w5 (FWd.out.then' F5.out))
                  have RS := Lib.hid (fun tmps hp => results_set14 tmps w5 w.heap.size [.int .i64 0, .int .i64 0, .int .i64 0, .int .i64 0, .int .i64 0, .slice none 0 0] rfl hp HT.out)
                  generalize w5.setCells w.heap.size 0 [.int .i64 0, .int .i64 0, .int .i64 0, .int .i64 0, .int .i64 0, .slice none 0 0] = w7 at F7 RS ⊢
                  go_wp2_with fail
                  exact bodyPost_ret (v := .tuple #[.agg #[.int .i64 0, .int .i64 0, .int .i64 0, .int .i64 0, .int .i64 0, .slice none 0 0], .int .i64 4]) (RS.out _ rfl) rfl ⟨F7.out, And.intro (fun hx => by rw [HMV.out, HIZ.out] at hx; cases hx) (fun _ => rfl)⟩
              · as_aux_lemma =>
                  have hin := HIN.out
                  go_upto_region 15 with (first
                    | (go_at_call 40; refine (may40P m.ty m.code m.id m.seq m.mtu _ _).mono ?_; rw [show Im.may ⟨m.ty, m.code, m.id, m.seq, m.mtu⟩ = _ from HMV.out]; rintro e w5 ⟨rfl, f5⟩; have F5 := Lib.hid f5; have q := (HW.out w5 f5).1 0 _ rfl; rw [Nat.zero_add] at q; clear f5)
                    | (go_at_call 48; refine (echo48 m.ty _).mono ?_; rw [HEB.out]; rintro e w6 ⟨rfl, hw⟩; have hw := hw.symm; subst hw))
                  have hrow := (HW.out w5 F5.out).2
                  have HT := Lib.hid (there_new (w := w5) (b := w.heap.size) hrow rfl)
                  have R5 := Lib.hid (HW.out w5 F5.out).1
                  clear q0 q1 q2 q3 q4 q5 q hrow hin
                  have hs := hsz.out
                  have o5 := OD.out.fr0 F5.out
                  have O7 := Lib.hid ((o5.base (base' := w.heap.size) (by omega)).fr (S := fun i => i = w.heap.size) (Fr.setCells (S := fun i => i = w.heap.size) w.heap.size (fun _ => rfl) [.int .i64 m.ty, .int .i64 m.code, .int .i64 m.id, .int .i64 m.seq, .int .i64 m.mtu, .slice A4 (n - 8) cp4] 0 w5 (Fr.refl _ w5)) (fun k hk e => by have := (World.ownsRow.lt o5 k hk).1; omega))
                  clear hs o5
                  go_step
                  refine wpList_load24 rfl _ rfl g8 rfl [.int .i64 m.ty, .int .i64 m.code, .int .i64 m.id, .int .i64 m.seq, .int .i64 m.mtu, .slice A4 (n - 8) cp4] R5.out rfl ?_
                  refine wpList_store24 rfl _ _ rfl w.heap.size [.int .i64 m.ty, .int .i64 m.code, .int .i64 m.id, .int .i64 m.seq, .int .i64 m.mtu, .slice A4 (n - 8) cp4] rfl rfl HT.out rfl (by kernel_rfl) ?_
                  have F7 := Lib.hid (Fr.setCells (S := fun _ => False) w.heap.size (fun h => absurd h (Nat.lt_irrefl _)) [.int .i64 m.ty, .int .i64 m.code, .int .i64 m.id, .int .i64 m.seq, .int .i64 m.mtu, .slice A4 (n - 8) cp4] 0 w5 (FWd.out.then' F5.out))
                  have RS := Lib.hid (fun tmps hp => results_set14 tmps w5 w.heap.size [.int .i64 m.ty, .int .i64 m.code, .int .i64 m.id, .int .i64 m.seq, .int .i64 m.mtu, .slice A4 (n - 8) cp4] rfl hp HT.out)
                  generalize w5.setCells w.heap.size 0 [.int .i64 m.ty, .int .i64 m.code, .int .i64 m.id, .int .i64 m.seq, .int .i64 m.mtu, .slice A4 (n - 8) cp4] = w7 at F7 RS O7 ⊢
                  go_wp2_with fail
                  exact bodyPost_ret (v := .tuple #[.agg #[.int .i64 m.ty, .int .i64 m.code, .int .i64 m.id, .int .i64 m.seq, .int .i64 m.mtu, .slice A4 (n - 8) cp4], .int .i64 0]) (RS.out _ rfl) rfl ⟨F7.out, And.intro (fun _ => ⟨_, rfl, O7.out⟩) (fun hx => by rw [HMV.out, HIZ.out] at hx; cases hx)⟩
            · as_aux_lemma =>
                have hin := HIN.out
                go_upto_region 15 with (first
                  | (go_at_call 40; refine (may40P m.ty m.code m.id m.seq m.mtu _ _).mono ?_; rw [show Im.may ⟨m.ty, m.code, m.id, m.seq, m.mtu⟩ = _ from HMV.out]; rintro e w5 ⟨rfl, f5⟩; have F5 := Lib.hid f5; have q := (HW.out w5 f5).1 0 _ rfl; rw [Nat.zero_add] at q; clear f5)
                  | (go_at_call 48; refine (echo48 m.ty _).mono ?_; rw [HEB.out]; rintro e w6 ⟨rfl, hw⟩; have hw := hw.symm; subst hw))
                have hrow := (HW.out w5 F5.out).2
                have HT := Lib.hid (there_new (w := w5) (b := w.heap.size) hrow rfl)
                have R5 := Lib.hid (HW.out w5 F5.out).1
                clear q0 q1 q2 q3 q4 q5 q hrow hin
                have hs := hsz.out
                have o5 := OD.out.fr0 F5.out
                have O7 := Lib.hid ((o5.base (base' := w.heap.size) (by omega)).fr (S := fun i => i = w.heap.size) (Fr.setCells (S := fun i => i = w.heap.size) w.heap.size (fun _ => rfl) [.int .i64 m.ty, .int .i64 m.code, .int .i64 m.id, .int .i64 m.seq, .int .i64 m.mtu, .slice A4 (n - 8) cp4] 0 w5 (Fr.refl _ w5)) (fun k hk e => by have := (World.ownsRow.lt o5 k hk).1; omega))
                clear hs o5
                go_step
                refine wpList_load24 rfl _ rfl g8 rfl [.int .i64 m.ty, .int .i64 m.code, .int .i64 m.id, .int .i64 m.seq, .int .i64 m.mtu, .slice A4 (n - 8) cp4] R5.out rfl ?_
                refine wpList_store24 rfl _ _ rfl w.heap.size [.int .i64 m.ty, .int .i64 m.code, .int .i64 m.id, .int .i64 m.seq, .int .i64 m.mtu, .slice A4 (n - 8) cp4] rfl rfl HT.out rfl (by kernel_rfl) ?_
                have F7 := Lib.hid (Fr.setCells (S := fun _ => False) w.heap.size (fun h => absurd h (Nat.lt_irrefl _)) [.int .i64 m.ty, .int .i64 m.code, .int .i64 m.id, .int .i64 m.seq, .int .i64 m.mtu, .slice A4 (n - 8) cp4] 0 w5 (FWd.out.then' F5.out))
                have RS := Lib.hid (fun tmps hp => results_set14 tmps w5 w.heap.size [.int .i64 m.ty, .int .i64 m.code, .int .i64 m.id, .int .i64 m.seq, .int .i64 m.mtu, .slice A4 (n - 8) cp4] rfl hp HT.out)
                generalize w5.setCells w.heap.size 0 [.int .i64 m.ty, .int .i64 m.code, .int .i64 m.id, .int .i64 m.seq, .int .i64 m.mtu, .slice A4 (n - 8) cp4] = w7 at F7 RS O7 ⊢
                go_wp2_with fail
                exact bodyPost_ret (v := .tuple #[.agg #[.int .i64 m.ty, .int .i64 m.code, .int .i64 m.id, .int .i64 m.seq, .int .i64 m.mtu, .slice A4 (n - 8) cp4], .int .i64 0]) (RS.out _ rfl) rfl ⟨F7.out, And.intro (fun _ => ⟨_, rfl, O7.out⟩) (fun hx => by rw [HMV.out, HIZ.out] at hx; cases hx)⟩
end Go.Proofs.Ytcfadmjihccimaa
