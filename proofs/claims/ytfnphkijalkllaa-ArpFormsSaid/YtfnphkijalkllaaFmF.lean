/- ArpForms: its plain law and its walk. No condition but lengths. -/
import Derived.Test.YtfnphkijalkllaaFmE
namespace Go.Proofs.Ytfnphkijalkllaa
set_option linter.unusedVariables false
set_option linter.unusedSimpArgs false
open Go.RowKit
def eL (a : Rq) : List Int := if a.sm.a % 2 = 1 then [] else ab a
def eE (a : Rq) : Int := if a.sm.a % 2 = 1 then 1 else 0
theorem eL_ok {a : Rq} (h : a.ok) : isB (eL a) := by
  unfold eL
  split
  · intro x hx; cases hx
  · exact ab_ok h
theorem eL_len (a : Rq) : (eL a).length ≤ 28 := by
  unfold eL
  split
  · simp
  · rw [ab_len]; omega
theorem encode20 (a : Rq) (ha : a.ok) (w : World) : Calls Try.prog 20 #[.agg a.cells.toArray] w fun e w' => ∃ A c, e = .returned (.tuple #[.slice A (eL a).length c, .int .i64 (eE a)]) ∧ BytesIn w'.heap.size w' A (eL a) ∧ Fr (fun _ => False) w w' := by
  by_cases h : a.sm.a % 2 = 1
  · refine (enc20_bad a ha h w).mono ?_
    rintro e w' ⟨rfl, hf⟩
    have e1 : eL a = [] := by unfold eL; rw [if_pos h]
    have e2 : eE a = 1 := by unfold eE; rw [if_pos h]
    rw [e1, e2]
    exact ⟨none, 0, rfl, fun h => absurd h (by simp), hf⟩
  · refine (enc20_ok a ha h w).mono ?_
    rintro e w' ⟨v, rfl, ho, hf⟩
    have e1 : eL a = ab a := by unfold eL; rw [if_neg h]
    have e2 : eE a = 0 := by unfold eE; rw [if_neg h]
    rw [e1, e2]
    obtain ⟨A, c, hv, hb, _, _⟩ := ho.cap (n := (ab a).length) rfl
    subst hv
    exact ⟨A, c, rfl, hb, hf⟩
theorem encode21 (a : Rq) (ha : a.ok) (w : World) : Calls Try.prog 21 #[.agg a.cells.toArray] w fun e w' => ∃ A c, e = .returned (.tuple #[.slice A (eL a).length c, .int .i64 (eE a)]) ∧ BytesIn w'.heap.size w' A (eL a) ∧ Fr (fun _ => False) w w' := by
  by_cases h : a.sm.a % 2 = 1
  · refine (renc21_bad a ha h w).mono ?_
    rintro e w' ⟨rfl, hf⟩
    have e1 : eL a = [] := by unfold eL; rw [if_pos h]
    have e2 : eE a = 1 := by unfold eE; rw [if_pos h]
    rw [e1, e2]
    exact ⟨none, 0, rfl, fun h => absurd h (by simp), hf⟩
  · refine (renc21_ok a ha h w).mono ?_
    rintro e w' ⟨v, rfl, ho, hf⟩
    have e1 : eL a = ab a := by unfold eL; rw [if_neg h]
    have e2 : eE a = 0 := by unfold eE; rw [if_neg h]
    rw [e1, e2]
    obtain ⟨A, c, hv, hl, hb⟩ := ho.bytes
    subst hv
    exact ⟨A, c, by rw [hl], hb, hf⟩
theorem decode22 (A : Option Addr) (n c : Nat) (l : List Int) (w : World) (hl : l.length = n) (hc : n ≤ c) (hB : isB l) (hA : BytesIn w.heap.size w A l) (hm : n ≤ 140737488355328) :
    Calls Try.prog 22 #[.slice A n c] w fun e w' => e = .returned (.tuple #[.agg (decE l).1.cells.toArray, .int .i64 (decE l).2]) ∧ Fr (fun _ => False) w w' := by
  by_cases h : n < 28
  · refine (dec22_short A n c w h).mono ?_
    rintro e w' ⟨rfl, hf⟩
    have e1 : decE l = (zRq, 3) := by unfold decE; rw [if_pos (by omega)]
    rw [e1]
    exact ⟨rfl, hf⟩
  · exact dec22_long A n c l w hl (by omega) hc hB hA hm
theorem decode23 (A : Option Addr) (n c : Nat) (l : List Int) (w : World) (hl : l.length = n) (hc : n ≤ c) (hB : isB l) (hA : BytesIn w.heap.size w A l) (hm : n ≤ 140737488355328) :
    Calls Try.prog 23 #[.slice A n c] w fun e w' => e = .returned (.tuple #[.agg (decE l).1.cells.toArray, .int .i64 (decE l).2]) ∧ Fr (fun _ => False) w w' := by
  by_cases h : n < 28
  · refine (rdec23_short A n c w h).mono ?_
    rintro e w' ⟨rfl, hf⟩
    have e1 : decE l = (zRq, 3) := by unfold decE; rw [if_pos (by omega)]
    rw [e1]
    exact ⟨rfl, hf⟩
  · exact rdec23_long A n c l w hl (by omega) hc hB hA hm
theorem decE_ok {l : List Int} (h : isB l) : (decE l).1.ok := by
  unfold decE
  split
  · exact zRq_ok
  · split
    · exact zRq_ok
    · exact decR_ok h
theorem dec_enc {a : Rq} (ha : a.ok) (he : eE a = 0) : decE (eL a ++ [1, 2]) = (a, 0) := by
  have h : ¬ a.sm.a % 2 = 1 := fun h => by unfold eE at he; rw [if_pos h] at he; cases he
  have e1 : eL a = ab a := by unfold eL; rw [if_neg h]
  rw [e1]
  have hR : decR (ab a ++ [1, 2]) = a := by
    obtain ⟨an, ⟨m0, m1, m2, m3, m4, m5⟩, ⟨i0, i1, i2, i3⟩, ⟨d0, d1, d2, d3, d4, d5⟩, ⟨j0, j1, j2, j3⟩⟩ := a
    have h7 : decide (gB (ab ⟨an, ⟨m0, m1, m2, m3, m4, m5⟩, ⟨i0, i1, i2, i3⟩, ⟨d0, d1, d2, d3, d4, d5⟩, ⟨j0, j1, j2, j3⟩⟩ ++ [1, 2]) 7 = 2) = an := by
      show decide (opb an = 2) = an
      cases an <;> decide
    unfold decR
    rw [h7]
    rfl
  unfold decE
  rw [if_neg (by rw [List.length_append, ab_len]; simp), hR, if_neg]
  rintro (h1 | h1)
  · exact h h1
  · apply h1
    rw [List.take_append_of_le_length (by rw [ab_len]; exact Nat.le_refl _), List.take_of_length_le (by rw [ab_len]; exact Nat.le_refl _)]
def k33 : List (Option IntKind) := [none, some .u8, some .u8, some .u8, some .u8, some .u8, some .u8, some .u8, some .u8, some .u8, some .u8, some .u8, some .u8, some .u8, some .u8, some .u8, some .u8, some .u8, some .u8, some .u8, some .u8]
theorem flat33 : flatK Try.prog 9 33 = some k33 := by kernel_rfl
theorem fits33 {a : Rq} (h : a.ok) : FitsL k33 a.cells :=
  ⟨⟨_, rfl⟩, ⟨_, rfl, h.sm.1⟩, ⟨_, rfl, h.sm.2.1⟩, ⟨_, rfl, h.sm.2.2.1⟩, ⟨_, rfl, h.sm.2.2.2.1⟩, ⟨_, rfl, h.sm.2.2.2.2.1⟩, ⟨_, rfl, h.sm.2.2.2.2.2⟩, ⟨_, rfl, h.si.1⟩, ⟨_, rfl, h.si.2.1⟩, ⟨_, rfl, h.si.2.2.1⟩, ⟨_, rfl, h.si.2.2.2⟩,
   ⟨_, rfl, h.dm.1⟩, ⟨_, rfl, h.dm.2.1⟩, ⟨_, rfl, h.dm.2.2.1⟩, ⟨_, rfl, h.dm.2.2.2.1⟩, ⟨_, rfl, h.dm.2.2.2.2.1⟩, ⟨_, rfl, h.dm.2.2.2.2.2⟩, ⟨_, rfl, h.di.1⟩, ⟨_, rfl, h.di.2.1⟩, ⟨_, rfl, h.di.2.2.1⟩, ⟨_, rfl, h.di.2.2.2⟩, trivial⟩
theorem eql33 {a : Rq} (h : a.ok) (w : World) : (binOp .eql 33 (.agg a.cells.toArray) (.agg a.cells.toArray)).run Try.prog w = .ok (.bool true) w :=
  run_eql_flat (P := Try.prog) flat33 (by kernel_rfl) (fits33 h) (fits33 h) (by kernel_rfl) (by kernel_rfl) true (by simp) w
theorem neq33 {a : Rq} (h : a.ok) (w : World) : (binOp .neq 33 (.agg a.cells.toArray) (.agg a.cells.toArray)).run Try.prog w = .ok (.bool false) w :=
  run_neq_flat (P := Try.prog) flat33 (by kernel_rfl) (fits33 h) (fits33 h) (by kernel_rfl) (by kernel_rfl) true (by simp) w
theorem box33 (w : World) (p : Rq) : ((w.alloc (.cells #[.bool false, .int .u8 0, .int .u8 0, .int .u8 0, .int .u8 0, .int .u8 0, .int .u8 0, .int .u8 0, .int .u8 0, .int .u8 0, .int .u8 0, .int .u8 0, .int .u8 0, .int .u8 0, .int .u8 0, .int .u8 0, .int .u8 0, .int .u8 0, .int .u8 0, .int .u8 0, .int .u8 0] 33)).setCells w.heap.size 0 p.cells).heap[w.heap.size]? = some (.cells p.cells.toArray 33) ∧ Fr (fun _ => False) w ((w.alloc (.cells #[.bool false, .int .u8 0, .int .u8 0, .int .u8 0, .int .u8 0, .int .u8 0, .int .u8 0, .int .u8 0, .int .u8 0, .int .u8 0, .int .u8 0, .int .u8 0, .int .u8 0, .int .u8 0, .int .u8 0, .int .u8 0, .int .u8 0, .int .u8 0, .int .u8 0, .int .u8 0, .int .u8 0] 33)).setCells w.heap.size 0 p.cells) :=
  ⟨setAll (cs := [.bool false, .int .u8 0, .int .u8 0, .int .u8 0, .int .u8 0, .int .u8 0, .int .u8 0, .int .u8 0, .int .u8 0, .int .u8 0, .int .u8 0, .int .u8 0, .int .u8 0, .int .u8 0, .int .u8 0, .int .u8 0, .int .u8 0, .int .u8 0, .int .u8 0, .int .u8 0, .int .u8 0]) rfl (heap_alloc_new w (.cells #[.bool false, .int .u8 0, .int .u8 0, .int .u8 0, .int .u8 0, .int .u8 0, .int .u8 0, .int .u8 0, .int .u8 0, .int .u8 0, .int .u8 0, .int .u8 0, .int .u8 0, .int .u8 0, .int .u8 0, .int .u8 0, .int .u8 0, .int .u8 0, .int .u8 0, .int .u8 0, .int .u8 0] 33)), Fr.setCells (S := fun _ => False) (a := w) w.heap.size (fun h => absurd h (by omega)) p.cells 0 _ ((Fr.refl (fun _ => False) w).alloc (.cells #[.bool false, .int .u8 0, .int .u8 0, .int .u8 0, .int .u8 0, .int .u8 0, .int .u8 0, .int .u8 0, .int .u8 0, .int .u8 0, .int .u8 0, .int .u8 0, .int .u8 0, .int .u8 0, .int .u8 0, .int .u8 0, .int .u8 0, .int .u8 0, .int .u8 0, .int .u8 0, .int .u8 0] 33))⟩
theorem there33 (w : World) : (w.alloc (.cells #[.bool false, .int .u8 0, .int .u8 0, .int .u8 0, .int .u8 0, .int .u8 0, .int .u8 0, .int .u8 0, .int .u8 0, .int .u8 0, .int .u8 0, .int .u8 0, .int .u8 0, .int .u8 0, .int .u8 0, .int .u8 0, .int .u8 0, .int .u8 0, .int .u8 0, .int .u8 0, .int .u8 0] 33)).there w.heap.size 0 21 := there_at (w.alloc (.cells #[.bool false, .int .u8 0, .int .u8 0, .int .u8 0, .int .u8 0, .int .u8 0, .int .u8 0, .int .u8 0, .int .u8 0, .int .u8 0, .int .u8 0, .int .u8 0, .int .u8 0, .int .u8 0, .int .u8 0, .int .u8 0, .int .u8 0, .int .u8 0, .int .u8 0, .int .u8 0, .int .u8 0] 33)) w.heap.size [.bool false, .int .u8 0, .int .u8 0, .int .u8 0, .int .u8 0, .int .u8 0, .int .u8 0, .int .u8 0, .int .u8 0, .int .u8 0, .int .u8 0, .int .u8 0, .int .u8 0, .int .u8 0, .int .u8 0, .int .u8 0, .int .u8 0, .int .u8 0, .int .u8 0, .int .u8 0, .int .u8 0] 33 (heap_alloc_new w _)
theorem BytesIn.go {w w' : World} {A : Option Addr} {l : List Int} (h : BytesIn w.heap.size w A l) (f : Fr (fun _ => False) w w') : BytesIn w'.heap.size w' A l := (h.fr f (Nat.le_refl _) (fun _ _ e => e)).up f.size
set_option maxRecDepth 100000 in
set_option maxHeartbeats 16000000 in
theorem forms6 (a : Rq) (ha : a.ok) (A : Option Addr) (n c : Nat) (l : List Int) (W : World) (hl : l.length = n) (hc : n ≤ c) (hB : isB l) (hA : BytesIn W.heap.size W A l) (hm : n ≤ 140737488355328) :
    Calls Try.prog 6 #[.agg a.cells.toArray, .slice A n c] W fun e w' => e = .returned (.bool true) ∧ Fr (fun _ => False) W w' := by
  have FA := Lib.hid (Fr.refl (fun _ => False) W)
  have HA := Lib.hid ha
  have HL := Lib.hid hl
  have HB := Lib.hid hB
  have HI := Lib.hid hA
  clear ha hl hB hA
  go_enter Try.func6, Try.ntmps6
  go_upto_region 1 with (fail)
  obtain ⟨h1, h2, h3⟩ := one_new W a.cells.toArray 33
  generalize W.alloc (.cells a.cells.toArray 33) = w1 at h1 h2 h3 ⊢
  obtain ⟨b2, eb2⟩ : ∃ k, W.heap.size = k := ⟨_, rfl⟩
  rw [eb2] at h1 ⊢
  have B1 := Lib.hid h1
  have F1 := Lib.hid h2
  clear h1 h2 h3 eb2
  go_upto_region 2 with (go_at_call 12; refine (awake12 _).mono ?_; rintro e w2 ⟨rfl, f2⟩; have F2 := Lib.hid (F1.out.then' f2); have B2 := Lib.hid ((f2.block b2 (lt_of_block B1.out) (fun e => e)).trans B1.out); clear f2)
  obtain ⟨nx, hnx⟩ : ∃ nx, (eL a).length = nx := ⟨_, rfl⟩
  have hnx28 : nx ≤ 28 := by rw [← hnx]; exact eL_len a
  obtain ⟨er, her⟩ : ∃ er, eE a = er := ⟨_, rfl⟩
  have HNX := Lib.hid (And.intro hnx her)
  have HE20 := Lib.hid (fun w => encode20 a HA.out w)
  have HE21 := Lib.hid (fun w => encode21 a HA.out w)
  rw [hnx, her] at HE20 HE21
  clear hnx her
  have RA2 := Lib.hid (range_at w2 b2 _ 33 B2.out)
  iterate 40 (first
    | (have := MK1; clear this)
    | (refine wpList_load_mid rfl 33 _ rfl b2 0 rfl a.cells _ RA2.out Try.underlying33 rfl (by kernel_rfl) ?_; have MK1 := Lib.hid True.intro)
    | go_step)
  go_upto_region 3 with (go_at_call 20; refine (HE20.out _).mono ?_; rintro e w3 ⟨Ax, cx, rfl, hb, hf⟩; have X3 := Lib.hid hb; have G3 := Lib.hid hf; clear hb hf)
  have B3 := Lib.hid ((G3.out.block b2 (lt_of_block B2.out) (fun e => e)).trans B2.out)
  have RA3 := Lib.hid (range_at w3 b2 _ 33 B3.out)
  iterate 40 (first
    | (have := MK2; clear this)
    | (refine wpList_load_mid rfl 33 _ rfl b2 0 rfl a.cells _ RA3.out Try.underlying33 rfl (by kernel_rfl) ?_; have MK2 := Lib.hid True.intro)
    | go_step)
  go_upto_region 4 with (go_at_call 21; refine (HE21.out _).mono ?_; rintro e w4 ⟨Ay, cy, rfl, hb, hf⟩; have Y4 := Lib.hid hb; have G4 := Lib.hid hf; clear hb hf)
  have F4 := Lib.hid (F2.out.then' (G3.out.then' G4.out))
  have I4' := Lib.hid (HI.out.go F4.out)
  have X4 := Lib.hid (X3.out.go G4.out)
  iterate 40 (first
    | (have := MK3; clear this)
    | (refine wpList_appN _ rfl _ _ rfl w4.heap.size (.slice none 0 0) [] rfl (OwnB.nil _ _) w4.heap.size A n c l HL.out rfl I4'.out (by simp; omega) (Nat.le_refl _) ?_; intro v5 w5 o5 f5; obtain ⟨Ao, co, hv5, hbo, hco, _⟩ := o5.cap (n := n) HL.out; subst hv5; have O5 := Lib.hid (show BytesIn w5.heap.size w5 Ao l from hbo); have HCO := Lib.hid hco; have G5 := Lib.hid f5.fromNil; clear o5 f5 hbo hco; have MK3 := Lib.hid True.intro)
    | go_step)
  obtain ⟨p, hp⟩ : ∃ p, (decE l).1 = p := ⟨_, rfl⟩
  obtain ⟨gv, hgv⟩ : ∃ gv, (decE l).2 = gv := ⟨_, rfl⟩
  have HPO := Lib.hid (show p.ok from by rw [← hp]; exact decE_ok HB.out)
  have HD22 := Lib.hid (decode22 Ao n co l w5 HL.out HCO.out HB.out O5.out (by omega))
  rw [hp, hgv] at HD22
  iterate 60 (first
    | (have := MKp; clear this)
    | (go_at_call 22; refine HD22.out.mono ?_; rintro e w6 ⟨rfl, hf⟩; have G6 := Lib.hid hf; clear hf; dsimp only)
    | (refine wpList_store_mid rfl 33 _ _ rfl w6.heap.size 0 p.cells.toArray rfl rfl (there33 w6) (by kernel_rfl) (by simp [Rq.cells, Value.oneCell']) ?_; have MKp := Lib.hid True.intro)
    | go_step)
  change wpList Try.prog _ _ _ _ ((w6.alloc (.cells #[.bool false, .int .u8 0, .int .u8 0, .int .u8 0, .int .u8 0, .int .u8 0, .int .u8 0, .int .u8 0, .int .u8 0, .int .u8 0, .int .u8 0, .int .u8 0, .int .u8 0, .int .u8 0, .int .u8 0, .int .u8 0, .int .u8 0, .int .u8 0, .int .u8 0, .int .u8 0, .int .u8 0] 33)).setCells w6.heap.size 0 p.cells)
  obtain ⟨h1, h2⟩ := box33 w6 p
  generalize (w6.alloc (.cells #[.bool false, .int .u8 0, .int .u8 0, .int .u8 0, .int .u8 0, .int .u8 0, .int .u8 0, .int .u8 0, .int .u8 0, .int .u8 0, .int .u8 0, .int .u8 0, .int .u8 0, .int .u8 0, .int .u8 0, .int .u8 0, .int .u8 0, .int .u8 0, .int .u8 0, .int .u8 0, .int .u8 0] 33)).setCells w6.heap.size 0 p.cells = w7 at h1 h2 ⊢
  obtain ⟨bp, eb⟩ : ∃ k, w6.heap.size = k := ⟨_, rfl⟩
  rw [eb] at h1 ⊢
  have BP7 := Lib.hid h1
  have G7 := Lib.hid h2
  clear h1 h2 eb
  go_upto_region 6 with (fail)
  try simp only [Act.put]
  have F7 := Lib.hid (F4.out.then' (G5.out.then' (G6.out.then' G7.out)))
  have HD23 := Lib.hid (decode23 A n c l w7 HL.out hc HB.out (HI.out.go F7.out) (by omega))
  rw [hp, hgv] at HD23
  clear hp hgv
  iterate 60 (first
    | (have := MKq; clear this)
    | (go_at_call 23; refine HD23.out.mono ?_; rintro e w8 ⟨rfl, hf⟩; have G8 := Lib.hid hf; clear hf; dsimp only)
    | (refine wpList_store_mid rfl 33 _ _ rfl w8.heap.size 0 p.cells.toArray rfl rfl (there33 w8) (by kernel_rfl) (by simp [Rq.cells, Value.oneCell']) ?_; have MKq := Lib.hid True.intro)
    | go_step)
  change wpList Try.prog _ _ _ _ ((w8.alloc (.cells #[.bool false, .int .u8 0, .int .u8 0, .int .u8 0, .int .u8 0, .int .u8 0, .int .u8 0, .int .u8 0, .int .u8 0, .int .u8 0, .int .u8 0, .int .u8 0, .int .u8 0, .int .u8 0, .int .u8 0, .int .u8 0, .int .u8 0, .int .u8 0, .int .u8 0, .int .u8 0, .int .u8 0] 33)).setCells w8.heap.size 0 p.cells)
  obtain ⟨h1, h2⟩ := box33 w8 p
  generalize (w8.alloc (.cells #[.bool false, .int .u8 0, .int .u8 0, .int .u8 0, .int .u8 0, .int .u8 0, .int .u8 0, .int .u8 0, .int .u8 0, .int .u8 0, .int .u8 0, .int .u8 0, .int .u8 0, .int .u8 0, .int .u8 0, .int .u8 0, .int .u8 0, .int .u8 0, .int .u8 0, .int .u8 0, .int .u8 0] 33)).setCells w8.heap.size 0 p.cells = w9 at h1 h2 ⊢
  obtain ⟨bq, eb⟩ : ∃ k, w8.heap.size = k := ⟨_, rfl⟩
  rw [eb] at h1 ⊢
  have BQ9 := Lib.hid h1
  have G9 := Lib.hid h2
  clear h1 h2 eb
  go_upto_region 7 with (fail)
  try simp only [Act.put]
  have F49 := Lib.hid (G5.out.then' (G6.out.then' (G7.out.then' (G8.out.then' G9.out))))
  have X9 := Lib.hid (X4.out.go F49.out)
  iterate 40 (first
    | (have := MK4; clear this)
    | (refine wpList_appN _ rfl _ _ rfl w9.heap.size (.slice none 0 0) [] rfl (OwnB.nil _ _) w9.heap.size Ax nx cx (eL a) HNX.out.1 rfl X9.out (by simp; omega) (Nat.le_refl _) ?_; intro v10 w10 o10 f10; have O10 := Lib.hid (show OwnB w9.heap.size w10 v10 (eL a) from o10); have G10 := Lib.hid f10.fromNil; clear o10 f10; have MK4 := Lib.hid True.intro)
    | go_step)
  obtain ⟨A10, c10, hv10, _, _, _⟩ := O10.out.cap (n := nx) HNX.out.1
  subst hv10
  have L11 := Lib.hid (bytes_lit w10 [1, 2])
  have G11 := Lib.hid ((Fr.refl (fun _ => False) w10).alloc (.cells (([1, 2] : List Int).map (.int .u8)).toArray 5))
  obtain ⟨w11, ew11⟩ : ∃ y, w10.alloc (.cells #[.int .u8 1, .int .u8 2] 5) = y := ⟨_, rfl⟩
  obtain ⟨b11, eb11⟩ : ∃ k, w10.heap.size = k := ⟨_, rfl⟩
  have E11 := Lib.hid (And.intro ew11 eb11)
  have L11' := Lib.hid (show BytesIn w11.heap.size w11 (some ⟨b11, 0, none⟩) [1, 2] from by
    have h := L11.out
    rw [← ew11, ← eb11]
    simpa using h)
  have G11' := Lib.hid (show Fr (fun _ => False) w10 w11 from by rw [← ew11]; exact G11.out)
  have O11 := Lib.hid (O10.out.fr0 G11'.out)
  clear ew11 eb11 L11 G11
  have ZW := Lib.hid (show w9.heap.size ≤ w11.heap.size from Nat.le_trans G10.out.size G11'.out.size)
  iterate 60 (first
    | (have := MK6; clear this)
    | (have := MK5; refine wpList_appN _ rfl _ _ rfl w9.heap.size (.slice A10 nx c10) (eL a) rfl O11.out w11.heap.size (some ⟨b11, 0, none⟩) 2 2 [1, 2] rfl rfl L11'.out (by rw [HNX.out.1]; omega) ZW.out ?_; clear this; intro v12 w12 o12 f12; obtain ⟨Ab, cb, hv12, hbb, hcb, _⟩ := o12.cap (n := nx + 2) (by rw [List.length_append, HNX.out.1]; rfl); subst hv12; have O12 := Lib.hid hbb; have HCB := Lib.hid hcb; have G12 := Lib.hid (O11.out.turn (G10.out.then' G11'.out) (Nat.le_refl _) f12); clear o12 f12 hbb hcb; have MK6 := Lib.hid True.intro)
    | (have := E11; rw [this.out.1, this.out.2]; clear this; have MK5 := Lib.hid True.intro; clear E11)
    | go_step)
  obtain ⟨bk, hbk⟩ : ∃ bk, (decE (eL a ++ [1, 2])).1 = bk := ⟨_, rfl⟩
  obtain ⟨ei, hei⟩ : ∃ ei, (decE (eL a ++ [1, 2])).2 = ei := ⟨_, rfl⟩
  have HBK := Lib.hid (show er = 0 → bk = a ∧ ei = 0 from fun h => by
    rw [← hbk, ← hei, dec_enc HA.out (by rw [HNX.out.2]; exact h)]
    exact ⟨rfl, rfl⟩)
  have HBO := Lib.hid (show bk.ok from by
    rw [← hbk]
    exact decE_ok ((eL_ok HA.out).app (fun x hx => by simp at hx; omega)))
  have HD2 := Lib.hid (decode22 Ab (nx + 2) cb (eL a ++ [1, 2]) w12 (by rw [List.length_append, HNX.out.1]; rfl) HCB.out ((eL_ok HA.out).app (fun x hx => by simp at hx; omega)) O12.out (by omega))
  rw [hbk, hei] at HD2
  clear hbk hei
  iterate 60 (first
    | (have := MKb; clear this)
    | (go_at_call 22; refine HD2.out.mono ?_; rintro e w13 ⟨rfl, hf⟩; have G13 := Lib.hid hf; clear hf; dsimp only)
    | (refine wpList_store_mid rfl 33 _ _ rfl w13.heap.size 0 bk.cells.toArray rfl rfl (there33 w13) (by kernel_rfl) (by simp [Rq.cells, Value.oneCell']) ?_; have MKb := Lib.hid True.intro)
    | go_step)
  change wpList Try.prog _ _ _ _ ((w13.alloc (.cells #[.bool false, .int .u8 0, .int .u8 0, .int .u8 0, .int .u8 0, .int .u8 0, .int .u8 0, .int .u8 0, .int .u8 0, .int .u8 0, .int .u8 0, .int .u8 0, .int .u8 0, .int .u8 0, .int .u8 0, .int .u8 0, .int .u8 0, .int .u8 0, .int .u8 0, .int .u8 0, .int .u8 0] 33)).setCells w13.heap.size 0 bk.cells)
  obtain ⟨h1, h2⟩ := box33 w13 bk
  generalize (w13.alloc (.cells #[.bool false, .int .u8 0, .int .u8 0, .int .u8 0, .int .u8 0, .int .u8 0, .int .u8 0, .int .u8 0, .int .u8 0, .int .u8 0, .int .u8 0, .int .u8 0, .int .u8 0, .int .u8 0, .int .u8 0, .int .u8 0, .int .u8 0, .int .u8 0, .int .u8 0, .int .u8 0, .int .u8 0] 33)).setCells w13.heap.size 0 bk.cells = w14 at h1 h2 ⊢
  obtain ⟨bb, eb⟩ : ∃ k, w13.heap.size = k := ⟨_, rfl⟩
  rw [eb] at h1 ⊢
  have BB14 := Lib.hid h1
  have G14 := Lib.hid h2
  clear h1 h2 eb
  go_upto_region 8 with (fail)
  try simp only [Act.put]
  have F914 := Lib.hid (G12.out.then' (G13.out.then' G14.out))
  have F514 := Lib.hid (G6.out.then' (G7.out.then' (G8.out.then' (G9.out.then' F914.out))))
  have F414 := Lib.hid (F49.out.then' F914.out)
  have FW14 := Lib.hid (F4.out.then' F414.out)
  have F314 := Lib.hid (G4.out.then' F414.out)
  have BA14 := Lib.hid (show w14.heap[b2]? = some (.cells a.cells.toArray 33) from (F314.out.block b2 (lt_of_block B3.out) (fun e => e)).trans B3.out)
  have RA14 := Lib.hid (range_at w14 b2 _ 33 BA14.out)
  have RBB := Lib.hid (range_at w14 bb _ 33 BB14.out)
  have RP14 := Lib.hid (range_at w14 bp _ 33 (((G8.out.then' (G9.out.then' F914.out)).block bp (lt_of_block BP7.out) (fun e => e)).trans BP7.out))
  have RQ14 := Lib.hid (range_at w14 bq _ 33 ((F914.out.block bq (lt_of_block BQ9.out) (fun e => e)).trans BQ9.out))
  have K1 := Lib.hid (show (convert 55 9 (.slice Ax nx cx)).run Try.prog w14 = .ok (.string (strOfNums (eL a))) w14 from by have h := str_bytes cx (X4.out.go F414.out); rw [HNX.out.1] at h; exact h)
  have K2 := Lib.hid (show (convert 55 9 (.slice Ay nx cy)).run Try.prog w14 = .ok (.string (strOfNums (eL a))) w14 from by have h := str_bytes cy (Y4.out.go F414.out); rw [HNX.out.1] at h; exact h)
  have K3 := Lib.hid (show (convert 55 9 (.slice Ao n co)).run Try.prog w14 = .ok (.string (strOfNums l)) w14 from by have h := str_bytes co (O5.out.go F514.out); rw [HL.out] at h; exact h)
  have K4 := Lib.hid (show (convert 55 9 (.slice A n c)).run Try.prog w14 = .ok (.string (strOfNums l)) w14 from by have h := str_bytes c (HI.out.go FW14.out); rw [HL.out] at h; exact h)
  have HQ := Lib.hid (eql33 HPO.out w14)
  go_cut [58] (fun v58 wc => v58 = .bool false ∧ wc = w14)
  case first =>
    by_cases h0 : er = 0
    · obtain ⟨hbk, hei⟩ := HBK.out h0
      subst h0
      subst hei
      rw [hbk] at RBB
      have HN := Lib.hid (neq33 HA.out w14)
      iterate 200 (first
        | (have := MKn; clear this)
        | (refine wpList_load_when (by rfl) 33 _ rfl bb 0 rfl a.cells _ RBB.out Try.underlying33 rfl (by kernel_rfl) ?_)
        | (refine wpList_load_when (by rfl) 33 _ rfl b2 0 rfl a.cells _ RA14.out Try.underlying33 rfl (by kernel_rfl) ?_)
        | (refine wpList_bin_agg (by rfl) .neq 33 33 _ _ rfl rfl rfl (by kernel_rfl) _ HN.out ?_; have MKn := Lib.hid True.intro)
        | go_step)
      go_wp2_with fail
      go_meet
      exact ⟨rfl, rfl⟩
    · have hne : (er == 0) = false := by simpa using h0
      go_wp2_with fail
      go_meet
      exact ⟨rfl, rfl⟩
  case rest =>
  obtain ⟨rfl, hwc⟩ := hcut
  subst hwc
  go_upto_region 10 with (fail)
  have k1 := K1.out
  have k2 := K2.out
  have k3 := K3.out
  have k4 := K4.out
  iterate 200 (first
    | (have := MKe; clear this)
    | (refine wpList_load_when (by rfl) 33 _ rfl bp 0 rfl p.cells _ RP14.out Try.underlying33 rfl (by kernel_rfl) ?_)
    | (refine wpList_load_when (by rfl) 33 _ rfl bq 0 rfl p.cells _ RQ14.out Try.underlying33 rfl (by kernel_rfl) ?_)
    | (refine wpList_bin_agg (by rfl) .eql 33 33 _ _ rfl rfl rfl (by kernel_rfl) _ HQ.out ?_; have MKe := Lib.hid True.intro)
    | go_step)
  go_wp2_with fail
  go_ret
  exact ⟨by simp, FW14.out⟩
end Go.Proofs.Ytfnphkijalkllaa
