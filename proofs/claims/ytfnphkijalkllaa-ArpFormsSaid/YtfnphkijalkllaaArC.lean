/- Law 8: clones of rows, New, request, ip, drop. No condition but lengths. -/
import Derived.Test.YtfnphkijalkllaaArB
import Derived.BigQuiet
import Derived.Lib.SliceRun
namespace Go.Proofs.Ytfnphkijalkllaa
set_option linter.unusedVariables false
set_option linter.unusedSimpArgs false
open Go.RowKit
set_option maxHeartbeats 4000000 in
set_option maxRecDepth 100000 in
theorem clone40 (N n : Nat) (v : Value) (cs : List Value) (w : World) (hS : Sl N 3 1 w v n cs) (hone : ∀ u ∈ cs, u.oneCell' = true) (hn : n * 8 ≤ 140737488355328) :
    Calls Try.prog 40 #[v] w fun e w' => ∃ v', e = .returned v' ∧ Sl w.heap.size 3 1 w' v' n cs ∧ Fr (fun _ => False) w w' := by
  have HS := Lib.hid hS
  have HO := Lib.hid hone
  have FA := Lib.hid (Fr.refl (fun _ => False) w)
  have qn : ∀ (w : World) (a : Option Addr) (n c n' c' : Nat), (binOp .eql 37 (.slice a n c) (.slice none n' c')).run Try.prog w = .ok (.bool a.isNone) w := fun w a n c n' c' => Lib.run_eql_slice_nil w _ _ a n c n' c' Try.underlying37
  obtain ⟨A, cap, hv, _, _⟩ := hS.form
  subst hv
  rcases hS.2 with ⟨hv, hn0⟩ | ⟨g, off, cap', cur, hv, _⟩
  · injection hv with h1 h2 h3
    subst h1; subst h2; subst h3
    have hcs : cs = [] := List.eq_nil_of_length_eq_zero (by have := hS.1; omega)
    subst hcs
    clear hS hone
    go_enter Try.func40, Try.ntmps40
    go_wp2_with fail
    go_ret
    exact ⟨_, rfl, Sl.nil _ _ _ _, FA.out⟩
  · injection hv with h1 h2 h3
    subst h1; subst h3
    clear hS hone
    go_enter Try.func40, Try.ntmps40
    go_upto_region 3 with (fail)
    clear qn
    have S0 := Lib.hid (Sl.made (base := w.heap.size) w [] 3 1 0 rfl (by simp) (Nat.le_refl _))
    have F0 := Lib.hid (FA.out.alloc (.cells #[] 3))
    have SR := Lib.hid (HS.out.fr0 F0.out)
    iterate 40 (first
      | (have := MK1; clear this)
      | (refine wpList_append_sl rfl _ _ rfl st37 (.slice (some ⟨w.heap.size, 0, none⟩) 0 0) 0 [] rfl S0.out _ n cs rfl (SR.out.src st37.under HO.out) (by simp only [maxLen]; omega) (by omega) (by simp) ?_; rintro v' w1 h1 h2 h3 h4; have S1 := Lib.hid h1; have G1 := Lib.hid h2; have B1 := Lib.hid h3; clear h1 h2 h3 h4; have MK1 := Lib.hid True.intro)
      | go_step)
    go_wp2_with fail
    go_ret
    refine ⟨_, rfl, ?_, ?_⟩
    · have h := S1.out
      rw [Nat.zero_add, List.nil_append] at h
      exact h
    · exact F0.out.grown G1.out (fun k hk hl => by simp [Value.ownBlock] at hk; omega)
set_option maxHeartbeats 4000000 in
set_option maxRecDepth 100000 in
theorem clone65 (N n : Nat) (v : Value) (cs : List Value) (w : World) (hS : Sl N 93 1 w v n cs) (hone : ∀ u ∈ cs, u.oneCell' = true) (hn : n * 8 ≤ 140737488355328) :
    Calls Try.prog 65 #[v] w fun e w' => ∃ v', e = .returned v' ∧ Sl w.heap.size 93 1 w' v' n cs ∧ Fr (fun _ => False) w w' := by
  have HS := Lib.hid hS
  have HO := Lib.hid hone
  have FA := Lib.hid (Fr.refl (fun _ => False) w)
  have qn : ∀ (w : World) (a : Option Addr) (n c n' c' : Nat), (binOp .eql 90 (.slice a n c) (.slice none n' c')).run Try.prog w = .ok (.bool a.isNone) w := fun w a n c n' c' => Lib.run_eql_slice_nil w _ _ a n c n' c' Try.underlying90
  obtain ⟨A, cap, hv, _, _⟩ := hS.form
  subst hv
  rcases hS.2 with ⟨hv, hn0⟩ | ⟨g, off, cap', cur, hv, _⟩
  · injection hv with h1 h2 h3
    subst h1; subst h2; subst h3
    have hcs : cs = [] := List.eq_nil_of_length_eq_zero (by have := hS.1; omega)
    subst hcs
    clear hS hone
    go_enter Try.func65, Try.ntmps65
    go_wp2_with fail
    go_ret
    exact ⟨_, rfl, Sl.nil _ _ _ _, FA.out⟩
  · injection hv with h1 h2 h3
    subst h1; subst h3
    clear hS hone
    go_enter Try.func65, Try.ntmps65
    go_upto_region 3 with (fail)
    clear qn
    have S0 := Lib.hid (Sl.made (base := w.heap.size) w [] 93 1 0 rfl (by simp) (Nat.le_refl _))
    have F0 := Lib.hid (FA.out.alloc (.cells #[] 93))
    have SR := Lib.hid (HS.out.fr0 F0.out)
    iterate 40 (first
      | (have := MK1; clear this)
      | (refine wpList_append_sl rfl _ _ rfl st90 (.slice (some ⟨w.heap.size, 0, none⟩) 0 0) 0 [] rfl S0.out _ n cs rfl (SR.out.src st90.under HO.out) (by simp only [maxLen]; omega) (by omega) (by simp) ?_; rintro v' w1 h1 h2 h3 h4; have S1 := Lib.hid h1; have G1 := Lib.hid h2; have B1 := Lib.hid h3; clear h1 h2 h3 h4; have MK1 := Lib.hid True.intro)
      | go_step)
    go_wp2_with fail
    go_ret
    refine ⟨_, rfl, ?_, ?_⟩
    · have h := S1.out
      rw [Nat.zero_add, List.nil_append] at h
      exact h
    · exact F0.out.grown G1.out (fun k hk hl => by simp [Value.ownBlock] at hk; omega)
theorem results_cell14 (tmps : Array Value) (w : World) (b : Nat) (v : Value) (hp : tmps.getD 2 undef = .pointer (some ⟨b, 0, none⟩)) (hl : (loadVar 29 ⟨b, 0, none⟩).run Try.prog w = .ok v w) :
    (results Try.f14 tmps).run Try.prog w = .ok v w := by
  have ha : (asAddr (.pointer (some ⟨b, 0, none⟩))).run Try.prog w = .ok ⟨b, 0, none⟩ w := by rfl
  rw [Array.getD_eq_getD_getElem?] at *
  simp [results, Try.results14, hp, hl, ha, Sem.run_bind]
theorem results_cell41 (tmps : Array Value) (w : World) (b : Nat) (v : Value) (hp : tmps.getD 4 undef = .pointer (some ⟨b, 0, none⟩)) (hl : (loadVar 33 ⟨b, 0, none⟩).run Try.prog w = .ok v w) :
    (results Try.f41 tmps).run Try.prog w = .ok v w := by
  have ha : (asAddr (.pointer (some ⟨b, 0, none⟩))).run Try.prog w = .ok ⟨b, 0, none⟩ w := by rfl
  rw [Array.getD_eq_getD_getElem?] at *
  simp [results, Try.results41, hp, hl, ha, Sem.run_bind]
theorem results_cell38 (tmps : Array Value) (w : World) (b : Nat) (v : Value) (hp : tmps.getD 4 undef = .pointer (some ⟨b, 0, none⟩)) (hl : (loadVar 93 ⟨b, 0, none⟩).run Try.prog w = .ok v w) :
    (results Try.f38 tmps).run Try.prog w = .ok v w := by
  have ha : (asAddr (.pointer (some ⟨b, 0, none⟩))).run Try.prog w = .ok ⟨b, 0, none⟩ w := by rfl
  rw [Array.getD_eq_getD_getElem?] at *
  simp [results, Try.results38, hp, hl, ha, Sem.run_bind]
theorem results_cell39 (tmps : Array Value) (w : World) (b : Nat) (v : Value) (hp : tmps.getD 8 undef = .pointer (some ⟨b, 0, none⟩)) (hl : (loadVar 27 ⟨b, 0, none⟩).run Try.prog w = .ok v w) :
    (results Try.f39 tmps).run Try.prog w = .ok (.tuple #[v, tmps.getD 9 undef, tmps.getD 10 undef, tmps.getD 11 undef]) w := by
  have ha : (asAddr (.pointer (some ⟨b, 0, none⟩))).run Try.prog w = .ok ⟨b, 0, none⟩ w := by rfl
  rw [Array.getD_eq_getD_getElem?] at *
  simp [results, Try.results39, hp, hl, ha, Sem.run_bind]
theorem results_cell16 (tmps : Array Value) (w : World) (b : Nat) (v : Value) (hp : tmps.getD 8 undef = .pointer (some ⟨b, 0, none⟩)) (hl : (loadVar 27 ⟨b, 0, none⟩).run Try.prog w = .ok v w) :
    (results Try.f16 tmps).run Try.prog w = .ok (.tuple #[v, tmps.getD 9 undef, tmps.getD 10 undef, tmps.getD 11 undef]) w := by
  have ha : (asAddr (.pointer (some ⟨b, 0, none⟩))).run Try.prog w = .ok ⟨b, 0, none⟩ w := by rfl
  rw [Array.getD_eq_getD_getElem?] at *
  simp [results, Try.results16, hp, hl, ha, Sem.run_bind]
theorem results_cell15 (tmps : Array Value) (w : World) (b : Nat) (v : Value) (hp : tmps.getD 8 undef = .pointer (some ⟨b, 0, none⟩)) (hl : (loadVar 27 ⟨b, 0, none⟩).run Try.prog w = .ok v w) :
    (results Try.f15 tmps).run Try.prog w = .ok (.tuple #[tmps.getD 6 undef, tmps.getD 7 undef, v]) w := by
  have ha : (asAddr (.pointer (some ⟨b, 0, none⟩))).run Try.prog w = .ok ⟨b, 0, none⟩ w := by rfl
  rw [Array.getD_eq_getD_getElem?] at *
  simp [results, Try.results15, hp, hl, ha, Sem.run_bind]
set_option maxRecDepth 100000 in
theorem ip14 (n : Int) (w : World) : Calls Try.prog 14 #[.int .u8 n] w fun e w' => e = .returned (.agg #[.int .u8 10, .int .u8 0, .int .u8 0, .int .u8 n]) ∧ Fr (fun _ => False) w w' := by
  have FA := Lib.hid (Fr.refl (fun _ => False) w)
  have RS := Lib.hid (fun (w' : World) (b : Nat) (h : w'.heap[b]? = some (.cells #[.int .u8 10, .int .u8 0, .int .u8 0, .int .u8 n] 29)) (tmps : Array Value) hp => results_cell14 tmps w' b _ hp (run_loadVar_mid w' b 0 29 [.int .u8 10, .int .u8 0, .int .u8 0, .int .u8 n] _ (range_at w' b _ 29 h) Try.underlying29 rfl (by kernel_rfl)))
  have B1 := Lib.hid (heap_alloc_new w (.cells #[.int .u8 10, .int .u8 0, .int .u8 0, .int .u8 n] 29))
  go_enter Try.func14, Try.ntmps14
  go_wp2_with fail
  exact bodyPost_ret (RS.out _ _ B1.out _ rfl) rfl ⟨rfl, FA.out.alloc _⟩
set_option maxHeartbeats 4000000 in
set_option maxRecDepth 100000 in
theorem new13 (mac : M6) (ip : I4) (hm : mac.ok) (hi : ip.ok) (w : World) : Calls Try.prog 13 #[.agg #[.int .u8 mac.a, .int .u8 mac.b, .int .u8 mac.c, .int .u8 mac.d, .int .u8 mac.e, .int .u8 mac.f], .agg #[.int .u8 ip.a, .int .u8 ip.b, .int .u8 ip.c, .int .u8 ip.d]] w fun e w' => ∃ g, e = .returned (.pointer (some ⟨g, 0, none⟩)) ∧ CAt w.heap.size w' g mac ip [] (.slice none 0 0) ∧ Fr (fun _ => False) w w' := by
  have FA := Lib.hid (Fr.refl (fun _ => False) w)
  have HO := Lib.hid (And.intro hm hi)
  clear hm hi
  go_enter Try.func13, Try.ntmps13
  go_wp2_with fail
  go_ret
  refine ⟨_, rfl, ?_, ((FA.out.alloc _).alloc _).alloc _⟩
  refine ⟨?_, Sl.nil _ _ _ _, (fun e he => by cases he), List.Pairwise.nil, List.Pairwise.nil, List.Pairwise.nil, by omega, by decide, HO.out.1, HO.out.2⟩
  have h := heap_alloc_new ((w.alloc (.cells #[.int .u8 mac.a, .int .u8 mac.b, .int .u8 mac.c, .int .u8 mac.d, .int .u8 mac.e, .int .u8 mac.f] 27)).alloc (.cells #[.int .u8 ip.a, .int .u8 ip.b, .int .u8 ip.c, .int .u8 ip.d] 29)) (.cells (cCells mac ip (.slice none 0 0)).toArray 92)
  simpa [cCells] using h
/-- The cache's cells for whoever reads: at any world that keeps its block. -/
theorem CAt.macR {N : Nat} {w w' : World} {g : Nat} {mac : M6} {ip : I4} {L : List En} {lv : Value} (h : CAt N w g mac ip L lv) (f : Fr (fun _ => False) w w') : w'.rangeAt g 0 [.int .u8 mac.a, .int .u8 mac.b, .int .u8 mac.c, .int .u8 mac.d, .int .u8 mac.e, .int .u8 mac.f] := by
  have := range_part (range_at w' g _ 92 (h.fr f).blk) 0 6
  exact this
theorem CAt.ipR {N : Nat} {w w' : World} {g : Nat} {mac : M6} {ip : I4} {L : List En} {lv : Value} (h : CAt N w g mac ip L lv) (f : Fr (fun _ => False) w w') : w'.rangeAt g 6 [.int .u8 ip.a, .int .u8 ip.b, .int .u8 ip.c, .int .u8 ip.d] := by
  have := range_part (range_at w' g _ 92 (h.fr f).blk) 6 4
  exact this
theorem bd33 : BdTy Try.prog 33 #[(0, 1), (1, 6), (7, 4), (11, 6), (17, 4)] (.agg #[.bool false, .int .u8 0, .int .u8 0, .int .u8 0, .int .u8 0, .int .u8 0, .int .u8 0, .int .u8 0, .int .u8 0, .int .u8 0, .int .u8 0, .int .u8 0, .int .u8 0, .int .u8 0, .int .u8 0, .int .u8 0, .int .u8 0, .int .u8 0, .int .u8 0, .int .u8 0, .int .u8 0]) := ⟨⟨_, Try.underlying33, fun w => by kernel_rfl⟩, fun w => by kernel_rfl⟩
def rqCells (mac : M6) (ip q : I4) : List Value := [.bool false, .int .u8 mac.a, .int .u8 mac.b, .int .u8 mac.c, .int .u8 mac.d, .int .u8 mac.e, .int .u8 mac.f, .int .u8 ip.a, .int .u8 ip.b, .int .u8 ip.c, .int .u8 ip.d, .int .u8 0, .int .u8 0, .int .u8 0, .int .u8 0, .int .u8 0, .int .u8 0, .int .u8 q.a, .int .u8 q.b, .int .u8 q.c, .int .u8 q.d]
def rqZero : List Value := [.bool false, .int .u8 0, .int .u8 0, .int .u8 0, .int .u8 0, .int .u8 0, .int .u8 0, .int .u8 0, .int .u8 0, .int .u8 0, .int .u8 0, .int .u8 0, .int .u8 0, .int .u8 0, .int .u8 0, .int .u8 0, .int .u8 0, .int .u8 0, .int .u8 0, .int .u8 0, .int .u8 0]
set_option maxHeartbeats 4000000 in
set_option maxRecDepth 100000 in
theorem request41 {N : Nat} {g : Nat} {mac : M6} {ip : I4} {L : List En} {lv : Value} (q : I4) (w : World) (hC : CAt N w g mac ip L lv) :
    Calls Try.prog 41 #[.pointer (some ⟨g, 0, none⟩), .agg #[.int .u8 q.a, .int .u8 q.b, .int .u8 q.c, .int .u8 q.d]] w fun e w' => e = .returned (.agg (rqCells mac ip q).toArray) ∧ Fr (fun _ => False) w w' := by
  have FA := Lib.hid (Fr.refl (fun _ => False) w)
  have HC := Lib.hid hC
  clear hC
  go_enter Try.func41, Try.ntmps41
  go_upto_region 1 with (fail)
  have BQ := Lib.hid (show ((w.alloc (.cells #[.int .u8 q.a, .int .u8 q.b, .int .u8 q.c, .int .u8 q.d] 29)).alloc (.cells (rqZero).toArray 33)).heap[w.heap.size]? = some (.cells #[.int .u8 q.a, .int .u8 q.b, .int .u8 q.c, .int .u8 q.d] 29) from by
    rw [Below.heap_alloc _ _ _ (by simp)]; exact heap_alloc_new w _)
  have BO := Lib.hid (show ((w.alloc (.cells #[.int .u8 q.a, .int .u8 q.b, .int .u8 q.c, .int .u8 q.d] 29)).alloc (.cells (rqZero).toArray 33)).heap[w.heap.size + 1]? = some (.cells (rqZero).toArray 33) from by
    have := heap_alloc_new (w.alloc (.cells #[.int .u8 q.a, .int .u8 q.b, .int .u8 q.c, .int .u8 q.d] 29)) (.cells (rqZero).toArray 33)
    simpa using this)
  have F2 := Lib.hid ((FA.out.alloc (.cells #[.int .u8 q.a, .int .u8 q.b, .int .u8 q.c, .int .u8 q.d] 29)).alloc (.cells (rqZero).toArray 33))
  change Code.wp Try.prog _ _ _ ((w.alloc (.cells #[.int .u8 q.a, .int .u8 q.b, .int .u8 q.c, .int .u8 q.d] 29)).alloc (.cells (rqZero).toArray 33))
  generalize (w.alloc (.cells #[.int .u8 q.a, .int .u8 q.b, .int .u8 q.c, .int .u8 q.d] 29)).alloc (.cells (rqZero).toArray 33) = w2 at BQ BO F2 ⊢
  obtain ⟨bo, hbo⟩ : ∃ k, w.heap.size + 1 = k := ⟨_, rfl⟩
  have HB := Lib.hid (show w.heap.size ≤ bo by omega)
  rw [hbo] at BO ⊢
  clear hbo
  obtain ⟨bq, hbq⟩ : ∃ k, w.heap.size = k := ⟨_, rfl⟩
  rw [hbq] at BQ ⊢
  have HBO := Lib.hid (show w.heap.size ≤ bo from by rw [hbq]; rw [hbq] at HB; exact HB.out)
  clear hbq HB
  have D := Lib.hid (F2.out.then' (Fr.refl _ w2).drew)
  have RM := Lib.hid (HC.out.macR D.out)
  have RI := Lib.hid (HC.out.ipR D.out)
  have RQ := Lib.hid (range_at w2.drew bq [.int .u8 q.a, .int .u8 q.b, .int .u8 q.c, .int .u8 q.d] 29 (((Fr.refl (fun _ => False) w2).drew.block bq (lt_of_block BQ.out) (fun e => e)).trans BQ.out))
  have TH := Lib.hid (there_at w2.drew bo rqZero 33 (((Fr.refl (fun _ => False) w2).drew.block bo (lt_of_block BO.out) (fun e => e)).trans BO.out))
  have FS := Lib.hid (Fr.setCells (S := fun _ => False) (a := w) bo (fun h => absurd h (by have := HBO.out; omega)) (rqCells mac ip q) 0 w2.drew D.out)
  have RS := Lib.hid (fun (tmps : Array Value) hp => results_cell41 tmps (w2.drew.setCells bo 0 (rqCells mac ip q)) bo _ hp (run_loadVar_mid _ bo 0 33 (rqCells mac ip q) _ (World.rangeAt_setCells_same w2.drew bo 0 (rqCells mac ip q) TH.out) Try.underlying33 rfl (by kernel_rfl)))
  refine kr_start [(3, fun W => W.rangeAt g 0 [.int .u8 mac.a, .int .u8 mac.b, .int .u8 mac.c, .int .u8 mac.d, .int .u8 mac.e, .int .u8 mac.f]), (7, fun W => W.rangeAt g 6 [.int .u8 ip.a, .int .u8 ip.b, .int .u8 ip.c, .int .u8 ip.d]), (8, fun W => W.rangeAt bq 0 [.int .u8 q.a, .int .u8 q.b, .int .u8 q.c, .int .u8 q.d])] (by kernel_rfl) (by kernel_rfl) ?_
  refine kr_find 0 rfl (by kernel_rfl) (by kernel_rfl) (by kernel_rfl) (fun _ _ _ _ h => h) (by rfl) trivial ?_
  apply Exists.intro; apply And.intro
  · intro w' hS K hK
    clear hS
    go_light
    go_simp
    exact hK.out
  try simp only [Act.put, List.getElem_toArray, List.getElem_cons_zero, List.getElem_cons_succ, List.setIfInBounds_toArray, List.set_cons_zero, List.set_cons_succ]
  refine kr_find 1 rfl (by kernel_rfl) (by kernel_rfl) (by kernel_rfl) (fun _ _ _ _ h => h) (by rfl) trivial ?_
  apply Exists.intro; apply And.intro
  · intro w' hS K hK
    clear hS
    go_light
    go_simp
    exact hK.out
  try simp only [Act.put, List.getElem_toArray, List.getElem_cons_zero, List.getElem_cons_succ, List.setIfInBounds_toArray, List.set_cons_zero, List.set_cons_succ]
  refine kr_find 2 rfl (by kernel_rfl) (by kernel_rfl) (by kernel_rfl) (fun _ _ _ _ h => h) (by rfl) trivial ?_
  apply Exists.intro; apply And.intro
  · intro w' hS K hK
    clear hS
    go_light
    go_simp
    exact hK.out
  try simp only [Act.put, List.getElem_toArray, List.getElem_cons_zero, List.getElem_cons_succ, List.setIfInBounds_toArray, List.set_cons_zero, List.set_cons_succ]
  refine kr_take 3 rfl (by kernel_rfl) (by kernel_rfl) (by kernel_rfl) (fun _ _ _ h => h) (yieldsIf_load_mid (by rfl) 27 _ rfl (g) (0) rfl ([.int .u8 mac.a, .int .u8 mac.b, .int .u8 mac.c, .int .u8 mac.d, .int .u8 mac.e, .int .u8 mac.f]) _ (fun _ h => h) Try.underlying27 rfl (by kernel_rfl)) (show _ from RM.out) ?_
  try simp only [Act.put, List.getElem_toArray, List.getElem_cons_zero, List.getElem_cons_succ, List.setIfInBounds_toArray, List.set_cons_zero, List.set_cons_succ]
  refine kr_find 4 rfl (by kernel_rfl) (by kernel_rfl) (by kernel_rfl) (fun _ _ _ _ h => h) (by rfl) trivial ?_
  apply Exists.intro; apply And.intro
  · intro w' hS K hK
    clear hS
    go_light
    go_simp
    exact hK.out
  try simp only [Act.put, List.getElem_toArray, List.getElem_cons_zero, List.getElem_cons_succ, List.setIfInBounds_toArray, List.set_cons_zero, List.set_cons_succ]
  refine kr_find 5 rfl (by kernel_rfl) (by kernel_rfl) (by kernel_rfl) (fun _ _ _ _ h => h) (by rfl) trivial ?_
  apply Exists.intro; apply And.intro
  · intro w' hS K hK
    clear hS
    go_light
    go_simp
    exact hK.out
  try simp only [Act.put, List.getElem_toArray, List.getElem_cons_zero, List.getElem_cons_succ, List.setIfInBounds_toArray, List.set_cons_zero, List.set_cons_succ]
  refine kr_find 6 rfl (by kernel_rfl) (by kernel_rfl) (by kernel_rfl) (fun _ _ _ _ h => h) (by rfl) trivial ?_
  apply Exists.intro; apply And.intro
  · intro w' hS K hK
    clear hS
    go_light
    go_simp
    exact hK.out
  try simp only [Act.put, List.getElem_toArray, List.getElem_cons_zero, List.getElem_cons_succ, List.setIfInBounds_toArray, List.set_cons_zero, List.set_cons_succ]
  refine kr_take 7 rfl (by kernel_rfl) (by kernel_rfl) (by kernel_rfl) (fun _ _ _ h => h) (yieldsIf_load_mid (by rfl) 29 _ rfl (g) (6) rfl ([.int .u8 ip.a, .int .u8 ip.b, .int .u8 ip.c, .int .u8 ip.d]) _ (fun _ h => h) Try.underlying29 rfl (by kernel_rfl)) (show _ from RI.out) ?_
  try simp only [Act.put, List.getElem_toArray, List.getElem_cons_zero, List.getElem_cons_succ, List.setIfInBounds_toArray, List.set_cons_zero, List.set_cons_succ]
  refine kr_take 8 rfl (by kernel_rfl) (by kernel_rfl) (by kernel_rfl) (fun _ _ _ h => h) (yieldsIf_load_mid (by rfl) 29 _ rfl (bq) (0) rfl ([.int .u8 q.a, .int .u8 q.b, .int .u8 q.c, .int .u8 q.d]) _ (fun _ h => h) Try.underlying29 rfl (by kernel_rfl)) (show _ from RQ.out) ?_
  try simp only [Act.put, List.getElem_toArray, List.getElem_cons_zero, List.getElem_cons_succ, List.setIfInBounds_toArray, List.set_cons_zero, List.set_cons_succ]
  refine kr_take 9 rfl (by kernel_rfl) (by kernel_rfl) (by kernel_rfl) (fun _ _ _ h => h) (kr_build bd33 rfl rfl [(1, .agg #[.int .u8 mac.a, .int .u8 mac.b, .int .u8 mac.c, .int .u8 mac.d, .int .u8 mac.e, .int .u8 mac.f]), (2, .agg #[.int .u8 ip.a, .int .u8 ip.b, .int .u8 ip.c, .int .u8 ip.d]), (4, .agg #[.int .u8 q.a, .int .u8 q.b, .int .u8 q.c, .int .u8 q.d])] (by rfl) (rqCells mac ip q).toArray (by kernel_rfl)) trivial ?_
  try simp only [Act.put, List.getElem_toArray, List.getElem_cons_zero, List.getElem_cons_succ, List.setIfInBounds_toArray, List.set_cons_zero, List.set_cons_succ]
  refine kr_one 10 (by kernel_rfl) rfl (by rfl) (fun K hK => ?_)
  refine wp_store_mid 33 _ _ rfl bo 0 (rqCells mac ip q).toArray rfl rfl TH.out (by kernel_rfl) (by simp [rqCells, Value.oneCell']) ?_
  refine hK.out _ _ ⟨.inl (by kernel_rfl), .inl (by kernel_rfl), .inl (by kernel_rfl), trivial⟩ ?_
  clear hK K
  try simp only [Act.put, List.getElem_toArray, List.getElem_cons_zero, List.getElem_cons_succ, List.setIfInBounds_toArray, List.set_cons_zero, List.set_cons_succ]
  refine kr_done (by kernel_rfl) ?_ _
  go_wp2_with fail
  exact bodyPost_ret (RS.out _ rfl) rfl ⟨rfl, FS.out⟩
end Go.Proofs.Ytfnphkijalkllaa
