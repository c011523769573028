/- Law 8: Find, of one who is being asked for. No condition but lengths. -/
import Derived.Test.YtfnphkijalkllaaArH
namespace Go.Proofs.Ytfnphkijalkllaa
set_option linter.unusedVariables false
set_option linter.unusedSimpArgs false
open Go.RowKit
def waitNb (nb : Nb) (buf : Int) : Nb := { nb with pend := if 2 ≤ nb.pend.length then (nb.pend ++ [buf]).drop 1 else nb.pend ++ [buf] }
def goneW (nb : Nb) : List Int := if 2 ≤ nb.pend.length then nb.pend.take 1 else []
theorem waitNb_ok {nb : Nb} (h : nb.ok) (buf : Int) : (waitNb nb buf).ok := by
  refine ⟨h.ip, h.st, h.mac, h.since, h.asked, h.tries, ?_⟩
  have := h.pend
  unfold waitNb
  simp only
  split
  · rw [List.length_drop, List.length_append]; simp; omega
  · rw [List.length_append]; simp; omega
def FwPost (N g : Nat) (mac : M6) (ip : I4) (L : List En) (lv : Value) (i : Nat) (e : En) (buf : Int) (w : World) (en : Ending) (w' : World) : Prop :=
  ∃ v9 pv', en = .returned (.tuple #[.agg M6.zero.cells.toArray, v9, .slice none 0 0, .int .i64 80]) ∧ CAt N w' g mac ip (L.set i ⟨e.p, pv', waitNb e.nb buf⟩) lv ∧
    (∀ k, pv'.ownBlock = some k → (e.pv.ownBlock = some k ∨ w.heap.size ≤ k) ∧ v9.ownBlock ≠ some k) ∧ Sl w.heap.size 3 1 w' v9 (goneW e.nb).length (il (goneW e.nb)) ∧ Fr (fun b => b = e.p ∨ e.pv.ownBlock = some b) w w'
theorem src37 {w : World} {b : Nat} {x : Int} (h : w.heap[b]? = some (.cells #[.int .i64 x] 3)) : Src Try.prog 1 37 (.slice (some ⟨b, 0, none⟩) 1 1) 1 [.int .i64 x] w :=
  Src.ofSlice (w := w) Try.underlying37 ⟨b, 0, none⟩ 1 1 _ rfl (fun j u hj => by rw [Addr.add_mid]; exact range_at w b [.int .i64 x] 3 h j u hj) (by simp [Value.oneCell'])
set_option maxRecDepth 100000 in
set_option maxHeartbeats 8000000 in
theorem find16_wait {N g : Nat} {mac : M6} {ip : I4} {L : List En} {lv : Value} {i : Nat} {e : En} (q : I4) (buf now : Int) (w : World) (hq : q.ok) (hC : CAt N w g mac ip L lv) (hf : fpt L q = some e) (hi : L[i]? = some e) (hst : e.nb.st = 1) (hN : N ≤ w.heap.size) :
    Calls Try.prog 16 #[.pointer (some ⟨g, 0, none⟩), .agg #[.int .u8 q.a, .int .u8 q.b, .int .u8 q.c, .int .u8 q.d], .int .i64 buf, .int .i64 now] w (FwPost N g mac ip L lv i e buf w) := by
  have FA := Lib.hid (Fr.refl (fun _ => False) w)
  have HC := Lib.hid hC
  have HQ := Lib.hid hq
  have HI := Lib.hid hi
  have HNW := Lib.hid hN
  have HV := Lib.hid (show fptV L q = .pointer (some ⟨e.p, 0, none⟩) from by unfold fptV; rw [hf])
  have HEO := Lib.hid (hC.ent e (List.mem_of_getElem? hi)).ok
  have HST := Lib.hid hst
  clear hC hq hf hi hN hst
  go_enter Try.func16, Try.ntmps16
  go_upto_region 1 with (fail)
  obtain ⟨hbq, hbm, hf2, hs2⟩ := two_new w #[.int .u8 q.a, .int .u8 q.b, .int .u8 q.c, .int .u8 q.d] 29 #[.int .u8 0, .int .u8 0, .int .u8 0, .int .u8 0, .int .u8 0, .int .u8 0] 27
  generalize (w.alloc (.cells #[.int .u8 q.a, .int .u8 q.b, .int .u8 q.c, .int .u8 q.d] 29)).alloc (.cells #[.int .u8 0, .int .u8 0, .int .u8 0, .int .u8 0, .int .u8 0, .int .u8 0] 27) = w2 at hbq hbm hf2 hs2 ⊢
  obtain ⟨bm, ebm⟩ : ∃ k, w.heap.size + 1 = k := ⟨_, rfl⟩
  obtain ⟨bq, ebq⟩ : ∃ k, w.heap.size = k := ⟨_, rfl⟩
  rw [ebm] at hbm ⊢
  rw [ebq] at hbq ⊢
  have BQ := Lib.hid hbq
  have BM := Lib.hid hbm
  have F2 := Lib.hid hf2
  have HS2 := Lib.hid (show bq = w.heap.size ∧ bm = w.heap.size + 1 ∧ w2.heap.size = w.heap.size + 2 from by omega)
  clear hbq hbm hf2 hs2 ebm ebq
  have RQ := Lib.hid (range_at w2 bq [.int .u8 q.a, .int .u8 q.b, .int .u8 q.c, .int .u8 q.d] 29 BQ.out)
  iterate 60 (first
    | (have := MK1; clear this)
    | (refine wpList_load_mid rfl 29 _ rfl bq 0 rfl [.int .u8 q.a, .int .u8 q.b, .int .u8 q.c, .int .u8 q.d] _ RQ.out Try.underlying29 rfl (by kernel_rfl) ?_)
    | (go_at_call 38; refine (find38 q HQ.out w2 (HC.out.fr F2.out)).mono ?_; rw [HV.out]; rintro e w3 ⟨rfl, hf⟩; have F3 := Lib.hid hf; clear hf; dsimp only; have MK1 := Lib.hid True.intro)
    | go_step)
  have F23 := Lib.hid (F2.out.then' F3.out)
  have HC3 := Lib.hid (HC.out.fr F23.out)
  have BQ3 := Lib.hid ((F3.out.block bq (lt_of_block BQ.out) (fun e => e)).trans BQ.out)
  have BM3 := Lib.hid ((F3.out.block bm (lt_of_block BM.out) (fun e => e)).trans BM.out)
  have RQ3 := Lib.hid (range_at w3 bq [.int .u8 q.a, .int .u8 q.b, .int .u8 q.c, .int .u8 q.d] 29 BQ3.out)
  have HLT := Lib.hid (fun (k : Nat) (h : Own g lv L k) => (HC.out.lt h).2)
  have HE3 := Lib.hid (HC3.out.ent e (List.mem_of_getElem? HI.out))
  have c4 := HE3.out.cell (j := 4) rfl
  rw [HST.out] at c4
  obtain ⟨l, hl⟩ : ∃ l, e.nb.pend = l := ⟨_, rfl⟩
  have HLP := Lib.hid hl
  obtain ⟨m, hm⟩ : ∃ m, l.length = m := ⟨_, rfl⟩
  have HM := Lib.hid hm
  have hm2 : m ≤ 2 := by rw [← hm, ← hl]; exact HEO.out.pend
  have SP3 := Lib.hid (show Sl N 3 1 w3 e.pv m (il l) from by have h := HE3.out.sl; rw [hl, hm] at h; exact h)
  clear hl hm
  obtain ⟨A, cap, hpv, hcap, _⟩ := SP3.out.form
  have HPV := Lib.hid hpv
  have c14 : w3.cell? ⟨e.p, 14, none⟩ = some (.slice A m cap) := by have h := HE3.out.cell (j := 14) (v := e.pv) rfl; rw [hpv] at h; exact h
  go_upto_region 5 with (fail)
  clear c4
  obtain ⟨b4, eb4⟩ : ∃ k, w3.heap.size = k := ⟨_, rfl⟩
  obtain ⟨w4, ew4⟩ : ∃ y, w3.alloc (.cells #[.int .i64 buf] 3) = y := ⟨_, rfl⟩
  have H4 := Lib.hid (show w4.heap[b4]? = some (.cells #[.int .i64 buf] 3) ∧ Fr (fun _ => False) w3 w4 ∧ w4.heap.size = b4 + 1 from by have h := one_new w3 #[.int .i64 buf] 3; rw [ew4, eb4] at h; exact h)
  have E4 := Lib.hid (And.intro ew4 eb4)
  have Z4 := Lib.hid (show w.heap.size ≤ b4 from by have h1 := F23.out.size; omega)
  clear ew4 eb4 hpv
  have SP4 := Lib.hid (show Sl N 3 1 w4 (.slice A m cap) m (il l) from by have h := SP3.out.fr0 H4.out.2.1; rw [HPV.out] at h; exact h)
  have HEP := Lib.hid (show ∀ k, e.pv.ownBlock = some k → k < w3.heap.size ∧ k ≠ e.p from fun k hk => ⟨(SP3.out.lt k hk).2, fun e1 => HC3.out.vp (List.mem_of_getElem? HI.out) (List.mem_of_getElem? HI.out) (e1 ▸ hk)⟩)
  iterate 60 (first
    | (have := MK6; clear this)
    | (have := MK5; refine wpList_append_sl (base := N) rfl _ _ rfl st37 (.slice A m cap) m (il l) rfl SP4.out _ 1 [.int .i64 buf] rfl (src37 H4.out.1) (by simp only [maxLen]; omega) (by omega) (by have h1 := HNW.out; have h2 := Z4.out; have h3 := H4.out.2.2; omega) ?_; clear this; rintro v5 w5 hs hg ho hn; obtain ⟨A5, cp5, hv5, _, _⟩ := hs.form; subst hv5; have S5 := Lib.hid hs; have G5 := Lib.hid hg; have O5 := Lib.hid ho; clear hs hg ho hn; have MK6 := Lib.hid True.intro)
    | (have := E4; rw [this.out.1, this.out.2]; clear this; have MK5 := Lib.hid True.intro; clear E4)
    | go_step)
  have SPO := Lib.hid (show e.pv.ownBlock = (Value.slice A m cap).ownBlock from by rw [HPV.out])
  have F35 := Lib.hid (show Fr (fun b => e.pv.ownBlock = some b) w3 w5 from (H4.out.2.1.upto (S := fun b => e.pv.ownBlock = some b)).grown G5.out (fun r e1 _ => by rw [SPO.out]; exact e1))
  have B5 := Lib.hid ((F35.out.block e.p (lt_of_block HE3.out.blk) (fun e1 => (HEP.out e.p e1).2 rfl)).trans HE3.out.blk)
  have c5 := cells_at w5 e.p _ 46 B5.out 14 _ rfl
  have z5 := frozen_of_row w5 e.p 14 _ 46 B5.out
  go_upto_region 6 with (fail)
  clear c5 z5 c14
  have HV5 := Lib.hid (show ∀ k, (Value.slice A5 (m + 1) cp5).ownBlock = some k → (e.pv.ownBlock = some k ∨ w.heap.size ≤ k) ∧ k ≠ e.p from fun k hk => by
    rcases O5.out with h | h
    · have h1 : e.pv.ownBlock = some k := by rw [SPO.out, ← h]; exact hk
      exact ⟨.inl h1, (HEP.out k h1).2⟩
    · rw [h] at hk
      cases hk
      have h2 := lt_of_block HE3.out.blk
      have h3 := H4.out.2.1.size
      have h4 := F23.out.size
      exact ⟨.inr (by omega), by omega⟩)
  have F6 := Lib.hid (show Fr (fun b => b = e.p ∨ e.pv.ownBlock = some b) w3 (w5.setCell ⟨e.p, 14, none⟩ (.slice A5 (m + 1) cp5)) from (F35.out.mono (fun b _ h => .inr h)).setCell _ _ (fun _ => .inl rfl))
  have BE6 := Lib.hid (show (w5.setCell ⟨e.p, 14, none⟩ (.slice A5 (m + 1) cp5)).heap[e.p]? = some (.cells (En.cells ⟨e.p, .slice A5 (m + 1) cp5, e.nb⟩).toArray 46) from by
    rw [heap_setCell_same w5 e.p 14 _ 46 _ B5.out]; rfl)
  have S6 := Lib.hid (S5.out.heap (w' := w5.setCell ⟨e.p, 14, none⟩ (.slice A5 (m + 1) cp5)) (fun k hk => Below.heap_setCell _ _ _ _ (fun e1 => (HV5.out k hk).2 e1)))
  generalize w5.setCell ⟨e.p, 14, none⟩ (.slice A5 (m + 1) cp5) = w6 at F6 BE6 S6 ⊢
  have c6 := cells_at w6 e.p _ 46 BE6.out 14 _ rfl
  have NE := Lib.hid (show ∀ b, w.heap.size ≤ b → ¬ (b = e.p ∨ e.pv.ownBlock = some b) from fun b hb h => by
    rcases h with h | h
    · have h1 := HLT.out e.p (.inr (.inr ⟨e, List.mem_of_getElem? HI.out, .inl rfl⟩)); omega
    · have h1 := HLT.out b (.inr (.inr ⟨e, List.mem_of_getElem? HI.out, .inr h⟩)); omega)
  have BM6 := Lib.hid ((F6.out.block bm (lt_of_block BM3.out) (NE.out bm (by have := HS2.out; omega))).trans BM3.out)
  by_cases h2 : m = 2
  · subst h2
    obtain ⟨x0, x1, hx⟩ : ∃ x0 x1, l = [x0, x1] := by
      have h := HM.out
      match l, h with
      | [x0, x1], _ => exact ⟨x0, x1, rfl⟩
    have HX := Lib.hid (HLP.out.trans hx)
    subst hx
    have S6' := Lib.hid (show Sl N 3 1 w6 (.slice A5 3 cp5) 3 [.int .i64 x0, .int .i64 x1, .int .i64 buf] from S6.out)
    obtain ⟨g5, off5, cp5', hv5, _, _, hcap5, _, hcs, _⟩ := S6'.out.form1 (by omega)
    injection hv5 with e1 _ e2
    subst e1; subst e2
    have c7 : w6.cell? ⟨g5, off5, none⟩ = some (.int .i64 x0) := by simpa using hcs 0 _ rfl
    clear hcs
    have h05 : 0 < cp5 := by omega
    go_upto_region 9 with (fail)
    clear c7
    obtain ⟨b7, eb7⟩ : ∃ k, w6.heap.size = k := ⟨_, rfl⟩
    obtain ⟨w7, ew7⟩ : ∃ y, w6.alloc (.cells #[.int .i64 x0] 3) = y := ⟨_, rfl⟩
    have H7 := Lib.hid (show w7.heap[b7]? = some (.cells #[.int .i64 x0] 3) ∧ Fr (fun _ => False) w6 w7 ∧ w7.heap.size = b7 + 1 from by have h := one_new w6 #[.int .i64 x0] 3; rw [ew7, eb7] at h; exact h)
    have Z7 := Lib.hid (show w.heap.size ≤ b7 from by have h1 := F23.out.size; have h2 := F6.out.size; omega)
    rw [ew7, eb7]
    clear ew7 eb7 c6
    have BE7 := Lib.hid ((H7.out.2.1.block e.p (lt_of_block BE6.out) (fun e => e)).trans BE6.out)
    have c7 := cells_at w7 e.p _ 46 BE7.out 14 _ rfl
    obtain ⟨vs, hrun, hss, hso⟩ := (S6'.out.fr0 H7.out.2.1).from st37 1 (by omega)
    have HRUN := Lib.hid hrun
    have SS := Lib.hid (show Sl N 3 1 w7 vs 2 [.int .i64 x1, .int .i64 buf] from hss)
    clear hrun hss hso
    iterate 60 (first
      | (have := MK9; clear this)
      | (refine wpList_slice rfl _ _ rfl rfl rfl HRUN.out ?_)
      | (go_at_call 40; refine (clone40 N 2 vs _ w7 SS.out (by simp [Value.oneCell']) (by omega)).mono ?_; rintro en w8 ⟨vc, rfl, hs, hf⟩; obtain ⟨A8, cp8, hv8, _, _⟩ := hs.form; subst hv8; have S8 := Lib.hid hs; have F8 := Lib.hid hf; clear hs hf; dsimp only; have MK9 := Lib.hid True.intro)
      | go_step)
    have BE8 := Lib.hid ((F8.out.block e.p (lt_of_block BE7.out) (fun e => e)).trans BE7.out)
    have c8 := cells_at w8 e.p _ 46 BE8.out 14 _ rfl
    have z8 := frozen_of_row w8 e.p 14 _ 46 BE8.out
    clear c7
    go_upto_region 10 with (fail)
    clear c8 z8
    obtain ⟨vc, hvc⟩ : ∃ v, Value.slice A8 2 cp8 = v := ⟨_, rfl⟩
    rw [hvc] at S8 ⊢
    clear hvc
    have HVC := Lib.hid (show ∀ k, vc.ownBlock = some k → w.heap.size ≤ k ∧ k ≠ e.p from fun k hk => by
      have h1 := (S8.out.lt k hk).1
      have h2 := H7.out.2.2
      have h3 := Z7.out
      have h4 := HLT.out e.p (.inr (.inr ⟨e, List.mem_of_getElem? HI.out, .inl rfl⟩))
      omega)
    have F9 := Lib.hid (show Fr (fun b => b = e.p ∨ e.pv.ownBlock = some b) w3 (w8.setCell ⟨e.p, 14, none⟩ vc) from (F6.out.trans (H7.out.2.1.then' F8.out) (fun _ _ h => h.elim)).setCell _ _ (fun _ => .inl rfl))
    have BE9 := Lib.hid (show (w8.setCell ⟨e.p, 14, none⟩ vc).heap[e.p]? = some (.cells (En.cells ⟨e.p, vc, waitNb e.nb buf⟩).toArray 46) from by
      rw [heap_setCell_same w8 e.p 14 _ 46 _ BE8.out]; rfl)
    have S9 := Lib.hid (show Sl N 3 1 (w8.setCell ⟨e.p, 14, none⟩ vc) vc (waitNb e.nb buf).pend.length (il (waitNb e.nb buf).pend) from by
      have h : Sl N 3 1 (w8.setCell ⟨e.p, 14, none⟩ vc) vc 2 [.int .i64 x1, .int .i64 buf] := (S8.out.mono (by have h1 := HNW.out; have h2 := Z7.out; have h3 := H7.out.2.2; omega)).heap (fun k hk => Below.heap_setCell _ _ _ _ (fun e1 => (HVC.out k hk).2 e1))
      have e1 : (waitNb e.nb buf).pend = [x1, buf] := by unfold waitNb; rw [HX.out]; rfl
      rw [e1]; exact h)
    have SG := Lib.hid (show Sl w.heap.size 3 1 (w8.setCell ⟨e.p, 14, none⟩ vc) (.slice (some ⟨b7, 0, none⟩) 1 1) (goneW e.nb).length (il (goneW e.nb)) from by
      have e1 : goneW e.nb = [x0] := by unfold goneW; rw [HX.out]; rfl
      rw [e1]
      have h4 := HLT.out e.p (.inr (.inr ⟨e, List.mem_of_getElem? HI.out, .inl rfl⟩))
      refine ⟨rfl, .inr ⟨b7, 0, 1, #[.int .i64 x0], rfl, Z7.out, ?_, Nat.le_refl _, by simp only [maxLen]; omega, by simp, rfl⟩⟩
      refine (Below.heap_setCell _ _ _ _ (fun e1 => ?_)).trans ((F8.out.block b7 (lt_of_block H7.out.1) (fun e => e)).trans H7.out.1)
      have e1 : b7 = e.p := e1
      have := Z7.out
      omega)
    generalize w8.setCell ⟨e.p, 14, none⟩ vc = w9 at F9 BE9 S9 SG ⊢
    have HE9 := Lib.hid (show EnAt N w9 ⟨e.p, vc, waitNb e.nb buf⟩ from ⟨BE9.out, S9.out, HE3.out.hp, waitNb_ok HEO.out buf⟩)
    have HC9 := Lib.hid (HC3.out.set ⟨e.p, vc, waitNb e.nb buf⟩ HI.out rfl rfl HE9.out (fun k hk => .inr (by have h1 := (HVC.out k hk).1; have h2 := (S8.out.lt k hk).1; have h3 := H7.out.2.1.size; have h4 := F6.out.size; omega)) F9.out)
    have BM9 := Lib.hid ((F9.out.block bm (lt_of_block BM3.out) (NE.out bm (by have := HS2.out; omega))).trans BM3.out)
    have HPVC := Lib.hid (show ∀ k, vc.ownBlock = some k → (e.pv.ownBlock = some k ∨ w.heap.size ≤ k) ∧ (Value.slice (some ⟨b7, 0, none⟩) 1 1).ownBlock ≠ some k from fun k hk => ⟨.inr (HVC.out k hk).1, fun e1 => by
      have h1 := (S8.out.lt k hk).1
      have h2 := H7.out.2.2
      have e2 : b7 = k := Option.some.inj e1
      omega⟩)
    obtain ⟨v9, hv9⟩ : ∃ v, Value.slice (some ⟨b7, 0, none⟩) 1 1 = v := ⟨_, rfl⟩
    rw [hv9] at SG HPVC ⊢
    clear hv9
    have TH9 := Lib.hid (there_at w9 bm M6.zero.cells 27 BM9.out)
    iterate 60 (first
      | (have := MK12; clear this)
      | (refine wpList_store_mid rfl 27 _ _ rfl bm 0 M6.zero.cells.toArray rfl rfl TH9.out (by kernel_rfl) (by kernel_rfl) ?_; have MK12 := Lib.hid True.intro)
      | go_step)
    change wpList Try.prog _ _ _ _ (w9.setCells bm 0 M6.zero.cells)
    have FM := Lib.hid (Fr.setCells (S := fun i => i = bm) bm (fun _ => rfl) M6.zero.cells 0 w9 (Fr.refl _ w9))
    have RS := Lib.hid (fun (tmps : Array Value) hp => results_cell16 tmps (w9.setCells bm 0 M6.zero.cells) bm _ hp (run_loadVar_mid _ bm 0 27 M6.zero.cells _ (World.rangeAt_setCells_same w9 bm 0 M6.zero.cells TH9.out) Try.underlying27 rfl (by kernel_rfl)))
    generalize w9.setCells bm 0 M6.zero.cells = w10 at FM RS ⊢
    go_wp2_with fail
    refine bodyPost_ret (RS.out _ rfl) rfl ⟨v9, vc, rfl, ?_, HPVC.out, ?_, ?_⟩
    · exact HC9.out.frS FM.out (fun i hi e => HC9.out.tag BM9.out (by decide) (by decide) (by decide) (by decide) (e ▸ hi))
    · exact SG.out.fr FM.out (fun k hk e => SG.out.ne BM9.out (by decide) (e ▸ hk))
    · refine Fr.trans (S := fun b => b = e.p ∨ e.pv.ownBlock = some b) (F23.out.upto) (Fr.trans (S := fun b => (b = e.p ∨ e.pv.ownBlock = some b) ∨ b = bm) (F9.out.mono (fun b _ h => .inl h)) FM.out (fun b _ h => .inr h)) (fun b hb h => ?_)
      rcases h with h | h
      · exact h
      · have := HS2.out; have h : b = bm := h; omega
  · have S9 := Lib.hid (show Sl N 3 1 w6 (.slice A5 (m + 1) cp5) (waitNb e.nb buf).pend.length (il (waitNb e.nb buf).pend) from by
      have e1 : (waitNb e.nb buf).pend = l ++ [buf] := by unfold waitNb; rw [HLP.out]; simp only; rw [if_neg (by rw [HM.out]; omega)]
      rw [e1, List.length_append, HM.out]
      have h := S6.out
      rw [show il l ++ [Value.int .i64 buf] = il (l ++ [buf]) from by simp [il]] at h
      exact h)
    have EQN := Lib.hid (show waitNb e.nb buf = { e.nb with pend := (waitNb e.nb buf).pend } from rfl)
    have SG := Lib.hid (show Sl w.heap.size 3 1 w6 (.slice none 0 0) (goneW e.nb).length (il (goneW e.nb)) from by
      have e1 : goneW e.nb = [] := by unfold goneW; rw [HLP.out, if_neg (by rw [HM.out]; omega)]
      rw [e1]; exact Sl.nil _ _ _ _)
    have HE9 := Lib.hid (show EnAt N w6 ⟨e.p, .slice A5 (m + 1) cp5, waitNb e.nb buf⟩ from ⟨BE6.out, S9.out, HE3.out.hp, waitNb_ok HEO.out buf⟩)
    have HC9 := Lib.hid (HC3.out.set ⟨e.p, .slice A5 (m + 1) cp5, waitNb e.nb buf⟩ HI.out rfl rfl HE9.out (fun k hk => by
      rcases O5.out with h | h
      · exact .inl (by rw [SPO.out, ← h]; exact hk)
      · rw [h] at hk
        cases hk
        exact .inr (by have h3 := H4.out.2.1.size; omega)) F6.out)
    have hm3 : ¬ ((m : Int) + 1 > 2) := by omega
    have hm4 : ¬ (2 < (m : Int) + 1) := by omega
    have BM9 := Lib.hid BM6.out
    have F9 := Lib.hid F6.out
    go_upto_region 10 with (fail)
    obtain ⟨vc, hvc⟩ : ∃ v, Value.slice A5 (m + 1) cp5 = v := ⟨_, rfl⟩
    have HPVC0 := Lib.hid (show ∀ k, vc.ownBlock = some k → e.pv.ownBlock = some k ∨ w.heap.size ≤ k from fun k hk => (HV5.out k (by rw [hvc]; exact hk)).1)
    rw [hvc] at HC9
    clear hvc c6
    obtain ⟨w9, hw9⟩ : ∃ y, y = w6 := ⟨_, rfl⟩
    subst hw9
    obtain ⟨v9, hv9⟩ : ∃ v, Value.slice none 0 0 = v := ⟨_, rfl⟩
    rw [hv9] at SG
    have HV9 := Lib.hid hv9
    have HPVC := Lib.hid (show ∀ k, vc.ownBlock = some k → (e.pv.ownBlock = some k ∨ w.heap.size ≤ k) ∧ v9.ownBlock ≠ some k from fun k hk => ⟨HPVC0.out k hk, fun e1 => by rw [← hv9] at e1; cases e1⟩)
    clear hv9
    have TH9 := Lib.hid (there_at w9 bm M6.zero.cells 27 BM9.out)
    iterate 60 (first
      | (have := MK12; clear this)
      | (refine wpList_store_mid rfl 27 _ _ rfl bm 0 M6.zero.cells.toArray rfl rfl TH9.out (by kernel_rfl) (by kernel_rfl) ?_; have MK12 := Lib.hid True.intro)
      | go_step)
    change wpList Try.prog _ _ _ _ (w9.setCells bm 0 M6.zero.cells)
    have FM := Lib.hid (Fr.setCells (S := fun i => i = bm) bm (fun _ => rfl) M6.zero.cells 0 w9 (Fr.refl _ w9))
    have RS := Lib.hid (fun (tmps : Array Value) hp => results_cell16 tmps (w9.setCells bm 0 M6.zero.cells) bm _ hp (run_loadVar_mid _ bm 0 27 M6.zero.cells _ (World.rangeAt_setCells_same w9 bm 0 M6.zero.cells TH9.out) Try.underlying27 rfl (by kernel_rfl)))
    generalize w9.setCells bm 0 M6.zero.cells = w10 at FM RS ⊢
    go_wp2_with fail
    refine bodyPost_ret (RS.out _ rfl) rfl ⟨v9, vc, by rw [← HV9.out]; rfl, ?_, HPVC.out, ?_, ?_⟩
    · exact HC9.out.frS FM.out (fun i hi e => HC9.out.tag BM9.out (by decide) (by decide) (by decide) (by decide) (e ▸ hi))
    · exact SG.out.fr FM.out (fun k hk e => SG.out.ne BM9.out (by decide) (e ▸ hk))
    · refine Fr.trans (S := fun b => b = e.p ∨ e.pv.ownBlock = some b) (F23.out.upto) (Fr.trans (S := fun b => (b = e.p ∨ e.pv.ownBlock = some b) ∨ b = bm) (F9.out.mono (fun b _ h => .inl h)) FM.out (fun b _ h => .inr h)) (fun b hb h => ?_)
      rcases h with h | h
      · exact h
      · have := HS2.out; have h : b = bm := h; omega
end Go.Proofs.Ytfnphkijalkllaa
