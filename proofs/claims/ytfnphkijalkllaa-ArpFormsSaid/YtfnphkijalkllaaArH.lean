/- Law 8: Find. No condition but lengths. -/
import Derived.Test.YtfnphkijalkllaaArG
namespace Go.Proofs.Ytfnphkijalkllaa
set_option linter.unusedVariables false
set_option linter.unusedSimpArgs false
open Go.RowKit
theorem pairwise_set {α : Type} {R : α → α → Prop} {L : List α} {i : Nat} {x : α} (h : L.Pairwise R) (h1 : ∀ (j : Nat) (y : α), j < i → L[j]? = some y → R y x) (h2 : ∀ (j : Nat) (y : α), i < j → L[j]? = some y → R x y) : (L.set i x).Pairwise R := by
  rw [List.pairwise_iff_getElem] at *
  intro a b ha hb hab
  rw [List.length_set] at ha hb
  rw [List.getElem_set, List.getElem_set]
  by_cases ea : i = a
  · subst ea
    rw [if_pos rfl, if_neg (by omega)]
    exact h2 b _ hab (List.getElem?_eq_getElem hb)
  · rw [if_neg ea]
    by_cases eb : i = b
    · subst eb
      rw [if_pos rfl]
      exact h1 a _ hab (List.getElem?_eq_getElem ha)
    · rw [if_neg eb]
      exact h a b ha hb hab
theorem pairwise_at {α : Type} {R : α → α → Prop} {L : List α} (h : L.Pairwise R) {i j : Nat} {x y : α} (hi : L[i]? = some x) (hj : L[j]? = some y) (hij : i < j) : R x y := by
  rw [List.pairwise_iff_getElem] at h
  obtain ⟨h1, rfl⟩ := List.getElem?_eq_some_iff.1 hi
  obtain ⟨h2, rfl⟩ := List.getElem?_eq_some_iff.1 hj
  exact h i j h1 h2 hij
theorem CAt.set {N : Nat} {w w' : World} {g : Nat} {mac : M6} {ip : I4} {L : List En} {lv : Value} (h : CAt N w g mac ip L lv) {i : Nat} {e : En} (e' : En) (hi : L[i]? = some e) (hp : e'.p = e.p) (hip : e'.nb.ip = e.nb.ip) (he' : EnAt N w' e')
    (hv : ∀ k, e'.pv.ownBlock = some k → e.pv.ownBlock = some k ∨ w.heap.size ≤ k) (hS : Fr (fun b => b = e.p ∨ e.pv.ownBlock = some b) w w') : CAt N w' g mac ip (L.set i e') lv := by
  have hem := List.mem_of_getElem? hi
  have hlt : ∀ (j : Nat) (y : En), L[j]? = some y → ∀ k, y.pv.ownBlock = some k → k < w.heap.size := fun j y hj k hk => ((h.ent y (List.mem_of_getElem? hj)).sl.lt k hk).2
  have hvv : ∀ (j : Nat) (y : En), j ≠ i → L[j]? = some y → ∀ k, y.pv.ownBlock = some k → e'.pv.ownBlock ≠ some k := fun j y hji hj k hk e1 => by
    rcases hv k e1 with h1 | h1
    · rcases Nat.lt_or_gt_of_ne hji with h2 | h2
      · exact pairwise_at h.vnd hj hi h2 k hk h1
      · exact pairwise_at h.vnd hi hj h2 k h1 hk
    · have := hlt j y hj k hk; omega
  have hoth : ∀ (j : Nat) (y : En), j ≠ i → L[j]? = some y → EnAt N w' y := fun j y hji hj => by
    have hym := List.mem_of_getElem? hj
    refine (h.ent y hym).heap (hS.block _ (lt_of_block (h.ent y hym).blk) (fun e1 => ?_)) (fun k hk => hS.block k (hlt j y hj k hk) (fun e1 => ?_))
    · rcases e1 with e1 | e1
      · rcases Nat.lt_or_gt_of_ne hji with h2 | h2
        · exact pairwise_at h.pnd hj hi h2 e1
        · exact pairwise_at h.pnd hi hj h2 e1.symm
      · exact h.vp hem hym e1
    · rcases e1 with e1 | e1
      · subst e1; exact h.vp hym hem hk
      · rcases Nat.lt_or_gt_of_ne hji with h2 | h2
        · exact pairwise_at h.vnd hj hi h2 k hk e1
        · exact pairwise_at h.vnd hi hj h2 k e1 hk
  refine ⟨(hS.block g (lt_of_block h.blk) (fun e1 => e1.elim (fun e1 => h.pne hem e1.symm) (fun e1 => h.vg hem e1))).trans h.blk, ?_, fun y hy => ?_, ?_, ?_, ?_, h.hg, by rw [List.length_set]; exact h.len, h.mok, h.iok⟩
  · have e1 : pts (L.set i e') = pts L := by
      unfold pts
      rw [List.map_set, hp]
      apply List.ext_getElem?
      intro j
      rw [List.getElem?_set]
      split
      · rename_i ej
        subst ej
        obtain ⟨h1, h2⟩ := List.getElem?_eq_some_iff.1 hi
        simp [h1, h2]
      · rfl
    rw [e1, List.length_set]
    exact h.sl.heap (fun k hk => hS.block k (h.sl.lt k hk).2 (fun e1 => e1.elim (fun e1 => h.plv hem (e1 ▸ hk)) (fun e1 => h.vlv hem e1 hk)))
  · obtain ⟨j, hj⟩ := List.getElem?_of_mem hy
    rw [List.getElem?_set] at hj
    by_cases ej : i = j
    · subst ej
      rw [if_pos rfl] at hj
      split at hj
      · cases hj; exact he'
      · cases hj
    · rw [if_neg ej] at hj
      exact hoth j y (fun e1 => ej e1.symm) hj
  · exact pairwise_set h.pnd (fun j y hj hy => by rw [hp]; exact pairwise_at h.pnd hy hi hj) (fun j y hj hy => by rw [hp]; exact pairwise_at h.pnd hi hy hj)
  · refine pairwise_set h.vnd (fun j y hj hy k hk => hvv j y (by omega) hy k hk) (fun j y hj hy k hk e1 => hvv j y (by omega) hy k e1 hk)
  · exact pairwise_set h.ipn (fun j y hj hy => by rw [hip]; exact pairwise_at h.ipn hy hi hj) (fun j y hj hy => by rw [hip]; exact pairwise_at h.ipn hi hy hj)
theorem fpt_at {L : List En} {q : I4} {e : En} (h : fpt L q = some e) : ∃ i : Nat, L[i]? = some e ∧ e.nb.ip = q := by
  obtain ⟨h1, h2⟩ := fpt_in h
  obtain ⟨i, hi⟩ := List.getElem?_of_mem h1
  exact ⟨i, hi, h2⟩
set_option maxRecDepth 100000 in
set_option maxHeartbeats 8000000 in
/-- Nobody is known by that address, and there is room. -/
theorem find16_new {N g : Nat} {mac : M6} {ip : I4} {L : List En} {lv : Value} (q : I4) (buf now : Int) (w : World) (hq : q.ok) (hC : CAt N w g mac ip L lv) (hf : fpt L q = none) (hlen : L.length < 8) (hnow : 0 ≤ now ∧ now ≤ 4398046511104) (hN : N ≤ w.heap.size) :
    Calls Try.prog 16 #[.pointer (some ⟨g, 0, none⟩), .agg #[.int .u8 q.a, .int .u8 q.b, .int .u8 q.c, .int .u8 q.d], .int .i64 buf, .int .i64 now] w fun e w' => ∃ v10 p pv lv', e = .returned (.tuple #[.agg M6.zero.cells.toArray, .slice none 0 0, v10, .int .i64 80]) ∧
      CAt N w' g mac ip (L ++ [⟨p, pv, nbNew q now buf⟩]) lv' ∧ w.heap.size ≤ p ∧ (∀ k, pv.ownBlock = some k → w.heap.size ≤ k) ∧ Sl w.heap.size 33 21 w' v10 1 (rqCells mac ip q) ∧ Fr (fun i => i = g ∨ lv.ownBlock = some i) w w' := by
  have FA := Lib.hid (Fr.refl (fun _ => False) w)
  have HC := Lib.hid hC
  have HQ := Lib.hid hq
  have HF := Lib.hid (And.intro hf hlen)
  have HNW := Lib.hid (And.intro hnow hN)
  have HV := Lib.hid (show fptV L q = .pointer none from by unfold fptV; rw [hf])
  clear hC hq hf hlen hnow hN
  go_enter Try.func16, Try.ntmps16
  go_upto_region 1 with (fail)
  obtain ⟨hbq, hbm, hf2, hs2⟩ := two_new w #[.int .u8 q.a, .int .u8 q.b, .int .u8 q.c, .int .u8 q.d] 29 #[.int .u8 0, .int .u8 0, .int .u8 0, .int .u8 0, .int .u8 0, .int .u8 0] 27
  generalize (w.alloc (.cells #[.int .u8 q.a, .int .u8 q.b, .int .u8 q.c, .int .u8 q.d] 29)).alloc (.cells #[.int .u8 0, .int .u8 0, .int .u8 0, .int .u8 0, .int .u8 0, .int .u8 0] 27) = w2 at hbq hbm hf2 hs2 ⊢
  obtain ⟨bm, ebm⟩ : ∃ k, w.heap.size + 1 = k := ⟨_, rfl⟩
  obtain ⟨bq, ebq⟩ : ∃ k, w.heap.size = k := ⟨_, rfl⟩
  rw [ebm] at hbm ⊢
  rw [ebq] at hbq ⊢
  have BQ := Lib.hid hbq
  have BM := Lib.hid hbm
  have F2 := Lib.hid hf2
  have HS2 := Lib.hid (show bq = w.heap.size ∧ bm = w.heap.size + 1 ∧ w2.heap.size = w.heap.size + 2 from by omega)
  clear hbq hbm hf2 hs2 ebm ebq
  have RQ := Lib.hid (range_at w2 bq [.int .u8 q.a, .int .u8 q.b, .int .u8 q.c, .int .u8 q.d] 29 BQ.out)
  iterate 60 (first
    | (have := MK1; clear this)
    | (refine wpList_load_mid rfl 29 _ rfl bq 0 rfl [.int .u8 q.a, .int .u8 q.b, .int .u8 q.c, .int .u8 q.d] _ RQ.out Try.underlying29 rfl (by kernel_rfl) ?_)
    | (go_at_call 38; refine (find38 q HQ.out w2 (HC.out.fr F2.out)).mono ?_; rw [HV.out]; rintro e w3 ⟨rfl, hf⟩; have F3 := Lib.hid hf; clear hf; dsimp only; have MK1 := Lib.hid True.intro)
    | go_step)
  have F23 := Lib.hid (F2.out.then' F3.out)
  have HC3 := Lib.hid (HC.out.fr F23.out)
  have BQ3 := Lib.hid ((F3.out.block bq (lt_of_block BQ.out) (fun e => e)).trans BQ.out)
  have BM3 := Lib.hid ((F3.out.block bm (lt_of_block BM.out) (fun e => e)).trans BM.out)
  have RQ3 := Lib.hid (range_at w3 bq [.int .u8 q.a, .int .u8 q.b, .int .u8 q.c, .int .u8 q.d] 29 BQ3.out)
  have HLT := Lib.hid (fun (k : Nat) (h : Own g lv L k) => (HC.out.lt h).2)
  go_upto_region 3 with (fail)
  have HNB := Lib.hid (show ∀ k, w.heap.size ≤ k → ¬ (k = g ∨ lv.ownBlock = some k) from fun k hk h => by
    rcases h with h | h
    · have := HLT.out g (.inl rfl); omega
    · have := HLT.out k (.inr (.inl h)); omega)
  iterate 60 (first
    | (have := MK3; clear this)
    | (have := MK2; refine wpList_store_mid rfl 27 _ _ rfl bm 0 M6.zero.cells.toArray rfl rfl TH4.out (by kernel_rfl) (by kernel_rfl) ?_; clear this; have MK3 := Lib.hid True.intro)
    | (refine wpList_load_mid rfl 29 _ rfl bq 0 rfl [.int .u8 q.a, .int .u8 q.b, .int .u8 q.c, .int .u8 q.d] _ RQ3.out Try.underlying29 rfl (by kernel_rfl) ?_)
    | (go_at_call 39; refine (begins39 q buf now w3 HQ.out HC3.out HF.out.1 HF.out.2 HNW.out.1 (Nat.le_trans HNW.out.2 F23.out.size)).mono ?_; rintro e w4 ⟨v10, p, pv, lv', rfl, hc, h1, h2, h3, h4⟩; have HC4 := Lib.hid hc; have H4 := Lib.hid (And.intro h1 (And.intro h2 (And.intro h3 h4))); have BM4 := Lib.hid ((h4.block bm (lt_of_block BM3.out) (HNB.out bm (by have := HS2.out; omega))).trans BM3.out); have TH4 := Lib.hid (there_at w4 bm M6.zero.cells 27 BM4.out); clear hc h1 h2 h3 h4; dsimp only; have MK2 := Lib.hid True.intro)
    | go_step)
  change wpList Try.prog _ _ _ _ (w4.setCells bm 0 M6.zero.cells)
  have FM := Lib.hid (Fr.setCells (S := fun i => i = bm) bm (fun _ => rfl) M6.zero.cells 0 w4 (Fr.refl _ w4))
  have RS := Lib.hid (fun (tmps : Array Value) hp => results_cell16 tmps (w4.setCells bm 0 M6.zero.cells) bm _ hp (run_loadVar_mid _ bm 0 27 M6.zero.cells _ (World.rangeAt_setCells_same w4 bm 0 M6.zero.cells TH4.out) Try.underlying27 rfl (by kernel_rfl)))
  generalize w4.setCells bm 0 M6.zero.cells = w5 at FM RS ⊢
  go_wp2_with fail
  refine bodyPost_ret (RS.out _ rfl) rfl ⟨v10, p, pv, lv', rfl, ?_, Nat.le_trans F23.out.size H4.out.1, (fun k hk => Nat.le_trans F23.out.size (H4.out.2.1 k hk)), ?_, ?_⟩
  · exact HC4.out.frS FM.out (fun i hi e => HC4.out.tag BM4.out (by decide) (by decide) (by decide) (by decide) (e ▸ hi))
  · refine (H4.out.2.2.1.mono F23.out.size).fr FM.out (fun k hk e => ?_)
    exact H4.out.2.2.1.ne BM4.out (by decide) (e ▸ hk)
  · refine Fr.trans (S := fun i => i = g ∨ lv.ownBlock = some i) (F23.out.upto) (Fr.trans (S := fun i => i = g ∨ lv.ownBlock = some i ∨ i = bm) (H4.out.2.2.2.mono (fun i _ h => h.elim .inl (fun h => .inr (.inl h)))) FM.out (fun i _ h => .inr (.inr h))) (fun i hi h => ?_)
    rcases h with h | h | h
    · exact .inl h
    · exact .inr h
    · have := HS2.out; omega
/-- What Find makes of one who is known. -/
def old64 (nb : Nb) (now : Int) : Bool := decide (nb.st = 2) && decide (64 ≤ now - nb.since)
def findNb (nb : Nb) (now : Int) : Nb := if old64 nb now = true then { nb with st := 3, tries := 1, asked := now } else nb
theorem findNb_ok {nb : Nb} (h : nb.ok) {now : Int} (hn : 0 ≤ now ∧ now ≤ 4398046511104) : (findNb nb now).ok := by
  unfold findNb
  split
  · exact ⟨h.ip, ⟨by show (1 : Int) ≤ 3; decide, by show (3 : Int) ≤ 3; decide⟩, h.mac, h.since, hn, ⟨by show (0 : Int) ≤ 1; decide, by show (1 : Int) ≤ 3; decide⟩, h.pend⟩
  · exact h
theorem findNb_ip (nb : Nb) (now : Int) : (findNb nb now).ip = nb.ip := by unfold findNb; split <;> rfl
theorem findNb_pend (nb : Nb) (now : Int) : (findNb nb now).pend = nb.pend := by unfold findNb; split <;> rfl
def FkPost (N g : Nat) (mac : M6) (ip : I4) (L : List En) (lv : Value) (i : Nat) (e : En) (q : I4) (now : Int) (w : World) (en : Ending) (w' : World) : Prop :=
  ∃ v10, en = .returned (.tuple #[.agg e.nb.mac.cells.toArray, .slice none 0 0, v10, .int .i64 0]) ∧ CAt N w' g mac ip (L.set i { e with nb := findNb e.nb now }) lv ∧
    (old64 e.nb now = false → v10 = .slice none 0 0) ∧ (old64 e.nb now = true → Sl w.heap.size 33 21 w' v10 1 (rqCells mac ip q)) ∧ Fr (fun b => b = e.p) w w'
set_option maxRecDepth 100000 in
set_option maxHeartbeats 8000000 in
/-- One who is not being asked for. -/
theorem find16_known {N g : Nat} {mac : M6} {ip : I4} {L : List En} {lv : Value} {i : Nat} {e : En} (q : I4) (buf now : Int) (w : World) (hq : q.ok) (hC : CAt N w g mac ip L lv) (hf : fpt L q = some e) (hi : L[i]? = some e) (hst : e.nb.st ≠ 1) (hnow : 0 ≤ now ∧ now ≤ 4398046511104) (hN : N ≤ w.heap.size) :
    Calls Try.prog 16 #[.pointer (some ⟨g, 0, none⟩), .agg #[.int .u8 q.a, .int .u8 q.b, .int .u8 q.c, .int .u8 q.d], .int .i64 buf, .int .i64 now] w (FkPost N g mac ip L lv i e q now w) := by
  have FA := Lib.hid (Fr.refl (fun _ => False) w)
  have HC := Lib.hid hC
  have HQ := Lib.hid hq
  have HI := Lib.hid hi
  have HNW := Lib.hid (And.intro hnow hN)
  have HV := Lib.hid (show fptV L q = .pointer (some ⟨e.p, 0, none⟩) from by unfold fptV; rw [hf])
  have HEO := Lib.hid (hC.ent e (List.mem_of_getElem? hi)).ok
  have hsi := HEO.out.since
  obtain ⟨st, hst'⟩ : ∃ s, e.nb.st = s := ⟨_, rfl⟩
  obtain ⟨sc, hsc'⟩ : ∃ s, e.nb.since = s := ⟨_, rfl⟩
  rw [hst'] at hst
  rw [hsc'] at hsi
  have HST := Lib.hid (And.intro hst' hsc')
  clear hC hq hf hi hN hst' hsc'
  go_enter Try.func16, Try.ntmps16
  go_upto_region 1 with (fail)
  obtain ⟨hbq, hbm, hf2, hs2⟩ := two_new w #[.int .u8 q.a, .int .u8 q.b, .int .u8 q.c, .int .u8 q.d] 29 #[.int .u8 0, .int .u8 0, .int .u8 0, .int .u8 0, .int .u8 0, .int .u8 0] 27
  generalize (w.alloc (.cells #[.int .u8 q.a, .int .u8 q.b, .int .u8 q.c, .int .u8 q.d] 29)).alloc (.cells #[.int .u8 0, .int .u8 0, .int .u8 0, .int .u8 0, .int .u8 0, .int .u8 0] 27) = w2 at hbq hbm hf2 hs2 ⊢
  obtain ⟨bm, ebm⟩ : ∃ k, w.heap.size + 1 = k := ⟨_, rfl⟩
  obtain ⟨bq, ebq⟩ : ∃ k, w.heap.size = k := ⟨_, rfl⟩
  rw [ebm] at hbm ⊢
  rw [ebq] at hbq ⊢
  have BQ := Lib.hid hbq
  have BM := Lib.hid hbm
  have F2 := Lib.hid hf2
  have HS2 := Lib.hid (show bq = w.heap.size ∧ bm = w.heap.size + 1 ∧ w2.heap.size = w.heap.size + 2 from by omega)
  clear hbq hbm hf2 hs2 ebm ebq
  have RQ := Lib.hid (range_at w2 bq [.int .u8 q.a, .int .u8 q.b, .int .u8 q.c, .int .u8 q.d] 29 BQ.out)
  iterate 60 (first
    | (have := MK1; clear this)
    | (refine wpList_load_mid rfl 29 _ rfl bq 0 rfl [.int .u8 q.a, .int .u8 q.b, .int .u8 q.c, .int .u8 q.d] _ RQ.out Try.underlying29 rfl (by kernel_rfl) ?_)
    | (go_at_call 38; refine (find38 q HQ.out w2 (HC.out.fr F2.out)).mono ?_; rw [HV.out]; rintro e w3 ⟨rfl, hf⟩; have F3 := Lib.hid hf; clear hf; dsimp only; have MK1 := Lib.hid True.intro)
    | go_step)
  have F23 := Lib.hid (F2.out.then' F3.out)
  have HC3 := Lib.hid (HC.out.fr F23.out)
  have BQ3 := Lib.hid ((F3.out.block bq (lt_of_block BQ.out) (fun e => e)).trans BQ.out)
  have BM3 := Lib.hid ((F3.out.block bm (lt_of_block BM.out) (fun e => e)).trans BM.out)
  have RQ3 := Lib.hid (range_at w3 bq [.int .u8 q.a, .int .u8 q.b, .int .u8 q.c, .int .u8 q.d] 29 BQ3.out)
  have HLT := Lib.hid (fun (k : Nat) (h : Own g lv L k) => (HC.out.lt h).2)
  have HE3 := Lib.hid (HC3.out.ent e (List.mem_of_getElem? HI.out))
  have c4 := HE3.out.cell (j := 4) rfl
  have c11 := HE3.out.cell (j := 11) rfl
  rw [HST.out.1] at c4
  rw [HST.out.2] at c11
  have hst1 : (st == 1) = false := by simp [hst]
  go_upto_region 11 with (fail)
  clear hst1
  have hno1 := hnow.1
  have hno2 := hnow.2
  clear hnow
  by_cases ho : st = 2 ∧ 64 ≤ now - sc
  · obtain ⟨ho1, ho2⟩ := ho
    have HOLD := Lib.hid (show old64 e.nb now = true from by unfold old64; rw [HST.out.1, HST.out.2]; simp [ho1, ho2])
    subst ho1
    clear hst
    have z4 := frozen_of_row w3 e.p 4 _ 46 HE3.out.blk
    have z12 := frozen_of_row w3 e.p 12 _ 46 HE3.out.blk
    have z13 := frozen_of_row w3 e.p 13 _ 46 HE3.out.blk
    have c12 := HE3.out.cell (j := 12) rfl
    have c13 := HE3.out.cell (j := 13) rfl
    go_upto_region 14 with (fail)
    clear c4 c11 c12 c13 z4 z12 z13
    have HEQ := Lib.hid (show findNb e.nb now = { e.nb with st := 3, tries := 1, asked := now } from by unfold findNb; rw [HOLD.out]; rfl)
    have FS := Lib.hid ((((Fr.refl (fun b => b = e.p) w3).setCell ⟨e.p, 4, none⟩ (.int .i64 3) (fun _ => rfl)).setCell ⟨e.p, 13, none⟩ (.int .i64 1) (fun _ => rfl)).setCell ⟨e.p, 12, none⟩ (.int .i64 now) (fun _ => rfl))
    have BE := Lib.hid (show (((w3.setCell ⟨e.p, 4, none⟩ (.int .i64 3)).setCell ⟨e.p, 13, none⟩ (.int .i64 1)).setCell ⟨e.p, 12, none⟩ (.int .i64 now)).heap[e.p]? = some (.cells (En.cells { e with nb := findNb e.nb now }).toArray 46) from by
      rw [HEQ.out, heap_setCell_same _ e.p 12 _ 46 _ (heap_setCell_same _ e.p 13 _ 46 _ (heap_setCell_same w3 e.p 4 _ 46 _ HE3.out.blk))]
      rfl)
    generalize ((w3.setCell ⟨e.p, 4, none⟩ (.int .i64 3)).setCell ⟨e.p, 13, none⟩ (.int .i64 1)).setCell ⟨e.p, 12, none⟩ (.int .i64 now) = w6 at FS BE ⊢
    have HE6 := Lib.hid (show EnAt N w6 { e with nb := findNb e.nb now } from ⟨BE.out, by
      have h := HE3.out.sl.heap (w' := w6) (fun k hk => FS.out.block k (HE3.out.sl.lt k hk).2 (fun e1 => HC3.out.vp (List.mem_of_getElem? HI.out) (List.mem_of_getElem? HI.out) (e1 ▸ hk)))
      rw [← findNb_pend e.nb now] at h
      exact h, HE3.out.hp, findNb_ok HEO.out HNW.out.1⟩)
    have HC6 := Lib.hid (HC3.out.set { e with nb := findNb e.nb now } HI.out rfl (findNb_ip _ _) HE6.out (fun k hk => .inl hk) (FS.out.mono (fun b _ h => .inl h)))
    have BQ6 := Lib.hid ((FS.out.block bq (lt_of_block BQ3.out) (fun e1 => by have h := BQ3.out; have e1 : bq = e.p := e1; rw [e1, HE3.out.blk] at h; exact absurd (tag_ne h) (by decide))).trans BQ3.out)
    have BM6 := Lib.hid ((FS.out.block bm (lt_of_block BM3.out) (fun e1 => by have h := BM3.out; have e1 : bm = e.p := e1; rw [e1, HE3.out.blk] at h; exact absurd (tag_ne h) (by decide))).trans BM3.out)
    have RQ6 := Lib.hid (range_at w6 bq [.int .u8 q.a, .int .u8 q.b, .int .u8 q.c, .int .u8 q.d] 29 BQ6.out)
    iterate 60 (first
      | (have := MK4; clear this)
      | (refine wpList_load_mid rfl 29 _ rfl bq 0 rfl [.int .u8 q.a, .int .u8 q.b, .int .u8 q.c, .int .u8 q.d] _ RQ6.out Try.underlying29 rfl (by kernel_rfl) ?_)
      | (go_at_call 41; refine (request41 q w6 HC6.out).mono ?_; rintro en w7 ⟨rfl, hf⟩; have F7 := Lib.hid hf; clear hf; dsimp only; have MK4 := Lib.hid True.intro)
      | go_step)
    obtain ⟨b8, eb8⟩ : ∃ k, w7.heap.size = k := ⟨_, rfl⟩
    obtain ⟨w8, ew8⟩ : ∃ y, w7.alloc (.cells (rqCells mac ip q).toArray 33) = y := ⟨_, rfl⟩
    have H8 := Lib.hid (show w8.heap[b8]? = some (.cells (rqCells mac ip q).toArray 33) ∧ Fr (fun _ => False) w7 w8 from by have h := one_new w7 (rqCells mac ip q).toArray 33; rw [ew8, eb8] at h; exact ⟨h.1, h.2.1⟩)
    have E8 := Lib.hid (And.intro ew8 eb8)
    have Z8 := Lib.hid (show w.heap.size ≤ b8 from by have h1 := F23.out.size; have h2 := FS.out.size; have h3 := F7.out.size; omega)
    clear ew8 eb8
    iterate 60 (first
      | (have := MK6; clear this)
      | (have := MK5; refine wpList_append_sl (base := w.heap.size) rfl _ _ rfl st36 (.slice none 0 0) 0 [] rfl (Sl.nil _ _ _ _) _ 1 (rqCells mac ip q) rfl (Src.ofSlice (w := w8) Try.underlying36 ⟨b8, 0, none⟩ 1 1 _ rfl (fun j u hj => by rw [Addr.add_mid]; exact range_at w8 b8 (rqCells mac ip q) 33 H8.out.1 j u hj) (by simp [rqCells, Value.oneCell'])) (by simp only [maxLen]; omega) (by omega) (by have h1 := lt_of_block H8.out.1; have h2 := Z8.out; omega) ?_; clear this; rintro v9 w9 hs hg ho hn; obtain ⟨A9, cp9, hv9, _, _⟩ := hs.form; subst hv9; have S9 := Lib.hid hs; have G9 := Lib.hid hg; clear hs hg ho hn; have MK6 := Lib.hid True.intro)
      | (refine wpList_buildSlice1 rfl st36 rfl (by decide) (rqCells mac ip q).toArray rfl rfl ?_; rw [E8.out.1, E8.out.2]; have MK5 := Lib.hid True.intro)
      | go_step)
    have F69 := Lib.hid (show Fr (fun _ => False) w6 w9 from (F7.out.then' H8.out.2).grown G9.out (fun r e1 _ => by cases e1))
    have BM9 := Lib.hid ((F69.out.block bm (lt_of_block BM6.out) (fun e => e)).trans BM6.out)
    have TH9 := Lib.hid (there_at w9 bm M6.zero.cells 27 BM9.out)
    have RM9 := Lib.hid (show w9.rangeAt e.p 5 [.int .u8 e.nb.mac.a, .int .u8 e.nb.mac.b, .int .u8 e.nb.mac.c, .int .u8 e.nb.mac.d, .int .u8 e.nb.mac.e, .int .u8 e.nb.mac.f] from by
      have h := range_part (range_at w9 e.p _ 46 ((F69.out.block e.p (lt_of_block BE.out) (fun e => e)).trans BE.out)) 5 6
      rw [HEQ.out] at h
      exact h)
    go_upto_region 15 with (fail)
    iterate 60 (first
      | (have := MK8; clear this)
      | (refine wpList_load_mid rfl 27 _ rfl e.p 5 rfl [.int .u8 e.nb.mac.a, .int .u8 e.nb.mac.b, .int .u8 e.nb.mac.c, .int .u8 e.nb.mac.d, .int .u8 e.nb.mac.e, .int .u8 e.nb.mac.f] _ RM9.out Try.underlying27 rfl (by kernel_rfl) ?_)
      | (refine wpList_store_mid rfl 27 _ _ rfl bm 0 e.nb.mac.cells.toArray rfl rfl TH9.out (by kernel_rfl) (by simp [M6.cells, Value.oneCell']) ?_; have MK8 := Lib.hid True.intro)
      | go_step)
    change wpList Try.prog _ _ _ _ (w9.setCells bm 0 e.nb.mac.cells)
    have FM := Lib.hid (Fr.setCells (S := fun i => i = bm) bm (fun _ => rfl) e.nb.mac.cells 0 w9 (Fr.refl _ w9))
    have RS := Lib.hid (fun (tmps : Array Value) hp => results_cell16 tmps (w9.setCells bm 0 e.nb.mac.cells) bm _ hp (run_loadVar_mid _ bm 0 27 e.nb.mac.cells _ (World.rangeAt_setCells_same w9 bm 0 e.nb.mac.cells TH9.out) Try.underlying27 rfl (by kernel_rfl)))
    generalize w9.setCells bm 0 e.nb.mac.cells = w10 at FM RS ⊢
    go_wp2_with fail
    refine bodyPost_ret (RS.out _ rfl) rfl ⟨_, rfl, ?_, fun h => absurd (h.symm.trans HOLD.out) (by decide), fun _ => ?_, ?_⟩
    · exact (HC6.out.fr F69.out).frS FM.out (fun i hi e => (HC6.out.fr F69.out).tag BM9.out (by decide) (by decide) (by decide) (by decide) (e ▸ hi))
    · refine S9.out.fr FM.out (fun k hk e => ?_)
      exact S9.out.ne BM9.out (by decide) (e ▸ hk)
    · refine Fr.trans (S := fun b => b = e.p) (F23.out.upto) (Fr.trans (S := fun b => b = e.p ∨ b = bm) (FS.out.mono (fun b _ h => .inl h)) (Fr.trans (S := fun b => b = e.p ∨ b = bm) (F69.out.upto) FM.out (fun b _ h => .inr h)) (fun b _ h => h)) (fun b hb h => ?_)
      rcases h with h | h
      · exact h
      · have := HS2.out; omega
  · have HOLD := Lib.hid (show old64 e.nb now = false from by
      unfold old64; rw [HST.out.1, HST.out.2]
      by_cases h1 : st = 2
      · have h2 : ¬ 64 ≤ now - sc := fun h2 => ho ⟨h1, h2⟩
        simp [h1, h2]
      · simp [h1])
    have HEQ := Lib.hid (show findNb e.nb now = e.nb from by unfold findNb; rw [HOLD.out]; rfl)
    have HC6 := Lib.hid (show CAt N w3 g mac ip (L.set i { e with nb := findNb e.nb now }) lv from by
      rw [HEQ.out]
      have : L.set i e = L := by
        apply List.ext_getElem?
        intro j
        rw [List.getElem?_set]
        split
        · rename_i ej
          subst ej
          obtain ⟨h1, h2⟩ := List.getElem?_eq_some_iff.1 HI.out
          simp [h1, h2]
        · rfl
      rw [this]
      exact HC3.out)
    have TH9 := Lib.hid (there_at w3 bm M6.zero.cells 27 BM3.out)
    have RM9 := Lib.hid (show w3.rangeAt e.p 5 [.int .u8 e.nb.mac.a, .int .u8 e.nb.mac.b, .int .u8 e.nb.mac.c, .int .u8 e.nb.mac.d, .int .u8 e.nb.mac.e, .int .u8 e.nb.mac.f] from range_part (range_at w3 e.p _ 46 HE3.out.blk) 5 6)
    obtain ⟨w9, hw9⟩ : ∃ y, y = w3 := ⟨_, rfl⟩
    subst hw9
    have hd : (st = 2 ∧ ¬ 64 ≤ now - sc) ∨ st ≠ 2 := by
      by_cases h1 : st = 2
      · exact .inl ⟨h1, fun h2 => ho ⟨h1, h2⟩⟩
      · exact .inr h1
    clear ho
    rcases hd with ⟨h1, h2⟩ | h1
    · subst h1
      go_upto_region 15 with (fail)
      iterate 60 (first
        | (have := MK8; clear this)
        | (refine wpList_load_mid rfl 27 _ rfl e.p 5 rfl [.int .u8 e.nb.mac.a, .int .u8 e.nb.mac.b, .int .u8 e.nb.mac.c, .int .u8 e.nb.mac.d, .int .u8 e.nb.mac.e, .int .u8 e.nb.mac.f] _ RM9.out Try.underlying27 rfl (by kernel_rfl) ?_)
        | (refine wpList_store_mid rfl 27 _ _ rfl bm 0 e.nb.mac.cells.toArray rfl rfl TH9.out (by kernel_rfl) (by simp [M6.cells, Value.oneCell']) ?_; have MK8 := Lib.hid True.intro)
        | go_step)
      change wpList Try.prog _ _ _ _ (w9.setCells bm 0 e.nb.mac.cells)
      have FM := Lib.hid (Fr.setCells (S := fun i => i = bm) bm (fun _ => rfl) e.nb.mac.cells 0 w9 (Fr.refl _ w9))
      have RS := Lib.hid (fun (tmps : Array Value) hp => results_cell16 tmps (w9.setCells bm 0 e.nb.mac.cells) bm _ hp (run_loadVar_mid _ bm 0 27 e.nb.mac.cells _ (World.rangeAt_setCells_same w9 bm 0 e.nb.mac.cells TH9.out) Try.underlying27 rfl (by kernel_rfl)))
      generalize w9.setCells bm 0 e.nb.mac.cells = w10 at FM RS ⊢
      go_wp2_with fail
      refine bodyPost_ret (RS.out _ rfl) rfl ⟨_, rfl, ?_, fun _ => rfl, fun h => absurd (h.symm.trans HOLD.out) (by decide), ?_⟩
      · exact HC6.out.frS FM.out (fun i hi e => HC6.out.tag BM3.out (by decide) (by decide) (by decide) (by decide) (e ▸ hi))
      · refine Fr.trans (S := fun b => b = e.p) (F23.out.upto) FM.out (fun b hb h => ?_)
        have := HS2.out; have h : b = bm := h; omega
    · have h1b : (st == 2) = false := by simp [h1]
      go_upto_region 15 with (fail)
      iterate 60 (first
        | (have := MK8; clear this)
        | (refine wpList_load_mid rfl 27 _ rfl e.p 5 rfl [.int .u8 e.nb.mac.a, .int .u8 e.nb.mac.b, .int .u8 e.nb.mac.c, .int .u8 e.nb.mac.d, .int .u8 e.nb.mac.e, .int .u8 e.nb.mac.f] _ RM9.out Try.underlying27 rfl (by kernel_rfl) ?_)
        | (refine wpList_store_mid rfl 27 _ _ rfl bm 0 e.nb.mac.cells.toArray rfl rfl TH9.out (by kernel_rfl) (by simp [M6.cells, Value.oneCell']) ?_; have MK8 := Lib.hid True.intro)
        | go_step)
      change wpList Try.prog _ _ _ _ (w9.setCells bm 0 e.nb.mac.cells)
      have FM := Lib.hid (Fr.setCells (S := fun i => i = bm) bm (fun _ => rfl) e.nb.mac.cells 0 w9 (Fr.refl _ w9))
      have RS := Lib.hid (fun (tmps : Array Value) hp => results_cell16 tmps (w9.setCells bm 0 e.nb.mac.cells) bm _ hp (run_loadVar_mid _ bm 0 27 e.nb.mac.cells _ (World.rangeAt_setCells_same w9 bm 0 e.nb.mac.cells TH9.out) Try.underlying27 rfl (by kernel_rfl)))
      generalize w9.setCells bm 0 e.nb.mac.cells = w10 at FM RS ⊢
      go_wp2_with fail
      refine bodyPost_ret (RS.out _ rfl) rfl ⟨_, rfl, ?_, fun _ => rfl, fun h => absurd (h.symm.trans HOLD.out) (by decide), ?_⟩
      · exact HC6.out.frS FM.out (fun i hi e => HC6.out.tag BM3.out (by decide) (by decide) (by decide) (by decide) (e ▸ hi))
      · refine Fr.trans (S := fun b => b = e.p) (F23.out.upto) FM.out (fun b hb h => ?_)
        have := HS2.out; have h : b = bm := h; omega
end Go.Proofs.Ytfnphkijalkllaa
