/- IcmpPaths: its walk. No condition but the form's sizes. -/
import Derived.Test.YtcfadmjihccimaaIcV
import Derived.Test.YtcfadmjihccimaaIcO
namespace Go.Proofs.Ytcfadmjihccimaa
set_option linter.unusedVariables false
set_option linter.unusedSimpArgs false
open Go.RowKit

/-- The program's paths and the reference's, side by side, in memory that the law has made. -/
structure PqAt (w0 w : World) (g m gr : Nat) (L : List (I4 × Int)) (line : List I4) (R : List (I4 × Int)) (lv rv : Value) : Prop where
  p : LnAt w g m L line lv
  r : RfAt w gr R rv
  fr : Fr (fun _ => False) w0 w
  hg : w0.heap.size ≤ g
  hm : w0.heap.size ≤ m
  hr : w0.heap.size ≤ gr
  hl : ∀ k, lv.ownBlock = some k → w0.heap.size ≤ k
  hrl : ∀ k, rv.ownBlock = some k → w0.heap.size ≤ k
  d1 : g ≠ gr
  d2 : m ≠ gr
  d3 : lv.ownBlock ≠ some gr
  d4 : rv.ownBlock ≠ some g
  d5 : rv.ownBlock ≠ some m
  d6 : ∀ k, rv.ownBlock = some k → lv.ownBlock ≠ some k
section
variable {w0 w w' : World} {g m gr : Nat} {L L' : List (I4 × Int)} {line line' : List I4} {R R' : List (I4 × Int)} {lv lv' rv rv' : Value}
theorem PqAt.fr0 (h : PqAt w0 w g m gr L line R lv rv) (f : Fr (fun _ => False) w w') : PqAt w0 w' g m gr L line R lv rv :=
  ⟨h.p.fr f, h.r.fr f, h.fr.then' f, h.hg, h.hm, h.hr, h.hl, h.hrl, h.d1, h.d2, h.d3, h.d4, h.d5, h.d6⟩
theorem PqAt.stepP (h : PqAt w0 w g m gr L line R lv rv) (hp : LnAt w' g m L' line' lv') (f : Fr (fun i => i = g ∨ i = m ∨ lv.ownBlock = some i) w w') (ob : lv'.ownBlock = lv.ownBlock ∨ ∃ z, lv'.ownBlock = some z ∧ w.heap.size ≤ z) : PqAt w0 w' g m gr L' line' R lv' rv := by
  have hgr := lt_of_block h.r.blk
  refine ⟨hp, h.r.heap (f.block gr hgr ?_) (fun k hk => f.block k (h.r.sl.lt k hk).2 ?_), h.fr.trans f (fun i hi e => ?_), h.hg, h.hm, h.hr, fun k hk => ?_, h.hrl, h.d1, h.d2, ?_, h.d4, h.d5, fun k hk e => ?_⟩
  · rintro (e | e | e)
    · exact h.d1 e.symm
    · exact h.d2 e.symm
    · exact h.d3 e
  · rintro (e | e | e)
    · exact h.d4 (by rw [hk, e])
    · exact h.d5 (by rw [hk, e])
    · exact h.d6 k hk e
  · rcases e with e | e | e
    · have := h.hg; omega
    · have := h.hm; omega
    · have := h.hl i e; omega
  · rcases ob with e | ⟨z, e, hz⟩
    · exact h.hl k (by rw [← e]; exact hk)
    · rw [e] at hk; injection hk with hk; subst hk; have := h.fr.size; omega
  · rcases ob with e | ⟨z, e, hz⟩
    · rw [e]; exact h.d3
    · rw [e]; intro he; injection he with he; omega
  · rcases ob with e2 | ⟨z, e2, hz⟩
    · exact h.d6 k hk (by rw [← e2]; exact e)
    · rw [e2] at e; injection e with e; have := (h.r.sl.lt k hk).2; omega
theorem PqAt.stepR (h : PqAt w0 w g m gr L line R lv rv) (hr : RfAt w' gr R' rv') (f : Fr (fun i => i = gr ∨ rv.ownBlock = some i) w w') (ob : rv'.ownBlock = rv.ownBlock ∨ ∃ z, rv'.ownBlock = some z ∧ w.heap.size ≤ z) : PqAt w0 w' g m gr L line R' lv rv' := by
  have hg0 := lt_of_block h.p.pa.blk
  have hm0 := h.p.pa.map.lt
  refine ⟨h.p.heap (f.block g hg0 ?_) (f.block m hm0 ?_) (fun k hk => f.block k (h.p.sl.lt k hk).2 ?_), hr, h.fr.trans f (fun i hi e => ?_), h.hg, h.hm, h.hr, h.hl, fun k hk => ?_, h.d1, h.d2, h.d3, ?_, ?_, fun k hk e => ?_⟩
  · rintro (e | e)
    · exact h.d1 e
    · exact h.d4 e
  · rintro (e | e)
    · exact h.d2 e
    · exact h.d5 e
  · rintro (e | e)
    · exact h.d3 (by rw [hk, e])
    · exact h.d6 k e hk
  · rcases e with e | e
    · have := h.hr; omega
    · have := h.hrl i e; omega
  · rcases ob with e | ⟨z, e, hz⟩
    · exact h.hrl k (by rw [← e]; exact hk)
    · rw [e] at hk; injection hk with hk; subst hk; have := h.fr.size; omega
  · rcases ob with e | ⟨z, e, hz⟩
    · rw [e]; exact h.d4
    · rw [e]; intro he; injection he with he; omega
  · rcases ob with e | ⟨z, e, hz⟩
    · rw [e]; exact h.d5
    · rw [e]; intro he; injection he with he; omega
  · rcases ob with e2 | ⟨z, e2, hz⟩
    · exact h.d6 k (by rw [← e2]; exact hk) e
    · rw [e2] at hk; injection hk with hk; have := (h.p.sl.lt k e).2; omega
theorem PqAt.arg (h : PqAt w0 w g m gr L line R lv rv) {b o : Nat} {v : Value} (hc : w0.cell? ⟨b, o, none⟩ = some v) : w.cell? ⟨b, o, none⟩ = some v :=
  (World.cell?_of_block (a := ⟨b, o, none⟩) (h.fr.block b (block_lt_of_cell hc) (fun e => e))).trans hc
end
def PqEx (w0 : World) (g m gr : Nat) (w : World) : Prop := ∃ L line R lv rv, PqAt w0 w g m gr L line R lv rv ∧ PInv L line R

/-- The words that came in. -/
structure WdIn (W : World) (A : Option Addr) (n : Nat) (N : Nat → Int) (M : Nat → Int) (F : Nat → Bool) : Prop where
  top : n ≤ 140737488355328
  cells : 0 < n → ∃ b off, A = some ⟨b, off, none⟩ ∧ ∀ i, i < n → W.cell? ⟨b, off + i * 3, none⟩ = some (.int .u8 (N i)) ∧ W.cell? ⟨b, off + i * 3 + 1, none⟩ = some (.int .i64 (M i)) ∧ W.cell? ⟨b, off + i * 3 + 2, none⟩ = some (.bool (F i)) ∧ (Lit.int .u8 (N i)).wf = true

theorem wd_of_fits {W : World} {A : Option Addr} {n cap : Nat} (h : FitsX Try.prog W 35 [.slice A n cap]) : ∃ N M F, WdIn W A n N M F := by
  have h43 : Try.prog.cellsOf 43 = 3 := by kernel_rfl
  obtain ⟨A', len, cap', hcs, h1, h2, h3, h4, h5⟩ := h.toSlice Try.underlying35 (by rw [h43]; decide)
  cases hcs
  rw [h43] at h5
  rw [show Try.prog.bytesOf 43 = 24 by kernel_rfl] at h4
  have htop : n ≤ 140737488355328 := by simp only [reachBytes] at h4; omega
  have hex : ∀ i, i < cap → ∃ q : Int × Int × Bool, (0 < n → ∃ b off, A = some ⟨b, off, none⟩ ∧ W.cell? ⟨b, off + i * 3, none⟩ = some (.int .u8 q.1) ∧ W.cell? ⟨b, off + i * 3 + 1, none⟩ = some (.int .i64 q.2.1) ∧ W.cell? ⟨b, off + i * 3 + 2, none⟩ = some (.bool q.2.2) ∧ (Lit.int .u8 q.1).wf = true) := fun i hi => by
    obtain ⟨b, off, hA, hb, hc⟩ := h5 (by omega)
    obtain ⟨cs, hl, hcell, hF⟩ := hc i hi
    have f0 := hF.field Try.underlying43 0 (ft := 5) (off := 0) (k := 1) rfl (by kernel_rfl)
    have f1 := hF.field Try.underlying43 1 (ft := 3) (off := 1) (k := 1) rfl cells3
    have f2 := hF.field Try.underlying43 2 (ft := 4) (off := 2) (k := 1) rfl (by kernel_rfl)
    match cs, hl with
    | [c0, c1, c2], _ =>
      obtain ⟨n0, e0, w0⟩ := f0.toInt Try.underlying5
      obtain ⟨n1, e1, _⟩ := f1.toInt Try.underlying3
      obtain ⟨b2, e2⟩ := f2.toBool Try.underlying4
      cases e0; cases e1; cases e2
      refine ⟨(n0, n1, b2), fun _ => ⟨b, off, hA, ?_, hcell 1 _ rfl, hcell 2 _ rfl, w0⟩⟩
      have := hcell 0 _ rfl
      rwa [Nat.add_zero] at this
  obtain ⟨q, hq⟩ := Deep.choose_lt hex
  refine ⟨fun i => (q i).1, fun i => (q i).2.1, fun i => (q i).2.2, htop, fun h0 => ?_⟩
  obtain ⟨b, off, hA, _⟩ := h5 (by omega)
  refine ⟨b, off, hA, fun i hi => ?_⟩
  obtain ⟨b', off', hA', r⟩ := hq i (by omega) h0
  rw [hA] at hA'
  cases hA'
  exact r
set_option maxHeartbeats 16000000 in
set_option maxRecDepth 100000 in
theorem paths5 (A : Option Addr) (n cap : Nat) (N M : Nat → Int) (F : Nat → Bool) (w : World) (hW : WdIn w A n N M F) (hcap : n ≤ cap) :
    Calls Try.prog 5 #[.slice A n cap] w fun e w' => e = .returned (.bool true) ∧ Fr (fun _ => False) w w' := by
  have HW := Lib.hid hW
  have HCAP := Lib.hid hcap
  have FA := Lib.hid (Fr.refl (fun _ => False) w)
  clear hW hcap
  go_enter Try.func5, Try.ntmps5
  go_upto_region 3 with (first
    | (go_at_call 11; refine (awake11 w).mono ?_; rintro e w1 ⟨rfl, f1⟩; have F1 := Lib.hid f1; clear f1)
    | (go_at_call 17; refine (newPaths17 w1).mono ?_; rintro e w2 ⟨g, m, rfl, t2, f2, h2a, h2b⟩; have T2 := Lib.hid t2; have F2 := Lib.hid (F1.out.then' f2); have Z2 := Lib.hid (And.intro h2a h2b); clear t2 f2 h2a h2b))
  have hgm : g ≠ m := fun e => by
    have h1 := T2.out.blk
    obtain ⟨⟨es, ⟨es', cl, hb, _⟩, _⟩, _⟩ := T2.out.map
    rw [← e, h1] at hb
    cases hb
  have hPQ : PqAt w (w2.alloc (.cells #[.slice none 0 0] 41)) g m w2.heap.size [] [] [] (.slice none 0 0) (.slice none 0 0) := by
    have hz := F1.out.size
    have hz2 := F2.out.size
    have h3 := Z2.out
    have hgl := lt_of_block T2.out.blk
    have hml := T2.out.map.lt
    exact ⟨⟨T2.out.fr ((Fr.refl _ w2).alloc _), Sl.nil _ _ _ _, hgm, by simp [Value.ownBlock], by simp [Value.ownBlock], (fun _ h => by cases h)⟩,
      ⟨heap_alloc_new w2 _, Sl.nil _ _ _ _, by simp [Value.ownBlock], (fun _ h => by cases h)⟩, F2.out.alloc _, by omega, by omega, by omega, (fun k h => by cases h), (fun k h => by cases h), by omega, by omega, by simp [Value.ownBlock], by simp [Value.ownBlock], by simp [Value.ownBlock], (fun k h => by cases h)⟩
  have PQ0 := Lib.hid (show PqEx w g m w2.heap.size (w2.alloc (.cells #[.slice none 0 0] 41)) from ⟨_, _, _, _, _, hPQ, PInv.start⟩)
  clear hPQ hgm
  obtain ⟨gr, hgr⟩ : ∃ gr, w2.heap.size = gr := ⟨_, rfl⟩
  rw [hgr] at PQ0
  go_upto_region 4 with (fail)
  clear hgr
  generalize w2.alloc (.cells #[.slice none 0 0] 41) = w3 at PQ0 ⊢
  clear T2 F2 Z2 F1
  go_wp2_with fail
  go_loopw [6] (fun v wr => ∃ (i : Nat), v = .int .i64 i ∧ i ≤ n ∧ PqEx w g m gr wr) (fun v _ => n - (intOf v).toNat)
  case atStart => exact ⟨0, rfl, Nat.zero_le _, PQ0.out⟩
  case round =>
    obtain ⟨i, rfl, hi, pq⟩ := hrel
    by_cases hlt : i < n
    · obtain ⟨lb, loff, hA, hcells⟩ := HW.out.cells (by omega)
      subst hA
      obtain ⟨hc0, hmt0, hc2, hwf⟩ := hcells i hlt
      obtain ⟨N0, hN0⟩ : ∃ N0, N i = N0 := ⟨_, rfl⟩
      obtain ⟨mt, hmt⟩ : ∃ mt, M i = mt := ⟨_, rfl⟩
      obtain ⟨fd, hfd⟩ : ∃ fd, F i = fd := ⟨_, rfl⟩
      rw [hN0] at hc0 hwf
      rw [hmt] at hmt0
      rw [hfd] at hc2
      clear hN0 hmt hfd hcells
      obtain ⟨N, hN⟩ : ∃ N, N = N0 := ⟨_, rfl⟩
      subst hN
      have HIP := Lib.hid (show I4.ok ⟨10, 0, 0, N⟩ from ⟨rfl, rfl, rfl, hwf⟩)
      obtain ⟨L, line, R, lv, rv, pq0, inv⟩ := pq
      have HV := Lib.hid inv
      have PQr := Lib.hid pq0
      have HC2 := Lib.hid hc2
      have HMT := Lib.hid hmt0
      have hcr := pq0.arg hc0
      have hlt' : (i : Int) < (n : Int) := by omega
      clear hc0 hwf inv pq0 hc2 hmt0
      go_upto_region 10 with (fail)
      clear hcr
      have KB1 : KbAt (wr.alloc (.cells #[.int .u8 10, .int .u8 0, .int .u8 0, .int .u8 N] 45)) wr.heap.size 10 0 0 N := ⟨heap_alloc_new wr _⟩
      have PQ1 := PQr.out.fr0 ((Fr.refl (fun _ => False) wr).alloc (.cells #[.int .u8 10, .int .u8 0, .int .u8 0, .int .u8 N] 45))
      have NIB := Lib.hid (show ¬ (wr.heap.size = g ∨ wr.heap.size = m ∨ lv.ownBlock = some wr.heap.size) from fun e => by
        have h1 := lt_of_block PQr.out.p.pa.blk
        have h2 := PQr.out.p.pa.map.lt
        rcases e with e | e | e
        · omega
        · omega
        · have := (PQr.out.p.sl.lt _ e).2; omega)
      have NIR := Lib.hid (show ¬ (wr.heap.size = gr ∨ rv.ownBlock = some wr.heap.size) from fun e => by
        have h1 := lt_of_block PQr.out.r.blk
        rcases e with e | e
        · omega
        · have := (PQr.out.r.sl.lt _ e).2; omega)
      generalize wr.alloc (.cells #[.int .u8 10, .int .u8 0, .int .u8 0, .int .u8 N] 45) = w1 at KB1 PQ1 ⊢
      obtain ⟨ib, hib⟩ : ∃ ib, wr.heap.size = ib := ⟨_, rfl⟩
      rw [hib] at KB1 NIB NIR ⊢
      clear hib
      have c0 := KB1.cells 0 _ rfl
      have c1 := KB1.cells 1 _ rfl
      have c2 := KB1.cells 2 _ rfl
      have c3 := KB1.cells 3 _ rfl
      simp only [Nat.zero_add] at c0 c1 c2 c3
      have PQ1' := Lib.hid PQ1
      have KB1' := Lib.hid KB1
      obtain ⟨x, hx⟩ : ∃ x, (lki L ⟨10, 0, 0, N⟩).getD 256 = x := ⟨_, rfl⟩
      have HX := Lib.hid hx
      clear PQ1 KB1 hx
      go_upto_region 11 with (go_at_call 18; refine (find18 g m L lv 10 0 0 N w1 HIP.out PQ1'.out.p.pa).mono ?_; rw [HX.out]; rintro e w2 ⟨rfl, f2⟩; have F2 := Lib.hid f2; clear f2)
      clear c0 c1 c2 c3
      have PQ2 := Lib.hid (PQ1'.out.fr0 F2.out)
      have KB2 := Lib.hid (KB1'.out.fr F2.out (fun e => e))
      have c2 := PQ2.out.arg HC2.out
      go_upto_if 41 with (fail)
      clear c2 PQr PQ1' KB1' F2
      go_cut [] (fun wc => PqEx w g m gr wc ∧ KbAt wc ib 10 0 0 N)
      case first =>
        cases fd
        · go_upto_region 12 with (fail)
          have PQ3 := PQ2
          have KB3 := KB2
          obtain ⟨w3, hw3⟩ : ∃ w3, w3 = w2 := ⟨_, rfl⟩
          subst hw3
          have hmt0 := HMT.out
          have MT3 := Lib.hid (PQ3.out.arg hmt0)
          have hil : i < n := hlt
          cases hyes : learns L ⟨10, 0, 0, N⟩ mt
          · as_aux_lemma =>
            have HY := Lib.hid hyes
            have HYR := Lib.hid (show learns R ⟨10, 0, 0, N⟩ mt = false by rw [← HV.out.learns]; exact hyes)
            clear hyes
            refine kr_start [(1, fun W => W.rangeAt ib 0 [.int .u8 10, .int .u8 0, .int .u8 0, .int .u8 N]), (6, fun W => W.cell? ⟨lb, loff + i * 3 + 1, none⟩ = some (.int .i64 mt))] (by kernel_rfl) (by kernel_rfl) ?_
            refine kr_find 0 rfl (by kernel_rfl) (by kernel_rfl) (by kernel_rfl) (fun _ _ _ _ h => h) (by rfl) trivial ?_
            apply Exists.intro; apply And.intro
            · intro w' hS K hK
              clear hS
              go_light
              go_simp
              exact hK.out
            try simp only [Act.put, List.getElem_toArray, List.getElem_cons_zero, List.getElem_cons_succ, List.setIfInBounds_toArray, List.set_cons_zero, List.set_cons_succ]
            refine kr_take 1 rfl (by kernel_rfl) (by kernel_rfl) (by kernel_rfl) (fun _ _ _ h => h) (yieldsIf_load_mid (by rfl) 45 _ rfl ib 0 rfl [.int .u8 10, .int .u8 0, .int .u8 0, .int .u8 N] _ (fun _ h => h) Try.underlying45 rfl (by kernel_rfl)) (show _ from KB3.out.cells) ?_
            try simp only [Act.put, List.getElem_toArray, List.getElem_cons_zero, List.getElem_cons_succ, List.setIfInBounds_toArray, List.set_cons_zero, List.set_cons_succ]
            refine kr_find 2 rfl (by kernel_rfl) (by kernel_rfl) (by kernel_rfl) (fun _ _ _ _ h => h) (by rfl) trivial ?_
            apply Exists.intro; apply And.intro
            · intro w' hS K hK
              clear hS
              go_light
              go_simp
              exact hK.out
            try simp only [Act.put, List.getElem_toArray, List.getElem_cons_zero, List.getElem_cons_succ, List.setIfInBounds_toArray, List.set_cons_zero, List.set_cons_succ]
            refine kr_find 3 rfl (by kernel_rfl) (by kernel_rfl) (by kernel_rfl) (fun _ _ _ _ h => h) (by rfl) trivial ?_
            apply Exists.intro; apply And.intro
            · intro w' hS K hK
              clear hS
              go_light
              go_simp
              exact hK.out
            try simp only [Act.put, List.getElem_toArray, List.getElem_cons_zero, List.getElem_cons_succ, List.setIfInBounds_toArray, List.set_cons_zero, List.set_cons_succ]
            refine kr_find 4 rfl (by kernel_rfl) (by kernel_rfl) (by kernel_rfl) (fun _ _ _ _ h => h) (by rfl) trivial ?_
            apply Exists.intro; apply And.intro
            · intro w' hS K hK
              clear hS
              go_light
              go_simp
              exact hK.out
            try simp only [Act.put, List.getElem_toArray, List.getElem_cons_zero, List.getElem_cons_succ, List.setIfInBounds_toArray, List.set_cons_zero, List.set_cons_succ]
            refine kr_find 5 rfl (by kernel_rfl) (by kernel_rfl) (by kernel_rfl) (fun _ _ _ _ h => h) (by rfl) trivial ?_
            apply Exists.intro; apply And.intro
            · intro w' hS K hK
              clear hS
              go_light
              go_simp
              exact hK.out
            try simp only [Act.put, List.getElem_toArray, List.getElem_cons_zero, List.getElem_cons_succ, List.setIfInBounds_toArray, List.set_cons_zero, List.set_cons_succ]
            refine kr_find 6 rfl (by kernel_rfl) (by kernel_rfl) (by kernel_rfl) (fun _ _ _ _ h => h) (by rfl) (show _ from MT3.out) ?_
            apply Exists.intro; apply And.intro
            · intro w' hS K hK
              have hS : w'.cell? ⟨lb, loff + i * 3 + 1, none⟩ = some (.int .i64 mt) := hS
              go_light
              go_simp
              exact hK.out
            try simp only [Act.put, List.getElem_toArray, List.getElem_cons_zero, List.getElem_cons_succ, List.setIfInBounds_toArray, List.set_cons_zero, List.set_cons_succ]
            refine kr_one 7 (by kernel_rfl) rfl (by rfl) (fun K hK => ?_)
            go_simp
            go_at_call 19
            refine (learn19_no g m L line lv 10 0 0 N mt _ HIP.out (PQ3.out.p.fr (Fr.refl (fun _ => False) w3).drew) HY.out).mono ?_
            rintro e w5 ⟨rfl, f5⟩
            have PQ5 := Lib.hid ((PQ3.out.fr0 (Fr.refl (fun _ => False) w3).drew).fr0 f5)
            have KB5 := Lib.hid ((KB3.out.fr (Fr.refl (fun _ => False) w3).drew (fun e => e)).fr f5 (fun e => e))
            have MT5 := Lib.hid (PQ5.out.arg hmt0)
            clear f5
            refine hK.out _ _ ⟨.inl (by kernel_rfl), .inl (by kernel_rfl), trivial⟩ ?_
            clear hK K
            try simp only [Act.put, List.getElem_toArray, List.getElem_cons_zero, List.getElem_cons_succ, List.setIfInBounds_toArray, List.set_cons_zero, List.set_cons_succ]
            refine kr_find 8 rfl (by kernel_rfl) (by kernel_rfl) (by kernel_rfl) (fun _ _ _ _ h => h) (by rfl) trivial ?_
            apply Exists.intro; apply And.intro
            · intro w' hS K hK
              clear hS
              go_light
              go_simp
              exact hK.out
            try simp only [Act.put, List.getElem_toArray, List.getElem_cons_zero, List.getElem_cons_succ, List.setIfInBounds_toArray, List.set_cons_zero, List.set_cons_succ]
            refine kr_done (by kernel_rfl) ?_ _
            go_upto_region 13 with (fail)
            refine kr_start [(2, fun W => W.rangeAt ib 0 [.int .u8 10, .int .u8 0, .int .u8 0, .int .u8 N]), (7, fun W => W.cell? ⟨lb, loff + i * 3 + 1, none⟩ = some (.int .i64 mt))] (by kernel_rfl) (by kernel_rfl) ?_
            refine kr_find 0 rfl (by kernel_rfl) (by kernel_rfl) (by kernel_rfl) (fun _ _ _ _ h => h) (by rfl) trivial ?_
            apply Exists.intro; apply And.intro
            · intro w' hS K hK
              clear hS
              go_light
              go_simp
              exact hK.out
            try simp only [Act.put, List.getElem_toArray, List.getElem_cons_zero, List.getElem_cons_succ, List.setIfInBounds_toArray, List.set_cons_zero, List.set_cons_succ]
            refine kr_find 1 rfl (by kernel_rfl) (by kernel_rfl) (by kernel_rfl) (fun _ _ _ _ h => h) (by rfl) trivial ?_
            apply Exists.intro; apply And.intro
            · intro w' hS K hK
              clear hS
              go_light
              go_simp
              exact hK.out
            try simp only [Act.put, List.getElem_toArray, List.getElem_cons_zero, List.getElem_cons_succ, List.setIfInBounds_toArray, List.set_cons_zero, List.set_cons_succ]
            refine kr_take 2 rfl (by kernel_rfl) (by kernel_rfl) (by kernel_rfl) (fun _ _ _ h => h) (yieldsIf_load_mid (by rfl) 45 _ rfl ib 0 rfl [.int .u8 10, .int .u8 0, .int .u8 0, .int .u8 N] _ (fun _ h => h) Try.underlying45 rfl (by kernel_rfl)) (show _ from KB5.out.cells) ?_
            try simp only [Act.put, List.getElem_toArray, List.getElem_cons_zero, List.getElem_cons_succ, List.setIfInBounds_toArray, List.set_cons_zero, List.set_cons_succ]
            refine kr_find 3 rfl (by kernel_rfl) (by kernel_rfl) (by kernel_rfl) (fun _ _ _ _ h => h) (by rfl) trivial ?_
            apply Exists.intro; apply And.intro
            · intro w' hS K hK
              clear hS
              go_light
              go_simp
              exact hK.out
            try simp only [Act.put, List.getElem_toArray, List.getElem_cons_zero, List.getElem_cons_succ, List.setIfInBounds_toArray, List.set_cons_zero, List.set_cons_succ]
            refine kr_find 4 rfl (by kernel_rfl) (by kernel_rfl) (by kernel_rfl) (fun _ _ _ _ h => h) (by rfl) trivial ?_
            apply Exists.intro; apply And.intro
            · intro w' hS K hK
              clear hS
              go_light
              go_simp
              exact hK.out
            try simp only [Act.put, List.getElem_toArray, List.getElem_cons_zero, List.getElem_cons_succ, List.setIfInBounds_toArray, List.set_cons_zero, List.set_cons_succ]
            refine kr_find 5 rfl (by kernel_rfl) (by kernel_rfl) (by kernel_rfl) (fun _ _ _ _ h => h) (by rfl) trivial ?_
            apply Exists.intro; apply And.intro
            · intro w' hS K hK
              clear hS
              go_light
              go_simp
              exact hK.out
            try simp only [Act.put, List.getElem_toArray, List.getElem_cons_zero, List.getElem_cons_succ, List.setIfInBounds_toArray, List.set_cons_zero, List.set_cons_succ]
            refine kr_find 6 rfl (by kernel_rfl) (by kernel_rfl) (by kernel_rfl) (fun _ _ _ _ h => h) (by rfl) trivial ?_
            apply Exists.intro; apply And.intro
            · intro w' hS K hK
              clear hS
              go_light
              go_simp
              exact hK.out
            try simp only [Act.put, List.getElem_toArray, List.getElem_cons_zero, List.getElem_cons_succ, List.setIfInBounds_toArray, List.set_cons_zero, List.set_cons_succ]
            refine kr_find 7 rfl (by kernel_rfl) (by kernel_rfl) (by kernel_rfl) (fun _ _ _ _ h => h) (by rfl) (show _ from MT5.out) ?_
            apply Exists.intro; apply And.intro
            · intro w' hS K hK
              have hS : w'.cell? ⟨lb, loff + i * 3 + 1, none⟩ = some (.int .i64 mt) := hS
              go_light
              go_simp
              exact hK.out
            try simp only [Act.put, List.getElem_toArray, List.getElem_cons_zero, List.getElem_cons_succ, List.setIfInBounds_toArray, List.set_cons_zero, List.set_cons_succ]
            refine kr_one 8 (by kernel_rfl) rfl (by rfl) (fun K hK => ?_)
            go_simp
            go_at_call 20
            refine (rlearn20_no gr R rv 10 0 0 N mt _ HIP.out (PQ5.out.r.fr (Fr.refl (fun _ => False) w5).drew) (by have := HV.out.rlen; have := HV.out.most; omega) HYR.out).mono ?_
            rintro e w6 ⟨rfl, f6⟩
            have PQ6 := Lib.hid ((PQ5.out.fr0 (Fr.refl (fun _ => False) w5).drew).fr0 f6)
            have KB6 := Lib.hid ((KB5.out.fr (Fr.refl (fun _ => False) w5).drew (fun e => e)).fr f6 (fun e => e))
            clear f6
            refine hK.out _ _ ⟨.inl (by kernel_rfl), .inl (by kernel_rfl), trivial⟩ ?_
            clear hK K
            try simp only [Act.put, List.getElem_toArray, List.getElem_cons_zero, List.getElem_cons_succ, List.setIfInBounds_toArray, List.set_cons_zero, List.set_cons_succ]
            refine kr_find 9 rfl (by kernel_rfl) (by kernel_rfl) (by kernel_rfl) (fun _ _ _ _ h => h) (by rfl) trivial ?_
            apply Exists.intro; apply And.intro
            · intro w' hS K hK
              clear hS
              go_light
              go_simp
              exact hK.out
            try simp only [Act.put, List.getElem_toArray, List.getElem_cons_zero, List.getElem_cons_succ, List.setIfInBounds_toArray, List.set_cons_zero, List.set_cons_succ]
            refine kr_find 10 rfl (by kernel_rfl) (by kernel_rfl) (by kernel_rfl) (fun _ _ _ _ h => h) (by rfl) trivial ?_
            apply Exists.intro; apply And.intro
            · intro w' hS K hK
              clear hS
              go_light
              go_simp
              exact hK.out
            try simp only [Act.put, List.getElem_toArray, List.getElem_cons_zero, List.getElem_cons_succ, List.setIfInBounds_toArray, List.set_cons_zero, List.set_cons_succ]
            refine kr_find 11 rfl (by kernel_rfl) (by kernel_rfl) (by kernel_rfl) (fun _ _ _ _ h => h) (by rfl) trivial ?_
            apply Exists.intro; apply And.intro
            · intro w' hS K hK
              clear hS
              go_light
              go_simp
              exact hK.out
            try simp only [Act.put, List.getElem_toArray, List.getElem_cons_zero, List.getElem_cons_succ, List.setIfInBounds_toArray, List.set_cons_zero, List.set_cons_succ]
            refine kr_find 12 rfl (by kernel_rfl) (by kernel_rfl) (by kernel_rfl) (fun _ _ _ _ h => h) (by rfl) trivial ?_
            apply Exists.intro; apply And.intro
            · intro w' hS K hK
              clear hS
              go_light
              go_simp
              exact hK.out
            try simp only [Act.put, List.getElem_toArray, List.getElem_cons_zero, List.getElem_cons_succ, List.setIfInBounds_toArray, List.set_cons_zero, List.set_cons_succ]
            refine kr_take 13 rfl (by kernel_rfl) (by kernel_rfl) (by kernel_rfl) (fun _ _ _ h => h) (kr_not (by rfl)) trivial ?_
            try simp only [Act.put, List.getElem_toArray, List.getElem_cons_zero, List.getElem_cons_succ, List.setIfInBounds_toArray, List.set_cons_zero, List.set_cons_succ]
            refine kr_take 14 rfl (by kernel_rfl) (by kernel_rfl) (by kernel_rfl) (fun _ _ _ h => h) (kr_not (by rfl)) trivial ?_
            try simp only [Act.put, List.getElem_toArray, List.getElem_cons_zero, List.getElem_cons_succ, List.setIfInBounds_toArray, List.set_cons_zero, List.set_cons_succ]
            refine kr_take 15 rfl (by kernel_rfl) (by kernel_rfl) (by kernel_rfl) (fun _ _ _ h => h) (kr_not (by rfl)) trivial ?_
            try simp only [Act.put, List.getElem_toArray, List.getElem_cons_zero, List.getElem_cons_succ, List.setIfInBounds_toArray, List.set_cons_zero, List.set_cons_succ]
            refine kr_take 16 rfl (by kernel_rfl) (by kernel_rfl) (by kernel_rfl) (fun _ _ _ h => h) (kr_not (by rfl)) trivial ?_
            try simp only [Act.put, List.getElem_toArray, List.getElem_cons_zero, List.getElem_cons_succ, List.setIfInBounds_toArray, List.set_cons_zero, List.set_cons_succ]
            refine kr_take 17 rfl (by kernel_rfl) (by kernel_rfl) (by kernel_rfl) (fun _ _ _ h => h) (kr_not (by rfl)) trivial ?_
            try simp only [Act.put, List.getElem_toArray, List.getElem_cons_zero, List.getElem_cons_succ, List.setIfInBounds_toArray, List.set_cons_zero, List.set_cons_succ]
            refine kr_take 18 rfl (by kernel_rfl) (by kernel_rfl) (by kernel_rfl) (fun _ _ _ h => h) (kr_not (by rfl)) trivial ?_
            try simp only [Act.put, List.getElem_toArray, List.getElem_cons_zero, List.getElem_cons_succ, List.setIfInBounds_toArray, List.set_cons_zero, List.set_cons_succ]
            refine kr_take 19 rfl (by kernel_rfl) (by kernel_rfl) (by kernel_rfl) (fun _ _ _ h => h) (kr_not (by rfl)) trivial ?_
            try simp only [Act.put, List.getElem_toArray, List.getElem_cons_zero, List.getElem_cons_succ, List.setIfInBounds_toArray, List.set_cons_zero, List.set_cons_succ]
            refine kr_take 20 rfl (by kernel_rfl) (by kernel_rfl) (by kernel_rfl) (fun _ _ _ h => h) (kr_not (by rfl)) trivial ?_
            try simp only [Act.put, List.getElem_toArray, List.getElem_cons_zero, List.getElem_cons_succ, List.setIfInBounds_toArray, List.set_cons_zero, List.set_cons_succ]
            refine kr_take 21 rfl (by kernel_rfl) (by kernel_rfl) (by kernel_rfl) (fun _ _ _ h => h) (kr_not (by rfl)) trivial ?_
            try simp only [Act.put, List.getElem_toArray, List.getElem_cons_zero, List.getElem_cons_succ, List.setIfInBounds_toArray, List.set_cons_zero, List.set_cons_succ]
            refine kr_take 22 rfl (by kernel_rfl) (by kernel_rfl) (by kernel_rfl) (fun _ _ _ h => h) (kr_not (by rfl)) trivial ?_
            try simp only [Act.put, List.getElem_toArray, List.getElem_cons_zero, List.getElem_cons_succ, List.setIfInBounds_toArray, List.set_cons_zero, List.set_cons_succ]
            refine kr_take 23 rfl (by kernel_rfl) (by kernel_rfl) (by kernel_rfl) (fun _ _ _ h => h) (kr_not (by rfl)) trivial ?_
            try simp only [Act.put, List.getElem_toArray, List.getElem_cons_zero, List.getElem_cons_succ, List.setIfInBounds_toArray, List.set_cons_zero, List.set_cons_succ]
            refine kr_take 24 rfl (by kernel_rfl) (by kernel_rfl) (by kernel_rfl) (fun _ _ _ h => h) (kr_not (by rfl)) trivial ?_
            try simp only [Act.put, List.getElem_toArray, List.getElem_cons_zero, List.getElem_cons_succ, List.setIfInBounds_toArray, List.set_cons_zero, List.set_cons_succ]
            refine kr_take 25 rfl (by kernel_rfl) (by kernel_rfl) (by kernel_rfl) (fun _ _ _ h => h) (kr_not (by rfl)) trivial ?_
            try simp only [Act.put, List.getElem_toArray, List.getElem_cons_zero, List.getElem_cons_succ, List.setIfInBounds_toArray, List.set_cons_zero, List.set_cons_succ]
            refine kr_take 26 rfl (by kernel_rfl) (by kernel_rfl) (by kernel_rfl) (fun _ _ _ h => h) (kr_not (by rfl)) trivial ?_
            try simp only [Act.put, List.getElem_toArray, List.getElem_cons_zero, List.getElem_cons_succ, List.setIfInBounds_toArray, List.set_cons_zero, List.set_cons_succ]
            refine kr_take 27 rfl (by kernel_rfl) (by kernel_rfl) (by kernel_rfl) (fun _ _ _ h => h) (kr_not (by rfl)) trivial ?_
            try simp only [Act.put, List.getElem_toArray, List.getElem_cons_zero, List.getElem_cons_succ, List.setIfInBounds_toArray, List.set_cons_zero, List.set_cons_succ]
            refine kr_take 28 rfl (by kernel_rfl) (by kernel_rfl) (by kernel_rfl) (fun _ _ _ h => h) (kr_not (by rfl)) trivial ?_
            try simp only [Act.put, List.getElem_toArray, List.getElem_cons_zero, List.getElem_cons_succ, List.setIfInBounds_toArray, List.set_cons_zero, List.set_cons_succ]
            refine kr_take 29 rfl (by kernel_rfl) (by kernel_rfl) (by kernel_rfl) (fun _ _ _ h => h) (kr_not (by rfl)) trivial ?_
            try simp only [Act.put, List.getElem_toArray, List.getElem_cons_zero, List.getElem_cons_succ, List.setIfInBounds_toArray, List.set_cons_zero, List.set_cons_succ]
            refine kr_take 30 rfl (by kernel_rfl) (by kernel_rfl) (by kernel_rfl) (fun _ _ _ h => h) (kr_not (by rfl)) trivial ?_
            try simp only [Act.put, List.getElem_toArray, List.getElem_cons_zero, List.getElem_cons_succ, List.setIfInBounds_toArray, List.set_cons_zero, List.set_cons_succ]
            refine kr_take 31 rfl (by kernel_rfl) (by kernel_rfl) (by kernel_rfl) (fun _ _ _ h => h) (kr_not (by rfl)) trivial ?_
            try simp only [Act.put, List.getElem_toArray, List.getElem_cons_zero, List.getElem_cons_succ, List.setIfInBounds_toArray, List.set_cons_zero, List.set_cons_succ]
            refine kr_take 32 rfl (by kernel_rfl) (by kernel_rfl) (by kernel_rfl) (fun _ _ _ h => h) (kr_not (by rfl)) trivial ?_
            try simp only [Act.put, List.getElem_toArray, List.getElem_cons_zero, List.getElem_cons_succ, List.setIfInBounds_toArray, List.set_cons_zero, List.set_cons_succ]
            refine kr_take 33 rfl (by kernel_rfl) (by kernel_rfl) (by kernel_rfl) (fun _ _ _ h => h) (kr_not (by rfl)) trivial ?_
            try simp only [Act.put, List.getElem_toArray, List.getElem_cons_zero, List.getElem_cons_succ, List.setIfInBounds_toArray, List.set_cons_zero, List.set_cons_succ]
            refine kr_take 34 rfl (by kernel_rfl) (by kernel_rfl) (by kernel_rfl) (fun _ _ _ h => h) (kr_not (by rfl)) trivial ?_
            try simp only [Act.put, List.getElem_toArray, List.getElem_cons_zero, List.getElem_cons_succ, List.setIfInBounds_toArray, List.set_cons_zero, List.set_cons_succ]
            refine kr_take 35 rfl (by kernel_rfl) (by kernel_rfl) (by kernel_rfl) (fun _ _ _ h => h) (kr_not (by rfl)) trivial ?_
            try simp only [Act.put, List.getElem_toArray, List.getElem_cons_zero, List.getElem_cons_succ, List.setIfInBounds_toArray, List.set_cons_zero, List.set_cons_succ]
            refine kr_take 36 rfl (by kernel_rfl) (by kernel_rfl) (by kernel_rfl) (fun _ _ _ h => h) (kr_not (by rfl)) trivial ?_
            try simp only [Act.put, List.getElem_toArray, List.getElem_cons_zero, List.getElem_cons_succ, List.setIfInBounds_toArray, List.set_cons_zero, List.set_cons_succ]
            refine kr_take 37 rfl (by kernel_rfl) (by kernel_rfl) (by kernel_rfl) (fun _ _ _ h => h) (kr_not (by rfl)) trivial ?_
            try simp only [Act.put, List.getElem_toArray, List.getElem_cons_zero, List.getElem_cons_succ, List.setIfInBounds_toArray, List.set_cons_zero, List.set_cons_succ]
            refine kr_take 38 rfl (by kernel_rfl) (by kernel_rfl) (by kernel_rfl) (fun _ _ _ h => h) (kr_not (by rfl)) trivial ?_
            try simp only [Act.put, List.getElem_toArray, List.getElem_cons_zero, List.getElem_cons_succ, List.setIfInBounds_toArray, List.set_cons_zero, List.set_cons_succ]
            refine kr_find 39 rfl (by kernel_rfl) (by kernel_rfl) (by kernel_rfl) (fun _ _ _ _ h => h) (by rfl) trivial ?_
            apply Exists.intro; apply And.intro
            · intro w' hS K hK
              clear hS
              go_light
              go_simp
              exact hK.out
            try simp only [Act.put, List.getElem_toArray, List.getElem_cons_zero, List.getElem_cons_succ, List.setIfInBounds_toArray, List.set_cons_zero, List.set_cons_succ]
            refine kr_find 40 rfl (by kernel_rfl) (by kernel_rfl) (by kernel_rfl) (fun _ _ _ _ h => h) (by rfl) trivial ?_
            apply Exists.intro; apply And.intro
            · intro w' hS K hK
              clear hS
              go_light
              go_simp
              exact hK.out
            try simp only [Act.put, List.getElem_toArray, List.getElem_cons_zero, List.getElem_cons_succ, List.setIfInBounds_toArray, List.set_cons_zero, List.set_cons_succ]
            refine kr_done (by kernel_rfl) ?_ _
            go_wp2_with fail
            go_meet
            exact ⟨⟨L, line, R, lv, rv, PQ6.out, HV.out⟩, KB6.out⟩
          · as_aux_lemma =>
            have HY := Lib.hid hyes
            have HYR := Lib.hid (show learns R ⟨10, 0, 0, N⟩ mt = true by rw [← HV.out.learns]; exact hyes)
            have h68 : 68 ≤ mt ∧ mt < x := by
              have := hyes
              unfold learns at this
              rw [HX.out] at this
              simpa using this
            obtain ⟨h68, hmx⟩ := h68
            have hdx : decide (x ≤ mt) = false := by simp; omega
            have hd68 : decide (mt < 68) = false := by simp; omega
            have HNX := Lib.hid (show PInv (lnNew L line ⟨10, 0, 0, N⟩ mt).1 (lnNew L line ⟨10, 0, 0, N⟩ mt).2 (rfNew R ⟨10, 0, 0, N⟩ mt) ∧ (lki (lnNew L line ⟨10, 0, 0, N⟩ mt).1 ⟨10, 0, 0, N⟩).getD 256 = mt from by
              obtain ⟨h1, h2⟩ := HV.out.next ⟨10, 0, 0, N⟩ mt
              exact ⟨h1, by rw [h2]; rfl⟩)
            clear hyes
            refine kr_start [(1, fun W => W.rangeAt ib 0 [.int .u8 10, .int .u8 0, .int .u8 0, .int .u8 N]), (6, fun W => W.cell? ⟨lb, loff + i * 3 + 1, none⟩ = some (.int .i64 mt))] (by kernel_rfl) (by kernel_rfl) ?_
            refine kr_find 0 rfl (by kernel_rfl) (by kernel_rfl) (by kernel_rfl) (fun _ _ _ _ h => h) (by rfl) trivial ?_
            apply Exists.intro; apply And.intro
            · intro w' hS K hK
              clear hS
              go_light
              go_simp
              exact hK.out
            try simp only [Act.put, List.getElem_toArray, List.getElem_cons_zero, List.getElem_cons_succ, List.setIfInBounds_toArray, List.set_cons_zero, List.set_cons_succ]
            refine kr_take 1 rfl (by kernel_rfl) (by kernel_rfl) (by kernel_rfl) (fun _ _ _ h => h) (yieldsIf_load_mid (by rfl) 45 _ rfl ib 0 rfl [.int .u8 10, .int .u8 0, .int .u8 0, .int .u8 N] _ (fun _ h => h) Try.underlying45 rfl (by kernel_rfl)) (show _ from KB3.out.cells) ?_
            try simp only [Act.put, List.getElem_toArray, List.getElem_cons_zero, List.getElem_cons_succ, List.setIfInBounds_toArray, List.set_cons_zero, List.set_cons_succ]
            refine kr_find 2 rfl (by kernel_rfl) (by kernel_rfl) (by kernel_rfl) (fun _ _ _ _ h => h) (by rfl) trivial ?_
            apply Exists.intro; apply And.intro
            · intro w' hS K hK
              clear hS
              go_light
              go_simp
              exact hK.out
            try simp only [Act.put, List.getElem_toArray, List.getElem_cons_zero, List.getElem_cons_succ, List.setIfInBounds_toArray, List.set_cons_zero, List.set_cons_succ]
            refine kr_find 3 rfl (by kernel_rfl) (by kernel_rfl) (by kernel_rfl) (fun _ _ _ _ h => h) (by rfl) trivial ?_
            apply Exists.intro; apply And.intro
            · intro w' hS K hK
              clear hS
              go_light
              go_simp
              exact hK.out
            try simp only [Act.put, List.getElem_toArray, List.getElem_cons_zero, List.getElem_cons_succ, List.setIfInBounds_toArray, List.set_cons_zero, List.set_cons_succ]
            refine kr_find 4 rfl (by kernel_rfl) (by kernel_rfl) (by kernel_rfl) (fun _ _ _ _ h => h) (by rfl) trivial ?_
            apply Exists.intro; apply And.intro
            · intro w' hS K hK
              clear hS
              go_light
              go_simp
              exact hK.out
            try simp only [Act.put, List.getElem_toArray, List.getElem_cons_zero, List.getElem_cons_succ, List.setIfInBounds_toArray, List.set_cons_zero, List.set_cons_succ]
            refine kr_find 5 rfl (by kernel_rfl) (by kernel_rfl) (by kernel_rfl) (fun _ _ _ _ h => h) (by rfl) trivial ?_
            apply Exists.intro; apply And.intro
            · intro w' hS K hK
              clear hS
              go_light
              go_simp
              exact hK.out
            try simp only [Act.put, List.getElem_toArray, List.getElem_cons_zero, List.getElem_cons_succ, List.setIfInBounds_toArray, List.set_cons_zero, List.set_cons_succ]
            refine kr_find 6 rfl (by kernel_rfl) (by kernel_rfl) (by kernel_rfl) (fun _ _ _ _ h => h) (by rfl) (show _ from MT3.out) ?_
            apply Exists.intro; apply And.intro
            · intro w' hS K hK
              have hS : w'.cell? ⟨lb, loff + i * 3 + 1, none⟩ = some (.int .i64 mt) := hS
              go_light
              go_simp
              exact hK.out
            try simp only [Act.put, List.getElem_toArray, List.getElem_cons_zero, List.getElem_cons_succ, List.setIfInBounds_toArray, List.set_cons_zero, List.set_cons_succ]
            refine kr_one 7 (by kernel_rfl) rfl (by rfl) (fun K hK => ?_)
            go_simp
            go_at_call 19
            refine (learn19_yes g m L line lv 10 0 0 N mt _ HIP.out (PQ3.out.p.fr (Fr.refl (fun _ => False) w3).drew) HY.out HV.out.most (by have := HV.out.len; have := HV.out.most; omega)).mono ?_
            rintro e w5 ⟨rfl, lv', ln5, f5, ob5⟩
            have PQ5 := Lib.hid ((PQ3.out.fr0 (Fr.refl (fun _ => False) w3).drew).stepP ln5 f5 ob5)
            have KB5 := Lib.hid ((KB3.out.fr (Fr.refl (fun _ => False) w3).drew (fun e => e)).fr f5 NIB.out)
            have MT5 := Lib.hid (PQ5.out.arg hmt0)
            clear ln5 f5 ob5
            refine hK.out _ _ ⟨.inl (by kernel_rfl), .inl (by kernel_rfl), trivial⟩ ?_
            clear hK K
            try simp only [Act.put, List.getElem_toArray, List.getElem_cons_zero, List.getElem_cons_succ, List.setIfInBounds_toArray, List.set_cons_zero, List.set_cons_succ]
            refine kr_find 8 rfl (by kernel_rfl) (by kernel_rfl) (by kernel_rfl) (fun _ _ _ _ h => h) (by rfl) trivial ?_
            apply Exists.intro; apply And.intro
            · intro w' hS K hK
              clear hS
              go_light
              go_simp
              exact hK.out
            try simp only [Act.put, List.getElem_toArray, List.getElem_cons_zero, List.getElem_cons_succ, List.setIfInBounds_toArray, List.set_cons_zero, List.set_cons_succ]
            refine kr_done (by kernel_rfl) ?_ _
            go_upto_region 13 with (fail)
            refine kr_start [(2, fun W => W.rangeAt ib 0 [.int .u8 10, .int .u8 0, .int .u8 0, .int .u8 N]), (7, fun W => W.cell? ⟨lb, loff + i * 3 + 1, none⟩ = some (.int .i64 mt)), (14, fun W => W.rangeAt ib 0 [.int .u8 10, .int .u8 0, .int .u8 0, .int .u8 N]), (20, fun W => W.cell? ⟨lb, loff + i * 3 + 1, none⟩ = some (.int .i64 mt)), (27, fun W => W.cell? ⟨lb, loff + i * 3 + 1, none⟩ = some (.int .i64 mt)), (36, fun W => W.cell? ⟨lb, loff + i * 3 + 1, none⟩ = some (.int .i64 mt))] (by kernel_rfl) (by kernel_rfl) ?_
            refine kr_find 0 rfl (by kernel_rfl) (by kernel_rfl) (by kernel_rfl) (fun _ _ _ _ h => h) (by rfl) trivial ?_
            apply Exists.intro; apply And.intro
            · intro w' hS K hK
              clear hS
              go_light
              go_simp
              exact hK.out
            try simp only [Act.put, List.getElem_toArray, List.getElem_cons_zero, List.getElem_cons_succ, List.setIfInBounds_toArray, List.set_cons_zero, List.set_cons_succ]
            refine kr_find 1 rfl (by kernel_rfl) (by kernel_rfl) (by kernel_rfl) (fun _ _ _ _ h => h) (by rfl) trivial ?_
            apply Exists.intro; apply And.intro
            · intro w' hS K hK
              clear hS
              go_light
              go_simp
              exact hK.out
            try simp only [Act.put, List.getElem_toArray, List.getElem_cons_zero, List.getElem_cons_succ, List.setIfInBounds_toArray, List.set_cons_zero, List.set_cons_succ]
            refine kr_take 2 rfl (by kernel_rfl) (by kernel_rfl) (by kernel_rfl) (fun _ _ _ h => h) (yieldsIf_load_mid (by rfl) 45 _ rfl ib 0 rfl [.int .u8 10, .int .u8 0, .int .u8 0, .int .u8 N] _ (fun _ h => h) Try.underlying45 rfl (by kernel_rfl)) (show _ from KB5.out.cells) ?_
            try simp only [Act.put, List.getElem_toArray, List.getElem_cons_zero, List.getElem_cons_succ, List.setIfInBounds_toArray, List.set_cons_zero, List.set_cons_succ]
            refine kr_find 3 rfl (by kernel_rfl) (by kernel_rfl) (by kernel_rfl) (fun _ _ _ _ h => h) (by rfl) trivial ?_
            apply Exists.intro; apply And.intro
            · intro w' hS K hK
              clear hS
              go_light
              go_simp
              exact hK.out
            try simp only [Act.put, List.getElem_toArray, List.getElem_cons_zero, List.getElem_cons_succ, List.setIfInBounds_toArray, List.set_cons_zero, List.set_cons_succ]
            refine kr_find 4 rfl (by kernel_rfl) (by kernel_rfl) (by kernel_rfl) (fun _ _ _ _ h => h) (by rfl) trivial ?_
            apply Exists.intro; apply And.intro
            · intro w' hS K hK
              clear hS
              go_light
              go_simp
              exact hK.out
            try simp only [Act.put, List.getElem_toArray, List.getElem_cons_zero, List.getElem_cons_succ, List.setIfInBounds_toArray, List.set_cons_zero, List.set_cons_succ]
            refine kr_find 5 rfl (by kernel_rfl) (by kernel_rfl) (by kernel_rfl) (fun _ _ _ _ h => h) (by rfl) trivial ?_
            apply Exists.intro; apply And.intro
            · intro w' hS K hK
              clear hS
              go_light
              go_simp
              exact hK.out
            try simp only [Act.put, List.getElem_toArray, List.getElem_cons_zero, List.getElem_cons_succ, List.setIfInBounds_toArray, List.set_cons_zero, List.set_cons_succ]
            refine kr_find 6 rfl (by kernel_rfl) (by kernel_rfl) (by kernel_rfl) (fun _ _ _ _ h => h) (by rfl) trivial ?_
            apply Exists.intro; apply And.intro
            · intro w' hS K hK
              clear hS
              go_light
              go_simp
              exact hK.out
            try simp only [Act.put, List.getElem_toArray, List.getElem_cons_zero, List.getElem_cons_succ, List.setIfInBounds_toArray, List.set_cons_zero, List.set_cons_succ]
            refine kr_find 7 rfl (by kernel_rfl) (by kernel_rfl) (by kernel_rfl) (fun _ _ _ _ h => h) (by rfl) (show _ from MT5.out) ?_
            apply Exists.intro; apply And.intro
            · intro w' hS K hK
              have hS : w'.cell? ⟨lb, loff + i * 3 + 1, none⟩ = some (.int .i64 mt) := hS
              go_light
              go_simp
              exact hK.out
            try simp only [Act.put, List.getElem_toArray, List.getElem_cons_zero, List.getElem_cons_succ, List.setIfInBounds_toArray, List.set_cons_zero, List.set_cons_succ]
            refine kr_one 8 (by kernel_rfl) rfl (by rfl) (fun K hK => ?_)
            go_simp
            go_at_call 20
            refine (rlearn20_yes gr R rv 10 0 0 N mt _ HIP.out (PQ5.out.r.fr (Fr.refl (fun _ => False) w5).drew) (by have := HV.out.rlen; have := HV.out.most; omega) HYR.out).mono ?_
            rintro e w6 ⟨rfl, rv', rf6, f6, ob6⟩
            have PQ6 := Lib.hid ((PQ5.out.fr0 (Fr.refl (fun _ => False) w5).drew).stepR rf6 f6 ob6)
            have KB6 := Lib.hid ((KB5.out.fr (Fr.refl (fun _ => False) w5).drew (fun e => e)).fr f6 NIR.out)
            have MT6 := Lib.hid (PQ6.out.arg hmt0)
            clear rf6 f6 ob6
            refine hK.out _ _ ⟨.inl (by kernel_rfl), .inl (by kernel_rfl), .inr KB6.out.cells, .inr MT6.out, .inr MT6.out, .inr MT6.out, trivial⟩ ?_
            clear hK K
            try simp only [Act.put, List.getElem_toArray, List.getElem_cons_zero, List.getElem_cons_succ, List.setIfInBounds_toArray, List.set_cons_zero, List.set_cons_succ]
            refine kr_find 9 rfl (by kernel_rfl) (by kernel_rfl) (by kernel_rfl) (fun _ _ _ _ h => h) (by rfl) trivial ?_
            apply Exists.intro; apply And.intro
            · intro w' hS K hK
              clear hS
              go_light
              go_simp
              exact hK.out
            try simp only [Act.put, List.getElem_toArray, List.getElem_cons_zero, List.getElem_cons_succ, List.setIfInBounds_toArray, List.set_cons_zero, List.set_cons_succ]
            refine kr_find 10 rfl (by kernel_rfl) (by kernel_rfl) (by kernel_rfl) (fun _ _ _ _ h => h) (by rfl) trivial ?_
            apply Exists.intro; apply And.intro
            · intro w' hS K hK
              clear hS
              go_light
              go_simp
              exact hK.out
            try simp only [Act.put, List.getElem_toArray, List.getElem_cons_zero, List.getElem_cons_succ, List.setIfInBounds_toArray, List.set_cons_zero, List.set_cons_succ]
            refine kr_find 11 rfl (by kernel_rfl) (by kernel_rfl) (by kernel_rfl) (fun _ _ _ _ h => h) (by rfl) trivial ?_
            apply Exists.intro; apply And.intro
            · intro w' hS K hK
              clear hS
              go_light
              go_simp
              exact hK.out
            try simp only [Act.put, List.getElem_toArray, List.getElem_cons_zero, List.getElem_cons_succ, List.setIfInBounds_toArray, List.set_cons_zero, List.set_cons_succ]
            refine kr_find 12 rfl (by kernel_rfl) (by kernel_rfl) (by kernel_rfl) (fun _ _ _ _ h => h) (by rfl) trivial ?_
            apply Exists.intro; apply And.intro
            · intro w' hS K hK
              clear hS
              go_light
              go_simp
              exact hK.out
            try simp only [Act.put, List.getElem_toArray, List.getElem_cons_zero, List.getElem_cons_succ, List.setIfInBounds_toArray, List.set_cons_zero, List.set_cons_succ]
            refine kr_find 13 rfl (by kernel_rfl) (by kernel_rfl) (by kernel_rfl) (fun _ _ _ _ h => h) (by rfl) trivial ?_
            apply Exists.intro; apply And.intro
            · intro w' hS K hK
              clear hS
              go_light
              go_simp
              exact hK.out
            try simp only [Act.put, List.getElem_toArray, List.getElem_cons_zero, List.getElem_cons_succ, List.setIfInBounds_toArray, List.set_cons_zero, List.set_cons_succ]
            refine kr_take 14 rfl (by kernel_rfl) (by kernel_rfl) (by kernel_rfl) (fun _ _ _ h => h) (yieldsIf_load_mid (by rfl) 45 _ rfl ib 0 rfl [.int .u8 10, .int .u8 0, .int .u8 0, .int .u8 N] _ (fun _ h => h) Try.underlying45 rfl (by kernel_rfl)) (show _ from KB6.out.cells) ?_
            try simp only [Act.put, List.getElem_toArray, List.getElem_cons_zero, List.getElem_cons_succ, List.setIfInBounds_toArray, List.set_cons_zero, List.set_cons_succ]
            refine kr_find 16 rfl (by kernel_rfl) (by kernel_rfl) (by kernel_rfl) (fun _ _ _ _ h => h) (by rfl) trivial ?_
            apply Exists.intro; apply And.intro
            · intro w' hS K hK
              clear hS
              go_light
              go_simp
              exact hK.out
            try simp only [Act.put, List.getElem_toArray, List.getElem_cons_zero, List.getElem_cons_succ, List.setIfInBounds_toArray, List.set_cons_zero, List.set_cons_succ]
            refine kr_find 17 rfl (by kernel_rfl) (by kernel_rfl) (by kernel_rfl) (fun _ _ _ _ h => h) (by rfl) trivial ?_
            apply Exists.intro; apply And.intro
            · intro w' hS K hK
              clear hS
              go_light
              go_simp
              exact hK.out
            try simp only [Act.put, List.getElem_toArray, List.getElem_cons_zero, List.getElem_cons_succ, List.setIfInBounds_toArray, List.set_cons_zero, List.set_cons_succ]
            refine kr_find 18 rfl (by kernel_rfl) (by kernel_rfl) (by kernel_rfl) (fun _ _ _ _ h => h) (by rfl) trivial ?_
            apply Exists.intro; apply And.intro
            · intro w' hS K hK
              clear hS
              go_light
              go_simp
              exact hK.out
            try simp only [Act.put, List.getElem_toArray, List.getElem_cons_zero, List.getElem_cons_succ, List.setIfInBounds_toArray, List.set_cons_zero, List.set_cons_succ]
            refine kr_find 19 rfl (by kernel_rfl) (by kernel_rfl) (by kernel_rfl) (fun _ _ _ _ h => h) (by rfl) trivial ?_
            apply Exists.intro; apply And.intro
            · intro w' hS K hK
              clear hS
              go_light
              go_simp
              exact hK.out
            try simp only [Act.put, List.getElem_toArray, List.getElem_cons_zero, List.getElem_cons_succ, List.setIfInBounds_toArray, List.set_cons_zero, List.set_cons_succ]
            refine kr_find 20 rfl (by kernel_rfl) (by kernel_rfl) (by kernel_rfl) (fun _ _ _ _ h => h) (by rfl) (show _ from MT6.out) ?_
            apply Exists.intro; apply And.intro
            · intro w' hS K hK
              have hS : w'.cell? ⟨lb, loff + i * 3 + 1, none⟩ = some (.int .i64 mt) := hS
              go_light
              go_simp
              exact hK.out
            try simp only [Act.put, List.getElem_toArray, List.getElem_cons_zero, List.getElem_cons_succ, List.setIfInBounds_toArray, List.set_cons_zero, List.set_cons_succ]
            refine kr_one 15 (by kernel_rfl) rfl (by rfl) (fun K hK => ?_)
            go_simp
            go_at_call 18
            refine (find18 g m _ lv' 10 0 0 N _ HIP.out PQ6.out.p.pa).mono ?_
            rw [HNX.out.2]
            rintro e w7 ⟨rfl, f7⟩
            have PQ7 := Lib.hid (PQ6.out.fr0 f7)
            have KB7 := Lib.hid (KB6.out.fr f7 (fun e => e))
            have MT7 := Lib.hid (PQ7.out.arg hmt0)
            clear f7
            refine hK.out _ _ ⟨.inl (by kernel_rfl), .inl (by kernel_rfl), .inl (by kernel_rfl), .inr MT7.out, .inr MT7.out, .inr MT7.out, trivial⟩ ?_
            clear hK K
            try simp only [Act.put, List.getElem_toArray, List.getElem_cons_zero, List.getElem_cons_succ, List.setIfInBounds_toArray, List.set_cons_zero, List.set_cons_succ]
            refine kr_find 21 rfl (by kernel_rfl) (by kernel_rfl) (by kernel_rfl) (fun _ _ _ _ h => h) (by rfl) trivial ?_
            apply Exists.intro; apply And.intro
            · intro w' hS K hK
              clear hS
              go_light
              go_simp
              exact hK.out
            try simp only [Act.put, List.getElem_toArray, List.getElem_cons_zero, List.getElem_cons_succ, List.setIfInBounds_toArray, List.set_cons_zero, List.set_cons_succ]
            refine kr_find 22 rfl (by kernel_rfl) (by kernel_rfl) (by kernel_rfl) (fun _ _ _ _ h => h) (by rfl) trivial ?_
            apply Exists.intro; apply And.intro
            · intro w' hS K hK
              clear hS
              go_light
              go_simp
              exact hK.out
            try simp only [Act.put, List.getElem_toArray, List.getElem_cons_zero, List.getElem_cons_succ, List.setIfInBounds_toArray, List.set_cons_zero, List.set_cons_succ]
            refine kr_find 23 rfl (by kernel_rfl) (by kernel_rfl) (by kernel_rfl) (fun _ _ _ _ h => h) (by rfl) trivial ?_
            apply Exists.intro; apply And.intro
            · intro w' hS K hK
              clear hS
              go_light
              go_simp
              exact hK.out
            try simp only [Act.put, List.getElem_toArray, List.getElem_cons_zero, List.getElem_cons_succ, List.setIfInBounds_toArray, List.set_cons_zero, List.set_cons_succ]
            refine kr_find 24 rfl (by kernel_rfl) (by kernel_rfl) (by kernel_rfl) (fun _ _ _ _ h => h) (by rfl) trivial ?_
            apply Exists.intro; apply And.intro
            · intro w' hS K hK
              clear hS
              go_light
              go_simp
              exact hK.out
            try simp only [Act.put, List.getElem_toArray, List.getElem_cons_zero, List.getElem_cons_succ, List.setIfInBounds_toArray, List.set_cons_zero, List.set_cons_succ]
            refine kr_find 25 rfl (by kernel_rfl) (by kernel_rfl) (by kernel_rfl) (fun _ _ _ _ h => h) (by rfl) trivial ?_
            apply Exists.intro; apply And.intro
            · intro w' hS K hK
              clear hS
              go_light
              go_simp
              exact hK.out
            try simp only [Act.put, List.getElem_toArray, List.getElem_cons_zero, List.getElem_cons_succ, List.setIfInBounds_toArray, List.set_cons_zero, List.set_cons_succ]
            refine kr_find 26 rfl (by kernel_rfl) (by kernel_rfl) (by kernel_rfl) (fun _ _ _ _ h => h) (by rfl) trivial ?_
            apply Exists.intro; apply And.intro
            · intro w' hS K hK
              clear hS
              go_light
              go_simp
              exact hK.out
            try simp only [Act.put, List.getElem_toArray, List.getElem_cons_zero, List.getElem_cons_succ, List.setIfInBounds_toArray, List.set_cons_zero, List.set_cons_succ]
            refine kr_find 27 rfl (by kernel_rfl) (by kernel_rfl) (by kernel_rfl) (fun _ _ _ _ h => h) (by rfl) (show _ from MT7.out) ?_
            apply Exists.intro; apply And.intro
            · intro w' hS K hK
              have hS : w'.cell? ⟨lb, loff + i * 3 + 1, none⟩ = some (.int .i64 mt) := hS
              go_light
              go_simp
              exact hK.out
            try simp only [Act.put, List.getElem_toArray, List.getElem_cons_zero, List.getElem_cons_succ, List.setIfInBounds_toArray, List.set_cons_zero, List.set_cons_succ]
            refine kr_find 28 rfl (by kernel_rfl) (by kernel_rfl) (by kernel_rfl) (fun _ _ _ _ h => h) (by rfl) trivial ?_
            apply Exists.intro; apply And.intro
            · intro w' hS K hK
              clear hS
              go_light
              go_simp
              exact hK.out
            try simp only [Act.put, List.getElem_toArray, List.getElem_cons_zero, List.getElem_cons_succ, List.setIfInBounds_toArray, List.set_cons_zero, List.set_cons_succ]
            refine kr_find 29 rfl (by kernel_rfl) (by kernel_rfl) (by kernel_rfl) (fun _ _ _ _ h => h) (by rfl) trivial ?_
            apply Exists.intro; apply And.intro
            · intro w' hS K hK
              clear hS
              go_light
              go_simp
              exact hK.out
            try simp only [Act.put, List.getElem_toArray, List.getElem_cons_zero, List.getElem_cons_succ, List.setIfInBounds_toArray, List.set_cons_zero, List.set_cons_succ]
            refine kr_find 30 rfl (by kernel_rfl) (by kernel_rfl) (by kernel_rfl) (fun _ _ _ _ h => h) (by rfl) trivial ?_
            apply Exists.intro; apply And.intro
            · intro w' hS K hK
              clear hS
              go_light
              go_simp
              exact hK.out
            try simp only [Act.put, List.getElem_toArray, List.getElem_cons_zero, List.getElem_cons_succ, List.setIfInBounds_toArray, List.set_cons_zero, List.set_cons_succ]
            refine kr_find 31 rfl (by kernel_rfl) (by kernel_rfl) (by kernel_rfl) (fun _ _ _ _ h => h) (by rfl) trivial ?_
            apply Exists.intro; apply And.intro
            · intro w' hS K hK
              clear hS
              go_light
              go_simp
              exact hK.out
            try simp only [Act.put, List.getElem_toArray, List.getElem_cons_zero, List.getElem_cons_succ, List.setIfInBounds_toArray, List.set_cons_zero, List.set_cons_succ]
            refine kr_find 32 rfl (by kernel_rfl) (by kernel_rfl) (by kernel_rfl) (fun _ _ _ _ h => h) (by rfl) trivial ?_
            apply Exists.intro; apply And.intro
            · intro w' hS K hK
              clear hS
              go_light
              go_simp
              exact hK.out
            try simp only [Act.put, List.getElem_toArray, List.getElem_cons_zero, List.getElem_cons_succ, List.setIfInBounds_toArray, List.set_cons_zero, List.set_cons_succ]
            refine kr_find 33 rfl (by kernel_rfl) (by kernel_rfl) (by kernel_rfl) (fun _ _ _ _ h => h) (by rfl) trivial ?_
            apply Exists.intro; apply And.intro
            · intro w' hS K hK
              clear hS
              go_light
              go_simp
              exact hK.out
            try simp only [Act.put, List.getElem_toArray, List.getElem_cons_zero, List.getElem_cons_succ, List.setIfInBounds_toArray, List.set_cons_zero, List.set_cons_succ]
            refine kr_find 34 rfl (by kernel_rfl) (by kernel_rfl) (by kernel_rfl) (fun _ _ _ _ h => h) (by rfl) trivial ?_
            apply Exists.intro; apply And.intro
            · intro w' hS K hK
              clear hS
              go_light
              go_simp
              exact hK.out
            try simp only [Act.put, List.getElem_toArray, List.getElem_cons_zero, List.getElem_cons_succ, List.setIfInBounds_toArray, List.set_cons_zero, List.set_cons_succ]
            refine kr_find 35 rfl (by kernel_rfl) (by kernel_rfl) (by kernel_rfl) (fun _ _ _ _ h => h) (by rfl) trivial ?_
            apply Exists.intro; apply And.intro
            · intro w' hS K hK
              clear hS
              go_light
              go_simp
              exact hK.out
            try simp only [Act.put, List.getElem_toArray, List.getElem_cons_zero, List.getElem_cons_succ, List.setIfInBounds_toArray, List.set_cons_zero, List.set_cons_succ]
            refine kr_find 36 rfl (by kernel_rfl) (by kernel_rfl) (by kernel_rfl) (fun _ _ _ _ h => h) (by rfl) (show _ from MT7.out) ?_
            apply Exists.intro; apply And.intro
            · intro w' hS K hK
              have hS : w'.cell? ⟨lb, loff + i * 3 + 1, none⟩ = some (.int .i64 mt) := hS
              go_light
              go_simp
              exact hK.out
            try simp only [Act.put, List.getElem_toArray, List.getElem_cons_zero, List.getElem_cons_succ, List.setIfInBounds_toArray, List.set_cons_zero, List.set_cons_succ]
            refine kr_find 37 rfl (by kernel_rfl) (by kernel_rfl) (by kernel_rfl) (fun _ _ _ _ h => h) (by rfl) trivial ?_
            apply Exists.intro; apply And.intro
            · intro w' hS K hK
              clear hS
              go_light
              go_simp
              exact hK.out
            try simp only [Act.put, List.getElem_toArray, List.getElem_cons_zero, List.getElem_cons_succ, List.setIfInBounds_toArray, List.set_cons_zero, List.set_cons_succ]
            refine kr_find 38 rfl (by kernel_rfl) (by kernel_rfl) (by kernel_rfl) (fun _ _ _ _ h => h) (by rfl) trivial ?_
            apply Exists.intro; apply And.intro
            · intro w' hS K hK
              clear hS
              go_light
              go_simp
              exact hK.out
            try simp only [Act.put, List.getElem_toArray, List.getElem_cons_zero, List.getElem_cons_succ, List.setIfInBounds_toArray, List.set_cons_zero, List.set_cons_succ]
            refine kr_find 39 rfl (by kernel_rfl) (by kernel_rfl) (by kernel_rfl) (fun _ _ _ _ h => h) (by rfl) trivial ?_
            apply Exists.intro; apply And.intro
            · intro w' hS K hK
              clear hS
              go_light
              go_simp
              exact hK.out
            try simp only [Act.put, List.getElem_toArray, List.getElem_cons_zero, List.getElem_cons_succ, List.setIfInBounds_toArray, List.set_cons_zero, List.set_cons_succ]
            refine kr_find 40 rfl (by kernel_rfl) (by kernel_rfl) (by kernel_rfl) (fun _ _ _ _ h => h) (by rfl) trivial ?_
            apply Exists.intro; apply And.intro
            · intro w' hS K hK
              clear hS
              go_light
              go_simp
              exact hK.out
            try simp only [Act.put, List.getElem_toArray, List.getElem_cons_zero, List.getElem_cons_succ, List.setIfInBounds_toArray, List.set_cons_zero, List.set_cons_succ]
            refine kr_done (by kernel_rfl) ?_ _
            go_wp2_with fail
            go_meet
            exact ⟨⟨_, _, _, lv', rv', PQ7.out, HNX.out.1⟩, KB7.out⟩
        · go_wp2_with fail
          go_meet
          exact ⟨⟨L, line, R, lv, rv, PQ2.out, HV.out⟩, KB2.out⟩
      case rest =>
        as_aux_lemma =>
        obtain ⟨⟨L4, line4, R4, lv4, rv4, pq4, inv4⟩, kb4⟩ := hcut
        clear PQ2 KB2 HV HX NIB NIR
        clear lv rv
        clear R
        clear line
        clear L
        obtain ⟨L, hL⟩ : ∃ x, x = L4 := ⟨_, rfl⟩
        obtain ⟨line, hline⟩ : ∃ x, x = line4 := ⟨_, rfl⟩
        obtain ⟨R, hR⟩ : ∃ x, x = R4 := ⟨_, rfl⟩
        obtain ⟨lv, hlv⟩ : ∃ x, x = lv4 := ⟨_, rfl⟩
        obtain ⟨rv, hrv⟩ : ∃ x, x = rv4 := ⟨_, rfl⟩
        obtain ⟨w4, hw4⟩ : ∃ x, x = wc := ⟨_, rfl⟩
        subst hL; subst hline; subst hR; subst hlv; subst hrv; subst hw4
        have PQ4 := Lib.hid pq4
        have KB4 := Lib.hid kb4
        have HV := Lib.hid inv4
        clear pq4 kb4 inv4
        obtain ⟨wo, hwo⟩ : ∃ x, x = wr := ⟨_, rfl⟩
        subst hwo
        go_wp2_with fail
        go_loopw [10] (fun v wr => ∃ k : Nat, v = .int .i64 k ∧ k ≤ 260 ∧ Fr (fun _ => False) w4 wr) (fun v _ => 260 - (intOf v).toNat)
        case atStart => exact ⟨0, rfl, by omega, Fr.refl _ _⟩
        case round =>
          obtain ⟨k, rfl, hk, hf⟩ := hrel
          by_cases hk2 : k < 256
          · as_aux_lemma =>
            have hk3 : (k : Int) < 256 := by omega
            have hwk : IntKind.u8.wrap (k : Int) = k := by simp only [IntKind.wrap, IntKind.bits, IntKind.signed]; simp; omega
            have HIK := Lib.hid (show I4.ok ⟨10, 0, 0, k⟩ from ⟨rfl, rfl, rfl, by simp [Lit.wf, IntKind.min, IntKind.max, IntKind.signed, IntKind.bits]; omega⟩)
            obtain ⟨y, hy⟩ : ∃ y, (lki L ⟨10, 0, 0, k⟩).getD 256 = y := ⟨_, rfl⟩
            have HLK := Lib.hid hy
            have PQ5 := Lib.hid (PQ4.out.fr0 hf)
            have HF := Lib.hid hf
            clear hy hf
            go_wp2_with (first
              | (go_at_call 18; refine (find18 g m L lv 10 0 0 k _ HIK.out PQ5.out.p.pa).mono ?_; rw [HLK.out]; rintro e w6 ⟨rfl, f6⟩; have F6 := Lib.hid f6; clear f6)
              | (go_at_call 21; refine (rfind21 gr R rv 10 0 0 k w6 HIK.out (PQ5.out.r.fr F6.out) (by have := HV.out.rlen; have := HV.out.most; omega)).mono ?_; rw [← HV.out.look, HLK.out]; rintro e w7 ⟨rfl, f7⟩; have F7 := Lib.hid f7; clear f7))
            go_roundw
            case rel => exact ⟨k + 5, by go_num, by omega, HF.out.then' (F6.out.then' F7.out)⟩
            case measure => simp [intOf]; omega
          · as_aux_lemma =>
            have hk3 : ¬ (k : Int) < 256 := by omega
            have PQ8 := Lib.hid (PQ4.out.fr0 hf)
            have KB8 := Lib.hid (KB4.out.fr hf (fun e => e))
            obtain ⟨w8, hw8⟩ : ∃ x, x = wr := ⟨_, rfl⟩
            subst hw8
            clear hf
            obtain ⟨x, hx⟩ : ∃ x, (lki L ⟨10, 0, 0, N⟩).getD 256 = x := ⟨_, rfl⟩
            have HLK := Lib.hid hx
            clear hx
            obtain ⟨nl, hnl⟩ : ∃ nl, line.length = nl := ⟨_, rfl⟩
            have HLL := Lib.hid hnl
            have hnl8 : nl ≤ 8 := by have := HV.out.most; omega
            have hd8 : decide ((8 : Int) < (nl : Int)) = false := by simp; omega
            obtain ⟨RA, RC, hrv, _, _⟩ := PQ8.out.r.sl.form
            rw [HV.out.rlen, hnl] at hrv
            subst hrv
            clear hnl
            go_upto_region 20 with (fail)
            refine kr_start [(1, fun W => W.rangeAt ib 0 [.int .u8 10, .int .u8 0, .int .u8 0, .int .u8 N]), (4, fun W => W.rangeAt ib 0 [.int .u8 10, .int .u8 0, .int .u8 0, .int .u8 N]), (13, fun W => W.cell? ⟨gr, 0, none⟩ = some (.slice RA nl RC))] (by kernel_rfl) (by kernel_rfl) ?_
            refine kr_find 0 rfl (by kernel_rfl) (by kernel_rfl) (by kernel_rfl) (fun _ _ _ _ h => h) (by rfl) trivial ?_
            apply Exists.intro; apply And.intro
            · intro w' hS K hK
              clear hS
              go_light
              go_simp
              exact hK.out
            try simp only [Act.put, List.getElem_toArray, List.getElem_cons_zero, List.getElem_cons_succ, List.setIfInBounds_toArray, List.set_cons_zero, List.set_cons_succ]
            refine kr_take 1 rfl (by kernel_rfl) (by kernel_rfl) (by kernel_rfl) (fun _ _ _ h => h) (yieldsIf_load_mid (by rfl) 45 _ rfl ib 0 rfl [.int .u8 10, .int .u8 0, .int .u8 0, .int .u8 N] _ (fun _ h => h) Try.underlying45 rfl (by kernel_rfl)) (show _ from KB8.out.cells) ?_
            try simp only [Act.put, List.getElem_toArray, List.getElem_cons_zero, List.getElem_cons_succ, List.setIfInBounds_toArray, List.set_cons_zero, List.set_cons_succ]
            refine kr_find 3 rfl (by kernel_rfl) (by kernel_rfl) (by kernel_rfl) (fun _ _ _ _ h => h) (by rfl) trivial ?_
            apply Exists.intro; apply And.intro
            · intro w' hS K hK
              clear hS
              go_light
              go_simp
              exact hK.out
            try simp only [Act.put, List.getElem_toArray, List.getElem_cons_zero, List.getElem_cons_succ, List.setIfInBounds_toArray, List.set_cons_zero, List.set_cons_succ]
            refine kr_take 4 rfl (by kernel_rfl) (by kernel_rfl) (by kernel_rfl) (fun _ _ _ h => h) (yieldsIf_load_mid (by rfl) 45 _ rfl ib 0 rfl [.int .u8 10, .int .u8 0, .int .u8 0, .int .u8 N] _ (fun _ h => h) Try.underlying45 rfl (by kernel_rfl)) (show _ from KB8.out.cells) ?_
            try simp only [Act.put, List.getElem_toArray, List.getElem_cons_zero, List.getElem_cons_succ, List.setIfInBounds_toArray, List.set_cons_zero, List.set_cons_succ]
            refine kr_one 2 (by kernel_rfl) rfl (by rfl) (fun K hK => ?_)
            go_simp
            go_at_call 18
            refine (find18 g m _ lv 10 0 0 N _ HIP.out (PQ8.out.p.pa.fr (Fr.refl (fun _ => False) w8).drew)).mono ?_
            rw [HLK.out]
            rintro e w9 ⟨rfl, f9⟩
            have PQ9 := Lib.hid ((PQ8.out.fr0 (Fr.refl (fun _ => False) w8).drew).fr0 f9)
            have KB9 := Lib.hid ((KB8.out.fr (Fr.refl (fun _ => False) w8).drew (fun e => e)).fr f9 (fun e => e))
            clear f9
            refine hK.out _ _ ⟨.inl (by kernel_rfl), .inr KB9.out.cells, .inr PQ9.out.r.line, trivial⟩ ?_
            clear hK K
            try simp only [Act.put, List.getElem_toArray, List.getElem_cons_zero, List.getElem_cons_succ, List.setIfInBounds_toArray, List.set_cons_zero, List.set_cons_succ]
            refine kr_one 5 (by kernel_rfl) rfl (by rfl) (fun K hK => ?_)
            go_simp
            go_at_call 21
            refine (rfind21 gr R _ 10 0 0 N _ HIP.out PQ9.out.r (by have := HV.out.rlen; have := HV.out.most; omega)).mono ?_
            rw [← HV.out.look, HLK.out]
            rintro e w10 ⟨rfl, f10⟩
            have PQ10 := Lib.hid (PQ9.out.fr0 f10)
            clear f10
            refine hK.out _ _ ⟨.inl (by kernel_rfl), .inl (by kernel_rfl), .inr PQ10.out.r.line, trivial⟩ ?_
            clear hK K
            try simp only [Act.put, List.getElem_toArray, List.getElem_cons_zero, List.getElem_cons_succ, List.setIfInBounds_toArray, List.set_cons_zero, List.set_cons_succ]
            refine kr_find 6 rfl (by kernel_rfl) (by kernel_rfl) (by kernel_rfl) (fun _ _ _ _ h => h) (by rfl) trivial ?_
            apply Exists.intro; apply And.intro
            · intro w' hS K hK
              clear hS
              go_light
              go_simp
              exact hK.out
            try simp only [Act.put, List.getElem_toArray, List.getElem_cons_zero, List.getElem_cons_succ, List.setIfInBounds_toArray, List.set_cons_zero, List.set_cons_succ]
            refine kr_find 7 rfl (by kernel_rfl) (by kernel_rfl) (by kernel_rfl) (fun _ _ _ _ h => h) (by rfl) trivial ?_
            apply Exists.intro; apply And.intro
            · intro w' hS K hK
              clear hS
              go_light
              go_simp
              exact hK.out
            try simp only [Act.put, List.getElem_toArray, List.getElem_cons_zero, List.getElem_cons_succ, List.setIfInBounds_toArray, List.set_cons_zero, List.set_cons_succ]
            refine kr_find 8 rfl (by kernel_rfl) (by kernel_rfl) (by kernel_rfl) (fun _ _ _ _ h => h) (by rfl) trivial ?_
            apply Exists.intro; apply And.intro
            · intro w' hS K hK
              clear hS
              go_light
              go_simp
              exact hK.out
            try simp only [Act.put, List.getElem_toArray, List.getElem_cons_zero, List.getElem_cons_succ, List.setIfInBounds_toArray, List.set_cons_zero, List.set_cons_succ]
            refine kr_find 10 rfl (by kernel_rfl) (by kernel_rfl) (by kernel_rfl) (fun _ _ _ _ h => h) (by rfl) trivial ?_
            apply Exists.intro; apply And.intro
            · intro w' hS K hK
              clear hS
              go_light
              go_simp
              exact hK.out
            try simp only [Act.put, List.getElem_toArray, List.getElem_cons_zero, List.getElem_cons_succ, List.setIfInBounds_toArray, List.set_cons_zero, List.set_cons_succ]
            refine kr_find 11 rfl (by kernel_rfl) (by kernel_rfl) (by kernel_rfl) (fun _ _ _ _ h => h) (by rfl) trivial ?_
            apply Exists.intro; apply And.intro
            · intro w' hS K hK
              clear hS
              go_light
              go_simp
              exact hK.out
            try simp only [Act.put, List.getElem_toArray, List.getElem_cons_zero, List.getElem_cons_succ, List.setIfInBounds_toArray, List.set_cons_zero, List.set_cons_succ]
            refine kr_find 12 rfl (by kernel_rfl) (by kernel_rfl) (by kernel_rfl) (fun _ _ _ _ h => h) (by rfl) trivial ?_
            apply Exists.intro; apply And.intro
            · intro w' hS K hK
              clear hS
              go_light
              go_simp
              exact hK.out
            try simp only [Act.put, List.getElem_toArray, List.getElem_cons_zero, List.getElem_cons_succ, List.setIfInBounds_toArray, List.set_cons_zero, List.set_cons_succ]
            refine kr_find 13 rfl (by kernel_rfl) (by kernel_rfl) (by kernel_rfl) (fun _ _ _ _ h => h) (by rfl) (show _ from PQ10.out.r.line) ?_
            apply Exists.intro; apply And.intro
            · intro w' hS K hK
              have hS : w'.cell? ⟨gr, 0, none⟩ = some (.slice RA nl RC) := hS
              go_light
              go_simp
              exact hK.out
            try simp only [Act.put, List.getElem_toArray, List.getElem_cons_zero, List.getElem_cons_succ, List.setIfInBounds_toArray, List.set_cons_zero, List.set_cons_succ]
            refine kr_find 14 rfl (by kernel_rfl) (by kernel_rfl) (by kernel_rfl) (fun _ _ _ _ h => h) (by rfl) trivial ?_
            apply Exists.intro; apply And.intro
            · intro w' hS K hK
              clear hS
              go_light
              go_simp
              exact hK.out
            try simp only [Act.put, List.getElem_toArray, List.getElem_cons_zero, List.getElem_cons_succ, List.setIfInBounds_toArray, List.set_cons_zero, List.set_cons_succ]
            refine kr_one 9 (by kernel_rfl) rfl (by rfl) (fun K hK => ?_)
            go_simp
            go_at_call 22
            refine (len22 g m _ _ _ w10 PQ10.out.p).mono ?_
            rw [HLL.out]
            rintro e w11 ⟨rfl, hw11⟩
            have hw11 := hw11.symm
            subst hw11
            refine hK.out _ _ ⟨.inl (by kernel_rfl), .inl (by kernel_rfl), .inr PQ10.out.r.line, trivial⟩ ?_
            clear hK K
            try simp only [Act.put, List.getElem_toArray, List.getElem_cons_zero, List.getElem_cons_succ, List.setIfInBounds_toArray, List.set_cons_zero, List.set_cons_succ]
            refine kr_find 15 rfl (by kernel_rfl) (by kernel_rfl) (by kernel_rfl) (fun _ _ _ _ h => h) (by rfl) trivial ?_
            apply Exists.intro; apply And.intro
            · intro w' hS K hK
              clear hS
              go_light
              go_simp
              exact hK.out
            try simp only [Act.put, List.getElem_toArray, List.getElem_cons_zero, List.getElem_cons_succ, List.setIfInBounds_toArray, List.set_cons_zero, List.set_cons_succ]
            refine kr_find 16 rfl (by kernel_rfl) (by kernel_rfl) (by kernel_rfl) (fun _ _ _ _ h => h) (by rfl) trivial ?_
            apply Exists.intro; apply And.intro
            · intro w' hS K hK
              clear hS
              go_light
              go_simp
              exact hK.out
            try simp only [Act.put, List.getElem_toArray, List.getElem_cons_zero, List.getElem_cons_succ, List.setIfInBounds_toArray, List.set_cons_zero, List.set_cons_succ]
            refine kr_find 17 rfl (by kernel_rfl) (by kernel_rfl) (by kernel_rfl) (fun _ _ _ _ h => h) (by rfl) trivial ?_
            apply Exists.intro; apply And.intro
            · intro w' hS K hK
              clear hS
              go_light
              go_simp
              exact hK.out
            try simp only [Act.put, List.getElem_toArray, List.getElem_cons_zero, List.getElem_cons_succ, List.setIfInBounds_toArray, List.set_cons_zero, List.set_cons_succ]
            refine kr_find 18 rfl (by kernel_rfl) (by kernel_rfl) (by kernel_rfl) (fun _ _ _ _ h => h) (by rfl) trivial ?_
            apply Exists.intro; apply And.intro
            · intro w' hS K hK
              clear hS
              go_light
              go_simp
              exact hK.out
            try simp only [Act.put, List.getElem_toArray, List.getElem_cons_zero, List.getElem_cons_succ, List.setIfInBounds_toArray, List.set_cons_zero, List.set_cons_succ]
            refine kr_one 19 (by kernel_rfl) rfl (by rfl) (fun K hK => ?_)
            go_simp
            go_at_call 22
            refine (len22 g m _ _ _ w10 PQ10.out.p).mono ?_
            rw [HLL.out]
            rintro e w11 ⟨rfl, hw11⟩
            have hw11 := hw11.symm
            subst hw11
            refine hK.out _ _ ⟨.inl (by kernel_rfl), .inl (by kernel_rfl), .inl (by kernel_rfl), trivial⟩ ?_
            clear hK K
            try simp only [Act.put, List.getElem_toArray, List.getElem_cons_zero, List.getElem_cons_succ, List.setIfInBounds_toArray, List.set_cons_zero, List.set_cons_succ]
            refine kr_find 20 rfl (by kernel_rfl) (by kernel_rfl) (by kernel_rfl) (fun _ _ _ _ h => h) (by rfl) trivial ?_
            apply Exists.intro; apply And.intro
            · intro w' hS K hK
              clear hS
              go_light
              go_simp
              exact hK.out
            try simp only [Act.put, List.getElem_toArray, List.getElem_cons_zero, List.getElem_cons_succ, List.setIfInBounds_toArray, List.set_cons_zero, List.set_cons_succ]
            refine kr_find 21 rfl (by kernel_rfl) (by kernel_rfl) (by kernel_rfl) (fun _ _ _ _ h => h) (by rfl) trivial ?_
            apply Exists.intro; apply And.intro
            · intro w' hS K hK
              clear hS
              go_light
              go_simp
              exact hK.out
            try simp only [Act.put, List.getElem_toArray, List.getElem_cons_zero, List.getElem_cons_succ, List.setIfInBounds_toArray, List.set_cons_zero, List.set_cons_succ]
            refine kr_done (by kernel_rfl) ?_ _
            have hnt := HW.out.top
            have hi63 : (i : Int) + 1 ≤ 9223372036854775807 := by omega
            go_wp2_with fail
            go_roundw
            case rel => exact ⟨i + 1, by go_num, by omega, ⟨_, _, _, _, _, PQ10.out, HV.out⟩⟩
            case measure => simp [intOf]; omega
    · go_wp2_with fail
      go_ret
      obtain ⟨L, line, R, lv, rv, pq0, inv⟩ := pq
      exact ⟨rfl, pq0.fr⟩
end Go.Proofs.Ytcfadmjihccimaa
