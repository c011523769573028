/- Law 8: Tick: its walk. No condition but lengths. -/
import Derived.Test.YtfnphkijalkllaaArV
namespace Go.Proofs.Ytfnphkijalkllaa
set_option linter.unusedVariables false
set_option linter.unusedSimpArgs false
open Go.RowKit Go.Shelf
attribute [local go_sem] Oper.semAt_some
theorem Fr.keeps {S : Nat → Prop} {w w' : World} (f : Fr S w w') (hS : ∀ i, S i → ∃ c t, w.heap[i]? = some (Obj.cells c t)) : KeepsOthers w w' := ⟨f.size, fun k o hk ho => (f.block k (Array.getElem?_eq_some_iff.1 hk).1 (fun e => by
  obtain ⟨c, t, hc⟩ := hS k e
  rw [hk] at hc
  cases hc
  cases ho)).trans hk⟩
theorem six_new (w : World) (o1 o2 o3 o4 o5 o6 : Obj) : ((((((w.alloc o1).alloc o2).alloc o3).alloc o4).alloc o5).alloc o6).heap[w.heap.size]? = some o1 ∧ ((((((w.alloc o1).alloc o2).alloc o3).alloc o4).alloc o5).alloc o6).heap[w.heap.size + 1]? = some o2 ∧
    ((((((w.alloc o1).alloc o2).alloc o3).alloc o4).alloc o5).alloc o6).heap[w.heap.size + 1 + 1]? = some o3 ∧ ((((((w.alloc o1).alloc o2).alloc o3).alloc o4).alloc o5).alloc o6).heap[w.heap.size + 1 + 1 + 1]? = some o4 ∧
    ((((((w.alloc o1).alloc o2).alloc o3).alloc o4).alloc o5).alloc o6).heap[w.heap.size + 1 + 1 + 1 + 1]? = some o5 ∧ ((((((w.alloc o1).alloc o2).alloc o3).alloc o4).alloc o5).alloc o6).heap[w.heap.size + 1 + 1 + 1 + 1 + 1]? = some o6 ∧
    Fr (fun _ => False) w ((((((w.alloc o1).alloc o2).alloc o3).alloc o4).alloc o5).alloc o6) ∧ ((((((w.alloc o1).alloc o2).alloc o3).alloc o4).alloc o5).alloc o6).heap.size = w.heap.size + 6 := by
  have new : ∀ (v : World) (o : Obj) (k : Nat), v.heap.size = k → (v.alloc o).heap[k]? = some o := fun v o k h => by subst h; exact World.alloc_heap_new v o
  have old : ∀ (v : World) (o p : Obj) (k : Nat), k < v.heap.size → v.heap[k]? = some p → (v.alloc o).heap[k]? = some p := fun v o p k h h1 => (Below.heap_alloc _ _ _ h).trans h1
  refine ⟨?_, ?_, ?_, ?_, ?_, ?_, (((((((Fr.refl _ w).alloc _).alloc _).alloc _).alloc _).alloc _).alloc _), by simp⟩
  · exact old _ _ _ _ (by simp; omega) (old _ _ _ _ (by simp; omega) (old _ _ _ _ (by simp; omega) (old _ _ _ _ (by simp; omega) (old _ _ _ _ (by simp) (new _ _ _ rfl)))))
  · exact old _ _ _ _ (by simp) (old _ _ _ _ (by simp) (old _ _ _ _ (by simp) (old _ _ _ _ (by simp) (new _ _ _ (by simp)))))
  · exact old _ _ _ _ (by simp) (old _ _ _ _ (by simp) (old _ _ _ _ (by simp) (new _ _ _ (by simp))))
  · exact old _ _ _ _ (by simp) (old _ _ _ _ (by simp) (new _ _ _ (by simp)))
  · exact old _ _ _ _ (by simp) (new _ _ _ (by simp))
  · exact new _ _ _ (by simp)
theorem run_lens (now : Int) : ∀ (pre : List Nat) (s : TS), (∀ e ∈ s.M, e.nb.pend.length ≤ 2) → (pre.foldl (TS.step now) s).out.length ≤ s.out.length + pre.length ∧ (pre.foldl (TS.step now) s).gone.length ≤ s.gone.length + 2 * pre.length
  | [], s, _ => ⟨by simp, by simp⟩
  | x :: pre, s, h => by
    have h1 : (TS.step now s x).out.length ≤ s.out.length + 1 ∧ (TS.step now s x).gone.length ≤ s.gone.length + 2 ∧ ∀ e ∈ (TS.step now s x).M, e.nb.pend.length ≤ 2 := by
      unfold TS.step
      cases hf : s.M.find? (fun e => decide (e.p = x)) with
      | none => exact ⟨by simp, by simp, h⟩
      | some e =>
        have hp := h e (List.mem_of_find?_eq_some hf)
        cases ht : tkOf e.nb now with
        | wait => simp only [ht]; exact ⟨by omega, by omega, h⟩
        | gone => simp only [ht]; exact ⟨by omega, by rw [List.length_append]; omega, h⟩
        | ask =>
          simp only [ht]
          refine ⟨by simp, by omega, fun a ha => ?_⟩
          obtain ⟨b, hb, rfl⟩ := List.mem_map.1 ha
          by_cases hx : b.p = x
          · rw [if_pos hx]; exact h b hb
          · rw [if_neg hx]; exact h b hb
    have h2 := run_lens now pre (TS.step now s x) h1.2.2
    rw [List.foldl_cons, List.length_cons]
    omega
theorem ent_of {M L : List En} (h : pps M = pps L) {x : Nat} (hx : x ∈ L.map (·.p)) : ∃ e ∈ M, e.p = x := by
  obtain ⟨a, ha, rfl⟩ := List.mem_map.1 hx
  have h1 : (a.p, a.pv) ∈ pps L := List.mem_map.2 ⟨a, ha, rfl⟩
  rw [← h] at h1
  obtain ⟨b, hb, h2⟩ := List.mem_map.1 h1
  injection h2 with h3 _
  exact ⟨b, hb, h3⟩
theorem wrap_i64 {x : Int} (h1 : -9223372036854775808 ≤ x) (h2 : x ≤ 9223372036854775807) : IntKind.i64.wrap x = x := by
  unfold IntKind.wrap
  simp [IntKind.signed, IntKind.bits]
  omega
theorem KpN.ofS {S E U : Nat → Prop} {ps : List Nat} {A B : World} (f : Fr S A B) (hr : ∀ b cs, A.heap[b]? = some (.cells cs 93) → S b → E b) (hu : ∀ b, U b → ¬ S b) (hst : ∀ p ∈ ps, S p → ∀ v, A.cell? ⟨p, 4, none⟩ = some v → B.cell? ⟨p, 4, none⟩ = some v) : KpN E U ps A B :=
  ⟨f.size, fun b cs h hn => (f.block b (lt_of_block h) (fun e => hn (hr b cs h e))).trans h, fun b cs t hb h => (f.block b (lt_of_block h) (hu b hb)).trans h,
   fun p hp v hv => (Classical.em (S p)).elim (fun hs => hst p hp hs v hv) (fun hs => (World.cell?_of_block (f.block p (block_lt_of_cell hv) hs)).trans hv)⟩
/-- One is taken out, whether he is there still or not. -/
theorem drop_any {N g : Nat} {mac : M6} {ip : I4} {M : List En} {D : List Nat} {lv : Value} {e : En} (w : World) (h : TAt N w g mac ip M D lv) (he : e ∈ M) (hl : lv.ownBlock ≠ none) :
    Calls Try.prog 43 #[.pointer (some ⟨g, 0, none⟩), .pointer (some ⟨e.p, 0, none⟩)] w fun en w' => en = .returned (.tuple #[]) ∧ ∃ lv', TAt N w' g mac ip M (e.p :: D) lv' ∧ lv'.ownBlock = lv.ownBlock ∧ Fr (fun i => i = g ∨ lv.ownBlock = some i) w w' := by
  by_cases hd : e.p ∈ D
  · rcases h.at'.sl.2 with ⟨hv, _⟩ | ⟨b, off, cap, cur, hv, _⟩
    · exact absurd (by rw [hv]; rfl) hl
    · have hat := h.at'
      obtain ⟨n, hn⟩ : ∃ n, (keepD M D).length = n := ⟨_, rfl⟩
      rw [hn] at hv
      subst hv
      refine (drop43_not e.p w hat hn (fun hm => ?_) ⟨_, _, (h.ent e he).blk⟩).mono ?_
      · obtain ⟨a, ha, hp⟩ := List.mem_map.1 hm
        exact (keepD_in.1 ha).2 (hp ▸ hd)
      · rintro en w' ⟨rfl, hc, hf⟩
        exact ⟨rfl, _, h.again hd hc hf, rfl, hf.mono fun _ _ e => .inl e⟩
  · obtain ⟨j, hj⟩ := List.mem_iff_getElem?.1 (keepD_in.2 ⟨he, hd⟩)
    refine (drop43 w h.at' hj).mono ?_
    rintro en w' ⟨rfl, lv', hc, ho, hf⟩
    exact ⟨rfl, lv', h.drop hj hc hf, ho, hf⟩
def TkPost (N g : Nat) (mac : M6) (ip : I4) (L : List En) (lv : Value) (now : Int) (w : World) (en : Ending) (w' : World) : Prop :=
  ∃ (A : Option Addr) (c : Nat) (A2 : Option Addr) (c2 : Nat) (lv' : Value), en = .returned (.tuple #[.slice A (TS.run now L (yl L 2)).out.length c, .slice A2 (TS.run now L (yl L 2)).gone.length c2]) ∧
    TAt N w' g mac ip (TS.run now L (yl L 2)).M (TS.run now L (yl L 2)).D lv' ∧ Sl w.heap.size 33 21 w' (.slice A (TS.run now L (yl L 2)).out.length c) (TS.run now L (yl L 2)).out.length (oc mac ip (TS.run now L (yl L 2)).out) ∧
    Sl w.heap.size 3 1 w' (.slice A2 (TS.run now L (yl L 2)).gone.length c2) (TS.run now L (yl L 2)).gone.length (il (TS.run now L (yl L 2)).gone) ∧ Fr (Own g lv L) w w'
set_option maxRecDepth 100000 in
set_option maxHeartbeats 8000000 in
theorem tick18 {N g : Nat} {mac : M6} {ip : I4} {L : List En} {lv : Value} (now : Int) (w : World) (hC : CAt N w g mac ip L lv) (hnow : 0 ≤ now ∧ now ≤ 4398046511104) (hN : N ≤ w.heap.size) :
    Calls Try.prog 18 #[.pointer (some ⟨g, 0, none⟩), .int .i64 now] w (TkPost N g mac ip L lv now w) := by
  have HC := Lib.hid hC
  have HNW := Lib.hid (And.intro hnow hN)
  clear hC hnow hN
  refine (callsIn_wide (n := 3)).1 ?_
  refine callsIn_of_wp_marks Try.func18 rfl trivial ?_ rfl
  simp only [Try.ntmps18, List.size_toArray, List.length_cons, List.length_nil, Nat.reduceAdd, Nat.reduceSub, Array.replicate_succ, Array.replicate_zero, List.push_toArray, List.append_toArray, List.nil_append, List.cons_append]
  gi_wp2_with (refine ⟨trivial, ?_⟩; gi_at_call 42; refine (callsIn_wide.2 (those42 g 2 _)).mono ?_; rintro e w1 ⟨rfl, rfl⟩)
  obtain ⟨h1, h2, h3, h4, h5, h6, hf1, hsz⟩ := six_new w (.cells #[.pointer (some ⟨g, 0, none⟩)] 24) (.cells #[.int .i64 now] 3) (.cells #[.slice none 0 0] 36) (.cells #[.slice none 0 0] 37) (.cells #[.pointer (some ⟨g, 0, none⟩)] 24) (.cells #[.int .i64 2] 3)
  generalize (((((w.alloc (.cells #[.pointer (some ⟨g, 0, none⟩)] 24)).alloc (.cells #[.int .i64 now] 3)).alloc (.cells #[.slice none 0 0] 36)).alloc (.cells #[.slice none 0 0] 37)).alloc (.cells #[.pointer (some ⟨g, 0, none⟩)] 24)).alloc (.cells #[.int .i64 2] 3) = w1 at h1 h2 h3 h4 h5 h6 hf1 hsz ⊢
  obtain ⟨bt, ebt⟩ : ∃ k, w.heap.size = k := ⟨_, rfl⟩
  obtain ⟨bw, ebw⟩ : ∃ k, w.heap.size + 1 = k := ⟨_, rfl⟩
  obtain ⟨bo, ebo⟩ : ∃ k, w.heap.size + 1 + 1 = k := ⟨_, rfl⟩
  obtain ⟨bg, ebg⟩ : ∃ k, w.heap.size + 1 + 1 + 1 = k := ⟨_, rfl⟩
  obtain ⟨bc, ebc⟩ : ∃ k, w.heap.size + 1 + 1 + 1 + 1 = k := ⟨_, rfl⟩
  obtain ⟨bn, ebn⟩ : ∃ k, w.heap.size + 1 + 1 + 1 + 1 + 1 = k := ⟨_, rfl⟩
  rw [ebn, ebc, ebg, ebo, ebw]
  rw [ebw] at h2; rw [ebo] at h3; rw [ebg] at h4; rw [ebc] at h5; rw [ebn] at h6
  rw [ebt] at h1
  have HSZ := Lib.hid (show w.heap.size = bt ∧ w.heap.size + 1 = bw ∧ w.heap.size + 2 = bo ∧ w.heap.size + 3 = bg ∧ w.heap.size + 4 = bc ∧ w.heap.size + 5 = bn ∧ w1.heap.size = w.heap.size + 6 from by omega)
  rw [show w.heap.size = bt from ebt]
  have BT := Lib.hid h1
  have BW := Lib.hid h2
  have BO := Lib.hid h3
  have BG := Lib.hid h4
  have BC := Lib.hid h5
  have BN := Lib.hid h6
  have F1 := Lib.hid hf1
  have HC1 := Lib.hid (HC.out.fr hf1)
  clear h1 h2 h3 h4 h5 h6 hf1 hsz ebt ebw ebo ebg ebc ebn
  have T := Lib.hid (show TC N w1.heap.size g bo bg w L lv from ⟨fun i hi => (HC1.out.lt hi).2, F1.out.size, by have := HSZ.out; omega, by have := HSZ.out; omega, HNW.out.2⟩)
  have I0 := Lib.hid (show TI N w1.heap.size g bo bg mac ip w L lv ⟨L, [], [], []⟩ w1 from
    ⟨⟨lv, TAt.start HC1.out, rfl⟩, rfl, ⟨none, 0, BO.out, Sl.nil _ _ _ _⟩, ⟨none, 0, BG.out, Sl.nil _ _ _ _⟩, Nat.le_refl _, F1.out.upto⟩)
  have HL8 := Lib.hid (show (yl L 2).length ≤ 8 from by
    have h1 := HC.out.len
    have h2 : (yl L 2).length ≤ L.length := by unfold yl; rw [List.length_map]; exact List.length_filter_le _ _
    omega)
  refine wpIn_rangeFunc_ownF rfl (by omega) (gf := 64) (lb := #[.pointer (some ⟨bc, 0, none⟩), .pointer (some ⟨bn, 0, none⟩)]) rfl trivial (enters_of Try.func64 (by kernel_rfl) rfl)
    (those_stops (3 - 1) bc bn g N (by omega) mac ip L lv 2 (fun b => lv.ownBlock = some b) (fun b => b = bc ∨ b = bn) ⟨.inl rfl, .inr rfl⟩ w1 HC1.out BC.out BN.out (fun b h => (HC1.out.sl.lt b h).2)) (fun h k => h.trans k) (fun W l o o' _ h hc _ => KpN.put W l o o' h hc) (Below.refl _ _) (fun _ => rfl)
    (fun pre W => TI N w1.heap.size g bo bg mac ip w L lv (TS.run now L (pvals pre)) W ∧ W.heap[bt]? = some (.cells #[.pointer (some ⟨g, 0, none⟩)] 24) ∧ W.heap[bw]? = some (.cells #[.int .i64 now] 3))
    (fun c pre W => False)
    (fun s W W' row hs hg hr => ?own) (fun c s W W' row hs hg hr => hs.elim)
    ⟨I0.out, BT.out, BW.out⟩
    (fun x => { tmps := #[.pointer (some ⟨g, 0, none⟩), .int .i64 now, .pointer (some ⟨bt, 0, none⟩), .pointer (some ⟨bw, 0, none⟩), .slice none 0 0, .slice none 0 0, .pointer (some ⟨bo, 0, none⟩), .pointer (some ⟨bg, 0, none⟩), .pointer (some ⟨x.1, 0, none⟩), .pointer (some ⟨g, 0, none⟩), .func (.func 64) #[] #[.pointer (some ⟨bc, 0, none⟩), .pointer (some ⟨bn, 0, none⟩)], .pointer (some ⟨x.1, 0, none⟩), undef, undef, undef, undef, undef, undef, undef, undef, undef, undef, undef, undef, undef, undef, undef, undef, undef, undef, undef, undef, undef, undef, undef, undef, undef, undef, undef, undef, undef, undef, undef, undef, undef, undef, undef, undef, undef, undef, undef, undef, undef, undef, undef, undef, undef, undef], defers := [] }) ?assign ?body ?done ?stop
  case own =>
    have hK : ∀ (b : Nat) (c : Array Value) (t : TypeId), W.heap[b]? = some (Obj.cells c t) → W'.heap[b]? = W.heap[b]? := fun b c t hb => hg.block b (lt_of_block hb) (fun h => by
      obtain ⟨_, o, ho, hc⟩ := hr b h.symm
      rw [hb] at ho
      cases ho
      cases hc)
    exact ⟨hs.1.kc hK hg.size (hs.1.fr.grown hg (fun r e h => by have := (hr r e).1; have := HSZ.out; omega)), (hK _ _ _ hs.2.1).trans hs.2.1, (hK _ _ _ hs.2.2).trans hs.2.2⟩
  case assign =>
    intro l x W K hK
    gi_wp2
    exact hK
  case body =>
    rintro l pre x W ⟨hti, hbt, hbw⟩ hlen
    obtain ⟨e, hem, hex⟩ := ent_of hti.ps x.2
    obtain ⟨s, hs⟩ : ∃ s, TS.run now L (pvals pre) = s := ⟨_, rfl⟩
    have hnext : TS.run now L (pvals (pre ++ [x])) = TS.step now s e.p := by rw [pvals_snoc, TS.run_snoc, hs, hex]
    have hlens : s.out.length ≤ 8 ∧ s.gone.length ≤ 16 := by
      have h1 := run_lens now (pvals pre) ⟨L, [], [], []⟩ (fun e he => (HC.out.ent e he).ok.pend)
      have h2 : (pvals pre).length = pre.length := by simp [pvals]
      have h3 := HL8.out
      rw [show (pvals pre).foldl (TS.step now) ⟨L, [], [], []⟩ = s from hs] at h1
      simp only [List.length_nil] at h1
      omega
    rw [hs] at hti hem
    rw [← hex]
    obtain ⟨lv1, ht1, hl1⟩ := hti.ex
    have TIs := Lib.hid hti
    have BT0 := Lib.hid hbt
    have BW0 := Lib.hid hbw
    have HEM := Lib.hid hem
    have HNX := Lib.hid hnext
    have HLE := Lib.hid hlens
    have HT1 := Lib.hid ht1
    have HL1 := Lib.hid hl1
    have HE := Lib.hid (ht1.ent e hem)
    have HEL := Lib.hid (show e.p < w.heap.size from (HC.out.lt (Own.pps hti.ps (.inr (.inr ⟨e, hem, .inl rfl⟩)))).2)
    clear hti hbt hbw hem hnext hlens ht1 hl1 hlen hs hex
    have HEO := Lib.hid HE.out.ok
    have ha1 := HE.out.ok.asked.1
    have ha2 := HE.out.ok.asked.2
    have hn1 := HNW.out.1.1
    have hn2 := HNW.out.1.2
    have C0 := Lib.hid (show W.drew.cell? ⟨bw, 0, none⟩ = some (.int .i64 now) from cells_at W.drew bw [.int .i64 now] 3 BW0.out 0 _ rfl)
    have C12 := Lib.hid (show W.drew.cell? ⟨e.p, 12, none⟩ = some (.int .i64 e.nb.asked) from cells_at W.drew e.p e.cells 46 HE.out.blk 12 _ rfl)
    have Fd := Lib.hid ((Fr.refl (fun _ => False) W).drew)
    have hwr := wrap_i64 (x := now - e.nb.asked) (by omega) (by omega)
    gi_wp2
    refine kr_inRound _ [(0, fun W => W.cell? ⟨bw, 0, none⟩ = some (.int .i64 now)), (4, fun W => W.cell? ⟨e.p, 12, none⟩ = some (.int .i64 e.nb.asked))] (by kernel_rfl) (by kernel_rfl) (by kernel_rfl) ?_
    refine kr_find 0 rfl (by kernel_rfl) (by kernel_rfl) (by kernel_rfl) (fun _ _ _ _ h => h) (by rfl) (show _ from C0.out) ?_
    apply Exists.intro; apply And.intro
    · intro w' hS K hK
      have hS : w'.cell? ⟨bw, 0, none⟩ = some (.int .i64 now) := hS
      go_light
      go_simp
      exact hK.out
    try simp only [Act.put, List.getElem_toArray, List.getElem_cons_zero, List.getElem_cons_succ, List.setIfInBounds_toArray, List.set_cons_zero, List.set_cons_succ]
    refine kr_find 1 rfl (by kernel_rfl) (by kernel_rfl) (by kernel_rfl) (fun _ _ _ _ h => h) (by rfl) trivial ?_
    apply Exists.intro; apply And.intro
    · intro w' hS K hK
      clear hS
      go_light
      go_simp
      exact hK.out
    try simp only [Act.put, List.getElem_toArray, List.getElem_cons_zero, List.getElem_cons_succ, List.setIfInBounds_toArray, List.set_cons_zero, List.set_cons_succ]
    refine kr_find 2 rfl (by kernel_rfl) (by kernel_rfl) (by kernel_rfl) (fun _ _ _ _ h => h) (by rfl) trivial ?_
    apply Exists.intro; apply And.intro
    · intro w' hS K hK
      clear hS
      go_light
      go_simp
      exact hK.out
    try simp only [Act.put, List.getElem_toArray, List.getElem_cons_zero, List.getElem_cons_succ, List.setIfInBounds_toArray, List.set_cons_zero, List.set_cons_succ]
    refine kr_find 3 rfl (by kernel_rfl) (by kernel_rfl) (by kernel_rfl) (fun _ _ _ _ h => h) (by rfl) trivial ?_
    apply Exists.intro; apply And.intro
    · intro w' hS K hK
      clear hS
      go_light
      go_simp
      exact hK.out
    try simp only [Act.put, List.getElem_toArray, List.getElem_cons_zero, List.getElem_cons_succ, List.setIfInBounds_toArray, List.set_cons_zero, List.set_cons_succ]
    refine kr_find 4 rfl (by kernel_rfl) (by kernel_rfl) (by kernel_rfl) (fun _ _ _ _ h => h) (by rfl) (show _ from C12.out) ?_
    apply Exists.intro; apply And.intro
    · intro w' hS K hK
      have hS : w'.cell? ⟨e.p, 12, none⟩ = some (.int .i64 e.nb.asked) := hS
      go_light
      go_simp
      exact hK.out
    try simp only [Act.put, List.getElem_toArray, List.getElem_cons_zero, List.getElem_cons_succ, List.setIfInBounds_toArray, List.set_cons_zero, List.set_cons_succ]
    refine kr_find 5 rfl (by kernel_rfl) (by kernel_rfl) (by kernel_rfl) (fun _ _ _ _ h => h) (by rfl) trivial ?_
    apply Exists.intro; apply And.intro
    · intro w' hS K hK
      clear hS
      go_light
      go_simp
      exact hK.out
    try simp only [Act.put, List.getElem_toArray, List.getElem_cons_zero, List.getElem_cons_succ, List.setIfInBounds_toArray, List.set_cons_zero, List.set_cons_succ]
    refine kr_find 6 rfl (by kernel_rfl) (by kernel_rfl) (by kernel_rfl) (fun _ _ _ _ h => h) (by rfl) trivial ?_
    apply Exists.intro; apply And.intro
    · intro w' hS K hK
      clear hS
      go_light
      go_simp
      exact hK.out
    try simp only [Act.put, List.getElem_toArray, List.getElem_cons_zero, List.getElem_cons_succ, List.setIfInBounds_toArray, List.set_cons_zero, List.set_cons_succ]
    refine kr_find 7 rfl (by kernel_rfl) (by kernel_rfl) (by kernel_rfl) (fun _ _ _ _ h => h) (by rfl) trivial ?_
    apply Exists.intro; apply And.intro
    · intro w' hS K hK
      clear hS
      go_light
      go_simp
      exact hK.out
    try simp only [Act.put, List.getElem_toArray, List.getElem_cons_zero, List.getElem_cons_succ, List.setIfInBounds_toArray, List.set_cons_zero, List.set_cons_succ]
    refine kr_done (by kernel_rfl) ?_ _
    refine outN_ok ?_
    generalize W.drew = W1 at Fd ⊢
    have TI1 := Lib.hid (TIs.out.fr0 Fd.out)
    have BT1 := Lib.hid ((Fd.out.block bt (lt_of_block BT0.out) (fun e => e)).trans BT0.out)
    have BW1 := Lib.hid ((Fd.out.block bw (lt_of_block BW0.out) (fun e => e)).trans BW0.out)
    have HE1 := Lib.hid (show EnAt N W1 e from HE.out.heap (Fd.out.block _ (lt_of_block HE.out.blk) (fun e => e)) (fun k hk => Fd.out.block k (HE.out.sl.lt k hk).2 (fun e => e)))
    by_cases hw2 : now - e.nb.asked < 2
    · have HT := Lib.hid (show tkOf e.nb now = .wait from by unfold tkOf; rw [if_pos hw2])
      gi_wp2
      refine ⟨Fd.out.keeps (fun i e => e.elim), KpN.ofFr Fd.out, ?_, BT1.out, BW1.out⟩
      rw [HNX.out, step_wait HT1.out.pnd HEM.out HT.out]
      exact TI1.out
    · obtain ⟨tr, htr⟩ : ∃ tr, e.nb.tries = tr := ⟨_, rfl⟩
      have HTR := Lib.hid htr
      have c13 := cells_at W1 e.p e.cells 46 HE1.out.blk 13 _ rfl
      rw [htr] at c13
      by_cases h3 : tr = 3
      · have HT := Lib.hid (show tkOf e.nb now = .gone from by unfold tkOf; rw [if_neg hw2, if_pos (htr.trans h3)])
        subst h3
        clear htr
        gi_wp2
        clear c13
        obtain ⟨A2, c2, hbg, hsg⟩ := TI1.out.gone
        obtain ⟨n2, hn2'⟩ : ∃ n2, s.gone.length = n2 := ⟨_, rfl⟩
        obtain ⟨Ap, cp, hpv, _, _⟩ := HE1.out.sl.form
        obtain ⟨np, hnp⟩ : ∃ np, e.nb.pend.length = np := ⟨_, rfl⟩
        have hnp2 : np ≤ 2 := by rw [← hnp]; exact HEO.out.pend
        have hn16 : n2 ≤ 16 := by rw [← hn2']; exact HLE.out.2
        rw [hn2'] at hbg hsg
        rw [hnp] at hpv
        have HPV := Lib.hid hpv
        have HN2 := Lib.hid (And.intro hn2' hnp)
        have BG1 := Lib.hid hbg
        have SG1 := Lib.hid hsg
        have SP1 := Lib.hid (show Sl N 3 1 W1 (.slice Ap np cp) np (il e.nb.pend) from by have h := HE1.out.sl; rw [hnp, hpv] at h; exact h)
        have ZB1 := Lib.hid TI1.out.size
        clear hbg hsg hpv hn2' hnp
        have D1 := Lib.hid ((Fr.refl (fun _ => False) W1).drew)
        have CG := Lib.hid (show W1.drew.cell? ⟨bg, 0, none⟩ = some (.slice A2 n2 c2) from cells_at W1.drew bg [.slice A2 n2 c2] 37 BG1.out 0 _ rfl)
        have C14 := Lib.hid (show W1.drew.cell? ⟨e.p, 14, none⟩ = some (.slice Ap np cp) from by rw [← HPV.out]; exact cells_at W1.drew e.p e.cells 46 HE1.out.blk 14 _ rfl)
        have SGd := Lib.hid (show Sl w1.heap.size 3 1 W1.drew (.slice A2 n2 c2) n2 (il s.gone) from SG1.out.fr0 D1.out)
        have SPd := Lib.hid (show Sl N 3 1 W1.drew (.slice Ap np cp) np (il e.nb.pend) from SP1.out.fr0 D1.out)
        have BGd := Lib.hid (show W1.drew.heap[bg]? = some (.cells #[.slice A2 n2 c2] 37) from BG1.out)
        refine kr_inRound _ [(0, fun W => W.cell? ⟨bg, 0, none⟩ = some (.slice A2 n2 c2)), (4, fun W => W.cell? ⟨e.p, 14, none⟩ = some (.slice Ap np cp))] (by kernel_rfl) (by kernel_rfl) (by kernel_rfl) ?_
        refine kr_find 0 rfl (by kernel_rfl) (by kernel_rfl) (by kernel_rfl) (fun _ _ _ _ h => h) (by rfl) (show _ from CG.out) ?_
        apply Exists.intro; apply And.intro
        · intro w' hS K hK
          have hS : w'.cell? ⟨bg, 0, none⟩ = some (.slice A2 n2 c2) := hS
          go_light
          go_simp
          exact hK.out
        try simp only [Act.put, List.getElem_toArray, List.getElem_cons_zero, List.getElem_cons_succ, List.setIfInBounds_toArray, List.set_cons_zero, List.set_cons_succ]
        refine kr_find 1 rfl (by kernel_rfl) (by kernel_rfl) (by kernel_rfl) (fun _ _ _ _ h => h) (by rfl) trivial ?_
        apply Exists.intro; apply And.intro
        · intro w' hS K hK
          clear hS
          go_light
          go_simp
          exact hK.out
        try simp only [Act.put, List.getElem_toArray, List.getElem_cons_zero, List.getElem_cons_succ, List.setIfInBounds_toArray, List.set_cons_zero, List.set_cons_succ]
        refine kr_find 2 rfl (by kernel_rfl) (by kernel_rfl) (by kernel_rfl) (fun _ _ _ _ h => h) (by rfl) trivial ?_
        apply Exists.intro; apply And.intro
        · intro w' hS K hK
          clear hS
          go_light
          go_simp
          exact hK.out
        try simp only [Act.put, List.getElem_toArray, List.getElem_cons_zero, List.getElem_cons_succ, List.setIfInBounds_toArray, List.set_cons_zero, List.set_cons_succ]
        refine kr_find 3 rfl (by kernel_rfl) (by kernel_rfl) (by kernel_rfl) (fun _ _ _ _ h => h) (by rfl) trivial ?_
        apply Exists.intro; apply And.intro
        · intro w' hS K hK
          clear hS
          go_light
          go_simp
          exact hK.out
        try simp only [Act.put, List.getElem_toArray, List.getElem_cons_zero, List.getElem_cons_succ, List.setIfInBounds_toArray, List.set_cons_zero, List.set_cons_succ]
        refine kr_find 4 rfl (by kernel_rfl) (by kernel_rfl) (by kernel_rfl) (fun _ _ _ _ h => h) (by rfl) (show _ from C14.out) ?_
        apply Exists.intro; apply And.intro
        · intro w' hS K hK
          have hS : w'.cell? ⟨e.p, 14, none⟩ = some (.slice Ap np cp) := hS
          go_light
          go_simp
          exact hK.out
        try simp only [Act.put, List.getElem_toArray, List.getElem_cons_zero, List.getElem_cons_succ, List.setIfInBounds_toArray, List.set_cons_zero, List.set_cons_succ]
        refine kr_one 5 (by kernel_rfl) rfl (by rfl) (fun K hK => ?_)
        refine wp_append_sl (base := w1.heap.size) _ _ rfl st37 (.slice A2 n2 c2) n2 (il s.gone) rfl SGd.out (.slice Ap np cp) np (il e.nb.pend) rfl (SPd.out.src st37.under (il_one _)) (by simp only [maxLen]; omega) (by omega) ZB1.out ?_
        intro v5 w5 hs hg ho hn
        obtain ⟨A5, c5, hv5, _, _⟩ := hs.form
        subst hv5
        have S5 := Lib.hid hs
        have G5 := Lib.hid hg
        clear hs hg ho hn
        have BG5 := Lib.hid (show w5.heap[bg]? = some (.cells #[.slice A2 n2 c2] 37) from (G5.out.block bg (lt_of_block BGd.out) (fun e1 => SGd.out.ne BGd.out (by decide) e1.symm)).trans BGd.out)
        refine hK.out _ _ ⟨.inl (by kernel_rfl), .inl (by kernel_rfl), trivial⟩ ?_
        clear hK K
        try simp only [Act.put, List.getElem_toArray, List.getElem_cons_zero, List.getElem_cons_succ, List.setIfInBounds_toArray, List.set_cons_zero, List.set_cons_succ]
        refine kr_one 6 (by kernel_rfl) rfl (by rfl) (fun K hK => ?_)
        have hcg := cells_at w5 bg [.slice A2 n2 c2] 37 BG5.out 0 _ rfl
        have hzg := frozen_of_row w5 bg 0 _ 37 BG5.out
        go_simp
        clear hcg hzg
        refine hK.out _ _ ⟨.inl (by kernel_rfl), .inl (by kernel_rfl), trivial⟩ ?_
        clear hK K
        try simp only [Act.put, List.getElem_toArray, List.getElem_cons_zero, List.getElem_cons_succ, List.setIfInBounds_toArray, List.set_cons_zero, List.set_cons_succ]
        refine kr_done (by kernel_rfl) ?_ _
        refine outN_ok ?_
        have F16 := Lib.hid (show Fr (fun i => i = bg ∨ (Value.slice A2 n2 c2).ownBlock = some i) W1 (w5.setCell ⟨bg, 0, none⟩ (.slice A5 (n2 + np) c5)) from ((D1.out.upto (S := fun i => i = bg ∨ (Value.slice A2 n2 c2).ownBlock = some i)).grown G5.out (fun r e1 _ => .inr e1)).setCell _ _ (fun _ => .inl rfl))
        have BG6 := Lib.hid (show (w5.setCell ⟨bg, 0, none⟩ (.slice A5 (n2 + np) c5)).heap[bg]? = some (.cells #[.slice A5 (n2 + np) c5] 37) from heap_setCell_same w5 bg 0 _ 37 _ BG5.out)
        have S6 := Lib.hid (show Sl w1.heap.size 3 1 (w5.setCell ⟨bg, 0, none⟩ (.slice A5 (n2 + np) c5)) (.slice A5 (n2 + np) c5) (n2 + np) (il s.gone ++ il e.nb.pend) from S5.out.heap (fun k hk => Below.heap_setCell _ _ _ _ (fun e1 => by
          obtain ⟨c', h'⟩ := S5.out.tag hk
          have e1 : k = bg := e1
          rw [e1, BG5.out] at h'
          exact absurd (tag_ne h') (by decide))))
        generalize w5.setCell ⟨bg, 0, none⟩ (.slice A5 (n2 + np) c5) = W6 at F16 BG6 S6 ⊢
        have hlen : (s.gone ++ e.nb.pend).length = n2 + np := by rw [List.length_append, HN2.out.1, HN2.out.2]
        have TI6 := Lib.hid (show TI N w1.heap.size g bo bg mac ip w L lv { s with gone := s.gone ++ e.nb.pend } W6 from TI1.out.setGone T.out BG1.out (A := A5) (c := c5) (by rw [hlen]; exact BG6.out) (by rw [hlen, il_app]; exact S6.out) F16.out)
        clear hlen
        have VLO := Lib.hid (fun k (hk : (Value.slice A2 n2 c2).ownBlock = some k) => (SG1.out.lt k hk).1)
        have BT6 := Lib.hid ((F16.out.block bt (lt_of_block BT1.out) (fun e1 => by
          have h := HSZ.out
          rcases e1 with e1 | e1
          · omega
          · have := VLO.out bt e1; omega)).trans BT1.out)
        have BW6 := Lib.hid ((F16.out.block bw (lt_of_block BW1.out) (fun e1 => by
          have h := HSZ.out
          rcases e1 with e1 | e1
          · omega
          · have := VLO.out bw e1; omega)).trans BW1.out)
        obtain ⟨lv6, ht6, hl6⟩ := TI6.out.ex
        have HT6 := Lib.hid ht6
        have HL6 := Lib.hid hl6
        have hown : lv6.ownBlock ≠ none := by
          rw [hl6]
          have h0 : 0 < L.length := by
            obtain ⟨a, ha, _⟩ := List.mem_map.1 x.2
            exact List.length_pos_of_mem ha
          obtain ⟨b', off', cap', hv', _⟩ := HC.out.sl.form1 h0
          rw [hv']
          intro h
          cases h
        have HOWN := Lib.hid hown
        clear ht6 hl6 hown
        have cbt := cells_at W6 bt [.pointer (some ⟨g, 0, none⟩)] 24 BT6.out 0 _ rfl
        gi_wp2_with (refine ⟨trivial, ?_⟩; gi_at_call 43; refine (calls_wideAt (l := some l) (drop_any W6 HT6.out HEM.out HOWN.out)).mono ?_; rintro en W7 ⟨rfl, lv7, hd7, ho7, hf7⟩; have HD7 := Lib.hid hd7; have HO7 := Lib.hid ho7; have F67 := Lib.hid hf7; clear hd7 ho7 hf7)
        have HPB := Lib.hid (fun (p : Nat) (hp : p ∈ L.map (·.p)) => show ∃ c, W1.heap[p]? = some (.cells c 46) from by
          obtain ⟨lv9, ht9, _⟩ := TI1.out.ex
          obtain ⟨a, ha, hpa⟩ := ent_of TI1.out.ps hp
          exact ⟨_, hpa ▸ (ht9.ent a ha).blk⟩)
        have HPB6 := Lib.hid (fun (p : Nat) (hp : p ∈ L.map (·.p)) => show ∃ c, W6.heap[p]? = some (.cells c 46) from by
          obtain ⟨a, ha, hpa⟩ := ent_of TI6.out.ps hp
          exact ⟨_, hpa ▸ (HT6.out.ent a ha).blk⟩)
        have GLT := Lib.hid (show g < w.heap.size ∧ ∀ k, lv.ownBlock = some k → k < w.heap.size from ⟨(HC.out.lt (.inl rfl)).2, fun k hk => (HC.out.lt (.inr (.inl hk))).2⟩)
        refine ⟨(Fd.out.keeps (fun i e => e.elim)).trans ((F16.out.keeps ?_).trans (F67.out.keeps ?_)), (KpN.ofFr Fd.out).trans ((KpN.ofS F16.out ?_ ?_ ?_).trans (KpN.ofS F67.out ?_ ?_ ?_)), ?_, ?_, ?_⟩
        · rintro i (rfl | hi)
          · exact ⟨_, _, BG1.out⟩
          · obtain ⟨c, hc⟩ := SG1.out.tag hi; exact ⟨c, _, hc⟩
        · rintro i (rfl | hi)
          · exact ⟨_, _, HT6.out.at'.blk⟩
          · obtain ⟨c, hc⟩ := HT6.out.at'.sl.tag hi; exact ⟨c, _, hc⟩
        · rintro b cs hb (rfl | hi)
          · rw [BG1.out] at hb; exact absurd (tag_ne hb) (by decide)
          · exact absurd hi (SG1.out.ne hb (by decide))
        · rintro b hb hi
          have h := HSZ.out
          rcases hi with hi | hi
          · omega
          · have := VLO.out b hi; omega
        · rintro p hp hi
          obtain ⟨c, hc⟩ := HPB.out p hp
          rcases hi with rfl | hi
          · rw [BG1.out] at hc; exact absurd (tag_ne hc) (by decide)
          · exact absurd hi (SG1.out.ne hc (by decide))
        · rintro b cs hb (rfl | hi)
          · rw [HT6.out.at'.blk] at hb; exact absurd (tag_ne hb) (by decide)
          · show lv.ownBlock = some b
            rw [← HL6.out]; exact hi
        · rintro b hb hi
          have h := HSZ.out
          rcases hi with hi | hi
          · have := GLT.out.1; omega
          · have := GLT.out.2 b (HL6.out ▸ hi); omega
        · rintro p hp hi
          obtain ⟨c, hc⟩ := HPB6.out p hp
          rcases hi with rfl | hi
          · rw [HT6.out.at'.blk] at hc; exact absurd (tag_ne hc) (by decide)
          · exact absurd hi (HT6.out.at'.sl.ne hc (by decide))
        · rw [HNX.out, step_gone HT1.out.pnd HEM.out HT.out]
          exact TI6.out.drop T.out e.p HT6.out HL6.out HD7.out HO7.out F67.out
        · refine (F67.out.block bt (lt_of_block BT6.out) (fun hi => ?_)).trans BT6.out
          have h := HSZ.out
          rcases hi with hi | hi
          · have := GLT.out.1; omega
          · have := GLT.out.2 bt (HL6.out ▸ hi); omega
        · refine (F67.out.block bw (lt_of_block BW6.out) (fun hi => ?_)).trans BW6.out
          have h := HSZ.out
          rcases hi with hi | hi
          · have := GLT.out.1; omega
          · have := GLT.out.2 bw (HL6.out ▸ hi); omega
      · have HT := Lib.hid (show tkOf e.nb now = .ask from by unfold tkOf; rw [if_neg hw2, if_neg (by rw [htr]; exact h3)])
        have htb := HEO.out.tries
        rw [htr] at htb
        clear htr
        gi_wp2
        clear c13
        have hwt := wrap_i64 (x := tr + 1) (by omega) (by omega)
        have D1 := Lib.hid ((Fr.refl (fun _ => False) W1).drew)
        have HBd := Lib.hid (show W1.drew.heap[e.p]? = some (.cells e.cells.toArray 46) from HE1.out.blk)
        have BWd := Lib.hid (show W1.drew.heap[bw]? = some (.cells #[.int .i64 now] 3) from BW1.out)
        have NEW := Lib.hid (show ¬ bw = e.p from fun e1 => by
          have h := HE1.out.blk
          rw [← e1, BW1.out] at h
          exact absurd (tag_ne h) (by decide))
        have C13 := Lib.hid (show W1.drew.cell? ⟨e.p, 13, none⟩ = some (.int .i64 tr) from HTR.out ▸ cells_at W1.drew e.p e.cells 46 HE1.out.blk 13 _ rfl)
        have CW := Lib.hid (show W1.drew.cell? ⟨bw, 0, none⟩ = some (.int .i64 now) from cells_at W1.drew bw [.int .i64 now] 3 BW1.out 0 _ rfl)
        refine kr_inRound _ [(5, fun W => W.cell? ⟨e.p, 13, none⟩ = some (.int .i64 tr)), (7, fun W => W.cell? ⟨bw, 0, none⟩ = some (.int .i64 now))] (by kernel_rfl) (by kernel_rfl) (by kernel_rfl) ?_
        generalize W1.drew = Wd at D1 HBd BWd C13 CW ⊢
        refine kr_find 0 rfl (by kernel_rfl) (by kernel_rfl) (by kernel_rfl) (fun _ _ _ _ h => h) (by rfl) trivial ?_
        apply Exists.intro; apply And.intro
        · intro w' hS K hK
          clear hS
          go_light
          go_simp
          exact hK.out
        try simp only [Act.put, List.getElem_toArray, List.getElem_cons_zero, List.getElem_cons_succ, List.setIfInBounds_toArray, List.set_cons_zero, List.set_cons_succ]
        refine kr_find 1 rfl (by kernel_rfl) (by kernel_rfl) (by kernel_rfl) (fun _ _ _ _ h => h) (by rfl) trivial ?_
        apply Exists.intro; apply And.intro
        · intro w' hS K hK
          clear hS
          go_light
          go_simp
          exact hK.out
        try simp only [Act.put, List.getElem_toArray, List.getElem_cons_zero, List.getElem_cons_succ, List.setIfInBounds_toArray, List.set_cons_zero, List.set_cons_succ]
        refine kr_find 2 rfl (by kernel_rfl) (by kernel_rfl) (by kernel_rfl) (fun _ _ _ _ h => h) (by rfl) trivial ?_
        apply Exists.intro; apply And.intro
        · intro w' hS K hK
          clear hS
          go_light
          go_simp
          exact hK.out
        try simp only [Act.put, List.getElem_toArray, List.getElem_cons_zero, List.getElem_cons_succ, List.setIfInBounds_toArray, List.set_cons_zero, List.set_cons_succ]
        refine kr_find 3 rfl (by kernel_rfl) (by kernel_rfl) (by kernel_rfl) (fun _ _ _ _ h => h) (by rfl) trivial ?_
        apply Exists.intro; apply And.intro
        · intro w' hS K hK
          clear hS
          go_light
          go_simp
          exact hK.out
        try simp only [Act.put, List.getElem_toArray, List.getElem_cons_zero, List.getElem_cons_succ, List.setIfInBounds_toArray, List.set_cons_zero, List.set_cons_succ]
        refine kr_find 4 rfl (by kernel_rfl) (by kernel_rfl) (by kernel_rfl) (fun _ _ _ _ h => h) (by rfl) trivial ?_
        apply Exists.intro; apply And.intro
        · intro w' hS K hK
          clear hS
          go_light
          go_simp
          exact hK.out
        try simp only [Act.put, List.getElem_toArray, List.getElem_cons_zero, List.getElem_cons_succ, List.setIfInBounds_toArray, List.set_cons_zero, List.set_cons_succ]
        refine kr_find 5 rfl (by kernel_rfl) (by kernel_rfl) (by kernel_rfl) (fun _ _ _ _ h => h) (by rfl) (show _ from C13.out) ?_
        apply Exists.intro; apply And.intro
        · intro w' hS K hK
          have hS : w'.cell? ⟨e.p, 13, none⟩ = some (.int .i64 tr) := hS
          go_light
          go_simp
          exact hK.out
        try simp only [Act.put, List.getElem_toArray, List.getElem_cons_zero, List.getElem_cons_succ, List.setIfInBounds_toArray, List.set_cons_zero, List.set_cons_succ]
        refine kr_find 6 rfl (by kernel_rfl) (by kernel_rfl) (by kernel_rfl) (fun _ _ _ _ h => h) (by rfl) trivial ?_
        apply Exists.intro; apply And.intro
        · intro w' hS K hK
          clear hS
          go_light
          go_simp
          exact hK.out
        try simp only [Act.put, List.getElem_toArray, List.getElem_cons_zero, List.getElem_cons_succ, List.setIfInBounds_toArray, List.set_cons_zero, List.set_cons_succ]
        refine kr_find 7 rfl (by kernel_rfl) (by kernel_rfl) (by kernel_rfl) (fun _ _ _ _ h => h) (by rfl) (show _ from CW.out) ?_
        apply Exists.intro; apply And.intro
        · intro w' hS K hK
          have hS : w'.cell? ⟨bw, 0, none⟩ = some (.int .i64 now) := hS
          go_light
          go_simp
          exact hK.out
        try simp only [Act.put, List.getElem_toArray, List.getElem_cons_zero, List.getElem_cons_succ, List.setIfInBounds_toArray, List.set_cons_zero, List.set_cons_succ]
        refine kr_find 8 rfl (by kernel_rfl) (by kernel_rfl) (by kernel_rfl) (fun _ _ _ _ h => h) (by rfl) trivial ?_
        apply Exists.intro; apply And.intro
        · intro w' hS K hK
          clear hS
          go_light
          go_simp
          exact hK.out
        try simp only [Act.put, List.getElem_toArray, List.getElem_cons_zero, List.getElem_cons_succ, List.setIfInBounds_toArray, List.set_cons_zero, List.set_cons_succ]
        refine kr_find 9 rfl (by kernel_rfl) (by kernel_rfl) (by kernel_rfl) (fun _ _ _ _ h => h) (by rfl) trivial ?_
        apply Exists.intro; apply And.intro
        · intro w' hS K hK
          clear hS
          go_light
          go_simp
          exact hK.out
        try simp only [Act.put, List.getElem_toArray, List.getElem_cons_zero, List.getElem_cons_succ, List.setIfInBounds_toArray, List.set_cons_zero, List.set_cons_succ]
        refine kr_one 10 (by kernel_rfl) rfl (by rfl) (fun K hK => ?_)
        have hce := cells_at Wd e.p e.cells 46 HBd.out 13 _ rfl
        have hze := frozen_of_row Wd e.p 13 _ 46 HBd.out
        go_simp
        clear hce hze
        have HB5 := Lib.hid (show (Wd.setCell ⟨e.p, 13, none⟩ (.int .i64 (tr + 1))).heap[e.p]? = some (.cells (En.cells ⟨e.p, e.pv, ⟨e.nb.ip, e.nb.st, e.nb.mac, e.nb.since, e.nb.asked, tr + 1, e.nb.pend⟩⟩).toArray 46) from by rw [heap_setCell_same Wd e.p 13 _ 46 _ HBd.out]; rfl)
        have F5 := Lib.hid ((Fr.refl (fun i => i = e.p) Wd).setCell ⟨e.p, 13, none⟩ (.int .i64 (tr + 1)) (fun _ => rfl))
        generalize Wd.setCell ⟨e.p, 13, none⟩ (.int .i64 (tr + 1)) = W5 at HB5 F5 ⊢
        have CW5 := Lib.hid (show W5.cell? ⟨bw, 0, none⟩ = some (.int .i64 now) from cells_at W5 bw [.int .i64 now] 3 ((F5.out.block bw (lt_of_block BWd.out) NEW.out).trans BWd.out) 0 _ rfl)
        refine hK.out _ _ ⟨.inl (by kernel_rfl), .inr CW5.out, trivial⟩ ?_
        clear hK K
        try simp only [Act.put, List.getElem_toArray, List.getElem_cons_zero, List.getElem_cons_succ, List.setIfInBounds_toArray, List.set_cons_zero, List.set_cons_succ]
        refine kr_find 11 rfl (by kernel_rfl) (by kernel_rfl) (by kernel_rfl) (fun _ _ _ _ h => h) (by rfl) trivial ?_
        apply Exists.intro; apply And.intro
        · intro w' hS K hK
          clear hS
          go_light
          go_simp
          exact hK.out
        try simp only [Act.put, List.getElem_toArray, List.getElem_cons_zero, List.getElem_cons_succ, List.setIfInBounds_toArray, List.set_cons_zero, List.set_cons_succ]
        refine kr_find 12 rfl (by kernel_rfl) (by kernel_rfl) (by kernel_rfl) (fun _ _ _ _ h => h) (by rfl) trivial ?_
        apply Exists.intro; apply And.intro
        · intro w' hS K hK
          clear hS
          go_light
          go_simp
          exact hK.out
        try simp only [Act.put, List.getElem_toArray, List.getElem_cons_zero, List.getElem_cons_succ, List.setIfInBounds_toArray, List.set_cons_zero, List.set_cons_succ]
        refine kr_one 13 (by kernel_rfl) rfl (by rfl) (fun K hK => ?_)
        have hce := cells_at W5 e.p (En.cells ⟨e.p, e.pv, ⟨e.nb.ip, e.nb.st, e.nb.mac, e.nb.since, e.nb.asked, tr + 1, e.nb.pend⟩⟩) 46 HB5.out 12 _ rfl
        have hze := frozen_of_row W5 e.p 12 _ 46 HB5.out
        go_simp
        clear hce hze
        have HB6 := Lib.hid (show (W5.setCell ⟨e.p, 12, none⟩ (.int .i64 now)).heap[e.p]? = some (.cells (En.cells ⟨e.p, e.pv, ⟨e.nb.ip, e.nb.st, e.nb.mac, e.nb.since, now, tr + 1, e.nb.pend⟩⟩).toArray 46) from by rw [heap_setCell_same W5 e.p 12 _ 46 _ HB5.out]; rfl)
        have F6 := Lib.hid (F5.out.setCell ⟨e.p, 12, none⟩ (.int .i64 now) (fun _ => rfl))
        generalize W5.setCell ⟨e.p, 12, none⟩ (.int .i64 now) = W6 at HB6 F6 ⊢
        refine hK.out _ _ ⟨.inl (by kernel_rfl), .inl (by kernel_rfl), trivial⟩ ?_
        clear hK K
        try simp only [Act.put, List.getElem_toArray, List.getElem_cons_zero, List.getElem_cons_succ, List.setIfInBounds_toArray, List.set_cons_zero, List.set_cons_succ]
        refine kr_done (by kernel_rfl) ?_ _
        refine outN_ok ?_
        have HE6 := Lib.hid (show EnAt N W6 ⟨e.p, e.pv, askNb e.nb now⟩ from ⟨by rw [HB6.out]; unfold askNb; rw [HTR.out], (HE1.out.sl.fr0 D1.out).fr F6.out (fun k hk e1 => by
          have e1 : k = e.p := e1
          exact HE1.out.sl.ne HE1.out.blk (by decide) (e1 ▸ hk)), HE.out.hp, askNb_ok HEO.out (by rw [HTR.out]; exact h3) HNW.out.1⟩)
        have TId := Lib.hid (TI1.out.fr0 D1.out)
        have TI6 := Lib.hid (TId.out.ask T.out HEM.out (askNb e.nb now) rfl HE6.out F6.out)
        have BT6 := Lib.hid (show W6.heap[bt]? = some (.cells #[.pointer (some ⟨g, 0, none⟩)] 24) from (F6.out.block bt (lt_of_block ((D1.out.block bt (lt_of_block BT1.out) (fun e => e)).trans BT1.out)) (fun e1 => by have e1 : bt = e.p := e1; have h := HSZ.out; have h2 := HEL.out; omega)).trans ((D1.out.block bt (lt_of_block BT1.out) (fun e => e)).trans BT1.out))
        have BW6 := Lib.hid (show W6.heap[bw]? = some (.cells #[.int .i64 now] 3) from (F6.out.block bw (lt_of_block BWd.out) NEW.out).trans BWd.out)
        obtain ⟨A2, c2, hbo, hso⟩ := TI6.out.out
        obtain ⟨n2, hn2'⟩ : ∃ n2, s.out.length = n2 := ⟨_, rfl⟩
        have hn8 : n2 ≤ 8 := by rw [← hn2']; exact HLE.out.1
        rw [show ({ s with M := s.M.map (upd e.p (askNb e.nb now)) } : TS).out = s.out from rfl, hn2'] at hbo hso
        have HN2 := Lib.hid hn2'
        have BO6 := Lib.hid hbo
        have SO6 := Lib.hid hso
        obtain ⟨lv6, ht6, hl6⟩ := TI6.out.ex
        have HT6 := Lib.hid ht6
        have ZB6 := Lib.hid (show w1.heap.size ≤ W6.drew.heap.size from TI6.out.size)
        clear hbo hso hn2' ht6 hl6 hwt
        have D6 := Lib.hid ((Fr.refl (fun _ => False) W6).drew)
        have CO := Lib.hid (show W6.drew.cell? ⟨bo, 0, none⟩ = some (.slice A2 n2 c2) from cells_at W6.drew bo [.slice A2 n2 c2] 36 BO6.out 0 _ rfl)
        have CT := Lib.hid (show W6.drew.cell? ⟨bt, 0, none⟩ = some (.pointer (some ⟨g, 0, none⟩)) from cells_at W6.drew bt [.pointer (some ⟨g, 0, none⟩)] 24 BT6.out 0 _ rfl)
        have RI := Lib.hid (show W6.drew.rangeAt e.p 0 [.int .u8 e.nb.ip.a, .int .u8 e.nb.ip.b, .int .u8 e.nb.ip.c, .int .u8 e.nb.ip.d] from range_part (range_at W6.drew e.p _ 46 HB6.out) 0 4)
        have HCd := Lib.hid (HT6.out.at'.fr D6.out)
        have BOd := Lib.hid (show W6.drew.heap[bo]? = some (.cells #[.slice A2 n2 c2] 36) from BO6.out)
        have SOd := Lib.hid (SO6.out.fr0 D6.out)
        gi_wp2
        refine kr_inRound _ [(0, fun W => W.cell? ⟨bo, 0, none⟩ = some (.slice A2 n2 c2)), (1, fun W => W.cell? ⟨bt, 0, none⟩ = some (.pointer (some ⟨g, 0, none⟩))), (5, fun W => W.rangeAt e.p 0 [.int .u8 e.nb.ip.a, .int .u8 e.nb.ip.b, .int .u8 e.nb.ip.c, .int .u8 e.nb.ip.d])] (by kernel_rfl) (by kernel_rfl) (by kernel_rfl) ?_
        generalize W6.drew = W6d at D6 CO CT RI HCd BOd SOd ZB6 ⊢
        refine kr_find 0 rfl (by kernel_rfl) (by kernel_rfl) (by kernel_rfl) (fun _ _ _ _ h => h) (by rfl) (show _ from CO.out) ?_
        apply Exists.intro; apply And.intro
        · intro w' hS K hK
          have hS : w'.cell? ⟨bo, 0, none⟩ = some (.slice A2 n2 c2) := hS
          go_light
          go_simp
          exact hK.out
        try simp only [Act.put, List.getElem_toArray, List.getElem_cons_zero, List.getElem_cons_succ, List.setIfInBounds_toArray, List.set_cons_zero, List.set_cons_succ]
        refine kr_find 1 rfl (by kernel_rfl) (by kernel_rfl) (by kernel_rfl) (fun _ _ _ _ h => h) (by rfl) (show _ from CT.out) ?_
        apply Exists.intro; apply And.intro
        · intro w' hS K hK
          have hS : w'.cell? ⟨bt, 0, none⟩ = some (.pointer (some ⟨g, 0, none⟩)) := hS
          go_light
          go_simp
          exact hK.out
        try simp only [Act.put, List.getElem_toArray, List.getElem_cons_zero, List.getElem_cons_succ, List.setIfInBounds_toArray, List.set_cons_zero, List.set_cons_succ]
        refine kr_find 2 rfl (by kernel_rfl) (by kernel_rfl) (by kernel_rfl) (fun _ _ _ _ h => h) (by rfl) trivial ?_
        apply Exists.intro; apply And.intro
        · intro w' hS K hK
          clear hS
          go_light
          go_simp
          exact hK.out
        try simp only [Act.put, List.getElem_toArray, List.getElem_cons_zero, List.getElem_cons_succ, List.setIfInBounds_toArray, List.set_cons_zero, List.set_cons_succ]
        refine kr_find 3 rfl (by kernel_rfl) (by kernel_rfl) (by kernel_rfl) (fun _ _ _ _ h => h) (by rfl) trivial ?_
        apply Exists.intro; apply And.intro
        · intro w' hS K hK
          clear hS
          go_light
          go_simp
          exact hK.out
        try simp only [Act.put, List.getElem_toArray, List.getElem_cons_zero, List.getElem_cons_succ, List.setIfInBounds_toArray, List.set_cons_zero, List.set_cons_succ]
        refine kr_find 4 rfl (by kernel_rfl) (by kernel_rfl) (by kernel_rfl) (fun _ _ _ _ h => h) (by rfl) trivial ?_
        apply Exists.intro; apply And.intro
        · intro w' hS K hK
          clear hS
          go_light
          go_simp
          exact hK.out
        try simp only [Act.put, List.getElem_toArray, List.getElem_cons_zero, List.getElem_cons_succ, List.setIfInBounds_toArray, List.set_cons_zero, List.set_cons_succ]
        refine kr_take 5 rfl (by kernel_rfl) (by kernel_rfl) (by kernel_rfl) (fun _ _ _ h => h) (yieldsIf_load_mid (by rfl) 29 _ rfl (e.p) (0) rfl ([.int .u8 e.nb.ip.a, .int .u8 e.nb.ip.b, .int .u8 e.nb.ip.c, .int .u8 e.nb.ip.d]) _ (fun _ h => h) Try.underlying29 rfl (by kernel_rfl)) (show _ from RI.out) ?_
        try simp only [Act.put, List.getElem_toArray, List.getElem_cons_zero, List.getElem_cons_succ, List.setIfInBounds_toArray, List.set_cons_zero, List.set_cons_succ]
        refine kr_one 6 (by kernel_rfl) rfl (by rfl) (fun K hK => ?_)
        go_simp
        go_at_call 41
        refine (request41 e.nb.ip W6d HCd.out).mono ?_
        rintro en w7 ⟨rfl, hf⟩
        have F7 := Lib.hid hf
        clear hf
        have CO7 := Lib.hid (show w7.cell? ⟨bo, 0, none⟩ = some (.slice A2 n2 c2) from cells_at w7 bo [.slice A2 n2 c2] 36 ((F7.out.block bo (lt_of_block BOd.out) (fun e => e)).trans BOd.out) 0 _ rfl)
        refine hK.out _ _ ⟨.inr CO7.out, .inl (by kernel_rfl), .inl (by kernel_rfl), trivial⟩ ?_
        clear hK K
        try simp only [Act.put, List.getElem_toArray, List.getElem_cons_zero, List.getElem_cons_succ, List.setIfInBounds_toArray, List.set_cons_zero, List.set_cons_succ]
        refine kr_one 7 (by kernel_rfl) rfl (by rfl) (fun K hK => ?_)
        refine wp_buildSlice1 st36 rfl (by decide) (rqCells mac ip e.nb.ip).toArray rfl rfl ?_
        obtain ⟨h1, h2, h3⟩ := one_new w7 (rqCells mac ip e.nb.ip).toArray 33
        generalize w7.alloc (.cells (rqCells mac ip e.nb.ip).toArray 33) = w8 at h1 h2 h3 ⊢
        obtain ⟨b8, h4⟩ : ∃ k, w7.heap.size = k := ⟨_, rfl⟩
        rw [h4] at h1 ⊢
        have B8 := Lib.hid h1
        have F8 := Lib.hid (F7.out.then' h2)
        clear h1 h2 h3 h4
        have CO8 := Lib.hid (show w8.cell? ⟨bo, 0, none⟩ = some (.slice A2 n2 c2) from cells_at w8 bo [.slice A2 n2 c2] 36 ((F8.out.block bo (lt_of_block BOd.out) (fun e => e)).trans BOd.out) 0 _ rfl)
        refine hK.out _ _ ⟨.inr CO8.out, .inl (by kernel_rfl), .inl (by kernel_rfl), trivial⟩ ?_
        clear hK K
        try simp only [Act.put, List.getElem_toArray, List.getElem_cons_zero, List.getElem_cons_succ, List.setIfInBounds_toArray, List.set_cons_zero, List.set_cons_succ]
        refine kr_one 8 (by kernel_rfl) rfl (by rfl) (fun K hK => ?_)
        have SO8 := Lib.hid (SOd.out.fr0 F8.out)
        refine wp_append_sl (base := w1.heap.size) _ _ rfl st36 (.slice A2 n2 c2) n2 (oc mac ip s.out) rfl SO8.out _ 1 (rqCells mac ip e.nb.ip) rfl (Src.ofSlice (w := w8) Try.underlying36 ⟨b8, 0, none⟩ 1 1 _ rfl (fun j u hj => by rw [Addr.add_mid]; exact range_at w8 b8 _ 33 B8.out j u hj) (by simp [rqCells, Value.oneCell'])) (by simp only [maxLen]; omega) (by omega) (Nat.le_trans ZB6.out F8.out.size) ?_
        intro v9 w9 hs hg ho hn
        obtain ⟨A9, c9, hv9, _, _⟩ := hs.form
        subst hv9
        have S9 := Lib.hid hs
        have G9 := Lib.hid hg
        clear hs hg ho hn
        have BO8 := Lib.hid ((F8.out.block bo (lt_of_block BOd.out) (fun e => e)).trans BOd.out)
        have BO9 := Lib.hid (show w9.heap[bo]? = some (.cells #[.slice A2 n2 c2] 36) from (G9.out.block bo (lt_of_block BO8.out) (fun e1 => SO8.out.ne BO8.out (by decide) e1.symm)).trans BO8.out)
        refine hK.out _ _ ⟨.inl (by kernel_rfl), .inl (by kernel_rfl), .inl (by kernel_rfl), trivial⟩ ?_
        clear hK K
        try simp only [Act.put, List.getElem_toArray, List.getElem_cons_zero, List.getElem_cons_succ, List.setIfInBounds_toArray, List.set_cons_zero, List.set_cons_succ]
        refine kr_one 9 (by kernel_rfl) rfl (by rfl) (fun K hK => ?_)
        have hcg := cells_at w9 bo [.slice A2 n2 c2] 36 BO9.out 0 _ rfl
        have hzg := frozen_of_row w9 bo 0 _ 36 BO9.out
        go_simp
        clear hcg hzg
        refine hK.out _ _ ⟨.inl (by kernel_rfl), .inl (by kernel_rfl), .inl (by kernel_rfl), trivial⟩ ?_
        clear hK K
        try simp only [Act.put, List.getElem_toArray, List.getElem_cons_zero, List.getElem_cons_succ, List.setIfInBounds_toArray, List.set_cons_zero, List.set_cons_succ]
        refine kr_done (by kernel_rfl) ?_ _
        refine outN_ok ?_
        have F69 := Lib.hid (show Fr (fun i => i = bo ∨ (Value.slice A2 n2 c2).ownBlock = some i) W6 (w9.setCell ⟨bo, 0, none⟩ (.slice A9 (n2 + 1) c9)) from (((D6.out.then' F8.out).upto (S := fun i => i = bo ∨ (Value.slice A2 n2 c2).ownBlock = some i)).grown G9.out (fun r e1 _ => .inr e1)).setCell _ _ (fun _ => .inl rfl))
        have BOx := Lib.hid (show (w9.setCell ⟨bo, 0, none⟩ (.slice A9 (n2 + 1) c9)).heap[bo]? = some (.cells #[.slice A9 (n2 + 1) c9] 36) from heap_setCell_same w9 bo 0 _ 36 _ BO9.out)
        have Sx := Lib.hid (show Sl w1.heap.size 33 21 (w9.setCell ⟨bo, 0, none⟩ (.slice A9 (n2 + 1) c9)) (.slice A9 (n2 + 1) c9) (n2 + 1) (oc mac ip s.out ++ rqCells mac ip e.nb.ip) from S9.out.heap (fun k hk => Below.heap_setCell _ _ _ _ (fun e1 => by
          obtain ⟨c', h'⟩ := S9.out.tag hk
          have e1 : k = bo := e1
          rw [e1, BO9.out] at h'
          exact absurd (tag_ne h') (by decide))))
        generalize w9.setCell ⟨bo, 0, none⟩ (.slice A9 (n2 + 1) c9) = Wx at F69 BOx Sx ⊢
        have hlen : (s.out ++ [e.nb.ip]).length = n2 + 1 := by rw [List.length_append, HN2.out]; rfl
        have TIx := Lib.hid (show TI N w1.heap.size g bo bg mac ip w L lv { ({ s with M := s.M.map (upd e.p (askNb e.nb now)) } : TS) with out := s.out ++ [e.nb.ip] } Wx from TI6.out.setOut T.out BO6.out (A := A9) (c := c9) (by rw [hlen]; exact BOx.out) (by rw [hlen, oc_snoc]; exact Sx.out) F69.out)
        have VLO := Lib.hid (fun k (hk : (Value.slice A2 n2 c2).ownBlock = some k) => (SO6.out.lt k hk).1)
        clear hlen
        gi_wp2
        refine ⟨(Fd.out.keeps (fun i e => e.elim)).trans ((D1.out.keeps (fun i e => e.elim)).trans ((F6.out.keeps ?_).trans (F69.out.keeps ?_))), (KpN.ofFr (Fd.out.then' D1.out)).trans ((KpN.ofS F6.out ?_ ?_ ?_).trans (KpN.ofS F69.out ?_ ?_ ?_)), ?_, ?_, ?_⟩
        · rintro i rfl
          exact ⟨_, _, HBd.out⟩
        · rintro i (rfl | hi)
          · exact ⟨_, _, BO6.out⟩
          · obtain ⟨c, hc⟩ := SO6.out.tag hi; exact ⟨c, _, hc⟩
        · rintro b cs hb rfl
          rw [HBd.out] at hb; exact absurd (tag_ne hb) (by decide)
        · rintro b hb rfl
          have h := HSZ.out
          have h2 := HEL.out
          omega
        · rintro p hp rfl v hv
          have h1 := cells_at Wd e.p e.cells 46 HBd.out 4 (.int .i64 e.nb.st) rfl
          rw [h1] at hv
          rw [← hv]
          exact cells_at W6 e.p _ 46 HB6.out 4 _ rfl
        · rintro b cs hb (rfl | hi)
          · rw [BO6.out] at hb; exact absurd (tag_ne hb) (by decide)
          · exact absurd hi (SO6.out.ne hb (by decide))
        · rintro b hb hi
          have h := HSZ.out
          rcases hi with hi | hi
          · omega
          · have := VLO.out b hi; omega
        · rintro p hp hi
          obtain ⟨a, ha, hpa⟩ := ent_of TI6.out.ps hp
          have hc := (HT6.out.ent a ha).blk
          rw [hpa] at hc
          rcases hi with rfl | hi
          · rw [BO6.out] at hc; exact absurd (tag_ne hc) (by decide)
          · exact absurd hi (SO6.out.ne hc (by decide))
        · rw [HNX.out, step_ask HT1.out.pnd HEM.out HT.out]
          exact TIx.out
        · refine (F69.out.block bt (lt_of_block BT6.out) (fun hi => ?_)).trans BT6.out
          have h := HSZ.out
          rcases hi with hi | hi
          · omega
          · have := VLO.out bt hi; omega
        · refine (F69.out.block bw (lt_of_block BW6.out) (fun hi => ?_)).trans BW6.out
          have h := HSZ.out
          rcases hi with hi | hi
          · omega
          · have := VLO.out bw hi; omega
  case done =>
    rintro D ys W hD hys ⟨hti, _, _⟩ hK
    rw [hys] at hti
    obtain ⟨A, c, hbo, hso⟩ := hti.out
    obtain ⟨A2, c2, hbg, hsg⟩ := hti.gone
    have HTI := Lib.hid hti
    have BOe := Lib.hid hbo
    have BGe := Lib.hid hbg
    have SOe := Lib.hid hso
    have SGe := Lib.hid hsg
    have HK := Lib.hid hK
    clear hti hbo hbg hso hsg hK hys
    have CO := Lib.hid (show W.drew.cell? ⟨bo, 0, none⟩ = some (.slice A (TS.run now L (yl L 2)).out.length c) from cells_at W.drew bo [.slice A (TS.run now L (yl L 2)).out.length c] 36 BOe.out 0 _ rfl)
    have CG := Lib.hid (show W.drew.cell? ⟨bg, 0, none⟩ = some (.slice A2 (TS.run now L (yl L 2)).gone.length c2) from cells_at W.drew bg [.slice A2 (TS.run now L (yl L 2)).gone.length c2] 37 BGe.out 0 _ rfl)
    have Fd := Lib.hid ((Fr.refl (fun _ => False) W).drew)
    obtain ⟨no, hno⟩ : ∃ no, (TS.run now L (yl L 2)).out.length = no := ⟨_, rfl⟩
    obtain ⟨ng, hng⟩ : ∃ ng, (TS.run now L (yl L 2)).gone.length = ng := ⟨_, rfl⟩
    rw [hno] at CO
    rw [hng] at CG
    have HNG := Lib.hid (And.intro hno hng)
    clear hno hng
    gi_wp2
    refine kr_inWide [(0, fun W => W.cell? ⟨bo, 0, none⟩ = some (.slice A no c)), (1, fun W => W.cell? ⟨bg, 0, none⟩ = some (.slice A2 ng c2))] (by kernel_rfl) (by kernel_rfl) (by kernel_rfl) ?_
    refine kr_find 0 rfl (by kernel_rfl) (by kernel_rfl) (by kernel_rfl) (fun _ _ _ _ h => h) (by rfl) (show _ from CO.out) ?_
    apply Exists.intro; apply And.intro
    · intro w' hS K hK
      have hS : w'.cell? ⟨bo, 0, none⟩ = some (.slice A no c) := hS
      go_light
      go_simp
      exact hK.out
    try simp only [Act.put, List.getElem_toArray, List.getElem_cons_zero, List.getElem_cons_succ, List.setIfInBounds_toArray, List.set_cons_zero, List.set_cons_succ]
    refine kr_find 1 rfl (by kernel_rfl) (by kernel_rfl) (by kernel_rfl) (fun _ _ _ _ h => h) (by rfl) (show _ from CG.out) ?_
    apply Exists.intro; apply And.intro
    · intro w' hS K hK
      have hS : w'.cell? ⟨bg, 0, none⟩ = some (.slice A2 ng c2) := hS
      go_light
      go_simp
      exact hK.out
    try simp only [Act.put, List.getElem_toArray, List.getElem_cons_zero, List.getElem_cons_succ, List.setIfInBounds_toArray, List.set_cons_zero, List.set_cons_succ]
    refine kr_find 2 rfl (by kernel_rfl) (by kernel_rfl) (by kernel_rfl) (fun _ _ _ _ h => h) (by rfl) trivial ?_
    apply Exists.intro; apply And.intro
    · intro w' hS K hK
      clear hS
      go_light
      go_simp
      exact hK.out
    try simp only [Act.put, List.getElem_toArray, List.getElem_cons_zero, List.getElem_cons_succ, List.setIfInBounds_toArray, List.set_cons_zero, List.set_cons_succ]
    refine kr_find 3 rfl (by kernel_rfl) (by kernel_rfl) (by kernel_rfl) (fun _ _ _ _ h => h) (by rfl) trivial ?_
    apply Exists.intro; apply And.intro
    · intro w' hS K hK
      clear hS
      go_light
      go_simp
      exact hK.out
    try simp only [Act.put, List.getElem_toArray, List.getElem_cons_zero, List.getElem_cons_succ, List.setIfInBounds_toArray, List.set_cons_zero, List.set_cons_succ]
    refine kr_done (by kernel_rfl) ?_ _
    refine outN_ok ?_
    gi_wp2
    have hlt := HSZ.out
    have HKD : W.drew.heap[D]? = some (.deferred (some [])) := HK.out
    refine ⟨by simp, .inl ⟨_, _, rfl, run_takeDeferred HKD, ?_⟩⟩
    refine ⟨.tuple #[.slice A no c, .slice A2 ng c2], by simp [results, Try.results18, go_sem], ?_⟩
    have TIe := (HTI.out.fr0 Fd.out)
    have TIf := TIe.kc (W' := W.drew.putObj D (.deferred none)) (fun b c t hb => World.putObj_heap_other (fun e1 => by
      rw [e1, HKD] at hb
      cases hb)) (by simp) (TIe.fr.putObj _ (by omega) HKD)
    obtain ⟨lv', ht', _⟩ := TIf.ex
    have hb1 := HTI.out.out
    refine ⟨A, c, A2, c2, lv', by rw [HNG.out.1, HNG.out.2], ht', ?_, ?_, TIf.fr⟩
    · exact ((SOe.out.fr0 Fd.out).heap (fun k hk => World.putObj_heap_other (fun e1 => by
        obtain ⟨c', h'⟩ := (SOe.out.fr0 Fd.out).tag hk
        rw [e1, HKD] at h'
        cases h'))).mono F1.out.size
    · exact ((SGe.out.fr0 Fd.out).heap (fun k hk => World.putObj_heap_other (fun e1 => by
        obtain ⟨c', h'⟩ := (SGe.out.fr0 Fd.out).tag hk
        rw [e1, HKD] at h'
        cases h'))).mono F1.out.size
  case stop =>
    rintro D c pre W hD hpre hf hK
    exact hf.elim
end Go.Proofs.Ytfnphkijalkllaa
