/- Law 8: a neighbour is looked for. No condition but lengths. -/
import Derived.Test.YtfnphkijalkllaaArE
namespace Go.Proofs.Ytfnphkijalkllaa
set_option linter.unusedVariables false
set_option linter.unusedSimpArgs false
open Go.RowKit Go.Shelf
attribute [local go_sem] Oper.semAt_some
theorem those42 (g : Nat) (no : Int) (w : World) :
    Calls Try.prog 42 #[.pointer (some ⟨g, 0, none⟩), .int .i64 no] w fun e w' => e = .returned (.func (.func 64) #[] #[.pointer (some ⟨w.heap.size, 0, none⟩), .pointer (some ⟨w.heap.size + 1, 0, none⟩)]) ∧ w' = (w.alloc (.cells #[.pointer (some ⟨g, 0, none⟩)] 24)).alloc (.cells #[.int .i64 no] 3) := by
  go_enter Try.func42, Try.ntmps42
  go_wp2_with fail
  go_ret
  exact ⟨rfl, rfl⟩
abbrev PtIn (L : List En) := { p : Nat // p ∈ L.map (·.p) }
def pvals {L : List En} (l : List (PtIn L)) : List Nat := l.map (·.1)
theorem pvals_snoc {L : List En} (l : List (PtIn L)) (x : PtIn L) : pvals (l ++ [x]) = pvals l ++ [x.1] := by simp [pvals]
theorem cat_below {N : Nat} {w W : World} {g : Nat} {mac : M6} {ip : I4} {L : List En} {lv : Value} (h : CAt N w g mac ip L lv) (k : Below w.heap.size w W) : CAt N W g mac ip L lv :=
  h.heap (fun i hi => k.block i (h.lt hi).2)
/-- The iterator's contract, as the loop's law asks it. -/
theorem those_stops (n bc bn g N : Nat) (hn : 1 ≤ n) (mac : M6) (ip : I4) (L : List En) (lv : Value) (no : Int) (E U : Nat → Prop) (hU : U bc ∧ U bn) (w : World) (hC : CAt N w g mac ip L lv)
    (hbc : w.heap[bc]? = some (.cells #[.pointer (some ⟨g, 0, none⟩)] 24)) (hbn : w.heap[bn]? = some (.cells #[.int .i64 no] 3)) (hE : ∀ b, E b → b < w.heap.size) :
    SeqStopsK Fence.wide n Try.prog 64 #[.pointer (some ⟨bc, 0, none⟩), .pointer (some ⟨bn, 0, none⟩)] (fun x : PtIn L => #[Value.pointer (some ⟨x.1, 0, none⟩)]) (KpN E U (L.map (·.p))) (fun ys => pvals ys = yl L no) (fun pre => pvals pre <+: yl L no) (yl L no).length w := fun l J Jx W hW hJ _ hY h0 => by
  refine (those64 n l bc bn g N hn mac ip L lv no E U (fun ws W => ∃ l' : List (PtIn L), pvals l' = ws ∧ J l' W) (fun ws W => ∃ l' : List (PtIn L), pvals l' = ws ∧ Jx l' W) hU ?_ ?_ W (cat_below hC hW)
    ((hW.block bc (lt_of_block hbc)).trans hbc) ((hW.block bn (lt_of_block hbn)).trans hbn) (fun b hb => Nat.lt_of_lt_of_le (hE b hb) hW.size) ⟨[], rfl, h0⟩).mono ?_
  · rintro pre x W1 hx ⟨l', rfl, hj⟩ hl
    refine (hY l' ⟨x, hx⟩ W1 hj (by simpa [pvals] using hl)).mono ?_
    rintro e W' (⟨rfl, hJ', hk⟩ | ⟨rfl, hJ'⟩)
    · exact .inl ⟨rfl, ⟨_, pvals_snoc _ _, hJ'⟩, hk⟩
    · exact .inr ⟨rfl, _, pvals_snoc _ _, hJ'⟩
  · rintro s W1 W2 ⟨l', e, hj⟩ f
    exact ⟨l', e, hJ _ _ _ none hj ⟨f.os, f.tape, f.output, f.size, fun i hi _ => f.block i hi (fun e => e)⟩ (fun r e => by cases e)⟩
  · rintro e W' ⟨he, ⟨ys, rfl, l', hl, hj⟩ | ⟨pre, hp, l', rfl, hj⟩⟩
    · exact ⟨he, .inl ⟨l', hl, hj⟩⟩
    · exact ⟨he, .inr ⟨l', hp, hj⟩⟩
/-- Where a neighbour lies. -/
def fpt (L : List En) (q : I4) : Option En := L.find? (fun e => decide (e.nb.ip = q))
def fptV (L : List En) (q : I4) : Value := match fpt L q with | some e => .pointer (some ⟨e.p, 0, none⟩) | none => .pointer none
theorem fpt_some {L : List En} (hn : L.Pairwise fun a b => a.nb.ip ≠ b.nb.ip) {e : En} (he : e ∈ L) {q : I4} (hq : e.nb.ip = q) : fpt L q = some e := by
  unfold fpt
  induction L with
  | nil => cases he
  | cons x r ih =>
    obtain ⟨h1, h2⟩ := List.pairwise_cons.1 hn
    rw [List.find?_cons]
    rcases List.mem_cons.1 he with rfl | he
    · simp [hq]
    · have : ¬ x.nb.ip = q := fun e2 => h1 e he (e2.trans hq.symm)
      simp [this]
      exact ih h2 he
theorem fpt_none {L : List En} {q : I4} (h : ∀ e ∈ L, e.nb.ip ≠ q) : fpt L q = none := by
  unfold fpt
  rw [List.find?_eq_none]
  intro e he
  simpa using h e he
theorem fpt_in {L : List En} {q : I4} {e : En} (h : fpt L q = some e) : e ∈ L ∧ e.nb.ip = q := by
  unfold fpt at h
  exact ⟨List.mem_of_find?_eq_some h, by simpa using List.find?_some h⟩
theorem ownFrom_fr {β : Type} {w : World} {B : Nat} (hB : w.heap.size ≤ B) : OwnFrom B (fun (_ : β) W => Fr (fun _ => False) w W) :=
  fun _ W W' row hs hg hr => hs.grown hg (fun r e h => by have := (hr r e).1; omega)
theorem yl_all {L : List En} (h : ∀ e ∈ L, e.nb.ok) : yl L 0 = L.map (·.p) := by
  unfold yl
  rw [List.filter_eq_self.2]
  intro e he
  have := (h e he).st
  simp; omega
theorem KeepsOthers.of_drew (W : World) : KeepsOthers W W.drew := ⟨Nat.le_refl _, fun _ _ h _ => h⟩
theorem pw_inj {L : List En} (h : L.Pairwise fun a b => a.p ≠ b.p) {x y : En} (hx : x ∈ L) (hy : y ∈ L) (e : x.p = y.p) : x = y := by
  induction L with
  | nil => cases hx
  | cons z r ih =>
    obtain ⟨h1, h2⟩ := List.pairwise_cons.1 h
    cases List.mem_cons.1 hx with
    | inl ex =>
      cases List.mem_cons.1 hy with
      | inl ey => rw [ex, ey]
      | inr hy1 => exact absurd (ex ▸ e) (h1 y hy1)
    | inr hx1 =>
      cases List.mem_cons.1 hy with
      | inl ey => exact absurd (ey ▸ e).symm (h1 x hx1)
      | inr hy1 => exact ih h2 hx1 hy1
theorem load93 (w : World) (b : Nat) (v : Value) (h : w.cell? ⟨b, 0, none⟩ = some v) : (loadVar 93 ⟨b, 0, none⟩).run Try.prog w = .ok v w := by
  simp [loadVar, isAgg, run_underlying Try.underlying93, h, go_sem]
set_option maxRecDepth 100000 in
set_option maxHeartbeats 4000000 in
theorem find38 {N g : Nat} {mac : M6} {ip : I4} {L : List En} {lv : Value} (q : I4) (hq : q.ok) (w : World) (hC : CAt N w g mac ip L lv) :
    Calls Try.prog 38 #[.pointer (some ⟨g, 0, none⟩), .agg #[.int .u8 q.a, .int .u8 q.b, .int .u8 q.c, .int .u8 q.d]] w fun e w' => e = .returned (fptV L q) ∧ Fr (fun _ => False) w w' := by
  have HC := Lib.hid hC
  have HQ := Lib.hid hq
  clear hC hq
  refine (callsIn_wide (n := 3)).1 ?_
  refine callsIn_of_wp_marks Try.func38 rfl trivial ?_ rfl
  simp only [Try.ntmps38, List.size_toArray, List.length_cons, List.length_nil, Nat.reduceAdd, Nat.reduceSub, Array.replicate_succ, Array.replicate_zero, List.push_toArray, List.append_toArray, List.nil_append, List.cons_append]
  gi_wp2_with (refine ⟨trivial, ?_⟩; gi_at_call 42; refine (callsIn_wide.2 (those42 g 0 _)).mono ?_; rintro e w1 ⟨rfl, rfl⟩)
  have hbq := heap_alloc_new w (.cells #[.int .u8 q.a, .int .u8 q.b, .int .u8 q.c, .int .u8 q.d] 29)
  have hbo := heap_alloc_new (w.alloc (.cells #[.int .u8 q.a, .int .u8 q.b, .int .u8 q.c, .int .u8 q.d] 29)) (.cells #[.pointer none] 93)
  have hbc := heap_alloc_new ((w.alloc (.cells #[.int .u8 q.a, .int .u8 q.b, .int .u8 q.c, .int .u8 q.d] 29)).alloc (.cells #[.pointer none] 93)) (.cells #[.pointer (some ⟨g, 0, none⟩)] 24)
  have hbn := heap_alloc_new (((w.alloc (.cells #[.int .u8 q.a, .int .u8 q.b, .int .u8 q.c, .int .u8 q.d] 29)).alloc (.cells #[.pointer none] 93)).alloc (.cells #[.pointer (some ⟨g, 0, none⟩)] 24)) (.cells #[.int .i64 0] 3)
  have hbc' := (Below.heap_alloc _ (.cells #[.int .i64 0] 3) _ (lt_of_block hbc)).trans hbc
  have hbo' := (Below.heap_alloc _ (.cells #[.int .i64 0] 3) _ (by simp)).trans ((Below.heap_alloc _ (.cells #[.pointer (some ⟨g, 0, none⟩)] 24) _ (lt_of_block hbo)).trans hbo)
  have hbq' := (Below.heap_alloc (((w.alloc (.cells #[.int .u8 q.a, .int .u8 q.b, .int .u8 q.c, .int .u8 q.d] 29)).alloc (.cells #[.pointer none] 93)).alloc (.cells #[.pointer (some ⟨g, 0, none⟩)] 24)) (.cells #[.int .i64 0] 3) w.heap.size (by simp; omega)).trans ((Below.heap_alloc ((w.alloc (.cells #[.int .u8 q.a, .int .u8 q.b, .int .u8 q.c, .int .u8 q.d] 29)).alloc (.cells #[.pointer none] 93)) (.cells #[.pointer (some ⟨g, 0, none⟩)] 24) w.heap.size (by simp; omega)).trans ((Below.heap_alloc (w.alloc (.cells #[.int .u8 q.a, .int .u8 q.b, .int .u8 q.c, .int .u8 q.d] 29)) (.cells #[.pointer none] 93) w.heap.size (by simp)).trans hbq))
  have hsz : ((((w.alloc (.cells #[.int .u8 q.a, .int .u8 q.b, .int .u8 q.c, .int .u8 q.d] 29)).alloc (.cells #[.pointer none] 93)).alloc (.cells #[.pointer (some ⟨g, 0, none⟩)] 24)).alloc (.cells #[.int .i64 0] 3)).heap.size = w.heap.size + 4 := by simp
  have hf1 := ((((Fr.refl (fun _ => False) w).alloc (.cells #[.int .u8 q.a, .int .u8 q.b, .int .u8 q.c, .int .u8 q.d] 29)).alloc (.cells #[.pointer none] 93)).alloc (.cells #[.pointer (some ⟨g, 0, none⟩)] 24)).alloc (.cells #[.int .i64 0] 3)
  simp only [World.size_alloc] at hbq' hbo' hbc' hbn
  generalize (((w.alloc (.cells #[.int .u8 q.a, .int .u8 q.b, .int .u8 q.c, .int .u8 q.d] 29)).alloc (.cells #[.pointer none] 93)).alloc (.cells #[.pointer (some ⟨g, 0, none⟩)] 24)).alloc (.cells #[.int .i64 0] 3) = w1 at hbq' hbo' hbc' hbn hsz hf1 ⊢
  clear hbq hbo hbc
  obtain ⟨bq, ebq⟩ : ∃ k, w.heap.size = k := ⟨_, rfl⟩
  obtain ⟨bo, ebo⟩ : ∃ k, w.heap.size + 1 = k := ⟨_, rfl⟩
  obtain ⟨bc, ebc⟩ : ∃ k, w.heap.size + 1 + 1 = k := ⟨_, rfl⟩
  obtain ⟨bn, ebn⟩ : ∃ k, w.heap.size + 1 + 1 + 1 = k := ⟨_, rfl⟩
  rw [ebn, ebc, ebo]
  rw [ebc] at hbc'; rw [ebo] at hbo'; rw [ebn] at hbn
  rw [ebq] at hbq'
  have HSZ := Lib.hid (And.intro hsz (And.intro ebq (And.intro ebo (And.intro ebc ebn))))
  have BQ := Lib.hid hbq'
  have BO := Lib.hid hbo'
  have BC := Lib.hid hbc'
  have BN := Lib.hid hbn
  have F1 := Lib.hid hf1
  rw [show w.heap.size = bq from ebq]
  clear hbq' hbo' hbc' hbn hf1 hsz ebq ebo ebc ebn
  have HC1 := Lib.hid (HC.out.fr F1.out)
  have HSL := Lib.hid (show w.heap.size < w1.heap.size ∧ bo < w1.heap.size ∧ w.heap.size ≤ bo from by have h := HSZ.out; omega)
  refine wpIn_rangeFunc_ownF rfl (by omega) (gf := 64) (lb := #[.pointer (some ⟨bc, 0, none⟩), .pointer (some ⟨bn, 0, none⟩)]) rfl trivial (enters_of Try.func64 (by kernel_rfl) rfl)
    (those_stops (3 - 1) bc bn g N (by omega) mac ip L lv 0 (fun _ => False) (fun b => b = bc ∨ b = bn) ⟨.inl rfl, .inr rfl⟩ w1 HC1.out BC.out BN.out (fun b h => h.elim)) (fun h k => h.trans k) (fun W l o o' _ h hc _ => KpN.put W l o o' h hc) (Below.refl _ _) (fun _ => rfl)
    (fun pre W => (∀ p ∈ pvals pre, ∀ e ∈ L, e.p = p → e.nb.ip ≠ q) ∧ Fr (fun _ => False) w1 W)
    (fun c pre W => c = .ret ∧ ∃ e ∈ L, e.nb.ip = q ∧ W.heap[bo]? = some (.cells #[.pointer (some ⟨e.p, 0, none⟩)] 93) ∧ Fr (fun _ => False) w W)
    (fun s W W' row hs hg hr => ⟨hs.1, ownFrom_fr (β := Unit) (w := w1) (Nat.le_refl _) () W W' row hs.2 hg hr⟩)
    (fun c s W W' row hs hg hr => by
      obtain ⟨rfl, e, he, hq, hb, hf⟩ := hs
      exact ⟨rfl, e, he, hq, (hg.block bo (lt_of_block hb) (fun h => by have := (hr bo h.symm).1; have := HSL.out; omega)).trans hb, ownFrom_fr (β := Unit) (w := w) (by have := HSL.out; omega) () W W' row hf hg hr⟩)
    ⟨(fun p hp => by simp [pvals] at hp), Fr.refl _ _⟩
    (fun x => { tmps := #[.pointer (some ⟨g, 0, none⟩), .agg #[.int .u8 q.a, .int .u8 q.b, .int .u8 q.c, .int .u8 q.d], undef, .pointer (some ⟨bq, 0, none⟩), .pointer (some ⟨bo, 0, none⟩), .pointer (some ⟨x.1, 0, none⟩), .pointer (some ⟨g, 0, none⟩), .func (.func 64) #[] #[.pointer (some ⟨bc, 0, none⟩), .pointer (some ⟨bn, 0, none⟩)], .pointer (some ⟨x.1, 0, none⟩), undef, undef, undef, undef, undef, undef, undef], defers := [] }) ?assign ?body ?done ?stop
  case assign =>
    intro l x W K hK
    gi_wp2
    exact hK
  case body =>
    rintro l pre x W ⟨hno, hf⟩ _
    obtain ⟨e, he, hex⟩ := List.mem_map.1 x.2
    have HNO := Lib.hid hno
    have HF := Lib.hid hf
    have HE := Lib.hid (And.intro he hex)
    rw [← hex]
    clear hno hf he hex
    have HEO := Lib.hid (HC1.out.ent e HE.out.1).ok.ip
    have RE := Lib.hid (show W.drew.rangeAt e.p 0 [.int .u8 e.nb.ip.a, .int .u8 e.nb.ip.b, .int .u8 e.nb.ip.c, .int .u8 e.nb.ip.d] from range_part (range_at W.drew e.p _ 46 ((HC1.out.fr (HF.out.then' (Fr.refl _ W).drew)).ent e HE.out.1).blk) 0 4)
    have RQ := Lib.hid (show W.drew.rangeAt bq 0 [.int .u8 q.a, .int .u8 q.b, .int .u8 q.c, .int .u8 q.d] from range_at W.drew bq [.int .u8 q.a, .int .u8 q.b, .int .u8 q.c, .int .u8 q.d] 29 ((HF.out.block bq (lt_of_block BQ.out) (fun e => e)).trans BQ.out))
    obtain ⟨r, hr⟩ : ∃ r, decide (e.nb.ip = q) = r := ⟨_, rfl⟩
    have HEQ := Lib.hid (fun w : World => show (binOp .eql 29 (.agg #[.int .u8 e.nb.ip.a, .int .u8 e.nb.ip.b, .int .u8 e.nb.ip.c, .int .u8 e.nb.ip.d]) (.agg #[.int .u8 q.a, .int .u8 q.b, .int .u8 q.c, .int .u8 q.d])).run Try.prog w = .ok (.bool r) w from by rw [← hr]; exact eql29 HEO.out HQ.out w)
    have HR := Lib.hid hr
    clear hr
    gi_wp2
    refine kr_inRound _ [(3, fun W => W.rangeAt e.p 0 [.int .u8 e.nb.ip.a, .int .u8 e.nb.ip.b, .int .u8 e.nb.ip.c, .int .u8 e.nb.ip.d]), (4, fun W => W.rangeAt bq 0 [.int .u8 q.a, .int .u8 q.b, .int .u8 q.c, .int .u8 q.d])] (by kernel_rfl) (by kernel_rfl) (by kernel_rfl) ?_
    refine kr_find 0 rfl (by kernel_rfl) (by kernel_rfl) (by kernel_rfl) (fun _ _ _ _ h => h) (by rfl) trivial ?_
    apply Exists.intro; apply And.intro
    · intro w' hS K hK
      clear hS
      go_light
      go_simp
      exact hK.out
    try simp only [Act.put, List.getElem_toArray, List.getElem_cons_zero, List.getElem_cons_succ, List.setIfInBounds_toArray, List.set_cons_zero, List.set_cons_succ]
    refine kr_find 1 rfl (by kernel_rfl) (by kernel_rfl) (by kernel_rfl) (fun _ _ _ _ h => h) (by rfl) trivial ?_
    apply Exists.intro; apply And.intro
    · intro w' hS K hK
      clear hS
      go_light
      go_simp
      exact hK.out
    try simp only [Act.put, List.getElem_toArray, List.getElem_cons_zero, List.getElem_cons_succ, List.setIfInBounds_toArray, List.set_cons_zero, List.set_cons_succ]
    refine kr_find 2 rfl (by kernel_rfl) (by kernel_rfl) (by kernel_rfl) (fun _ _ _ _ h => h) (by rfl) trivial ?_
    apply Exists.intro; apply And.intro
    · intro w' hS K hK
      clear hS
      go_light
      go_simp
      exact hK.out
    try simp only [Act.put, List.getElem_toArray, List.getElem_cons_zero, List.getElem_cons_succ, List.setIfInBounds_toArray, List.set_cons_zero, List.set_cons_succ]
    refine kr_take 3 rfl (by kernel_rfl) (by kernel_rfl) (by kernel_rfl) (fun _ _ _ h => h) (yieldsIf_load_mid (by rfl) 29 _ rfl (e.p) (0) rfl ([.int .u8 e.nb.ip.a, .int .u8 e.nb.ip.b, .int .u8 e.nb.ip.c, .int .u8 e.nb.ip.d]) _ (fun _ h => h) Try.underlying29 rfl (by kernel_rfl)) (show _ from RE.out) ?_
    try simp only [Act.put, List.getElem_toArray, List.getElem_cons_zero, List.getElem_cons_succ, List.setIfInBounds_toArray, List.set_cons_zero, List.set_cons_succ]
    refine kr_take 4 rfl (by kernel_rfl) (by kernel_rfl) (by kernel_rfl) (fun _ _ _ h => h) (yieldsIf_load_mid (by rfl) 29 _ rfl (bq) (0) rfl ([.int .u8 q.a, .int .u8 q.b, .int .u8 q.c, .int .u8 q.d]) _ (fun _ h => h) Try.underlying29 rfl (by kernel_rfl)) (show _ from RQ.out) ?_
    try simp only [Act.put, List.getElem_toArray, List.getElem_cons_zero, List.getElem_cons_succ, List.setIfInBounds_toArray, List.set_cons_zero, List.set_cons_succ]
    refine kr_take 5 rfl (by kernel_rfl) (by kernel_rfl) (by kernel_rfl) (fun _ _ _ h => h) (kr_bin_agg (by rfl) .eql 29 29 _ _ rfl rfl rfl (by kernel_rfl) _ HEQ.out) trivial ?_
    try simp only [Act.put, List.getElem_toArray, List.getElem_cons_zero, List.getElem_cons_succ, List.setIfInBounds_toArray, List.set_cons_zero, List.set_cons_succ]
    refine kr_done (by kernel_rfl) ?_ _
    refine outN_ok ?_
    have hcb := cells_at W.drew bo [.pointer none] 93 ((HF.out.block bo (lt_of_block BO.out) (fun e => e)).trans BO.out) 0 _ rfl
    have hzb := frozen_of_row W.drew bo 0 _ 93 ((HF.out.block bo (lt_of_block BO.out) (fun e => e)).trans BO.out)
    cases r
    · gi_wp2
      refine ⟨KeepsOthers.of_drew W, KpN.ofFr (Fr.refl (fun _ => False) W).drew, fun p hp e2 he2 h2 => ?_, HF.out.then' (Fr.refl _ W).drew⟩
      rw [pvals_snoc] at hp
      rcases List.mem_append.1 hp with hp | hp
      · exact HNO.out p hp e2 he2 h2
      · rw [List.mem_singleton.1 hp, ← HE.out.2] at h2
        have h3 := pw_inj HC1.out.pnd he2 HE.out.1 h2
        rw [h3]
        exact of_decide_eq_false HR.out
    · gi_wp2
      refine ⟨(KeepsOthers.of_drew W).trans (KeepsOthers.setCell _ _ _), rfl, e, HE.out.1, of_decide_eq_true HR.out, ?_, ?_⟩
      · exact heap_setCell_same W bo 0 _ 93 _ ((HF.out.block bo (lt_of_block BO.out) (fun e => e)).trans BO.out)
      · exact (F1.out.then' (HF.out.then' (Fr.refl _ W).drew)).setCell _ _ (fun h => by have h1 := HSL.out; have h2 : bo < w.heap.size := h; omega)
  case done =>
    rintro D ys W hD hys ⟨hno, hf⟩ hK
    have hcb := cells_at W bo [.pointer none] 93 ((hf.block bo (lt_of_block BO.out) (fun e => e)).trans BO.out) 0 _ rfl
    have hzb := frozen_of_row W bo 0 _ 93 ((hf.block bo (lt_of_block BO.out) (fun e => e)).trans BO.out)
    have HBO := Lib.hid ((hf.block bo (lt_of_block BO.out) (fun e => e)).trans BO.out)
    have HF := Lib.hid (F1.out.then' hf)
    have HN := Lib.hid (fpt_none (L := L) (q := q) (fun e he => hno e.p (by rw [hys, yl_all (fun e he => (HC.out.ent e he).ok)]; exact List.mem_map.2 ⟨e, he, rfl⟩) e he rfl))
    have HK := Lib.hid hK
    clear hno hf hys hK
    gi_wp2
    have hlt := HSL.out
    have HKD : (W.setCell ⟨bo, 0, none⟩ (.pointer none)).heap[D]? = some (.deferred (some [])) := (Below.heap_setCell W ⟨bo, 0, none⟩ (.pointer none) D (fun e => by have e : D = bo := e; omega)).trans HK.out
    refine ⟨by simp, .inl ⟨_, _, rfl, run_takeDeferred HKD, ?_⟩⟩
    refine ⟨_, results_cell38 _ _ bo (.pointer none) rfl ?_, by unfold fptV; rw [HN.out], ?_⟩
    · exact load93 _ bo _ (by
        refine cells_at _ bo [.pointer none] 93 ((World.putObj_heap_other (by omega)).trans (heap_setCell_same W bo 0 _ 93 _ HBO.out)) 0 _ rfl)
    · exact (HF.out.setCell ⟨bo, 0, none⟩ (.pointer none) (fun h => by have h2 : bo < w.heap.size := h; omega)).putObj _ (by omega) HKD
  case stop =>
    rintro D c pre W hD hpre ⟨rfl, e, he, hq, hb, hf⟩ hK
    gi_wp2
    have hlt := HSL.out
    refine ⟨by simp, .inl ⟨_, _, rfl, run_takeDeferred hK, ?_⟩⟩
    refine ⟨_, results_cell38 _ _ bo (.pointer (some ⟨e.p, 0, none⟩)) rfl ?_, by unfold fptV; rw [fpt_some HC.out.ipn he hq], ?_⟩
    · exact load93 _ bo _ (by
        refine cells_at _ bo [.pointer (some ⟨e.p, 0, none⟩)] 93 ((World.putObj_heap_other (by omega)).trans hb) 0 _ rfl)
    · exact hf.putObj _ (by omega) hK
end Go.Proofs.Ytfnphkijalkllaa
