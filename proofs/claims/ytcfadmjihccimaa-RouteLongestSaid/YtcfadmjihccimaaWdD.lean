/- word.Sum: the checksum of parts is that of their bytes, one behind the other. No condition but lengths. -/
import Derived.Test.YtcfadmjihccimaaProg
import Derived.Test.YtcfadmjihccimaaChecked
import Derived.Test.YtcfadmjihccimaaWdC
namespace Go.Proofs.Ytcfadmjihccimaa
set_option linter.unusedVariables false
open Go.RowKit Go.Shelf
attribute [local go_sem] Oper.semAt_some

theorem cell_new_l (W : World) (v : Value) (t : TypeId) : (W.alloc (.cells #[v] t)).cell? ⟨W.heap.size, 0, none⟩ = some v ∧ (W.alloc (.cells #[v] t)).frozen? ⟨W.heap.size, 0, none⟩ = false :=
  ⟨cell_of_one (heap_alloc_new W _), frozen_of_row _ W.heap.size 0 _ t (heap_alloc_new W _)⟩
theorem cell_alloc_l {W : World} {a : Addr} {v : Value} (o : Obj) (h : W.cell? a = some v) : (W.alloc o).cell? a = some v := cell_kept h (World.grownBy_alloc W o none) (fun r e => by cases e)
theorem frozen_alloc_l {W : World} {a : Addr} {v : Value} (o : Obj) (h : W.cell? a = some v) (hf : W.frozen? a = false) : (W.alloc o).frozen? a = false := (frozen_kept h (World.grownBy_alloc W o none) (fun r e => by cases e)).trans hf

theorem fr_of_below {w w' : World} (h : Below w.heap.size w w') : Fr (fun _ => False) w w' := ⟨h.os, h.tape, h.output, h.size, fun i hi _ => h.block i hi⟩
abbrev W16 := { x : Int // 0 ≤ x ∧ x ≤ 65535 }
def vals (l : List W16) : List Int := l.map (·.1)
theorem vals_snoc (l : List W16) (x : W16) : vals (l ++ [x]) = vals l ++ [x.1] := by simp [vals]
theorem vals_sum_nonneg (l : List W16) : 0 ≤ (vals l).sum := by
  induction l with
  | nil => simp [vals]
  | cons x l ih => simp only [vals, List.map_cons, List.sum_cons] at *; have := x.2; omega

set_option maxHeartbeats 1000000 in
theorem words40 (F : Fence) (n : Nat) (h40 : F.fn 64) (hro : F.round = none) (a : Option Addr) (len cap : Nat) (w : World) :
    CallsIn F n Try.prog 64 #[.slice a len cap] w fun e w' => e = .returned (.func (.func 73) #[] #[.pointer (some ⟨w.heap.size, 0, none⟩)]) ∧ w' = w.alloc (.cells #[.slice a len cap] 126) := by
  refine callsIn_of_wp Try.func64 rfl h40 ?_ hro
  simp only [Try.ntmps64, List.size_toArray, List.length_cons, List.length_nil, Nat.reduceAdd, Nat.reduceSub, Array.replicate_succ, Array.replicate_zero, List.push_toArray, List.append_toArray, List.nil_append, List.cons_append]
  gi_wp2
  go_ret
  exact ⟨rfl, rfl⟩

theorem words_stops (F : Fence) (n : Nat) (h46 : F.fn 73) (hro : F.round = none) (hn : 1 ≤ n) (Bs n₀ : Nat) (A : Option Addr) (cap : Nat) (ps : List (List Int)) (hok : ∀ p ∈ ps, isB p) (hps : ps.length ≤ 140737488355328) (hpl : ∀ p ∈ ps, p.length ≤ 140737488355328)
    (w : World) (hBs : Bs < w.heap.size) (hn₀ : n₀ ≤ w.heap.size) (hc : w.cell? ⟨Bs, 0, none⟩ = some (.slice A ps.length cap)) (hP : PartsIn n₀ w A ps) :
    SeqStopsK F n Try.prog 73 #[.pointer (some ⟨Bs, 0, none⟩)] (fun x : W16 => #[Value.int .i64 x.1]) (Below n₀) (fun ys => vals ys = wordsOf ps.flatten) (fun pre => vals pre <+: wordsOf ps.flatten) (wordsOf ps.flatten).length w := fun l J Jx W hW _ _ hY h0 => by
  have hc' := (hW.cell (p := ⟨Bs, 0, none⟩) hBs).trans hc
  refine (words46 F n h46 hro hn l Bs n₀ A cap ps hok hps hpl (fun ws W => ∃ l', vals l' = ws ∧ J l' W) (fun ws W => ∃ l', vals l' = ws ∧ Jx l' W) ?_ W hc' (hP.below (hW.mono hn₀)) ⟨[], rfl, h0⟩).mono ?_
  · rintro pre x W1 hx0 hx1 ⟨l', rfl, hJ⟩ hl
    refine (hY l' ⟨x, hx0, hx1⟩ W1 hJ (by simpa [vals] using hl)).mono ?_
    rintro e W' (⟨rfl, hJ', hk⟩ | ⟨rfl, hJ'⟩)
    · exact .inl ⟨rfl, ⟨_, vals_snoc _ _, hJ'⟩, hk⟩
    · exact .inr ⟨rfl, _, vals_snoc _ _, hJ'⟩
  · rintro e W' ⟨he, ⟨ys, rfl, l', hl, hj⟩ | ⟨pre, hp, l', rfl, hj⟩⟩
    · exact ⟨he, .inl ⟨l', hl, hj⟩⟩
    · exact ⟨he, .inr ⟨l', hp, hj⟩⟩

set_option maxRecDepth 100000 in
set_option maxHeartbeats 2000000 in
theorem sum28 (A : Option Addr) (cap : Nat) (ps : List (List Int)) (hok : ∀ p ∈ ps, isB p) (hps : ps.length ≤ 140737488355328) (hpl : ∀ p ∈ ps, p.length ≤ 140737488355328) (w : World) (hP : PartsIn w.heap.size w A ps) :
    Calls Try.prog 42 #[.slice A ps.length cap] w fun e W' => e = .returned (.int .i64 (ck ps.flatten)) ∧ Fr (fun _ => False) w W' := by
  refine (callsIn_wide (n := 3)).1 ?_
  refine callsIn_of_wp_marks Try.func42 rfl trivial ?_ rfl
  simp only [Try.ntmps42, List.size_toArray, List.length_cons, List.length_nil, Nat.reduceAdd, Nat.reduceSub, Array.replicate_succ, Array.replicate_zero, List.push_toArray, List.append_toArray, List.nil_append, List.cons_append]
  gi_wp2_with (refine ⟨trivial, ?_⟩; gi_at_call 64; refine (words40 _ _ trivial rfl _ _ _ _).mono ?_; rintro e w' ⟨rfl, rfl⟩)
  have hs := cell_new_l w (.int .i64 0) 3
  have hb := cell_new_l (w.alloc (.cells #[.int .i64 0] 3)) (.slice A ps.length cap) 126
  rw [World.size_alloc] at hb
  have hB0 : Below w.heap.size w ((w.alloc (.cells #[.int .i64 0] 3)).alloc (.cells #[.slice A ps.length cap] 126)) := ((Below.refl _ w).alloc (Nat.le_refl _) _).alloc (by simp) _
  refine wpIn_rangeFunc_ownF rfl (by omega) (gf := 73) (lb := #[.pointer (some ⟨w.heap.size + 1, 0, none⟩)]) rfl trivial (enters_of Try.func73 (by kernel_rfl) rfl)
    (words_stops Fence.wide (3 - 1) trivial rfl (by omega) (w.heap.size + 1) w.heap.size A cap ps hok hps hpl _ (by simp) (by simp; omega) hb.1 (hP.below hB0)) belowK_t (belowK_b (by simp; omega)) (Below.refl _ _) (fun _ => rfl)
    (fun pre W => (W.cell? ⟨w.heap.size, 0, none⟩ = some (.int .i64 (nrm (vals pre).sum)) ∧ W.frozen? ⟨w.heap.size, 0, none⟩ = false) ∧ Below w.heap.size w W)
    (fun _ _ _ => False)
    (OwnFrom.and (Own.from (fun s A B row hs hg hr => ⟨cell_kept hs.1 hg hr, (frozen_kept hs.1 hg hr).trans hs.2⟩) _) (ownFrom_below (Nat.le_refl _) (by simp; omega)))
    (fun _ _ _ _ _ hs _ _ => hs)
    ⟨⟨cell_alloc_l _ hs.1, frozen_alloc_l _ hs.1 hs.2⟩, hB0⟩
    (fun x => { tmps := #[.slice A ps.length cap, undef, .int .i64 0, .pointer (some ⟨w.heap.size, 0, none⟩), .int .i64 x.1, .slice A ps.length cap, .func (.func 73) #[] #[.pointer (some ⟨w.heap.size + 1, 0, none⟩)], .int .i64 x.1, undef, undef, undef, undef, undef, undef], defers := [] }) ?assign ?body ?done ?stop
  case assign =>
    intro l x W K hK
    gi_wp2
    exact hK
  case body =>
    rintro l pre x W ⟨⟨hc, hf⟩, hB⟩ _
    have hx := x.2
    have h0 := vals_sum_nonneg pre
    have hbd := nrm_bd h0
    have hsn : nrm (nrm (vals pre).sum + x.1) = nrm (vals (pre ++ [x])).sum := by rw [nrm_add h0 hx.1, vals_snoc]; simp
    gi_wp2_with (first | (refine ⟨trivial, ?_⟩; gi_at_call 65; refine (CallsIn.inRound l (callsIn_wide.2 (fold41 _ (by omega) (by omega) _))).mono ?_; rintro e w2 ⟨rfl, rfl⟩) | (gi_at_call 65; refine (CallsIn.inRound l (callsIn_wide.2 (fold41 _ (by omega) (by omega) _))).mono ?_; rintro e w2 ⟨rfl, rfl⟩))
    exact ⟨KeepsOthers.setCell _ _ _, (Below.refl w.heap.size _).setCell (p := ⟨w.heap.size, 0, none⟩) (Nat.le_refl _) _, ⟨by rw [← hsn]; exact World.cell?_setCell_same' _ _ _ (by rw [hc]; rfl), by rw [World.frozen?_setCell]; exact hf⟩, hB.setCell (p := ⟨w.heap.size, 0, none⟩) (Nat.le_refl _) _⟩
  case done =>
    rintro D ys W hD hys ⟨⟨hc, _⟩, hB⟩ hK
    rw [hys, wordsOf_sum] at hc
    have hbd := nrm_bd (wt_nonneg false _ (isB_flatten hok))
    gi_wp2
    refine ⟨by simp, .inl ⟨_, _, rfl, run_takeDeferred hK, ?_⟩⟩
    exact ⟨_, results_tmp rfl _ _ _, rfl, fr_of_below (hB.trans (belowK_b (w := w) (Nat.le_refl _) W D _ _ (by simp at hD; omega) hK rfl rfl))⟩
  case stop =>
    rintro D c pre W _ _ h _
    exact h.elim
end Go.Proofs.Ytcfadmjihccimaa
