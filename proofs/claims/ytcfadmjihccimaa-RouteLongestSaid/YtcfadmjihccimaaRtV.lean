/- Two tables beside each other, program's and reference's: both contracts over one predicate. No condition but lengths. -/
import Derived.Test.YtcfadmjihccimaaRtS
namespace Go.Proofs.Ytcfadmjihccimaa
set_option linter.unusedVariables false
set_option linter.unusedSimpArgs false
open Go.RowKit
structure Tw (N : Nat) (w0 w : World) (g m gr : Nat) (L R : List W10) (lv lr : Value) : Prop where
  pt : PtAt N w g m L lv
  rr : RrAt N w gr R lr
  hr : N ≤ gr
  fr : Fr (fun _ => False) w0 w
theorem PtAt.nocells {N : Nat} {w : World} {g m : Nat} {L : List W10} {lv : Value} (h : PtAt N w g m L lv) {cs : Array Value} {t : TypeId} (hb : w.heap[m]? = some (Obj.cells cs t)) : False := by
  obtain ⟨⟨es, ⟨es1, ck, h3, _⟩, _⟩, _⟩ := h.map
  rw [h3] at hb
  cases hb
variable {N : Nat} {w0 w w' : World} {g m gr : Nat} {L R L' R' : List W10} {lv lr lv' lr' : Value}
theorem Tw.stay (h : Tw N w0 w g m gr L R lv lr) (f : Fr (fun _ => False) w w') : Tw N w0 w' g m gr L R lv lr :=
  ⟨h.pt.fr f, h.rr.fr f, h.hr, h.fr.then' f⟩
theorem Tw.step1 (hN : w0.heap.size ≤ N) (h : Tw N w0 w g m gr L R lv lr) (h' : PtAt N w' g m L' lv') (f : Fr (fun i => i = g ∨ i = m ∨ lv.ownBlock = some i) w w') : Tw N w0 w' g m gr L' R lv' lr :=
  ⟨h', h.rr.heap ((h.pt.keep f gr _ 67 h.rr.blk (by decide) (by decide)).trans h.rr.blk.symm) (fun k hk => by
      obtain ⟨c, ht⟩ := h.rr.sl.tag hk
      rw [h.pt.keep f k _ 69 ht (by decide) (by decide), ht]), h.hr, (Pt.step hN h.pt h.fr h' f).choose_spec.2⟩
theorem Tw.step2 (hN : w0.heap.size ≤ N) (h : Tw N w0 w g m gr L R lv lr) (h' : RrAt N w' gr R' lr') (f : Fr (fun i => i = gr ∨ lr.ownBlock = some i) w w') : Tw N w0 w' g m gr L R' lv lr' := by
  refine ⟨h.pt.frS f ?_ ?_ ?_, h', h.hr, h.fr.trans f ?_⟩
  · rintro (e | e)
    · have h1 := h.pt.blk
      rw [e, h.rr.blk] at h1
      simp at h1
    · exact h.rr.sl.ne h.pt.blk (by decide) e
  · rintro (e | e)
    · exact h.pt.nocells (e ▸ h.rr.blk)
    · obtain ⟨c, ht⟩ := h.rr.sl.tag e
      exact h.pt.nocells ht
  · rintro k hk (e | e)
    · exact h.pt.sl.ne h.rr.blk (by decide) (e ▸ hk)
    · obtain ⟨c, h1⟩ := h.pt.sl.tag hk
      obtain ⟨c2, h2⟩ := h.rr.sl.tag e
      rw [h1] at h2
      simp at h2
  · rintro i hi (e | e)
    · have := h.hr; omega
    · have := (h.rr.sl.lt i e).1; omega
theorem tw_add {r : Int} (x : W10) (hx : x.ok) (hN : w0.heap.size ≤ N) (hN2 : N ≤ w.heap.size) (h : Tw N w0 w g m gr L R lv lr) (hlen : L.length ≤ 8) (he : addE L x = r) (hl : addL L x = L') :
    Calls Try.prog 30 #[.pointer (some ⟨g, 0, none⟩), .agg x.cells.toArray] w fun e w' => e = .returned (.int .i64 r) ∧ (∃ lv', Tw N w0 w' g m gr L' R lv' lr) ∧ w.heap.size ≤ w'.heap.size ∧ Keep w w' := by
  subst he; subst hl
  refine (add30 N g m L lv x w hx h.pt hlen hN2).mono ?_
  rintro e w' ⟨rfl, lv', hp', f'⟩
  exact ⟨rfl, ⟨lv', h.step1 hN hp' f'⟩, f'.size, h.pt.keep f'⟩
theorem tw_drop {r : Int} (k : I4) (b : Int) (hk : (⟨k, b⟩ : N5).ok) (hN : w0.heap.size ≤ N) (hN2 : N ≤ w.heap.size) (h : Tw N w0 w g m gr L R lv lr) (hlen : L.length ≤ 8) (he : dropE L k b = r) (hl : dropL L k b = L') :
    Calls Try.prog 32 #[.pointer (some ⟨g, 0, none⟩), .agg #[.int .u8 k.a, .int .u8 k.b, .int .u8 k.c, .int .u8 k.d], .int .i64 b] w fun e w' => e = .returned (.int .i64 r) ∧ (∃ lv', Tw N w0 w' g m gr L' R lv' lr) ∧ w.heap.size ≤ w'.heap.size ∧ Keep w w' := by
  subst he; subst hl
  refine (drop32 N g m L lv k b w hk h.pt hlen hN2).mono ?_
  rintro e w' ⟨rfl, lv', hp', f'⟩
  exact ⟨rfl, ⟨lv', h.step1 hN hp' f'⟩, f'.size, h.pt.keep f'⟩
/-- What the reference's own call leaves. -/
def KeepR (gr : Nat) (lr : Value) (w w' : World) : Prop := ∀ b, b < w.heap.size → b ≠ gr → lr.ownBlock ≠ some b → w'.heap[b]? = w.heap[b]?
theorem tw_radd {r : Int} (x : W10) (hx : x.ok) (hN : w0.heap.size ≤ N) (hN2 : N ≤ w.heap.size) (h : Tw N w0 w g m gr L R lv lr) (hlen : R.length ≤ 8) (he : addE R x = r) (hl : addL R x = R') :
    Calls Try.prog 31 #[.pointer (some ⟨gr, 0, none⟩), .agg x.cells.toArray] w fun e w' => e = .returned (.int .i64 r) ∧ (∃ lr', Tw N w0 w' g m gr L R' lv lr') ∧ w.heap.size ≤ w'.heap.size ∧ KeepR gr lr w w' := by
  subst he; subst hl
  refine (radd31 N gr R lr x w hx h.rr hlen hN2).mono ?_
  rintro e w' ⟨rfl, lr', hp', f'⟩
  exact ⟨rfl, ⟨lr', h.step2 hN hp' f'⟩, f'.size, fun b hb h1 h2 => f'.block b hb (fun e => e.elim h1 h2)⟩
theorem tw_rdrop {r : Int} (k : I4) (b : Int) (hk : k.ok) (hN : w0.heap.size ≤ N) (hN2 : N ≤ w.heap.size) (h : Tw N w0 w g m gr L R lv lr) (hlen : R.length ≤ 8) (he : dropE R k b = r) (hl : dropL R k b = R') :
    Calls Try.prog 33 #[.pointer (some ⟨gr, 0, none⟩), .agg #[.int .u8 k.a, .int .u8 k.b, .int .u8 k.c, .int .u8 k.d], .int .i64 b] w fun e w' => e = .returned (.int .i64 r) ∧ (∃ lr', Tw N w0 w' g m gr L R' lv lr') ∧ w.heap.size ≤ w'.heap.size ∧ KeepR gr lr w w' := by
  subst he; subst hl
  refine (rdrop33 N gr R lr k b w hk h.rr hlen hN2).mono ?_
  rintro e w' ⟨rfl, lr', hp', f'⟩
  exact ⟨rfl, ⟨lr', h.step2 hN hp' f'⟩, f'.size, fun b hb h1 h2 => f'.block b hb (fun e => e.elim h1 h2)⟩
theorem tw_find {ra : I4} {re : Int} (k : I4) (hk : k.ok) (h : Tw N w0 w g m gr L R lv lr) (hlen : L.length ≤ 8) (hm : ∀ p ∈ L, mayW p = true) (hf : findA L k = ra ∧ findE L k = re) :
    Calls Try.prog 34 #[.pointer (some ⟨g, 0, none⟩), .agg #[.int .u8 k.a, .int .u8 k.b, .int .u8 k.c, .int .u8 k.d]] w fun e w' => e = .returned (.tuple #[.agg #[.int .u8 ra.a, .int .u8 ra.b, .int .u8 ra.c, .int .u8 ra.d], .int .i64 re]) ∧ Tw N w0 w' g m gr L R lv lr ∧ Fr (fun _ => False) w w' := by
  refine (find34 N g m L lv k w hk h.pt hlen hm).mono ?_
  rintro e w' ⟨rfl, f'⟩
  refine ⟨?_, h.stay f', f'⟩
  rw [hf.1, hf.2]
  rfl
theorem tw_rfind {ra : I4} {re : Int} (k : I4) (hk : k.ok) (h : Tw N w0 w g m gr L R lv lr) (hlen : R.length ≤ 8) (hm : ∀ p ∈ R, mayW p = true) (hf : findA R k = ra ∧ findE R k = re) :
    Calls Try.prog 35 #[.pointer (some ⟨gr, 0, none⟩), .agg #[.int .u8 k.a, .int .u8 k.b, .int .u8 k.c, .int .u8 k.d]] w fun e w' => e = .returned (.tuple #[.agg #[.int .u8 ra.a, .int .u8 ra.b, .int .u8 ra.c, .int .u8 ra.d], .int .i64 re]) ∧ Tw N w0 w' g m gr L R lv lr ∧ Fr (fun _ => False) w w' := by
  refine (rfind35 N gr R lr k w hk h.rr hlen hm).mono ?_
  rintro e w' ⟨rfl, f'⟩
  refine ⟨?_, h.stay f', f'⟩
  rw [hf.1, hf.2]
  rfl
end Go.Proofs.Ytcfadmjihccimaa
