/- What packhorselaw19.RestQuiet keeps from round to round, and its rows of forty; the argument's cells. No condition. -/
import Derived.Test.YtcgghjjchfafiaaRestD
import Derived.Deep.DeepCutAuto
namespace Go.Proofs.Ytcgghjjchfafiaa
open Go.RowKit Go.Maps

/-- An array of forty, told by a function. -/
def row40 (f : Nat → Value) : Array Value := ((List.range 40).map f).toArray
theorem row40_get (f : Nat → Value) {m : Nat} (h : m < 40) : (row40 f)[m]? = some (f m) := by
  unfold row40
  simp [h]
def upd {α : Type} (f : Nat → α) (n : Nat) (v : α) : Nat → α := fun m => if m = n then v else f m
theorem row40_set (f : Nat → Value) (n : Nat) (v : Value) : (row40 f).setIfInBounds n v = row40 (upd f n v) := by
  apply Array.ext
  · simp [row40]
  · intro i h1 h2
    have hi : i < 40 := by simpa [row40] using h2
    rw [Array.getElem_setIfInBounds (by simpa [row40] using hi)]
    simp only [row40, List.getElem_toArray, List.getElem_map, List.getElem_range, upd]
    by_cases e : n = i
    · subst e; simp
    · rw [if_neg e, if_neg (fun h => e h.symm)]
/-- Block b is that array. -/
def Row40 (w : World) (b T : Nat) (f : Nat → Value) : Prop := w.heap[b]? = some (.cells (row40 f) T (0, 0))
theorem Row40.cell {w : World} {b T : Nat} {f : Nat → Value} (h : Row40 w b T f) {m : Nat} (hm : m < 40) : w.cell? ⟨b, m, none⟩ = some (f m) := by
  rw [cell_of_row w b m _ T (0, 0) h]; exact row40_get f hm
theorem Row40.free {w : World} {b T : Nat} {f : Nat → Value} (h : Row40 w b T f) (m : Nat) : w.frozen? ⟨b, m, none⟩ = false := frozen_of_row w b m _ T h
theorem Row40.set {w : World} {b T : Nat} {f : Nat → Value} (h : Row40 w b T f) (n : Nat) (v : Value) : Row40 (w.setCell ⟨b, n, none⟩ v) b T (upd f n v) := by
  unfold Row40
  rw [heap_setCell_same w b n _ T v h, row40_set]
theorem Row40.far {w : World} {b T : Nat} {f : Nat → Value} (h : Row40 w b T f) (p : Addr) (v : Value) (hne : b ≠ p.block) : Row40 (w.setCell p v) b T f :=
  (heap_setCell_other w p b v hne).trans h
theorem Row40.fr {w w' : World} {b T : Nat} {f : Nat → Value} {S : Nat → Prop} (h : Row40 w b T f) (hf : Fr S w w') (hS : ¬ S b) : Row40 w' b T f := (hf.block b (lt_of_block h) hS).trans h

/-- A key of the forty. -/
def qk (m : Nat) : K4 := ⟨m, 0, 0, 0, 0, 1⟩
theorem qk_inj (i j : Nat) (h : qk i = qk j) : i = j := by unfold qk at h; injection h with h; omega
theorem qk_ok (i : Nat) (h : i < 1000000) : K4.ok ⟨i, 0, 0, 0, 0, 1⟩ := by
  refine ⟨?_, ?_, ?_, ?_, ?_, ?_⟩
  · show (Lit.int .i64 (i : Int)).wf = true
    exact WalkArith.wf_i64 (by omega)
  · show (Lit.int .u8 0).wf = true
    decide
  · show (Lit.int .u8 0).wf = true
    decide
  · show (Lit.int .u8 0).wf = true
    decide
  · show (Lit.int .u8 0).wf = true
    decide
  · show (Lit.int .i64 1).wf = true
    decide

/-- What the law's two arrays say of the table. -/
structure Quiet (L : List (K4 × Int)) (op : Nat → Bool) (si : Nat → Int) (now : Int) : Prop where
  few : L.length ≤ 24
  keys : ∀ p ∈ L, ∃ m, m < 40 ∧ p.1 = qk m
  at_ : ∀ m, m < 40 → lki L (qk m) = if op m then some (-4611686018427387904) else if now - si m < 8 then some (si m + 8) else none
  lo : ∀ m, -100 ≤ si m
  hi : ∀ m, si m ≤ now
  pos : 0 ≤ now

theorem quiet_start : Quiet [] (fun _ => false) (fun _ => -100) 0 :=
  ⟨by simp, by simp, fun m _ => by simp [lki_nil], fun _ => by omega, fun _ => by omega, by omega⟩
theorem quiet_tick {L : List (K4 × Int)} {op : Nat → Bool} {si : Nat → Int} {now : Int} (h : Quiet L op si now) (hn : (L.map (·.1)).Nodup) : Quiet (tickL L (now + 1)) op si (now + 1) := by
  refine ⟨Nat.le_trans (List.length_filter_le _ _) h.few, fun p hp => h.keys p (keys_tickL hp), fun m hm => ?_, h.lo, fun m => by have := h.hi m; omega, by have := h.pos; omega⟩
  rw [lki_tick hn, h.at_ m hm]
  have h1 := h.lo m
  have h2 := h.pos
  by_cases ho : op m = true
  · rw [if_pos ho, if_pos ho]; rfl
  · rw [if_neg ho, if_neg ho]
    by_cases h8 : now - si m < 8
    · rw [if_pos h8]
      by_cases h9 : now + 1 - si m < 8
      · rw [if_pos h9, Option.filter_some, if_pos (by simp [stays]; right; omega)]
      · rw [if_neg h9, Option.filter_some, if_neg (by simp [stays, isOpen]; omega)]
    · rw [if_neg h8, if_neg (by omega)]; rfl
theorem quiet_may {L : List (K4 × Int)} {op : Nat → Bool} {si : Nat → Int} {now : Int} (h : Quiet L op si now) {n : Nat} (hn : n < 40) (hm : mayF L ⟨n, 0, 0, 0, 0, 1⟩ = 0) : op n = false ∧ 8 ≤ now - si n := by
  have h1 := (mayF_zero.1 hm).1
  have h2 := h.at_ n hn
  rw [show lki L (qk n) = none from h1] at h2
  cases ho : op n
  · refine ⟨rfl, ?_⟩
    rw [ho] at h2
    by_cases h8 : now - si n < 8
    · simp [h8] at h2
    · omega
  · rw [ho] at h2; simp at h2
theorem quiet_open {L : List (K4 × Int)} {op : Nat → Bool} {si : Nat → Int} {now : Int} (h : Quiet L op si now) {n : Nat} (hn : n < 40) (hm : mayF L ⟨n, 0, 0, 0, 0, 1⟩ = 0) : Quiet (openL L ⟨n, 0, 0, 0, 0, 1⟩) (upd op n true) si now := by
  refine ⟨?_, fun p hp => ?_, fun m hm' => ?_, h.lo, h.hi, h.pos⟩
  · rw [openL_new hm, List.length_append]
    have := (mayF_zero.1 hm).2
    have := h.few
    simp; omega
  · rcases keys_openL hp with hp | hp
    · exact h.keys p hp
    · exact ⟨n, hn, hp⟩
  · rw [lki_openL, h.at_ m hm', upd]
    by_cases e : m = n
    · subst e; rw [if_pos ⟨hm, rfl⟩, if_pos rfl, if_pos rfl]
    · rw [if_neg (fun hh => e (qk_inj _ _ hh.2)), if_neg e]
theorem quiet_close {L : List (K4 × Int)} {op : Nat → Bool} {si : Nat → Int} {now : Int} (h : Quiet L op si now) {n : Nat} (hn : n < 40) : (closeF L ⟨n, 0, 0, 0, 0, 1⟩ = if op n then 0 else 7) := by
  have h2 := h.at_ n hn
  cases ho : op n
  · rw [ho] at h2
    have e : ¬ closeF L ⟨n, 0, 0, 0, 0, 1⟩ = 0 := by
      rw [closeF_zero, show lki L ⟨(n : Int), 0, 0, 0, 0, 1⟩ = _ from h2]
      have := h.lo n
      by_cases h8 : now - si n < 8
      · simp [h8]; omega
      · simp [h8]
    unfold closeF at e ⊢
    cases hl : lki L ⟨(n : Int), 0, 0, 0, 0, 1⟩ with
    | none => simp
    | some u =>
      rw [hl] at e
      by_cases hu : isOpen u = true
      · exact absurd (by simp [hu]) e
      · simp [hu]
  · rw [ho] at h2
    exact closeF_zero.2 h2
theorem quiet_closed {L : List (K4 × Int)} {op : Nat → Bool} {si : Nat → Int} {now : Int} (h : Quiet L op si now) {n : Nat} (hn : n < 40) (hN : (L.map (·.1)).Nodup) (ho : op n = true) : Quiet (closeL L ⟨n, 0, 0, 0, 0, 1⟩ now) (upd op n false) (upd si n now) now := by
  have hc : closeF L ⟨n, 0, 0, 0, 0, 1⟩ = 0 := by rw [quiet_close h hn, ho]; rfl
  refine ⟨by rw [closeL_len hN]; exact h.few, fun p hp => ?_, fun m hm' => ?_, fun m => ?_, fun m => ?_, h.pos⟩
  · rcases keys_closeL hp with hp | hp
    · exact h.keys p hp
    · exact ⟨n, hn, hp⟩
  · rw [lki_closeL, h.at_ m hm']
    by_cases e : m = n
    · subst e
      rw [if_pos ⟨hc, rfl⟩]
      simp [upd]
    · rw [if_neg (fun hh => e (qk_inj _ _ hh.2))]
      simp [upd, e]
  · unfold upd
    split
    · have := h.pos; omega
    · exact h.lo m
  · unfold upd
    split
    · omega
    · exact h.hi m
theorem quiet_not {L : List (K4 × Int)} {op : Nat → Bool} {si : Nat → Int} {now : Int} (h : Quiet L op si now) {n : Nat} (hn : n < 40) (ho : op n = false) : closeL L ⟨n, 0, 0, 0, 0, 1⟩ now = L := by
  rw [closeL, if_neg (by rw [quiet_close h hn, ho]; decide)]

/-- How many are open, or were of late, of the first m. -/
def manyTo (op : Nat → Bool) (si : Nat → Int) (now : Int) (m : Nat) : Nat := ((List.range m).filter fun j => op j || decide (now - si j < 8)).length
theorem many_succ (op : Nat → Bool) (si : Nat → Int) (now : Int) (m : Nat) : manyTo op si now (m + 1) = manyTo op si now m + if op m || decide (now - si m < 8) then 1 else 0 := by
  unfold manyTo
  rw [List.range_succ, List.filter_append, List.length_append, List.filter_cons]
  split <;> simp
theorem many_le (op : Nat → Bool) (si : Nat → Int) (now : Int) (m : Nat) : manyTo op si now m ≤ m := by
  unfold manyTo
  exact Nat.le_trans (List.length_filter_le _ _) (by simp)
theorem quiet_len {L : List (K4 × Int)} {op : Nat → Bool} {si : Nat → Int} {now : Int} (h : Quiet L op si now) (hN : (L.map (·.1)).Nodup) : L.length = manyTo op si now 40 := by
  rw [len_by hN 40 qk qk_inj h.keys]
  unfold manyTo
  congr 1
  refine List.filter_congr fun m hm => ?_
  rw [h.at_ m (List.mem_range.1 hm)]
  cases op m
  · by_cases h8 : now - si m < 8 <;> simp [h8]
  · simp
theorem quiet_is {L : List (K4 × Int)} {op : Nat → Bool} {si : Nat → Int} {now : Int} (h : Quiet L op si now) {m : Nat} (hm : m < 40) (ho : op m = true) : mayF L ⟨m, 0, 0, 0, 0, 1⟩ = 191 := by
  have := h.at_ m hm
  rw [ho] at this
  unfold mayF
  rw [show lki L ⟨(m : Int), 0, 0, 0, 0, 1⟩ = _ from this]
  rfl

/-- A call of the law's list. -/
structure Op8 where
  kind : Int
  p : Int
  a : Int
  b : Int
  c : Int
  d : Int
  t : Int
  wait : Int
def Op8.ok (o : Op8) : Prop := K4.ok ⟨o.p, o.a, o.b, o.c, o.d, o.t⟩ ∧ (Lit.int .i64 o.kind).wf = true ∧ (Lit.int .i64 o.wait).wf = true
/-- The list lies in cells from (b, off) on. -/
def OpsAt (w : World) (b off : Nat) (l : List Op8) : Prop :=
  b < w.heap.size ∧ ∀ i o, l[i]? = some o → o.ok ∧ w.cell? ⟨b, off + i * 8, none⟩ = some (.int .i64 o.kind) ∧ w.cell? ⟨b, off + i * 8 + 1, none⟩ = some (.int .i64 o.p) ∧ w.cell? ⟨b, off + i * 8 + 1 + 1, none⟩ = some (.int .u8 o.a) ∧
    w.cell? ⟨b, off + i * 8 + 1 + 2, none⟩ = some (.int .u8 o.b) ∧ w.cell? ⟨b, off + i * 8 + 1 + 3, none⟩ = some (.int .u8 o.c) ∧ w.cell? ⟨b, off + i * 8 + 1 + 4, none⟩ = some (.int .u8 o.d) ∧
    w.cell? ⟨b, off + i * 8 + 1 + 5, none⟩ = some (.int .i64 o.t) ∧ w.cell? ⟨b, off + i * 8 + 7, none⟩ = some (.int .i64 o.wait)
theorem OpsAt.fr {w w' : World} {b off : Nat} {l : List Op8} (h : OpsAt w b off l) (f : Fr (fun _ => False) w w') : OpsAt w' b off l := by
  refine ⟨Nat.lt_of_lt_of_le h.1 f.size, fun i o hi => ?_⟩
  have e : ∀ j, w'.cell? ⟨b, j, none⟩ = w.cell? ⟨b, j, none⟩ := fun j => World.cell?_of_block (f.block b h.1 (fun e => e))
  simp only [e]
  exact h.2 i o hi
end Go.Proofs.Ytcgghjjchfafiaa
