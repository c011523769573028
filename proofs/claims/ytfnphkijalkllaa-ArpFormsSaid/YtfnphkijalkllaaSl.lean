/- Slices that a call owns, wherever in their block they begin (over any program): append, reslicing, cells. No condition. -/
import Derived.Deep.AppendSrc
import Derived.Deep.MidRow
import Derived.ArgAppend
import Derived.Test.YtfnphkijalkllaaMapRep
namespace Go.Proofs.Ytfnphkijalkllaa
set_option linter.unusedVariables false
set_option linter.unusedSimpArgs false
open Go.RowKit

/-- What is known of a slice type t and its elements' type e: sz cells, so many bytes, z the nought. -/
structure SlTy (P : Program) (t e : TypeId) (sz bytes : Nat) (z : Value) : Prop where
  under : P.underlying t = some (.slice e)
  info : (P.info? e).map (fun i => (i.zero, i.size, i.bytes)) = some (some z, sz, bytes)
  zs : z.cells.size = sz
  pos : 0 < sz
theorem SlTy.inf {P : Program} {t e : TypeId} {sz bytes : Nat} {z : Value} (h : SlTy P t e sz bytes z) : ∃ i, P.info? e = some i ∧ i.zero = some z ∧ i.size = sz ∧ i.bytes = bytes := by
  have := h.info
  cases hq : P.info? e with
  | none => simp [hq] at this
  | some i => simp [hq] at this; exact ⟨i, rfl, this.1, this.2.1, this.2.2⟩

/-- v is a slice of n elements (sz cells each, of type e) in a block of its own at base or above; its cells are cs. -/
def Sl (base : Nat) (e : TypeId) (sz : Nat) (w : World) (v : Value) (n : Nat) (cs : List Value) : Prop :=
  cs.length = n * sz ∧ ((v = .slice none 0 0 ∧ n = 0) ∨
   ∃ g off cap cur, v = .slice (some ⟨g, off, none⟩) n cap ∧ base ≤ g ∧ w.heap[g]? = some (.cells cur e) ∧ n ≤ cap ∧ cap ≤ maxLen ∧ off + cap * sz ≤ cur.size ∧ (cur.toList.drop off).take (n * sz) = cs)

section
variable {base : Nat} {e : TypeId} {sz : Nat} {w w' : World} {v : Value} {n : Nat} {cs : List Value}
theorem Sl.nil (base : Nat) (e : TypeId) (sz : Nat) (w : World) : Sl base e sz w (.slice none 0 0) 0 [] := ⟨by simp, .inl ⟨rfl, rfl⟩⟩
theorem Sl.len (h : Sl base e sz w v n cs) : cs.length = n * sz := h.1
theorem Sl.lt (h : Sl base e sz w v n cs) : ∀ k, v.ownBlock = some k → base ≤ k ∧ k < w.heap.size := by
  intro k hk
  rcases h.2 with ⟨rfl, _⟩ | ⟨g, off, cap, cur, rfl, hb, hg, _⟩
  · simp [Value.ownBlock] at hk
  · simp [Value.ownBlock] at hk
    subst hk
    exact ⟨hb, (Array.getElem?_eq_some_iff.1 hg).1⟩
theorem Sl.fr {S : Nat → Prop} (h : Sl base e sz w v n cs) (f : Fr S w w') (hS : ∀ k, v.ownBlock = some k → ¬ S k) : Sl base e sz w' v n cs := by
  refine ⟨h.1, ?_⟩
  rcases h.2 with h0 | ⟨g, off, cap, cur, rfl, hb, hg, h1⟩
  · exact .inl h0
  · exact .inr ⟨g, off, cap, cur, rfl, hb, (f.block g (lt_of_block hg) (hS g rfl)).trans hg, h1⟩
theorem Sl.fr0 (h : Sl base e sz w v n cs) (f : Fr (fun _ => False) w w') : Sl base e sz w' v n cs := h.fr f (fun _ _ e => e)
theorem Sl.heap (h : Sl base e sz w v n cs) (hh : ∀ k, v.ownBlock = some k → w'.heap[k]? = w.heap[k]?) : Sl base e sz w' v n cs := by
  refine ⟨h.1, ?_⟩
  rcases h.2 with h0 | ⟨g, off, cap, cur, rfl, hb, hg, h1⟩
  · exact .inl h0
  · exact .inr ⟨g, off, cap, cur, rfl, hb, (hh g rfl).trans hg, h1⟩
theorem Sl.mono {b' : Nat} (h : Sl base e sz w v n cs) (hb : b' ≤ base) : Sl b' e sz w v n cs := by
  refine ⟨h.1, ?_⟩
  rcases h.2 with h0 | ⟨g, off, cap, cur, rfl, hb', hg, h1⟩
  · exact .inl h0
  · exact .inr ⟨g, off, cap, cur, rfl, Nat.le_trans hb hb', hg, h1⟩
theorem Sl.ofOwn (h : w.ownsRow base e sz v n cs) : Sl base e sz w v n cs := by
  refine ⟨h.1, ?_⟩
  rcases h.2 with h0 | ⟨g, cap, cur, rfl, hb, hg, h1, h2, h3, h4⟩
  · exact .inl h0
  · exact .inr ⟨g, 0, cap, cur, rfl, hb, hg, h1, h2, by omega, by simpa using h4⟩
/-- The value written out. -/
theorem Sl.form (h : Sl base e sz w v n cs) : ∃ A cap, v = .slice A n cap ∧ n ≤ cap ∧ cap ≤ maxLen := by
  rcases h.2 with ⟨rfl, h0⟩ | ⟨g, off, cap, cur, rfl, hb, hg, h1, h2, _⟩
  · exact ⟨none, 0, by rw [h0], by omega, by simp⟩
  · exact ⟨_, _, rfl, h1, h2⟩
theorem Sl.form1 (h : Sl base e sz w v n cs) (h0 : 0 < n) : ∃ g off cap, v = .slice (some ⟨g, off, none⟩) n cap ∧ base ≤ g ∧ g < w.heap.size ∧ n ≤ cap ∧ cap ≤ maxLen ∧
    (∀ j x, cs[j]? = some x → w.cell? ⟨g, off + j, none⟩ = some x) ∧ ∀ j, w.frozen? ⟨g, j, none⟩ = false := by
  rcases h.2 with ⟨_, e0⟩ | ⟨g, off, cap, cur, rfl, hb, hg, h1, h2, h3, h4⟩
  · omega
  · refine ⟨g, off, cap, rfl, hb, lt_of_block hg, h1, h2, fun j x hj => ?_, fun j => frozen_of_row w _ _ _ e hg⟩
    rw [cell_of_row w g (off + j) cur e (0, 0) hg]
    rw [← h4, List.getElem?_take] at hj
    split at hj
    · rw [List.getElem?_drop] at hj; simpa using hj
    · cases hj
theorem Sl.made (w : World) (cs : List Value) (e : TypeId) (sz n : Nat) (hn : cs.length = n * sz) (hm : n ≤ maxLen) (hb : base ≤ w.heap.size) : Sl base e sz (w.alloc (.cells cs.toArray e)) (.slice (some ⟨w.heap.size, 0, none⟩) n n) n cs :=
  ⟨hn, .inr ⟨_, 0, n, cs.toArray, rfl, hb, heap_alloc_new w _, Nat.le_refl _, hm, by simp [hn], by simp [← hn]⟩⟩
theorem Sl.set {g off cap : Nat} (h : Sl base e sz w (.slice (some ⟨g, off, none⟩) n cap) n cs) (j : Nat) (hj : j < n * sz) (x : Value) :
    Sl base e sz (w.setCell ⟨g, off + j, none⟩ x) (.slice (some ⟨g, off, none⟩) n cap) n (cs.set j x) := by
  refine ⟨by rw [List.length_set]; exact h.1, ?_⟩
  rcases h.2 with ⟨hv, _⟩ | ⟨g', off', cap', cur, hv, hb, hg, h1, h2, h3, h4⟩
  · cases hv
  · injection hv with hv1 _ hv2
    injection hv1 with hv1
    injection hv1 with hv3 hv4
    subst hv2; subst hv3; subst hv4
    refine .inr ⟨g, off, cap, cur.setIfInBounds (off + j) x, rfl, hb, heap_setCell_same w g (off + j) _ e _ hg, h1, h2, by simpa using h3, ?_⟩
    rw [← h4, Array.toList_setIfInBounds, List.drop_set, if_neg (by omega), show off + j - off = j by omega, List.take_set]
/-- The cells of it, as a source for append. -/
theorem Sl.src {P : Program} {tx e' : TypeId} (h : Sl base e sz w v n cs) (hk : P.underlying tx = some (.slice e')) (h1 : ∀ u ∈ cs, u.oneCell' = true) : Src P sz tx v n cs w := by
  rcases h.2 with ⟨rfl, h0⟩ | ⟨g, off, cap, cur, rfl, hb, hg, hn, h2, h3, h4⟩
  · subst h0
    have : cs = [] := List.eq_nil_of_length_eq_zero (by simpa using h.1)
    subst this
    exact Src.ofNil (w := w) hk 0
  · refine Src.ofSlice (w := w) hk ⟨g, off, none⟩ n cap cs h.1 (fun j u hj => ?_) h1
    rw [Addr.add_mid, cell_of_row w g (off + j) cur e (0, 0) hg]
    rw [← h4, List.getElem?_take] at hj
    split at hj
    · rw [List.getElem?_drop] at hj; simpa using hj
    · cases hj
end

theorem take_splice {α : Type} (cur cs news : List α) (off k : Nat) (hcs : (cur.drop off).take k = cs) (hk : cs.length = k) (hfit : off + k + news.length ≤ cur.length) :
    ((cur.take (off + k) ++ news ++ cur.drop (off + k + news.length)).drop off).take (k + news.length) = cs ++ news := by
  have h1 : (cur.take (off + k) ++ news ++ cur.drop (off + k + news.length)).drop off = cs ++ news ++ cur.drop (off + k + news.length) := by
    rw [List.append_assoc, List.drop_append_of_le_length (by simp; omega), List.drop_take, Nat.add_sub_cancel_left, hcs, List.append_assoc]
  rw [h1, ← hk, ← List.length_append, List.take_left]

section
variable {P : Program} {base : Nat} {t tx e : TypeId} {sz bytes : Nat} {z : Value} {w : World} {v x : Value} {n m : Nat} {cs news : List Value}

theorem Sl.append (h : Sl base e sz w v n cs) (T : SlTy P t e sz bytes z) (hs : Src P sz tx x m news w) (h63 : n + m ≤ maxLen) (hbytes : (n + m) * bytes ≤ 140737488355328) (hbase : base ≤ w.heap.size) (ty : TypeId) :
    ∃ v' w', (Builtin.append_ #[t, tx] ty #[v, x]).run P w = .ok v' w' ∧ Sl base e sz w' v' (n + m) (cs ++ news) ∧ w.grownBy w' v.ownBlock ∧ (v'.ownBlock = v.ownBlock ∨ v'.ownBlock = some w.heap.size) ∧ (v' = .slice none 0 0 ↔ v = .slice none 0 0 ∧ m = 0) := by
  obtain ⟨i, hi, hz, rfl, rfl⟩ := T.inf
  have hsmall : n + m ≤ 9223372036854775807 := by simp only [maxLen] at h63; omega
  have hlen : (cs ++ news).length = (n + m) * i.size := by rw [List.length_append, h.1, hs.newsLen, Nat.add_mul]
  have grown : ∀ (old : Nat), old < n + m → ∀ (row : Option Nat),
      Sl base e i.size (w.drew.alloc (.cells ((cs ++ news).toArray ++ Builtin.zeroCells z.cells (grownCap w (n + m) old e - (n + m))) e)) (.slice (some ⟨w.heap.size, 0, none⟩) (n + m) (grownCap w (n + m) old e)) (n + m) (cs ++ news) ∧
      w.grownBy (w.drew.alloc (.cells ((cs ++ news).toArray ++ Builtin.zeroCells z.cells (grownCap w (n + m) old e - (n + m))) e)) row := by
    intro old ho row
    have hge := grownCap_ge w (n + m) old e
    have hcm : grownCap w (n + m) old e ≤ maxLen := grownCap_le_maxLen w (n + m) old e h63
    refine ⟨⟨hlen, .inr ⟨w.heap.size, 0, _, _, rfl, hbase, heap_alloc_new w.drew _, hge, hcm, ?_, ?_⟩⟩, ⟨rfl, rfl, rfl, by simp, fun k hk _ => Below.heap_alloc _ _ _ hk⟩⟩
    · simp only [Array.size_append, List.size_toArray, size_zeroCells, T.zs, hlen, ← Nat.add_mul, Nat.zero_add]
      refine Nat.le_of_eq ?_
      congr 1
      omega
    · rw [List.drop_zero, Array.toList_append, ← hlen]
      exact List.take_left
  rcases h.2 with ⟨rfl, rfl⟩ | ⟨g, off, cap, cur, rfl, hbg, hg, hnc, hcm, hcs, htake⟩
  · have hx : cs = [] := List.eq_nil_of_length_eq_zero (by simpa using h.1)
    subst hx
    by_cases hm : m = 0
    · subst hm
      have hn : news = [] := List.eq_nil_of_length_eq_zero (by simpa using hs.newsLen)
      subst hn
      refine ⟨.slice none 0 0, w, ?_, Sl.nil base e i.size w, ⟨rfl, rfl, rfl, Nat.le_refl _, fun _ _ _ => rfl⟩, Or.inl rfl, by simp⟩
      rcases hs.kind with ⟨e', hk⟩ | hk <;> simp [Builtin.append_, run_underlying T.under, run_underlying hk, sizeOf, typeInfo, hi, hs.len, hs.cells]
    · have hr := run_append_grow_src (P := P) w t tx ty e i z T.under hi hz none 0 0 [] (by simp [Builtin.firstCells]) x m news hs (by omega) (by omega) (growslice_fits (by omega) hbytes)
      have hgr := grown 0 (by omega) (Value.ownBlock (.slice none 0 0))
      exact ⟨_, _, hr, hgr.1, hgr.2, Or.inr rfl, by simp [hm]⟩
  · by_cases hroom : n + m ≤ cap
    · have hfit : off + n * i.size + news.length ≤ cur.size := by
        have := Nat.mul_le_mul_right i.size hroom
        rw [Nat.add_mul] at this
        rw [hs.newsLen]; omega
      have hst := run_storeCells_at P g (off + n * i.size) e news 0 cur w hg (by simpa using hfit) hs.one
      simp only [Nat.add_zero] at hst
      have hr : (Builtin.append_ #[t, tx] ty #[.slice (some ⟨g, off, none⟩) n cap, x]).run P w = .ok (.slice (some ⟨g, off, none⟩) (n + m) cap) (w.setRow g (cur.toList.take (off + n * i.size) ++ news ++ cur.toList.drop (off + n * i.size + news.length)).toArray) := by
        rcases hs.kind with ⟨e', hk⟩ | hk <;> simp [Builtin.append_, run_underlying T.under, run_underlying hk, sizeOf, typeInfo, hi, hs.len, hroom, hs.cells, Addr.add_lit, hst]
      refine ⟨_, _, hr, ⟨hlen, .inr ⟨g, off, cap, _, rfl, hbg, setRow_heap w g cur _ e _ hg, hroom, hcm, ?_, ?_⟩⟩, ⟨rfl, rfl, rfl, by simp, fun k _ hk => setRow_other w g k _ (fun e => hk (by simp [Value.ownBlock, e]))⟩, Or.inl rfl, by simp⟩
      · simp only [List.size_toArray, List.length_append, List.length_take, List.length_drop, Array.length_toList]
        omega
      · show ((cur.toList.take (off + n * i.size) ++ news ++ cur.toList.drop (off + n * i.size + news.length)).drop off).take ((n + m) * i.size) = cs ++ news
        rw [Nat.add_mul, ← hs.newsLen]
        exact take_splice cur.toList cs news off (n * i.size) htake h.1 (by simpa using hfit)
    · have holds : (Builtin.firstCells i.size n (.slice (some ⟨g, off, none⟩) n cap)).run P w.drew = .ok cs.toArray w.drew := by
        refine run_firstCells_some w.drew i.size n ⟨g, off, none⟩ n cap cs h.1 (fun j u hj => ?_)
        show w.cell? _ = _
        rw [Addr.add_mid, cell_of_row w g (off + j) cur e (0, 0) hg]
        rw [← htake, List.getElem?_take] at hj
        split at hj
        · rw [List.getElem?_drop] at hj; simpa using hj
        · cases hj
      have hr := run_append_grow_src (P := P) w t tx ty e i z T.under hi hz (some ⟨g, off, none⟩) n cap cs holds x m news hs (by omega) (by omega) (growslice_fits (by omega) hbytes)
      have hgr := grown cap (by omega) (Value.ownBlock (.slice (some ⟨g, off, none⟩) n cap))
      exact ⟨_, _, hr, hgr.1, hgr.2, Or.inr rfl, by simp⟩

/-- 'v[k:]'. -/
theorem Sl.from (h : Sl base e sz w v n cs) (T : SlTy P t e sz bytes z) (k : Nat) (hk : k ≤ n) :
    ∃ v', (∀ w' : World, (Instr.sliceAt t v (some (.int .i64 k)) none none).run P w' = .ok v' w') ∧ Sl base e sz w v' (n - k) (cs.drop (k * sz)) ∧ v'.ownBlock = v.ownBlock := by
  obtain ⟨i, hi, hz, rfl, rfl⟩ := T.inf
  have hl : (cs.drop (k * i.size)).length = (n - k) * i.size := by rw [List.length_drop, h.1, Nat.sub_mul]
  rcases h.2 with ⟨rfl, rfl⟩ | ⟨g, off, cap, cur, rfl, hbg, hg, hnc, hcm, hcs, htake⟩
  · obtain rfl : k = 0 := by omega
    refine ⟨.slice none 0 0, fun w' => ?_, ⟨hl, .inl ⟨rfl, rfl⟩⟩, rfl⟩
    simp [Instr.sliceAt, Instr.slice, Instr.sliceBounds, Instr.sliceBound, run_underlying T.under, sizeOf, typeInfo, hi, asIntOf]
  · by_cases hc : cap = k
    · subst hc
      refine ⟨.slice (some ⟨g, off, none⟩) (n - cap) (cap - cap), fun w' => ?_, ⟨hl, .inr ⟨g, off, cap - cap, cur, rfl, hbg, hg, by omega, by omega, ?_, ?_⟩⟩, rfl⟩
      · simp [Instr.sliceAt, Instr.slice, Instr.sliceBounds, Instr.sliceBound, run_underlying T.under, sizeOf, typeInfo, hi, asIntOf, hk]
      · have : off ≤ cur.size := Nat.le_trans (Nat.le_add_right _ _) hcs
        simpa using this
      · have e0 : n - cap = 0 := by omega
        have : (cs.drop (cap * i.size)).length = 0 := by rw [hl, e0, Nat.zero_mul]
        rw [List.eq_nil_of_length_eq_zero this, e0, Nat.zero_mul, List.take_zero]
    · refine ⟨.slice (some ⟨g, off + k * i.size, none⟩) (n - k) (cap - k), fun w' => ?_, ⟨hl, .inr ⟨g, off + k * i.size, cap - k, cur, rfl, hbg, hg, by omega, by omega, ?_, ?_⟩⟩, rfl⟩
      · simp [Instr.sliceAt, Instr.slice, Instr.sliceBounds, Instr.sliceBound, run_underlying T.under, sizeOf, typeInfo, hi, asIntOf, hk, hc, Addr.add_mid]
      · have : (cap - k) * i.size = cap * i.size - k * i.size := Nat.sub_mul _ _ _
        have h2 : k * i.size ≤ cap * i.size := Nat.mul_le_mul_right _ (by omega)
        omega
      · rw [← htake, ← List.drop_drop, Nat.sub_mul, List.drop_take]

/-- 'v[:k]'. -/
theorem Sl.upto (h : Sl base e sz w v n cs) (T : SlTy P t e sz bytes z) (k : Nat) (hk : k ≤ n) :
    ∃ v', (∀ w' : World, (Instr.sliceAt t v none (some (.int .i64 k)) none).run P w' = .ok v' w') ∧ Sl base e sz w v' k (cs.take (k * sz)) ∧ v'.ownBlock = v.ownBlock := by
  obtain ⟨i, hi, hz, rfl, rfl⟩ := T.inf
  have hks : k * i.size ≤ n * i.size := Nat.mul_le_mul_right _ hk
  have hl : (cs.take (k * i.size)).length = k * i.size := by rw [List.length_take, h.1]; omega
  rcases h.2 with ⟨rfl, rfl⟩ | ⟨g, off, cap, cur, rfl, hbg, hg, hnc, hcm, hcs, htake⟩
  · obtain rfl : k = 0 := by omega
    refine ⟨.slice none 0 0, fun w' => ?_, ⟨hl, .inl ⟨rfl, rfl⟩⟩, rfl⟩
    simp [Instr.sliceAt, Instr.slice, Instr.sliceBounds, Instr.sliceBound, run_underlying T.under, sizeOf, typeInfo, hi, asIntOf]
  · refine ⟨.slice (some ⟨g, off, none⟩) k cap, fun w' => ?_, ⟨hl, .inr ⟨g, off, cap, cur, rfl, hbg, hg, by omega, hcm, hcs, ?_⟩⟩, rfl⟩
    · have hkc : k ≤ cap := by omega
      have hcap : cap ≤ 9223372036854775807 := by simp only [maxLen] at hcm; omega
      simp [Instr.sliceAt, Instr.slice, Instr.sliceBounds, Instr.sliceBound, run_underlying T.under, sizeOf, typeInfo, hi, asIntOf, hkc, Addr.add_mid]
    · rw [← htake, List.take_take, Nat.min_eq_left hks]
end
end Go.Proofs.Ytfnphkijalkllaa
