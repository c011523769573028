/- append of zeros onto bytes of one's own; slices.Grow and slices.Concat of bytes. No condition but lengths. -/
import Derived.Test.YtfnphkijalkllaaWdH
import Derived.Lib.AppendZeros
import Derived.Lib.Hide
import Derived.Deep.Slices
import Derived.Deep.CutBlock
import Derived.Deep.RegionHeldLaw
import Derived.BigQuiet
import Derived.LoopN
import Derived.Deep.DeepCutAuto
import Derived.Deep.DeepMust
import Derived.Lib.AppendZerosOnto
namespace Go.Proofs.Ytfnphkijalkllaa
set_option linter.unusedVariables false
open Go.RowKit
theorem str_bytes {n₀ : Nat} {w : World} {A : Option Addr} {l : List Int} (c : Nat) (h : BytesIn n₀ w A l) : (convert 55 9 (.slice A l.length c)).run Try.prog w = .ok (.string (strOfNums l)) w := by
  cases A with
  | none =>
    obtain rfl := h.none
    exact run_convert_bytes_nil w 55 5 Try.underlying55 Try.underlying5 0 c 9 Try.underlying9
  | some a =>
    by_cases hl : 0 < l.length
    · obtain ⟨b, off, e, hb, hc⟩ := h hl
      cases e
      refine run_convert_bytes_arg w 55 5 Try.underlying55 Try.underlying5 b off l.length c l rfl (fun i hi => ?_) 9 Try.underlying9
      rw [hc i l[i] (List.getElem?_eq_getElem hi)]
      simp [hi]
    · obtain rfl : l = [] := List.length_eq_zero_iff.1 (by omega)
      rw [run_convert_bytes_string w 55 9 5 _ _ c Try.underlying55 Try.underlying5 Try.underlying9, show ([] : List Int).length = 0 from rfl, run_bytesToString w a 0 c [] (by rw [loadCells]; unfold loadCellsFrom; rfl)]
      rfl
/-- A slice of bytes as it came. -/
theorem OwnB.form {base : Nat} {w : World} {v : Value} {l : List Int} {n : Nat} (h : OwnB base w v l) (hn : l.length = n) (h0 : 0 < n) : ∃ g c, v = .slice (some ⟨g, 0, none⟩) n c ∧ base ≤ g ∧ g < w.heap.size := by
  subst hn
  rcases h.2 with ⟨_, e⟩ | ⟨g, cap, cur, hv, hb, hg, _⟩
  · omega
  · exact ⟨g, cap, hv, hb, lt_of_block hg⟩
theorem OwnB.cell {base : Nat} {w : World} {g n c : Nat} {l : List Int} (h : OwnB base w (.slice (some ⟨g, 0, none⟩) n c) l) {j : Nat} {x : Int} (hj : l[j]? = some x) : w.cell? ⟨g, j, none⟩ = some (.int .u8 x) ∧ w.frozen? ⟨g, j, none⟩ = false := by
  have hn : n = l.length := by
    rcases h.2 with ⟨e, _⟩ | ⟨g', cap, cur, hv, _⟩
    · cases e
    · injection hv
  subst hn
  exact ⟨by rw [World.ownsRow.cellAt h j (by have := (List.getElem?_eq_some_iff.1 hj).1; omega)]; simp [hj], World.ownsRow.frozenAt h j⟩
theorem OwnB.set {base : Nat} {w : World} {g n c : Nat} {l : List Int} (h : OwnB base w (.slice (some ⟨g, 0, none⟩) n c) l) (j : Nat) (y : Int) :
    OwnB base (w.setCell ⟨g, j, none⟩ (.int .u8 y)) (.slice (some ⟨g, 0, none⟩) n c) (l.set j y) ∧ Fr (fun i => i = g) w (w.setCell ⟨g, j, none⟩ (.int .u8 y)) := by
  have hn : n = l.length := by
    rcases h.2 with ⟨e, _⟩ | ⟨g', cap, cur, hv, _⟩
    · cases e
    · injection hv
  subst hn
  obtain ⟨h1, h2⟩ := World.ownsRow.stored h j (.int .u8 y)
  refine ⟨?_, h2.os, h2.tape, h2.output, h2.size, fun i hi hS => h2.block i hi (fun e => hS (by simpa using e))⟩
  unfold OwnB
  rw [List.length_set, List.map_set]
  exact h1
/-- A part: n bytes l behind the address. -/
structure Pc (w : World) (A : Option Addr) (n : Nat) (l : List Int) : Prop where
  len : l.length = n
  ok : isB l
  top : n ≤ 140737488355328
  here : BytesIn w.heap.size w A l
theorem Pc.fr {w w' : World} {A : Option Addr} {n : Nat} {l : List Int} (h : Pc w A n l) (f : Fr (fun _ => False) w w') : Pc w' A n l :=
  ⟨h.len, h.ok, h.top, (h.here.fr f (Nat.le_refl _) (fun _ _ e => e)).up f.size⟩
/-- A row of one's own: its capacity holds it, and is no more than memory bears. -/
theorem OwnB.cap {base : Nat} {w : World} {v : Value} {l : List Int} {n : Nat} (h : OwnB base w v l) (hn : l.length = n) : ∃ A c, v = .slice A n c ∧ BytesIn w.heap.size w A l ∧ n ≤ c ∧ c ≤ maxLen := by
  subst hn
  rcases h.2 with ⟨rfl, h0⟩ | ⟨g, cap, cur, rfl, hb, hg, h1, h2, h3, h4⟩
  · exact ⟨none, 0, by rw [h0], fun hl => by omega, by omega, by simp⟩
  · obtain ⟨A, c, e, hb'⟩ := h.view
    cases e
    exact ⟨_, _, rfl, hb', h1, h2⟩

theorem OwnB.part {base : Nat} {w : World} {v : Value} {l : List Int} {n : Nat} (h : OwnB base w v l) (hn : l.length = n) (hB : isB l) (ht : n ≤ 140737488355328) : ∃ A c, v = .slice A n c ∧ Pc w A n l := by
  obtain ⟨A, c, e, hb⟩ := h.viewN hn
  exact ⟨A, c, e, hn, hB, ht, hb⟩

theorem zeros_list (n : Nat) : (Builtin.zeroCells (Value.int .u8 0).cells n) = (List.replicate n (Value.int .u8 0)).toArray := by
  apply Array.ext
  · simp [Builtin.zeroCells, Value.cells]
  · intro i h1 h2
    simp [Builtin.zeroCells, Value.cells, Nat.mod_one]
theorem map_zeros (n : Nat) : (List.replicate n (0 : Int)).map (Value.int .u8) = List.replicate n (Value.int .u8 0) := by simp

theorem run_app_zeros {base : Nat} {w : World} {v : Value} {l : List Int} (n : Nat) (ty : TypeId) (hown : OwnB base w v l) (hlen : l.length + n ≤ 140737488355328) (hbase : base ≤ w.heap.size) :
    ∃ v' w', (Builtin.append_ #[55, 3] ty #[v, .int .i64 n]).run Try.prog w = .ok v' w' ∧ OwnB base w' v' (l ++ List.replicate n 0) ∧ w.grownBy w' v.ownBlock := by
  obtain ⟨i0, hi, hz0, hz1, hz2⟩ := info_parts info5
  have hw : IntKind.i64.wrap (n : Int) = n := by rw [IntKind.wrap_i64]; omega
  have hneg : ¬ ((n : Int) < 0) := by omega
  have h48 : ¬ (281474976710656 < (n : Int)) := by omega
  have w0 : IntKind.i64.wrap 0 = 0 := by decide
  by_cases hn : n = 0
  · subst hn
    refine ⟨v, w, ?_, by simpa using hown, ⟨rfl, rfl, rfl, Nat.le_refl _, fun _ _ _ => rfl⟩⟩
    rcases hown.2 with ⟨rfl, h0⟩ | ⟨g, cap, cur, rfl, hb, hg, h1, h2, h3, h4⟩
    · simp [Builtin.append_, run_underlying Try.underlying55, run_underlying Try.underlying3, sizeOf, typeInfo, hi, hz2, asInt, asIntOf, w0]
    · simp [Builtin.append_, run_underlying Try.underlying55, run_underlying Try.underlying3, sizeOf, typeInfo, hi, hz2, asInt, asIntOf, w0, h1, storeCells]
  have grown : ∀ (xs : List Value), xs = l.map (Value.int .u8) → ∀ (old : Nat), old < l.length + n → ∀ (row : Option Nat),
      OwnB base (w.drew.alloc (.cells (xs.toArray ++ Builtin.zeroCells (Value.int .u8 0).cells n ++ Builtin.zeroCells (Value.int .u8 0).cells (grownCap w (l.length + n) old 5 - (l.length + n))) 5)) (.slice (some ⟨w.heap.size, 0, none⟩) (l.length + n) (grownCap w (l.length + n) old 5)) (l ++ List.replicate n 0) ∧
      w.grownBy (w.drew.alloc (.cells (xs.toArray ++ Builtin.zeroCells (Value.int .u8 0).cells n ++ Builtin.zeroCells (Value.int .u8 0).cells (grownCap w (l.length + n) old 5 - (l.length + n))) 5)) row := by
    intro xs hxs old ho row
    have hge := grownCap_ge w (l.length + n) old 5
    have hcm : grownCap w (l.length + n) old 5 ≤ maxLen := grownCap_le_maxLen w (l.length + n) old 5 (by simp only [maxLen]; omega)
    have hll : (l ++ List.replicate n (0 : Int)).length = l.length + n := by simp
    refine ⟨?_, ⟨rfl, rfl, rfl, by simp, fun k hk _ => Below.heap_alloc w.drew _ k hk⟩⟩
    unfold OwnB
    rw [hll]
    refine ⟨by simp, .inr ⟨w.heap.size, _, _, rfl, hbase, heap_alloc_new w.drew _, hge, hcm, ?_, ?_⟩⟩
    · subst hxs; simp [size_zeroCells, Value.cells]; omega
    · subst hxs
      rw [zeros_list, zeros_list, List.map_append, map_zeros]
      simp only [List.append_toArray, List.append_assoc]
      rw [← List.append_assoc, List.take_left' (by simp)]
  rcases hown.2 with ⟨rfl, h0⟩ | ⟨g, cap, cur, rfl, hb, hg, h1, h2, h3, h4⟩
  · have hl : l = [] := List.length_eq_zero_iff.1 h0
    subst hl
    have hr := Lib.run_append_nil_zeros w 55 3 ty 5 i0 _ .i64 .i64 Try.underlying55 Try.underlying3 hi hz0 n (by omega) (by omega) (by omega) (by rw [hz2]; omega)
    have hg := grown [] rfl 0 (by simp; omega) (Value.ownBlock (.slice none 0 0))
    simp only [List.length_nil, Nat.zero_add] at hg hr ⊢
    rw [show ([] : List Value).toArray = #[] from rfl, Array.empty_append] at hg
    exact ⟨_, _, hr, hg.1, hg.2⟩
  · by_cases hroom : l.length + n ≤ cap
    · have hst := run_storeCells_at Try.prog g (l.length * 1) 5 (List.replicate n (Value.int .u8 0)) 0 cur w hg (by simp; omega) (by intro u hu; rw [(List.mem_replicate.1 hu).2]; rfl)
      simp at hst
      refine ⟨.slice (some ⟨g, 0, none⟩) (l.length + n) cap, w.setRow g (cur.toList.take (l.length * 1) ++ List.replicate n (Value.int .u8 0) ++ cur.toList.drop (l.length * 1 + n)).toArray, ?_, ?_, ⟨rfl, rfl, rfl, by simp, fun k _ hk => setRow_other w g k _ (fun e => hk (by simp [Value.ownBlock, e]))⟩⟩
      · have hz : (Builtin.zeroCells (Value.int .u8 0).cells n).toList = List.replicate n (Value.int .u8 0) := by rw [zeros_list]
        simp [Builtin.append_, run_underlying Try.underlying55, run_underlying Try.underlying3, sizeOf, typeInfo, zeroValue, hi, hz0, hz1, hz2, asInt, asIntOf, hw, hneg, h48, hn, hroom, Addr.add_lit, hz, hst]
      · have hll : (l ++ List.replicate n (0 : Int)).length = l.length + n := by simp
        unfold OwnB
        rw [hll]
        refine ⟨by simp, .inr ⟨g, cap, _, rfl, hb, setRow_heap w g cur _ 5 _ hg, hroom, h2, ?_, ?_⟩⟩
        · simp; omega
        · rw [h4, List.map_append, map_zeros]
          exact List.take_left' (by simp)
    · have holds : ∀ j u, (l.map (Value.int .u8))[j]? = some u → w.cell? ((⟨g, 0, none⟩ : Addr).add j) = some u := World.ownsRow.cells hown (g := g) rfl
      have hr := Lib.run_append_grow_zeros w 55 3 ty 5 i0 _ .i64 .i64 Try.underlying55 Try.underlying3 hi hz0 (some ⟨g, 0, none⟩) l.length cap (l.map (Value.int .u8)) (run_firstCells_some w.drew i0.size l.length ⟨g, 0, none⟩ l.length cap _ (by rw [hz1]; simp) (by simpa using holds)) n (by omega) (by omega) (by omega) (by omega) (by rw [hz2]; omega) (by rw [hz2]; exact growslice_fits (by omega) (by omega))
      have hg := grown _ rfl cap (by omega) (Value.ownBlock (.slice (some ⟨g, 0, none⟩) l.length cap))
      exact ⟨_, _, hr, hg.1, hg.2⟩
end Go.Proofs.Ytfnphkijalkllaa
