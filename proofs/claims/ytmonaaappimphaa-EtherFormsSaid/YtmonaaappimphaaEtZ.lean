/- append of zeros onto bytes of one's own; slices.Grow and slices.Concat of bytes. No condition but lengths. -/
import Derived.Test.YtmonaaappimphaaEtA
import Derived.Lib.AppendZeros
import Derived.Lib.AppendZerosOnto
namespace Go.Proofs.Ytmonaaappimphaa
set_option linter.unusedVariables false
open Go.RowKit

theorem zeros_list (n : Nat) : (Builtin.zeroCells (Value.int .u8 0).cells n) = (List.replicate n (Value.int .u8 0)).toArray := by
  apply Array.ext
  · simp [Builtin.zeroCells, Value.cells]
  · intro i h1 h2
    simp [Builtin.zeroCells, Value.cells, Nat.mod_one]
theorem map_zeros (n : Nat) : (List.replicate n (0 : Int)).map (Value.int .u8) = List.replicate n (Value.int .u8 0) := by simp

theorem run_app_zeros {base : Nat} {w : World} {v : Value} {l : List Int} (n : Nat) (ty : TypeId) (hown : OwnB base w v l) (hlen : l.length + n ≤ 140737488355328) (hbase : base ≤ w.heap.size) :
    ∃ v' w', (Builtin.append_ #[26, 3] ty #[v, .int .i64 n]).run Try.prog w = .ok v' w' ∧ OwnB base w' v' (l ++ List.replicate n 0) ∧ w.grownBy w' v.ownBlock := by
  obtain ⟨i0, hi, hz0, hz1, hz2⟩ := info_parts info5
  have hw : IntKind.i64.wrap (n : Int) = n := by rw [IntKind.wrap_i64]; omega
  have hneg : ¬ ((n : Int) < 0) := by omega
  have h48 : ¬ (281474976710656 < (n : Int)) := by omega
  have w0 : IntKind.i64.wrap 0 = 0 := by decide
  by_cases hn : n = 0
  · subst hn
    refine ⟨v, w, ?_, by simpa using hown, ⟨rfl, rfl, rfl, Nat.le_refl _, fun _ _ _ => rfl⟩⟩
    rcases hown.2 with ⟨rfl, h0⟩ | ⟨g, cap, cur, rfl, hb, hg, h1, h2, h3, h4⟩
    · simp [Builtin.append_, run_underlying Try.underlying26, run_underlying Try.underlying3, sizeOf, typeInfo, hi, hz2, asInt, asIntOf, w0]
    · simp [Builtin.append_, run_underlying Try.underlying26, run_underlying Try.underlying3, sizeOf, typeInfo, hi, hz2, asInt, asIntOf, w0, h1, storeCells]
  have grown : ∀ (xs : List Value), xs = l.map (Value.int .u8) → ∀ (old : Nat), old < l.length + n → ∀ (row : Option Nat),
      OwnB base (w.drew.alloc (.cells (xs.toArray ++ Builtin.zeroCells (Value.int .u8 0).cells n ++ Builtin.zeroCells (Value.int .u8 0).cells (grownCap w (l.length + n) old 5 - (l.length + n))) 5)) (.slice (some ⟨w.heap.size, 0, none⟩) (l.length + n) (grownCap w (l.length + n) old 5)) (l ++ List.replicate n 0) ∧
      w.grownBy (w.drew.alloc (.cells (xs.toArray ++ Builtin.zeroCells (Value.int .u8 0).cells n ++ Builtin.zeroCells (Value.int .u8 0).cells (grownCap w (l.length + n) old 5 - (l.length + n))) 5)) row := by
    intro xs hxs old ho row
    have hge := grownCap_ge w (l.length + n) old 5
    have hcm : grownCap w (l.length + n) old 5 ≤ maxLen := grownCap_le_maxLen w (l.length + n) old 5 (by simp only [maxLen]; omega)
    have hll : (l ++ List.replicate n (0 : Int)).length = l.length + n := by simp
    refine ⟨?_, ⟨rfl, rfl, rfl, by simp, fun k hk _ => Below.heap_alloc w.drew _ k hk⟩⟩
    unfold OwnB
    rw [hll]
    refine ⟨by simp, .inr ⟨w.heap.size, _, _, rfl, hbase, heap_alloc_new w.drew _, hge, hcm, ?_, ?_⟩⟩
    · subst hxs; simp [size_zeroCells, Value.cells]; omega
    · subst hxs
      rw [zeros_list, zeros_list, List.map_append, map_zeros]
      simp only [List.append_toArray, List.append_assoc]
      rw [← List.append_assoc, List.take_left' (by simp)]
  rcases hown.2 with ⟨rfl, h0⟩ | ⟨g, cap, cur, rfl, hb, hg, h1, h2, h3, h4⟩
  · have hl : l = [] := List.length_eq_zero_iff.1 h0
    subst hl
    have hr := Lib.run_append_nil_zeros w 26 3 ty 5 i0 _ .i64 .i64 Try.underlying26 Try.underlying3 hi hz0 n (by omega) (by omega) (by omega) (by rw [hz2]; omega)
    have hg := grown [] rfl 0 (by simp; omega) (Value.ownBlock (.slice none 0 0))
    simp only [List.length_nil, Nat.zero_add] at hg hr ⊢
    rw [show ([] : List Value).toArray = #[] from rfl, Array.empty_append] at hg
    exact ⟨_, _, hr, hg.1, hg.2⟩
  · by_cases hroom : l.length + n ≤ cap
    · have hst := run_storeCells_at Try.prog g (l.length * 1) 5 (List.replicate n (Value.int .u8 0)) 0 cur w hg (by simp; omega) (by intro u hu; rw [(List.mem_replicate.1 hu).2]; rfl)
      simp at hst
      refine ⟨.slice (some ⟨g, 0, none⟩) (l.length + n) cap, w.setRow g (cur.toList.take (l.length * 1) ++ List.replicate n (Value.int .u8 0) ++ cur.toList.drop (l.length * 1 + n)).toArray, ?_, ?_, ⟨rfl, rfl, rfl, by simp, fun k _ hk => setRow_other w g k _ (fun e => hk (by simp [Value.ownBlock, e]))⟩⟩
      · have hz : (Builtin.zeroCells (Value.int .u8 0).cells n).toList = List.replicate n (Value.int .u8 0) := by rw [zeros_list]
        simp [Builtin.append_, run_underlying Try.underlying26, run_underlying Try.underlying3, sizeOf, typeInfo, zeroValue, hi, hz0, hz1, hz2, asInt, asIntOf, hw, hneg, h48, hn, hroom, Addr.add_lit, hz, hst]
      · have hll : (l ++ List.replicate n (0 : Int)).length = l.length + n := by simp
        unfold OwnB
        rw [hll]
        refine ⟨by simp, .inr ⟨g, cap, _, rfl, hb, setRow_heap w g cur _ 5 _ hg, hroom, h2, ?_, ?_⟩⟩
        · simp; omega
        · rw [h4, List.map_append, map_zeros]
          exact List.take_left' (by simp)
    · have holds : ∀ j u, (l.map (Value.int .u8))[j]? = some u → w.cell? ((⟨g, 0, none⟩ : Addr).add j) = some u := World.ownsRow.cells hown (g := g) rfl
      have hr := Lib.run_append_grow_zeros w 26 3 ty 5 i0 _ .i64 .i64 Try.underlying26 Try.underlying3 hi hz0 (some ⟨g, 0, none⟩) l.length cap (l.map (Value.int .u8)) (run_firstCells_some w.drew i0.size l.length ⟨g, 0, none⟩ l.length cap _ (by rw [hz1]; simp) (by simpa using holds)) n (by omega) (by omega) (by omega) (by omega) (by rw [hz2]; omega) (by rw [hz2]; exact growslice_fits (by omega) (by omega))
      have hg := grown _ rfl cap (by omega) (Value.ownBlock (.slice (some ⟨g, 0, none⟩) l.length cap))
      exact ⟨_, _, hr, hg.1, hg.2⟩
end Go.Proofs.Ytmonaaappimphaa
