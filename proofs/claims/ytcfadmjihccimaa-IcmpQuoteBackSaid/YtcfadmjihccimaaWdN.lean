/- Sum of several parts; what joined parts' checksums are. No condition but lengths. -/
import Derived.Test.YtcfadmjihccimaaProg
import Derived.Test.YtcfadmjihccimaaChecked
import Derived.Test.YtcfadmjihccimaaWdL
namespace Go.Proofs.Ytcfadmjihccimaa
set_option linter.unusedVariables false
open Go.RowKit

/-- A part: n bytes l behind the address. -/
structure Pc (w : World) (A : Option Addr) (n : Nat) (l : List Int) : Prop where
  len : l.length = n
  ok : isB l
  top : n ≤ 140737488355328
  here : BytesIn w.heap.size w A l
theorem Pc.fr {w w' : World} {A : Option Addr} {n : Nat} {l : List Int} (h : Pc w A n l) (f : Fr (fun _ => False) w w') : Pc w' A n l :=
  ⟨h.len, h.ok, h.top, (h.here.fr f (Nat.le_refl _) (fun _ _ e => e)).up f.size⟩
abbrev Pp := Option Addr × Nat × Nat × List Int
theorem sum28_parts (ps : List Pp) (w : World) (h : ∀ p ∈ ps, Pc w p.1 p.2.1 p.2.2.2) (hn : ps.length ≤ 140737488355328) (c' : Nat) :
    Calls Try.prog 42 #[.slice (some ⟨w.heap.size, 0, none⟩) ps.length c'] (w.alloc (.cells (ps.map fun p => Value.slice p.1 p.2.1 p.2.2.1).toArray 22)) fun e w' => e = .returned (.int .i64 (ck (ps.map (·.2.2.2)).flatten)) ∧ Fr (fun _ => False) w w' := by
  have f := (Fr.refl (fun _ => False) w).alloc (.cells (ps.map fun p => Value.slice p.1 p.2.1 p.2.2.1).toArray 22)
  have hs := sum28 (some ⟨w.heap.size, 0, none⟩) c' (ps.map (·.2.2.2)) (by
    intro l hl
    obtain ⟨p, hp, rfl⟩ := List.mem_map.1 hl
    exact (h p hp).ok) (by simpa using hn) (by
    intro l hl
    obtain ⟨p, hp, rfl⟩ := List.mem_map.1 hl
    rw [(h p hp).len]; exact (h p hp).top) (w.alloc (.cells (ps.map fun p => Value.slice p.1 p.2.1 p.2.2.1).toArray 22)) (fun _ => ⟨w.heap.size, 0, rfl, by simp, by
    intro i l hi
    rw [List.getElem?_map, Option.map_eq_some_iff] at hi
    obtain ⟨p, hp, rfl⟩ := hi
    have hm := h p (List.mem_of_getElem? hp)
    refine ⟨p.1, p.2.2.1, ?_, (hm.fr f).here⟩
    rw [cell_of_row _ w.heap.size (0 + i) _ 22 (0, 0) (heap_alloc_new w _)]
    simp [hp, hm.len]⟩)
  rw [List.length_map] at hs
  refine hs.mono ?_
  rintro e w' ⟨rfl, f'⟩
  exact ⟨rfl, f.then f'⟩
theorem sum1 {w : World} {A : Option Addr} {n : Nat} {l : List Int} (h : Pc w A n l) (c c' : Nat) :
    Calls Try.prog 42 #[.slice (some ⟨w.heap.size, 0, none⟩) 1 c'] (w.alloc (.cells #[.slice A n c] 22)) fun e w' => e = .returned (.int .i64 (ck l)) ∧ Fr (fun _ => False) w w' := by
  have := sum28_parts [(A, n, c, l)] w (by simpa using h) (by simp) c'
  simpa using this
theorem sum2 {w : World} {A1 A2 : Option Addr} {n1 n2 : Nat} {l1 l2 : List Int} (h1 : Pc w A1 n1 l1) (h2 : Pc w A2 n2 l2) (c1 c2 c' : Nat) :
    Calls Try.prog 42 #[.slice (some ⟨w.heap.size, 0, none⟩) 2 c'] (w.alloc (.cells #[.slice A1 n1 c1, .slice A2 n2 c2] 22)) fun e w' => e = .returned (.int .i64 (ck (l1 ++ l2))) ∧ Fr (fun _ => False) w w' := by
  have := sum28_parts [(A1, n1, c1, l1), (A2, n2, c2, l2)] w (by intro p hp; simp at hp; rcases hp with rfl | rfl <;> assumption) (by simp) c'
  simpa using this
theorem sum3 {w : World} {A1 A2 A3 : Option Addr} {n1 n2 n3 : Nat} {l1 l2 l3 : List Int} (h1 : Pc w A1 n1 l1) (h2 : Pc w A2 n2 l2) (h3 : Pc w A3 n3 l3) (c1 c2 c3 c' : Nat) :
    Calls Try.prog 42 #[.slice (some ⟨w.heap.size, 0, none⟩) 3 c'] (w.alloc (.cells #[.slice A1 n1 c1, .slice A2 n2 c2, .slice A3 n3 c3] 22)) fun e w' => e = .returned (.int .i64 (ck (l1 ++ (l2 ++ l3)))) ∧ Fr (fun _ => False) w w' := by
  have := sum28_parts [(A1, n1, c1, l1), (A2, n2, c2, l2), (A3, n3, c3, l3)] w (by intro p hp; simp at hp; rcases hp with rfl | rfl | rfl <;> assumption) (by simp) c'
  simpa using this
theorem sum4 {w : World} {A1 A2 A3 A4 : Option Addr} {n1 n2 n3 n4 : Nat} {l1 l2 l3 l4 : List Int} (h1 : Pc w A1 n1 l1) (h2 : Pc w A2 n2 l2) (h3 : Pc w A3 n3 l3) (h4 : Pc w A4 n4 l4) (c1 c2 c3 c4 c' : Nat) :
    Calls Try.prog 42 #[.slice (some ⟨w.heap.size, 0, none⟩) 4 c'] (w.alloc (.cells #[.slice A1 n1 c1, .slice A2 n2 c2, .slice A3 n3 c3, .slice A4 n4 c4] 22)) fun e w' => e = .returned (.int .i64 (ck (l1 ++ (l2 ++ (l3 ++ l4))))) ∧ Fr (fun _ => False) w w' := by
  have := sum28_parts [(A1, n1, c1, l1), (A2, n2, c2, l2), (A3, n3, c3, l3), (A4, n4, c4, l4)] w (by intro p hp; simp at hp; rcases hp with rfl | rfl | rfl | rfl <;> assumption) (by simp) c'
  simpa using this

theorem join_swap {a b : List Int} (ha : a.length % 2 = 0) (hb : b.length % 2 = 0) : ck (b ++ a) = ck (a ++ b) := by
  unfold ck; rw [wt_even ha, wt_even hb]; congr 2; omega
theorem join_word {a b : List Int} (hA : isB a) (hB : isB b) (ha : a.length % 2 = 0) :
    ck (a ++ (by16 (ck a) ++ b)) = ck b ∨ ck (a ++ (by16 (ck a) ++ b)) + ck b = 65535 ∧ (ck (a ++ (by16 (ck a) ++ b)) = 0 ∨ ck b = 0) := by
  have hc := ck_bd hA
  have h0 := wt_nonneg false a hA
  have h1 := wt_nonneg false b hB
  have e : wt false (a ++ (by16 (ck a) ++ b)) = wt false a + ck a + wt false b := by
    rw [wt_even ha, wt_even (a := by16 (ck a)) (by simp [by16]), wt_by16 hc.1 hc.2]; omega
  rw [ck, e]
  unfold ck
  have hb := nrm_bd h0
  generalize wt false a = p at *
  generalize wt false b = q at *
  unfold nrm at *
  split <;> split <;> split <;> omega
theorem join_zero {a b : List Int} (hA : isB a) (hB : isB b) (ha : a.length % 2 = 0) (hb : b.length % 2 = 0) : ck (a ++ (by16 (ck a) ++ (b ++ by16 (ck b)))) = 0 := by
  have hc := ck_bd hA
  have hd := ck_bd hB
  have h0 := wt_nonneg false a hA
  have h1 := wt_nonneg false b hB
  have e : wt false (a ++ (by16 (ck a) ++ (b ++ by16 (ck b)))) = wt false a + ck a + (wt false b + ck b) := by
    rw [wt_even ha, wt_even (a := by16 (ck a)) (by simp [by16]), wt_by16 hc.1 hc.2, wt_even hb, wt_by16 hd.1 hd.2]; omega
  rw [ck, e]
  unfold ck at *
  generalize wt false a = p at *
  generalize wt false b = q at *
  unfold nrm at *
  split <;> split at * <;> split at * <;> omega
end Go.Proofs.Ytcfadmjihccimaa
