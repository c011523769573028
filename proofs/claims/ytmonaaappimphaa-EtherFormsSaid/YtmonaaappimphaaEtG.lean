/- The parts of a frame in memory. No condition but lengths. -/
import Derived.Test.YtmonaaappimphaaEtE
namespace Go.Proofs.Ytmonaaappimphaa
set_option linter.unusedVariables false
open Go.RowKit

theorem three_alloc (w : World) (o o' o2 : Obj) : (((w.alloc o).alloc o').alloc o2).heap[w.heap.size]? = some o ∧ (((w.alloc o).alloc o').alloc o2).heap[w.heap.size + 1]? = some o' ∧ (((w.alloc o).alloc o').alloc o2).heap[w.heap.size + 1 + 1]? = some o2 ∧ (((w.alloc o).alloc o').alloc o2).heap.size = w.heap.size + 3 := by
  obtain ⟨h1, h2, h3⟩ := two_alloc w o o'
  refine ⟨(Below.heap_alloc _ _ _ (by rw [h3]; omega)).trans h1, (Below.heap_alloc _ _ _ (by rw [h3]; omega)).trans h2, ?_, by simp⟩
  have := heap_alloc_new ((w.alloc o).alloc o') o2
  rwa [h3] at this
theorem bytes_at {w : World} {b n₀ : Nat} {l : List Int} (h : w.heap[b]? = some (.cells (l.map (Value.int .u8)).toArray 5)) (hb : b < n₀) : BytesIn n₀ w (some ⟨b, 0, none⟩) l := fun _ =>
  ⟨b, 0, rfl, hb, fun j x hj => cells_at w b _ 5 h (0 + j) _ (by rw [Nat.zero_add, List.getElem?_map, hj]; rfl)⟩
theorem parts_two {w : World} {a b c n₀ : Nat} {la lb : List Int} (ha : w.heap[a]? = some (.cells (la.map (Value.int .u8)).toArray 5)) (hb : w.heap[b]? = some (.cells (lb.map (Value.int .u8)).toArray 5))
    (hc : w.heap[c]? = some (.cells #[.slice (some ⟨a, 0, none⟩) la.length la.length, .slice (some ⟨b, 0, none⟩) lb.length lb.length] 26)) (h1 : a < n₀) (h2 : b < n₀) (h3 : c < n₀) : PartsIn n₀ w (some ⟨c, 0, none⟩) [la, lb] := by
  refine ⟨c, 0, rfl, h3, fun i p hi => ?_⟩
  match i, hi with
  | 0, hi =>
    cases hi
    exact ⟨_, _, cells_at w c [_, _] 26 hc _ _ rfl, bytes_at ha h1⟩
  | 1, hi =>
    cases hi
    exact ⟨_, _, cells_at w c [_, _] 26 hc _ _ rfl, bytes_at hb h2⟩
theorem partsA (w : World) (la lb : List Int) : PartsIn ((((w.alloc (.cells (la.map (Value.int .u8)).toArray 5)).alloc (.cells (lb.map (Value.int .u8)).toArray 5)).alloc (.cells #[.slice (some ⟨w.heap.size, 0, none⟩) la.length la.length, .slice (some ⟨w.heap.size + 1, 0, none⟩) lb.length lb.length] 26)).drew.heap.size)
    (((w.alloc (.cells (la.map (Value.int .u8)).toArray 5)).alloc (.cells (lb.map (Value.int .u8)).toArray 5)).alloc (.cells #[.slice (some ⟨w.heap.size, 0, none⟩) la.length la.length, .slice (some ⟨w.heap.size + 1, 0, none⟩) lb.length lb.length] 26)).drew (some ⟨w.heap.size + 1 + 1, 0, none⟩) [la, lb] := by
  obtain ⟨h1, h2, h3, h4⟩ := three_alloc w (.cells (la.map (Value.int .u8)).toArray 5) (.cells (lb.map (Value.int .u8)).toArray 5) (.cells #[.slice (some ⟨w.heap.size, 0, none⟩) la.length la.length, .slice (some ⟨w.heap.size + 1, 0, none⟩) lb.length lb.length] 26)
  exact parts_two h1 h2 h3 (by show _ < (World.alloc _ _).heap.size; rw [h4]; omega) (by show _ < (World.alloc _ _).heap.size; rw [h4]; omega) (by show _ < (World.alloc _ _).heap.size; rw [h4]; omega)
theorem partsB (w : World) (la lb : List Int) : PartsIn ((((w.alloc (.cells (lb.map (Value.int .u8)).toArray 5)).alloc (.cells (la.map (Value.int .u8)).toArray 5)).alloc (.cells #[.slice (some ⟨w.heap.size + 1, 0, none⟩) la.length la.length, .slice (some ⟨w.heap.size, 0, none⟩) lb.length lb.length] 26)).drew.heap.size)
    (((w.alloc (.cells (lb.map (Value.int .u8)).toArray 5)).alloc (.cells (la.map (Value.int .u8)).toArray 5)).alloc (.cells #[.slice (some ⟨w.heap.size + 1, 0, none⟩) la.length la.length, .slice (some ⟨w.heap.size, 0, none⟩) lb.length lb.length] 26)).drew (some ⟨w.heap.size + 1 + 1, 0, none⟩) [la, lb] := by
  obtain ⟨h1, h2, h3, h4⟩ := three_alloc w (.cells (lb.map (Value.int .u8)).toArray 5) (.cells (la.map (Value.int .u8)).toArray 5) (.cells #[.slice (some ⟨w.heap.size + 1, 0, none⟩) la.length la.length, .slice (some ⟨w.heap.size, 0, none⟩) lb.length lb.length] 26)
  exact parts_two h2 h1 h3 (by show _ < (World.alloc _ _).heap.size; rw [h4]; omega) (by show _ < (World.alloc _ _).heap.size; rw [h4]; omega) (by show _ < (World.alloc _ _).heap.size; rw [h4]; omega)
/-- The cells that the tag is made of. -/
def Vp (b0 : Nat) (f : Fh) (w : World) : Prop := w.cell? ⟨b0, 13, none⟩ = some (.int .i64 f.vlan) ∧ w.cell? ⟨b0, 14, none⟩ = some (.int .i64 f.prio)
theorem Fc.vp {b0 : Nat} {f : Fh} {w : World} (h : Fc b0 f w) : Vp b0 f w := by
  unfold Fc at h
  exact ⟨h.2.2.2.2.2.2.2.2.2.2.2.2.2.1, h.2.2.2.2.2.2.2.2.2.2.2.2.2.2.1⟩
theorem or_prio {p v : Int} (h₀ : 0 ≤ p) (h₁ : p < 8) (h₂ : 0 ≤ v) (h₃ : v < 4096) : bits .or .i64 (p * 8192) v = p * 8192 + v := by
  rw [bits_join .i64 63 (by decide) wraps_i64 13 (p * 8192) v (by omega) (by omega) (by omega) h₂ (by omega) (by omega)]

theorem Fc.dstB {b0 n₀ : Nat} {f : Fh} {w : World} (h : Fc b0 f w) (hb : b0 < n₀) : BytesIn n₀ w (some ⟨b0, 0, none⟩) f.dst.l := by
  unfold Fc at h
  obtain ⟨h0, h1, h2, h3, h4, h5, _⟩ := h
  refine fun _ => ⟨b0, 0, rfl, hb, fun j x hj => ?_⟩
  rw [Nat.zero_add]
  match j, hj with
  | 0, hj => cases hj; exact h0
  | 1, hj => cases hj; exact h1
  | 2, hj => cases hj; exact h2
  | 3, hj => cases hj; exact h3
  | 4, hj => cases hj; exact h4
  | 5, hj => cases hj; exact h5
theorem Fc.srcB {b0 n₀ : Nat} {f : Fh} {w : World} (h : Fc b0 f w) (hb : b0 < n₀) : BytesIn n₀ w (some ⟨b0, 6, none⟩) f.src.l := by
  unfold Fc at h
  obtain ⟨_, _, _, _, _, _, h0, h1, h2, h3, h4, h5, _⟩ := h
  refine fun _ => ⟨b0, 6, rfl, hb, fun j x hj => ?_⟩
  match j, hj with
  | 0, hj => cases hj; exact h0
  | 1, hj => cases hj; exact h1
  | 2, hj => cases hj; exact h2
  | 3, hj => cases hj; exact h3
  | 4, hj => cases hj; exact h4
  | 5, hj => cases hj; exact h5
theorem Fc.tyC {b0 : Nat} {f : Fh} {w : World} (h : Fc b0 f w) : w.cell? ⟨b0, 15, none⟩ = some (.int .i64 f.ty) := by
  unfold Fc at h
  exact h.2.2.2.2.2.2.2.2.2.2.2.2.2.2.2
theorem tl_len (f : Fh) : f.tl.length ≤ 4 := by unfold Fh.tl; split <;> simp [pr]
theorem enc_len (f : Fh) (b : List Int) : (f.enc b).length = 14 + f.tl.length + b.length := by simp [Fh.enc, M6.l, pr]; omega
theorem enc_flat (f : Fh) (b : List Int) : [f.dst.l, f.src.l, f.tl, pr f.ty, b].flatten = f.enc b := by simp [Fh.enc]
theorem parts5 {f : Fh} {B0 : Nat} {wc : World} (hS : Fc B0 f wc) (hB : B0 < wc.heap.size) {A6 : Option Addr} {n6 : Nat} (c6 : Nat) {l6 : List Int} (h6 : l6.length = n6) (b6 : BytesIn wc.heap.size wc A6 l6) {A : Option Addr} {nb : Nat} (c : Nat) {b : List Int} (hb : b.length = nb) (bb : BytesIn wc.heap.size wc A b) :
    PartsIn (((wc.alloc (.cells #[.int .u8 (f.ty / 256 % 256), .int .u8 (f.ty % 256)] 5)).alloc (.cells #[.slice (some ⟨B0, 0, none⟩) 6 6, .slice (some ⟨B0, 6, none⟩) 6 6, .slice A6 n6 c6, .slice (some ⟨wc.heap.size, 0, none⟩) 2 2, .slice A nb c] 26)).drew).heap.size (((wc.alloc (.cells #[.int .u8 (f.ty / 256 % 256), .int .u8 (f.ty % 256)] 5)).alloc (.cells #[.slice (some ⟨B0, 0, none⟩) 6 6, .slice (some ⟨B0, 6, none⟩) 6 6, .slice A6 n6 c6, .slice (some ⟨wc.heap.size, 0, none⟩) 2 2, .slice A nb c] 26)).drew) (some ⟨wc.heap.size + 1, 0, none⟩) [f.dst.l, f.src.l, l6, pr f.ty, b] := by
  subst h6
  subst hb
  have F : Fr (fun _ => False) wc (((wc.alloc (.cells #[.int .u8 (f.ty / 256 % 256), .int .u8 (f.ty % 256)] 5)).alloc (.cells #[.slice (some ⟨B0, 0, none⟩) 6 6, .slice (some ⟨B0, 6, none⟩) 6 6, .slice A6 l6.length c6, .slice (some ⟨wc.heap.size, 0, none⟩) 2 2, .slice A b.length c] 26))).drew := (((Fr.refl (fun _ => False) wc).alloc _).alloc _).drew
  obtain ⟨g1, g2, g3⟩ := two_alloc wc (.cells #[.int .u8 (f.ty / 256 % 256), .int .u8 (f.ty % 256)] 5) (.cells #[.slice (some ⟨B0, 0, none⟩) 6 6, .slice (some ⟨B0, 6, none⟩) 6 6, .slice A6 l6.length c6, .slice (some ⟨wc.heap.size, 0, none⟩) 2 2, .slice A b.length c] 26)
  have g3' : (((wc.alloc (.cells #[.int .u8 (f.ty / 256 % 256), .int .u8 (f.ty % 256)] 5)).alloc (.cells #[.slice (some ⟨B0, 0, none⟩) 6 6, .slice (some ⟨B0, 6, none⟩) 6 6, .slice A6 l6.length c6, .slice (some ⟨wc.heap.size, 0, none⟩) 2 2, .slice A b.length c] 26))).drew.heap.size = wc.heap.size + 2 := g3
  have hS' := hS.fr F hB
  rw [g3']
  have b6' := (b6.fr F (Nat.le_refl _) (fun _ _ e => e)).up (n₁ := wc.heap.size + 2) (by omega)
  have bb' := (bb.fr F (Nat.le_refl _) (fun _ _ e => e)).up (n₁ := wc.heap.size + 2) (by omega)
  have bt : BytesIn (wc.heap.size + 2) (((wc.alloc (.cells #[.int .u8 (f.ty / 256 % 256), .int .u8 (f.ty % 256)] 5)).alloc (.cells #[.slice (some ⟨B0, 0, none⟩) 6 6, .slice (some ⟨B0, 6, none⟩) 6 6, .slice A6 l6.length c6, .slice (some ⟨wc.heap.size, 0, none⟩) 2 2, .slice A b.length c] 26))).drew (some ⟨wc.heap.size, 0, none⟩) (pr f.ty) := bytes_at (l := pr f.ty) g1 (by omega)
  have hc : ∀ j v, [Value.slice (some ⟨B0, 0, none⟩) 6 6, .slice (some ⟨B0, 6, none⟩) 6 6, .slice A6 l6.length c6, .slice (some ⟨wc.heap.size, 0, none⟩) 2 2, .slice A b.length c][j]? = some v → (((wc.alloc (.cells #[.int .u8 (f.ty / 256 % 256), .int .u8 (f.ty % 256)] 5)).alloc (.cells #[.slice (some ⟨B0, 0, none⟩) 6 6, .slice (some ⟨B0, 6, none⟩) 6 6, .slice A6 l6.length c6, .slice (some ⟨wc.heap.size, 0, none⟩) 2 2, .slice A b.length c] 26))).drew.cell? ⟨wc.heap.size + 1, j, none⟩ = some v := fun j v hj => cells_at _ _ [_, _, _, _, _] 26 g2 j v hj
  have bd := hS'.dstB (n₀ := wc.heap.size + 2) (by omega)
  have bs := hS'.srcB (n₀ := wc.heap.size + 2) (by omega)
  refine ⟨wc.heap.size + 1, 0, rfl, by omega, fun i p hi => ?_⟩
  rw [Nat.zero_add]
  match i, hi with
  | 0, hi => cases hi; exact ⟨_, _, hc 0 _ rfl, bd⟩
  | 1, hi => cases hi; exact ⟨_, _, hc 1 _ rfl, bs⟩
  | 2, hi => cases hi; exact ⟨_, _, hc 2 _ rfl, b6'⟩
  | 3, hi => cases hi; exact ⟨_, _, hc 3 _ rfl, bt⟩
  | 4, hi => cases hi; exact ⟨_, _, hc 4 _ rfl, bb'⟩
end Go.Proofs.Ytmonaaappimphaa
