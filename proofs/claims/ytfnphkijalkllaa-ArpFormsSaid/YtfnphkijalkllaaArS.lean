/- Law 8: what came in as a slice of calls, opened. No condition. -/
import Derived.Test.YtfnphkijalkllaaArJ
import Derived.Test.YtfnphkijalkllaaFx
namespace Go.Proofs.Ytfnphkijalkllaa
set_option linter.unusedVariables false
set_option linter.unusedSimpArgs false
open Go.RowKit
theorem cells3b : Try.prog.cellsOf 3 = 1 := by kernel_rfl
theorem cells4b : Try.prog.cellsOf 4 = 1 := by kernel_rfl
theorem cells5b : Try.prog.cellsOf 5 = 1 := by kernel_rfl
theorem cells27b : Try.prog.cellsOf 27 = 6 := by kernel_rfl
theorem cells29b : Try.prog.cellsOf 29 = 4 := by kernel_rfl
theorem cells33b : Try.prog.cellsOf 33 = 21 := by kernel_rfl
theorem cells35b : Try.prog.cellsOf 35 = 25 := by kernel_rfl
theorem bytes35b : Try.prog.bytesOf 35 = 56 := by kernel_rfl
set_option maxRecDepth 100000 in
theorem i4_of_fits {W : World} {cs : List Value} (h : FitsX Try.prog W 29 cs) : ∃ k : I4, cs = k.cells ∧ k.ok := by
  obtain ⟨hl, hf⟩ := h.toArray Try.underlying29
  rw [cells29b] at hl
  simp only [cells5b] at hf
  match cs, hl with
  | [c0, c1, c2, c3], _ =>
    obtain ⟨n0, e0, w0⟩ := (hf 0 (by decide)).toInt Try.underlying5
    obtain ⟨n1, e1, w1⟩ := (hf 1 (by decide)).toInt Try.underlying5
    obtain ⟨n2, e2, w2⟩ := (hf 2 (by decide)).toInt Try.underlying5
    obtain ⟨n3, e3, w3⟩ := (hf 3 (by decide)).toInt Try.underlying5
    simp at e0 e1 e2 e3
    subst e0; subst e1; subst e2; subst e3
    exact ⟨⟨n0, n1, n2, n3⟩, rfl, w0, w1, w2, w3⟩
set_option maxRecDepth 100000 in
theorem m6_of_fits {W : World} {cs : List Value} (h : FitsX Try.prog W 27 cs) : ∃ k : M6, cs = k.cells ∧ k.ok := by
  obtain ⟨hl, hf⟩ := h.toArray Try.underlying27
  rw [cells27b] at hl
  simp only [cells5b] at hf
  match cs, hl with
  | [c0, c1, c2, c3, c4, c5], _ =>
    obtain ⟨n0, e0, w0⟩ := (hf 0 (by decide)).toInt Try.underlying5
    obtain ⟨n1, e1, w1⟩ := (hf 1 (by decide)).toInt Try.underlying5
    obtain ⟨n2, e2, w2⟩ := (hf 2 (by decide)).toInt Try.underlying5
    obtain ⟨n3, e3, w3⟩ := (hf 3 (by decide)).toInt Try.underlying5
    obtain ⟨n4, e4, w4⟩ := (hf 4 (by decide)).toInt Try.underlying5
    obtain ⟨n5, e5, w5⟩ := (hf 5 (by decide)).toInt Try.underlying5
    simp at e0 e1 e2 e3 e4 e5
    subst e0; subst e1; subst e2; subst e3; subst e4; subst e5
    exact ⟨⟨n0, n1, n2, n3, n4, n5⟩, rfl, w0, w1, w2, w3, w4, w5⟩
set_option maxRecDepth 100000 in
theorem rq_of_fits {W : World} {cs : List Value} (h : FitsX Try.prog W 33 cs) : ∃ x : Rq, cs = x.cells ∧ x.ok := by
  obtain ⟨hl, hf⟩ := h.toStruct Try.underlying33
  rw [cells33b] at hl
  match cs, hl with
  | [c0, c1, c2, c3, c4, c5, c6, c7, c8, c9, c10, c11, c12, c13, c14, c15, c16, c17, c18, c19, c20], _ =>
    have h0 := h.field Try.underlying33 0 (ft := 4) (off := 0) (k := 1) rfl cells4b
    have h1 := h.field Try.underlying33 1 (ft := 27) (off := 1) (k := 6) rfl cells27b
    have h2 := h.field Try.underlying33 2 (ft := 29) (off := 7) (k := 4) rfl cells29b
    have h3 := h.field Try.underlying33 3 (ft := 27) (off := 11) (k := 6) rfl cells27b
    have h4 := h.field Try.underlying33 4 (ft := 29) (off := 17) (k := 4) rfl cells29b
    obtain ⟨n0, e0⟩ := h0.toBool Try.underlying4
    obtain ⟨k1, e1, b1⟩ := m6_of_fits h1
    obtain ⟨k2, e2, b2⟩ := i4_of_fits h2
    obtain ⟨k3, e3, b3⟩ := m6_of_fits h3
    obtain ⟨k4, e4, b4⟩ := i4_of_fits h4
    cases e0; cases e1; cases e2; cases e3; cases e4
    exact ⟨⟨n0, k1, k2, k3, k4⟩, rfl, ⟨b1, b2, b3, b4⟩⟩
/-- A call: its kind, its address' last byte, a buffer, what came, how long one waits. -/
structure Ox where
  kind : Int
  ip : Int
  buf : Int
  a : Rq
  wait : Int
def Ox.cells (o : Ox) : List Value := .int .i64 o.kind :: .int .u8 o.ip :: .int .i64 o.buf :: (o.a.cells ++ [.int .i64 o.wait])
structure Ox.ok (o : Ox) : Prop where
  ip : (Lit.int .u8 o.ip).wf = true
  a : o.a.ok
set_option maxRecDepth 100000 in
theorem ox_of_fits {W : World} {cs : List Value} (h : FitsX Try.prog W 35 cs) : ∃ x : Ox, cs = x.cells ∧ x.ok := by
  obtain ⟨hl, hf⟩ := h.toStruct Try.underlying35
  rw [cells35b] at hl
  match cs, hl with
  | [c0, c1, c2, d0, d1, d2, d3, d4, d5, d6, d7, d8, d9, d10, d11, d12, d13, d14, d15, d16, d17, d18, d19, d20, c4], _ =>
    have h0 := h.field Try.underlying35 0 (ft := 3) (off := 0) (k := 1) rfl cells3b
    have h1 := h.field Try.underlying35 1 (ft := 5) (off := 1) (k := 1) rfl cells5b
    have h2 := h.field Try.underlying35 2 (ft := 3) (off := 2) (k := 1) rfl cells3b
    have h3 := h.field Try.underlying35 3 (ft := 33) (off := 3) (k := 21) rfl cells33b
    have h4 := h.field Try.underlying35 4 (ft := 3) (off := 24) (k := 1) rfl cells3b
    obtain ⟨n0, e0, _⟩ := h0.toInt Try.underlying3
    obtain ⟨n1, e1, w1⟩ := h1.toInt Try.underlying5
    obtain ⟨n2, e2, _⟩ := h2.toInt Try.underlying3
    obtain ⟨x, e3, b3⟩ := rq_of_fits h3
    obtain ⟨n4, e4, _⟩ := h4.toInt Try.underlying3
    cases e0; cases e1; cases e2; cases e3; cases e4
    exact ⟨⟨n0, n1, n2, x, n4⟩, rfl, ⟨w1, b3⟩⟩
theorem range_block {w w' : World} {b o : Nat} {cs : List Value} (h : w'.heap[b]? = w.heap[b]?) (r : w.rangeAt b o cs) : w'.rangeAt b o cs := fun j v hj => (World.cell?_of_block h).trans (r j v hj)
/-- What came in: a slice of calls. -/
structure OpsIn (w : World) (A : Option Addr) (n : Nat) (os : List Ox) : Prop where
  len : os.length = n
  ok : ∀ x ∈ os, x.ok
  top : n ≤ 4398046511104
  here : 0 < n → ∃ b off, A = some ⟨b, off, none⟩ ∧ b < w.heap.size ∧ ∀ i x, os[i]? = some x → w.rangeAt b (off + i * 25) x.cells
theorem OpsIn.fr {w w' : World} {A : Option Addr} {n : Nat} {os : List Ox} (h : OpsIn w A n os) (f : Fr (fun _ => False) w w') : OpsIn w' A n os :=
  ⟨h.len, h.ok, h.top, fun h0 => by
    obtain ⟨b, off, e, hb, hc⟩ := h.here h0
    exact ⟨b, off, e, Nat.lt_of_lt_of_le hb f.size, fun i x hi => range_block (f.block b hb (fun e => e)) (hc i x hi)⟩⟩
theorem list_of {α : Type} {P : Nat → α → Prop} : ∀ m, (∀ i, i < m → ∃ x, P i x) → ∃ ws : List α, ws.length = m ∧ ∀ i x, ws[i]? = some x → P i x
  | 0, _ => ⟨[], rfl, fun i x h => by simp at h⟩
  | m + 1, h => by
    obtain ⟨ws, hl, hp⟩ := list_of m (fun i hi => h i (by omega))
    obtain ⟨x, hx⟩ := h m (by omega)
    refine ⟨ws ++ [x], by simp [hl], fun i y hy => ?_⟩
    by_cases hi : i < m
    · rw [List.getElem?_append_left (by omega)] at hy
      exact hp i y hy
    · obtain ⟨hlt, _⟩ := List.getElem?_eq_some_iff.1 hy
      simp at hlt
      have : i = m := by omega
      subst this
      rw [List.getElem?_append_right (by omega), hl, Nat.sub_self] at hy
      cases hy
      exact hx
theorem ops_of_fits {W : World} {A : Option Addr} {n c : Nat} (h : FitsX Try.prog W 22 [.slice A n c]) : ∃ os, OpsIn W A n os ∧ n ≤ c := by
  obtain ⟨A', len, cap, e, h1, h2, h3, h4, h5⟩ := h.toSlice Try.underlying22 (by rw [cells35b]; decide)
  cases e
  rw [cells35b] at h5
  rw [bytes35b] at h4
  by_cases h0 : 0 < n
  · obtain ⟨b, off, rfl, hb, hc⟩ := h5 (by omega)
    obtain ⟨os, hl, hp⟩ := list_of (P := fun i (x : Ox) => x.ok ∧ W.rangeAt b (off + i * 25) x.cells) n (fun i hi => by
      obtain ⟨cs, hl, hcell, hF⟩ := hc i (by omega)
      obtain ⟨x, rfl, hx⟩ := ox_of_fits hF
      exact ⟨x, hx, fun j v hj => hcell j v hj⟩)
    refine ⟨os, ⟨hl, fun x hx => ?_, by simp only [reachBytes] at h4; omega, fun _ => ⟨b, off, rfl, hb, fun i x hx => (hp i x hx).2⟩⟩, h1⟩
    obtain ⟨i, hi⟩ := List.mem_iff_getElem?.1 hx
    exact (hp i x hi).1
  · have : n = 0 := by omega
    subst this
    exact ⟨[], ⟨rfl, (fun x hx => by cases hx), by omega, fun h => absurd h h0⟩, h1⟩
end Go.Proofs.Ytfnphkijalkllaa
