/- Addresses and heads of frames as values; '==' of them; Mine, of the program and of the reference. No condition. -/
import Derived.Test.YtmonaaappimphaaEtB
import Derived.Test.YtmonaaappimphaaEtEq
namespace Go.Proofs.Ytmonaaappimphaa
set_option linter.unusedVariables false
open Go.RowKit

/-- An Ethernet address. -/
structure M6 where
  a : Int
  b : Int
  c : Int
  d : Int
  e : Int
  f : Int
  deriving DecidableEq
def wf8 (n : Int) : Prop := (Lit.int .u8 n).wf = true
def wf64 (n : Int) : Prop := (Lit.int .i64 n).wf = true
structure M6.ok (m : M6) : Prop where
  a : wf8 m.a
  b : wf8 m.b
  c : wf8 m.c
  d : wf8 m.d
  e : wf8 m.e
  f : wf8 m.f
/-- A frame's head. -/
structure Fh where
  dst : M6
  src : M6
  tag : Bool
  vlan : Int
  prio : Int
  ty : Int
  deriving DecidableEq
structure Fh.ok (f : Fh) : Prop where
  dst : f.dst.ok
  src : f.src.ok
  vlan : wf64 f.vlan
  prio : wf64 f.prio
  ty : wf64 f.ty
def allM : M6 := ⟨255, 255, 255, 255, 255, 255⟩
theorem allM_ok : allM.ok := ⟨rfl, rfl, rfl, rfl, rfl, rfl⟩

def k6 : List (Option IntKind) := [some .u8, some .u8, some .u8, some .u8, some .u8, some .u8]
def k16 : List (Option IntKind) := [some .u8, some .u8, some .u8, some .u8, some .u8, some .u8, some .u8, some .u8, some .u8, some .u8, some .u8, some .u8, none, some .i64, some .i64, some .i64]
theorem flat23 : flatK Try.prog 9 23 = some k6 := by kernel_rfl
theorem flat25 : flatK Try.prog 9 25 = some k16 := by kernel_rfl
theorem fits23 {m : M6} (h : m.ok) : FitsL k6 [.int .u8 m.a, .int .u8 m.b, .int .u8 m.c, .int .u8 m.d, .int .u8 m.e, .int .u8 m.f] := ⟨⟨_, rfl, h.a⟩, ⟨_, rfl, h.b⟩, ⟨_, rfl, h.c⟩, ⟨_, rfl, h.d⟩, ⟨_, rfl, h.e⟩, ⟨_, rfl, h.f⟩, trivial⟩
theorem fits25 {f : Fh} (h : f.ok) : FitsL k16 [.int .u8 f.dst.a, .int .u8 f.dst.b, .int .u8 f.dst.c, .int .u8 f.dst.d, .int .u8 f.dst.e, .int .u8 f.dst.f, .int .u8 f.src.a, .int .u8 f.src.b, .int .u8 f.src.c, .int .u8 f.src.d, .int .u8 f.src.e, .int .u8 f.src.f, .bool f.tag, .int .i64 f.vlan, .int .i64 f.prio, .int .i64 f.ty] :=
  ⟨⟨_, rfl, h.dst.a⟩, ⟨_, rfl, h.dst.b⟩, ⟨_, rfl, h.dst.c⟩, ⟨_, rfl, h.dst.d⟩, ⟨_, rfl, h.dst.e⟩, ⟨_, rfl, h.dst.f⟩, ⟨_, rfl, h.src.a⟩, ⟨_, rfl, h.src.b⟩, ⟨_, rfl, h.src.c⟩, ⟨_, rfl, h.src.d⟩, ⟨_, rfl, h.src.e⟩, ⟨_, rfl, h.src.f⟩, ⟨_, rfl⟩, ⟨_, rfl, h.vlan⟩, ⟨_, rfl, h.prio⟩, ⟨_, rfl, h.ty⟩, trivial⟩
theorem formed23 (m : M6) : (Value.agg #[.int .u8 m.a, .int .u8 m.b, .int .u8 m.c, .int .u8 m.d, .int .u8 m.e, .int .u8 m.f]).formed Try.prog 23 = true := by kernel_rfl
theorem formed25 (f : Fh) : (Value.agg #[.int .u8 f.dst.a, .int .u8 f.dst.b, .int .u8 f.dst.c, .int .u8 f.dst.d, .int .u8 f.dst.e, .int .u8 f.dst.f, .int .u8 f.src.a, .int .u8 f.src.b, .int .u8 f.src.c, .int .u8 f.src.d, .int .u8 f.src.e, .int .u8 f.src.f, .bool f.tag, .int .i64 f.vlan, .int .i64 f.prio, .int .i64 f.ty]).formed Try.prog 25 = true := by kernel_rfl
theorem m6_iff (m k : M6) : decide (m = k) = true ↔ ([.int .u8 m.a, .int .u8 m.b, .int .u8 m.c, .int .u8 m.d, .int .u8 m.e, .int .u8 m.f] : List Value) = [.int .u8 k.a, .int .u8 k.b, .int .u8 k.c, .int .u8 k.d, .int .u8 k.e, .int .u8 k.f] := by
  rw [decide_eq_true_iff]
  constructor
  · intro e; rw [e]
  · intro e
    cases m; cases k
    simp only [List.cons.injEq, Value.int.injEq] at e
    simp_all
theorem fh_iff (f g : Fh) : decide (f = g) = true ↔ ([.int .u8 f.dst.a, .int .u8 f.dst.b, .int .u8 f.dst.c, .int .u8 f.dst.d, .int .u8 f.dst.e, .int .u8 f.dst.f, .int .u8 f.src.a, .int .u8 f.src.b, .int .u8 f.src.c, .int .u8 f.src.d, .int .u8 f.src.e, .int .u8 f.src.f, .bool f.tag, .int .i64 f.vlan, .int .i64 f.prio, .int .i64 f.ty] : List Value) = [.int .u8 g.dst.a, .int .u8 g.dst.b, .int .u8 g.dst.c, .int .u8 g.dst.d, .int .u8 g.dst.e, .int .u8 g.dst.f, .int .u8 g.src.a, .int .u8 g.src.b, .int .u8 g.src.c, .int .u8 g.src.d, .int .u8 g.src.e, .int .u8 g.src.f, .bool g.tag, .int .i64 g.vlan, .int .i64 g.prio, .int .i64 g.ty] := by
  rw [decide_eq_true_iff]
  constructor
  · intro e; rw [e]
  · intro e
    obtain ⟨⟨_, _, _, _, _, _⟩, ⟨_, _, _, _, _, _⟩, _, _, _, _⟩ := f
    obtain ⟨⟨_, _, _, _, _, _⟩, ⟨_, _, _, _, _, _⟩, _, _, _, _⟩ := g
    simp only [List.cons.injEq, Value.int.injEq, Value.bool.injEq] at e
    simp_all
theorem eql23 {m k : M6} (h : m.ok) (h' : k.ok) (w : World) : (binOp .eql 23 (.agg #[.int .u8 m.a, .int .u8 m.b, .int .u8 m.c, .int .u8 m.d, .int .u8 m.e, .int .u8 m.f]) (.agg #[.int .u8 k.a, .int .u8 k.b, .int .u8 k.c, .int .u8 k.d, .int .u8 k.e, .int .u8 k.f])).run Try.prog w = .ok (.bool (decide (m = k))) w :=
  run_eql_flat (P := Try.prog) flat23 (by kernel_rfl) (fits23 h) (fits23 h') (formed23 m) (formed23 k) _ (m6_iff m k) w
theorem neq23 {m k : M6} (h : m.ok) (h' : k.ok) (w : World) : (binOp .neq 23 (.agg #[.int .u8 m.a, .int .u8 m.b, .int .u8 m.c, .int .u8 m.d, .int .u8 m.e, .int .u8 m.f]) (.agg #[.int .u8 k.a, .int .u8 k.b, .int .u8 k.c, .int .u8 k.d, .int .u8 k.e, .int .u8 k.f])).run Try.prog w = .ok (.bool (!decide (m = k))) w :=
  run_neq_flat (P := Try.prog) flat23 (by kernel_rfl) (fits23 h) (fits23 h') (formed23 m) (formed23 k) _ (m6_iff m k) w
theorem eql25 {f g : Fh} (h : f.ok) (h' : g.ok) (w : World) : (binOp .eql 25 (.agg #[.int .u8 f.dst.a, .int .u8 f.dst.b, .int .u8 f.dst.c, .int .u8 f.dst.d, .int .u8 f.dst.e, .int .u8 f.dst.f, .int .u8 f.src.a, .int .u8 f.src.b, .int .u8 f.src.c, .int .u8 f.src.d, .int .u8 f.src.e, .int .u8 f.src.f, .bool f.tag, .int .i64 f.vlan, .int .i64 f.prio, .int .i64 f.ty]) (.agg #[.int .u8 g.dst.a, .int .u8 g.dst.b, .int .u8 g.dst.c, .int .u8 g.dst.d, .int .u8 g.dst.e, .int .u8 g.dst.f, .int .u8 g.src.a, .int .u8 g.src.b, .int .u8 g.src.c, .int .u8 g.src.d, .int .u8 g.src.e, .int .u8 g.src.f, .bool g.tag, .int .i64 g.vlan, .int .i64 g.prio, .int .i64 g.ty])).run Try.prog w = .ok (.bool (decide (f = g))) w :=
  run_eql_flat (P := Try.prog) flat25 (by kernel_rfl) (fits25 h) (fits25 h') (formed25 f) (formed25 g) _ (fh_iff f g) w
theorem neq25 {f g : Fh} (h : f.ok) (h' : g.ok) (w : World) : (binOp .neq 25 (.agg #[.int .u8 f.dst.a, .int .u8 f.dst.b, .int .u8 f.dst.c, .int .u8 f.dst.d, .int .u8 f.dst.e, .int .u8 f.dst.f, .int .u8 f.src.a, .int .u8 f.src.b, .int .u8 f.src.c, .int .u8 f.src.d, .int .u8 f.src.e, .int .u8 f.src.f, .bool f.tag, .int .i64 f.vlan, .int .i64 f.prio, .int .i64 f.ty]) (.agg #[.int .u8 g.dst.a, .int .u8 g.dst.b, .int .u8 g.dst.c, .int .u8 g.dst.d, .int .u8 g.dst.e, .int .u8 g.dst.f, .int .u8 g.src.a, .int .u8 g.src.b, .int .u8 g.src.c, .int .u8 g.src.d, .int .u8 g.src.e, .int .u8 g.src.f, .bool g.tag, .int .i64 g.vlan, .int .i64 g.prio, .int .i64 g.ty])).run Try.prog w = .ok (.bool (!decide (f = g))) w :=
  run_neq_flat (P := Try.prog) flat25 (by kernel_rfl) (fits25 h) (fits25 h') (formed25 f) (formed25 g) _ (fh_iff f g) w

/-- Is a frame for an address, in a VLAN? -/
def mineB (f : Fh) (own : M6) (v : Int) : Bool :=
  if f.dst ≠ own ∧ f.dst ≠ allM then false else if f.src = own ∨ f.src.a % 2 = 1 then false else if v < 0 then (!f.tag || decide (f.vlan = 0)) else (f.tag && decide (f.vlan = v))
theorem u8_and1 {x : Int} (h₀ : 0 ≤ x) (h₁ : x < 256) : bits .and .u8 x 1 = x % 2 := bits_mask .u8 8 (by decide) wraps_u8 1 (by decide) x h₀ h₁
theorem wf8_bd {n : Int} (h : wf8 n) : 0 ≤ n ∧ n < 256 := by
  unfold wf8 at h
  simp [Lit.wf, IntKind.min, IntKind.max, IntKind.signed, IntKind.bits] at h
  omega

theorem two_alloc (w : World) (o o' : Obj) : ((w.alloc o).alloc o').heap[w.heap.size]? = some o ∧ ((w.alloc o).alloc o').heap[w.heap.size + 1]? = some o' ∧ ((w.alloc o).alloc o').heap.size = w.heap.size + 2 := by
  refine ⟨(Below.heap_alloc _ _ _ (by simp)).trans (heap_alloc_new w o), ?_, by simp⟩
  have := heap_alloc_new (w.alloc o) o'
  rwa [show (w.alloc o).heap.size = w.heap.size + 1 by simp] at this
/-- A head and an address stand in blocks of their own. -/
def Fm (b0 b1 : Nat) (f : Fh) (m : M6) (w : World) : Prop := (w.cell? ⟨b0, 0, none⟩ = some (.int .u8 f.dst.a) ∧ w.cell? ⟨b0, 1, none⟩ = some (.int .u8 f.dst.b) ∧ w.cell? ⟨b0, 2, none⟩ = some (.int .u8 f.dst.c) ∧ w.cell? ⟨b0, 3, none⟩ = some (.int .u8 f.dst.d) ∧ w.cell? ⟨b0, 4, none⟩ = some (.int .u8 f.dst.e) ∧ w.cell? ⟨b0, 5, none⟩ = some (.int .u8 f.dst.f) ∧ w.cell? ⟨b0, 6, none⟩ = some (.int .u8 f.src.a) ∧ w.cell? ⟨b0, 7, none⟩ = some (.int .u8 f.src.b) ∧ w.cell? ⟨b0, 8, none⟩ = some (.int .u8 f.src.c) ∧ w.cell? ⟨b0, 9, none⟩ = some (.int .u8 f.src.d) ∧ w.cell? ⟨b0, 10, none⟩ = some (.int .u8 f.src.e) ∧ w.cell? ⟨b0, 11, none⟩ = some (.int .u8 f.src.f) ∧ w.cell? ⟨b0, 12, none⟩ = some (.bool f.tag) ∧ w.cell? ⟨b0, 13, none⟩ = some (.int .i64 f.vlan) ∧ w.cell? ⟨b0, 14, none⟩ = some (.int .i64 f.prio) ∧ w.cell? ⟨b0, 15, none⟩ = some (.int .i64 f.ty)) ∧ w.cell? ⟨b1, 0, none⟩ = some (.int .u8 m.a) ∧ w.cell? ⟨b1, 1, none⟩ = some (.int .u8 m.b) ∧ w.cell? ⟨b1, 2, none⟩ = some (.int .u8 m.c) ∧ w.cell? ⟨b1, 3, none⟩ = some (.int .u8 m.d) ∧ w.cell? ⟨b1, 4, none⟩ = some (.int .u8 m.e) ∧ w.cell? ⟨b1, 5, none⟩ = some (.int .u8 m.f)
theorem cells_at (w : World) (b : Nat) (cs : List Value) (t : TypeId) (h : w.heap[b]? = some (.cells cs.toArray t)) (j : Nat) (v : Value) (hj : cs[j]? = some v) : w.cell? ⟨b, j, none⟩ = some v := by
  rw [cell_of_row w b j cs.toArray t (0, 0) h]; simpa using hj
theorem fm_of {w : World} {b0 b1 : Nat} {f : Fh} {m : M6} (h0 : w.heap[b0]? = some (.cells #[.int .u8 f.dst.a, .int .u8 f.dst.b, .int .u8 f.dst.c, .int .u8 f.dst.d, .int .u8 f.dst.e, .int .u8 f.dst.f, .int .u8 f.src.a, .int .u8 f.src.b, .int .u8 f.src.c, .int .u8 f.src.d, .int .u8 f.src.e, .int .u8 f.src.f, .bool f.tag, .int .i64 f.vlan, .int .i64 f.prio, .int .i64 f.ty] 25)) (h1 : w.heap[b1]? = some (.cells #[.int .u8 m.a, .int .u8 m.b, .int .u8 m.c, .int .u8 m.d, .int .u8 m.e, .int .u8 m.f] 23)) : Fm b0 b1 f m w := by
  have c0 := cells_at w b0 [.int .u8 f.dst.a, .int .u8 f.dst.b, .int .u8 f.dst.c, .int .u8 f.dst.d, .int .u8 f.dst.e, .int .u8 f.dst.f, .int .u8 f.src.a, .int .u8 f.src.b, .int .u8 f.src.c, .int .u8 f.src.d, .int .u8 f.src.e, .int .u8 f.src.f, .bool f.tag, .int .i64 f.vlan, .int .i64 f.prio, .int .i64 f.ty] 25 h0
  have c1 := cells_at w b1 [.int .u8 m.a, .int .u8 m.b, .int .u8 m.c, .int .u8 m.d, .int .u8 m.e, .int .u8 m.f] 23 h1
  exact ⟨⟨c0 0 _ rfl, c0 1 _ rfl, c0 2 _ rfl, c0 3 _ rfl, c0 4 _ rfl, c0 5 _ rfl, c0 6 _ rfl, c0 7 _ rfl, c0 8 _ rfl, c0 9 _ rfl, c0 10 _ rfl, c0 11 _ rfl, c0 12 _ rfl, c0 13 _ rfl, c0 14 _ rfl, c0 15 _ rfl⟩, c1 0 _ rfl, c1 1 _ rfl, c1 2 _ rfl, c1 3 _ rfl, c1 4 _ rfl, c1 5 _ rfl⟩

theorem Fm.fr {b0 b1 : Nat} {f : Fh} {m : M6} {w w' : World} (h : Fm b0 b1 f m w) (k : Fr (fun _ => False) w w') (h0 : b0 < w.heap.size) (h1 : b1 < w.heap.size) : Fm b0 b1 f m w' := by
  have c0 : ∀ j, w'.cell? ⟨b0, j, none⟩ = w.cell? ⟨b0, j, none⟩ := fun j => World.cell?_of_block (k.block b0 h0 (fun e => e))
  have c1 : ∀ j, w'.cell? ⟨b1, j, none⟩ = w.cell? ⟨b1, j, none⟩ := fun j => World.cell?_of_block (k.block b1 h1 (fun e => e))
  unfold Fm at *
  simp only [c0, c1]
  exact h

set_option maxHeartbeats 8000000 in
set_option maxRecDepth 100000 in
theorem mine17 (f : Fh) (m : M6) (v : Int) (w : World) (hf : f.ok) (hm : m.ok) :
    Calls Try.prog 17 #[.agg #[.int .u8 f.dst.a, .int .u8 f.dst.b, .int .u8 f.dst.c, .int .u8 f.dst.d, .int .u8 f.dst.e, .int .u8 f.dst.f, .int .u8 f.src.a, .int .u8 f.src.b, .int .u8 f.src.c, .int .u8 f.src.d, .int .u8 f.src.e, .int .u8 f.src.f, .bool f.tag, .int .i64 f.vlan, .int .i64 f.prio, .int .i64 f.ty], .agg #[.int .u8 m.a, .int .u8 m.b, .int .u8 m.c, .int .u8 m.d, .int .u8 m.e, .int .u8 m.f], .int .i64 v] w fun e w' => e = .returned (.bool (mineB f m v)) ∧ Fr (fun _ => False) w w' := by
  obtain ⟨r, hr⟩ : ∃ r, mineB f m v = r := ⟨_, rfl⟩
  rw [hr]
  have HR := Lib.hid hr
  clear hr
  have FA := Lib.hid (Fr.refl (fun _ => False) w)
  have hs := wf8_bd hf.src.a
  have q1 := u8_and1 hs.1 hs.2
  have e1 := fun w => neq23 hf.dst hm w
  have e2 : ∀ w, (binOp .neq 23 (.agg #[.int .u8 f.dst.a, .int .u8 f.dst.b, .int .u8 f.dst.c, .int .u8 f.dst.d, .int .u8 f.dst.e, .int .u8 f.dst.f]) (.agg #[.int .u8 255, .int .u8 255, .int .u8 255, .int .u8 255, .int .u8 255, .int .u8 255])).run Try.prog w = .ok (.bool (!decide (f.dst = allM))) w := fun w => neq23 hf.dst allM_ok w
  have e3 := fun w => eql23 hf.src hm w
  obtain ⟨b1, hb1⟩ : ∃ b, decide (f.dst = m) = b := ⟨_, rfl⟩
  obtain ⟨b2, hb2⟩ : ∃ b, decide (f.dst = allM) = b := ⟨_, rfl⟩
  obtain ⟨b3, hb3⟩ : ∃ b, decide (f.src = m) = b := ⟨_, rfl⟩
  rw [hb1] at e1
  rw [hb2] at e2
  rw [hb3] at e3
  have HB := Lib.hid (And.intro hb1 (And.intro hb2 hb3))
  clear hb1 hb2 hb3 hs
  cases b1
  · cases b2
    · clear q1
      go_enter Try.func17, Try.ntmps17
      go_upto_region 1 with (fail)
      have HS := Lib.hid (show Fm w.heap.size (w.heap.size + 1) f m ((w.alloc (.cells #[.int .u8 f.dst.a, .int .u8 f.dst.b, .int .u8 f.dst.c, .int .u8 f.dst.d, .int .u8 f.dst.e, .int .u8 f.dst.f, .int .u8 f.src.a, .int .u8 f.src.b, .int .u8 f.src.c, .int .u8 f.src.d, .int .u8 f.src.e, .int .u8 f.src.f, .bool f.tag, .int .i64 f.vlan, .int .i64 f.prio, .int .i64 f.ty] 25)).alloc (.cells #[.int .u8 m.a, .int .u8 m.b, .int .u8 m.c, .int .u8 m.d, .int .u8 m.e, .int .u8 m.f] 23)) from fm_of (two_alloc _ _ _).1 (two_alloc _ _ _).2.1)
      have FB := Lib.hid ((FA.out.alloc (.cells #[.int .u8 f.dst.a, .int .u8 f.dst.b, .int .u8 f.dst.c, .int .u8 f.dst.d, .int .u8 f.dst.e, .int .u8 f.dst.f, .int .u8 f.src.a, .int .u8 f.src.b, .int .u8 f.src.c, .int .u8 f.src.d, .int .u8 f.src.e, .int .u8 f.src.f, .bool f.tag, .int .i64 f.vlan, .int .i64 f.prio, .int .i64 f.ty] 25)).alloc (.cells #[.int .u8 m.a, .int .u8 m.b, .int .u8 m.c, .int .u8 m.d, .int .u8 m.e, .int .u8 m.f] 23))
      have hz : (((w.alloc (.cells #[.int .u8 f.dst.a, .int .u8 f.dst.b, .int .u8 f.dst.c, .int .u8 f.dst.d, .int .u8 f.dst.e, .int .u8 f.dst.f, .int .u8 f.src.a, .int .u8 f.src.b, .int .u8 f.src.c, .int .u8 f.src.d, .int .u8 f.src.e, .int .u8 f.src.f, .bool f.tag, .int .i64 f.vlan, .int .i64 f.prio, .int .i64 f.ty] 25)).alloc (.cells #[.int .u8 m.a, .int .u8 m.b, .int .u8 m.c, .int .u8 m.d, .int .u8 m.e, .int .u8 m.f] 23))).heap.size = w.heap.size + 2 := by simp
      generalize ((w.alloc (.cells #[.int .u8 f.dst.a, .int .u8 f.dst.b, .int .u8 f.dst.c, .int .u8 f.dst.d, .int .u8 f.dst.e, .int .u8 f.dst.f, .int .u8 f.src.a, .int .u8 f.src.b, .int .u8 f.src.c, .int .u8 f.src.d, .int .u8 f.src.e, .int .u8 f.src.f, .bool f.tag, .int .i64 f.vlan, .int .i64 f.prio, .int .i64 f.ty] 25)).alloc (.cells #[.int .u8 m.a, .int .u8 m.b, .int .u8 m.c, .int .u8 m.d, .int .u8 m.e, .int .u8 m.f] 23)) = w1 at HS FB hz ⊢
      have HD := Lib.hid (show Fm w.heap.size (w.heap.size + 1) f m w1.drew from HS.out)
      have HA : ∀ o, Fm w.heap.size (w.heap.size + 1) f m (w1.drew.alloc o) := fun o => HS.out.fr (((Fr.refl (fun _ => False) w1).drew).alloc o) (by omega) (by omega)
      have HA := Lib.hid HA
      go_region_held_law (fun w' => (w'.cell? ⟨w.heap.size, 0, none⟩ = some (.int .u8 f.dst.a) ∧ w'.cell? ⟨w.heap.size, 1, none⟩ = some (.int .u8 f.dst.b) ∧ w'.cell? ⟨w.heap.size, 2, none⟩ = some (.int .u8 f.dst.c) ∧ w'.cell? ⟨w.heap.size, 3, none⟩ = some (.int .u8 f.dst.d) ∧ w'.cell? ⟨w.heap.size, 4, none⟩ = some (.int .u8 f.dst.e) ∧ w'.cell? ⟨w.heap.size, 5, none⟩ = some (.int .u8 f.dst.f) ∧ w'.cell? ⟨w.heap.size, 6, none⟩ = some (.int .u8 f.src.a) ∧ w'.cell? ⟨w.heap.size, 7, none⟩ = some (.int .u8 f.src.b) ∧ w'.cell? ⟨w.heap.size, 8, none⟩ = some (.int .u8 f.src.c) ∧ w'.cell? ⟨w.heap.size, 9, none⟩ = some (.int .u8 f.src.d) ∧ w'.cell? ⟨w.heap.size, 10, none⟩ = some (.int .u8 f.src.e) ∧ w'.cell? ⟨w.heap.size, 11, none⟩ = some (.int .u8 f.src.f) ∧ w'.cell? ⟨w.heap.size, 12, none⟩ = some (.bool f.tag) ∧ w'.cell? ⟨w.heap.size, 13, none⟩ = some (.int .i64 f.vlan) ∧ w'.cell? ⟨w.heap.size, 14, none⟩ = some (.int .i64 f.prio) ∧ w'.cell? ⟨w.heap.size, 15, none⟩ = some (.int .i64 f.ty)) ∧ w'.cell? ⟨(w.heap.size + 1), 0, none⟩ = some (.int .u8 m.a) ∧ w'.cell? ⟨(w.heap.size + 1), 1, none⟩ = some (.int .u8 m.b) ∧ w'.cell? ⟨(w.heap.size + 1), 2, none⟩ = some (.int .u8 m.c) ∧ w'.cell? ⟨(w.heap.size + 1), 3, none⟩ = some (.int .u8 m.d) ∧ w'.cell? ⟨(w.heap.size + 1), 4, none⟩ = some (.int .u8 m.e) ∧ w'.cell? ⟨(w.heap.size + 1), 5, none⟩ = some (.int .u8 m.f))
        (first | exact HS.out | exact HD.out | exact HA.out _)
        (first | (go_at_call 19; go_must (refine (all19 _).mono ?_); rintro e w2 ⟨rfl, rfl⟩))
      have FE := Lib.hid ((FB.out.alloc (.cells #[.int .u8 255, .int .u8 255, .int .u8 255, .int .u8 255, .int .u8 255, .int .u8 255] 23)).drew)
      go_wp2_with fail
      go_ret
      refine ⟨?_, FE.out⟩
      obtain ⟨z1, z2, z3⟩ := HB.out
      rw [← HR.out]; simp_all [mineB]
    · go_enter Try.func17, Try.ntmps17
      go_upto_region 1 with (fail)
      have HS := Lib.hid (show Fm w.heap.size (w.heap.size + 1) f m ((w.alloc (.cells #[.int .u8 f.dst.a, .int .u8 f.dst.b, .int .u8 f.dst.c, .int .u8 f.dst.d, .int .u8 f.dst.e, .int .u8 f.dst.f, .int .u8 f.src.a, .int .u8 f.src.b, .int .u8 f.src.c, .int .u8 f.src.d, .int .u8 f.src.e, .int .u8 f.src.f, .bool f.tag, .int .i64 f.vlan, .int .i64 f.prio, .int .i64 f.ty] 25)).alloc (.cells #[.int .u8 m.a, .int .u8 m.b, .int .u8 m.c, .int .u8 m.d, .int .u8 m.e, .int .u8 m.f] 23)) from fm_of (two_alloc _ _ _).1 (two_alloc _ _ _).2.1)
      have FB := Lib.hid ((FA.out.alloc (.cells #[.int .u8 f.dst.a, .int .u8 f.dst.b, .int .u8 f.dst.c, .int .u8 f.dst.d, .int .u8 f.dst.e, .int .u8 f.dst.f, .int .u8 f.src.a, .int .u8 f.src.b, .int .u8 f.src.c, .int .u8 f.src.d, .int .u8 f.src.e, .int .u8 f.src.f, .bool f.tag, .int .i64 f.vlan, .int .i64 f.prio, .int .i64 f.ty] 25)).alloc (.cells #[.int .u8 m.a, .int .u8 m.b, .int .u8 m.c, .int .u8 m.d, .int .u8 m.e, .int .u8 m.f] 23))
      have hz : (((w.alloc (.cells #[.int .u8 f.dst.a, .int .u8 f.dst.b, .int .u8 f.dst.c, .int .u8 f.dst.d, .int .u8 f.dst.e, .int .u8 f.dst.f, .int .u8 f.src.a, .int .u8 f.src.b, .int .u8 f.src.c, .int .u8 f.src.d, .int .u8 f.src.e, .int .u8 f.src.f, .bool f.tag, .int .i64 f.vlan, .int .i64 f.prio, .int .i64 f.ty] 25)).alloc (.cells #[.int .u8 m.a, .int .u8 m.b, .int .u8 m.c, .int .u8 m.d, .int .u8 m.e, .int .u8 m.f] 23))).heap.size = w.heap.size + 2 := by simp
      generalize ((w.alloc (.cells #[.int .u8 f.dst.a, .int .u8 f.dst.b, .int .u8 f.dst.c, .int .u8 f.dst.d, .int .u8 f.dst.e, .int .u8 f.dst.f, .int .u8 f.src.a, .int .u8 f.src.b, .int .u8 f.src.c, .int .u8 f.src.d, .int .u8 f.src.e, .int .u8 f.src.f, .bool f.tag, .int .i64 f.vlan, .int .i64 f.prio, .int .i64 f.ty] 25)).alloc (.cells #[.int .u8 m.a, .int .u8 m.b, .int .u8 m.c, .int .u8 m.d, .int .u8 m.e, .int .u8 m.f] 23)) = w1 at HS FB hz ⊢
      have HD := Lib.hid (show Fm w.heap.size (w.heap.size + 1) f m w1.drew from HS.out)
      have HA : ∀ o, Fm w.heap.size (w.heap.size + 1) f m (w1.drew.alloc o) := fun o => HS.out.fr (((Fr.refl (fun _ => False) w1).drew).alloc o) (by omega) (by omega)
      have HA := Lib.hid HA
      go_region_held_law (fun w' => (w'.cell? ⟨w.heap.size, 0, none⟩ = some (.int .u8 f.dst.a) ∧ w'.cell? ⟨w.heap.size, 1, none⟩ = some (.int .u8 f.dst.b) ∧ w'.cell? ⟨w.heap.size, 2, none⟩ = some (.int .u8 f.dst.c) ∧ w'.cell? ⟨w.heap.size, 3, none⟩ = some (.int .u8 f.dst.d) ∧ w'.cell? ⟨w.heap.size, 4, none⟩ = some (.int .u8 f.dst.e) ∧ w'.cell? ⟨w.heap.size, 5, none⟩ = some (.int .u8 f.dst.f) ∧ w'.cell? ⟨w.heap.size, 6, none⟩ = some (.int .u8 f.src.a) ∧ w'.cell? ⟨w.heap.size, 7, none⟩ = some (.int .u8 f.src.b) ∧ w'.cell? ⟨w.heap.size, 8, none⟩ = some (.int .u8 f.src.c) ∧ w'.cell? ⟨w.heap.size, 9, none⟩ = some (.int .u8 f.src.d) ∧ w'.cell? ⟨w.heap.size, 10, none⟩ = some (.int .u8 f.src.e) ∧ w'.cell? ⟨w.heap.size, 11, none⟩ = some (.int .u8 f.src.f) ∧ w'.cell? ⟨w.heap.size, 12, none⟩ = some (.bool f.tag) ∧ w'.cell? ⟨w.heap.size, 13, none⟩ = some (.int .i64 f.vlan) ∧ w'.cell? ⟨w.heap.size, 14, none⟩ = some (.int .i64 f.prio) ∧ w'.cell? ⟨w.heap.size, 15, none⟩ = some (.int .i64 f.ty)) ∧ w'.cell? ⟨(w.heap.size + 1), 0, none⟩ = some (.int .u8 m.a) ∧ w'.cell? ⟨(w.heap.size + 1), 1, none⟩ = some (.int .u8 m.b) ∧ w'.cell? ⟨(w.heap.size + 1), 2, none⟩ = some (.int .u8 m.c) ∧ w'.cell? ⟨(w.heap.size + 1), 3, none⟩ = some (.int .u8 m.d) ∧ w'.cell? ⟨(w.heap.size + 1), 4, none⟩ = some (.int .u8 m.e) ∧ w'.cell? ⟨(w.heap.size + 1), 5, none⟩ = some (.int .u8 m.f))
        (first | exact HS.out | exact HD.out | exact HA.out _)
        (first | (go_at_call 19; go_must (refine (all19 _).mono ?_); rintro e w2 ⟨rfl, rfl⟩))
      have FE := Lib.hid ((FB.out.alloc (.cells #[.int .u8 255, .int .u8 255, .int .u8 255, .int .u8 255, .int .u8 255, .int .u8 255] 23)).drew)
      have HE := Lib.hid (show Fm w.heap.size (w.heap.size + 1) f m (w1.alloc (.cells #[.int .u8 255, .int .u8 255, .int .u8 255, .int .u8 255, .int .u8 255, .int .u8 255] 23)).drew from HA.out (.cells #[.int .u8 255, .int .u8 255, .int .u8 255, .int .u8 255, .int .u8 255, .int .u8 255] 23))
      generalize (w1.alloc (.cells #[.int .u8 255, .int .u8 255, .int .u8 255, .int .u8 255, .int .u8 255, .int .u8 255] 23)).drew = w2 at HE FE ⊢
      have hc := HE.out
      unfold Fm at hc
      cases b3
      case true =>
        go_wp2_with fail
        go_ret
        refine ⟨?_, FE.out⟩
        obtain ⟨z1, z2, z3⟩ := HB.out
        rw [← HR.out]; simp_all [mineB]
      rcases Int.emod_two_eq f.src.a with hbit | hbit
      case inr =>
        rw [hbit] at q1
        have hbit := Lib.hid hbit
        go_wp2_with fail
        go_ret
        refine ⟨?_, FE.out⟩
        obtain ⟨z1, z2, z3⟩ := HB.out
        have hbit := hbit.out
        rw [← HR.out]; simp_all [mineB]
      rw [hbit] at q1
      have hbit := Lib.hid hbit
      by_cases hv : v < 0
      all_goals cases htag : f.tag
      all_goals rw [htag] at hc
      all_goals have htag := Lib.hid htag
      all_goals go_wp2_with fail
      all_goals go_ret
      all_goals refine ⟨?_, FE.out⟩
      all_goals obtain ⟨z1, z2, z3⟩ := HB.out
      all_goals have hbit := hbit.out
      all_goals have htag := htag.out
      all_goals rw [← HR.out]
      all_goals simp_all [mineB]
      all_goals first | rfl | (rw [if_neg (by omega)]; rfl)
  · have hskip := True.intro
    go_enter Try.func17, Try.ntmps17
    go_upto_region 1 with (fail)
    have HS := Lib.hid (show Fm w.heap.size (w.heap.size + 1) f m ((w.alloc (.cells #[.int .u8 f.dst.a, .int .u8 f.dst.b, .int .u8 f.dst.c, .int .u8 f.dst.d, .int .u8 f.dst.e, .int .u8 f.dst.f, .int .u8 f.src.a, .int .u8 f.src.b, .int .u8 f.src.c, .int .u8 f.src.d, .int .u8 f.src.e, .int .u8 f.src.f, .bool f.tag, .int .i64 f.vlan, .int .i64 f.prio, .int .i64 f.ty] 25)).alloc (.cells #[.int .u8 m.a, .int .u8 m.b, .int .u8 m.c, .int .u8 m.d, .int .u8 m.e, .int .u8 m.f] 23)) from fm_of (two_alloc _ _ _).1 (two_alloc _ _ _).2.1)
    have FB := Lib.hid ((FA.out.alloc (.cells #[.int .u8 f.dst.a, .int .u8 f.dst.b, .int .u8 f.dst.c, .int .u8 f.dst.d, .int .u8 f.dst.e, .int .u8 f.dst.f, .int .u8 f.src.a, .int .u8 f.src.b, .int .u8 f.src.c, .int .u8 f.src.d, .int .u8 f.src.e, .int .u8 f.src.f, .bool f.tag, .int .i64 f.vlan, .int .i64 f.prio, .int .i64 f.ty] 25)).alloc (.cells #[.int .u8 m.a, .int .u8 m.b, .int .u8 m.c, .int .u8 m.d, .int .u8 m.e, .int .u8 m.f] 23))
    have hz : (((w.alloc (.cells #[.int .u8 f.dst.a, .int .u8 f.dst.b, .int .u8 f.dst.c, .int .u8 f.dst.d, .int .u8 f.dst.e, .int .u8 f.dst.f, .int .u8 f.src.a, .int .u8 f.src.b, .int .u8 f.src.c, .int .u8 f.src.d, .int .u8 f.src.e, .int .u8 f.src.f, .bool f.tag, .int .i64 f.vlan, .int .i64 f.prio, .int .i64 f.ty] 25)).alloc (.cells #[.int .u8 m.a, .int .u8 m.b, .int .u8 m.c, .int .u8 m.d, .int .u8 m.e, .int .u8 m.f] 23))).heap.size = w.heap.size + 2 := by simp
    generalize ((w.alloc (.cells #[.int .u8 f.dst.a, .int .u8 f.dst.b, .int .u8 f.dst.c, .int .u8 f.dst.d, .int .u8 f.dst.e, .int .u8 f.dst.f, .int .u8 f.src.a, .int .u8 f.src.b, .int .u8 f.src.c, .int .u8 f.src.d, .int .u8 f.src.e, .int .u8 f.src.f, .bool f.tag, .int .i64 f.vlan, .int .i64 f.prio, .int .i64 f.ty] 25)).alloc (.cells #[.int .u8 m.a, .int .u8 m.b, .int .u8 m.c, .int .u8 m.d, .int .u8 m.e, .int .u8 m.f] 23)) = w1 at HS FB hz ⊢
    have hc0 : ∀ j, Fm w.heap.size (w.heap.size + 1) f m (w1.drewN j) := fun j => HS.out
    unfold Fm at hc0
    go_quiet (fail)
    clear hc0
    have FE := Lib.hid (FB.out.drewN nq)
    have HE := Lib.hid (show Fm w.heap.size (w.heap.size + 1) f m (w1.drewN nq) from HS.out)
    generalize w1.drewN nq = w2 at HE FE ⊢
    have hc := HE.out
    unfold Fm at hc
    cases b3
    case true =>
      go_wp2_with fail
      go_ret
      refine ⟨?_, FE.out⟩
      obtain ⟨z1, z2, z3⟩ := HB.out
      rw [← HR.out]; simp_all [mineB]
    rcases Int.emod_two_eq f.src.a with hbit | hbit
    case inr =>
      rw [hbit] at q1
      have hbit := Lib.hid hbit
      go_wp2_with fail
      go_ret
      refine ⟨?_, FE.out⟩
      obtain ⟨z1, z2, z3⟩ := HB.out
      have hbit := hbit.out
      rw [← HR.out]; simp_all [mineB]
    rw [hbit] at q1
    have hbit := Lib.hid hbit
    by_cases hv : v < 0
    all_goals cases htag : f.tag
    all_goals rw [htag] at hc
    all_goals have htag := Lib.hid htag
    all_goals go_wp2_with fail
    all_goals go_ret
    all_goals refine ⟨?_, FE.out⟩
    all_goals obtain ⟨z1, z2, z3⟩ := HB.out
    all_goals have hbit := hbit.out
    all_goals have htag := htag.out
    all_goals rw [← HR.out]
    all_goals simp_all [mineB]
    all_goals first | rfl | (rw [if_neg (by omega)]; rfl)
end Go.Proofs.Ytmonaaappimphaa
