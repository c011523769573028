/- The cache of law 8 in memory: neighbours, the list of pointers, what a call may turn. No condition. -/
import Derived.Test.YtfnphkijalkllaaProg
import Derived.Test.YtfnphkijalkllaaUt
import Derived.Test.YtfnphkijalkllaaDl
import Derived.Lib.Hide
import Derived.Deep.RegionHeldLaw
import Derived.Deep.DeepCutAuto
import Derived.Deep.DeepMust
import Derived.Laws.IdiomCopy
namespace Go.Proofs.Ytfnphkijalkllaa
set_option linter.unusedVariables false
set_option linter.unusedSimpArgs false
open Go.RowKit
theorem Try.laidOut : laidOutB Try.prog = true := by kernel_rfl
structure I4 where
  a : Int
  b : Int
  c : Int
  d : Int
  deriving DecidableEq
def I4.ok (k : I4) : Prop := (Lit.int .u8 k.a).wf = true ∧ (Lit.int .u8 k.b).wf = true ∧ (Lit.int .u8 k.c).wf = true ∧ (Lit.int .u8 k.d).wf = true
def I4.cells (k : I4) : List Value := [.int .u8 k.a, .int .u8 k.b, .int .u8 k.c, .int .u8 k.d]
def I4.zero : I4 := ⟨0, 0, 0, 0⟩
theorem I4.zero_ok : I4.zero.ok := ⟨by decide, by decide, by decide, by decide⟩
structure M6 where
  a : Int
  b : Int
  c : Int
  d : Int
  e : Int
  f : Int
  deriving DecidableEq
def M6.ok (k : M6) : Prop := (Lit.int .u8 k.a).wf = true ∧ (Lit.int .u8 k.b).wf = true ∧ (Lit.int .u8 k.c).wf = true ∧ (Lit.int .u8 k.d).wf = true ∧ (Lit.int .u8 k.e).wf = true ∧ (Lit.int .u8 k.f).wf = true
def M6.cells (k : M6) : List Value := [.int .u8 k.a, .int .u8 k.b, .int .u8 k.c, .int .u8 k.d, .int .u8 k.e, .int .u8 k.f]
def M6.zero : M6 := ⟨0, 0, 0, 0, 0, 0⟩
theorem M6.zero_ok : M6.zero.ok := ⟨by decide, by decide, by decide, by decide, by decide, by decide⟩
theorem flat29 : flatK Try.prog 9 29 = some [some .u8, some .u8, some .u8, some .u8] := by kernel_rfl
theorem flat27 : flatK Try.prog 9 27 = some [some .u8, some .u8, some .u8, some .u8, some .u8, some .u8] := by kernel_rfl
theorem fits29 {k : I4} (h : k.ok) : FitsL [some .u8, some .u8, some .u8, some .u8] k.cells := ⟨⟨_, rfl, h.1⟩, ⟨_, rfl, h.2.1⟩, ⟨_, rfl, h.2.2.1⟩, ⟨_, rfl, h.2.2.2⟩, trivial⟩
theorem fits27 {k : M6} (h : k.ok) : FitsL [some .u8, some .u8, some .u8, some .u8, some .u8, some .u8] k.cells := ⟨⟨_, rfl, h.1⟩, ⟨_, rfl, h.2.1⟩, ⟨_, rfl, h.2.2.1⟩, ⟨_, rfl, h.2.2.2.1⟩, ⟨_, rfl, h.2.2.2.2.1⟩, ⟨_, rfl, h.2.2.2.2.2⟩, trivial⟩
theorem i4_iff (m k : I4) : decide (m = k) = true ↔ m.cells = k.cells := by
  rw [decide_eq_true_iff]
  constructor
  · intro e; rw [e]
  · intro e; cases m; cases k; simpa [I4.cells] using e
theorem m6_iff (m k : M6) : decide (m = k) = true ↔ m.cells = k.cells := by
  rw [decide_eq_true_iff]
  constructor
  · intro e; rw [e]
  · intro e; cases m; cases k; simpa [M6.cells] using e
theorem eql29 {k k' : I4} (h : k.ok) (h' : k'.ok) (w : World) : (binOp .eql 29 (.agg #[.int .u8 k.a, .int .u8 k.b, .int .u8 k.c, .int .u8 k.d]) (.agg #[.int .u8 k'.a, .int .u8 k'.b, .int .u8 k'.c, .int .u8 k'.d])).run Try.prog w = .ok (.bool (decide (k = k'))) w :=
  run_eql_flat (P := Try.prog) flat29 (by kernel_rfl) (fits29 h) (fits29 h') (by kernel_rfl) (by kernel_rfl) _ (i4_iff k k') w
theorem neq29 {k k' : I4} (h : k.ok) (h' : k'.ok) (w : World) : (binOp .neq 29 (.agg #[.int .u8 k.a, .int .u8 k.b, .int .u8 k.c, .int .u8 k.d]) (.agg #[.int .u8 k'.a, .int .u8 k'.b, .int .u8 k'.c, .int .u8 k'.d])).run Try.prog w = .ok (.bool (!decide (k = k'))) w :=
  run_neq_flat (P := Try.prog) flat29 (by kernel_rfl) (fits29 h) (fits29 h') (by kernel_rfl) (by kernel_rfl) _ (i4_iff k k') w
theorem eql27 {k k' : M6} (h : k.ok) (h' : k'.ok) (w : World) : (binOp .eql 27 (.agg #[.int .u8 k.a, .int .u8 k.b, .int .u8 k.c, .int .u8 k.d, .int .u8 k.e, .int .u8 k.f]) (.agg #[.int .u8 k'.a, .int .u8 k'.b, .int .u8 k'.c, .int .u8 k'.d, .int .u8 k'.e, .int .u8 k'.f])).run Try.prog w = .ok (.bool (decide (k = k'))) w :=
  run_eql_flat (P := Try.prog) flat27 (by kernel_rfl) (fits27 h) (fits27 h') (by kernel_rfl) (by kernel_rfl) _ (m6_iff k k') w
theorem neq27 {k k' : M6} (h : k.ok) (h' : k'.ok) (w : World) : (binOp .neq 27 (.agg #[.int .u8 k.a, .int .u8 k.b, .int .u8 k.c, .int .u8 k.d, .int .u8 k.e, .int .u8 k.f]) (.agg #[.int .u8 k'.a, .int .u8 k'.b, .int .u8 k'.c, .int .u8 k'.d, .int .u8 k'.e, .int .u8 k'.f])).run Try.prog w = .ok (.bool (!decide (k = k'))) w :=
  run_neq_flat (P := Try.prog) flat27 (by kernel_rfl) (fits27 h) (fits27 h') (by kernel_rfl) (by kernel_rfl) _ (m6_iff k k') w
theorem st37 : SlTy Try.prog 37 3 1 8 (.int .i64 0) := ⟨Try.underlying37, by kernel_rfl, rfl, by decide⟩
theorem st90 : SlTy Try.prog 90 93 1 8 (.pointer none) := ⟨Try.underlying90, by kernel_rfl, rfl, by decide⟩
def il (l : List Int) : List Value := l.map (.int .i64 ·)
theorem il_len (l : List Int) : (il l).length = l.length := List.length_map _
theorem il_one (l : List Int) : ∀ u ∈ il l, u.oneCell' = true := by
  intro u hu
  obtain ⟨x, _, rfl⟩ := List.mem_map.1 hu
  rfl
/-- A neighbour. -/
structure Nb where
  ip : I4
  st : Int
  mac : M6
  since : Int
  asked : Int
  tries : Int
  pend : List Int
structure Nb.ok (n : Nb) : Prop where
  ip : n.ip.ok
  st : 1 ≤ n.st ∧ n.st ≤ 3
  mac : n.mac.ok
  since : 0 ≤ n.since ∧ n.since ≤ 4398046511104
  asked : 0 ≤ n.asked ∧ n.asked ≤ 4398046511104
  tries : 0 ≤ n.tries ∧ n.tries ≤ 3
  pend : n.pend.length ≤ 2
/-- Where it lies, and its slice of what waits. -/
structure En where
  p : Nat
  pv : Value
  nb : Nb
def En.cells (e : En) : List Value := [.int .u8 e.nb.ip.a, .int .u8 e.nb.ip.b, .int .u8 e.nb.ip.c, .int .u8 e.nb.ip.d, .int .i64 e.nb.st, .int .u8 e.nb.mac.a, .int .u8 e.nb.mac.b, .int .u8 e.nb.mac.c, .int .u8 e.nb.mac.d, .int .u8 e.nb.mac.e, .int .u8 e.nb.mac.f, .int .i64 e.nb.since, .int .i64 e.nb.asked, .int .i64 e.nb.tries, e.pv]

structure EnAt (N : Nat) (w : World) (e : En) : Prop where
  blk : w.heap[e.p]? = some (.cells e.cells.toArray 46)
  sl : Sl N 3 1 w e.pv e.nb.pend.length (il e.nb.pend)
  hp : N ≤ e.p
  ok : e.nb.ok
def pts (L : List En) : List Value := L.map fun e => ptr e.p
theorem pts_len (L : List En) : (pts L).length = L.length := List.length_map _
theorem pts_one (L : List En) : ∀ u ∈ pts L, u.oneCell' = true := by
  intro u hu
  obtain ⟨x, _, rfl⟩ := List.mem_map.1 hu
  rfl
def cCells (mac : M6) (ip : I4) (lv : Value) : List Value := [.int .u8 mac.a, .int .u8 mac.b, .int .u8 mac.c, .int .u8 mac.d, .int .u8 mac.e, .int .u8 mac.f, .int .u8 ip.a, .int .u8 ip.b, .int .u8 ip.c, .int .u8 ip.d, lv]
/-- The cache lies in block g. -/
structure CAt (N : Nat) (w : World) (g : Nat) (mac : M6) (ip : I4) (L : List En) (lv : Value) : Prop where
  blk : w.heap[g]? = some (.cells (cCells mac ip lv).toArray 92)
  sl : Sl N 93 1 w lv L.length (pts L)
  ent : ∀ e ∈ L, EnAt N w e
  pnd : L.Pairwise fun a b => a.p ≠ b.p
  vnd : L.Pairwise fun a b => ∀ k, a.pv.ownBlock = some k → b.pv.ownBlock ≠ some k
  ipn : L.Pairwise fun a b => a.nb.ip ≠ b.nb.ip
  hg : N ≤ g
  len : L.length ≤ 8
  mok : mac.ok
  iok : ip.ok
/-- The cache's own blocks. -/
def Own (g : Nat) (lv : Value) (L : List En) (i : Nat) : Prop := i = g ∨ lv.ownBlock = some i ∨ ∃ e ∈ L, i = e.p ∨ e.pv.ownBlock = some i
section
variable {N : Nat} {w w' : World} {g : Nat} {mac : M6} {ip : I4} {L : List En} {lv : Value}
theorem EnAt.heap {e : En} (h : EnAt N w e) (h1 : w'.heap[e.p]? = w.heap[e.p]?) (h2 : ∀ k, e.pv.ownBlock = some k → w'.heap[k]? = w.heap[k]?) : EnAt N w' e :=
  ⟨h1.trans h.blk, h.sl.heap h2, h.hp, h.ok⟩
theorem CAt.heap (h : CAt N w g mac ip L lv) (hh : ∀ i, Own g lv L i → w'.heap[i]? = w.heap[i]?) : CAt N w' g mac ip L lv :=
  ⟨(hh g (.inl rfl)).trans h.blk, h.sl.heap (fun k hk => hh k (.inr (.inl hk))),
   fun e he => (h.ent e he).heap (hh _ (.inr (.inr ⟨e, he, .inl rfl⟩))) (fun k hk => hh k (.inr (.inr ⟨e, he, .inr hk⟩))), h.pnd, h.vnd, h.ipn, h.hg, h.len, h.mok, h.iok⟩
theorem CAt.lt (h : CAt N w g mac ip L lv) {i : Nat} (hi : Own g lv L i) : N ≤ i ∧ i < w.heap.size := by
  rcases hi with rfl | hi | ⟨e, he, rfl | hi⟩
  · exact ⟨h.hg, lt_of_block h.blk⟩
  · exact h.sl.lt i hi
  · exact ⟨(h.ent e he).hp, lt_of_block (h.ent e he).blk⟩
  · exact (h.ent e he).sl.lt i hi
theorem CAt.frS {S : Nat → Prop} (h : CAt N w g mac ip L lv) (f : Fr S w w') (hS : ∀ i, Own g lv L i → ¬ S i) : CAt N w' g mac ip L lv :=
  h.heap (fun i hi => f.block i (h.lt hi).2 (hS i hi))
theorem CAt.fr (h : CAt N w g mac ip L lv) (f : Fr (fun _ => False) w w') : CAt N w' g mac ip L lv := h.frS f (fun _ _ e => e)
/-- Blocks of other types are not the cache's. -/
theorem CAt.tag (h : CAt N w g mac ip L lv) {b : Nat} {cs : Array Value} {t : TypeId} (hb : w.heap[b]? = some (.cells cs t)) (h1 : t ≠ 92) (h2 : t ≠ 93) (h3 : t ≠ 46) (h4 : t ≠ 3) : ¬ Own g lv L b := by
  rintro (rfl | hi | ⟨e, he, rfl | hi⟩)
  · rw [h.blk] at hb; cases hb; exact h1 rfl
  · obtain ⟨c, h'⟩ := h.sl.tag hi
    rw [h'] at hb; cases hb; exact h2 rfl
  · rw [(h.ent e he).blk] at hb; cases hb; exact h3 rfl
  · obtain ⟨c, h'⟩ := (h.ent e he).sl.tag hi
    rw [h'] at hb; cases hb; exact h4 rfl
/-- A row of integers that is none of those which wait. -/
theorem CAt.row (h : CAt N w g mac ip L lv) {b : Nat} {cs : Array Value} (hb : w.heap[b]? = some (.cells cs 3)) (hn : ∀ e ∈ L, e.pv.ownBlock ≠ some b) : ¬ Own g lv L b := by
  rintro (rfl | hi | ⟨e, he, rfl | hi⟩)
  · rw [h.blk] at hb; cases hb
  · obtain ⟨c, h'⟩ := h.sl.tag hi
    rw [h'] at hb; cases hb
  · rw [(h.ent e he).blk] at hb; cases hb
  · exact hn e he hi
theorem CAt.cell (h : CAt N w g mac ip L lv) {j : Nat} {v : Value} (hj : (cCells mac ip lv)[j]? = some v) : w.cell? ⟨g, j, none⟩ = some v := cells_at w g _ 92 h.blk j v hj
theorem CAt.ptrAt (h : CAt N w g mac ip L lv) {i : Nat} {e : En} (hi : L[i]? = some e) : (pts L)[i]? = some (ptr e.p) := by
  unfold pts; rw [List.getElem?_map, hi]; rfl
theorem EnAt.cell {e : En} (h : EnAt N w e) {j : Nat} {v : Value} (hj : e.cells[j]? = some v) : w.cell? ⟨e.p, j, none⟩ = some v := cells_at w e.p _ 46 h.blk j v hj
end
end Go.Proofs.Ytfnphkijalkllaa
