/- Rows of bytes of the call's own, append onto them, bytes as an argument, slices.Clone. No condition but lengths. -/
import Derived.WalkKit
import Derived.ProofKit
import Derived.Below
import Derived.RowKit
import Derived.Test.YtmonaaappimphaaChecked
import Derived.Maps.AppendAt
import Derived.OwnWalk
import Derived.Laws.BytesArg
import Derived.Laws.BitsLemmas
import Derived.Laws.OwnMore
import Derived.Deep.AppendSrc
import Derived.Deep.Onto
import Derived.Deep.Slices
import Derived.Lib.SliceRun
import Derived.Lib.Hide
import Derived.Shelf.RegionOpenPlain
import Derived.Deep.CutBlock
import Derived.Deep.DeepCutAuto
import Derived.Deep.RegionHeldLaw
import Derived.Deep.DeepMust
import Derived.BigQuiet
import Derived.LoopN
namespace Go.Proofs.Ytmonaaappimphaa
set_option linter.unusedVariables false
open Go.RowKit

/-- Of what was there in w nothing but the blocks S has turned. -/
structure Fr (S : Nat → Prop) (w w' : World) : Prop where
  os : w'.os = w.os
  tape : w'.tape = w.tape
  output : w'.output = w.output
  size : w.heap.size ≤ w'.heap.size
  block : ∀ i, i < w.heap.size → ¬ S i → w'.heap[i]? = w.heap[i]?

namespace Fr
variable {S S' : Nat → Prop} {a b c w w' : World}
theorem refl (S : Nat → Prop) (w : World) : Fr S w w := ⟨rfl, rfl, rfl, Nat.le_refl _, fun _ _ _ => rfl⟩
theorem trans (h : Fr S a b) (h' : Fr S' b c) (hs : ∀ i, i < a.heap.size → S' i → S i) : Fr S a c :=
  ⟨h'.os.trans h.os, h'.tape.trans h.tape, h'.output.trans h.output, Nat.le_trans h.size h'.size, fun i hi hn => (h'.block i (Nat.lt_of_lt_of_le hi h.size) (fun e => hn (hs i hi e))).trans (h.block i hi hn)⟩
theorem mono (h : Fr S a b) (hs : ∀ i, i < a.heap.size → S i → S' i) : Fr S' a b := ⟨h.os, h.tape, h.output, h.size, fun i hi hn => h.block i hi (fun e => hn (hs i hi e))⟩
theorem alloc (h : Fr S a b) (o : Obj) : Fr S a (b.alloc o) := h.trans (S' := fun _ => False) ⟨rfl, rfl, rfl, by simp, fun i hi _ => Below.heap_alloc _ _ _ hi⟩ (fun _ _ e => e.elim)
theorem drewN (h : Fr S a b) (n : Nat) : Fr S a (b.drewN n) := ⟨h.os, h.tape, h.output, h.size, h.block⟩
theorem drew (h : Fr S a b) : Fr S a b.drew := ⟨h.os, h.tape, h.output, h.size, h.block⟩
theorem setCell (h : Fr S a b) (p : Addr) (u : Value) (hp : p.block < a.heap.size → S p.block) : Fr S a (b.setCell p u) :=
  h.trans (S' := fun i => i = p.block) ⟨rfl, rfl, rfl, by simp [World.setCell], fun i _ hn => Below.heap_setCell _ _ _ _ hn⟩ (fun i hi e => by subst e; exact hp hi)
theorem grown (h : Fr S a b) {row : Option Nat} (hg : b.grownBy c row) (hr : ∀ r, row = some r → r < a.heap.size → S r) : Fr S a c :=
  h.trans (S' := fun i => some i = row) ⟨hg.os, hg.tape, hg.output, hg.size, fun i hi hn => hg.block i hi hn⟩ (fun i hi e => hr i e.symm hi)
theorem below (h : Fr (fun _ => False) w w') : Below w.heap.size w w' := ⟨h.os, h.tape, h.output, h.size, fun i hi => h.block i hi (fun e => e)⟩
end Fr

def isB (l : List Int) : Prop := ∀ x ∈ l, 0 ≤ x ∧ x ≤ 255
theorem isB.app {a b : List Int} (h : isB a) (k : isB b) : isB (a ++ b) := fun x hx => (List.mem_append.1 hx).elim (h x) (k x)
theorem isB.left {a b : List Int} (h : isB (a ++ b)) : isB a := fun x hx => h x (List.mem_append.2 (.inl hx))
theorem isB.right {a b : List Int} (h : isB (a ++ b)) : isB b := fun x hx => h x (List.mem_append.2 (.inr hx))

theorem wraps_i64 (n : Int) (h₀ : 0 ≤ n) (h₁ : n < 2 ^ 63) : IntKind.i64.wrap n = n := by
  simp only [IntKind.wrap, IntKind.bits, IntKind.signed]; simp; omega
theorem and_ffff {x : Int} (h₀ : 0 ≤ x) (h₁ : x < 9223372036854775808) : bits .and .i64 x 65535 = x % 65536 := bits_mask .i64 63 (by decide) wraps_i64 16 (by decide) x h₀ (by simpa using h₁)
/-- The bytes l stand behind the address, in a block below n₀. -/
def BytesIn (n₀ : Nat) (W : World) (A : Option Addr) (l : List Int) : Prop :=
  0 < l.length → ∃ b off, A = some ⟨b, off, none⟩ ∧ b < n₀ ∧ ∀ j x, l[j]? = some x → W.cell? ⟨b, off + j, none⟩ = some (.int .u8 x)
theorem BytesIn.below {n₀ : Nat} {W W' : World} {A : Option Addr} {l : List Int} (h : BytesIn n₀ W A l) (k : Below n₀ W W') : BytesIn n₀ W' A l := fun hl => by
  obtain ⟨b, off, e, hb, hc⟩ := h hl
  exact ⟨b, off, e, hb, fun j x hj => (k.cell (p := ⟨b, off + j, none⟩) hb).trans (hc j x hj)⟩
theorem info5 : (Try.prog.info? 5).map (fun i => (i.zero, i.size, i.bytes)) = some (some (.int .u8 0), 1, 1) := by kernel_rfl
/-- The value owns a row of the bytes l, in a block at or beyond base. -/
def OwnB (base : Nat) (w : World) (v : Value) (l : List Int) : Prop := w.ownsRow base 5 1 v l.length (l.map (Value.int .u8))
theorem OwnB.view {base : Nat} {w : World} {v : Value} {l : List Int} (h : OwnB base w v l) :
    ∃ A cap, v = .slice A l.length cap ∧ BytesIn w.heap.size w A l := by
  rcases h.2 with ⟨rfl, h0⟩ | ⟨g, cap, cur, rfl, hb, hg, h1, h2, h3, h4⟩
  · exact ⟨none, 0, by rw [h0], fun hl => by omega⟩
  · refine ⟨some ⟨g, 0, none⟩, cap, rfl, fun _ => ⟨g, 0, rfl, lt_of_block hg, fun j x hj => ?_⟩⟩
    rw [World.ownsRow.cellAt h (0 + j) (by have := (List.getElem?_eq_some_iff.1 hj).1; omega)]
    simp [hj]
theorem OwnB.fr {S : Nat → Prop} {base : Nat} {w w' : World} {v : Value} {l : List Int} (h : OwnB base w v l) (f : Fr S w w') (hS : ∀ k, v.ownBlock = some k → ¬ S k) : OwnB base w' v l := by
  refine ⟨h.1, ?_⟩
  rcases h.2 with h0 | ⟨g, cap, cur, rfl, hb, hg, h1⟩
  · exact .inl h0
  · exact .inr ⟨g, cap, cur, rfl, hb, (f.block g (lt_of_block hg) (hS g rfl)).trans hg, h1⟩
theorem OwnB.fr0 {base : Nat} {w w' : World} {v : Value} {l : List Int} (h : OwnB base w v l) (f : Fr (fun _ => False) w w') : OwnB base w' v l := h.fr f (fun _ _ e => e)
theorem OwnB.nil (base : Nat) (w : World) : OwnB base w (.slice none 0 0) [] := World.ownsRow_nil _ _ _ _
theorem fr_of_grown {w w' : World} {row : Option Nat} (h : w.grownBy w' row) : Fr (fun i => row = some i) w w' := ⟨h.os, h.tape, h.output, h.size, fun i hi hn => h.block i hi (fun e => hn e.symm)⟩
theorem BytesIn.fr {S : Nat → Prop} {n₀ : Nat} {w w' : World} {A : Option Addr} {l : List Int} (h : BytesIn n₀ w A l) (f : Fr S w w') (hn : n₀ ≤ w.heap.size) (hS : ∀ b, b < n₀ → ¬ S b) : BytesIn n₀ w' A l := fun hl => by
  obtain ⟨b, off, e, hb, hc⟩ := h hl
  exact ⟨b, off, e, hb, fun j x hj => (World.cell?_of_block (f.block b (by omega) (hS b hb))).trans (hc j x hj)⟩
theorem BytesIn.none {n₀ : Nat} {w : World} {l : List Int} (h : BytesIn n₀ w none l) : l = [] := by
  rcases l with _ | ⟨x, l⟩
  · rfl
  · obtain ⟨b, off, e, _⟩ := h (by simp); cases e

theorem u8_one (l : List Int) : ∀ u ∈ l.map (Value.int .u8), u.oneCell' = true := by
  intro u hu
  obtain ⟨x, _, rfl⟩ := List.mem_map.1 hu
  rfl

theorem run_app {base n₀ : Nat} {w : World} {v : Value} {l k : List Int} {A : Option Addr} (c : Nat) (ty : TypeId) (hown : OwnB base w v l) (hb : BytesIn n₀ w A k) (hlen : l.length + k.length ≤ 140737488355328) (hbase : base ≤ w.heap.size) :
    ∃ v' w', (Builtin.append_ #[26, 26] ty #[v, .slice A k.length c]).run Try.prog w = .ok v' w' ∧ OwnB base w' v' (l ++ k) ∧ w.grownBy w' v.ownBlock ∧ (v' = .slice none 0 0 ↔ v = .slice none 0 0 ∧ k = []) ∧ (v'.ownBlock = v.ownBlock ∨ v'.ownBlock = some w.heap.size) := by
  obtain ⟨i0, hi, hz0, hz1, hz2⟩ := info_parts info5
  cases A with
  | none =>
    obtain rfl := hb.none
    refine ⟨v, w, ?_, by simpa using hown, World.grownBy.refl _ _, by simp, .inl rfl⟩
    rcases hown.2 with ⟨rfl, h0⟩ | ⟨g, cap', cur, rfl, hb, hg, h1, h2, h3, h4⟩
    · simp [Builtin.append_, run_underlying Try.underlying26, sizeOf, typeInfo, hi, Builtin.lenOf, run_firstCells_none w i0.size 0 0 c]
    · have := run_append_room_src (P := Try.prog) w 26 26 ty 5 i0 Try.underlying26 hi g 0 l.length cap' (.slice none 0 c) 0 [] (Src.ofNil w Try.underlying26 c) (by simpa using h1) (by simp) (by simp)
      simpa [World.setCells] using this
  | some a =>
    obtain ⟨v', w', hr, h2, h3, h4, h5⟩ := run_append_own_at (P := Try.prog) w base 26 ty 5 i0 _ 1 1 Try.underlying26 hi hz0 hz1 hz2 rfl (by decide) v l.length _ hown a k.length c (k.map (Value.int .u8)) (by simp) (by
      intro j u hj
      rw [List.getElem?_map, Option.map_eq_some_iff] at hj
      obtain ⟨x, hx, rfl⟩ := hj
      obtain ⟨b, off, e, hb, hc⟩ := hb (by have := (List.getElem?_eq_some_iff.1 hx).1; omega)
      cases e
      rw [Addr.add_lit]
      exact hc j x hx) (u8_one k) (by simp only [maxLen]; omega) (by omega) hbase
    refine ⟨v', w', hr, by simpa [OwnB] using h2, h3, ?_, h5⟩
    rw [h4]; simp

theorem wpList_app {ops : Array Oper} {rest : List Oper} {o : Oper} {a : Act} {Q : Exit → Act → World → Prop} (w : World) (hgd : o.guard = none) (s x : Operand)
    (ho : o.op = .call { callee := .builtin .append, args := #[s, x], argTypes := #[26, 26] })
    (base : Nat) (v : Value) (l : List Int) (hs : a.eval s = v) (hown : OwnB base w v l) (n₀ : Nat) (A : Option Addr) (c : Nat) (k : List Int) (hx : a.eval x = .slice A k.length c) (hb : BytesIn n₀ w A k) (hlen : l.length + k.length ≤ 140737488355328) (hbase : base ≤ w.heap.size)
    (h : ∀ v' w', OwnB base w' v' (l ++ k) → w.grownBy w' v.ownBlock → (v' = .slice none 0 0 ↔ v = .slice none 0 0 ∧ k = []) → (v'.ownBlock = v.ownBlock ∨ v'.ownBlock = some w.heap.size) → wpList Try.prog ops Q rest (a.put o.dst v') w') : wpList Try.prog ops Q (o :: rest) a w :=
  wpList_plain hgd fun _ hK => by
    obtain ⟨v', w', hr, h2, h3, h4, h5⟩ := run_app c o.type hown hb hlen hbase
    unfold Oper.wp execOp
    simp only [ho, resolve, invoke, builtin, Sem.run_bind, Sem.run_pure, Result.andThen_ok, List.map_toArray, List.map_cons, List.map_nil, hs, hx, hr]
    exact hK _ _ (h v' w' h2 h3 h4 h5)

set_option maxHeartbeats 2000000 in
set_option maxRecDepth 100000 in
theorem clone36 (A : Option Addr) (cap n₀ : Nat) (l : List Int) (w : World) (hb : BytesIn n₀ w A l) (hlen : l.length ≤ 140737488355328) (hn₀ : n₀ ≤ w.heap.size) :
    Calls Try.prog 36 #[.slice A l.length cap] w fun e w' => ∃ v', e = .returned v' ∧ OwnB w.heap.size w' v' l ∧ Fr (fun _ => False) w w' := by
  have q26 : ∀ (w : World) (a : Option Addr) (n c n' c' : Nat), (binOp .eql 26 (.slice a n c) (.slice none n' c')).run Try.prog w = .ok (.bool a.isNone) w := fun w a n c n' c' => Lib.run_eql_slice_nil w _ _ a n c n' c' Try.underlying26
  obtain ⟨n, hn⟩ : ∃ n, l.length = n := ⟨_, rfl⟩
  cases A with
  | none =>
    obtain rfl := hb.none
    go_enter Try.func36, Try.ntmps36
    go_wp2_with fail
    go_ret
    exact ⟨_, rfl, OwnB.nil _ _, Fr.refl _ _⟩
  | some a =>
    rw [hn]
    go_enter Try.func36, Try.ntmps36
    go_wp2_with (at_builtin; refine wpList_app _ rfl _ _ rfl w.heap.size _ [] rfl (by exact World.ownsRow_made w #[] 0 (Nat.le_refl _) (Nat.zero_le _) (by simp)) n₀ (some a) cap l (by rw [hn]; exact rfl) (by exact hb.fr ((Fr.refl (fun _ => False) w).alloc _) hn₀ (fun _ _ e => e)) (by simpa using hlen) (by simp) ?_)
    intro v' w1 hown hgrow hnil hat
    go_wp2_with fail
    go_ret
    refine ⟨v', rfl, by simpa using hown, ?_⟩
    exact ((Fr.refl (fun _ => False) w).alloc _).trans (fr_of_grown hgrow) (by intro i hi e; simp [Value.ownBlock] at e; omega)
theorem bytes_lit (w : World) (l : List Int) : BytesIn (w.heap.size + 1) (w.alloc (.cells (l.map (Value.int .u8)).toArray 5)) (some ⟨w.heap.size, 0, none⟩) l := fun hl =>
  ⟨w.heap.size, 0, rfl, by omega, fun j x hj => by
    rw [cell_of_row _ w.heap.size (0 + j) _ 5 (0, 0) (heap_alloc_new w _)]
    simp [hj]⟩

theorem str_bytes {n₀ : Nat} {w : World} {A : Option Addr} {l : List Int} (c : Nat) (h : BytesIn n₀ w A l) : (convert 26 9 (.slice A l.length c)).run Try.prog w = .ok (.string (strOfNums l)) w := by
  cases A with
  | none =>
    obtain rfl := h.none
    exact run_convert_bytes_nil w 26 5 Try.underlying26 Try.underlying5 0 c 9 Try.underlying9
  | some a =>
    by_cases hl : 0 < l.length
    · obtain ⟨b, off, e, hb, hc⟩ := h hl
      cases e
      refine run_convert_bytes_arg w 26 5 Try.underlying26 Try.underlying5 b off l.length c l rfl (fun i hi => ?_) 9 Try.underlying9
      rw [hc i l[i] (List.getElem?_eq_getElem hi)]
      simp [hi]
    · obtain rfl : l = [] := List.length_eq_zero_iff.1 (by omega)
      rw [run_convert_bytes_string w 26 9 5 _ _ c Try.underlying26 Try.underlying5 Try.underlying9, show ([] : List Int).length = 0 from rfl, run_bytesToString w a 0 c [] (by rw [loadCells]; unfold loadCellsFrom; rfl)]
      rfl
/-- A slice of bytes as it came. -/
structure BArg (w : World) (A : Option Addr) (cap : Nat) (l : List Int) : Prop where
  ok : isB l
  here : BytesIn w.heap.size w A l
  le : l.length ≤ cap
  top : cap ≤ 140737488351232
theorem BArg.fr {w w' : World} {A : Option Addr} {cap : Nat} {l : List Int} (h : BArg w A cap l) (f : Fr (fun _ => False) w w') : BArg w' A cap l :=
  ⟨h.ok, fun hl => by
    obtain ⟨b, off, e, hb, hc⟩ := h.here.fr f (Nat.le_refl _) (fun _ _ e => e) hl
    exact ⟨b, off, e, by have := f.size; omega, hc⟩, h.le, h.top⟩
theorem BytesIn.left {n₀ : Nat} {w : World} {A : Option Addr} {l r : List Int} (h : BytesIn n₀ w A (l ++ r)) : BytesIn n₀ w A l := fun hl => by
  obtain ⟨b, off, e, hb, hc⟩ := h (by simp; omega)
  exact ⟨b, off, e, hb, fun j x hj => hc j x (by rw [List.getElem?_append_left (List.getElem?_eq_some_iff.1 hj).1]; exact hj)⟩
theorem BytesIn.take {n₀ : Nat} {w : World} {A : Option Addr} {l : List Int} (h : BytesIn n₀ w A l) (m : Nat) : BytesIn n₀ w A (l.take m) := by
  have e : l.take m ++ l.drop m = l := List.take_append_drop _ _
  rw [← e] at h
  exact h.left
theorem BytesIn.drop {n₀ : Nat} {w : World} {b off : Nat} {l : List Int} (h : BytesIn n₀ w (some ⟨b, off, Option.none⟩) l) (m : Nat) : BytesIn n₀ w (some ⟨b, off + m, Option.none⟩) (l.drop m) := fun hl => by
  obtain ⟨b', off', e, hb, hc⟩ := h (by rw [List.length_drop] at hl; omega)
  cases e
  refine ⟨b, off + m, rfl, hb, fun j x hj => ?_⟩
  rw [List.getElem?_drop] at hj
  rw [Nat.add_assoc]; exact hc _ _ hj

theorem BytesIn.up {n₀ n₁ : Nat} {w : World} {A : Option Addr} {l : List Int} (h : BytesIn n₀ w A l) (hn : n₀ ≤ n₁) : BytesIn n₁ w A l := fun hl => by
  obtain ⟨b, off, e, hb, hc⟩ := h hl
  exact ⟨b, off, e, by omega, hc⟩
theorem Fr.fromNil {w w' : World} (h : Fr (fun i => (Value.slice none 0 0).ownBlock = some i) w w') : Fr (fun _ => False) w w' := ⟨h.os, h.tape, h.output, h.size, fun i hi _ => h.block i hi (fun e => by cases e)⟩

theorem BytesIn.dropAll {n₀ : Nat} {w : World} {A : Option Addr} {l : List Int} {m : Nat} (h : l.length ≤ m) : BytesIn n₀ w A (l.drop m) := fun hl => by rw [List.length_drop] at hl; omega
theorem BytesIn.dropO {n₀ : Nat} {w : World} {A : Option Addr} {l : List Int} (h : BytesIn n₀ w A l) (m : Nat) : BytesIn n₀ w (A.map fun x => x.add m) (l.drop m) := fun hl => by
  obtain ⟨b, off, e, hb, hc⟩ := h (by rw [List.length_drop] at hl; omega)
  subst e
  refine ⟨b, off + m, by rw [Option.map_some, Addr.add_lit], hb, fun j x hj => ?_⟩
  rw [List.getElem?_drop] at hj
  rw [Nat.add_assoc]; exact hc _ _ hj

theorem OwnB.viewN {base : Nat} {w : World} {v : Value} {l : List Int} {n : Nat} (h : OwnB base w v l) (hn : l.length = n) :
    ∃ A cap, v = .slice A n cap ∧ BytesIn w.heap.size w A l := by subst hn; exact h.view
theorem wpList_appN {ops : Array Oper} {rest : List Oper} {o : Oper} {a : Act} {Q : Exit → Act → World → Prop} (w : World) (hgd : o.guard = none) (s x : Operand)
    (ho : o.op = .call { callee := .builtin .append, args := #[s, x], argTypes := #[26, 26] })
    (base : Nat) (v : Value) (l : List Int) (hs : a.eval s = v) (hown : OwnB base w v l) (n₀ : Nat) (A : Option Addr) (n c : Nat) (k : List Int) (hn : k.length = n) (hx : a.eval x = .slice A n c) (hb : BytesIn n₀ w A k) (hlen : l.length + n ≤ 140737488355328) (hbase : base ≤ w.heap.size)
    (h : ∀ v' w', OwnB base w' v' (l ++ k) → Fr (fun i => v.ownBlock = some i) w w' → wpList Try.prog ops Q rest (a.put o.dst v') w') : wpList Try.prog ops Q (o :: rest) a w := by
  subst hn
  exact wpList_app w hgd s x ho base v l hs hown n₀ A c k hx hb hlen hbase (fun v' w' h1 h2 _ _ => h v' w' h1 (fr_of_grown h2))
/-- A turn of a row of one's own leaves what was. -/
theorem OwnB.turn {base : Nat} {w0 w w' : World} {v : Value} {l : List Int} (h : OwnB base w v l) (f0 : Fr (fun _ => False) w0 w) (hbase : w0.heap.size ≤ base) (f : Fr (fun i => v.ownBlock = some i) w w') : Fr (fun _ => False) w0 w' :=
  f0.trans f (fun i hi e => by have := (World.ownsRow.lt h i e).1; omega)
theorem OwnB.base {base base' : Nat} {w : World} {v : Value} {l : List Int} (h : OwnB base w v l) (hb : base' ≤ base) : OwnB base' w v l := World.ownsRow.mono h hb

theorem OwnB.form {base : Nat} {w : World} {v : Value} {l : List Int} {n : Nat} (h : OwnB base w v l) (hn : l.length = n) (h0 : 0 < n) : ∃ g c, v = .slice (some ⟨g, 0, none⟩) n c ∧ base ≤ g ∧ g < w.heap.size := by
  subst hn
  rcases h.2 with ⟨_, e⟩ | ⟨g, cap, cur, hv, hb, hg, _⟩
  · omega
  · exact ⟨g, cap, hv, hb, lt_of_block hg⟩
theorem OwnB.cell {base : Nat} {w : World} {g n c : Nat} {l : List Int} (h : OwnB base w (.slice (some ⟨g, 0, none⟩) n c) l) {j : Nat} {x : Int} (hj : l[j]? = some x) : w.cell? ⟨g, j, none⟩ = some (.int .u8 x) ∧ w.frozen? ⟨g, j, none⟩ = false := by
  have hn : n = l.length := by
    rcases h.2 with ⟨e, _⟩ | ⟨g', cap, cur, hv, _⟩
    · cases e
    · injection hv
  subst hn
  exact ⟨by rw [World.ownsRow.cellAt h j (by have := (List.getElem?_eq_some_iff.1 hj).1; omega)]; simp [hj], World.ownsRow.frozenAt h j⟩
theorem OwnB.set {base : Nat} {w : World} {g n c : Nat} {l : List Int} (h : OwnB base w (.slice (some ⟨g, 0, none⟩) n c) l) (j : Nat) (y : Int) :
    OwnB base (w.setCell ⟨g, j, none⟩ (.int .u8 y)) (.slice (some ⟨g, 0, none⟩) n c) (l.set j y) ∧ Fr (fun i => i = g) w (w.setCell ⟨g, j, none⟩ (.int .u8 y)) := by
  have hn : n = l.length := by
    rcases h.2 with ⟨e, _⟩ | ⟨g', cap, cur, hv, _⟩
    · cases e
    · injection hv
  subst hn
  obtain ⟨h1, h2⟩ := World.ownsRow.stored h j (.int .u8 y)
  refine ⟨?_, h2.os, h2.tape, h2.output, h2.size, fun i hi hS => h2.block i hi (fun e => hS (by simpa using e))⟩
  unfold OwnB
  rw [List.length_set, List.map_set]
  exact h1
/-- A part: n bytes l behind the address. -/
structure Pc (w : World) (A : Option Addr) (n : Nat) (l : List Int) : Prop where
  len : l.length = n
  ok : isB l
  top : n ≤ 140737488355328
  here : BytesIn w.heap.size w A l
theorem Pc.fr {w w' : World} {A : Option Addr} {n : Nat} {l : List Int} (h : Pc w A n l) (f : Fr (fun _ => False) w w') : Pc w' A n l :=
  ⟨h.len, h.ok, h.top, (h.here.fr f (Nat.le_refl _) (fun _ _ e => e)).up f.size⟩
/-- A row of one's own: its capacity holds it, and is no more than memory bears. -/
theorem OwnB.cap {base : Nat} {w : World} {v : Value} {l : List Int} {n : Nat} (h : OwnB base w v l) (hn : l.length = n) : ∃ A c, v = .slice A n c ∧ BytesIn w.heap.size w A l ∧ n ≤ c ∧ c ≤ maxLen := by
  subst hn
  rcases h.2 with ⟨rfl, h0⟩ | ⟨g, cap, cur, rfl, hb, hg, h1, h2, h3, h4⟩
  · exact ⟨none, 0, by rw [h0], fun hl => by omega, by omega, by simp⟩
  · obtain ⟨A, c, e, hb'⟩ := h.view
    cases e
    exact ⟨_, _, rfl, hb', h1, h2⟩

theorem OwnB.part {base : Nat} {w : World} {v : Value} {l : List Int} {n : Nat} (h : OwnB base w v l) (hn : l.length = n) (hB : isB l) (ht : n ≤ 140737488355328) : ∃ A c, v = .slice A n c ∧ Pc w A n l := by
  obtain ⟨A, c, e, hb⟩ := h.viewN hn
  exact ⟨A, c, e, hn, hB, ht, hb⟩

end Go.Proofs.Ytmonaaappimphaa
