/- Rows of bytes of the call's own, append onto them, slices.Clone, Put16 and Put32. No condition but lengths. -/
import Derived.Maps.AppendAt
import Derived.OwnWalk
import Derived.Laws.BytesArg
import Derived.Laws.OwnMore
import Derived.Deep.AppendSrc
import Derived.Deep.Onto
import Derived.Lib.SliceRun
import Derived.Shelf.RegionOpenPlain
import Derived.Test.YtfnphkijalkllaaProg
import Derived.Test.YtfnphkijalkllaaChecked
import Derived.Test.YtfnphkijalkllaaWdA
namespace Go.Proofs.Ytfnphkijalkllaa
set_option linter.unusedVariables false
open Go.RowKit

/-- The bytes l stand behind the address, in a block below n₀. -/
def BytesIn (n₀ : Nat) (W : World) (A : Option Addr) (l : List Int) : Prop :=
  0 < l.length → ∃ b off, A = some ⟨b, off, none⟩ ∧ b < n₀ ∧ ∀ j x, l[j]? = some x → W.cell? ⟨b, off + j, none⟩ = some (.int .u8 x)
theorem BytesIn.below {n₀ : Nat} {W W' : World} {A : Option Addr} {l : List Int} (h : BytesIn n₀ W A l) (k : Below n₀ W W') : BytesIn n₀ W' A l := fun hl => by
  obtain ⟨b, off, e, hb, hc⟩ := h hl
  exact ⟨b, off, e, hb, fun j x hj => (k.cell (p := ⟨b, off + j, none⟩) hb).trans (hc j x hj)⟩
theorem info5 : (Try.prog.info? 5).map (fun i => (i.zero, i.size, i.bytes)) = some (some (.int .u8 0), 1, 1) := by kernel_rfl
/-- The value owns a row of the bytes l, in a block at or beyond base. -/
def OwnB (base : Nat) (w : World) (v : Value) (l : List Int) : Prop := w.ownsRow base 5 1 v l.length (l.map (Value.int .u8))
theorem OwnB.view {base : Nat} {w : World} {v : Value} {l : List Int} (h : OwnB base w v l) :
    ∃ A cap, v = .slice A l.length cap ∧ BytesIn w.heap.size w A l := by
  rcases h.2 with ⟨rfl, h0⟩ | ⟨g, cap, cur, rfl, hb, hg, h1, h2, h3, h4⟩
  · exact ⟨none, 0, by rw [h0], fun hl => by omega⟩
  · refine ⟨some ⟨g, 0, none⟩, cap, rfl, fun _ => ⟨g, 0, rfl, lt_of_block hg, fun j x hj => ?_⟩⟩
    rw [World.ownsRow.cellAt h (0 + j) (by have := (List.getElem?_eq_some_iff.1 hj).1; omega)]
    simp [hj]
theorem OwnB.fr {S : Nat → Prop} {base : Nat} {w w' : World} {v : Value} {l : List Int} (h : OwnB base w v l) (f : Fr S w w') (hS : ∀ k, v.ownBlock = some k → ¬ S k) : OwnB base w' v l := by
  refine ⟨h.1, ?_⟩
  rcases h.2 with h0 | ⟨g, cap, cur, rfl, hb, hg, h1⟩
  · exact .inl h0
  · exact .inr ⟨g, cap, cur, rfl, hb, (f.block g (lt_of_block hg) (hS g rfl)).trans hg, h1⟩
theorem OwnB.fr0 {base : Nat} {w w' : World} {v : Value} {l : List Int} (h : OwnB base w v l) (f : Fr (fun _ => False) w w') : OwnB base w' v l := h.fr f (fun _ _ e => e)
theorem OwnB.nil (base : Nat) (w : World) : OwnB base w (.slice none 0 0) [] := World.ownsRow_nil _ _ _ _
theorem fr_of_grown {w w' : World} {row : Option Nat} (h : w.grownBy w' row) : Fr (fun i => row = some i) w w' := ⟨h.os, h.tape, h.output, h.size, fun i hi hn => h.block i hi (fun e => hn e.symm)⟩
theorem BytesIn.fr {S : Nat → Prop} {n₀ : Nat} {w w' : World} {A : Option Addr} {l : List Int} (h : BytesIn n₀ w A l) (f : Fr S w w') (hn : n₀ ≤ w.heap.size) (hS : ∀ b, b < n₀ → ¬ S b) : BytesIn n₀ w' A l := fun hl => by
  obtain ⟨b, off, e, hb, hc⟩ := h hl
  exact ⟨b, off, e, hb, fun j x hj => (World.cell?_of_block (f.block b (by omega) (hS b hb))).trans (hc j x hj)⟩
theorem BytesIn.none {n₀ : Nat} {w : World} {l : List Int} (h : BytesIn n₀ w none l) : l = [] := by
  rcases l with _ | ⟨x, l⟩
  · rfl
  · obtain ⟨b, off, e, _⟩ := h (by simp); cases e

theorem u8_one (l : List Int) : ∀ u ∈ l.map (Value.int .u8), u.oneCell' = true := by
  intro u hu
  obtain ⟨x, _, rfl⟩ := List.mem_map.1 hu
  rfl

theorem run_app {base n₀ : Nat} {w : World} {v : Value} {l k : List Int} {A : Option Addr} (c : Nat) (ty : TypeId) (hown : OwnB base w v l) (hb : BytesIn n₀ w A k) (hlen : l.length + k.length ≤ 140737488355328) (hbase : base ≤ w.heap.size) :
    ∃ v' w', (Builtin.append_ #[55, 55] ty #[v, .slice A k.length c]).run Try.prog w = .ok v' w' ∧ OwnB base w' v' (l ++ k) ∧ w.grownBy w' v.ownBlock ∧ (v' = .slice none 0 0 ↔ v = .slice none 0 0 ∧ k = []) ∧ (v'.ownBlock = v.ownBlock ∨ v'.ownBlock = some w.heap.size) := by
  obtain ⟨i0, hi, hz0, hz1, hz2⟩ := info_parts info5
  cases A with
  | none =>
    obtain rfl := hb.none
    refine ⟨v, w, ?_, by simpa using hown, World.grownBy.refl _ _, by simp, .inl rfl⟩
    rcases hown.2 with ⟨rfl, h0⟩ | ⟨g, cap', cur, rfl, hb, hg, h1, h2, h3, h4⟩
    · simp [Builtin.append_, run_underlying Try.underlying55, sizeOf, typeInfo, hi, Builtin.lenOf, run_firstCells_none w i0.size 0 0 c]
    · have := run_append_room_src (P := Try.prog) w 55 55 ty 5 i0 Try.underlying55 hi g 0 l.length cap' (.slice none 0 c) 0 [] (Src.ofNil w Try.underlying55 c) (by simpa using h1) (by simp) (by simp)
      simpa [World.setCells] using this
  | some a =>
    obtain ⟨v', w', hr, h2, h3, h4, h5⟩ := run_append_own_at (P := Try.prog) w base 55 ty 5 i0 _ 1 1 Try.underlying55 hi hz0 hz1 hz2 rfl (by decide) v l.length _ hown a k.length c (k.map (Value.int .u8)) (by simp) (by
      intro j u hj
      rw [List.getElem?_map, Option.map_eq_some_iff] at hj
      obtain ⟨x, hx, rfl⟩ := hj
      obtain ⟨b, off, e, hb, hc⟩ := hb (by have := (List.getElem?_eq_some_iff.1 hx).1; omega)
      cases e
      rw [Addr.add_lit]
      exact hc j x hx) (u8_one k) (by simp only [maxLen]; omega) (by omega) hbase
    refine ⟨v', w', hr, by simpa [OwnB] using h2, h3, ?_, h5⟩
    rw [h4]; simp

theorem wpList_app {ops : Array Oper} {rest : List Oper} {o : Oper} {a : Act} {Q : Exit → Act → World → Prop} (w : World) (hgd : o.guard = none) (s x : Operand)
    (ho : o.op = .call { callee := .builtin .append, args := #[s, x], argTypes := #[55, 55] })
    (base : Nat) (v : Value) (l : List Int) (hs : a.eval s = v) (hown : OwnB base w v l) (n₀ : Nat) (A : Option Addr) (c : Nat) (k : List Int) (hx : a.eval x = .slice A k.length c) (hb : BytesIn n₀ w A k) (hlen : l.length + k.length ≤ 140737488355328) (hbase : base ≤ w.heap.size)
    (h : ∀ v' w', OwnB base w' v' (l ++ k) → w.grownBy w' v.ownBlock → (v' = .slice none 0 0 ↔ v = .slice none 0 0 ∧ k = []) → (v'.ownBlock = v.ownBlock ∨ v'.ownBlock = some w.heap.size) → wpList Try.prog ops Q rest (a.put o.dst v') w') : wpList Try.prog ops Q (o :: rest) a w :=
  wpList_plain hgd fun _ hK => by
    obtain ⟨v', w', hr, h2, h3, h4, h5⟩ := run_app c o.type hown hb hlen hbase
    unfold Oper.wp execOp
    simp only [ho, resolve, invoke, builtin, Sem.run_bind, Sem.run_pure, Result.andThen_ok, List.map_toArray, List.map_cons, List.map_nil, hs, hx, hr]
    exact hK _ _ (h v' w' h2 h3 h4 h5)

set_option maxHeartbeats 2000000 in
set_option maxRecDepth 100000 in
theorem clone44 (A : Option Addr) (cap n₀ : Nat) (l : List Int) (w : World) (hb : BytesIn n₀ w A l) (hlen : l.length ≤ 140737488355328) (hn₀ : n₀ ≤ w.heap.size) :
    Calls Try.prog 48 #[.slice A l.length cap] w fun e w' => ∃ v', e = .returned v' ∧ OwnB w.heap.size w' v' l ∧ Fr (fun _ => False) w w' := by
  have q49 : ∀ (w : World) (a : Option Addr) (n c n' c' : Nat), (binOp .eql 55 (.slice a n c) (.slice none n' c')).run Try.prog w = .ok (.bool a.isNone) w := fun w a n c n' c' => Lib.run_eql_slice_nil w _ _ a n c n' c' Try.underlying55
  obtain ⟨n, hn⟩ : ∃ n, l.length = n := ⟨_, rfl⟩
  cases A with
  | none =>
    obtain rfl := hb.none
    go_enter Try.func48, Try.ntmps48
    go_wp2_with fail
    go_ret
    exact ⟨_, rfl, OwnB.nil _ _, Fr.refl _ _⟩
  | some a =>
    rw [hn]
    go_enter Try.func48, Try.ntmps48
    go_wp2_with (at_builtin; refine wpList_app _ rfl _ _ rfl w.heap.size _ [] rfl (by exact World.ownsRow_made w #[] 0 (Nat.le_refl _) (Nat.zero_le _) (by simp)) n₀ (some a) cap l (by rw [hn]; exact rfl) (by exact hb.fr ((Fr.refl (fun _ => False) w).alloc _) hn₀ (fun _ _ e => e)) (by simpa using hlen) (by simp) ?_)
    intro v' w1 hown hgrow hnil hat
    go_wp2_with fail
    go_ret
    refine ⟨v', rfl, by simpa using hown, ?_⟩
    exact ((Fr.refl (fun _ => False) w).alloc _).trans (fr_of_grown hgrow) (by intro i hi e; simp [Value.ownBlock] at e; omega)
end Go.Proofs.Ytfnphkijalkllaa
