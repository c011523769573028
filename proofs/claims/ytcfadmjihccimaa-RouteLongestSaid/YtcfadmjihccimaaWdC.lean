/- The iterator over the words of parts (word.words and its closure), for every loop body. No condition but lengths. -/
import Derived.RangeFuncNested
import Derived.RangeFuncBound
import Derived.RangeFuncCalls
import Derived.RangeFuncLeaves
import Derived.Shelf.Abstract
import Derived.Shelf.RegionOpen
import Derived.OwnWalkIn
import Derived.TacticsInMore
import Derived.LoopNIn
import Derived.LoopIn
import Derived.Scope
import Derived.Test.YtcfadmjihccimaaProg
import Derived.Test.YtcfadmjihccimaaChecked
import Derived.Test.YtcfadmjihccimaaWdB
namespace Go.Proofs.Ytcfadmjihccimaa
set_option linter.unusedVariables false
open Go.RowKit Go.Shelf
attribute [local go_sem] Oper.semAt_some


section
open Go
variable {F : Fence} {n : Nat} {P : Program} {Q : Exit → Act → World → Prop} {a : Act} {w : World}
theorem stepR_scope {b : Frame} {k : List Item} {cs : List Frame} {c : Code} : step P (lone (b.atR a (.code (.scope c) :: k)) cs w) = .next (lone (b.atR a (.code c :: .inScope c :: k)) cs w) :=
  step_lone_go (by simp [stepG, stepG.exec, Frame.atR])
theorem stepR_inScope {b : Frame} {k : List Item} {cs : List Frame} {c : Code} : step P (lone (b.atR a (.inScope c :: k)) cs w) = .next (lone (b.atR a k) cs w) :=
  step_lone_go (by simp [stepG, stepG.exec, Frame.atR])
/-- A scope through which the run goes without a goto, inside a fence. -/
theorem wpIn_scope_straight {c : Code} (h : c.wpIn F n P (Exit.noGoto Q) a w) : (Code.scope c).wpIn F n P Q a w := by
  intro b k cs hro hb hr
  have h0 : (lone (b.atR a (.code (.scope c) :: k)) cs w).fenced P F := fenced_calm hb hr rfl
  obtain ⟨e, a₁, w₁, hq, harr⟩ := h b (.inScope c :: k) cs hro hb hr
  cases e with
  | normal => exact ⟨.normal, a₁, w₁, hq, .head h0 stepR_scope (StepsIn.trans harr (.one (fenced_calm hb hr rfl) stepR_inScope))⟩
  | exit id =>
    have hx : exitTo id (.inScope c :: k) = exitTo id k := by simp [exitTo]
    exact ⟨.exit id, a₁, w₁, hq, fun k' hk => .head h0 stepR_scope (harr.1 k' (by rw [hx]; exact hk)),
      fun hr' hk => let ⟨k₁, h1, h2⟩ := harr.2 hr' (by rw [hx]; exact hk); ⟨k₁, h1, .head h0 stepR_scope h2⟩⟩
  | goto l => exact hq.elim
  | ret => exact ⟨_, a₁, w₁, hq, .of_steps (.one h0 stepR_scope) harr⟩
  | panic ch => exact ⟨_, a₁, w₁, hq, .of_steps (.one h0 stepR_scope) harr⟩
  | outgrown => exact ⟨_, a₁, w₁, hq, .of_steps (.one h0 stepR_scope) harr⟩
end

theorem noGoto_normal' {Q : Exit → Act → World → Prop} {a : Act} {w : World} : Exit.noGoto Q .normal a w = Q .normal a w := by unfold Exit.noGoto; rfl
/-- The bytes l stand behind the address, in a block below n₀. -/
def BytesIn (n₀ : Nat) (W : World) (A : Option Addr) (l : List Int) : Prop :=
  0 < l.length → ∃ b off, A = some ⟨b, off, none⟩ ∧ b < n₀ ∧ ∀ j x, l[j]? = some x → W.cell? ⟨b, off + j, none⟩ = some (.int .u8 x)
def PartsIn (n₀ : Nat) (W : World) (A : Option Addr) (ps : List (List Int)) : Prop :=
  0 < ps.length → ∃ b off, A = some ⟨b, off, none⟩ ∧ b < n₀ ∧ ∀ i p, ps[i]? = some p → ∃ Ap cap, W.cell? ⟨b, off + i, none⟩ = some (.slice Ap p.length cap) ∧ BytesIn n₀ W Ap p
theorem BytesIn.below {n₀ : Nat} {W W' : World} {A : Option Addr} {l : List Int} (h : BytesIn n₀ W A l) (k : Below n₀ W W') : BytesIn n₀ W' A l := fun hl => by
  obtain ⟨b, off, e, hb, hc⟩ := h hl
  exact ⟨b, off, e, hb, fun j x hj => (k.cell (p := ⟨b, off + j, none⟩) hb).trans (hc j x hj)⟩
theorem PartsIn.below {n₀ : Nat} {W W' : World} {A : Option Addr} {l : List (List Int)} (h : PartsIn n₀ W A l) (k : Below n₀ W W') : PartsIn n₀ W' A l := fun hl => by
  obtain ⟨b, off, e, hb, hc⟩ := h hl
  refine ⟨b, off, e, hb, fun j x hj => ?_⟩
  obtain ⟨Ap, cap, h1, h2⟩ := hc j x hj
  exact ⟨Ap, cap, (k.cell (p := ⟨b, off + j, none⟩) hb).trans h1, h2.below k⟩

theorem st_some_wend {c : List Int} {h : Int} (e : (st c).2 = some h) : wordsOf c = (st c).1 ++ [256 * h] := by unfold wordsOf wend; rw [e]
theorem st_none_wend {c : List Int} (e : (st c).2 = none) : wordsOf c = (st c).1 := by unfold wordsOf wend; rw [e]
theorem st_some {c : List Int} {h : Int} (e : (st c).2 = some h) (x : Int) : st (c ++ [x]) = ((st c).1 ++ [256 * h + x], none) := by rw [st_snoc, stp, e]
theorem st_none {c : List Int} (e : (st c).2 = none) (x : Int) : st (c ++ [x]) = ((st c).1, some x) := by rw [st_snoc, stp, e]

/-- What the closure's slots say of the bytes that have gone by. -/
structure Gone (J : List Int → World → Prop) (c : List Int) (v3 v4 : Value) (W : World) : Prop where
  half : v4 = .bool (st c).2.isSome
  high : ∀ h, (st c).2 = some h → v3 = .int .i64 (h * 256)
  j : J (st c).1 W

theorem take_flatten_succ (ps : List (List Int)) (i : Nat) {p : List Int} (h : ps[i]? = some p) : (ps.take (i + 1)).flatten = (ps.take i).flatten ++ p := by
  rw [List.take_add_one, h]; simp
theorem take_snoc (p : List Int) (j : Nat) {x : Int} (h : p[j]? = some x) : p.take (j + 1) = p.take j ++ [x] := by rw [List.take_add_one, h]; rfl
theorem flatten_split (ps : List (List Int)) (i : Nat) {p : List Int} (h : ps[i]? = some p) : ∃ r, ps.flatten = (ps.take i).flatten ++ (p ++ r) := by
  refine ⟨(ps.drop (i + 1)).flatten, ?_⟩
  rw [← List.append_assoc, ← take_flatten_succ ps i h, ← List.flatten_append, List.take_append_drop]
theorem isB_flatten {ps : List (List Int)} (h : ∀ p ∈ ps, isB p) : isB ps.flatten := fun x hx => by
  obtain ⟨p, hp, hx⟩ := List.mem_flatten.1 hx
  exact h p hp x hx

set_option maxRecDepth 100000 in
set_option maxHeartbeats 2000000 in
theorem words46 (F : Fence) (n : Nat) (h46 : F.fn 73) (hro : F.round = none) (hn : 1 ≤ n) (l Bn n₀ : Nat) (A : Option Addr) (cap : Nat) (ps : List (List Int)) (hok : ∀ p ∈ ps, isB p) (hps : ps.length ≤ 140737488355328) (hpl : ∀ p ∈ ps, p.length ≤ 140737488355328) (J Jx : List Int → World → Prop)
    (hY : ∀ pre x W, 0 ≤ x → x ≤ 65535 → J pre W → pre.length < (wordsOf ps.flatten).length → YieldAt F (n - 1) Try.prog l #[.int .i64 x] W fun e W' =>
      (e = .returned (.bool true) ∧ J (pre ++ [x]) W' ∧ Below n₀ W W') ∨ (e = .returned (.bool false) ∧ Jx (pre ++ [x]) W'))
    (W : World) (hBn : W.cell? ⟨Bn, 0, none⟩ = some (.slice A ps.length cap)) (hP : PartsIn n₀ W A ps) (h0 : J [] W) :
    CallsIn F n Try.prog 73 #[.func (.yield l) #[] #[], .pointer (some ⟨Bn, 0, none⟩)] W fun e W' => (∃ v, e = .returned v) ∧
      ((∃ ys, ys = wordsOf ps.flatten ∧ J ys W') ∨ (∃ pre, pre <+: wordsOf ps.flatten ∧ Jx pre W')) := by
  obtain ⟨len, hlen⟩ : ∃ m, ps.length = m := ⟨_, rfl⟩
  rw [hlen] at hBn hps
  refine callsIn_of_wp Try.func73 rfl h46 ?_ hro
  simp only [Try.ntmps73, List.size_toArray, List.length_cons, List.length_nil, Nat.reduceAdd, Nat.reduceSub, Array.replicate_succ, Array.replicate_zero, List.push_toArray, List.append_toArray, List.nil_append, List.cons_append]
  refine wpIn_scope_straight ?_
  gi_wp2
  refine wpIn_label ?_
  gi_wp2
  gi_loopw [3, 4, 11] (fun v3 v4 v11 wr => ∃ i : Nat, v11 = .int .i64 i ∧ i ≤ len ∧ Gone J (ps.take i).flatten v3 v4 wr ∧ Below n₀ W wr)
    (fun _ _ v _ => len - (intOf v).toNat)
  case atStart => exact ⟨0, rfl, Nat.zero_le _, ⟨rfl, fun h e => (by cases e), h0⟩, Below.refl _ _⟩
  case round =>
    obtain ⟨i, rfl, hi, hG, hB⟩ := hrel
    by_cases hlt : i < len
    · obtain ⟨p, hp⟩ : ∃ p, ps[i]? = some p := ⟨_, List.getElem?_eq_getElem (by omega)⟩
      obtain ⟨b, off, rfl, hb, hc⟩ := hP (by omega)
      obtain ⟨Ap, capp, cp0, hbp⟩ := hc i p hp
      have cp := (hB.cell (p := ⟨b, off + i, none⟩) hb).trans cp0
      obtain ⟨m, hm⟩ : ∃ m, p.length = m := ⟨_, rfl⟩
      have hm2 : m ≤ 140737488355328 := by rw [← hm]; exact hpl p (List.mem_of_getElem? hp)
      rw [hm] at cp
      gi_wp2
      gi_loopw [3, 4, 17] (fun v3 v4 v17 wr => ∃ j : Nat, v17 = .int .i64 j ∧ j ≤ m ∧ Gone J ((ps.take i).flatten ++ p.take j) v3 v4 wr ∧ Below n₀ W wr)
        (fun _ _ v _ => m - (intOf v).toNat)
      case atStart => exact ⟨0, rfl, Nat.zero_le _, by simpa using hG, hB⟩
      case round =>
        clear hG hB hc
        obtain ⟨j, rfl, hj, hG, hB⟩ := hrel
        obtain ⟨c, hcc⟩ : ∃ c, (ps.take i).flatten ++ p.take j = c := ⟨_, rfl⟩
        obtain ⟨r, hr⟩ := flatten_split ps i hp
        rw [hcc] at hG
        by_cases hjl : j < m
        · obtain ⟨x, hx⟩ : ∃ x, p[j]? = some x := ⟨_, List.getElem?_eq_getElem (by omega)⟩
          obtain ⟨b2, off2, rfl, hb2, hc2⟩ := hbp (by omega)
          have cx := (hB.cell (p := ⟨b2, off2 + j, none⟩) hb2).trans (hc2 j x hx)
          have hsn : (ps.take i).flatten ++ p.take (j + 1) = c ++ [x] := by rw [take_snoc p j hx, ← List.append_assoc, hcc]
          have hall : ps.flatten = (c ++ [x]) ++ (p.drop (j + 1) ++ r) := by
            rw [← hsn, hr, List.append_assoc, ← List.append_assoc (p.take (j + 1)), List.take_append_drop]
          have hB1 := isB_flatten hok
          rw [hall] at hB1
          have hcB : isB c := hB1.left.left
          have hxB := hB1.left.right x (by simp)
          cases hst : (st c).2 with
          | none =>
            have h4 := hG.half
            rw [hst] at h4
            subst h4
            have hstx := st_none hst x
            gi_wp2
            go_roundw
            case rel => exact ⟨j + 1, by go_num, by omega, by rw [hsn]; exact ⟨by rw [hstx]; rfl, fun h e => by rw [hstx] at e; cases e; rfl, by rw [hstx]; exact hG.j⟩, hB⟩
            case measure => simp [intOf]; omega
          | some h =>
            have h4 := hG.half
            rw [hst] at h4
            have h3 := hG.high h hst
            subst h4 h3
            have hstx := st_some hst x
            have hhB := (st_ok hcB).2 h hst
            have hor := or_byte hhB.1 hhB.2 hxB.1 hxB.2
            have hlen2 : (st c).1.length < (wordsOf ps.flatten).length := by
              have := st_len (c ++ [x]) (p.drop (j + 1) ++ r)
              rw [← hall, hstx] at this
              simp at this; omega
            obtain ⟨fn, tmps, assign, body, hy, hR⟩ := hY _ (256 * h + x) wr (by omega) (by omega) hG.j hlen2
            gi_wp2
            refine hR.mono ?_
            rintro e W3 (⟨rfl, hJ3, hk3⟩ | ⟨rfl, hJx3⟩)
            · gi_wp2
              go_roundw
              case rel => exact ⟨j + 1, by go_num, by omega, by rw [hsn]; exact ⟨by rw [hstx]; rfl, fun h e => (by rw [hstx] at e; cases e), by rw [hstx]; exact hJ3⟩, hB.trans hk3⟩
              case measure => simp [intOf]; omega
            · gi_wp2
              rw [noGoto_normal']
              go_end0
              refine ⟨⟨_, rfl⟩, .inr ⟨_, ?_, hJx3⟩⟩
              have := st_prefix_all (c ++ [x]) (p.drop (j + 1) ++ r)
              rw [← hall, hstx] at this
              exact this
        · obtain rfl : j = m := by omega
          have hcc2 : (ps.take (i + 1)).flatten = c := by rw [take_flatten_succ ps i hp, ← hcc, List.take_of_length_le (Nat.le_of_eq hm)]
          gi_wp2
          exact ⟨⟨i + 1, by go_num, by omega, by rw [hcc2]; exact hG, hB⟩, by simp [intOf]; omega⟩
    · obtain rfl : i = len := by omega
      have hall : (ps.take i).flatten = ps.flatten := by rw [List.take_of_length_le (Nat.le_of_eq hlen)]
      rw [hall] at hG
      have h4 := hG.half
      cases hst : (st ps.flatten).2 with
      | none =>
        rw [hst] at h4
        subst h4
        gi_wp2
        rw [noGoto_normal']
        go_end0
        exact ⟨⟨_, rfl⟩, .inl ⟨_, rfl, by rw [st_none_wend hst]; exact hG.j⟩⟩
      | some h =>
        rw [hst] at h4
        have h3 := hG.high h hst
        subst h4 h3
        have hhB := (st_ok (isB_flatten hok)).2 h hst
        obtain ⟨fn, tmps, assign, body, hy, hR⟩ := hY _ (h * 256) wr (by omega) (by omega) hG.j (by rw [st_some_wend hst]; simp)
        gi_wp2
        refine hR.mono ?_
        rintro e W3 (⟨rfl, hJ3, hk3⟩ | ⟨rfl, hJx3⟩)
        · gi_wp2
          rw [noGoto_normal']
          go_end0
          exact ⟨⟨_, rfl⟩, .inl ⟨_, rfl, by rw [st_some_wend hst, Int.mul_comm 256 h]; exact hJ3⟩⟩
        · gi_wp2
          rw [noGoto_normal']
          go_end0
          exact ⟨⟨_, rfl⟩, .inr ⟨_, by rw [st_some_wend hst, Int.mul_comm 256 h]; exact List.prefix_rfl, hJx3⟩⟩
end Go.Proofs.Ytcfadmjihccimaa
