/- The walk of packhorselaw01.WordWhole, and its plain law. No condition but lengths. -/
import Derived.Test.YtfnphkijalkllaaProg
import Derived.Test.YtfnphkijalkllaaChecked
import Derived.Test.YtfnphkijalkllaaWdF
namespace Go.Proofs.Ytfnphkijalkllaa
set_option linter.unusedVariables false
open Go.RowKit

/-- A slice of bytes as it came. -/
structure BArg (w : World) (A : Option Addr) (cap : Nat) (l : List Int) : Prop where
  ok : isB l
  here : BytesIn w.heap.size w A l
  le : l.length ≤ cap
  top : cap ≤ 140737488351232
theorem BArg.fr {w w' : World} {A : Option Addr} {cap : Nat} {l : List Int} (h : BArg w A cap l) (f : Fr (fun _ => False) w w') : BArg w' A cap l :=
  ⟨h.ok, fun hl => by
    obtain ⟨b, off, e, hb, hc⟩ := h.here.fr f (Nat.le_refl _) (fun _ _ e => e) hl
    exact ⟨b, off, e, by have := f.size; omega, hc⟩, h.le, h.top⟩
theorem BytesIn.left {n₀ : Nat} {w : World} {A : Option Addr} {l r : List Int} (h : BytesIn n₀ w A (l ++ r)) : BytesIn n₀ w A l := fun hl => by
  obtain ⟨b, off, e, hb, hc⟩ := h (by simp; omega)
  exact ⟨b, off, e, hb, fun j x hj => hc j x (by rw [List.getElem?_append_left (List.getElem?_eq_some_iff.1 hj).1]; exact hj)⟩
theorem BytesIn.take {n₀ : Nat} {w : World} {A : Option Addr} {l : List Int} (h : BytesIn n₀ w A l) (m : Nat) : BytesIn n₀ w A (l.take m) := by
  have e : l.take m ++ l.drop m = l := List.take_append_drop _ _
  rw [← e] at h
  exact h.left
theorem BytesIn.drop {n₀ : Nat} {w : World} {b off : Nat} {l : List Int} (h : BytesIn n₀ w (some ⟨b, off, Option.none⟩) l) (m : Nat) : BytesIn n₀ w (some ⟨b, off + m, Option.none⟩) (l.drop m) := fun hl => by
  obtain ⟨b', off', e, hb, hc⟩ := h (by rw [List.length_drop] at hl; omega)
  cases e
  refine ⟨b, off + m, rfl, hb, fun j x hj => ?_⟩
  rw [List.getElem?_drop] at hj
  rw [Nat.add_assoc]; exact hc _ _ hj

theorem BytesIn.up {n₀ n₁ : Nat} {w : World} {A : Option Addr} {l : List Int} (h : BytesIn n₀ w A l) (hn : n₀ ≤ n₁) : BytesIn n₁ w A l := fun hl => by
  obtain ⟨b, off, e, hb, hc⟩ := h hl
  exact ⟨b, off, e, by omega, hc⟩
theorem Fr.fromNil {w w' : World} (h : Fr (fun i => (Value.slice none 0 0).ownBlock = some i) w w') : Fr (fun _ => False) w w' := ⟨h.os, h.tape, h.output, h.size, fun i hi _ => h.block i hi (fun e => by cases e)⟩

theorem BytesIn.dropAll {n₀ : Nat} {w : World} {A : Option Addr} {l : List Int} {m : Nat} (h : l.length ≤ m) : BytesIn n₀ w A (l.drop m) := fun hl => by rw [List.length_drop] at hl; omega
theorem BytesIn.dropO {n₀ : Nat} {w : World} {A : Option Addr} {l : List Int} (h : BytesIn n₀ w A l) (m : Nat) : BytesIn n₀ w (A.map fun x => x.add m) (l.drop m) := fun hl => by
  obtain ⟨b, off, e, hb, hc⟩ := h (by rw [List.length_drop] at hl; omega)
  subst e
  refine ⟨b, off + m, by rw [Option.map_some, Addr.add_lit], hb, fun j x hj => ?_⟩
  rw [List.getElem?_drop] at hj
  rw [Nat.add_assoc]; exact hc _ _ hj

theorem wt_app : ∀ (o : Bool) (a b : List Int), wt o (a ++ b) = wt o a + wt (if a.length % 2 = 0 then o else !o) b
  | o, [], b => by simp [wt]
  | false, x :: r, b => by
    have := wt_app true r b
    simp only [List.cons_append, wt, this, List.length_cons]
    rcases Nat.mod_two_eq_zero_or_one r.length with h | h <;> simp [h, Nat.add_mod] <;> omega
  | true, x :: r, b => by
    have := wt_app false r b
    simp only [List.cons_append, wt, this, List.length_cons]
    rcases Nat.mod_two_eq_zero_or_one r.length with h | h <;> simp [h, Nat.add_mod] <;> omega
theorem wt_even {a : List Int} (h : a.length % 2 = 0) (o : Bool) (b : List Int) : wt o (a ++ b) = wt o a + wt o b := by rw [wt_app, if_pos h]
theorem wt_by16 {s : Int} (h : 0 ≤ s) (h1 : s ≤ 65535) : wt false (by16 s) = s := by simp [by16, wt]; omega
theorem by16_ok (n : Int) : isB (by16 n) := by intro x hx; simp [by16] at hx; omega
theorem ck_bd {l : List Int} (h : isB l) : 0 ≤ ck l ∧ ck l ≤ 65535 := by
  have := nrm_bd (wt_nonneg false l h); unfold ck; omega
/-- With its checksum put in as one more word the checksum is 0. -/
theorem whole_law {l : List Int} (hB : isB l) (hl : l.length % 2 = 0) {m : Nat} (hm : m % 2 = 0) (hm2 : m ≤ l.length) : ck (l.take m ++ by16 (ck l) ++ l.drop m) = 0 := by
  have hc := ck_bd hB
  have h0 := wt_nonneg false l hB
  have hlt : (l.take m).length % 2 = 0 := by rw [List.length_take]; omega
  have e1 : wt false l = wt false (l.take m) + wt false (l.drop m) := by
    conv => lhs; rw [← List.take_append_drop m l]
    exact wt_even hlt _ _
  have e2 : wt false (l.take m ++ by16 (ck l) ++ l.drop m) = wt false l + ck l := by
    rw [List.append_assoc, wt_even hlt, wt_even (a := by16 (ck l)) (by simp [by16]), wt_by16 hc.1 hc.2, e1]; omega
  rw [ck, e2]
  unfold ck at *
  unfold nrm at *
  split <;> split at * <;> omega

theorem OwnB.viewN {base : Nat} {w : World} {v : Value} {l : List Int} {n : Nat} (h : OwnB base w v l) (hn : l.length = n) :
    ∃ A cap, v = .slice A n cap ∧ BytesIn w.heap.size w A l := by subst hn; exact h.view
theorem put32N {A : Option Addr} {n : Nat} (cap n₀ : Nat) (l : List Int) (s : Int) (w : World) (hn : l.length = n) (hb : BytesIn n₀ w A l) (hlen : n + 2 ≤ 140737488355328) (hn₀ : n₀ ≤ w.heap.size) :
    Calls Try.prog 46 #[.slice A n cap, .int .i64 s] w fun e w' => ∃ v', e = .returned v' ∧ OwnB w.heap.size w' v' (l ++ by16 s) ∧ Fr (fun _ => False) w w' := by subst hn; exact put32 A cap n₀ l s w hb hlen hn₀
theorem wpList_appN {ops : Array Oper} {rest : List Oper} {o : Oper} {a : Act} {Q : Exit → Act → World → Prop} (w : World) (hgd : o.guard = none) (s x : Operand)
    (ho : o.op = .call { callee := .builtin .append, args := #[s, x], argTypes := #[55, 55] })
    (base : Nat) (v : Value) (l : List Int) (hs : a.eval s = v) (hown : OwnB base w v l) (n₀ : Nat) (A : Option Addr) (n c : Nat) (k : List Int) (hn : k.length = n) (hx : a.eval x = .slice A n c) (hb : BytesIn n₀ w A k) (hlen : l.length + n ≤ 140737488355328) (hbase : base ≤ w.heap.size)
    (h : ∀ v' w', OwnB base w' v' (l ++ k) → Fr (fun i => v.ownBlock = some i) w w' → wpList Try.prog ops Q rest (a.put o.dst v') w') : wpList Try.prog ops Q (o :: rest) a w := by
  subst hn
  exact wpList_app w hgd s x ho base v l hs hown n₀ A c k hx hb hlen hbase (fun v' w' h1 h2 _ _ => h v' w' h1 (fr_of_grown h2))
/-- A turn of a row of one's own leaves what was. -/
theorem OwnB.turn {base : Nat} {w0 w w' : World} {v : Value} {l : List Int} (h : OwnB base w v l) (f0 : Fr (fun _ => False) w0 w) (hbase : w0.heap.size ≤ base) (f : Fr (fun i => v.ownBlock = some i) w w') : Fr (fun _ => False) w0 w' :=
  f0.trans f (fun i hi e => by have := (World.ownsRow.lt h i e).1; omega)
theorem OwnB.base {base base' : Nat} {w : World} {v : Value} {l : List Int} (h : OwnB base w v l) (hb : base' ≤ base) : OwnB base' w v l := World.ownsRow.mono h hb

end Go.Proofs.Ytfnphkijalkllaa
