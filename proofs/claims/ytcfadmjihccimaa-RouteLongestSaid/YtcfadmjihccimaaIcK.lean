/- The key of the table of paths (api.Ip) as four numbers. No condition. -/
import Derived.Test.YtcfadmjihccimaaProg
import Derived.Test.YtcfadmjihccimaaMapRep
import Derived.DeepKeys4
import Derived.WalkKit
namespace Go.Proofs.Ytcfadmjihccimaa
open Go.RowKit Go.Maps

theorem Try.laidOut : laidOutB Try.prog = true := by kernel_rfl
theorem law45 : Keyed Try.prog 45 := Keyed.of_law (deep_law_laid Try.laidOut (m := 3) (by omega) (of_decide_eq_true (by kernel_rfl)) (by kernel_rfl) (by kernel_rfl))

structure I4 where
  a : Int
  b : Int
  c : Int
  d : Int
  deriving DecidableEq
def I4.val (k : I4) : Value := .agg #[.int .u8 k.a, .int .u8 k.b, .int .u8 k.c, .int .u8 k.d]
def I4.ok (k : I4) : Prop := (Lit.int .u8 k.a).wf = true ∧ (Lit.int .u8 k.b).wf = true ∧ (Lit.int .u8 k.c).wf = true ∧ (Lit.int .u8 k.d).wf = true

theorem cells45 : Try.prog.cellsOf 45 = 4 := by kernel_rfl
theorem cells5 : Try.prog.cellsOf 5 = 1 := by kernel_rfl
theorem keyType45 : Try.prog.keyType 45 = true := by kernel_rfl
theorem size152 : Try.prog.types.size = 152 := by kernel_rfl
theorem keyLits5 (d : Nat) (v : Value) : Try.prog.keyLits (d + 1) 5 [v] = match v with | .int .u8 n => if (Lit.int .u8 n).wf = true then some [.int .u8 n] else none | _ => none := by
  cases v <;> simp [Program.keyLits, Try.underlying5]
  rename_i q n
  cases q <;> simp
theorem keyLits45 (d : Nat) (a b c e : Value) : Try.prog.keyLits (d + 2) 45 [a, b, c, e] = (do
    let x ← Try.prog.keyLits (d + 1) 5 [a]
    let y ← Try.prog.keyLits (d + 1) 5 [b]
    let z ← Try.prog.keyLits (d + 1) 5 [c]
    let u ← Try.prog.keyLits (d + 1) 5 [e]
    some (x ++ y ++ z ++ u)) := by
  conv => lhs; rw [Program.keyLits.eq_def]
  simp only [Try.underlying45, cells45, cells5, List.length_cons, List.length_nil, Nat.zero_add, Nat.reduceAdd, if_true, List.range_succ, List.range_zero, List.nil_append, List.cons_append, List.mapM_cons, List.mapM_nil, List.drop_succ_cons, List.drop_zero, List.take_succ_cons, List.take_zero, Nat.mul_one]
  cases Try.prog.keyLits (d + 1) 5 [a] <;> cases Try.prog.keyLits (d + 1) 5 [b] <;> cases Try.prog.keyLits (d + 1) 5 [c] <;> cases Try.prog.keyLits (d + 1) 5 [e] <;> simp
theorem formed45 (a b c d : Value) : (Value.agg #[a, b, c, d]).formed Try.prog 45 = true := by simp [Value.formed, Try.underlying45, cells45]

set_option maxRecDepth 20000 in
theorem key_some (k : I4) (h : k.ok) : ∃ l, keyOf Try.prog 45 k.val = some l := by
  obtain ⟨h1, h2, h3, h4⟩ := h
  simp only [keyOf, Try.underlying45, keyType45, I4.val, formed45, Bool.and_self, if_true, size152, Value.cells]
  rw [keyLits45 151, keyLits5 151, keyLits5 151, keyLits5 151, keyLits5 151]
  simp [h1, h2, h3, h4]
set_option maxRecDepth 20000 in
theorem key_inv (v : Value) (l : Lit) (h : keyOf Try.prog 45 v = some l) : ∃ k : I4, k.ok ∧ v = k.val := by
  simp only [keyOf, Try.underlying45, keyType45, Bool.true_and] at h
  split at h
  · rename_i hf
    cases v <;> simp [Value.formed, Try.underlying45] at hf
    rename_i cs
    obtain ⟨cs⟩ := cs
    rw [cells45] at hf
    match cs, hf with
    | [a, b, c, d], hsz =>
      clear hsz
      simp only [size152, Value.cells] at h
      rw [keyLits45 151, keyLits5 151, keyLits5 151, keyLits5 151, keyLits5 151] at h
      cases a <;> try (simp at h; done)
      rename_i qa na
      cases qa <;> try (simp at h; done)
      cases b <;> try (simp at h; done)
      rename_i qb nb
      cases qb <;> try (simp at h; done)
      cases c <;> try (simp at h; done)
      rename_i qc nc
      cases qc <;> try (simp at h; done)
      cases d <;> try (simp at h; done)
      rename_i qd nd
      cases qd <;> try (simp at h; done)
      by_cases h1 : (Lit.int .u8 na).wf = true <;> by_cases h2 : (Lit.int .u8 nb).wf = true <;> by_cases h3 : (Lit.int .u8 nc).wf = true <;> by_cases h4 : (Lit.int .u8 nd).wf = true <;> simp [h1, h2, h3, h4] at h
      exact ⟨⟨na, nb, nc, nd⟩, ⟨h1, h2, h3, h4⟩, rfl⟩
  · cases h
noncomputable def M45 : KeyMk Try.prog 45 I4 where
  K := law45
  val := I4.val
  ok := I4.ok
  kl := fun k => (keyOf Try.prog 45 k.val).getD .nil
  key := fun k h => by obtain ⟨l, hl⟩ := key_some k h; rw [hl]; rfl
  inj := fun a b _ _ h => by
    cases a; cases b
    simp [I4.val] at h
    obtain ⟨rfl, rfl, rfl, rfl⟩ := h
    rfl
  inv := key_inv
end Go.Proofs.Ytcfadmjihccimaa
