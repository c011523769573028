/- The key of the table of connections (api.Four) as six numbers. No condition. -/
import Derived.Test.YtcgghjjchfafiaaProg
import Derived.Test.YtcgghjjchfafiaaMapRep
import Derived.DeepKeys4
import Derived.WalkKit
namespace Go.Proofs.Ytcgghjjchfafiaa
open Go.RowKit Go.Maps

theorem Try.laidOut : laidOutB Try.prog = true := by kernel_rfl
theorem law33 : Keyed Try.prog 33 := Keyed.of_law (deep_law_laid Try.laidOut (m := 3) (by omega) (of_decide_eq_true (by kernel_rfl)) (by kernel_rfl) (by kernel_rfl))

/-- A connection's key: Port, Ip (4 bytes), To. -/
structure K4 where
  p : Int
  a : Int
  b : Int
  c : Int
  d : Int
  t : Int
  deriving DecidableEq

def K4.val (k : K4) : Value := .agg #[.int .i64 k.p, .int .u8 k.a, .int .u8 k.b, .int .u8 k.c, .int .u8 k.d, .int .i64 k.t]
def K4.ok (k : K4) : Prop := (Lit.int .i64 k.p).wf = true ∧ (Lit.int .u8 k.a).wf = true ∧ (Lit.int .u8 k.b).wf = true ∧ (Lit.int .u8 k.c).wf = true ∧ (Lit.int .u8 k.d).wf = true ∧ (Lit.int .i64 k.t).wf = true

theorem size97 : Try.prog.types.size = 97 := by kernel_rfl
theorem cells33 : Try.prog.cellsOf 33 = 6 := by kernel_rfl
theorem cells31 : Try.prog.cellsOf 31 = 4 := by kernel_rfl
theorem cells5 : Try.prog.cellsOf 5 = 1 := by kernel_rfl
theorem cells3 : Try.prog.cellsOf 3 = 1 := by kernel_rfl
theorem keyType33 : Try.prog.keyType 33 = true := by kernel_rfl
theorem keyLits3 (d : Nat) (v : Value) : Try.prog.keyLits (d + 1) 3 [v] = match v with | .int .i64 n => if (Lit.int .i64 n).wf = true then some [.int .i64 n] else none | _ => none := by
  cases v <;> simp [Program.keyLits, Try.underlying3]
  rename_i q n
  cases q <;> simp
theorem keyLits5 (d : Nat) (v : Value) : Try.prog.keyLits (d + 1) 5 [v] = match v with | .int .u8 n => if (Lit.int .u8 n).wf = true then some [.int .u8 n] else none | _ => none := by
  cases v <;> simp [Program.keyLits, Try.underlying5]
  rename_i q n
  cases q <;> simp
theorem keyLits31 (d : Nat) (a b c e : Value) : Try.prog.keyLits (d + 2) 31 [a, b, c, e] = (do
    let x ← Try.prog.keyLits (d + 1) 5 [a]
    let y ← Try.prog.keyLits (d + 1) 5 [b]
    let z ← Try.prog.keyLits (d + 1) 5 [c]
    let u ← Try.prog.keyLits (d + 1) 5 [e]
    some (x ++ y ++ z ++ u)) := by
  conv => lhs; rw [Program.keyLits.eq_def]
  simp only [Try.underlying31, cells31, cells5, List.length_cons, List.length_nil, Nat.zero_add, Nat.reduceAdd, if_true, List.range_succ, List.range_zero, List.nil_append, List.cons_append, List.mapM_cons, List.mapM_nil, List.drop_succ_cons, List.drop_zero, List.take_succ_cons, List.take_zero, Nat.mul_one]
  cases Try.prog.keyLits (d + 1) 5 [a] <;> cases Try.prog.keyLits (d + 1) 5 [b] <;> cases Try.prog.keyLits (d + 1) 5 [c] <;> cases Try.prog.keyLits (d + 1) 5 [e] <;> simp
theorem keyLits33 (d : Nat) (p a b c e t : Value) : Try.prog.keyLits (d + 3) 33 [p, a, b, c, e, t] = (do
    let x ← Try.prog.keyLits (d + 2) 3 [p]
    let y ← Try.prog.keyLits (d + 2) 31 [a, b, c, e]
    let z ← Try.prog.keyLits (d + 2) 3 [t]
    some (x ++ y ++ z)) := by
  conv => lhs; rw [Program.keyLits.eq_def]
  simp only [Try.underlying33, cells33, List.length_cons, List.length_nil, Nat.zero_add, Nat.reduceAdd]
  rw [if_pos ⟨trivial, by decide +kernel⟩]
  simp only [List.mapM_cons, List.mapM_nil, cells31, cells3, List.drop_succ_cons, List.drop_zero, List.take_succ_cons, List.take_zero]
  cases Try.prog.keyLits (d + 2) 3 [p] <;> cases Try.prog.keyLits (d + 2) 31 [a, b, c, e] <;> cases Try.prog.keyLits (d + 2) 3 [t] <;> simp

theorem formed33 (a b c d e f : Value) : (Value.agg #[a, b, c, d, e, f]).formed Try.prog 33 = true := by simp [Value.formed, Try.underlying33, cells33]

theorem key_some (k : K4) (h : k.ok) : ∃ l, keyOf Try.prog 33 k.val = some l := by
  obtain ⟨h1, h2, h3, h4, h5, h6⟩ := h
  simp only [keyOf, Try.underlying33, keyType33, K4.val, formed33, Bool.and_self, if_true, size97, Value.cells]
  rw [keyLits33 95, keyLits31 95, keyLits3 96, keyLits3 96, keyLits5 95, keyLits5 95, keyLits5 95, keyLits5 95]
  simp [h1, h2, h3, h4, h5, h6]

theorem key_inv (v : Value) (l : Lit) (h : keyOf Try.prog 33 v = some l) : ∃ k : K4, k.ok ∧ v = k.val := by
  simp only [keyOf, Try.underlying33, keyType33, Bool.true_and] at h
  split at h
  · rename_i hf
    cases v <;> simp [Value.formed, Try.underlying33] at hf
    rename_i cs
    obtain ⟨cs⟩ := cs
    rw [cells33] at hf
    match cs, hf with
    | [a, b, c, d, e, f], hsz =>
      clear hsz
      simp only [size97, Value.cells] at h
      rw [keyLits33 95, keyLits31 95, keyLits3 96, keyLits3 96, keyLits5 95, keyLits5 95, keyLits5 95, keyLits5 95] at h
      cases a <;> try (simp at h; done)
      rename_i qa na
      cases qa <;> try (simp at h; done)
      cases b <;> try (simp at h; done)
      rename_i qb nb
      cases qb <;> try (simp at h; done)
      cases c <;> try (simp at h; done)
      rename_i qc nc
      cases qc <;> try (simp at h; done)
      cases d <;> try (simp at h; done)
      rename_i qd nd
      cases qd <;> try (simp at h; done)
      cases e <;> try (simp at h; done)
      rename_i qe ne
      cases qe <;> try (simp at h; done)
      cases f <;> try (simp at h; done)
      rename_i qf nf
      cases qf <;> try (simp at h; done)
      by_cases h1 : (Lit.int .i64 na).wf = true <;> by_cases h2 : (Lit.int .u8 nb).wf = true <;> by_cases h3 : (Lit.int .u8 nc).wf = true <;> by_cases h4 : (Lit.int .u8 nd).wf = true <;> by_cases h5 : (Lit.int .u8 ne).wf = true <;> by_cases h6 : (Lit.int .i64 nf).wf = true <;> simp [h1, h2, h3, h4, h5, h6] at h
      exact ⟨⟨na, nb, nc, nd, ne, nf⟩, ⟨h1, h2, h3, h4, h5, h6⟩, rfl⟩
  · cases h

noncomputable def M33 : KeyMk Try.prog 33 K4 where
  K := law33
  val := K4.val
  ok := K4.ok
  kl := fun k => (keyOf Try.prog 33 k.val).getD .nil
  key := fun k h => by obtain ⟨l, hl⟩ := key_some k h; rw [hl]; rfl
  inj := fun a b _ _ h => by
    cases a; cases b
    simp [K4.val] at h
    obtain ⟨rfl, rfl, rfl, rfl, rfl, rfl⟩ := h
    rfl
  inv := key_inv

end Go.Proofs.Ytcgghjjchfafiaa
