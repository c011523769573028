/- The key of the table of ways (route.net): an address and a number of bits. No condition. -/
import Derived.Test.YtcfadmjihccimaaIcK
namespace Go.Proofs.Ytcfadmjihccimaa
open Go.RowKit Go.Maps

theorem law114 : Keyed Try.prog 114 := Keyed.of_law (deep_law_laid Try.laidOut (m := 3) (by omega) (of_decide_eq_true (by kernel_rfl)) (by kernel_rfl) (by kernel_rfl))
structure N5 where
  ip : I4
  bits : Int
  deriving DecidableEq
def N5.cells (k : N5) : List Value := [.int .u8 k.ip.a, .int .u8 k.ip.b, .int .u8 k.ip.c, .int .u8 k.ip.d, .int .i64 k.bits]
def N5.val (k : N5) : Value := .agg #[.int .u8 k.ip.a, .int .u8 k.ip.b, .int .u8 k.ip.c, .int .u8 k.ip.d, .int .i64 k.bits]
def N5.ok (k : N5) : Prop := k.ip.ok ∧ (Lit.int .i64 k.bits).wf = true
theorem cells114 : Try.prog.cellsOf 114 = 5 := by kernel_rfl
theorem cells44 : Try.prog.cellsOf 44 = 4 := by kernel_rfl
theorem cells3k : Try.prog.cellsOf 3 = 1 := by kernel_rfl
theorem keyType114 : Try.prog.keyType 114 = true := by kernel_rfl
theorem keyLits3 (d : Nat) (v : Value) : Try.prog.keyLits (d + 1) 3 [v] = match v with | .int .i64 n => if (Lit.int .i64 n).wf = true then some [.int .i64 n] else none | _ => none := by
  cases v <;> simp [Program.keyLits, Try.underlying3]
  rename_i q n
  cases q <;> simp
theorem keyLits44 (d : Nat) (a b c e : Value) : Try.prog.keyLits (d + 2) 44 [a, b, c, e] = (do
    let x ← Try.prog.keyLits (d + 1) 5 [a]
    let y ← Try.prog.keyLits (d + 1) 5 [b]
    let z ← Try.prog.keyLits (d + 1) 5 [c]
    let u ← Try.prog.keyLits (d + 1) 5 [e]
    some (x ++ y ++ z ++ u)) := by
  conv => lhs; rw [Program.keyLits.eq_def]
  simp only [Try.underlying44, cells44, cells5, List.length_cons, List.length_nil, Nat.zero_add, Nat.reduceAdd, if_true, List.range_succ, List.range_zero, List.nil_append, List.cons_append, List.mapM_cons, List.mapM_nil, List.drop_succ_cons, List.drop_zero, List.take_succ_cons, List.take_zero, Nat.mul_one]
  cases Try.prog.keyLits (d + 1) 5 [a] <;> cases Try.prog.keyLits (d + 1) 5 [b] <;> cases Try.prog.keyLits (d + 1) 5 [c] <;> cases Try.prog.keyLits (d + 1) 5 [e] <;> simp
theorem keyLits114 (d : Nat) (a b c e t : Value) : Try.prog.keyLits (d + 3) 114 [a, b, c, e, t] = (do
    let y ← Try.prog.keyLits (d + 2) 44 [a, b, c, e]
    let z ← Try.prog.keyLits (d + 2) 3 [t]
    some (y ++ z)) := by
  conv => lhs; rw [Program.keyLits.eq_def]
  simp only [Try.underlying114, cells114, List.length_cons, List.length_nil, Nat.zero_add, Nat.reduceAdd]
  rw [if_pos ⟨trivial, by decide +kernel⟩]
  simp only [List.mapM_cons, List.mapM_nil, cells44, cells3k, List.drop_succ_cons, List.drop_zero, List.take_succ_cons, List.take_zero]
  cases Try.prog.keyLits (d + 2) 44 [a, b, c, e] <;> cases Try.prog.keyLits (d + 2) 3 [t] <;> simp
theorem formed114 (a b c d e : Value) : (Value.agg #[a, b, c, d, e]).formed Try.prog 114 = true := by simp [Value.formed, Try.underlying114, cells114]
set_option maxRecDepth 20000 in
theorem key_some5 (k : N5) (h : k.ok) : ∃ l, keyOf Try.prog 114 k.val = some l := by
  obtain ⟨⟨h1, h2, h3, h4⟩, h5⟩ := h
  simp only [keyOf, Try.underlying114, keyType114, N5.val, formed114, Bool.and_self, if_true, size152, Value.cells]
  rw [keyLits114 150, keyLits44 150, keyLits3 151, keyLits5 150, keyLits5 150, keyLits5 150, keyLits5 150]
  simp [h1, h2, h3, h4, h5]
set_option maxRecDepth 20000 in
theorem key_inv5 (v : Value) (l : Lit) (h : keyOf Try.prog 114 v = some l) : ∃ k : N5, k.ok ∧ v = k.val := by
  simp only [keyOf, Try.underlying114, keyType114, Bool.true_and] at h
  split at h
  · rename_i hf
    cases v <;> simp [Value.formed, Try.underlying114] at hf
    rename_i cs
    obtain ⟨cs⟩ := cs
    rw [cells114] at hf
    match cs, hf with
    | [a, b, c, d, e], hsz =>
      clear hsz
      simp only [size152, Value.cells] at h
      rw [keyLits114 150, keyLits44 150, keyLits3 151, keyLits5 150, keyLits5 150, keyLits5 150, keyLits5 150] at h
      cases a <;> try (simp at h; done)
      rename_i qa na
      cases qa <;> try (simp at h; done)
      cases b <;> try (simp at h; done)
      rename_i qb nb
      cases qb <;> try (simp at h; done)
      cases c <;> try (simp at h; done)
      rename_i qc nc
      cases qc <;> try (simp at h; done)
      cases d <;> try (simp at h; done)
      rename_i qd nd
      cases qd <;> try (simp at h; done)
      cases e <;> try (simp at h; done)
      rename_i qe ne
      cases qe <;> try (simp at h; done)
      by_cases h1 : (Lit.int .u8 na).wf = true <;> by_cases h2 : (Lit.int .u8 nb).wf = true <;> by_cases h3 : (Lit.int .u8 nc).wf = true <;> by_cases h4 : (Lit.int .u8 nd).wf = true <;> by_cases h5 : (Lit.int .i64 ne).wf = true <;> simp [h1, h2, h3, h4, h5] at h
      exact ⟨⟨⟨na, nb, nc, nd⟩, ne⟩, ⟨⟨h1, h2, h3, h4⟩, h5⟩, rfl⟩
  · cases h
noncomputable def M114 : KeyMk Try.prog 114 N5 where
  K := law114
  val := N5.val
  ok := N5.ok
  kl := fun k => (keyOf Try.prog 114 k.val).getD .nil
  key := fun k h => by obtain ⟨l, hl⟩ := key_some5 k h; rw [hl]; rfl
  inj := fun a b _ _ h => by
    obtain ⟨⟨_, _, _, _⟩, _⟩ := a; obtain ⟨⟨_, _, _, _⟩, _⟩ := b
    simp [N5.val] at h
    obtain ⟨rfl, rfl, rfl, rfl, rfl⟩ := h
    rfl
  inv := key_inv5
end Go.Proofs.Ytcfadmjihccimaa
