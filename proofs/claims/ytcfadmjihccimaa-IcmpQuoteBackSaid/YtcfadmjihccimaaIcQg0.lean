/- Quoted of law 12: one contract for any bytes. No condition but lengths. -/
import Derived.Test.YtcfadmjihccimaaIcQd
import Derived.Test.YtcfadmjihccimaaFlatEq
namespace Go.Proofs.Ytcfadmjihccimaa
set_option linter.unusedVariables false
set_option linter.unusedSimpArgs false
open Go.RowKit

structure Qt where
  (s0 s1 s2 s3 d0 d1 d2 d3 p a b q : Int)
def Qt.z : Qt := ⟨0, 0, 0, 0, 0, 0, 0, 0, 0, 0, 0, 0⟩
def quR (l : List Int) : Qt :=
  let r := l.drop (hd0 l).toNat
  let p := dX l 9
  ⟨dX l 12, dX l 13, dX l 14, dX l 15, dX l 16, dX l 17, dX l 18, dX l 19, p,
    if p = 6 then atV r 0 2 else if p = 17 then atV r 0 2 else if p = 1 then atV r 4 2 else 0,
    if p = 6 then atV r 2 2 else if p = 17 then atV r 2 2 else 0,
    if p = 6 then atV r 4 4 else 0⟩
def quE (l : List Int) : Int := if l.length < 20 then 3 else if dX l 0 / 16 ≠ 4 then 4 else if hd0 l < 20 then 4 else if (l.length : Int) < hd0 l + 8 then 3 else 0
def quT (l : List Int) : Qt := if quE l = 0 then quR l else Qt.z
def QuPost (l : List Int) (w : World) (e : Ending) (w' : World) : Prop :=
  e = .returned (.tuple #[.agg #[.int .u8 (quT l).s0, .int .u8 (quT l).s1, .int .u8 (quT l).s2, .int .u8 (quT l).s3, .int .u8 (quT l).d0, .int .u8 (quT l).d1, .int .u8 (quT l).d2, .int .u8 (quT l).d3, .int .i64 (quT l).p, .int .i64 (quT l).a, .int .i64 (quT l).b, .int .u32 (quT l).q], .int .i64 (quE l)]) ∧ Fr (fun _ => False) w w'
theorem quPost_no {l : List Int} {w w' : World} {r : Int} (hr : quE l = r) (h0 : r ≠ 0) (f : Fr (fun _ => False) w w') : QuPost l w (.returned (.tuple #[.agg qz.toArray, .int .i64 r])) w' := by
  unfold QuPost quT
  rw [hr, if_neg h0]
  exact ⟨rfl, f⟩
theorem quR_hv (l : List Int) : if dX l 9 = 6 then (quR l).a = atV (l.drop (hd0 l).toNat) 0 2 ∧ (quR l).b = atV (l.drop (hd0 l).toNat) 2 2 ∧ (quR l).q = atV (l.drop (hd0 l).toNat) 4 4 else if dX l 9 = 17 then (quR l).a = atV (l.drop (hd0 l).toNat) 0 2 ∧ (quR l).b = atV (l.drop (hd0 l).toNat) 2 2 ∧ (quR l).q = 0 else if dX l 9 = 1 then (quR l).a = atV (l.drop (hd0 l).toNat) 4 2 ∧ (quR l).b = 0 ∧ (quR l).q = 0 else (quR l).a = 0 ∧ (quR l).b = 0 ∧ (quR l).q = 0 := by
  unfold quR
  split
  · rename_i h; simp [h]
  · rename_i h
    split
    · rename_i h2; simp [h2]
    · rename_i h2
      split
      · rename_i h3; simp [h3]
      · rename_i h3; simp [h, h2, h3]
theorem quoted_any (A : Option Addr) (n c : Nat) (l : List Int) (w : World) (hc : n ≤ c) (P : Pc w A n l) : Calls Try.prog 25 #[.slice A n c] w (QuPost l w) := by
  have hl := P.len
  have ht := P.top
  by_cases h1 : n < 20
  · have hr : quE l = 3 := by unfold quE; rw [if_pos (by omega)]
    exact (quoted25_short A n c w h1).mono fun e w' h => by rw [h.1]; exact quPost_no hr (by decide) h.2
  by_cases h2 : dX l 0 / 16 = 4
  · by_cases h3 : hd0 l < 20
    · have hr : quE l = 4 := by unfold quE; rw [if_neg (by omega), if_neg (by simpa using h2), if_pos h3]
      exact (quoted25_form2 A n c l w (by omega) ht P h2 h3).mono fun e w' h => by rw [h.1]; exact quPost_no hr (by decide) h.2
    by_cases h4 : (n : Int) < hd0 l + 8
    · have hr : quE l = 3 := by unfold quE; rw [if_neg (by omega), if_neg (by simpa using h2), if_neg h3, if_pos (by rw [hl]; exact h4)]
      exact (quoted25_short2 A n c l w (by omega) ht P h2 ⟨by omega, h4⟩).mono fun e w' h => by rw [h.1]; exact quPost_no hr (by decide) h.2
    · have hr : quE l = 0 := by unfold quE; rw [if_neg (by omega), if_neg (by simpa using h2), if_neg h3, if_neg (by rw [hl]; exact h4)]
      refine (quoted25_ok A n c l w (by omega) hc ht P h2 (hd0 l).toNat (by omega) (by omega) (by omega) (quR l).s0 (quR l).s1 (quR l).s2 (quR l).s3 (quR l).d0 (quR l).d1 (quR l).d2 (quR l).d3 (quR l).p (quR l).a (quR l).b (quR l).q (quR_hv l) rfl rfl rfl rfl rfl rfl rfl rfl rfl).mono fun e w' h => ?_
      unfold QuPost quT
      rw [hr, if_pos rfl]
      exact h
  · have hr : quE l = 4 := by unfold quE; rw [if_neg (by omega), if_pos h2]
    exact (quoted25_form A n c l w (by omega) P h2).mono fun e w' h => by rw [h.1]; exact quPost_no hr (by decide) h.2
/-- The quote's fields are of their kinds. -/
structure Qt.ok (t : Qt) : Prop where
  s0 : 0 ≤ t.s0 ∧ t.s0 ≤ 255
  s1 : 0 ≤ t.s1 ∧ t.s1 ≤ 255
  s2 : 0 ≤ t.s2 ∧ t.s2 ≤ 255
  s3 : 0 ≤ t.s3 ∧ t.s3 ≤ 255
  d0 : 0 ≤ t.d0 ∧ t.d0 ≤ 255
  d1 : 0 ≤ t.d1 ∧ t.d1 ≤ 255
  d2 : 0 ≤ t.d2 ∧ t.d2 ≤ 255
  d3 : 0 ≤ t.d3 ∧ t.d3 ≤ 255
  p : 0 ≤ t.p ∧ t.p ≤ 255
  a : 0 ≤ t.a ∧ t.a ≤ 4294967295
  b : 0 ≤ t.b ∧ t.b ≤ 4294967295
  q : 0 ≤ t.q ∧ t.q ≤ 4294967295
theorem Qt.z_ok : Qt.z.ok := by constructor <;> decide
theorem dX_u8 {l : List Int} (h : isB l) (i : Nat) : 0 ≤ dX l i ∧ dX l i ≤ 255 := by
  unfold dX
  rw [List.getD_eq_getElem?_getD]
  cases e : l[i]? with
  | none => exact ⟨by decide, by decide⟩
  | some x => exact h x (List.mem_of_getElem? e)
theorem quT_ok {l : List Int} (h : isB l) : (quT l).ok := by
  unfold quT
  split
  · have hr : isB (l.drop (hd0 l).toNat) := fun x hx => h x (List.mem_of_mem_drop hx)
    have b1 := atV_bd _ hr 0 2 (by decide)
    have b2 := atV_bd _ hr 2 2 (by decide)
    have b3 := atV_bd _ hr 4 2 (by decide)
    have b4 := atV_bd _ hr 4 4 (by decide)
    constructor
    · exact dX_u8 h 12
    · exact dX_u8 h 13
    · exact dX_u8 h 14
    · exact dX_u8 h 15
    · exact dX_u8 h 16
    · exact dX_u8 h 17
    · exact dX_u8 h 18
    · exact dX_u8 h 19
    · exact dX_u8 h 9
    · simp only [quR]; repeat' split
      all_goals omega
    · simp only [quR]; repeat' split
      all_goals omega
    · simp only [quR]; repeat' split
      all_goals omega
  · exact Qt.z_ok
theorem flat53 : flatK Try.prog 9 53 = some [some .u8, some .u8, some .u8, some .u8, some .u8, some .u8, some .u8, some .u8, some .i64, some .i64, some .i64, some .u32] := by kernel_rfl
theorem wfu8 {n : Int} (h : 0 ≤ n ∧ n ≤ 255) : (Lit.int .u8 n).wf = true := by
  simp [Lit.wf, IntKind.min, IntKind.max, IntKind.signed, IntKind.bits]
  omega
theorem wfi64 {n : Int} (h : 0 ≤ n ∧ n ≤ 4294967295) : (Lit.int .i64 n).wf = true := by
  simp [Lit.wf, IntKind.min, IntKind.max, IntKind.signed, IntKind.bits]
  omega
theorem wfu32 {n : Int} (h : 0 ≤ n ∧ n ≤ 4294967295) : (Lit.int .u32 n).wf = true := by
  simp [Lit.wf, IntKind.min, IntKind.max, IntKind.signed, IntKind.bits]
  omega
theorem fits53 {t : Qt} (h : t.ok) : FitsL [some .u8, some .u8, some .u8, some .u8, some .u8, some .u8, some .u8, some .u8, some .i64, some .i64, some .i64, some .u32] [.int .u8 t.s0, .int .u8 t.s1, .int .u8 t.s2, .int .u8 t.s3, .int .u8 t.d0, .int .u8 t.d1, .int .u8 t.d2, .int .u8 t.d3, .int .i64 t.p, .int .i64 t.a, .int .i64 t.b, .int .u32 t.q] := by
  obtain ⟨h0, h1, h2, h3, h4, h5, h6, h7, h8, h9, h10, h11⟩ := h
  exact ⟨⟨_, rfl, wfu8 h0⟩, ⟨_, rfl, wfu8 h1⟩, ⟨_, rfl, wfu8 h2⟩, ⟨_, rfl, wfu8 h3⟩, ⟨_, rfl, wfu8 h4⟩, ⟨_, rfl, wfu8 h5⟩, ⟨_, rfl, wfu8 h6⟩, ⟨_, rfl, wfu8 h7⟩, ⟨_, rfl, wfi64 ⟨h8.1, by omega⟩⟩, ⟨_, rfl, wfi64 h9⟩, ⟨_, rfl, wfi64 h10⟩, ⟨_, rfl, wfu32 h11⟩, trivial⟩
theorem formed53 (t : Qt) : (Value.agg #[.int .u8 t.s0, .int .u8 t.s1, .int .u8 t.s2, .int .u8 t.s3, .int .u8 t.d0, .int .u8 t.d1, .int .u8 t.d2, .int .u8 t.d3, .int .i64 t.p, .int .i64 t.a, .int .i64 t.b, .int .u32 t.q]).formed Try.prog 53 = true := by kernel_rfl
theorem eql53 {t : Qt} (h : t.ok) (w : World) : (binOp .eql 53 (.agg #[.int .u8 t.s0, .int .u8 t.s1, .int .u8 t.s2, .int .u8 t.s3, .int .u8 t.d0, .int .u8 t.d1, .int .u8 t.d2, .int .u8 t.d3, .int .i64 t.p, .int .i64 t.a, .int .i64 t.b, .int .u32 t.q]) (.agg #[.int .u8 t.s0, .int .u8 t.s1, .int .u8 t.s2, .int .u8 t.s3, .int .u8 t.d0, .int .u8 t.d1, .int .u8 t.d2, .int .u8 t.d3, .int .i64 t.p, .int .i64 t.a, .int .i64 t.b, .int .u32 t.q])).run Try.prog w = .ok (.bool true) w :=
  run_eql_flat (P := Try.prog) flat53 (by kernel_rfl) (fits53 h) (fits53 h) (formed53 t) (formed53 t) true (by simp) w
end Go.Proofs.Ytcfadmjihccimaa
