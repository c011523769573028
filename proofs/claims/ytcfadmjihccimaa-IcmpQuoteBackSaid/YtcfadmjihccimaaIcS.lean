/- same of law 12. No condition but lengths. -/
import Derived.Test.YtcfadmjihccimaaIcY
namespace Go.Proofs.Ytcfadmjihccimaa
set_option linter.unusedVariables false
set_option linter.unusedSimpArgs false
open Go.RowKit

theorem str_eqB {a b : List Int} (ha : isB a) (hb : isB b) : ((strOfNums a).toList == (strOfNums b).toList) = decide (a = b) := by
  by_cases h : a = b
  · subst h; simp
  · rw [str_ne ha hb h]; simp [h]
def sameB (m1 m2 : Im) (l1 l2 : List Int) : Bool := (m1.ty == m2.ty) && ((m1.code == m2.code) && ((m1.id == m2.id) && ((m1.seq == m2.seq) && ((m1.mtu == m2.mtu) && decide (l1 = l2)))))
theorem sameB_self (m : Im) (l : List Int) : sameB m m l l = true := by simp [sameB]
set_option maxHeartbeats 8000000 in
set_option maxRecDepth 100000 in
theorem same16 (m1 m2 : Im) (A1 A2 : Option Addr) (n1 c1 n2 c2 : Nat) (l1 l2 : List Int) (w : World) (P1 : Pc w A1 n1 l1) (P2 : Pc w A2 n2 l2) :
    Calls Try.prog 16 #[.agg #[.int .i64 m1.ty, .int .i64 m1.code, .int .i64 m1.id, .int .i64 m1.seq, .int .i64 m1.mtu, .slice A1 n1 c1], .agg #[.int .i64 m2.ty, .int .i64 m2.code, .int .i64 m2.id, .int .i64 m2.seq, .int .i64 m2.mtu, .slice A2 n2 c2]] w fun e w' => e = .returned (.bool (sameB m1 m2 l1 l2)) ∧ Fr (fun _ => False) w w' := by
  obtain ⟨w1, hw1⟩ : ∃ w1, w.alloc (.cells #[.int .i64 m1.ty, .int .i64 m1.code, .int .i64 m1.id, .int .i64 m1.seq, .int .i64 m1.mtu, .slice A1 n1 c1] 24) = w1 := ⟨_, rfl⟩
  have f1 : Fr (fun _ => False) w w1 := by rw [← hw1]; exact (Fr.refl _ w).alloc _
  have f2 : Fr (fun _ => False) w ((w.alloc (.cells #[.int .i64 m1.ty, .int .i64 m1.code, .int .i64 m1.id, .int .i64 m1.seq, .int .i64 m1.mtu, .slice A1 n1 c1] 24)).alloc (.cells #[.int .i64 m2.ty, .int .i64 m2.code, .int .i64 m2.id, .int .i64 m2.seq, .int .i64 m2.mtu, .slice A2 n2 c2] 24)) := ((Fr.refl _ w).alloc _).alloc _
  have k1 := pc_str (c := c1) (P1.fr f2)
  have k2 := pc_str (c := c2) (P2.fr f2)
  have F2 := Lib.hid f2
  obtain ⟨s, hs⟩ : ∃ s, decide (l1 = l2) = s := ⟨_, rfl⟩
  have hst : ((strOfNums l1).toList == (strOfNums l2).toList) = s := by rw [str_eqB P1.ok P2.ok, hs]
  obtain ⟨b0, h0⟩ : ∃ s, (m1.ty == m2.ty) = s := ⟨_, rfl⟩
  obtain ⟨b1, h1⟩ : ∃ s, (m1.code == m2.code) = s := ⟨_, rfl⟩
  obtain ⟨b2, h2⟩ : ∃ s, (m1.id == m2.id) = s := ⟨_, rfl⟩
  obtain ⟨b3, h3⟩ : ∃ s, (m1.seq == m2.seq) = s := ⟨_, rfl⟩
  obtain ⟨b4, h4⟩ : ∃ s, (m1.mtu == m2.mtu) = s := ⟨_, rfl⟩
  have hr : sameB m1 m2 l1 l2 = (b0 && (b1 && (b2 && (b3 && (b4 && s))))) := by unfold sameB; rw [h0, h1, h2, h3, h4, hs]
  rw [hr]
  clear hr f1 f2 hw1 hs P1 P2
  go_enter Try.func16, Try.ntmps16
  go_wp2_with fail
  all_goals go_ret
  all_goals (refine ⟨?_, F2.out⟩; simp_all)
end Go.Proofs.Ytcfadmjihccimaa
