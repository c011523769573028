/- The walk of packhorselaw01.WordSums, at arguments of at most 2^20 bytes. -/
import Derived.Test.YtcgghjjchfafiaaWdR
import Derived.Test.YtcgghjjchfafiaaWdJ
namespace Go.Proofs.Ytcgghjjchfafiaa
set_option linter.unusedVariables false
open Go.RowKit

theorem ck_nil : ck [] = 65535 := by decide
theorem sum0 (w : World) : Calls Try.prog 28 #[.slice none 0 0] w fun e w' => e = .returned (.int .i64 65535) ∧ Fr (fun _ => False) w w' := by
  have h := sum28 none 0 [] (by simp) (by simp) (by simp) w (fun h => absurd h (by decide))
  rw [show ([] : List (List Int)).flatten = [] from rfl, ck_nil] at h
  exact h

set_option maxHeartbeats 8000000 in
set_option maxRecDepth 100000 in
theorem sums6 (A B C : Option Addr) (capa capb capc : Nat) (la lb lc : List Int) (s o n : Int) (w : World) (hA : BArg w A capa la) (hB : BArg w B capb lb) (hC : BArg w C capc lc) (hs1 : capa ≤ 1048576) (hs2 : capb ≤ 1048576) (hs3 : capc ≤ 1048576) :
    Calls Try.prog 6 #[.slice A la.length capa, .slice B lb.length capb, .slice C lc.length capc, .int .i64 s, .int .i64 o, .int .i64 n] w fun e w' => e = .returned (.bool true) ∧ Fr (fun _ => False) w w' := by
  obtain ⟨na, hna⟩ : ∃ n, n = la.length := ⟨_, rfl⟩
  obtain ⟨nb, hnb⟩ : ∃ n, n = lb.length := ⟨_, rfl⟩
  obtain ⟨nc, hnc⟩ : ∃ n, n = lc.length := ⟨_, rfl⟩
  have ha : na ≤ 1048576 := by have := hA.le; omega
  have hb : nb ≤ 1048576 := by have := hB.le; omega
  have hc : nc ≤ 1048576 := by have := hC.le; omega
  have PA := Lib.hid (show Pc w A na la from ⟨hna.symm, hA.ok, by omega, hA.here⟩)
  have PB := Lib.hid (show Pc w B nb lb from ⟨hnb.symm, hB.ok, by omega, hB.here⟩)
  have PC := Lib.hid (show Pc w C nc lc from ⟨hnc.symm, hC.ok, by omega, hC.here⟩)
  rw [← hna, ← hnb, ← hnc]
  clear hna hnb hnc hA hB hC
  go_enter Try.func6, Try.ntmps6
  go_upto_region 2 with (go_at_call 27; refine (awake27 _).mono ?_; rintro e w1 ⟨rfl, f1⟩)
  have F1 := Lib.hid f1
  have Q1 := Lib.hid (PA.out.here.fr f1 (Nat.le_refl _) (fun _ _ e => e))
  go_upto_region 3 with (at_builtin; refine wpList_appN _ rfl _ _ rfl w1.heap.size _ [] rfl (OwnB.nil _ _) w.heap.size A na capa la PA.out.len (by exact rfl) Q1.out (by simp; omega) (Nat.le_refl _) ?_; clear Q1; intro v3 w3 o3 f3)
  have f3 := f3.fromNil
  rw [List.nil_append] at o3
  have g3 := F1.out.then f3
  have Q3 := Lib.hid (PB.out.here.fr g3 (Nat.le_refl _) (fun _ _ e => e))
  have L3 := Lib.hid (show la.length + nb ≤ 140737488355328 by rw [PA.out.len]; omega)
  clear f1
  go_upto_region 4 with (at_builtin; refine wpList_appN _ rfl _ _ rfl w1.heap.size _ la (by exact rfl) o3 w.heap.size B nb capb lb PB.out.len (by exact rfl) Q3.out L3.out f3.size ?_; clear Q3; intro v4 w4 o4 f4)
  have g4 := o3.turn g3 F1.out.size f4
  have Q4 := Lib.hid (PC.out.here.fr g4 (Nat.le_refl _) (fun _ _ e => e))
  have L4 := Lib.hid (show (la ++ lb).length + nc ≤ 140737488355328 by rw [List.length_append, PA.out.len, PB.out.len]; omega)
  have hb4 : w1.heap.size ≤ w4.heap.size := by have := f3.size; have := f4.size; omega
  go_upto_region 5 with (at_builtin; refine wpList_appN _ rfl _ _ rfl w1.heap.size _ (la ++ lb) (by exact rfl) o4 w.heap.size C nc capc lc PC.out.len (by exact rfl) Q4.out L4.out hb4 ?_; clear Q4; intro v5 w5 o5 f5)
  have G5 := Lib.hid (o4.turn g4 F1.out.size f5)
  obtain ⟨A5, c5, rfl, P5⟩ := o5.part (n := na + nb + nc) (by rw [List.length_append, List.length_append, PA.out.len, PB.out.len, PC.out.len]) ((PA.out.ok.app PB.out.ok).app PC.out.ok) (by omega)
  rw [List.append_assoc] at P5
  have PD5 := Lib.hid P5
  obtain ⟨S, hS⟩ : ∃ S, S = ck (la ++ (lb ++ lc)) := ⟨_, rfl⟩
  have HS := Lib.hid hS
  have PA5 := Lib.hid (PA.out.fr G5.out)
  have PB5 := Lib.hid (PB.out.fr G5.out)
  have PC5 := Lib.hid (PC.out.fr G5.out)
  clear hS P5 o3 o4 o5 f3 f4 f5 g3 g4 F1 L3 L4 hb4 PA PB PC
  obtain ⟨T, hT⟩ : ∃ T, T = pt s o n := ⟨_, rfl⟩
  have HT1 := Lib.hid (fun w => patch30 s o n w)
  have HT2 := Lib.hid (fun w => rpatch31 s o n w)
  have HT := Lib.hid hT
  clear hT
  go_wp2_with (first
    | (go_at_call 28; refine (sum3 PA5.out PB5.out PC5.out capa capb capc _).mono ?_; clear PA5; rw [← HS.out]; rintro e w6 ⟨rfl, f6⟩; have PD6 := Lib.hid (PD5.out.fr f6))
    | (go_at_call 29; refine (rsum29 PD6.out c5).mono ?_; rw [← HS.out]; rintro e w7 ⟨rfl, hw7⟩; subst hw7; have PD7 := PD6; clear PD6)
    | (go_at_call 28; refine (sum1 PD7.out c5 _).mono ?_; clear PD7; rw [← HS.out]; rintro e w8 ⟨rfl, f8⟩; have PD8 := Lib.hid ((PD5.out.fr f6).fr f8))
    | (go_at_call 29; refine (rsum29 PD8.out c5).mono ?_; clear PD8; rw [← HS.out]; rintro e w9 ⟨rfl, hw9⟩; subst hw9)
    | (go_at_call 30; refine (HT1.out _).mono ?_; rw [← HT.out]; rintro e w10 ⟨rfl, f10⟩)
    | (go_at_call 31; refine (HT2.out _).mono ?_; rw [← HT.out]; rintro e w11 ⟨rfl, f11⟩)
    | (go_at_call 28; refine (sum0 _).mono ?_; rintro e w12 ⟨rfl, f12⟩))
  go_ret
  exact ⟨rfl, ((((G5.out.then f6).then f8).then f10).then f11).then f12⟩
end Go.Proofs.Ytcgghjjchfafiaa
