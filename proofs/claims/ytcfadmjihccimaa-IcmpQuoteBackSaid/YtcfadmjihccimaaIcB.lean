/- laid of package icmp: a message's bytes with a sum. No condition but lengths. -/
import Derived.Test.YtcfadmjihccimaaIcA
import Derived.Test.YtcfadmjihccimaaWdR
import Derived.Deep.RegionHeldLaw
import Derived.Deep.DeepCutAuto
import Derived.Deep.DeepMust
namespace Go.Proofs.Ytcfadmjihccimaa
set_option linter.unusedVariables false
open Go.RowKit

def Im.mid (m : Im) : List Int := if ec m.ty = true then by16 m.id ++ by16 m.seq else by16 0 ++ by16 m.mtu
def Im.lay (m : Im) (s : Int) (d : List Int) : List Int := [m.ty, m.code] ++ by16 s ++ (m.mid ++ d)
theorem cells_at (w : World) (b : Nat) (cs : List Value) (t : TypeId) (h : w.heap[b]? = some (.cells cs.toArray t)) (j : Nat) (v : Value) (hj : cs[j]? = some v) : w.cell? ⟨b, j, none⟩ = some v := by
  rw [cell_of_row w b j cs.toArray t (0, 0) h]; simpa using hj

set_option maxHeartbeats 8000000 in
set_option maxRecDepth 100000 in
theorem laid41 (m : Im) (A : Option Addr) (nd cd : Nat) (d : List Int) (s : Int) (w : World) (ht : 0 ≤ m.ty ∧ m.ty < 256) (hc : 0 ≤ m.code ∧ m.code < 256) (P : Pc w A nd d) (hn : nd ≤ 100000) :
    Calls Try.prog 41 #[.agg #[.int .i64 m.ty, .int .i64 m.code, .int .i64 m.id, .int .i64 m.seq, .int .i64 m.mtu, .slice A nd cd], .int .i64 s] w fun e w' => ∃ v, e = .returned v ∧ OwnB w.heap.size w' v (m.lay s d) ∧ Fr (fun _ => False) w w' := by
  have HP := Lib.hid P
  clear P
  have FA := Lib.hid (Fr.refl (fun _ => False) w)
  go_enter Try.func41, Try.ntmps41
  go_upto_region 1 with (fail)
  have g0 := heap_alloc_new w (.cells #[.int .i64 m.ty, .int .i64 m.code, .int .i64 m.id, .int .i64 m.seq, .int .i64 m.mtu, .slice A nd cd] 24)
  have FB := Lib.hid (FA.out.alloc (.cells #[.int .i64 m.ty, .int .i64 m.code, .int .i64 m.id, .int .i64 m.seq, .int .i64 m.mtu, .slice A nd cd] 24))
  have hz : w.heap.size < (w.alloc (.cells #[.int .i64 m.ty, .int .i64 m.code, .int .i64 m.id, .int .i64 m.seq, .int .i64 m.mtu, .slice A nd cd] 24)).heap.size := by simp
  generalize w.alloc (.cells #[.int .i64 m.ty, .int .i64 m.code, .int .i64 m.id, .int .i64 m.seq, .int .i64 m.mtu, .slice A nd cd] 24) = w1 at g0 FB hz ⊢
  have HC : ∀ w', Fr (fun _ => False) w1 w' → w'.cell? ⟨w.heap.size, 0, none⟩ = some (.int .i64 m.ty) ∧ w'.cell? ⟨w.heap.size, 1, none⟩ = some (.int .i64 m.code) ∧ w'.cell? ⟨w.heap.size, 2, none⟩ = some (.int .i64 m.id) ∧ w'.cell? ⟨w.heap.size, 3, none⟩ = some (.int .i64 m.seq) ∧ w'.cell? ⟨w.heap.size, 4, none⟩ = some (.int .i64 m.mtu) ∧ w'.cell? ⟨w.heap.size, 5, none⟩ = some (.slice A nd cd) := fun w' k => by
    have h := cells_at w' w.heap.size [.int .i64 m.ty, .int .i64 m.code, .int .i64 m.id, .int .i64 m.seq, .int .i64 m.mtu, .slice A nd cd] 24 ((k.block _ hz (fun e => e)).trans g0)
    exact ⟨h 0 _ rfl, h 1 _ rfl, h 2 _ rfl, h 3 _ rfl, h 4 _ rfl, h 5 _ rfl⟩
  have HCC := Lib.hid HC
  clear g0 HC
  have c1 := HCC.out w1 (Fr.refl _ _)
  have hzN := Lib.hid hz
  clear hz
  go_upto_region 2 with (go_at_call 63; refine (put32N (n := 2) 2 (w1.heap.size + 1) [m.ty, m.code] s _ rfl (by exact bytes_lit _ [m.ty, m.code]) (by decide) (by simp)).mono ?_; rintro e w2 ⟨v2, rfl, o2, f2⟩; have O2 := Lib.hid o2; have F2 := Lib.hid (((Fr.refl (fun _ => False) w1).alloc _).then f2); clear o2 f2)
  clear c1
  obtain ⟨A2, cp2, rfl, hb2, hc2, hm2⟩ := O2.out.cap (n := 4) rfl
  have O2 := Lib.hid (O2.out.base (base' := w1.heap.size) (by simp))
  have HB2 := Lib.hid hb2
  clear hb2
  obtain ⟨b, hb⟩ : ∃ b, ec m.ty = b := ⟨_, rfl⟩
  have HEC := Lib.hid hb
  clear hb
  have c2 := (HCC.out w2 F2.out).1
  go_upto_if 17 with (go_at_call 48; refine (echo48 m.ty _).mono ?_; rw [HEC.out]; rintro e w3 ⟨rfl, hw⟩; have hw := hw.symm; subst hw)
  clear c2
  have s12 := F2.out.size
  go_cut [5] (fun v5 wc => OwnB w1.heap.size wc v5 ([m.ty, m.code] ++ by16 s ++ m.mid) ∧ Fr (fun _ => False) w1 wc)
  case first =>
    have HK := Lib.hid (fun w' (k : Fr (fun _ => False) w2 w') => HCC.out w' (F2.out.trans k (fun _ _ e => e)))
    have T1 := Lib.hid True.intro
    cases b
    · go_upto_region 4 with (fail)
      go_region_held_law (fun w' => w'.cell? ⟨w.heap.size, 4, none⟩ = some (.int .i64 m.mtu))
        (first | exact (HK.out _ (Fr.refl _ _)).2.2.2.2.1 | exact (HK.out _ (Fr.refl _ _).drew).2.2.2.2.1 | exact (HK.out _ (by assumption)).2.2.2.2.1)
        (first
          | (have TK := T1.out; go_at_call 63; go_must (refine (put32N (n := 4) cp2 w2.heap.size ([m.ty, m.code] ++ by16 s) 0 _ rfl (by exact HB2.out) (by decide) (by exact Nat.le_refl _)).mono ?_); rintro e w4 ⟨v4, rfl, o4, f4⟩; obtain ⟨A4, cp4, rfl, hb4, hc4, hm4⟩ := o4.cap (n := 6) rfl; have f4b : Fr (fun _ => False) w2 w4 := (((Fr.refl (fun _ => False) w2).drew).trans f4 (fun _ _ e => e)); have HB4 := Lib.hid hb4; have F4 := Lib.hid f4b; clear T1 TK hb4 o4 f4)
          | (go_at_call 63; go_must (refine (put32N (n := 6) cp4 w4.heap.size ([m.ty, m.code] ++ by16 s ++ by16 0) m.mtu _ rfl (by exact HB4.out) (by decide) (by exact Nat.le_refl _)).mono ?_); rintro e w5 ⟨v5, rfl, o5, f5⟩; have f5b : Fr (fun _ => False) w2 w5 := F4.out.trans f5 (fun _ _ e => e); have F5 := Lib.hid f5b; have O5 := Lib.hid o5; clear o5 f5))
      all_goals go_wp2_with fail
      all_goals go_meet
      all_goals refine ⟨?_, F2.out.trans F5.out (fun _ _ e => e)⟩
      all_goals have hs4 := F4.out.size
      all_goals unfold Im.mid
      all_goals rw [HEC.out]
      all_goals exact (by simpa [List.append_assoc] using O5.out.base (base' := w1.heap.size) (by omega))
    · go_upto_region 3 with (fail)
      go_region_held_law (fun w' => w'.cell? ⟨w.heap.size, 2, none⟩ = some (.int .i64 m.id) ∧ w'.cell? ⟨w.heap.size, 3, none⟩ = some (.int .i64 m.seq))
        (first | exact ⟨(HK.out _ (Fr.refl _ _)).2.2.1, (HK.out _ (Fr.refl _ _)).2.2.2.1⟩ | exact ⟨(HK.out _ (Fr.refl _ _).drew).2.2.1, (HK.out _ (Fr.refl _ _).drew).2.2.2.1⟩ | exact ⟨(HK.out _ (by assumption)).2.2.1, (HK.out _ (by assumption)).2.2.2.1⟩)
        (first
          | (have TK := T1.out; go_at_call 63; go_must (refine (put32N (n := 4) cp2 w2.heap.size ([m.ty, m.code] ++ by16 s) m.id _ rfl (by exact HB2.out) (by decide) (by exact Nat.le_refl _)).mono ?_); rintro e w4 ⟨v4, rfl, o4, f4⟩; obtain ⟨A4, cp4, rfl, hb4, hc4, hm4⟩ := o4.cap (n := 6) rfl; have f4b : Fr (fun _ => False) w2 w4 := (((Fr.refl (fun _ => False) w2).drew).trans f4 (fun _ _ e => e)); have HB4 := Lib.hid hb4; have F4 := Lib.hid f4b; clear T1 TK hb4 o4 f4)
          | (go_at_call 63; go_must (refine (put32N (n := 6) cp4 w4.heap.size ([m.ty, m.code] ++ by16 s ++ by16 m.id) m.seq _ rfl (by exact HB4.out) (by decide) (by exact Nat.le_refl _)).mono ?_); rintro e w5 ⟨v5, rfl, o5, f5⟩; have f5b : Fr (fun _ => False) w2 w5 := F4.out.trans f5 (fun _ _ e => e); have F5 := Lib.hid f5b; have O5 := Lib.hid o5; clear o5 f5))
      all_goals go_wp2_with fail
      all_goals go_meet
      all_goals refine ⟨?_, F2.out.trans F5.out (fun _ _ e => e)⟩
      all_goals have hs4 := F4.out.size
      all_goals unfold Im.mid
      all_goals rw [HEC.out]
      all_goals exact (by simpa [List.append_assoc] using O5.out.base (base' := w1.heap.size) (by omega))
  case rest =>
    obtain ⟨o5, f5⟩ := hcut
    have c5 := (HCC.out wc f5).2.2.2.2.2
    have PD := Lib.hid (HP.out.fr (FB.out.trans f5 (fun _ _ e => e)))
    have O5 := Lib.hid o5
    have F5 := Lib.hid f5
    have h15 := f5.size
    have hl5 : ([m.ty, m.code] ++ by16 s ++ m.mid).length = 8 := by unfold Im.mid; split <;> rfl
    have HL5 := Lib.hid hl5
    clear o5 f5 hl5
    go_wp2_with (at_builtin; refine wpList_appN _ rfl _ _ rfl w1.heap.size _ ([m.ty, m.code] ++ by16 s ++ m.mid) (by exact rfl) O5.out wc.heap.size A nd cd d PD.out.len (by exact rfl) PD.out.here (by rw [HL5.out]; omega) h15 ?_; intro v9 w9 o9 f9; have G9 := Lib.hid (O5.out.turn F5.out (Nat.le_refl _) f9); have O9 := Lib.hid o9; clear o9 f9)
    go_ret
    refine ⟨_, rfl, ?_, FB.out.trans G9.out (fun _ _ e => e)⟩
    have hzz := hzN.out
    unfold Im.lay
    rw [← List.append_assoc]
    exact O9.out.base (by omega)
end Go.Proofs.Ytcfadmjihccimaa
