/- The reference of law 12: laid. No condition but lengths. -/
import Derived.Test.YtcfadmjihccimaaIcI
import Derived.Test.YtcfadmjihccimaaIcM
namespace Go.Proofs.Ytcfadmjihccimaa
set_option linter.unusedVariables false
set_option linter.unusedSimpArgs false
open Go.RowKit

theorem may_rng {m : Im} (h : m.may = true) : (ec m.ty = true → 0 ≤ m.id ∧ m.id ≤ 65535 ∧ 0 ≤ m.seq ∧ m.seq ≤ 65535 ∧ m.mtu = 0) ∧ (ec m.ty = false → 0 ≤ m.mtu ∧ m.mtu ≤ 65535 ∧ m.id = 0 ∧ m.seq = 0) := by
  unfold Im.may at h
  unfold ec
  split at h
  · rename_i k
    have := of_decide_eq_true h
    refine ⟨fun _ => by omega, fun e => ?_⟩
    rcases k with k | k <;> simp [k] at e
  · rename_i k
    refine ⟨fun e => ?_, fun _ => ?_⟩
    · simp at e; exact absurd e k
    · split at h
      · have := of_decide_eq_true h; omega
      · split at h
        · have := of_decide_eq_true h
          split at this <;> omega
        · cases h
/-- A slice that the walk has just laid, as a part. -/
theorem pc_new (w : World) (l : List Int) (hl : isB l) (hn : l.length ≤ 140737488355328) (n : Nat) (hnn : l.length = n) : Pc (w.alloc (.cells (l.map (Value.int .u8)).toArray 5)) (some ⟨w.heap.size, 0, none⟩) n l :=
  ⟨hnn, hl, by omega, fun _ => ⟨w.heap.size, 0, rfl, by simp, fun j x hj => by
    rw [cell_of_row _ _ _ _ 5 (0, 0) (heap_alloc_new w _)]
    simp [hj]⟩⟩

set_option maxHeartbeats 8000000 in
set_option maxRecDepth 100000 in
theorem rlaid44 (m : Im) (A : Option Addr) (nd cd : Nat) (d : List Int) (s : Int) (w : World) (hm : m.may = true) (P : Pc w A nd d) (hn : nd ≤ 1016) (hs0 : 0 ≤ s) (hs1 : s ≤ 65535) :
    Calls Try.prog 44 #[.agg #[.int .i64 m.ty, .int .i64 m.code, .int .i64 m.id, .int .i64 m.seq, .int .i64 m.mtu, .slice A nd cd], .int .i64 s] w fun e w' => ∃ v, e = .returned v ∧ OwnB w.heap.size w' v (m.lay s d) ∧ Fr (fun _ => False) w w' := by
  have HP := Lib.hid P
  obtain ⟨⟨t0, t1⟩, c0, c1⟩ := may_bd hm
  obtain ⟨r1, r2⟩ := may_rng hm
  have HR1 := Lib.hid r1
  have HR2 := Lib.hid r2
  have HS := Lib.hid (And.intro hs0 hs1)
  have hwt : IntKind.u8.wrap m.ty = m.ty := IntWalk.u8_in _ (by omega)
  have hwc : IntKind.u8.wrap m.code = m.code := IntWalk.u8_in _ (by omega)
  have HB0 := Lib.hid (show isB [m.ty, m.code] by intro x hx; simp at hx; omega)
  clear P hm r1 r2 hs0 hs1
  have FA := Lib.hid (Fr.refl (fun _ => False) w)
  obtain ⟨b, hb⟩ : ∃ b, ec m.ty = b := ⟨_, rfl⟩
  have HEC := Lib.hid hb
  have hec : ((m.ty == 0) || (m.ty == 8)) = b := hb
  obtain ⟨e0, he0⟩ : ∃ e0, (m.ty == 0) = e0 := ⟨_, rfl⟩
  obtain ⟨e8, he8⟩ : ∃ e8, (m.ty == 8) = e8 := ⟨_, rfl⟩
  rw [he0, he8] at hec
  clear hb
  go_enter Try.func44, Try.ntmps44
  go_upto_region 1 with (fail)
  have g0 := heap_alloc_new w (.cells #[.int .i64 m.ty, .int .i64 m.code, .int .i64 m.id, .int .i64 m.seq, .int .i64 m.mtu, .slice A nd cd] 24)
  have FB := Lib.hid (FA.out.alloc (.cells #[.int .i64 m.ty, .int .i64 m.code, .int .i64 m.id, .int .i64 m.seq, .int .i64 m.mtu, .slice A nd cd] 24))
  have hz : w.heap.size < (w.alloc (.cells #[.int .i64 m.ty, .int .i64 m.code, .int .i64 m.id, .int .i64 m.seq, .int .i64 m.mtu, .slice A nd cd] 24)).heap.size := by simp
  generalize w.alloc (.cells #[.int .i64 m.ty, .int .i64 m.code, .int .i64 m.id, .int .i64 m.seq, .int .i64 m.mtu, .slice A nd cd] 24) = w1 at g0 FB hz ⊢
  have HCC := Lib.hid (fun (w' : World) (k : Fr (fun _ => False) w1 w') => cells_at w' w.heap.size [.int .i64 m.ty, .int .i64 m.code, .int .i64 m.id, .int .i64 m.seq, .int .i64 m.mtu, .slice A nd cd] 24 ((k.block _ hz (fun e => e)).trans g0))
  have HZ := Lib.hid hz
  clear g0 hz
  have q0 := HCC.out w1 (Fr.refl _ _) 0 _ rfl
  have q1 := HCC.out w1 (Fr.refl _ _) 1 _ rfl
  go_upto_region 2 with (fail)
  have P1 := Lib.hid (pc_new w1 [m.ty, m.code] HB0.out (by simp) 2 rfl)
  have F1 := Lib.hid ((Fr.refl (fun _ => False) w1).alloc (.cells #[.int .u8 m.ty, .int .u8 m.code] 5))
  clear q0 q1
  go_upto_region 3 with (go_at_call 66; refine (rput35 _ 2 2 2 [m.ty, m.code] s _ (by exact P1.out) (by decide) (by decide) (by decide) HS.out.1 (by have := HS.out.2; omega)).mono ?_; rw [dg2]; rintro e w2 ⟨v2, rfl, o2, f2⟩; have O2 := Lib.hid o2; have F2 := Lib.hid (F1.out.then' f2); clear o2 f2)
  obtain ⟨A2, cp2, rfl, hb2, hc2, hm2⟩ := O2.out.cap (n := 4) rfl
  have hs2 : w1.heap.size < (w1.alloc (.cells #[.int .u8 m.ty, .int .u8 m.code] 5)).heap.size := by simp
  have O2 := Lib.hid (O2.out.base (base' := w1.heap.size) (by omega))
  have P2 := Lib.hid (O2.out.pc (n := 4) rfl (HB0.out.app (by16_ok s)) (by decide)).1
  clear hb2 hc2 hm2 hs2
  have q0 := HCC.out w2 F2.out 0 _ rfl
  have hne : ec m.ty = false ∨ (ec m.ty = true ∧ e0 = true) ∨ (ec m.ty = true ∧ e0 = false ∧ e8 = true) := by
    have h : (e0 || e8) = ec m.ty := by rw [hec]; exact HEC.out.symm
    cases e0 <;> cases e8 <;> simp at h <;> simp [← h]
  have hrest : ∀ (v5 : Value) (wc : World), OwnB w1.heap.size wc v5 ([m.ty, m.code] ++ by16 s ++ m.mid) ∧ Fr (fun _ => False) w1 wc → True := fun _ _ _ => trivial
  clear hrest hec HEC
  rcases hne with hne | hne | hne
  · have hr := HR2.out hne
    have HEC := Lib.hid hne
    have h00 : e0 = false ∧ e8 = false := by
      unfold ec at hne; rw [he0, he8] at hne; simpa using hne
    obtain ⟨rfl, rfl⟩ := h00
    have q4 := HCC.out w2 F2.out 4 _ rfl
    clear hne
    have HR := Lib.hid hr
    clear hr
    have P2a := Lib.hid (show Pc (w2.alloc (.cells #[.int .u8 0, .int .u8 0] 5)) (some ⟨w2.heap.size, 0, none⟩) 2 [0, 0] from pc_new w2 [0, 0] (by intro x hx; simp at hx; omega) (by decide) 2 rfl)
    have O2a := Lib.hid (O2.out.fr0 ((Fr.refl _ w2).alloc (.cells #[.int .u8 0, .int .u8 0] 5)))
    have Z2 := Lib.hid (show w1.heap.size ≤ (w2.alloc (.cells #[.int .u8 0, .int .u8 0] 5)).heap.size by have := F2.out.size; simp; omega)
    have F2a := Lib.hid ((Fr.refl (fun i => (Value.slice A2 4 cp2).ownBlock = some i) w2).alloc (.cells #[.int .u8 0, .int .u8 0] 5))
    as_aux_lemma =>
    go_upto_region 7 with (at_builtin; refine wpList_appN _ rfl _ _ rfl w1.heap.size _ ([m.ty, m.code] ++ by16 s) (by exact rfl) O2a.out _ (some ⟨w2.heap.size, 0, none⟩) 2 2 [0, 0] rfl (by exact rfl) P2a.out.here (by simp [by16]) Z2.out ?_; intro v3 w3 o3 f3; have O3 := Lib.hid o3; have F3 := Lib.hid (O2.out.turn F2.out (Nat.le_refl _) (F2a.out.trans f3 (fun _ _ e => e))); clear o3 f3)
    clear q0 q4
    obtain ⟨A3, cp3, rfl, hb3, hc3, hm3⟩ := O3.out.cap (n := 6) rfl
    have P3 := Lib.hid (OwnB.pc O3.out (n := 6) rfl ((HB0.out.app (by16_ok s)).app (by intro x hx; simp at hx; omega)) (by decide)).1
    clear hb3 hc3 hm3
    have q4 := HCC.out w3 F3.out 4 _ rfl
    go_upto_region 8 with (go_at_call 66; refine (rput35 _ 6 cp3 2 ([m.ty, m.code] ++ by16 s ++ [0, 0]) m.mtu _ P3.out (by decide) (by decide) (by decide) HR.out.1 (by have := HR.out.2.1; omega)).mono ?_; rw [dg2]; rintro e w4 ⟨v4, rfl, o4, f4⟩; have O4 := Lib.hid o4; have F4 := Lib.hid (F3.out.then' f4); have Z4 := Lib.hid f4.size; clear o4 f4)
    clear q4
    have O4 := Lib.hid (show OwnB w1.heap.size w4 v4 ([m.ty, m.code] ++ by16 s ++ m.mid) from by
      have h := O4.out.base (base' := w1.heap.size) F3.out.size
      unfold Im.mid
      rw [HEC.out]
      simpa [List.append_assoc, by16] using h)
    have q5 := HCC.out w4 F4.out 5 _ rfl
    have PD := Lib.hid (HP.out.fr (FB.out.then' F4.out))
    have HL5 := Lib.hid (show ([m.ty, m.code] ++ by16 s ++ m.mid).length = 8 by unfold Im.mid; split <;> rfl)
    go_wp2_with (at_builtin; refine wpList_appN _ rfl _ _ rfl w1.heap.size _ ([m.ty, m.code] ++ by16 s ++ m.mid) (by exact rfl) O4.out w4.heap.size A nd cd d PD.out.len (by exact rfl) PD.out.here (by rw [HL5.out]; omega) F4.out.size ?_; intro v9 w9 o9 f9; have G9 := Lib.hid (O4.out.turn F4.out (Nat.le_refl _) f9); have O9 := Lib.hid o9; clear o9 f9)
    go_ret
    refine ⟨_, rfl, ?_, FB.out.trans G9.out (fun _ _ e => e)⟩
    have hzz := HZ.out
    unfold Im.lay
    rw [← List.append_assoc]
    exact O9.out.base (by omega)
  all_goals
    obtain ⟨hne, he⟩ := hne
    have hr := HR1.out hne
    have HEC := Lib.hid hne
    first
      | (obtain ⟨h1, h2⟩ := he; subst h1; subst h2)
      | subst he
    have q4 := HCC.out w2 F2.out 2 _ rfl
    clear hne
    have HR := Lib.hid hr
    clear hr
    as_aux_lemma =>
      go_upto_region 5 with (go_at_call 66; refine (rput35 _ 4 cp2 2 ([m.ty, m.code] ++ by16 s) m.id _ P2.out (by decide) (by decide) (by decide) HR.out.1 (by have := HR.out.2.1; omega)).mono ?_; rw [dg2]; rintro e w3 ⟨v3, rfl, o3, f3⟩; have O3 := Lib.hid o3; have F3 := Lib.hid (F2.out.then' f3); clear o3 f3)
      clear q0 q4
      obtain ⟨A3, cp3, rfl, hb3, hc3, hm3⟩ := O3.out.cap (n := 6) rfl
      have P3 := Lib.hid (OwnB.pc O3.out (n := 6) rfl ((HB0.out.app (by16_ok s)).app (by16_ok m.id)) (by decide)).1
      clear hb3 hc3 hm3
      have q4 := HCC.out w3 F3.out 3 _ rfl
      go_upto_region 8 with (go_at_call 66; refine (rput35 _ 6 cp3 2 ([m.ty, m.code] ++ by16 s ++ by16 m.id) m.seq _ P3.out (by decide) (by decide) (by decide) HR.out.2.2.1 (by have := HR.out.2.2.2.1; omega)).mono ?_; rw [dg2]; rintro e w4 ⟨v4, rfl, o4, f4⟩; have O4 := Lib.hid o4; have F4 := Lib.hid (F3.out.then' f4); clear o4 f4)
      clear q4
      have O4 := Lib.hid (show OwnB w1.heap.size w4 v4 ([m.ty, m.code] ++ by16 s ++ m.mid) from by
        have h := O4.out.base (base' := w1.heap.size) F3.out.size
        unfold Im.mid
        rw [HEC.out]
        simpa [List.append_assoc] using h)
      have q5 := HCC.out w4 F4.out 5 _ rfl
      have PD := Lib.hid (HP.out.fr (FB.out.then' F4.out))
      have HL5 := Lib.hid (show ([m.ty, m.code] ++ by16 s ++ m.mid).length = 8 by unfold Im.mid; split <;> rfl)
      go_wp2_with (at_builtin; refine wpList_appN _ rfl _ _ rfl w1.heap.size _ ([m.ty, m.code] ++ by16 s ++ m.mid) (by exact rfl) O4.out w4.heap.size A nd cd d PD.out.len (by exact rfl) PD.out.here (by rw [HL5.out]; omega) F4.out.size ?_; intro v9 w9 o9 f9; have G9 := Lib.hid (O4.out.turn F4.out (Nat.le_refl _) f9); have O9 := Lib.hid o9; clear o9 f9)
      go_ret
      refine ⟨_, rfl, ?_, FB.out.trans G9.out (fun _ _ e => e)⟩
      have hzz := HZ.out
      unfold Im.lay
      rw [← List.append_assoc]
      exact O9.out.base (by omega)
end Go.Proofs.Ytcfadmjihccimaa
