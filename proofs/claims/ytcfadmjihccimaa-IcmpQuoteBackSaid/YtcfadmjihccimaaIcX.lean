/- The reference of law 12: Encode. No condition but lengths. -/
import Derived.Test.YtcfadmjihccimaaIcJ
namespace Go.Proofs.Ytcfadmjihccimaa
set_option linter.unusedVariables false
set_option linter.unusedSimpArgs false
open Go.RowKit

theorem box_range (w : World) (cs : List Value) (t : TypeId) : ∀ w', Fr (fun _ => False) (w.alloc (.cells cs.toArray t)) w' → w'.rangeAt w.heap.size 0 cs := fun w' k j v hj => by
  rw [Nat.zero_add]
  exact cells_at w' w.heap.size cs t ((k.block _ (by simp) (fun e => e)).trans (heap_alloc_new w _)) j v hj

set_option maxHeartbeats 8000000 in
set_option maxRecDepth 100000 in
theorem rencode13_long (m : Im) (A : Option Addr) (nd cd : Nat) (w : World) (hn : 1016 < nd) :
    Calls Try.prog 13 #[.agg #[.int .i64 m.ty, .int .i64 m.code, .int .i64 m.id, .int .i64 m.seq, .int .i64 m.mtu, .slice A nd cd]] w fun e w' => e = .returned (.tuple #[.slice none 0 0, .int .i64 2]) ∧ Fr (fun _ => False) w w' := by
  have FA := Lib.hid (Fr.refl (fun _ => False) w)
  go_enter Try.func13, Try.ntmps13
  go_wp2_with fail
  go_ret2
  exact ⟨rfl, FA.out.alloc _⟩
set_option maxHeartbeats 8000000 in
set_option maxRecDepth 100000 in
theorem rencode13_bad (m : Im) (A : Option Addr) (nd cd : Nat) (w : World) (hn : nd ≤ 1016) (hm : m.may = false) :
    Calls Try.prog 13 #[.agg #[.int .i64 m.ty, .int .i64 m.code, .int .i64 m.id, .int .i64 m.seq, .int .i64 m.mtu, .slice A nd cd]] w fun e w' => e = .returned (.tuple #[.slice none 0 0, .int .i64 1]) ∧ Fr (fun _ => False) w w' := by
  have HM := Lib.hid hm
  clear hm
  have FA := Lib.hid (Fr.refl (fun _ => False) w)
  go_enter Try.func13, Try.ntmps13
  go_wp2_with (go_at_call 43; refine (rmay43 m.ty m.code m.id m.seq m.mtu _ _).mono ?_; rw [HM.out]; rintro e w1 ⟨rfl, f1⟩)
  go_ret2
  exact ⟨rfl, (FA.out.alloc _).then' f1⟩
set_option maxHeartbeats 8000000 in
set_option maxRecDepth 100000 in
theorem rencode13_ok (m : Im) (A : Option Addr) (nd cd : Nat) (d : List Int) (w : World) (hn : nd ≤ 1016) (hm : m.may = true) (P : Pc w A nd d) :
    Calls Try.prog 13 #[.agg #[.int .i64 m.ty, .int .i64 m.code, .int .i64 m.id, .int .i64 m.seq, .int .i64 m.mtu, .slice A nd cd]] w fun e w' => ∃ v, e = .returned (.tuple #[v, .int .i64 0]) ∧ OwnB w.heap.size w' v (m.lay (ck (m.lay 0 d)) d) ∧ Fr (fun _ => False) w w' := by
  have HM := Lib.hid hm
  have HP := Lib.hid P
  have HB := Lib.hid (isB_lay hm 0 P.ok)
  have HL := Lib.hid (show (m.lay 0 d).length = 8 + nd by rw [lay_len, P.len])
  have HCK := Lib.hid (show 0 ≤ ck (m.lay 0 d) ∧ ck (m.lay 0 d) ≤ 65535 by have := nrm_bd (wt_nonneg false _ HB.out); unfold ck; omega)
  clear hm P
  have FA := Lib.hid (Fr.refl (fun _ => False) w)
  go_enter Try.func13, Try.ntmps13
  go_upto_region 1 with (fail)
  have HBX1 := Lib.hid (box_range w [.int .i64 m.ty, .int .i64 m.code, .int .i64 m.id, .int .i64 m.seq, .int .i64 m.mtu, .slice A nd cd] 24)
  have FB := Lib.hid (FA.out.alloc (.cells #[.int .i64 m.ty, .int .i64 m.code, .int .i64 m.id, .int .i64 m.seq, .int .i64 m.mtu, .slice A nd cd] 24))
  generalize w.alloc (.cells #[.int .i64 m.ty, .int .i64 m.code, .int .i64 m.id, .int .i64 m.seq, .int .i64 m.mtu, .slice A nd cd] 24) = w1 at HBX1 FB ⊢
  obtain ⟨mb, hmb⟩ : ∃ mb, w.heap.size = mb := ⟨_, rfl⟩
  have HMB := Lib.hid hmb
  rw [hmb] at HBX1 ⊢
  clear hmb
  have hc := HBX1.out w1 (Fr.refl _ _)
  have q0 := hc 0 _ rfl
  have q1 := hc 1 _ rfl
  have q2 := hc 2 _ rfl
  have q3 := hc 3 _ rfl
  have q4 := hc 4 _ rfl
  have q5 := hc 5 _ rfl
  simp only [Nat.zero_add] at q0 q1 q2 q3 q4 q5
  clear hc
  go_upto_region 6 with (go_at_call 43; refine (rmay43 m.ty m.code m.id m.seq m.mtu _ _).mono ?_; rw [show Im.may ⟨m.ty, m.code, m.id, m.seq, m.mtu⟩ = true from HM.out]; rintro e w2 ⟨rfl, f2⟩; have F2 := Lib.hid f2; clear f2)
  clear q0 q1 q2 q3 q4 q5
  have HBX := Lib.hid (fun (w' : World) (k : Fr (fun _ => False) w2 w') => HBX1.out w' (F2.out.then' k))
  have FW2 := Lib.hid (FB.out.then' F2.out)
  have P2 := Lib.hid (HP.out.fr FW2.out)
  clear HBX1 F2
  refine kr_start [(0, fun W => W.rangeAt mb 0 [.int .i64 m.ty, .int .i64 m.code, .int .i64 m.id, .int .i64 m.seq, .int .i64 m.mtu, .slice A nd cd]), (1, fun W => W.rangeAt mb 0 [.int .i64 m.ty, .int .i64 m.code, .int .i64 m.id, .int .i64 m.seq, .int .i64 m.mtu, .slice A nd cd])] (by kernel_rfl) (by kernel_rfl) ?_
  refine kr_take 0 rfl (by kernel_rfl) (by kernel_rfl) (by kernel_rfl) (fun _ _ _ h => h) (yieldsIf_load_mid (by rfl) 24 _ rfl mb 0 rfl [.int .i64 m.ty, .int .i64 m.code, .int .i64 m.id, .int .i64 m.seq, .int .i64 m.mtu, .slice A nd cd] _ (fun _ h => h) Try.underlying24 rfl (by kernel_rfl)) (show _ from HBX.out _ (Fr.refl _ _).drew) ?_
  try simp only [Act.put, List.getElem_toArray, List.getElem_cons_zero, List.getElem_cons_succ, List.setIfInBounds_toArray, List.set_cons_zero, List.set_cons_succ]
  refine kr_take 1 rfl (by kernel_rfl) (by kernel_rfl) (by kernel_rfl) (fun _ _ _ h => h) (yieldsIf_load_mid (by rfl) 24 _ rfl mb 0 rfl [.int .i64 m.ty, .int .i64 m.code, .int .i64 m.id, .int .i64 m.seq, .int .i64 m.mtu, .slice A nd cd] _ (fun _ h => h) Try.underlying24 rfl (by kernel_rfl)) (show _ from HBX.out _ (Fr.refl _ _).drew) ?_
  try simp only [Act.put, List.getElem_toArray, List.getElem_cons_zero, List.getElem_cons_succ, List.setIfInBounds_toArray, List.set_cons_zero, List.set_cons_succ]
  refine kr_one 2 (by kernel_rfl) rfl (by rfl) (fun K hK => ?_)
  go_simp
  go_at_call 44
  refine (rlaid44 m A nd cd d 0 _ HM.out (P2.out.fr (Fr.refl _ w2).drew) hn (by decide) (by decide)).mono ?_
  rintro e w4 ⟨v4, rfl, o4, f4⟩
  obtain ⟨A4, cp4, rfl, hb4, hc4, hm4⟩ := o4.cap (n := 8 + nd) HL.out
  have P4 := Lib.hid (OwnB.pc o4 HL.out HB.out (by omega)).1
  have F4 := Lib.hid (((Fr.refl (fun _ => False) w2).drew).then' f4)
  clear hb4 hc4 hm4 o4 f4
  refine hK.out _ _ ⟨.inr (HBX.out _ F4.out), .inl (by kernel_rfl), trivial⟩ ?_
  clear hK K
  try simp only [Act.put, List.getElem_toArray, List.getElem_cons_zero, List.getElem_cons_succ, List.setIfInBounds_toArray, List.set_cons_zero, List.set_cons_succ]
  refine kr_one 3 (by kernel_rfl) rfl (by rfl) (fun K hK => ?_)
  go_simp
  go_at_call 45
  refine (rsum29 P4.out _).mono ?_
  rintro e w5 ⟨rfl, hw⟩
  have hw := hw.symm
  subst hw
  refine hK.out _ _ ⟨.inr (HBX.out _ F4.out), .inl (by kernel_rfl), trivial⟩ ?_
  clear hK K
  try simp only [Act.put, List.getElem_toArray, List.getElem_cons_zero, List.getElem_cons_succ, List.setIfInBounds_toArray, List.set_cons_zero, List.set_cons_succ]
  refine kr_one 4 (by kernel_rfl) rfl (by rfl) (fun K hK => ?_)
  go_simp
  go_at_call 44
  refine (rlaid44 m A nd cd d (ck (m.lay 0 d)) _ HM.out (P2.out.fr F4.out) hn HCK.out.1 HCK.out.2).mono ?_
  rintro e w6 ⟨v6, rfl, o6, f6⟩
  have O6 := Lib.hid o6
  have F6 := Lib.hid (F4.out.then' f6)
  clear o6 f6
  refine hK.out _ _ ⟨.inl (by kernel_rfl), .inl (by kernel_rfl), trivial⟩ ?_
  clear hK K
  try simp only [Act.put, List.getElem_toArray, List.getElem_cons_zero, List.getElem_cons_succ, List.setIfInBounds_toArray, List.set_cons_zero, List.set_cons_succ]
  refine kr_find 5 rfl (by kernel_rfl) (by kernel_rfl) (by kernel_rfl) (fun _ _ _ _ h => h) (by rfl) trivial ?_
  apply Exists.intro; apply And.intro
  · intro w' hS K hK
    clear hS
    go_light
    go_simp
    exact hK.out
  try simp only [Act.put, List.getElem_toArray, List.getElem_cons_zero, List.getElem_cons_succ, List.setIfInBounds_toArray, List.set_cons_zero, List.set_cons_succ]
  refine kr_find 6 rfl (by kernel_rfl) (by kernel_rfl) (by kernel_rfl) (fun _ _ _ _ h => h) (by rfl) trivial ?_
  apply Exists.intro; apply And.intro
  · intro w' hS K hK
    clear hS
    go_light
    go_simp
    exact hK.out
  try simp only [Act.put, List.getElem_toArray, List.getElem_cons_zero, List.getElem_cons_succ, List.setIfInBounds_toArray, List.set_cons_zero, List.set_cons_succ]
  refine kr_done (by kernel_rfl) ?_ _
  go_wp2_with fail
  go_ret2
  refine ⟨_, rfl, ?_, FW2.out.then' F6.out⟩
  have h1 := FW2.out.size
  have h2 := F4.out.size
  exact O6.out.base (by omega)
end Go.Proofs.Ytcfadmjihccimaa
