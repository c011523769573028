/- Encode of package icmp. No condition but lengths. -/
import Derived.Test.YtcfadmjihccimaaIcB
namespace Go.Proofs.Ytcfadmjihccimaa
set_option linter.unusedVariables false
open Go.RowKit

theorem Fr.then' {a b c : World} (h : Fr (fun _ => False) a b) (k : Fr (fun _ => False) b c) : Fr (fun _ => False) a c := h.trans k (fun _ _ e => e)
theorem may_bd {m : Im} (h : m.may = true) : (0 ≤ m.ty ∧ m.ty < 256) ∧ (0 ≤ m.code ∧ m.code < 256) := by
  unfold Im.may at h
  split at h
  · rename_i k; have := of_decide_eq_true h; omega
  · split at h
    · have := of_decide_eq_true h; omega
    · split at h
      · have := of_decide_eq_true h; omega
      · cases h
theorem lay_len (m : Im) (s : Int) (d : List Int) : (m.lay s d).length = 8 + d.length := by
  unfold Im.lay Im.mid
  split <;> simp [by16] <;> omega
theorem isB_lay {m : Im} (h : m.may = true) (s : Int) {d : List Int} (hd : isB d) : isB (m.lay s d) := by
  obtain ⟨⟨a, b⟩, c, e⟩ := may_bd h
  unfold Im.lay Im.mid
  intro x hx
  simp only [List.mem_append, List.mem_cons, List.not_mem_nil, or_false] at hx
  rcases hx with ((rfl | rfl) | hx) | hx | hx
  · omega
  · omega
  · exact by16_ok _ x hx
  · split at hx
    · exact (List.mem_append.1 hx).elim (by16_ok _ x) (by16_ok _ x)
    · exact (List.mem_append.1 hx).elim (by16_ok _ x) (by16_ok _ x)
  · exact hd x hx

set_option maxHeartbeats 8000000 in
set_option maxRecDepth 100000 in
theorem encode12_bad (m : Im) (A : Option Addr) (nd cd : Nat) (w : World) (hn : nd ≤ 1016) (hm : m.may = false) :
    Calls Try.prog 12 #[.agg #[.int .i64 m.ty, .int .i64 m.code, .int .i64 m.id, .int .i64 m.seq, .int .i64 m.mtu, .slice A nd cd]] w fun e w' => e = .returned (.tuple #[.slice none 0 0, .int .i64 1]) ∧ Fr (fun _ => False) w w' := by
  have HM := Lib.hid hm
  clear hm
  have FA := Lib.hid (Fr.refl (fun _ => False) w)
  go_enter Try.func12, Try.ntmps12
  go_wp2_with (go_at_call 40; refine (may40P m.ty m.code m.id m.seq m.mtu _ _).mono ?_; rw [HM.out]; rintro e w1 ⟨rfl, f1⟩)
  go_ret2
  exact ⟨rfl, (FA.out.alloc _).then' f1⟩
set_option maxHeartbeats 8000000 in
set_option maxRecDepth 100000 in
theorem encode12_long (m : Im) (A : Option Addr) (nd cd : Nat) (w : World) (hn : 1016 < nd) :
    Calls Try.prog 12 #[.agg #[.int .i64 m.ty, .int .i64 m.code, .int .i64 m.id, .int .i64 m.seq, .int .i64 m.mtu, .slice A nd cd]] w fun e w' => e = .returned (.tuple #[.slice none 0 0, .int .i64 2]) ∧ Fr (fun _ => False) w w' := by
  have FA := Lib.hid (Fr.refl (fun _ => False) w)
  go_enter Try.func12, Try.ntmps12
  go_wp2_with fail
  go_ret2
  exact ⟨rfl, FA.out.alloc _⟩

set_option maxHeartbeats 8000000 in
set_option maxRecDepth 100000 in
theorem encode12_ok (m : Im) (A : Option Addr) (nd cd : Nat) (d : List Int) (w : World) (hn : nd ≤ 1016) (hm : m.may = true) (P : Pc w A nd d) :
    Calls Try.prog 12 #[.agg #[.int .i64 m.ty, .int .i64 m.code, .int .i64 m.id, .int .i64 m.seq, .int .i64 m.mtu, .slice A nd cd]] w fun e w' => ∃ v, e = .returned (.tuple #[v, .int .i64 0]) ∧ OwnB w.heap.size w' v (m.lay (ck (m.lay 0 d)) d) ∧ Fr (fun _ => False) w w' := by
  have HM := Lib.hid hm
  have HP := Lib.hid P
  have HB := Lib.hid (isB_lay hm 0 P.ok)
  have HL := Lib.hid (show (m.lay 0 d).length = 8 + nd by rw [lay_len, P.len])
  obtain ⟨b1, b2⟩ := may_bd hm
  have B1 := Lib.hid b1
  have B2 := Lib.hid b2
  clear hm P b1 b2
  have FA := Lib.hid (Fr.refl (fun _ => False) w)
  go_enter Try.func12, Try.ntmps12
  go_upto_region 1 with (fail)
  have g0 := heap_alloc_new w (.cells #[.int .i64 m.ty, .int .i64 m.code, .int .i64 m.id, .int .i64 m.seq, .int .i64 m.mtu, .slice A nd cd] 24)
  have FB := Lib.hid (FA.out.alloc (.cells #[.int .i64 m.ty, .int .i64 m.code, .int .i64 m.id, .int .i64 m.seq, .int .i64 m.mtu, .slice A nd cd] 24))
  have hz : w.heap.size < (w.alloc (.cells #[.int .i64 m.ty, .int .i64 m.code, .int .i64 m.id, .int .i64 m.seq, .int .i64 m.mtu, .slice A nd cd] 24)).heap.size := by simp
  generalize w.alloc (.cells #[.int .i64 m.ty, .int .i64 m.code, .int .i64 m.id, .int .i64 m.seq, .int .i64 m.mtu, .slice A nd cd] 24) = w1 at g0 FB hz ⊢
  have HC : ∀ w', Fr (fun _ => False) w1 w' → w'.cell? ⟨w.heap.size, 0, none⟩ = some (.int .i64 m.ty) ∧ w'.cell? ⟨w.heap.size, 1, none⟩ = some (.int .i64 m.code) ∧ w'.cell? ⟨w.heap.size, 2, none⟩ = some (.int .i64 m.id) ∧ w'.cell? ⟨w.heap.size, 3, none⟩ = some (.int .i64 m.seq) ∧ w'.cell? ⟨w.heap.size, 4, none⟩ = some (.int .i64 m.mtu) ∧ w'.cell? ⟨w.heap.size, 5, none⟩ = some (.slice A nd cd) := fun w' k => by
    have h := cells_at w' w.heap.size [.int .i64 m.ty, .int .i64 m.code, .int .i64 m.id, .int .i64 m.seq, .int .i64 m.mtu, .slice A nd cd] 24 ((k.block _ hz (fun e => e)).trans g0)
    exact ⟨h 0 _ rfl, h 1 _ rfl, h 2 _ rfl, h 3 _ rfl, h 4 _ rfl, h 5 _ rfl⟩
  have HCC := Lib.hid HC
  clear g0 HC
  have c1 := HCC.out w1 (Fr.refl _ _)
  have hzN := Lib.hid hz
  clear hz
  go_upto_region 5 with (go_at_call 40; refine (may40P m.ty m.code m.id m.seq m.mtu _ _).mono ?_; rw [show Im.may ⟨m.ty, m.code, m.id, m.seq, m.mtu⟩ = true from HM.out]; rintro e w2 ⟨rfl, f2⟩; have F2 := Lib.hid f2; clear f2)
  clear c1
  have HK := Lib.hid (fun w' (k : Fr (fun _ => False) w2 w') => HCC.out w' (F2.out.then' k))
  have FW2 := Lib.hid (FB.out.then' F2.out)
  have P2 := Lib.hid (HP.out.fr FW2.out)
  have T1 := Lib.hid True.intro
  have T2 := Lib.hid True.intro
  go_region_held_law (fun w' => w'.cell? ⟨w.heap.size, 0, none⟩ = some (.int .i64 m.ty) ∧ w'.cell? ⟨w.heap.size, 1, none⟩ = some (.int .i64 m.code) ∧ w'.cell? ⟨w.heap.size, 2, none⟩ = some (.int .i64 m.id) ∧ w'.cell? ⟨w.heap.size, 3, none⟩ = some (.int .i64 m.seq) ∧ w'.cell? ⟨w.heap.size, 4, none⟩ = some (.int .i64 m.mtu) ∧ w'.cell? ⟨w.heap.size, 5, none⟩ = some (.slice A nd cd))
    (first | exact HK.out _ (Fr.refl _ _) | exact HK.out _ (Fr.refl _ _).drew | exact HK.out _ (by assumption) | exact HK.out _ (f4b.alloc _))
    (first
      | (have TK := T1.out; go_at_call 41; go_must (refine (laid41 m A nd cd d 0 _ B1.out B2.out (by exact P2.out.fr ((Fr.refl _ w2).drew)) (by omega)).mono ?_); rintro e w4 ⟨v4, rfl, o4, f4⟩; obtain ⟨A4, cp4, rfl, hb4, hc4, hm4⟩ := o4.cap (n := 8 + nd) HL.out; have f4b : Fr (fun _ => False) w2 w4 := ((Fr.refl (fun _ => False) w2).drew).then' f4; have HB4 := Lib.hid hb4; clear T1 TK hb4 o4 f4)
      | (have TK := T2.out; go_at_call 42; go_must (refine (sum28_boxN cp4 (m.lay 0 d) w4 HL.out HB.out (by omega) HB4.out 1).mono ?_); rintro e w5 ⟨rfl, f5⟩; have f5b : Fr (fun _ => False) w2 w5 := f4b.then' f5; clear T2 TK f5)
      | (go_at_call 41; go_must (refine (laid41 m A nd cd d (ck (m.lay 0 d)) _ B1.out B2.out (by exact P2.out.fr f5b) (by omega)).mono ?_); rintro e w6 ⟨v6, rfl, o6, f6⟩; have F6 := Lib.hid (f5b.then' f6); have O6 := Lib.hid o6; have S5 := Lib.hid f5b.size; clear f6 o6))
  all_goals go_wp2_with fail
  all_goals go_ret2
  all_goals refine ⟨_, rfl, ?_, FW2.out.then' F6.out⟩
  all_goals have h1 := FW2.out.size
  all_goals have h2 := S5.out
  all_goals exact O6.out.base (by omega)
end Go.Proofs.Ytcfadmjihccimaa
