/- Encode of package ether, where a frame is made. No condition but lengths. -/
import Derived.Test.YtmonaaappimphaaEtG
namespace Go.Proofs.Ytmonaaappimphaa
set_option linter.unusedVariables false
open Go.RowKit

set_option maxHeartbeats 8000000 in
set_option maxRecDepth 100000 in
theorem encode13_ok (f : Fh) (A : Option Addr) (nb c : Nat) (b : List Int) (w : World) (hm : f.may = true) (hn : nb ≤ 256) (P : Pc w A nb b) :
    Calls Try.prog 13 #[.agg #[.int .u8 f.dst.a, .int .u8 f.dst.b, .int .u8 f.dst.c, .int .u8 f.dst.d, .int .u8 f.dst.e, .int .u8 f.dst.f, .int .u8 f.src.a, .int .u8 f.src.b, .int .u8 f.src.c, .int .u8 f.src.d, .int .u8 f.src.e, .int .u8 f.src.f, .bool f.tag, .int .i64 f.vlan, .int .i64 f.prio, .int .i64 f.ty], .slice A nb c] w fun e w' => ∃ v, e = .returned (.tuple #[v, .int .i64 0]) ∧ OwnB w.heap.size w' v (f.pad b) ∧ Fr (fun _ => False) w w' := by
  have FA := Lib.hid (Fr.refl (fun _ => False) w)
  have HM := Lib.hid hm
  have HP := Lib.hid P
  clear hm P
  go_enter Try.func13, Try.ntmps13
  have hb0 : w.heap.size < (w.alloc (.cells #[.int .u8 f.dst.a, .int .u8 f.dst.b, .int .u8 f.dst.c, .int .u8 f.dst.d, .int .u8 f.dst.e, .int .u8 f.dst.f, .int .u8 f.src.a, .int .u8 f.src.b, .int .u8 f.src.c, .int .u8 f.src.d, .int .u8 f.src.e, .int .u8 f.src.f, .bool f.tag, .int .i64 f.vlan, .int .i64 f.prio, .int .i64 f.ty] 25)).heap.size := by simp
  have HB0 := Lib.hid hb0
  clear hb0
  go_upto_if 17 with (go_at_call 32; refine (may32F f _).mono ?_; rw [HM.out]; rintro e w1 ⟨rfl, f1⟩; have HS := Lib.hid ((fc_of (f := f) (heap_alloc_new w (.cells #[.int .u8 f.dst.a, .int .u8 f.dst.b, .int .u8 f.dst.c, .int .u8 f.dst.d, .int .u8 f.dst.e, .int .u8 f.dst.f, .int .u8 f.src.a, .int .u8 f.src.b, .int .u8 f.src.c, .int .u8 f.src.d, .int .u8 f.src.e, .int .u8 f.src.f, .bool f.tag, .int .i64 f.vlan, .int .i64 f.prio, .int .i64 f.ty] 25))).fr f1 HB0.out); have hc := HS.out; unfold Fc at hc; have FB := Lib.hid ((FA.out.alloc (.cells #[.int .u8 f.dst.a, .int .u8 f.dst.b, .int .u8 f.dst.c, .int .u8 f.dst.d, .int .u8 f.dst.e, .int .u8 f.dst.f, .int .u8 f.src.a, .int .u8 f.src.b, .int .u8 f.src.c, .int .u8 f.src.d, .int .u8 f.src.e, .int .u8 f.src.f, .bool f.tag, .int .i64 f.vlan, .int .i64 f.prio, .int .i64 f.ty] 25)).then f1); have HF1 := Lib.hid f1; clear f1)
  have hz : w.heap.size < w1.heap.size := by have := HF1.out.size; have := HB0.out; omega
  clear HB0 HF1
  generalize (Value.agg #[.int .u8 f.dst.a, .int .u8 f.dst.b, .int .u8 f.dst.c, .int .u8 f.dst.d, .int .u8 f.dst.e, .int .u8 f.dst.f, .int .u8 f.src.a, .int .u8 f.src.b, .int .u8 f.src.c, .int .u8 f.src.d, .int .u8 f.src.e, .int .u8 f.src.f, .bool f.tag, .int .i64 f.vlan, .int .i64 f.prio, .int .i64 f.ty]) = fv
  go_cut [6] (fun v6 wc => OwnB w1.heap.size wc v6 f.tl ∧ Fr (fun _ => False) w1 wc)
  case first =>
    clear hc
    cases htag : f.tag
    case false =>
      go_wp2_with fail
      go_meet
      exact ⟨by unfold Fh.tl; rw [htag]; exact OwnB.nil _ _, Fr.refl _ _⟩
    case true =>
      obtain ⟨hv0, hv1, hp0, hp1⟩ := may_tag HM.out htag
      have hor := or_prio hp0 hp1 hv0 hv1
      have hwr : IntKind.i64.wrap (f.prio * 8192) = f.prio * 8192 := IntWalk.i64_in _ (by omega)
      have HSF := Lib.hid (fun (w' : World) (k : Fr (fun _ => False) w1 w') => (HS.out.fr k hz).vp)
      have R1 := Lib.hid (Fr.refl (fun _ => False) w1).drew
      go_upto_region 7 with (fail)
      go_region_held_law (fun w' => w'.cell? ⟨w.heap.size, 13, none⟩ = some (.int .i64 f.vlan) ∧ w'.cell? ⟨w.heap.size, 14, none⟩ = some (.int .i64 f.prio))
        (first | exact HSF.out _ (Fr.refl _ _) | exact HSF.out _ R1.out | exact HSF.out _ (R1.out.alloc _) | exact HSF.out _ ((R1.out.alloc _).alloc _) | exact HSF.out _ (((R1.out.alloc _).alloc _).alloc _) | exact HSF.out _ (by assumption))
        (first
          | (go_at_call 34; go_must (refine (pair34 _ _).mono ?_); rintro e w2 ⟨rfl, rfl⟩)
          | (go_at_call 33; go_must (refine (concat33 _ _ 2 [[129, 0], pr (f.prio * 8192 + f.vlan)] rfl (by decide) (by simp [pr]) _ (by first | exact partsA w1 [129, 0] (pr (f.prio * 8192 + f.vlan)) | exact partsB w1 [129, 0] (pr (f.prio * 8192 + f.vlan)))).mono ?_); rintro e w4 ⟨v4, rfl, o4, f4⟩; have F4 : Fr (fun _ => False) w1 w4 := (((((Fr.refl (fun _ => False) w1).alloc _).alloc _).alloc _).drew).then f4; have O4 := Lib.hid (o4.base (base' := w1.heap.size) (by first | (simp; done) | (simp; omega))); clear o4 f4))
      all_goals go_wp2_with fail
      all_goals go_meet
      all_goals exact ⟨by unfold Fh.tl; rw [htag]; exact O4.out, F4⟩
  case rest =>
    obtain ⟨o6, f6⟩ := hcut
    have HS2 := Lib.hid (HS.out.fr f6 hz)
    have hz2 : w.heap.size < wc.heap.size := by have := f6.size; omega
    have FB2 := Lib.hid (FB.out.then f6)
    have HP2 := Lib.hid (HP.out.fr FB2.out)
    obtain ⟨n6, hn6⟩ : ∃ n, f.tl.length = n := ⟨_, rfl⟩
    obtain ⟨A6, c6, rfl, b6⟩ := o6.viewN hn6
    have H6 := Lib.hid hn6
    have B6 := Lib.hid b6
    obtain ⟨N, hN⟩ : ∃ n, (f.enc b).length = n := ⟨_, rfl⟩
    have hN0 : 14 ≤ N ∧ N ≤ 274 := by have := enc_len f b; have := tl_len f; have := HP.out.len; omega
    have HN := Lib.hid hN
    have HSF := Lib.hid (fun (w' : World) (k : Fr (fun _ => False) wc w') => (HS2.out.fr k hz2).tyC)
    have R1 := Lib.hid (Fr.refl (fun _ => False) wc).drew
    have HT := Lib.hid (show [f.dst.l, f.src.l, f.tl, pr f.ty, b].flatten.length ≤ 140737488355328 by rw [enc_flat, hN]; omega)
    have HPP := Lib.hid (fun (c : Nat) => parts5 (f := f) HS2.out hz2 c6 H6.out B6.out c HP2.out.len HP2.out.here)
    clear o6 f6 hn6 b6 hN
    go_upto_region 8 with (fail)
    go_region_held_law (fun w' => w'.cell? ⟨w.heap.size, 15, none⟩ = some (.int .i64 f.ty))
      (first | exact HSF.out _ (Fr.refl _ _) | exact HSF.out _ R1.out | exact HSF.out _ (R1.out.alloc _) | exact HSF.out _ ((R1.out.alloc _).alloc _) | exact HSF.out _ (by assumption))
      (first
        | (go_at_call 34; go_must (refine (pair34 _ _).mono ?_); rintro e w2 ⟨rfl, rfl⟩)
        | (go_at_call 33; go_must (refine (concat33 _ _ 5 [f.dst.l, f.src.l, f.tl, pr f.ty, b] rfl (by decide) HT.out _ (by exact HPP.out c)).mono ?_); rintro e w4 ⟨v4, rfl, o4, f4⟩; have F4 : Fr (fun _ => False) wc w4 := ((((Fr.refl (fun _ => False) wc).alloc _).alloc _).drew).then f4; rw [enc_flat] at o4; have o5 := (o4.base (base' := w.heap.size) (by first | (simp; done) | (simp; omega))); obtain ⟨g, c4, rfl, hg1, hg2⟩ := o5.form HN.out (by omega); have O4 := Lib.hid o5; clear o4 f4 o5))
    have HF := Lib.hid (FB2.out.then F4)
    have hsz := HF.out.size
    clear F4
    by_cases hlt : N < 60
    · have hmx := Lib.hid (show 60 - (N : Int) = ((60 - N : Nat) : Int) by omega)
      go_wp2_with (at_builtin; refine wpList_zeros _ rfl _ _ rfl w.heap.size _ (f.enc b) (by exact rfl) O4.out (60 - N) (by exact congrArg (Value.int .i64) hmx.out) (by have := HN.out; omega) hsz ?_; intro v8 w8 o8 f8; have O8 := Lib.hid o8; have F8 := Lib.hid (O4.out.turn HF.out (Nat.le_refl _) f8); clear o8 f8)
      go_ret2
      refine ⟨_, rfl, ?_, F8.out⟩
      have := O8.out
      rwa [← HN.out] at this
    · have hmx := Lib.hid (show (0 : Int) = ((0 : Nat) : Int) by rfl)
      go_wp2_with (at_builtin; refine wpList_zeros _ rfl _ _ rfl w.heap.size _ (f.enc b) (by exact rfl) O4.out 0 (by exact congrArg (Value.int .i64) hmx.out) (by have := HN.out; omega) hsz ?_; intro v8 w8 o8 f8; have O8 := Lib.hid o8; have F8 := Lib.hid (O4.out.turn HF.out (Nat.le_refl _) f8); clear o8 f8)
      go_ret2
      refine ⟨_, rfl, ?_, F8.out⟩
      have := O8.out
      unfold Fh.pad
      rwa [show 60 - (f.enc b).length = 0 by rw [HN.out]; omega]
end Go.Proofs.Ytmonaaappimphaa
