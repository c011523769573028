/- The reference of law 09: ip and head. No condition but lengths. -/
import Derived.Test.YtcfadmjihccimaaIcBa
import Derived.Test.YtcfadmjihccimaaIcX
namespace Go.Proofs.Ytcfadmjihccimaa
set_option linter.unusedVariables false
set_option linter.unusedSimpArgs false
open Go.RowKit
theorem range4b {w : World} {b o : Nat} {v0 v1 v2 v3 : Value} (h0 : w.cell? ⟨b, o, none⟩ = some v0) (h1 : w.cell? ⟨b, o + 1, none⟩ = some v1) (h2 : w.cell? ⟨b, o + 2, none⟩ = some v2) (h3 : w.cell? ⟨b, o + 3, none⟩ = some v3) :
    w.rangeAt b o [v0, v1, v2, v3] := fun j v hj => by
  match j, hj with
  | 0, hj => cases hj; exact h0
  | 1, hj => cases hj; exact h1
  | 2, hj => cases hj; exact h2
  | 3, hj => cases hj; exact h3
  | j + 4, hj => simp at hj
set_option maxHeartbeats 8000000 in
set_option maxRecDepth 100000 in
theorem ip69 (base : Nat) (A : Option Addr) (n c : Nat) (l : List Int) (a0 a1 a2 a3 : Int) (w : World) (O : OwnB base w (.slice A n c) l) (hn : l.length = n) (hn2 : n ≤ 1048576) (hb : base ≤ w.heap.size) (ha : isB [a0, a1, a2, a3]) :
    Calls Try.prog 69 #[.slice A n c, .agg #[.int .u8 a0, .int .u8 a1, .int .u8 a2, .int .u8 a3]] w fun e w' => ∃ v, e = .returned v ∧ OwnB base w' v (l ++ [a0, a1, a2, a3]) ∧ Fr (fun i => (Value.slice A n c).ownBlock = some i) w w' := by
  have HO := Lib.hid O
  have HN := Lib.hid hn
  have HA := Lib.hid ha
  have HB := Lib.hid hb
  clear O hn ha hb
  go_enter Try.func69, Try.ntmps69
  go_upto_region 1 with (fail)
  have q := cells_at (w.alloc (.cells #[.int .u8 a0, .int .u8 a1, .int .u8 a2, .int .u8 a3] 45)) w.heap.size [.int .u8 a0, .int .u8 a1, .int .u8 a2, .int .u8 a3] 45 (heap_alloc_new w _)
  have q0 := q 0 _ rfl
  have q1 := q 1 _ rfl
  have q2 := q 2 _ rfl
  have q3 := q 3 _ rfl
  have F1 := Lib.hid ((Fr.refl (fun _ => False) w).alloc (.cells #[.int .u8 a0, .int .u8 a1, .int .u8 a2, .int .u8 a3] 45))
  generalize w.alloc (.cells #[.int .u8 a0, .int .u8 a1, .int .u8 a2, .int .u8 a3] 45) = w1 at q0 q1 q2 q3 F1 ⊢
  clear q
  have P1 := Lib.hid (pc_new w1 [a0, a1, a2, a3] HA.out (by simp) 4 rfl)
  have F2 := Lib.hid ((Fr.refl (fun _ => False) w1).alloc (.cells #[.int .u8 a0, .int .u8 a1, .int .u8 a2, .int .u8 a3] 5))
  have O2 := Lib.hid (HO.out.fr0 (F1.out.then' F2.out))
  have Z2 := Lib.hid (show base ≤ (w1.alloc (.cells #[.int .u8 a0, .int .u8 a1, .int .u8 a2, .int .u8 a3] 5)).heap.size by have := HB.out; have := F1.out.size; have := F2.out.size; omega)
  go_wp2_with (at_builtin; refine wpList_appN _ rfl _ _ rfl base _ l (by exact rfl) O2.out _ (some ⟨w1.heap.size, 0, none⟩) 4 4 [a0, a1, a2, a3] rfl (by exact rfl) P1.out.here (by rw [HN.out]; omega) Z2.out ?_; intro v3 w3 o3 f3; have O3 := Lib.hid o3; have F3 := Lib.hid f3; clear o3 f3)
  go_ret
  exact ⟨_, rfl, O3.out, ((F1.out.then' F2.out).mono (fun _ _ e => e.elim)).trans F3.out (fun i hi e => e)⟩
/-- A packet's head. -/
structure Ph where
  (s0 s1 s2 s3 d0 d1 d2 d3 proto ttl id tos : Int) (whole more : Bool) (off : Int)
structure Ph.ok (p : Ph) : Prop where
  src : isB [p.s0, p.s1, p.s2, p.s3]
  dst : isB [p.d0, p.d1, p.d2, p.d3]
  proto : 0 ≤ p.proto ∧ p.proto ≤ 255
  tos : 0 ≤ p.tos ∧ p.tos ≤ 255
  id : 0 ≤ p.id ∧ p.id ≤ 65535
  ttl : 1 ≤ p.ttl ∧ p.ttl ≤ 255
  off : 0 ≤ p.off ∧ p.off ≤ 65528
def Ph.fl (p : Ph) : Int := p.off / 8 + cond p.whole 16384 0 + cond p.more 8192 0
def Ph.lay (p : Ph) (size sum : Int) (o : List Int) : List Int :=
  [64 + (20 + (o.length : Int)) / 4, p.tos] ++ by16 size ++ by16 p.id ++ by16 p.fl ++ [p.ttl, p.proto] ++ by16 sum ++ [p.s0, p.s1, p.s2, p.s3] ++ [p.d0, p.d1, p.d2, p.d3] ++ o
set_option maxHeartbeats 8000000 in
set_option maxRecDepth 100000 in
theorem head53 (p : Ph) (A : Option Addr) (no co : Nat) (o : List Int) (size sum : Int) (w : World) (hp : p.ok) (P : Pc w A no o) (hno : no ≤ 40) (h0 : 0 ≤ size) (h1 : size ≤ 65535) (hs0 : 0 ≤ sum) (hs1 : sum ≤ 65535) :
    Calls Try.prog 53 #[.agg #[.int .u8 p.s0, .int .u8 p.s1, .int .u8 p.s2, .int .u8 p.s3, .int .u8 p.d0, .int .u8 p.d1, .int .u8 p.d2, .int .u8 p.d3, .int .i64 p.proto, .int .i64 p.ttl, .int .i64 p.id, .int .i64 p.tos, .bool p.whole, .bool p.more, .int .i64 p.off, .slice A no co], .int .i64 size, .int .i64 sum] w fun e w' => ∃ v, e = .returned v ∧ OwnB w.heap.size w' v (p.lay size sum o) ∧ Fr (fun _ => False) w w' := by
  have HP := Lib.hid P
  have HK := Lib.hid hp
  have HS := Lib.hid (And.intro (And.intro h0 h1) (And.intro hs0 hs1))
  obtain ⟨f, hf⟩ : ∃ f, p.fl = f := ⟨_, rfl⟩
  have HF := Lib.hid hf
  have hfb : 0 ≤ f ∧ f ≤ 65535 := by
    rw [← hf]; unfold Ph.fl
    have := hp.off
    cases p.whole <;> cases p.more <;> simp <;> omega
  have HFB := Lib.hid hfb
  have hw1 : IntKind.u8.wrap p.tos = p.tos := IntWalk.u8_in _ (by have := hp.tos; omega)
  have hw2 : IntKind.u8.wrap p.ttl = p.ttl := IntWalk.u8_in _ (by have := hp.ttl; omega)
  have hw3 : IntKind.u8.wrap p.proto = p.proto := IntWalk.u8_in _ (by have := hp.proto; omega)
  obtain ⟨t4, ht4⟩ : ∃ t4 : Int, (20 + (no : Int)) / 4 = t4 := ⟨_, rfl⟩
  have hw4 : IntKind.u8.wrap (64 + t4) = 64 + t4 := IntWalk.u8_in _ (by omega)
  have HT4 := Lib.hid ht4
  have htd : (20 + (no : Int)).tdiv 4 = t4 := by rw [← ht4]; exact Int.tdiv_eq_ediv_of_nonneg (by omega)
  have HB0 := Lib.hid (show isB [64 + t4, p.tos] by intro x hx; have := hp.tos; simp at hx; rcases hx with rfl | rfl <;> omega)
  have HB1 := Lib.hid (show isB [p.ttl, p.proto] by intro x hx; have := hp.ttl; have := hp.proto; simp at hx; rcases hx with rfl | rfl <;> omega)
  obtain ⟨o8, ho8⟩ : ∃ o8 : Int, p.off / 8 = o8 := ⟨_, rfl⟩
  have ho8b : 0 ≤ o8 ∧ o8 ≤ 8191 := by have := hp.off; omega
  have hod : p.off.tdiv 8 = o8 := by rw [← ho8]; exact Int.tdiv_eq_ediv_of_nonneg hp.off.1
  have hfo : o8 + cond p.whole 16384 0 + cond p.more 8192 0 = f := by rw [← hf, ← ho8]; rfl
  clear P hp h0 h1 hs0 hs1 hf hfb ht4 ho8
  have FA := Lib.hid (Fr.refl (fun _ => False) w)
  go_enter Try.func53, Try.ntmps53
  go_upto_region 1 with (fail)
  have g0 := heap_alloc_new w (.cells #[.int .u8 p.s0, .int .u8 p.s1, .int .u8 p.s2, .int .u8 p.s3, .int .u8 p.d0, .int .u8 p.d1, .int .u8 p.d2, .int .u8 p.d3, .int .i64 p.proto, .int .i64 p.ttl, .int .i64 p.id, .int .i64 p.tos, .bool p.whole, .bool p.more, .int .i64 p.off, .slice A no co] 58)
  have FB := Lib.hid (FA.out.alloc (.cells #[.int .u8 p.s0, .int .u8 p.s1, .int .u8 p.s2, .int .u8 p.s3, .int .u8 p.d0, .int .u8 p.d1, .int .u8 p.d2, .int .u8 p.d3, .int .i64 p.proto, .int .i64 p.ttl, .int .i64 p.id, .int .i64 p.tos, .bool p.whole, .bool p.more, .int .i64 p.off, .slice A no co] 58))
  have hz : w.heap.size < (w.alloc (.cells #[.int .u8 p.s0, .int .u8 p.s1, .int .u8 p.s2, .int .u8 p.s3, .int .u8 p.d0, .int .u8 p.d1, .int .u8 p.d2, .int .u8 p.d3, .int .i64 p.proto, .int .i64 p.ttl, .int .i64 p.id, .int .i64 p.tos, .bool p.whole, .bool p.more, .int .i64 p.off, .slice A no co] 58)).heap.size := by simp
  generalize w.alloc (.cells #[.int .u8 p.s0, .int .u8 p.s1, .int .u8 p.s2, .int .u8 p.s3, .int .u8 p.d0, .int .u8 p.d1, .int .u8 p.d2, .int .u8 p.d3, .int .i64 p.proto, .int .i64 p.ttl, .int .i64 p.id, .int .i64 p.tos, .bool p.whole, .bool p.more, .int .i64 p.off, .slice A no co] 58) = w1 at g0 FB hz ⊢
  have HCC := Lib.hid (fun (w' : World) (k : Fr (fun _ => False) w1 w') => cells_at w' w.heap.size [.int .u8 p.s0, .int .u8 p.s1, .int .u8 p.s2, .int .u8 p.s3, .int .u8 p.d0, .int .u8 p.d1, .int .u8 p.d2, .int .u8 p.d3, .int .i64 p.proto, .int .i64 p.ttl, .int .i64 p.id, .int .i64 p.tos, .bool p.whole, .bool p.more, .int .i64 p.off, .slice A no co] 58 ((k.block _ hz (fun e => e)).trans g0))
  have HZ := Lib.hid hz
  clear g0 hz
  have q11 := HCC.out w1 (Fr.refl _ _) 11 _ rfl
  have q15 := HCC.out w1 (Fr.refl _ _) 15 _ rfl
  have ht4 := HT4.out
  have e1 : wrap64 t4 = t4 := IntWalk.wrap64_in _ (by omega)
  have e2 : wrap64 (64 + t4) = 64 + t4 := IntWalk.wrap64_in _ (by omega)
  have e3 : (64 + t4) % 256 = 64 + t4 := by omega
  clear ht4
  have e4 : wrap64 o8 = o8 := IntWalk.wrap64_in _ (by omega)
  go_upto_region 3 with (fail)
  clear q11 q15 e1 e2 e3
  have P1 := Lib.hid (pc_new w1 [64 + t4, p.tos] HB0.out (by simp) 2 rfl)
  have F1 := Lib.hid ((Fr.refl (fun _ => False) w1).alloc (.cells #[.int .u8 (64 + t4), .int .u8 p.tos] 5))
  go_upto_region 4 with (go_at_call 66; refine (rput35 _ 2 2 2 [64 + t4, p.tos] size _ (by exact P1.out) (by decide) (by decide) (by decide) HS.out.1.1 (by have := HS.out.1.2; omega)).mono ?_; rw [dg2]; rintro e w2 ⟨v2, rfl, o2, f2⟩; have O2 := Lib.hid (o2.base (base' := w1.heap.size) F1.out.size); have F2 := Lib.hid (F1.out.then' f2); clear o2 f2)
  obtain ⟨A2, cp2, rfl, hb, hc, hm⟩ := O2.out.cap (n := 4) (by simp [by16])
  have P2 := Lib.hid (O2.out.pc (n := 4) (by simp [by16]) (HB0.out.app (by16_ok size)) (by decide)).1
  clear hb hc hm
  have q10 := HCC.out w2 F2.out 10 _ rfl
  go_upto_region 5 with (go_at_call 66; refine (rput35 _ 4 cp2 2 _ p.id _ P2.out (by decide) (by decide) (by decide) HK.out.id.1 (by have := HK.out.id.2; omega)).mono ?_; rw [dg2]; rintro e w3 ⟨v3, rfl, o3, f3⟩; have O3 := Lib.hid (o3.base (base' := w1.heap.size) F2.out.size); have F3 := Lib.hid (F2.out.then' f3); clear o3 f3)
  clear q10
  obtain ⟨A3, cp3, rfl, hb, hc, hm⟩ := O3.out.cap (n := 6) (by simp [by16])
  have P3 := Lib.hid (O3.out.pc (n := 6) (by simp [by16]) ((HB0.out.app (by16_ok size)).app (by16_ok p.id)) (by decide)).1
  clear hb hc hm
  have q14 := HCC.out w3 F3.out 14 _ rfl
  have q12 := HCC.out w3 F3.out 12 _ rfl
  have q13 := HCC.out w3 F3.out 13 _ rfl
  obtain ⟨bw, hbw⟩ : ∃ bw, p.whole = bw := ⟨_, rfl⟩
  obtain ⟨bm, hbm⟩ : ∃ bm, p.more = bm := ⟨_, rfl⟩
  rw [hbw] at q12 hfo
  rw [hbm] at q13 hfo
  have HBW := Lib.hid (And.intro hbw hbm)
  clear hbw hbm
  go_upto_if 33 with (fail)
  clear q14
  obtain ⟨f1, hf1⟩ : ∃ f1, o8 + cond bw 16384 0 = f1 := ⟨_, rfl⟩
  have hf1b : 0 ≤ f1 ∧ f1 ≤ 24575 := by rw [← hf1]; cases bw <;> simp <;> omega
  go_cut [9] (fun v9 wc => v9 = .int .i64 f1 ∧ wc = w3)
  case first =>
    have HQ := Lib.hid hf1
    have e5 : wrap64 (o8 + 16384) = o8 + 16384 := IntWalk.wrap64_in _ (by omega)
    clear hf1 hf1b hfo
    cases bw
    · have hcc := HQ.out
      simp only [cond_false, Int.add_zero] at hcc
      subst hcc
      go_wp2_with fail
      go_meet
      exact ⟨rfl, rfl⟩
    · have hcc := HQ.out
      simp only [cond_true] at hcc
      subst hcc
      go_wp2_with fail
      go_meet
      exact ⟨rfl, rfl⟩
  case rest =>
  obtain ⟨rfl, hwc⟩ := hcut
  subst hwc
  clear q12 e4
  rw [hf1] at hfo
  clear hf1 hod ho8b o8
  obtain ⟨w3, hw3⟩ : ∃ x, x = wc := ⟨_, rfl⟩
  subst hw3
  go_upto_if 37 with (fail)
  go_cut [9] (fun v9 wc => v9 = .int .i64 f ∧ wc = w3)
  case first =>
    have HQ := Lib.hid hfo
    have e5 : wrap64 (f1 + 8192) = f1 + 8192 := IntWalk.wrap64_in _ (by omega)
    clear hfo
    cases bm
    · have hcc := HQ.out
      simp only [cond_false, Int.add_zero] at hcc
      subst hcc
      go_wp2_with fail
      go_meet
      exact ⟨rfl, rfl⟩
    · have hcc := HQ.out
      simp only [cond_true] at hcc
      have HQ := Lib.hid hcc
      clear hcc
      go_wp2_with fail
      go_meet
      exact ⟨by rw [HQ.out], rfl⟩
  case rest =>
  obtain ⟨rfl, hwc⟩ := hcut
  subst hwc
  clear q13 hfo hf1b
  obtain ⟨w3, hw3⟩ : ∃ x, x = wc := ⟨_, rfl⟩
  subst hw3
  go_upto_region 11 with (go_at_call 66; refine (rput35 _ 6 cp3 2 _ f _ P3.out (by decide) (by decide) (by decide) HFB.out.1 (by have := HFB.out.2; omega)).mono ?_; rw [dg2]; rintro e w4 ⟨v4, rfl, o4, f4⟩; have O4 := Lib.hid (o4.base (base' := w1.heap.size) F3.out.size); have F4 := Lib.hid (F3.out.then' f4); clear o4 f4)
  obtain ⟨A4, cp4, rfl, hb, hc, hm⟩ := O4.out.cap (n := 8) (by simp [by16])
  have P4 := Lib.hid (O4.out.pc (n := 8) (by simp [by16]) (((HB0.out.app (by16_ok size)).app (by16_ok p.id)).app (by16_ok f)) (by decide)).1
  clear hb hc hm
  have q9 := HCC.out w4 F4.out 9 _ rfl
  have q8 := HCC.out w4 F4.out 8 _ rfl
  have P4a := Lib.hid (pc_new w4 [p.ttl, p.proto] HB1.out (by simp) 2 rfl)
  have F4b := Lib.hid ((Fr.refl (fun _ => False) w4).alloc (.cells #[.int .u8 p.ttl, .int .u8 p.proto] 5))
  have F4a := Lib.hid ((Fr.refl (fun i => (Value.slice A4 8 cp4).ownBlock = some i) w4).alloc (.cells #[.int .u8 p.ttl, .int .u8 p.proto] 5))
  have O4a := Lib.hid (O4.out.fr0 F4b.out)
  have Z4 := Lib.hid (show w1.heap.size ≤ (w4.alloc (.cells #[.int .u8 p.ttl, .int .u8 p.proto] 5)).heap.size by have := F4.out.size; simp; omega)
  go_upto_region 12 with (at_builtin; refine wpList_appN _ rfl _ _ rfl w1.heap.size _ _ (by exact rfl) O4a.out _ (some ⟨w4.heap.size, 0, none⟩) 2 2 [p.ttl, p.proto] rfl (by exact rfl) P4a.out.here (by simp [by16]) Z4.out ?_; intro v5 w5 o5 f5; have O5 := Lib.hid o5; have F5 := Lib.hid (O4.out.turn F4.out (Nat.le_refl _) (F4a.out.trans f5 (fun _ _ e => e))); clear o5 f5)
  clear q9 q8
  obtain ⟨A5, cp5, rfl, hb, hc, hm⟩ := O5.out.cap (n := 10) (by simp [by16])
  have P5 := Lib.hid (O5.out.pc (n := 10) (by simp [by16]) ((((HB0.out.app (by16_ok size)).app (by16_ok p.id)).app (by16_ok f)).app HB1.out) (by decide)).1
  clear hb hc hm
  go_upto_region 13 with (go_at_call 66; refine (rput35 _ 10 cp5 2 _ sum _ P5.out (by decide) (by decide) (by decide) HS.out.2.1 (by have := HS.out.2.2; omega)).mono ?_; rw [dg2]; rintro e w6 ⟨v6, rfl, o6, f6⟩; have O6 := Lib.hid (o6.base (base' := w1.heap.size) F5.out.size); have F6 := Lib.hid (F5.out.then' f6); clear o6 f6)
  obtain ⟨A6, cp6, rfl, hb, hc, hm⟩ := O6.out.cap (n := 12) (by simp [by16])
  have P6 := Lib.hid (O6.out.pc (n := 12) (by simp [by16]) (((((HB0.out.app (by16_ok size)).app (by16_ok p.id)).app (by16_ok f)).app HB1.out).app (by16_ok sum)) (by decide)).1
  clear hb hc hm
  have HR := Lib.hid (fun (w' : World) (k : Fr (fun _ => False) w1 w') => show w'.rangeAt w.heap.size 0 [.int .u8 p.s0, .int .u8 p.s1, .int .u8 p.s2, .int .u8 p.s3] ∧ w'.rangeAt w.heap.size 4 [.int .u8 p.d0, .int .u8 p.d1, .int .u8 p.d2, .int .u8 p.d3] from
    ⟨range4b (HCC.out w' k 0 _ rfl) (HCC.out w' k 1 _ rfl) (HCC.out w' k 2 _ rfl) (HCC.out w' k 3 _ rfl), range4b (HCC.out w' k 4 _ rfl) (HCC.out w' k 5 _ rfl) (HCC.out w' k 6 _ rfl) (HCC.out w' k 7 _ rfl)⟩)
  iterate 20 (first
    | (have := MK1; clear this)
    | (refine wpList_load_mid rfl 45 _ rfl w.heap.size 0 rfl [.int .u8 p.s0, .int .u8 p.s1, .int .u8 p.s2, .int .u8 p.s3] _ (HR.out _ F6.out).1 Try.underlying45 rfl (by kernel_rfl) ?_; have MK1 := Lib.hid True.intro)
    | go_step)
  go_upto_region 14 with (go_at_call 69; refine (ip69 w1.heap.size A6 12 cp6 _ p.s0 p.s1 p.s2 p.s3 _ O6.out (by simp [by16]) (by decide) F6.out.size HK.out.src).mono ?_; rintro e w7 ⟨v7, rfl, o7, f7⟩; have O7 := Lib.hid o7; have F7 := Lib.hid (O6.out.turn F6.out (Nat.le_refl _) f7); clear o7 f7)
  obtain ⟨A7, cp7, rfl, hb, hc, hm⟩ := O7.out.cap (n := 16) (by simp [by16])
  have P7 := Lib.hid (O7.out.pc (n := 16) (by simp [by16]) ((((((HB0.out.app (by16_ok size)).app (by16_ok p.id)).app (by16_ok f)).app HB1.out).app (by16_ok sum)).app HK.out.src) (by decide)).1
  clear hb hc hm
  iterate 20 (first
    | (have := MK2; clear this)
    | (refine wpList_load_mid rfl 45 _ rfl w.heap.size 4 rfl [.int .u8 p.d0, .int .u8 p.d1, .int .u8 p.d2, .int .u8 p.d3] _ (HR.out _ F7.out).2 Try.underlying45 rfl (by kernel_rfl) ?_; have MK2 := Lib.hid True.intro)
    | go_step)
  go_upto_region 15 with (go_at_call 69; refine (ip69 w1.heap.size A7 16 cp7 _ p.d0 p.d1 p.d2 p.d3 _ O7.out (by simp [by16]) (by decide) F7.out.size HK.out.dst).mono ?_; rintro e w8 ⟨v8, rfl, o8, f8⟩; have O8 := Lib.hid o8; have F8 := Lib.hid (O7.out.turn F7.out (Nat.le_refl _) f8); clear o8 f8)
  obtain ⟨A8, cp8, rfl, hb, hc, hm⟩ := O8.out.cap (n := 20) (by simp [by16])
  have P8 := Lib.hid (O8.out.pc (n := 20) (by simp [by16]) (((((((HB0.out.app (by16_ok size)).app (by16_ok p.id)).app (by16_ok f)).app HB1.out).app (by16_ok sum)).app HK.out.src).app HK.out.dst) (by decide)).1
  clear hb hc hm
  have q15 := HCC.out w8 F8.out 15 _ rfl
  have PO := Lib.hid (HP.out.fr (FB.out.then' F8.out))
  go_wp2_with (at_builtin; refine wpList_appN _ rfl _ _ rfl w1.heap.size _ _ (by exact rfl) O8.out w8.heap.size A no co o PO.out.len (by exact rfl) PO.out.here (by simp [by16]; omega) F8.out.size ?_; intro v9 w9 o9 f9; have G9 := Lib.hid (O8.out.turn F8.out (Nat.le_refl _) f9); have O9 := Lib.hid o9; clear o9 f9)
  go_ret
  refine ⟨_, rfl, ?_, FB.out.trans G9.out (fun _ _ e => e)⟩
  have hzz := HZ.out
  have h := O9.out.base (base' := w.heap.size) (by omega)
  rw [← HF.out, ← HT4.out, ← HP.out.len] at h
  exact h
end Go.Proofs.Ytcfadmjihccimaa
