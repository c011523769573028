/- The walk of packhorselaw01.WordPuts. No condition but lengths. -/
import Derived.Test.YtcgghjjchfafiaaWdP
import Derived.Deep.RegionHeldLaw
namespace Go.Proofs.Ytcgghjjchfafiaa
set_option linter.unusedVariables false
open Go.RowKit

/-- What string(v) gives, in the world. -/
def StrAt (w : World) (v : Value) (l : List Int) : Prop := (convert 49 9 v).run Try.prog w = .ok (.string (strOfNums l)) w
theorem OwnB.str {base : Nat} {w : World} {v : Value} {l : List Int} (h : OwnB base w v l) : StrAt w v l := by
  obtain ⟨A, c, rfl, b⟩ := h.view
  exact str_bytes c b
theorem by16_low (n : Int) : by16 (n % 65536) = by16 n := by simp [by16]; omega

theorem at_cases (l : List Int) (hB : isB l) (f : Int) (k : Nat) (hk0 : 0 < k) (hk : k ≤ 4) :
    (atV l f k = 0 ∧ atE l f k = 3 ∧ atR l f k = -1) ∨ (∃ p, 0 ≤ p ∧ p < 4294967296 ∧ atV l f k = p ∧ atE l f k = 0 ∧ atR l f k = p) := by
  unfold atV atE atR
  by_cases h : f < 0 ∨ (l.length : Int) < f ∨ (l.length : Int) - f < k
  · rw [if_pos h, if_pos h, if_pos h]; exact .inl ⟨rfl, rfl, rfl⟩
  · rw [if_neg h, if_neg h, if_neg h]
    have hl : ((l.drop f.toNat).take k).length ≤ k := by rw [List.length_take]; omega
    have hb := be_bd k ((l.drop f.toNat).take k) (by rw [List.length_take, List.length_drop]; omega) (fun x hx => hB x (List.mem_of_mem_drop (List.mem_of_mem_take hx)))
    have hp : (256 : Int) ^ k ≤ 4294967296 := by
      rcases k with _ | _ | _ | _ | _ | k
      all_goals first | omega | decide
    exact .inr ⟨_, hb.1, by omega, rfl, rfl, rfl⟩

set_option maxHeartbeats 8000000 in
set_option maxRecDepth 100000 in
theorem puts12 (A : Option Addr) (cap : Nat) (lb : List Int) (n m at0 : Int) (w : World) (hA : BArg w A cap lb) (hm0 : 0 ≤ m) (hm1 : m < 4294967296) (ha1 : at0 < 9223372036854775808) :
    Calls Try.prog 12 #[.slice A lb.length cap, .int .i64 n, .int .u32 m, .int .i64 at0] w fun e w' => e = .returned (.bool true) ∧ Fr (fun _ => False) w w' := by
  obtain ⟨nb, hnb⟩ : ∃ n, n = lb.length := ⟨_, rfl⟩
  have ha : nb ≤ 140737488351232 := by have := hA.le; have := hA.top; omega
  have PA := Lib.hid (show Pc w A nb lb from ⟨hnb.symm, hA.ok, by omega, hA.here⟩)
  have hcp : nb ≤ cap := by rw [hnb]; exact hA.le
  rw [← hnb]
  have l1 := Lib.hid (show lb.length + 4 ≤ 140737488355328 by omega)
  have l2 := Lib.hid (show (lb ++ [7, 7, 7, 7]).length = nb + 4 by rw [List.length_append, ← hnb]; rfl)
  clear hnb hA
  go_enter Try.func12, Try.ntmps12
  go_upto_region 3 with (first
    | (go_at_call 27; refine (awake27 _).mono ?_; rintro e w1 ⟨rfl, f1⟩)
    | (at_builtin; refine wpList_appN _ rfl _ _ rfl w1.heap.size _ [] rfl (OwnB.nil _ _) w.heap.size A nb cap lb PA.out.len (by exact rfl) (by exact PA.out.here.fr f1 (Nat.le_refl _) (fun _ _ e => e)) (by simp; omega) (Nat.le_refl _) ?_; intro v2 w2 o2 f2; have f2 := f2.fromNil; (have o2 : OwnB w1.heap.size w2 v2 lb := by simpa using o2)))
  have G2 := f1.then f2
  go_upto_region 4 with (at_builtin; refine wpList_appN _ rfl _ _ rfl w1.heap.size _ lb (by exact rfl) (o2.fr0 ((Fr.refl (fun _ => False) _).alloc _)) _ _ 4 4 [7, 7, 7, 7] rfl (by exact rfl) (by exact bytes_lit _ [7, 7, 7, 7]) l1.out (by have := f2.size; simp; omega) ?_; intro v3 w3 o3 f3)
  have G3 := (o2.fr0 ((Fr.refl (fun _ => False) w2).alloc (.cells (([7, 7, 7, 7] : List Int).map (Value.int .u8)).toArray 5))).turn (G2.alloc _) f1.size f3
  obtain ⟨g, c3, rfl, hg1, hg2⟩ := o3.form l2.out (by omega)
  obtain ⟨A', c', hv', b3, hc1, hc2⟩ := o3.cap l2.out
  cases hv'
  have hc3 : c3 ≤ 9223372036854775807 := hc2
  have B3 := Lib.hid b3.left
  have O3 := Lib.hid o3
  clear b3 o3 o2 hc2 f2 f3 G2
  go_upto_region 6 with (first
    | (go_at_call 32; refine (put32N c3 _ lb n _ PA.out.len B3.out (by omega) (Nat.le_refl _)).mono ?_; rintro e w4 ⟨v4, rfl, o4, f4⟩)
    | (go_at_call 34; refine (put34N c3 _ lb m _ PA.out.len (B3.out.fr f4 (Nat.le_refl _) (fun _ _ e => e)) (by omega) f4.size).mono ?_; rintro e w5 ⟨v5, rfl, o5, f5⟩))
  have O4 := Lib.hid (o4.fr0 f5)
  have O5 := Lib.hid o5
  have G5 := Lib.hid ((G3.then f4).then f5)
  have PA5 := Lib.hid (PA.out.fr G5.out)
  have f45 := f4.then f5
  have O35 := Lib.hid (O3.out.fr0 f45)
  have G3s : w.heap.size ≤ w3.heap.size := G3.size
  have hs3 : w3.heap.size ≤ w5.heap.size := f45.size
  have hs4 : w3.heap.size ≤ w4.heap.size := f4.size
  clear o4 o5 f4 f5 f45 O3 B3 G3
  have k4 : (convert 49 9 v4).run Try.prog w5 = .ok (.string (strOfNums (lb ++ by16 n))) w5 := O4.out.str
  have k5 : (convert 49 9 v5).run Try.prog w5 = .ok (.string (strOfNums (lb ++ by32 m))) w5 := O5.out.str
  have HM0 := Lib.hid hm0
  have HM1 := Lib.hid hm1
  have FD : Fr (fun _ => False) w5 w5.drew := by
    have R := Fr.refl (fun _ => False) w5
    exact ⟨R.os, R.tape, R.output, R.size, R.block⟩
  have j4 : (convert 49 9 v4).run Try.prog w5.drew = .ok (.string (strOfNums (lb ++ by16 n))) w5.drew := (O4.out.fr0 FD).str
  have j5 : (convert 49 9 v5).run Try.prog w5.drew = .ok (.string (strOfNums (lb ++ by32 m))) w5.drew := (O5.out.fr0 FD).str
  have FD := Lib.hid FD
  have TK2 := Lib.hid True.intro
  have hwm := Lib.hid (IntWalk.i64_in m (by omega))
  go_region_held_law (fun w' => (convert 49 9 v4).run Try.prog w' = .ok (.string (strOfNums (lb ++ by16 n))) w' ∧ (convert 49 9 v5).run Try.prog w' = .ok (.string (strOfNums (lb ++ by32 m))) w')
    (first | with_reducible exact ⟨k4, k5⟩ | with_reducible exact ⟨j4, j5⟩ | with_reducible exact ⟨q4, q5⟩ | with_reducible exact ⟨r4, r5⟩)
    (first
      | (go_at_call 36; go_must (refine (rlow36 n _).mono ?_); rintro e w6 ⟨rfl, hw6⟩; subst hw6)
      | (have TK4 := F7; go_at_call 35; rw [hwm.out]; refine (rput35 A nb cap 4 lb m _ (PA5.out.fr F7.out) ha (by decide) (by decide) HM0.out HM1.out).mono ?_; rw [dg4]; rintro e w8 ⟨v8, rfl, o8, f8⟩; have k8 : (convert 49 9 v8).run Try.prog w8 = .ok (.string (strOfNums (lb ++ by32 m))) w8 := o8.str; have F8 : Fr (fun _ => False) w5 w8 := F7.out.then f8; have r4 : (convert 49 9 v4).run Try.prog w8 = .ok (.string (strOfNums (lb ++ by16 n))) w8 := (O4.out.fr0 F8).str; have r5 : (convert 49 9 v5).run Try.prog w8 = .ok (.string (strOfNums (lb ++ by32 m))) w8 := (O5.out.fr0 F8).str; have F8 := Lib.hid F8; clear f8 o8)
      | (have TK := TK2.out; go_at_call 35; go_must (refine (rput35 A nb cap 2 lb (n % 65536) _ (by exact PA5.out.fr FD.out) ha (by decide) (by decide) (by omega) (by omega)).mono ?_); rw [dg2, by16_low]; rintro e w7 ⟨v7, rfl, o7, f7⟩; have k7 : (convert 49 9 v7).run Try.prog w7 = .ok (.string (strOfNums (lb ++ by16 n))) w7 := o7.str; have F7 : Fr (fun _ => False) w5 w7 := FD.out.then f7; have q4 : (convert 49 9 v4).run Try.prog w7 = .ok (.string (strOfNums (lb ++ by16 n))) w7 := (O4.out.fr0 F7).str; have q5 : (convert 49 9 v5).run Try.prog w7 = .ok (.string (strOfNums (lb ++ by32 m))) w7 := (O5.out.fr0 F7).str; have F7 := Lib.hid F7; clear f7 o7 TK2 TK))
  have O38 := Lib.hid (O35.out.fr0 F8.out)
  have G8 := Lib.hid (G5.out.then F8.out)
  go_upto_region 7 with (fail)
  have PA8 := Lib.hid (PA5.out.fr F8.out)
  clear k4 k5 j4 j5 k7 k8 q4 q5 r4 r5 TK4 hwm FD F7 O35 PA5 G5
  have b8 : BytesIn w8.heap.size w8 (some ⟨g, 0, none⟩) lb := by
    obtain ⟨A1, c1, e1, b1⟩ := O38.out.viewN l2.out
    cases e1
    exact b1.left
  have k1 : ∀ j, (convert 49 9 (.slice (some ⟨g, 0, none⟩) nb c3)).run Try.prog (w8.drewN j) = .ok (.string (strOfNums lb)) (w8.drewN j) := fun j => by
    have := str_bytes (n₀ := w8.heap.size) (w := w8.drewN j) c3 (l := lb) (A := some ⟨g, 0, none⟩) (by exact b8)
    rw [PA.out.len] at this; exact this
  have bA : BytesIn w8.heap.size w8 A lb := PA8.out.here
  have k2 : ∀ j, (convert 49 9 (.slice A nb cap)).run Try.prog (w8.drewN j) = .ok (.string (strOfNums lb)) (w8.drewN j) := fun j => by
    have := str_bytes (n₀ := w8.heap.size) (w := w8.drewN j) cap (l := lb) (A := A) (by exact bA)
    rw [PA.out.len] at this; exact this
  have x1 : (lb ++ [7, 7, 7, 7])[nb]? = some (7 : Int) := by rw [List.getElem?_append_right (by rw [PA.out.len]; omega), PA.out.len, Nat.sub_self]; rfl
  have x2 : (lb ++ [7, 7, 7, 7])[nb + 3]? = some (7 : Int) := by rw [List.getElem?_append_right (by rw [PA.out.len]; omega), PA.out.len, Nat.add_sub_cancel_left]; rfl
  have y1 : ∀ j, (w8.drewN j).cell? ⟨g, nb, none⟩ = some (.int .u8 7) := fun j => (O38.out.cell x1).1
  have y2 : ∀ j, (w8.drewN j).cell? ⟨g, nb + 3, none⟩ = some (.int .u8 7) := fun j => (O38.out.cell x2).1
  clear x1 x2 b8 bA
  go_quiet (fail)
  clear k1 k2 y1 y2
  have FQ : Fr (fun _ => False) w8 (w8.drewN nq) := by
    have R := Fr.refl (fun _ => False) w8
    exact ⟨R.os, R.tape, R.output, R.size, R.block⟩
  generalize w8.drewN nq = wq at FQ ⊢
  have G9 := Lib.hid (G8.out.then FQ)
  have O39 := Lib.hid (O38.out.fr0 FQ)
  have X9 := O4.out.fr0 (F8.out.then FQ)
  have lx : (lb ++ by16 n).length = nb + 2 := by rw [List.length_append, PA.out.len]; rfl
  obtain ⟨gx, cx, rfl, hx1, hx2⟩ := X9.form lx (by omega)
  have X9 := Lib.hid X9
  have lx := Lib.hid lx
  have hwg : w.heap.size ≤ w3.heap.size := G3s
  clear FQ O38 G8 F8 PA8 O4 O5
  go_upto_region 8 with (fail)
  go_wp2_with fail
  go_loopw [15] (fun v15 wr => ∃ (i : Nat) (l' : List Int), v15 = .int .i64 i ∧ i ≤ nb + 2 ∧ l'.length = nb + 2 ∧ OwnB w3.heap.size wr (.slice (some ⟨gx, 0, none⟩) (nb + 2) cx) l' ∧ OwnB w1.heap.size wr (.slice (some ⟨g, 0, none⟩) (nb + 4) c3) (lb ++ [7, 7, 7, 7]) ∧ Fr (fun _ => False) w wr) (fun v _ => nb + 2 - (intOf v).toNat)
  case atStart => exact ⟨0, _, rfl, Nat.zero_le _, lx.out, X9.out, O39.out, G9.out⟩
  case round =>
    obtain ⟨i, l', rfl, hi, hll, hX, hO, hG⟩ := hrel
    rename World => wr
    have HLL := Lib.hid hll
    have HX := Lib.hid hX
    have HO := Lib.hid hO
    have HG := Lib.hid hG
    by_cases hlt : i < nb + 2
    · obtain ⟨y, hy⟩ : ∃ y, l'[i]? = some y := ⟨_, List.getElem?_eq_getElem (by omega)⟩
      obtain ⟨cy, fy⟩ := hX.cell hy
      clear hll hX hO hG hy
      go_wp2_with fail
      obtain ⟨s1, s2⟩ := HX.out.set i ((y + 1) % 256)
      refine ⟨⟨i + 1, _, by go_num, by omega, by rw [List.length_set]; exact HLL.out, s1, HO.out.fr s2 (fun k hk e => ?_), (HG.out.trans (S' := fun k => k = gx) s2 (fun k hk e => by omega))⟩, by simp [intOf]; omega⟩
      have : g = k := Option.some.inj hk
      omega
    · obtain rfl : i = nb + 2 := by omega
      clear hll hX hO hG HX HLL hlt hi
      have PAr := Lib.hid (PA.out.fr HG.out)
      have b8 : BytesIn wr.heap.size wr (some ⟨g, 0, none⟩) lb := by
        obtain ⟨A1, c1, e1, b1⟩ := HO.out.viewN l2.out
        cases e1
        exact b1.left
      have k1 : ∀ j, (convert 49 9 (.slice (some ⟨g, 0, none⟩) nb c3)).run Try.prog (wr.drewN j) = .ok (.string (strOfNums lb)) (wr.drewN j) := fun j => by
        have := str_bytes (n₀ := wr.heap.size) (w := wr.drewN j) c3 (l := lb) (A := some ⟨g, 0, none⟩) (by exact b8)
        rw [PA.out.len] at this; exact this
      have bA : BytesIn wr.heap.size wr A lb := PAr.out.here
      have k2 : ∀ j, (convert 49 9 (.slice A nb cap)).run Try.prog (wr.drewN j) = .ok (.string (strOfNums lb)) (wr.drewN j) := fun j => by
        have := str_bytes (n₀ := wr.heap.size) (w := wr.drewN j) cap (l := lb) (A := A) (by exact bA)
        rw [PA.out.len] at this; exact this
      clear b8 bA
      go_upto_region 12 with (fail)
      go_quiet (fail)
      clear k1 k2
      have FQ : Fr (fun _ => False) wr (wr.drewN nq) := by
        have R := Fr.refl (fun _ => False) wr
        exact ⟨R.os, R.tape, R.output, R.size, R.block⟩
      generalize wr.drewN nq = wz at FQ ⊢
      have GZ := Lib.hid (HG.out.then FQ)
      have PZ := Lib.hid (PAr.out.fr FQ)
      clear FQ HG PAr HO
      rcases at_cases lb PZ.out.ok at0 2 (by omega) (by omega) with ⟨V2, E2, R2⟩ | ⟨p, hp0, hp1, V2, E2, R2⟩
      all_goals rcases at_cases lb PZ.out.ok at0 4 (by omega) (by omega) with ⟨V4, E4, R4⟩ | ⟨q, hq0, hq1, V4, E4, R4⟩
      all_goals have V2 := Lib.hid V2
      all_goals have V4 := Lib.hid V4
      all_goals have E2 := Lib.hid E2
      all_goals have E4 := Lib.hid E4
      all_goals have R2 := Lib.hid R2
      all_goals have R4 := Lib.hid R4
      all_goals try have hdp : decide (p < 0) = false := decide_eq_false (by omega)
      all_goals try have hdq : decide (q < 0) = false := decide_eq_false (by omega)
      all_goals try have hwq : IntKind.i64.wrap q = q := IntWalk.i64_in q (by omega)
      all_goals go_wp2_with (first
        | (go_at_call 33; refine (at33M cap _ lb at0 _ PZ.out.len PZ.out.ok PZ.out.here hcp (by omega) ha1).mono ?_; rw [V2.out, E2.out]; clear V2; rintro e wa ⟨rfl, hwa⟩; subst hwa)
        | (go_at_call 37; refine (at37N cap _ lb at0 _ PZ.out.len PZ.out.ok PZ.out.here hcp (by omega) ha1).mono ?_; rw [V4.out, E4.out]; clear V4; rintro e wa ⟨rfl, hwa⟩; subst hwa)
        | (have RR := R2.out; go_at_call 38; refine (rat38 A nb cap lb at0 2 _ PZ.out (by decide) (by decide) ha1).mono ?_; rw [RR]; clear R2 RR; rintro e wa ⟨rfl, hwa⟩; subst hwa)
        | (have RR := R4.out; go_at_call 38; refine (rat38 A nb cap lb at0 4 _ PZ.out (by decide) (by decide) ha1).mono ?_; rw [RR]; clear R4 RR; rintro e wa ⟨rfl, hwa⟩; subst hwa))
      all_goals go_ret
      all_goals exact ⟨rfl, GZ.out⟩
end Go.Proofs.Ytcgghjjchfafiaa
