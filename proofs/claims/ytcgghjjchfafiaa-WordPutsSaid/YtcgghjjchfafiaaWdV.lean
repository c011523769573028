/- The walk of packhorselaw01.WordPatches. No condition but lengths. -/
import Derived.Test.YtcgghjjchfafiaaWdM
namespace Go.Proofs.Ytcgghjjchfafiaa
set_option linter.unusedVariables false
open Go.RowKit

theorem patch_law {l : List Int} (hB : isB l) {i : Nat} {x y next : Int} (hx : l[2 * i]? = some x) (hy : l[2 * i + 1]? = some y) :
    pt (ck l) (256 * x + y) next = ck ((l.set (2 * i) (next / 256 % 256)).set (2 * i + 1) (next % 256)) ∨
    (pt (ck l) (256 * x + y) next + ck ((l.set (2 * i) (next / 256 % 256)).set (2 * i + 1) (next % 256)) = 65535 ∧ (pt (ck l) (256 * x + y) next = 0 ∨ ck ((l.set (2 * i) (next / 256 % 256)).set (2 * i + 1) (next % 256)) = 0)) := by
  have xB := hB x (List.mem_of_getElem? hx)
  have yB := hB y (List.mem_of_getElem? hy)
  have e1 : (l.set (2 * i) (next / 256 % 256))[2 * i + 1]? = some y := by rw [List.getElem?_set_ne (by omega)]; exact hy
  have w0 : wat false (2 * i) = 256 := by unfold wat; simp
  have w1 : wat false (2 * i + 1) = 1 := by unfold wat; simp
  have h0 := wt_nonneg false l hB
  have h1 := wt_nonneg false _ ((hB.set (j := 2 * i) (x := next / 256 % 256) (by omega)).set (j := 2 * i + 1) (x := next % 256) (by omega))
  have e2 : wt false ((l.set (2 * i) (next / 256 % 256)).set (2 * i + 1) (next % 256)) = wt false l - (256 * x + y) + next % 65536 := by
    rw [wt_set _ false _ _ _ e1, wt_set _ false _ _ _ hx, w0, w1]; omega
  rw [e2] at h1
  have hv : 0 ≤ next % 65536 ∧ next % 65536 < 65536 := by omega
  unfold pt ck
  rw [e2]
  generalize wt false l = W at *
  generalize next % 65536 = v at *
  have ho : (256 * x + y) % 65536 = 256 * x + y := by omega
  rw [ho]
  generalize 256 * x + y = o at *
  have hb := nrm_bd h0
  have hs : (65535 - nrm W) % 65536 = 65535 - nrm W := by omega
  rw [hs]
  unfold nrm at *
  split <;> split <;> split <;> omega

theorem at33N {A : Option Addr} {n : Nat} (cap n₀ : Nat) (l : List Int) (f : Int) (w : World) (hn : l.length = n) (hB : isB l) (hb : BytesIn n₀ w A l) (hcap : n ≤ cap) (hcap2 : cap ≤ 140737488355328) (hf63 : f < 9223372036854775808) :
    Calls Try.prog 33 #[.slice A n cap, .int .i64 f] w fun e w' => e = .returned (.tuple #[.int .i64 (atV l f 2), .int .i64 (atE l f 2)]) ∧ w' = w := by subst hn; exact at33 A cap n₀ l f w hB hb hcap hcap2 hf63
theorem at_word {l : List Int} {i : Nat} {x y : Int} (hx : l[2 * i]? = some x) (hy : l[2 * i + 1]? = some y) : atV l (2 * (i : Int)) 2 = 256 * x + y ∧ atE l (2 * (i : Int)) 2 = 0 := by
  have h2 : 2 * i + 1 < l.length := (List.getElem?_eq_some_iff.1 hy).1
  have hc : ¬ (2 * (i : Int) < 0 ∨ (l.length : Int) < 2 * (i : Int) ∨ (l.length : Int) - 2 * (i : Int) < (2 : Nat)) := by omega
  unfold atV atE
  rw [if_neg hc, if_neg hc]
  refine ⟨?_, rfl⟩
  have e : (2 * (i : Int)).toNat = 2 * i := by omega
  have e2 : (l.drop (2 * i)).take 2 = [x, y] := by
    apply List.ext_getElem?
    intro j
    by_cases hj : j < 2
    · rw [List.getElem?_take_of_lt hj, List.getElem?_drop]
      have : j = 0 ∨ j = 1 := by omega
      rcases this with rfl | rfl
      · simpa using hx
      · simpa using hy
    · rw [List.getElem?_eq_none (by rw [List.length_take]; omega), List.getElem?_eq_none (by simp; omega)]
  rw [e, e2]
  simp [be]; omega

theorem put32_nil (next : Int) (w : World) : Calls Try.prog 32 #[.slice none 0 0, .int .i64 next] w fun e w' => ∃ g c, e = .returned (.slice (some ⟨g, 0, none⟩) 2 c) ∧ OwnB w.heap.size w' (.slice (some ⟨g, 0, none⟩) 2 c) (by16 next) ∧ w.heap.size ≤ g ∧ g < w'.heap.size ∧ Fr (fun _ => False) w w' := by
  refine (put32 none 0 0 [] next w (fun h => absurd h (by decide)) (by decide) (Nat.zero_le _)).mono ?_
  rintro e w1 ⟨v, rfl, o, f⟩
  rw [List.nil_append] at o
  obtain ⟨g, c, rfl, h1, h2⟩ := o.form (n := 2) rfl (by decide)
  exact ⟨g, c, rfl, o, h1, h2, f⟩

set_option maxHeartbeats 4000000 in
set_option maxRecDepth 100000 in
theorem patches10_out (A : Option Addr) (len cap : Nat) (i next : Int) (w : World) (hlen : (len : Int) ≤ 140737488351232) (h : i < 0 ∨ (len : Int) / 2 ≤ i) :
    Calls Try.prog 10 #[.slice A len cap, .int .i64 i, .int .i64 next] w fun e w' => e = .returned (.bool true) ∧ Fr (fun _ => False) w w' := by
  obtain ⟨n, hn⟩ : ∃ n, (len : Int) / 2 = n := ⟨_, rfl⟩
  rw [hn] at h
  have C : ∀ (b1 b2 : Bool), decide (i < 0) = b1 → decide (n ≤ i) = b2 → (b1 || b2) = true →
      Calls Try.prog 10 #[.slice A len cap, .int .i64 i, .int .i64 next] w fun e w' => e = .returned (.bool true) ∧ Fr (fun _ => False) w w' := by
    intro b1 b2 h1 h2 hor
    clear h
    cases b1 <;> cases b2 <;> first
      | (exact absurd hor (by decide))
      | (clear hor
         go_enter Try.func10, Try.ntmps10
         go_wp2_with (go_at_call 27; refine (awake27 _).mono ?_; rintro e w1 ⟨rfl, f1⟩)
         go_ret
         exact ⟨rfl, f1⟩)
  refine C _ _ rfl rfl ?_
  simp only [Bool.or_eq_true, decide_eq_true_eq]
  omega

set_option maxHeartbeats 4000000 in
set_option maxRecDepth 100000 in
theorem patches10 (A : Option Addr) (cap : Nat) (l : List Int) (i : Nat) (next : Int) (w : World) (hL : BArg w A cap l) (hi : i < l.length / 2) :
    Calls Try.prog 10 #[.slice A l.length cap, .int .i64 i, .int .i64 next] w fun e w' => e = .returned (.bool true) ∧ Fr (fun _ => False) w w' := by
  obtain ⟨len, hlen⟩ : ∃ n, n = l.length := ⟨_, rfl⟩
  obtain ⟨h, hh⟩ : ∃ h, h = len / 2 := ⟨_, rfl⟩
  obtain ⟨m, hm⟩ : ∃ m, m = 2 * h := ⟨_, rfl⟩
  obtain ⟨l2, hl2⟩ : ∃ l2, l2 = l.take m := ⟨_, rfl⟩
  have hl2n : l2.length = m := by rw [hl2, List.length_take]; omega
  have hl2B : isB l2 := fun x hx => hL.ok x (List.mem_of_mem_take (hl2 ▸ hx))
  have hl2b : BytesIn w.heap.size w A l2 := by rw [hl2]; exact hL.here.take _
  have hle : len ≤ cap := by rw [hlen]; exact hL.le
  have htop : cap ≤ 140737488351232 := hL.top
  have hL2 : BArg w A cap l2 := ⟨hl2B, hl2b, by omega, htop⟩
  obtain ⟨x, hx⟩ : ∃ x, l2[2 * i]? = some x := ⟨_, List.getElem?_eq_getElem (by omega)⟩
  obtain ⟨y, hy⟩ : ∃ y, l2[2 * i + 1]? = some y := ⟨_, List.getElem?_eq_getElem (by omega)⟩
  obtain ⟨hv, he⟩ := at_word hx hy
  have hlaw := patch_law hl2B (next := next) hx hy
  obtain ⟨o, ho⟩ : ∃ o, o = 256 * x + y := ⟨_, rfl⟩
  rw [← ho] at hv hlaw
  obtain ⟨n0, hn0⟩ : ∃ z, z = next / 256 % 256 := ⟨_, rfl⟩
  obtain ⟨n1, hn1⟩ : ∃ z, z = next % 256 := ⟨_, rfl⟩
  have hby : by16 next = [n0, n1] := by rw [by16, hn0, hn1]
  rw [← hn0, ← hn1] at hlaw
  have he1 : (l2.set (2 * i) n0)[2 * i + 1]? = some y := by rw [List.getElem?_set_ne (by omega)]; exact hy
  have hB9 : isB ((l2.set (2 * i) n0).set (2 * i + 1) n1) := (hl2B.set (by omega)).set (by omega)
  have hl9 : ((l2.set (2 * i) n0).set (2 * i + 1) n1).length = m := by simp [hl2n]
  obtain ⟨Y, hY⟩ : ∃ Y, Y = ck ((l2.set (2 * i) n0).set (2 * i + 1) n1) := ⟨_, rfl⟩
  obtain ⟨X, hX⟩ : ∃ X, X = pt (ck l2) o next := ⟨_, rfl⟩
  rw [← hX, ← hY] at hlaw
  have hYb : 0 ≤ Y ∧ Y ≤ 65535 := by rw [hY]; exact ck_bd hB9
  have hXb : 0 ≤ X ∧ X ≤ 65535 := by
    rw [hX]; unfold pt
    have := nrm_bd (s := 65535 - ck l2 % 65536 + 65535 - o % 65536 + next % 65536) (by omega)
    omega
  have h2 : (len : Int) / 2 = (h : Int) := by omega
  have h3 : 2 * (h : Int) = (m : Int) := by omega
  have hi1 : i < h := by omega
  have hi2 : 2 * i + 1 < m := by omega
  have hm1 : 0 < m := by omega
  have hm2 : m ≤ len := by omega
  have hm3 : m ≤ cap := by omega
  rw [← hlen]
  have HL := Lib.hid hL2
  have Hlen := Lib.hid hl2n
  have Hv := Lib.hid hv
  have He := Lib.hid he
  have Hby := Lib.hid hby
  have Hx := Lib.hid hx
  have E1 := Lib.hid he1
  have HB9 := Lib.hid hB9
  have Hl9 := Lib.hid hl9
  have HX := Lib.hid hX
  have HY := Lib.hid hY
  have Hlaw := Lib.hid hlaw
  clear he1 hlaw hx hy hB9 hl9 hlen hL hL2 hl2n hl2B hl2b hh hm hl2 hv he hby hX hY ho hn0 hn1 hi
  go_enter Try.func10, Try.ntmps10
  go_upto_region 7 with (first
    | (go_at_call 27; refine (awake27 _).mono ?_; rintro e w1 ⟨rfl, f1⟩)
    | (go_at_call 33; refine (at33N cap w.heap.size l2 _ _ Hlen.out HL.out.ok (HL.out.here.fr f1 (Nat.le_refl _) (fun _ _ e => e)) hm3 (by omega) (by omega)).mono ?_; rw [Hv.out, He.out]; rintro e w2 ⟨rfl, hw2⟩; subst hw2))
  have f1' := Lib.hid f1
  clear f1
  go_upto_region 9 with (first
    | (at_builtin; refine wpList_appN _ rfl _ _ rfl w2.heap.size _ [] rfl (OwnB.nil _ _) w.heap.size _ m cap l2 Hlen.out (by exact rfl) (by exact (HL.out.here.fr f1'.out (Nat.le_refl _) (fun _ _ e => e))) (by simp; omega) (Nat.le_refl _) ?_; intro v3 w3 o3 f3; have f3 := f3.fromNil; (have o3 : OwnB w2.heap.size w3 v3 l2 := by simpa using o3); obtain ⟨g, c3, rfl, hg1, hg2⟩ := o3.form Hlen.out hm1)
    | (go_at_call 32; refine (put32_nil next _).mono ?_; rintro e w4 ⟨g', c4, rfl, o4, hg3, hg4, f4⟩))
  have hgg : g' ≠ g := by omega
  have hg : w.heap.size ≤ g := by have := f1'.out.size; omega
  rw [Hby.out] at o4
  have O3 := Lib.hid (o3.fr0 f4)
  have O4 := Lib.hid o4
  have G4 := Lib.hid ((f1'.out.then f3).then f4)
  clear o3 o4 f3 f4 f1' hg1 hg2 hg3 hg4
  obtain ⟨c0, -⟩ := O4.out.cell (j := 0) (x := n0) rfl
  obtain ⟨c2, c3'⟩ := O3.out.cell Hx.out
  obtain ⟨o5, f5⟩ := O3.out.set (2 * i) n0
  have O5 := Lib.hid o5
  have P5 := Lib.hid (O4.out.fr f5 (fun k e => by simp [Value.ownBlock] at e; omega))
  have G5 := Lib.hid (G4.out.trans f5 (fun i hi e => by omega))
  clear o5 f5
  go_upto_region 12 with (fail)
  clear c0 c2 c3'
  generalize w4.setCell ⟨g, 2 * i, none⟩ _ = w5 at *
  obtain ⟨c0, -⟩ := P5.out.cell (j := 1) (x := n1) rfl
  obtain ⟨c2, c3'⟩ := O5.out.cell E1.out
  obtain ⟨o6, f6⟩ := O5.out.set (2 * i + 1) n1
  have O6 := Lib.hid o6
  have G6 := Lib.hid (G5.out.trans f6 (fun i hi e => by omega))
  clear o6 f6 O5 P5 O3 O4
  go_upto_region 13 with (fail)
  clear c0 c2 c3'
  generalize w5.setCell ⟨g, 2 * i + 1, none⟩ _ = w6 at *
  have b6 := (HL.out.fr G6.out).here
  obtain ⟨A', c', hv', b6'⟩ := O6.out.viewN Hl9.out
  cases hv'
  go_upto_region 15 with (first
    | (go_at_call 28; refine (sum28_boxN cap l2 _ Hlen.out HL.out.ok (by omega) b6 _).mono ?_; rintro e w7 ⟨rfl, f7⟩; have b7 := (b6'.fr f7 (Nat.le_refl _) (fun _ _ e => e)).up f7.size; clear b6)
    | (go_at_call 30; refine (patch30 _ _ _ _).mono ?_; rw [← HX.out]; rintro e w8 ⟨rfl, f8⟩; have b8 := (b7.fr f8 (Nat.le_refl _) (fun _ _ e => e)).up f8.size)
    | (go_at_call 28; refine (sum28_boxN c3 _ _ Hl9.out HB9.out (by omega) b8 _).mono ?_; rw [← HY.out]; rintro e w9 ⟨rfl, f9⟩))
  have G9 := Lib.hid (((G6.out.then f7).then f8).then f9)
  clear f7 f8 f9 b7 b8 b6'
  have hF := Hlaw.out
  by_cases e1 : X = Y
  · have t1 : (X == Y) = true := by simpa using e1
    clear e1 hF
    go_wp2_with fail
    go_ret
    exact ⟨rfl, G9.out⟩
  · have t1 : (X == Y) = false := by simpa using e1
    have hF := hF.resolve_left e1
    have t2 : (X + Y == 65535) = true := by simpa using hF.1
    by_cases e2 : X = 0
    · have t3 : (X == 0) = true := by simpa using e2
      clear e1 e2 hF
      go_wp2_with fail
      go_ret
      exact ⟨rfl, G9.out⟩
    · have t3 : (X == 0) = false := by simpa using e2
      have t4 : (Y == 0) = true := by simpa using hF.2.resolve_left e2
      clear e1 e2 hF
      go_wp2_with fail
      go_ret
      exact ⟨rfl, G9.out⟩
end Go.Proofs.Ytcgghjjchfafiaa
