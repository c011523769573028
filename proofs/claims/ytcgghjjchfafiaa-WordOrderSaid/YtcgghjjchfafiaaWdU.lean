/- The walk of packhorselaw01.WordOrder. No condition but lengths. -/
import Derived.Test.YtcgghjjchfafiaaWdM
namespace Go.Proofs.Ytcgghjjchfafiaa
set_option linter.unusedVariables false
open Go.RowKit

theorem order_cells {l : List Int} {i k : Nat} {p q x y : Int} (hp : l[2 * k]? = some p) (hq : l[2 * k + 1]? = some q) (hx : l[2 * i]? = some x) (hy : l[2 * i + 1]? = some y) :
    (l.set (2 * i) p)[2 * i + 1]? = some y ∧ ((l.set (2 * i) p).set (2 * i + 1) q)[2 * k]? = some p ∧ (((l.set (2 * i) p).set (2 * i + 1) q).set (2 * k) x)[2 * k + 1]? = some q := by
  have hl3 : 2 * k < l.length := (List.getElem?_eq_some_iff.1 hp).1
  have hl4 : 2 * k + 1 < l.length := (List.getElem?_eq_some_iff.1 hq).1
  refine ⟨by rw [List.getElem?_set_ne (by omega)]; exact hy, ?_, ?_⟩
  · rw [List.getElem?_set_ne (by omega)]
    by_cases h : i = k
    · subst h; simp [hl3]
    · rw [List.getElem?_set_ne (by omega)]; exact hp
  · rw [List.getElem?_set_ne (by omega)]
    by_cases h : i = k
    · subst h; simp [hl4]
    · rw [List.getElem?_set_ne (by omega), List.getElem?_set_ne (by omega)]; exact hq
/-- Two words change places: the weight is as it was. -/
theorem order_law {l : List Int} {i k : Nat} {p q x y : Int} (hp : l[2 * k]? = some p) (hq : l[2 * k + 1]? = some q) (hx : l[2 * i]? = some x) (hy : l[2 * i + 1]? = some y) :
    ck ((((l.set (2 * i) p).set (2 * i + 1) q).set (2 * k) x).set (2 * k + 1) y) = ck l := by
  have hl1 : 2 * i < l.length := (List.getElem?_eq_some_iff.1 hx).1
  have hl2 : 2 * i + 1 < l.length := (List.getElem?_eq_some_iff.1 hy).1
  have hl3 : 2 * k < l.length := (List.getElem?_eq_some_iff.1 hp).1
  have hl4 : 2 * k + 1 < l.length := (List.getElem?_eq_some_iff.1 hq).1
  have e1 : (l.set (2 * i) p)[2 * i + 1]? = some y := by rw [List.getElem?_set_ne (by omega)]; exact hy
  have e2 : ((l.set (2 * i) p).set (2 * i + 1) q)[2 * k]? = some p := by
    rw [List.getElem?_set_ne (by omega)]
    by_cases h : i = k
    · subst h; simp [hl3]
    · rw [List.getElem?_set_ne (by omega)]; exact hp
  have e3 : (((l.set (2 * i) p).set (2 * i + 1) q).set (2 * k) x)[2 * k + 1]? = some q := by
    rw [List.getElem?_set_ne (by omega)]
    by_cases h : i = k
    · subst h; simp [hl4]
    · rw [List.getElem?_set_ne (by omega), List.getElem?_set_ne (by omega)]; exact hq
  have w0 : ∀ j, wat false (2 * j) = 256 := fun j => by unfold wat; simp
  have w1 : ∀ j, wat false (2 * j + 1) = 1 := fun j => by unfold wat; simp
  unfold ck
  rw [wt_set _ false _ _ _ e3, wt_set _ false _ _ _ e2, wt_set _ false _ _ _ e1, wt_set _ false _ _ _ hx, w0, w1, w0, w1]
  congr 2
  omega

set_option maxHeartbeats 4000000 in
set_option maxRecDepth 100000 in
theorem order9_out (A : Option Addr) (len cap : Nat) (i k : Int) (w : World) (hlen : (len : Int) ≤ 140737488351232) (h : i < 0 ∨ k < 0 ∨ (len : Int) / 2 ≤ i ∨ (len : Int) / 2 ≤ k) :
    Calls Try.prog 9 #[.slice A len cap, .int .i64 i, .int .i64 k] w fun e w' => e = .returned (.bool true) ∧ Fr (fun _ => False) w w' := by
  obtain ⟨n, hn⟩ : ∃ n, (len : Int) / 2 = n := ⟨_, rfl⟩
  rw [hn] at h
  have C : ∀ (b1 b2 b3 b4 : Bool), decide (i < 0) = b1 → decide (k < 0) = b2 → decide (n ≤ i) = b3 → decide (n ≤ k) = b4 → (b1 || b2 || b3 || b4) = true →
      Calls Try.prog 9 #[.slice A len cap, .int .i64 i, .int .i64 k] w fun e w' => e = .returned (.bool true) ∧ Fr (fun _ => False) w w' := by
    intro b1 b2 b3 b4 h1 h2 h3 h4 hor
    clear h
    cases b1 <;> cases b2 <;> cases b3 <;> cases b4 <;> first
      | (exact absurd hor (by decide))
      | (clear hor
         go_enter Try.func9, Try.ntmps9
         go_wp2_with (go_at_call 27; refine (awake27 _).mono ?_; rintro e w1 ⟨rfl, f1⟩)
         go_ret
         exact ⟨rfl, f1⟩)
  refine C _ _ _ _ rfl rfl rfl rfl ?_
  simp only [Bool.or_eq_true, decide_eq_true_eq]
  omega

set_option maxHeartbeats 4000000 in
set_option maxRecDepth 100000 in
theorem order9 (A : Option Addr) (cap : Nat) (l : List Int) (i k : Nat) (w : World) (hL : BArg w A cap l) (hi : i < l.length / 2) (hk : k < l.length / 2) :
    Calls Try.prog 9 #[.slice A l.length cap, .int .i64 i, .int .i64 k] w fun e w' => e = .returned (.bool true) ∧ Fr (fun _ => False) w w' := by
  have hlen0 : 0 < l.length := by omega
  obtain ⟨b, off, rfl, hb, hc⟩ := hL.here hlen0
  have hcw : ∀ (w' : World) (j : Nat) (x : Int), Fr (fun _ => False) w w' → l[j]? = some x → w'.cell? ⟨b, off + j, none⟩ = some (.int .u8 x) := fun w' j x f hj => (World.cell?_of_block (f.block b hb (fun e => e))).trans (hc _ _ hj)
  obtain ⟨p, hp⟩ : ∃ p, l[2 * k]? = some p := ⟨_, List.getElem?_eq_getElem (by omega)⟩
  obtain ⟨q, hq⟩ : ∃ q, l[2 * k + 1]? = some q := ⟨_, List.getElem?_eq_getElem (by omega)⟩
  obtain ⟨x, hx⟩ : ∃ x, l[2 * i]? = some x := ⟨_, List.getElem?_eq_getElem (by omega)⟩
  obtain ⟨y, hy⟩ : ∃ y, l[2 * i + 1]? = some y := ⟨_, List.getElem?_eq_getElem (by omega)⟩
  have hlaw := order_law hp hq hx hy
  obtain ⟨he1, he2, he3⟩ := order_cells hp hq hx hy
  have pB := hL.ok p (List.mem_of_getElem? hp)
  have qB := hL.ok q (List.mem_of_getElem? hq)
  have xB := hL.ok x (List.mem_of_getElem? hx)
  have yB := hL.ok y (List.mem_of_getElem? hy)
  have hB9 : isB ((((l.set (2 * i) p).set (2 * i + 1) q).set (2 * k) x).set (2 * k + 1) y) := (((hL.ok.set pB).set qB).set xB).set yB
  obtain ⟨len, hlen⟩ : ∃ n, n = l.length := ⟨_, rfl⟩
  obtain ⟨h, hh⟩ : ∃ h, h = len / 2 := ⟨_, rfl⟩
  have hl9 : ((((l.set (2 * i) p).set (2 * i + 1) q).set (2 * k) x).set (2 * k + 1) y).length = len := by simp [hlen]
  have hle : len ≤ cap := by rw [hlen]; exact hL.le
  have htop : cap ≤ 140737488351232 := hL.top
  have h2 : (len : Int) / 2 = (h : Int) := by omega
  have hi1 : i < h := by omega
  have hk1 : k < h := by omega
  have hi2 : 2 * i + 1 < len := by omega
  have hk2 : 2 * k + 1 < len := by omega
  have hlen1 : 0 < len := by omega
  rw [← hlen]
  have HL := Lib.hid hL
  have Hlen := Lib.hid hlen.symm
  have Hcw := Lib.hid hcw
  have Hlaw := Lib.hid hlaw
  have Hp := Lib.hid hp
  have Hq := Lib.hid hq
  have Hx := Lib.hid hx
  have Hy := Lib.hid hy
  have HB9 := Lib.hid hB9
  have E1 := Lib.hid he1
  have E2 := Lib.hid he2
  have E3 := Lib.hid he3
  have Hl9 := Lib.hid hl9
  clear he1 he2 he3 hcw hlaw hp hq hx hy hB9 hl9 hlen hL hlen0 hb hc hh pB qB xB yB hi hk
  go_enter Try.func9, Try.ntmps9
  go_upto_region 6 with (first
    | (go_at_call 27; refine (awake27 _).mono ?_; rintro e w1 ⟨rfl, f1⟩)
    | (at_builtin; refine wpList_appN _ rfl _ _ rfl w1.heap.size _ [] rfl (OwnB.nil _ _) w.heap.size _ len cap l Hlen.out (by exact rfl) (by exact (HL.out.here.fr f1 (Nat.le_refl _) (fun _ _ e => e))) (by simp; omega) (Nat.le_refl _) ?_; intro v3 w3 o3 f3; have f3 := f3.fromNil; (have o3 : OwnB w1.heap.size w3 v3 l := by simpa using o3); obtain ⟨g, c3, rfl, hg1, hg2⟩ := o3.form Hlen.out hlen1))
  have g3 := f1.then f3
  have hg : w.heap.size ≤ g := by have := f1.size; omega
  clear f1 f3
  have c1 := Hcw.out w3 (2 * k) p g3 Hp.out
  obtain ⟨c2, c3'⟩ := o3.cell Hx.out
  obtain ⟨o4, f4⟩ := o3.set (2 * i) p
  have g4 := g3.trans f4 (fun i hi e => by omega)
  have O4 := Lib.hid o4
  have G4 := Lib.hid g4
  clear o3 o4 g4 f4 hg2
  go_upto_region 7 with (fail)
  clear c1 c2 c3'
  generalize w3.setCell ⟨g, 2 * i, none⟩ _ = w4 at *
  have c1 := Hcw.out w4 (2 * k + 1) q G4.out Hq.out
  obtain ⟨c2, c3'⟩ := O4.out.cell E1.out
  obtain ⟨o5, f5⟩ := O4.out.set (2 * i + 1) q
  have g5 := G4.out.trans f5 (fun i hi e => by omega)
  have O5 := Lib.hid o5
  have G5 := Lib.hid g5
  clear o5 g5 f5 O4 G4
  go_upto_region 8 with (fail)
  clear c1 c2 c3'
  generalize w4.setCell ⟨g, 2 * i + 1, none⟩ _ = w5 at *
  have c1 := Hcw.out w5 (2 * i) x G5.out Hx.out
  obtain ⟨c2, c3'⟩ := O5.out.cell E2.out
  obtain ⟨o6, f6⟩ := O5.out.set (2 * k) x
  have g6 := G5.out.trans f6 (fun i hi e => by omega)
  have O6 := Lib.hid o6
  have G6 := Lib.hid g6
  clear o6 g6 f6 O5 G5
  go_upto_region 9 with (fail)
  clear c1 c2 c3'
  generalize w5.setCell ⟨g, 2 * k, none⟩ _ = w6 at *
  have c1 := Hcw.out w6 (2 * i + 1) y G6.out Hy.out
  obtain ⟨c2, c3'⟩ := O6.out.cell E3.out
  obtain ⟨o7, f7⟩ := O6.out.set (2 * k + 1) y
  have g7 := G6.out.trans f7 (fun i hi e => by omega)
  have O7 := Lib.hid o7
  have G7 := Lib.hid g7
  clear o7 g7 f7 O6 G6
  go_upto_region 10 with (fail)
  clear c1 c2 c3'
  generalize w6.setCell ⟨g, 2 * k + 1, none⟩ _ = w7 at *
  have b7 := (HL.out.fr G7.out).here
  obtain ⟨A', c', hv', b7'⟩ := O7.out.viewN Hl9.out
  cases hv'
  go_wp2_with (first
    | (go_at_call 28; refine (sum28_boxN cap l _ Hlen.out HL.out.ok (by omega) b7 _).mono ?_; rintro e w8 ⟨rfl, f8⟩; have b8 := (b7'.fr f8 (Nat.le_refl _) (fun _ _ e => e)).up f8.size; clear b7)
    | (go_at_call 28; refine (sum28_boxN c3 _ _ Hl9.out HB9.out (by omega) b8 _).mono ?_; rw [Hlaw.out]; rintro e w9 ⟨rfl, f9⟩))
  go_ret
  exact ⟨rfl, (G7.out.then f8).then f9⟩
end Go.Proofs.Ytcgghjjchfafiaa
