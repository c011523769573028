/- slices.Grow and slices.Concat of bytes. No condition but lengths. -/
import Derived.Test.YtfnphkijalkllaaEtZ
namespace Go.Proofs.Ytfnphkijalkllaa
set_option linter.unusedVariables false
open Go.RowKit

theorem wpList_zeros {ops : Array Oper} {rest : List Oper} {o : Oper} {a : Act} {Q : Exit → Act → World → Prop} (w : World) (hgd : o.guard = none) (s x : Operand)
    (ho : o.op = .call { callee := .builtin .append, args := #[s, x], argTypes := #[55, 3] })
    (base : Nat) (v : Value) (l : List Int) (hs : a.eval s = v) (hown : OwnB base w v l) (n : Nat) (hx : a.eval x = .int .i64 n) (hlen : l.length + n ≤ 140737488355328) (hbase : base ≤ w.heap.size)
    (h : ∀ v' w', OwnB base w' v' (l ++ List.replicate n 0) → Fr (fun i => v.ownBlock = some i) w w' → wpList Try.prog ops Q rest (a.put o.dst v') w') : wpList Try.prog ops Q (o :: rest) a w := by
  obtain ⟨v', w', hr, h2, h3⟩ := run_app_zeros n o.type hown hlen hbase
  exact Lib.wpList_append_run w hgd s x 55 3 ho v (.int .i64 n) hs hx v' w' hr (h v' w' h2 (fr_of_grown h3))
theorem OwnB.cut0 {base : Nat} {w : World} {g n c : Nat} {l : List Int} (h : OwnB base w (.slice (some ⟨g, 0, none⟩) n c) l) : OwnB base w (.slice (some ⟨g, 0, none⟩) 0 c) [] := by
  rcases h.2 with ⟨e, _⟩ | ⟨g', cap, cur, hv, hb, hg, h1, h2, h3, h4⟩
  · cases e
  · injection hv with e1 e2 e3
    cases e1
    subst e3
    exact ⟨rfl, .inr ⟨g, c, cur, rfl, hb, hg, Nat.zero_le _, h2, h3, by simp⟩⟩

set_option maxHeartbeats 4000000 in
set_option maxRecDepth 100000 in
theorem grow46 (n : Nat) (w : World) (hn : n ≤ 140737488355328) :
    Calls Try.prog 68 #[.slice none 0 0, .int .i64 n] w fun e w' => ∃ v, e = .returned v ∧ OwnB w.heap.size w' v [] ∧ Fr (fun _ => False) w w' := by
  by_cases h0 : n = 0
  · subst h0
    go_enter Try.func68, Try.ntmps68
    go_wp2_with fail
    go_ret
    exact ⟨_, rfl, OwnB.nil _ _, Fr.refl _ _⟩
  · have hpos : 0 < n := by omega
    go_enter Try.func68, Try.ntmps68
    go_upto_region 5 with (fail)
    iterate 30 (first
      | (have := MK1; clear this)
      | (refine wpList_zeros _ rfl _ _ rfl w.heap.size (.slice none 0 0) [] rfl (OwnB.nil _ _) n rfl (by simpa using hn) (Nat.le_refl _) ?_; intro v1 w1 o1 f1; have MK1 := Lib.hid True.intro)
      | go_step)
    have f1 := f1.fromNil
    have o1 : OwnB w.heap.size w1 v1 (List.replicate n 0) := by simpa using o1
    obtain ⟨g, c, rfl, hg1, hg2⟩ := o1.form (by simp) hpos
    have O1 := Lib.hid o1.cut0
    clear o1
    go_wp2_with fail
    go_ret
    exact ⟨_, rfl, O1.out, f1⟩

/-- Parts of bytes behind an address. -/
def PartsIn (n₀ : Nat) (W : World) (A : Option Addr) (ps : List (List Int)) : Prop :=
  ∃ b off, A = some ⟨b, off, none⟩ ∧ b < n₀ ∧ ∀ i p, ps[i]? = some p → ∃ Ap cap, W.cell? ⟨b, off + i, none⟩ = some (.slice Ap p.length cap) ∧ BytesIn n₀ W Ap p
theorem flat_take {ps : List (List Int)} {i : Nat} {p : List Int} (h : ps[i]? = some p) : (ps.take (i + 1)).flatten = (ps.take i).flatten ++ p := by
  rw [List.take_add_one, h]; simp
theorem flat_le (ps : List (List Int)) (i : Nat) : (ps.take i).flatten.length ≤ ps.flatten.length := by
  have : ps.flatten = (ps.take i).flatten ++ (ps.drop i).flatten := by rw [← List.flatten_append, List.take_append_drop]
  rw [this, List.length_append]; omega

set_option maxHeartbeats 8000000 in
set_option maxRecDepth 100000 in
theorem concat33 (A : Option Addr) (cap n : Nat) (ps : List (List Int)) (hn : ps.length = n) (hn0 : n ≤ 1000) (hT : ps.flatten.length ≤ 140737488355328) (w : World) (hP : PartsIn w.heap.size w A ps) :
    Calls Try.prog 45 #[.slice A n cap] w fun e w' => ∃ v, e = .returned v ∧ OwnB w.heap.size w' v ps.flatten ∧ Fr (fun _ => False) w w' := by
  obtain ⟨b, off, rfl, hb, hc⟩ := hP
  have HC := Lib.hid hc
  have HN := Lib.hid hn
  clear hc hn
  go_enter Try.func45, Try.ntmps45
  go_wp2_with fail
  go_loopw [3, 11] (fun v3 v11 wr => ∃ (i : Nat), v11 = .int .i64 i ∧ i ≤ n ∧ v3 = .int .i64 ((ps.take i).flatten.length : Nat) ∧ wr = w) (fun _ v _ => n - (intOf v).toNat)
  case atStart => exact ⟨0, rfl, Nat.zero_le _, rfl, rfl⟩
  case round =>
    obtain ⟨i, rfl, hi, rfl, rfl⟩ := hrel
    rename World => w
    have ht := flat_le ps i
    obtain ⟨tl, htl⟩ : ∃ t, (ps.take i).flatten.length = t := ⟨_, rfl⟩
    rw [htl] at ht ⊢
    have Htl := Lib.hid htl
    clear htl
    by_cases hlt : i < n
    · obtain ⟨p, hp⟩ : ∃ p, ps[i]? = some p := ⟨_, List.getElem?_eq_getElem (by rw [HN.out]; exact hlt)⟩
      obtain ⟨Ap, cp, cx, bx⟩ := HC.out i p hp
      have ht2 := flat_le ps (i + 1)
      rw [flat_take hp, List.length_append, Htl.out] at ht2
      have Hp := Lib.hid hp
      clear bx hp
      go_wp2_with fail
      exact ⟨⟨i + 1, by go_num, by omega, by rw [flat_take Hp.out, List.length_append, Htl.out]; go_num, trivial⟩, by simp [intOf]; omega⟩
    · obtain rfl : i = n := by omega
      clear hlt hi
      go_wp2_with (go_at_call 68; refine (grow46 tl _ (by omega)).mono ?_; rintro e w1 ⟨v1, rfl, o1, f1⟩)
      have hbl := hb
      go_loopw [6, 27] (fun v6 v27 wr => ∃ (j : Nat), v27 = .int .i64 j ∧ j ≤ i ∧ OwnB w.heap.size wr v6 (ps.take j).flatten ∧ Fr (fun _ => False) w wr) (fun _ v _ => i - (intOf v).toNat)
      case atStart => exact ⟨0, rfl, Nat.zero_le _, by simpa using o1, f1⟩
      case round =>
        obtain ⟨j, rfl, hj, o2, f2⟩ := hrel
        rename World => wr
        clear o1 f1
        have O2 := Lib.hid o2
        have hsz := f2.size
        by_cases hlt : j < i
        · obtain ⟨p, hp⟩ : ∃ p, ps[j]? = some p := ⟨_, List.getElem?_eq_getElem (by rw [HN.out]; exact hlt)⟩
          obtain ⟨Ap, cp, cx0, bx⟩ := HC.out j p hp
          have cx : wr.cell? ⟨b, off + j, none⟩ = some (.slice Ap p.length cp) := (World.cell?_of_block (f2.block b hb (fun e => e))).trans cx0
          have ht2 := flat_le ps (j + 1)
          rw [flat_take hp, List.length_append] at ht2
          have Hp := Lib.hid hp
          have Bx := Lib.hid bx
          have F2 := Lib.hid f2
          have Ht2 := Lib.hid ht2
          clear bx hp cx0 o2 f2 ht2
          go_wp2_with (at_builtin; refine wpList_appN _ rfl _ _ rfl w.heap.size _ (ps.take j).flatten (by exact rfl) O2.out w.heap.size Ap p.length cp p rfl (by exact rfl) (Bx.out.fr F2.out (Nat.le_refl _) (fun _ _ e => e)) (by have := Ht2.out; omega) hsz ?_; intro v3 w3 o3 f3; have O3 := Lib.hid o3; have F3 := Lib.hid (O2.out.turn F2.out (Nat.le_refl _) f3); clear o3 f3)
          exact ⟨⟨j + 1, by go_num, by omega, by rw [flat_take Hp.out]; exact O3.out, F3.out⟩, by simp [intOf]; omega⟩
        · obtain rfl : j = i := by omega
          clear o2
          go_wp2_with fail
          go_ret
          refine ⟨_, rfl, ?_, f2⟩
          have := O2.out
          rwa [show ps.take j = ps from List.take_of_length_le (by rw [HN.out]; exact Nat.le_refl _)] at this
end Go.Proofs.Ytfnphkijalkllaa
