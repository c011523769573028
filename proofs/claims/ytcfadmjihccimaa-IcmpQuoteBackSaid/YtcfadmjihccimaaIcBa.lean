/- The reference of law 09: Right ends, and says something. No condition but lengths. -/
import Derived.Test.YtcfadmjihccimaaIcQa
namespace Go.Proofs.Ytcfadmjihccimaa
set_option linter.unusedVariables false
set_option linter.unusedSimpArgs false
open Go.RowKit
def lenOf : Value → Nat
  | .slice _ n _ => n
  | _ => 0
theorem Pc.drop {w : World} {A : Option Addr} {n : Nat} {l : List Int} (P : Pc w A n l) (k : Nat) : Pc w (A.map fun x => x.add k) (n - k) (l.drop k) :=
  ⟨by rw [List.length_drop, P.len], fun x hx => P.ok x (List.mem_of_mem_drop hx), by have := P.top; omega, P.here.dropO k⟩
theorem Pc.from {w : World} {bb off n c : Nat} {l : List Int} (P : Pc w (some ⟨bb, off, none⟩) n l) (hc : n ≤ c) (k : Nat) : Pc w (if c = k then some ⟨bb, off, none⟩ else some ⟨bb, off + k, none⟩) (n - k) (l.drop k) := by
  by_cases e : c = k
  · rw [if_pos e]
    have hl : l.drop k = [] := List.drop_eq_nil_of_le (by rw [P.len]; omega)
    rw [hl]
    exact ⟨by rw [List.length_nil]; omega, fun x hx => by simp at hx, by have := P.top; omega, fun h => absurd h (by simp)⟩
  · rw [if_neg e]
    exact ⟨by rw [List.length_drop, P.len], fun x hx => P.ok x (List.mem_of_mem_drop hx), by have := P.top; omega, P.here.drop k⟩
def RtPost (w : World) (e : Ending) (w' : World) : Prop := (∃ b, e = .returned (.bool b)) ∧ w' = w
set_option maxHeartbeats 8000000 in
set_option maxRecDepth 100000 in
theorem right52 (A : Option Addr) (n c : Nat) (l : List Int) (w : World) (P : Pc w A n l) (hc : n ≤ c) (hcm : c ≤ maxLen) :
    Calls Try.prog 52 #[.slice A n c] w (RtPost w) := by
  have HP := Lib.hid P
  have HC := Lib.hid (And.intro hc hcm)
  clear P hc hcm
  go_enter Try.func52, Try.ntmps52
  go_upto_region 1 with (fail)
  go_wp2_with fail
  go_loopw [0] (fun v wr => ∃ A' n' c' l', v = .slice A' n' c' ∧ Pc w A' n' l' ∧ n' ≤ c' ∧ c' ≤ maxLen ∧ wr = w) (fun v _ => lenOf v)
  case atStart => exact ⟨A, n, c, l, rfl, HP.out, HC.out.1, HC.out.2, rfl⟩
  case round =>
    obtain ⟨A', n', c', l', rfl, P', hc', hm', hwr⟩ := hrel
    have hwr := hwr.symm
    subst hwr
    by_cases h0 : n' = 0
    · subst h0
      go_wp2_with fail
      go_ret
      exact ⟨⟨_, rfl⟩, rfl⟩
    · obtain ⟨bb, off, rfl, hbl, hcell⟩ := P'.here (by rw [P'.len]; omega)
      have x0 := hcell 0 (dX l' 0) (dX_get (by rw [P'.len]; omega))
      have t0 := P'.ok _ (List.mem_of_getElem? (dX_get (l := l') (i := 0) (by rw [P'.len]; omega)))
      rw [Nat.add_zero] at x0
      have hI : (0 : Int) < (n' : Int) := by omega
      generalize dX l' 0 = x at x0 t0
      have HP' := Lib.hid P'
      have HC' := Lib.hid (And.intro hc' hm')
      have HX := Lib.hid hcell
      have htp := P'.top
      clear hcell P'
      by_cases hx0 : x = 0
      · subst hx0
        as_aux_lemma =>
        go_wp2_with fail
        go_loopw [3] (fun v wr => ∃ i : Nat, v = .int .i64 i ∧ i ≤ n' ∧ wr = w) (fun v _ => n' - (intOf v).toNat)
        case atStart => exact ⟨0, rfl, Nat.zero_le _, rfl⟩
        case round =>
          obtain ⟨i, rfl, hi, hwr2⟩ := hrel
          have hwr2 := hwr2.symm
          subst hwr2
          by_cases hlt : i < n'
          · have xi := HX.out i (dX l' i) (dX_get (by rw [HP'.out.len]; omega))
            have hiI : (i : Int) < (n' : Int) := by omega
            generalize dX l' i = y at xi
            by_cases hy : y = 0
            · subst hy
              go_wp2_with fail
              go_roundw
              case rel => exact ⟨i + 1, by go_num, by omega, by first | trivial | rfl⟩
              case measure => simp [intOf]; omega
            · have hyb : (y == 0) = false := by simpa using hy
              go_wp2_with fail
              go_ret
              exact ⟨⟨_, rfl⟩, rfl⟩
          · go_wp2_with fail
            go_ret
            exact ⟨⟨_, rfl⟩, rfl⟩
      · have hx0b : (x == 0) = false := by simpa using hx0
        by_cases hx1 : x = 1
        · subst hx1
          as_aux_lemma =>
          have D := Lib.hid (HP'.out.from HC'.out.1 1)
          have hn1 : 1 ≤ n' := by omega
          have hc1 : 1 ≤ c' := by omega
          go_wp2_with fail
          exact ⟨⟨_, _, _, _, rfl, D.out, by omega, by omega, trivial⟩, by simp only [lenOf]; omega⟩
        · have hx1b : (x == 1) = false := by simpa using hx1
          by_cases hn2 : n' < 2
          · as_aux_lemma =>
            go_wp2_with fail
            go_ret
            exact ⟨⟨_, rfl⟩, rfl⟩
          · have xy := HX.out 1 (dX l' 1) (dX_get (by rw [HP'.out.len]; omega))
            have ty := HP'.out.ok _ (List.mem_of_getElem? (dX_get (l := l') (i := 1) (by rw [HP'.out.len]; omega)))
            have hI1 : (1 : Int) < (n' : Int) := by omega
            generalize dX l' 1 = y at xy ty
            have hw : IntKind.i64.wrap y = y := IntWalk.i64_in _ (by omega)
            by_cases hy2 : y < 2
            · as_aux_lemma =>
              go_wp2_with fail
              go_ret
              exact ⟨⟨_, rfl⟩, rfl⟩
            · by_cases hyn : (n' : Int) < y
              · as_aux_lemma =>
                go_wp2_with fail
                go_ret
                exact ⟨⟨_, rfl⟩, rfl⟩
              · obtain ⟨k, rfl⟩ : ∃ k : Nat, y = k := ⟨y.toNat, by omega⟩
                as_aux_lemma =>
                have D := Lib.hid (HP'.out.from HC'.out.1 k)
                have hn1 : k ≤ n' := by omega
                have hc1 : k ≤ c' := by omega
                go_wp2_with fail
                exact ⟨⟨_, _, _, _, rfl, D.out, by omega, by omega, trivial⟩, by simp only [lenOf]; omega⟩
end Go.Proofs.Ytcfadmjihccimaa
