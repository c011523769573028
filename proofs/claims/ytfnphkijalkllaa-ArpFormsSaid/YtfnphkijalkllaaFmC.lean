/- slices.Equal of bytes. No condition but lengths. -/
import Derived.Test.YtfnphkijalkllaaFmB
namespace Go.Proofs.Ytfnphkijalkllaa
set_option linter.unusedVariables false
set_option linter.unusedSimpArgs false
open Go.RowKit
theorem BytesIn.byte {n₀ : Nat} {w : World} {b off : Nat} {l : List Int} (h : BytesIn n₀ w (some ⟨b, off, Option.none⟩) l) {j : Nat} {x : Int} (hj : l[j]? = some x) : w.cell? ⟨b, off + j, Option.none⟩ = some (.int .u8 x) := by
  obtain ⟨b', o', e, _, hc⟩ := h (by have := (List.getElem?_eq_some_iff.1 hj).1; omega)
  cases e
  exact hc j x hj
set_option maxRecDepth 100000 in
set_option maxHeartbeats 4000000 in
theorem equal47 (A B : Option Addr) (n c d : Nat) (l k : List Int) (w : World) (hl : l.length = n) (hk : k.length = n) (hc : n ≤ c) (hd : n ≤ d) (hn : n ≤ 140737488355328) (hA : BytesIn w.heap.size w A l) (hB : BytesIn w.heap.size w B k) :
    Calls Try.prog 47 #[.slice A n c, .slice B n d] w fun e w' => e = .returned (.bool (decide (l = k))) ∧ Fr (fun _ => False) w w' := by
  have HL := Lib.hid hl
  have HK := Lib.hid hk
  have HA := Lib.hid hA
  have HB := Lib.hid hB
  have F0 := Lib.hid (Fr.refl (fun _ => False) w)
  clear hl hk hA hB
  go_enter Try.func47, Try.ntmps47
  go_wp2_with fail
  go_loopw [13] (fun v wr => ∃ i : Nat, v = .int .i64 (i : Int) ∧ i ≤ n ∧ l.take i = k.take i ∧ Fr (fun _ => False) w wr) (fun v _ => n - (intOf v).toNat)
  case atStart => exact ⟨0, rfl, Nat.zero_le _, by simp, F0.out⟩
  case round =>
    obtain ⟨i, rfl, hi, ht, hf⟩ := hrel
    have HT := Lib.hid ht
    have HF := Lib.hid hf
    clear ht hf
    by_cases hlt : i < n
    · obtain ⟨x, hx⟩ : ∃ x, l[i]? = some x := ⟨_, List.getElem?_eq_getElem (by rw [HL.out]; exact hlt)⟩
      obtain ⟨y, hy⟩ : ∃ y, k[i]? = some y := ⟨_, List.getElem?_eq_getElem (by rw [HK.out]; exact hlt)⟩
      have hAf := HA.out.fr (HF.out.then' (Fr.refl _ wr).drew) (Nat.le_refl _) (fun _ _ e => e)
      have hBf := HB.out.fr (HF.out.then' (Fr.refl _ wr).drew) (Nat.le_refl _) (fun _ _ e => e)
      obtain ⟨b1, o1, rfl, _, _⟩ := hAf (by rw [HL.out]; omega)
      obtain ⟨b2, o2, rfl, _, _⟩ := hBf (by rw [HK.out]; omega)
      have CA := Lib.hid (hAf.byte hx)
      have CB := Lib.hid (hBf.byte hy)
      have HX := Lib.hid (And.intro hx hy)
      clear hAf hBf hx hy
      have hltI : (i : Int) < (n : Int) := by omega
      have hic : i < c := by omega
      have hid : i < d := by omega
      go_upto_region 6 with (fail)
      refine kr_start [(3, fun W => W.cell? ⟨b1, o1 + i, none⟩ = some (.int .u8 x)), (7, fun W => W.cell? ⟨b2, o2 + i, none⟩ = some (.int .u8 y))] (by kernel_rfl) (by kernel_rfl) ?_
      refine kr_find 0 rfl (by kernel_rfl) (by kernel_rfl) (by kernel_rfl) (fun _ _ _ _ h => h) (by rfl) trivial ?_
      apply Exists.intro; apply And.intro
      · intro w' hS K hK
        clear hS
        go_light
        go_simp
        exact hK.out
      try simp only [Act.put, List.getElem_toArray, List.getElem_cons_zero, List.getElem_cons_succ, List.setIfInBounds_toArray, List.set_cons_zero, List.set_cons_succ]
      refine kr_find 1 rfl (by kernel_rfl) (by kernel_rfl) (by kernel_rfl) (fun _ _ _ _ h => h) (by rfl) trivial ?_
      apply Exists.intro; apply And.intro
      · intro w' hS K hK
        clear hS
        go_light
        go_simp
        exact hK.out
      try simp only [Act.put, List.getElem_toArray, List.getElem_cons_zero, List.getElem_cons_succ, List.setIfInBounds_toArray, List.set_cons_zero, List.set_cons_succ]
      refine kr_find 2 rfl (by kernel_rfl) (by kernel_rfl) (by kernel_rfl) (fun _ _ _ _ h => h) (by rfl) trivial ?_
      apply Exists.intro; apply And.intro
      · intro w' hS K hK
        clear hS
        go_light
        go_simp
        exact hK.out
      try simp only [Act.put, List.getElem_toArray, List.getElem_cons_zero, List.getElem_cons_succ, List.setIfInBounds_toArray, List.set_cons_zero, List.set_cons_succ]
      refine kr_find 3 rfl (by kernel_rfl) (by kernel_rfl) (by kernel_rfl) (fun _ _ _ _ h => h) (by rfl) (show _ from CA.out) ?_
      apply Exists.intro; apply And.intro
      · intro w' hS K hK
        have hS : w'.cell? ⟨b1, o1 + i, none⟩ = some (.int .u8 x) := hS
        go_light
        go_simp
        exact hK.out
      try simp only [Act.put, List.getElem_toArray, List.getElem_cons_zero, List.getElem_cons_succ, List.setIfInBounds_toArray, List.set_cons_zero, List.set_cons_succ]
      refine kr_find 4 rfl (by kernel_rfl) (by kernel_rfl) (by kernel_rfl) (fun _ _ _ _ h => h) (by rfl) trivial ?_
      apply Exists.intro; apply And.intro
      · intro w' hS K hK
        clear hS
        go_light
        go_simp
        exact hK.out
      try simp only [Act.put, List.getElem_toArray, List.getElem_cons_zero, List.getElem_cons_succ, List.setIfInBounds_toArray, List.set_cons_zero, List.set_cons_succ]
      refine kr_find 5 rfl (by kernel_rfl) (by kernel_rfl) (by kernel_rfl) (fun _ _ _ _ h => h) (by rfl) trivial ?_
      apply Exists.intro; apply And.intro
      · intro w' hS K hK
        clear hS
        go_light
        go_simp
        exact hK.out
      try simp only [Act.put, List.getElem_toArray, List.getElem_cons_zero, List.getElem_cons_succ, List.setIfInBounds_toArray, List.set_cons_zero, List.set_cons_succ]
      refine kr_find 6 rfl (by kernel_rfl) (by kernel_rfl) (by kernel_rfl) (fun _ _ _ _ h => h) (by rfl) trivial ?_
      apply Exists.intro; apply And.intro
      · intro w' hS K hK
        clear hS
        go_light
        go_simp
        exact hK.out
      try simp only [Act.put, List.getElem_toArray, List.getElem_cons_zero, List.getElem_cons_succ, List.setIfInBounds_toArray, List.set_cons_zero, List.set_cons_succ]
      refine kr_find 7 rfl (by kernel_rfl) (by kernel_rfl) (by kernel_rfl) (fun _ _ _ _ h => h) (by rfl) (show _ from CB.out) ?_
      apply Exists.intro; apply And.intro
      · intro w' hS K hK
        have hS : w'.cell? ⟨b2, o2 + i, none⟩ = some (.int .u8 y) := hS
        go_light
        go_simp
        exact hK.out
      try simp only [Act.put, List.getElem_toArray, List.getElem_cons_zero, List.getElem_cons_succ, List.setIfInBounds_toArray, List.set_cons_zero, List.set_cons_succ]
      refine kr_find 8 rfl (by kernel_rfl) (by kernel_rfl) (by kernel_rfl) (fun _ _ _ _ h => h) (by rfl) trivial ?_
      apply Exists.intro; apply And.intro
      · intro w' hS K hK
        clear hS
        go_light
        go_simp
        exact hK.out
      try simp only [Act.put, List.getElem_toArray, List.getElem_cons_zero, List.getElem_cons_succ, List.setIfInBounds_toArray, List.set_cons_zero, List.set_cons_succ]
      refine kr_done (by kernel_rfl) ?_ _
      by_cases hxy : x = y
      · subst hxy
        go_wp2_with fail
        refine ⟨⟨i + 1, by go_num, by omega, by rw [take_next HX.out.1, take_next HX.out.2, HT.out], HF.out.then' (Fr.refl _ wr).drew⟩, by simp [intOf]; omega⟩
      · have hne : ¬ l = k := fun e => by
          have h1 := HX.out.1
          rw [e, HX.out.2] at h1
          cases h1
          exact hxy rfl
        have HNE := Lib.hid hne
        clear hne
        go_wp2_with fail
        exact bodyPost_ret (v := .bool false) (by simp [results, Try.results47, go_sem]) rfl ⟨by rw [decide_eq_false HNE.out], HF.out.then' (Fr.refl _ wr).drew⟩
    · have hin : i = n := by omega
      have he : l = k := by
        have h := HT.out
        rw [List.take_of_length_le (by rw [HL.out]; omega), List.take_of_length_le (by rw [HK.out]; omega)] at h
        exact h
      have HE := Lib.hid he
      clear he hin
      go_wp2_with fail
      exact bodyPost_ret (v := .bool true) (by simp [results, Try.results47, go_sem]) rfl ⟨by rw [decide_eq_true HE.out], HF.out⟩
end Go.Proofs.Ytfnphkijalkllaa
