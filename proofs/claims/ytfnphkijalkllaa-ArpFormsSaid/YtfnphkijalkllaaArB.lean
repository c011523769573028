/- slices.DeleteFunc at a list of pointers, one of which goes. No condition but lengths. -/
import Derived.Test.YtfnphkijalkllaaArA
namespace Go.Proofs.Ytfnphkijalkllaa
set_option linter.unusedVariables false
set_option linter.unusedSimpArgs false
open Go.RowKit
theorem eql93 {w : World} {a b : Nat} (ha : Liv w a) (hb : Liv w b) : (binOp .eql 93 (.pointer (some ⟨a, 0, none⟩)) (.pointer (some ⟨b, 0, none⟩))).run Try.prog w = .ok (.bool (decide (a = b))) w := eql_ptr (n := 14) Try.underlying93 (by kernel_rfl) ha hb
set_option maxHeartbeats 8000000 in
set_option maxRecDepth 100000 in
theorem closure67 (k y : Nat) (kb : Nat) (w : World) (hr : w.cell? ⟨kb, 0, none⟩ = some (ptr k)) (hk : Liv w k) (hy : Liv w y) :
    Calls Try.prog 67 #[.pointer (some ⟨y, 0, none⟩), .pointer (some ⟨kb, 0, none⟩)] w fun e w' => e = .returned (.bool (decide (y = k))) ∧ Fr (fun _ => False) w w' := by
  have FA := Lib.hid (Fr.refl (fun _ => False) w)
  unfold ptr at *
  obtain ⟨r, hr0⟩ : ∃ r, decide (y = k) = r := ⟨_, rfl⟩
  have hq := eql93 hy hk
  rw [hr0] at hq ⊢
  clear hk hy hr0
  go_enter Try.func67, Try.ntmps67
  go_wp2_with fail
  go_ret
  exact ⟨rfl, FA.out⟩
set_option maxHeartbeats 8000000 in
set_option maxRecDepth 100000 in
theorem index77 (N b off n cap kb : Nat) (L : List Nat) (k : Nat) (w : World) (hS : Sl N 93 1 w (.slice (some ⟨b, off, none⟩) n cap) n (pl L)) (hn : L.length = n) (hlen : n ≤ 1000) (hr : w.cell? ⟨kb, 0, none⟩ = some (ptr k)) (hkb : kb < w.heap.size) (hkl : Liv w k) (hll : ∀ q ∈ L, Liv w q) :
    Calls Try.prog 77 #[.slice (some ⟨b, off, none⟩) n cap, .func (.func 67) #[] #[.pointer (some ⟨kb, 0, none⟩)]] w fun e w' => e = .returned (.int .i64 (idxP L k)) ∧ Fr (fun _ => False) w w' := by
  have FA := Lib.hid (Fr.refl (fun _ => False) w)
  have HS := Lib.hid hS
  have Hn := Lib.hid hn
  obtain ⟨A9, c9, hv9, hcap, _⟩ := hS.form
  cases hv9
  have HKB := Lib.hid (fun (w' : World) (f : Fr (fun _ => False) w w') => show w'.cell? ⟨kb, 0, none⟩ = some (ptr k) from (World.cell?_of_block (f.block kb hkb (fun e => e))).trans hr)
  obtain ⟨r, hr0⟩ : ∃ r, idxP L k = r := ⟨_, rfl⟩
  have HR := Lib.hid hr0
  rw [hr0]
  have HLL := Lib.hid (And.intro hkl hll)
  clear hS hn hr hkb hr0 hkl hll
  go_enter Try.func77, Try.ntmps77
  go_wp2_with fail
  go_loopw [8] (fun v wr => ∃ i : Nat, v = .int .i64 i ∧ i ≤ n ∧ (∀ (j q : Nat), j < i → L[j]? = some q → q ≠ k) ∧ Fr (fun _ => False) w wr) (fun v _ => n - (intOf v).toNat)
  case atStart => exact ⟨0, rfl, Nat.zero_le _, (fun j q hj => absurd hj (Nat.not_lt_zero _)), Fr.refl _ _⟩
  case round =>
    obtain ⟨i, rfl, hi, hno, hf⟩ := hrel
    have Hno := Lib.hid hno
    have HF := Lib.hid hf
    clear hno hf
    by_cases hlt : i < n
    · obtain ⟨q, hq⟩ : ∃ q, L[i]? = some q := ⟨_, List.getElem?_eq_getElem (by rw [Hn.out]; exact hlt)⟩
      have Hq := Lib.hid hq
      have hce := (HS.out.fr0 HF.out).ptrAt hq
      obtain ⟨e1, he1⟩ : ∃ e1, decide (q = k) = e1 := ⟨_, rfl⟩
      have HE := Lib.hid he1
      clear hq he1
      have hic : i < cap := by omega
      go_upto_if 16 with (go_at_call 67; refine (closure67 k q kb _ (HKB.out _ HF.out) (HLL.out.1.fr HF.out) ((HLL.out.2 q (List.mem_of_getElem? Hq.out)).fr HF.out)).mono ?_; rw [HE.out]; rintro e w5 ⟨rfl, f5⟩; have F5 := Lib.hid (HF.out.then' f5); clear f5)
      cases e1
      · go_wp2_with fail
        refine ⟨⟨i + 1, by go_num, by omega, ?_, F5.out⟩, by simp [intOf]; omega⟩
        intro j p hj hp
        by_cases e : j = i
        · subst e
          rw [Hq.out] at hp
          cases hp
          exact of_decide_eq_false HE.out
        · exact Hno.out j p (by omega) hp
      · have hqk := of_decide_eq_true HE.out
        have HX := Lib.hid (idxP_at (hqk ▸ Hq.out) Hno.out)
        clear hqk
        go_wp2_with fail
        go_ret
        refine ⟨?_, F5.out⟩
        rw [← HR.out, HX.out]
        try rfl
    · obtain rfl : i = n := by omega
      go_wp2_with fail
      go_ret
      refine ⟨?_, HF.out⟩
      rw [← HR.out, idxP_not (fun j q hj => Hno.out j q (by have := (List.getElem?_eq_some_iff.1 hj).1; rw [Hn.out] at this; omega) hj)]
      try rfl
theorem st90' : SlTy Try.prog 90 93 1 8 (.pointer none) := ⟨Try.underlying90, by kernel_rfl, rfl, by decide⟩
theorem zero93 (w : World) : (zeroValue 93).run Try.prog w = .ok (.pointer none) w := by kernel_rfl
theorem wpList_clear90 {ops : Array Oper} {rest : List Oper} {o : Oper} {a : Act} {w : World} {Q : Exit → Act → World → Prop} (hgd : o.guard = none) (x : Operand)
    (ho : o.op = .call { callee := .builtin .clear, args := #[x], argTypes := #[90] })
    {g off cap : Nat} (hx : a.eval x = .slice (some ⟨g, off, none⟩) 1 cap) (ht : w.there g off 1)
    (hK : ∀ zs : List Value, zs.length = 1 → wpList Try.prog ops Q rest (a.put o.dst (.tuple #[])) (w.setCells g off zs)) : wpList Try.prog ops Q (o :: rest) a w :=
  wpList_clear (n := 0) hgd x ho st90' zero93 (by decide) hx ht hK
set_option maxHeartbeats 8000000 in
set_option maxRecDepth 100000 in
theorem delete66 (N b off n cap kb i0 : Nat) (L : List Nat) (k : Nat) (w : World) (hS : Sl N 93 1 w (.slice (some ⟨b, off, none⟩) n cap) n (pl L)) (hn : L.length = n) (hlen : n ≤ 1000) (hr : w.cell? ⟨kb, 0, none⟩ = some (ptr k)) (hkb : kb < w.heap.size) (hkb2 : kb ≠ b) (hll : ∀ q ∈ L, Liv w q ∧ q ≠ b)
    (hnd : L.Nodup) (hi0 : L[i0]? = some k) :
    Calls Try.prog 66 #[.slice (some ⟨b, off, none⟩) n cap, .func (.func 67) #[] #[.pointer (some ⟨kb, 0, none⟩)]] w fun e w' => e = .returned (.slice (some ⟨b, off, none⟩) (n - 1) cap) ∧ Sl N 93 1 w' (.slice (some ⟨b, off, none⟩) (n - 1) cap) (n - 1) (pl (L.take i0 ++ L.drop (i0 + 1))) ∧ Fr (fun i => i = b) w w' := by
  have FA := Lib.hid (Fr.refl (fun _ => False) w)
  have HS := Lib.hid hS
  have Hn := Lib.hid hn
  obtain ⟨A9, c9, hv9, hcap, hcm⟩ := hS.form
  cases hv9
  have hi0n : i0 < n := by rw [← hn]; exact (List.getElem?_eq_some_iff.1 hi0).1
  have hne : ∀ j q, L[j]? = some q → j ≠ i0 → q ≠ k := fun j q hj hji e => by
    subst e
    obtain ⟨l1, e1⟩ := List.getElem?_eq_some_iff.1 hj
    obtain ⟨l2, e2⟩ := List.getElem?_eq_some_iff.1 hi0
    exact hji ((List.getElem_inj hnd).1 (e1.trans e2.symm))
  have HNE := Lib.hid hne
  have hi0m : ((i0 : Int) == -1) = false := by simp
  have HIX := Lib.hid (idxP_at hi0 (fun j q hj hq => hne j q hq (by omega)))
  have HKB := Lib.hid (fun (w' : World) (f : Fr (fun i => i = b) w w') => show w'.cell? ⟨kb, 0, none⟩ = some (ptr k) from (World.cell?_of_block (f.block kb hkb hkb2)).trans hr)
  have HKW := Lib.hid (And.intro hr hkb)
  have HLL := Lib.hid (And.intro (hll k (List.mem_of_getElem? hi0)) hll)
  clear hS hn hr hkb hkb2 hnd hi0 hne hll
  go_enter Try.func66, Try.ntmps66
  go_upto_region 2 with (go_at_call 77; refine (index77 N b off n cap kb L k w HS.out Hn.out hlen HKW.out.1 HKW.out.2 HLL.out.1.1 (fun q hq => (HLL.out.2 q hq).1)).mono ?_; rw [HIX.out]; rintro e w2 ⟨rfl, f2⟩; have F2 := Lib.hid f2; clear f2)
  have S2 := Lib.hid (HS.out.fr0 F2.out)
  have FB2 := Lib.hid (F2.out.upto (S := fun i => i = b))
  go_wp2_with fail
  go_loopw [5, 6] (fun v5 v6 wr => ∃ j : Nat, v6 = .int .i64 j ∧ i0 < j ∧ j ≤ n ∧ v5 = .int .i64 ((j - 1 : Nat) : Int) ∧ Sl N 93 1 wr (.slice (some ⟨b, off, none⟩) n cap) n (pl (mid L i0 j)) ∧ Fr (fun i => i = b) w wr) (fun _ v _ => n - (intOf v).toNat)
  case atStart => exact ⟨i0 + 1, by go_num, by omega, by omega, rfl, by rw [mid_start L (by rw [Hn.out]; exact hi0n)]; exact S2.out, FB2.out⟩
  case round =>
    obtain ⟨j, rfl, hj0, hjn, rfl, hsj, hfj⟩ := hrel
    have HSJ := Lib.hid hsj
    have HFJ := Lib.hid hfj
    clear hsj hfj
    by_cases hlt : j < n
    · obtain ⟨q, hq⟩ : ∃ q, L[j]? = some q := ⟨_, List.getElem?_eq_getElem (by rw [Hn.out]; exact hlt)⟩
      have Hq := Lib.hid hq
      have hce := HSJ.out.ptrAt (show (mid L i0 j)[j]? = some q from by rw [mid_at Hn.out hi0n hj0 hlt]; exact hq)
      have HE := Lib.hid (decide_eq_false (HNE.out j q hq (by omega)))
      have HST := Lib.hid (mid_step Hn.out hi0n hj0 hlt hq)
      have HML := Lib.hid (mid_len Hn.out hi0n hj0 hjn)
      clear hq
      have hjc : j < cap := by omega
      have hjI : (j : Int) < (n : Int) := by omega
      have hj1 : j - 1 < n := by omega
      have hj2 : j - 1 < cap := by omega
      have hj3 : ((j - 1 : Nat) : Int) < (n : Int) := by omega
      go_upto_region 9 with (go_at_call 67; refine (closure67 k q kb _ (HKB.out _ HFJ.out) (HLL.out.1.1.frS HFJ.out HLL.out.1.2) ((HLL.out.2 q (List.mem_of_getElem? Hq.out)).1.frS HFJ.out (HLL.out.2 q (List.mem_of_getElem? Hq.out)).2)).mono ?_; rw [HE.out]; rintro e w6 ⟨rfl, f6⟩; have F6 := Lib.hid f6; clear f6)
      clear hce
      have HS6 := Lib.hid (HSJ.out.fr0 F6.out)
      have HFW6 := Lib.hid (HFJ.out.trans F6.out (fun _ _ e => e.elim))
      have hfz := HS6.out.frozen (off + (j - 1))
      obtain ⟨vo, hvo⟩ : ∃ vo, w6.cell? ⟨b, off + (j - 1), none⟩ = some vo := by
        have hl := HML.out
        exact ⟨_, HS6.out.ptrAt (List.getElem?_eq_getElem (by omega))⟩
      go_upto_region 10 with (fail)
      clear hvo hfz
      have HS7 := Lib.hid (HS6.out.set (j - 1) (by omega) (.pointer (some ⟨q, 0, none⟩)))
      have HF7 := Lib.hid (HFW6.out.setCell ⟨b, off + (j - 1), none⟩ (.pointer (some ⟨q, 0, none⟩)) (fun _ => rfl))
      change Code.wp Try.prog _ _ _ (w6.setCell ⟨b, off + (j - 1), none⟩ (.pointer (some ⟨q, 0, none⟩)))
      generalize w6.setCell ⟨b, off + (j - 1), none⟩ (.pointer (some ⟨q, 0, none⟩)) = w7 at HS7 HF7 ⊢
      go_wp2_with fail
      go_roundw
      case rel =>
        refine ⟨j + 1, by go_num, by omega, by omega, by first | rfl | (congr 1; omega) | go_num, ?_, HF7.out⟩
        have h := HS7.out
        rw [show Value.pointer (some ⟨q, 0, none⟩) = ptr q from rfl, pl_set, HST.out] at h
        exact h
      case measure => simp [intOf]; omega
    · obtain rfl : j = n := by omega
      have hj1 : j - 1 ≤ j := by omega
      have hj2 : ¬ cap = j - 1 := by omega
      have hj3 : j - 1 ≤ cap := by omega
      have HEND := Lib.hid (mid_end Hn.out hi0n)
      have hcp : cap ≤ 9223372036854775807 := by simp only [maxLen] at hcm; omega
      have hjj : j - (j - 1) = 0 + 1 := by omega
      have hjj1 : j - (j - 1) = 1 := by omega
      go_upto_region 11 with (fail)
      iterate 60 (first
        | (have := MK4; clear this)
        | (refine wpList_clear90 rfl _ rfl (g := b) (off := off + (j - 1)) (cap := cap - (j - 1)) rfl (HSJ.out.there (j - 1) 1 (by omega)) ?_; intro zs hzs; have HZS := Lib.hid hzs; clear hzs; have MK4 := Lib.hid True.intro)
        | go_step)
      have HS9 := Lib.hid (HSJ.out.setCells zs (pl (mid L i0 j)) wr (j - 1) (by rw [HZS.out]; omega))
      have HF9 := Lib.hid (Fr.setCells (S := fun i => i = b) b (fun _ => rfl) zs (off + (j - 1)) wr HFJ.out)
      generalize wr.setCells b (off + (j - 1)) zs = w9 at HS9 HF9 ⊢
      obtain ⟨vu, hur, hus, huo⟩ := HS9.out.upto st90' (j - 1) (by omega)
      have hvu : vu = .slice (some ⟨b, off, none⟩) (j - 1) cap := by
        have h1 := hur w9
        rw [run_sliceTo st90' (by omega) hcm] at h1
        injection h1 with h1
        exact h1.symm
      subst hvu
      have HUR := Lib.hid hur
      rw [lset_take _ _ _ _ (by omega), Nat.mul_one, pl_take, HEND.out] at hus
      have HUS := Lib.hid hus
      clear hur hus huo
      go_upto_region 12 with (fail)
      iterate 60 (first
        | (have := MK5; clear this)
        | (refine wpList_sliceTo rfl _ _ rfl rfl rfl HUR.out ?_; have MK5 := Lib.hid True.intro)
        | go_step)
      go_wp2_with fail
      go_ret
      exact ⟨rfl, HUS.out, HF9.out⟩
end Go.Proofs.Ytfnphkijalkllaa
