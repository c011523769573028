/- The first of the sorted ways is the best: plain law. No condition. -/
import Derived.Test.YtcfadmjihccimaaRtO
import Derived.Test.YtcfadmjihccimaaRtI
namespace Go.Proofs.Ytcfadmjihccimaa
set_option linter.unusedVariables false
open Go.RowKit
def hitW (ip : I4) (x : W10) : Bool := decide (mkI ip x.bits = x.n)
theorem key_inj {L : List W10} (hn : (L.map W10.key).Nodup) {x y : W10} (hx : x ∈ L) (hy : y ∈ L) (h : x.key = y.key) : x = y := by
  obtain ⟨i, hi⟩ := List.getElem?_of_mem hx
  obtain ⟨j, hj⟩ := List.getElem?_of_mem hy
  have h1 : (L.map W10.key)[i]? = some x.key := by rw [List.getElem?_map, hi]; rfl
  have h2 : (L.map W10.key)[j]? = some x.key := by rw [List.getElem?_map, hj, h]; rfl
  obtain ⟨l1, e1⟩ := List.getElem?_eq_some_iff.1 h1
  obtain ⟨l2, e2⟩ := List.getElem?_eq_some_iff.1 h2
  have := (List.getElem_inj hn).1 (e1.trans e2.symm)
  subst this
  rw [hi] at hj
  cases hj
  rfl
theorem hit_beg {ip : I4} {x : W10} (hi : ip.ok) (hx : x.ok) (hm : mayW x = true) : hitW ip x = begB x.n ip x.bits.toNat := by
  obtain ⟨b0, b1⟩ := mayW_bits hm
  have hp := mayP_eq hx
  rw [hm] at hp
  unfold mayP at hp
  simp only [Bool.and_eq_true, decide_eq_true_eq] at hp
  obtain ⟨b, hb⟩ : ∃ b : Nat, x.bits = b := ⟨x.bits.toNat, by omega⟩
  unfold hitW
  rw [hb] at hp ⊢
  rw [Int.toNat_natCast]
  exact mkI_beg hx.n hi (by omega) hp.2.2.1
theorem bst_spec (ip : I4) : ∀ (L : List W10) (i : Nat) (acc : Option (Nat × W10)),
    (bst ip L i acc = none → acc = none ∧ ∀ x ∈ L, begB x.n ip x.bits.toNat = false) ∧
    (∀ p, bst ip L i acc = some p → (acc = some p ∨ (p.2 ∈ L ∧ begB p.2.n ip p.2.bits.toNat = true)) ∧ (∀ x ∈ L, begB x.n ip x.bits.toNat = true → x.bits ≤ p.2.bits) ∧ ∀ a, acc = some a → a.2.bits ≤ p.2.bits)
  | [], i, acc => by
    refine ⟨fun h => ⟨h, (fun x hx => by cases hx)⟩, fun p h => ⟨.inl h, (fun x hx => by cases hx), fun a ha => ?_⟩⟩
    have h' : acc = some p := h
    rw [ha] at h'
    cases h'
    exact Int.le_refl _
  | x :: L, i, acc => by
    unfold bst
    by_cases hb : betterW ip x acc = true
    · rw [if_pos hb]
      have ih := bst_spec ip L (i + 1) (some (i, x))
      unfold betterW at hb
      rw [Bool.and_eq_true] at hb
      refine ⟨fun h => ?_, fun p h => ?_⟩
      · have := (ih.1 h).1; cases this
      · obtain ⟨h1, h2, h3⟩ := ih.2 p h
        have hxp := h3 (i, x) rfl
        refine ⟨?_, fun y hy hby => ?_, fun a ha => ?_⟩
        · right
          rcases h1 with h1 | h1
          · cases h1; exact ⟨List.mem_cons_self .., hb.1⟩
          · exact ⟨List.mem_cons_of_mem _ h1.1, h1.2⟩
        · rcases List.mem_cons.1 hy with rfl | hy
          · exact hxp
          · exact h2 y hy hby
        · subst ha
          have := of_decide_eq_true hb.2
          have hxp : x.bits ≤ p.2.bits := hxp
          omega
    · rw [if_neg hb]
      have ih := bst_spec ip L (i + 1) acc
      have hb' : betterW ip x acc = false := by simpa using hb
      refine ⟨fun h => ?_, fun p h => ?_⟩
      · obtain ⟨h1, h2⟩ := ih.1 h
        subst h1
        refine ⟨rfl, fun y hy => ?_⟩
        rcases List.mem_cons.1 hy with rfl | hy
        · unfold betterW at hb'; simpa using hb'
        · exact h2 y hy
      · obtain ⟨h1, h2, h3⟩ := ih.2 p h
        refine ⟨?_, fun y hy hby => ?_, h3⟩
        · rcases h1 with h1 | h1
          · exact .inl h1
          · exact .inr ⟨List.mem_cons_of_mem _ h1.1, h1.2⟩
        · rcases List.mem_cons.1 hy with rfl | hy
          · unfold betterW at hb'
            rw [hby] at hb'
            cases acc with
            | none => cases hb'
            | some a =>
              have ha := h3 a rfl
              have : ¬ a.2.bits < y.bits := by simpa using hb'
              omega
          · exact h2 y hy hby
theorem find_law {ip : I4} (hi : ip.ok) {L L' : List W10} (hok : ∀ p ∈ L, p.ok) (hmay : ∀ p ∈ L, mayW p = true) (hnd : (L.map W10.key).Nodup) (hp : L'.Perm L) (hd : Desc L' L'.length) : L'.find? (hitW ip) = (bst ip L 0 none).map (·.2) := by
  have hit : ∀ x ∈ L, hitW ip x = begB x.n ip x.bits.toNat := fun x hx => hit_beg hi (hok x hx) (hmay x hx)
  have spec := bst_spec ip L 0 none
  cases hb : bst ip L 0 none with
  | none =>
    rw [Option.map_none, List.find?_eq_none]
    intro x hx
    have hx := hp.mem_iff.1 hx
    rw [hit x hx, (spec.1 hb).2 x hx]
    simp
  | some p =>
    obtain ⟨h1, h2, _⟩ := spec.2 p hb
    rcases h1 with h1 | ⟨hpm, hpb⟩
    · cases h1
    have hph : hitW ip p.2 = true := by rw [hit _ hpm]; exact hpb
    cases hf : L'.find? (hitW ip) with
    | none =>
      rw [List.find?_eq_none] at hf
      exact absurd hph (by simpa using hf p.2 (hp.mem_iff.2 hpm))
    | some x =>
      have hxh : hitW ip x = true := List.find?_some hf
      have hxm' := List.mem_of_find?_eq_some hf
      have hxm := hp.mem_iff.1 hxm'
      have hle1 : x.bits ≤ p.2.bits := h2 x hxm (by rw [← hit x hxm]; exact hxh)
      have hle2 : p.2.bits ≤ x.bits := by
        obtain ⟨_, us, bs, e, hno⟩ := List.find?_eq_some_iff_append.1 hf
        have hpm' := hp.mem_iff.2 hpm
        rw [e] at hpm'
        rcases List.mem_append.1 hpm' with h | h
        · have := hno _ h; rw [hph] at this; cases this
        · rcases List.mem_cons.1 h with h | h
          · rw [h]; exact Int.le_refl _
          · obtain ⟨k, hk⟩ := List.getElem?_of_mem h
            have hlt := (List.getElem?_eq_some_iff.1 hk).1
            refine hd us.length (us.length + 1 + k) x p.2 (by omega) (by rw [e]; simp; omega) (by rw [e]; simp) ?_
            rw [e, List.getElem?_append_right (by omega), show us.length + 1 + k - us.length = k + 1 by omega]
            exact hk
      have hbits : x.bits = p.2.bits := by omega
      have hn : x.n = p.2.n := by
        have e1 := of_decide_eq_true hxh
        have e2 := of_decide_eq_true hph
        rw [← e1, ← e2, hbits]
      have : x = p.2 := key_inj hnd hxm hpm (by unfold W10.key; rw [hn, hbits])
      rw [this]
      try rfl
end Go.Proofs.Ytcfadmjihccimaa
