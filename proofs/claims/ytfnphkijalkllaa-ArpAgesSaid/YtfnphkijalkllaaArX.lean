/- Law 8: a cache that knows one at most: what its calls make of it. No condition. -/
import Derived.Test.YtfnphkijalkllaaArW
import Derived.Test.YtfnphkijalkllaaArR
namespace Go.Proofs.Ytfnphkijalkllaa
set_option linter.unusedVariables false
set_option linter.unusedSimpArgs false
open Go.RowKit
def One (N : Nat) (w : World) (g : Nat) (o : Option Nb) : Prop := ∃ L lv, CAt N w g m2 q1 L lv ∧ L.map (·.nb) = o.toList
theorem One.fr {N g : Nat} {w w' : World} {o : Option Nb} (h : One N w g o) (f : Fr (fun _ => False) w w') : One N w' g o := by
  obtain ⟨L, lv, hc, he⟩ := h
  exact ⟨L, lv, hc.fr f, he⟩
theorem one_some {N g : Nat} {w : World} {nb : Nb} (h : One N w g (some nb)) : ∃ p pv lv, CAt N w g m2 q1 [⟨p, pv, nb⟩] lv := by
  obtain ⟨L, lv, hc, he⟩ := h
  cases L with
  | nil => simp at he
  | cons e r =>
    simp at he
    obtain ⟨h1, h2⟩ := he
    subst h2; subst h1
    exact ⟨e.p, e.pv, lv, hc⟩
theorem one_none {N g : Nat} {w : World} (h : One N w g none) : ∃ lv, CAt N w g m2 q1 [] lv := by
  obtain ⟨L, lv, hc, he⟩ := h
  have : L = [] := by simpa using he
  subst this
  exact ⟨lv, hc⟩
def tkL (now : Int) : Option Nb → Option Nb × Nat
  | none => (none, 0)
  | some nb => if nb.st = 2 then (some nb, 0) else match tkOf nb now with
    | .wait => (some nb, 0)
    | .gone => (none, 0)
    | .ask => (some (askNb nb now), 1)
theorem tkL_some (now : Int) (nb : Nb) : tkL now (some nb) = if nb.st = 2 then (some nb, 0) else match tkOf nb now with | .wait => (some nb, 0) | .gone => (none, 0) | .ask => (some (askNb nb now), 1) := rfl
theorem own_fr {N g : Nat} {w w' : World} {mac : M6} {ip : I4} {L : List En} {lv : Value} (h : CAt N w g mac ip L lv) (f : Fr (Own g lv L) w w') : Fr (fun i => N ≤ i) w w' := f.mono (fun i _ hi => (h.lt hi).1)
theorem tick1 {N g : Nat} {w : World} {o : Option Nb} (now : Int) (h : One N w g o) (hp : ∀ nb, o = some nb → nb.pend = []) (hnow : 0 ≤ now ∧ now ≤ 4398046511104) (hN : N ≤ w.heap.size) :
    Calls Try.prog 18 #[.pointer (some ⟨g, 0, none⟩), .int .i64 now] w fun e w' => ∃ A c A2 c2, e = .returned (.tuple #[.slice A (tkL now o).2 c, .slice A2 0 c2]) ∧ One N w' g (tkL now o).1 ∧ N ≤ w'.heap.size ∧ Fr (fun i => N ≤ i) w w' := by
  have go : ∀ (L : List En) (lv : Value) (s : TS), CAt N w g m2 q1 L lv → TS.run now L (yl L 2) = s → s.out.length = (tkL now o).2 → s.gone.length = 0 → (keepD s.M s.D).map (·.nb) = (tkL now o).1.toList →
      Calls Try.prog 18 #[.pointer (some ⟨g, 0, none⟩), .int .i64 now] w fun e w' => ∃ A c A2 c2, e = .returned (.tuple #[.slice A (tkL now o).2 c, .slice A2 0 c2]) ∧ One N w' g (tkL now o).1 ∧ N ≤ w'.heap.size ∧ Fr (fun i => N ≤ i) w w' := fun L lv s hc hs h1 h2 h3 => by
    refine (tick18 now w hc hnow hN).mono ?_
    rintro e w' ⟨A, c, A2, c2, lv', rfl, ht, _, _, hf⟩
    rw [hs] at ht
    exact ⟨A, c, A2, c2, by rw [hs, h1, h2], ⟨_, lv', ht.at', h3⟩, Nat.le_trans hN hf.size, own_fr hc hf⟩
  cases o with
  | none =>
    obtain ⟨lv, hc⟩ := (one_none h)
    exact go [] lv ⟨[], [], [], []⟩ hc rfl rfl rfl rfl
  | some nb =>
    obtain ⟨p, pv, lv, hc⟩ := (one_some h)
    by_cases hst : nb.st = 2
    · have hy : yl [⟨p, pv, nb⟩] 2 = [] := by simp [yl, hst]
      have ht : tkL now (some nb) = (some nb, 0) := by rw [tkL_some, if_pos hst]
      refine go [⟨p, pv, nb⟩] lv ⟨[⟨p, pv, nb⟩], [], [], []⟩ hc (by rw [hy]; rfl) (by rw [ht]; rfl) rfl (by rw [ht, keepD_nil]; rfl)
    · have hy : yl [⟨p, pv, nb⟩] 2 = [p] := by simp [yl, hst]
      have hrun : TS.run now [⟨p, pv, nb⟩] (yl [⟨p, pv, nb⟩] 2) = TS.step now ⟨[⟨p, pv, nb⟩], [], [], []⟩ p := by rw [hy]; rfl
      have hpw : ([⟨p, pv, nb⟩] : List En).Pairwise fun a b => a.p ≠ b.p := List.pairwise_singleton _ _
      have hmem : (⟨p, pv, nb⟩ : En) ∈ ([⟨p, pv, nb⟩] : List En) := List.mem_cons_self
      cases htk : tkOf nb now with
      | wait =>
        have ht : tkL now (some nb) = (some nb, 0) := by rw [tkL_some, if_neg hst]; simp only [htk]
        exact go [⟨p, pv, nb⟩] lv _ hc (hrun.trans (step_wait (s := ⟨[⟨p, pv, nb⟩], [], [], []⟩) (e := ⟨p, pv, nb⟩) hpw hmem htk)) (by rw [ht]; rfl) rfl (by rw [ht, keepD_nil]; rfl)
      | gone =>
        have ht : tkL now (some nb) = (none, 0) := by rw [tkL_some, if_neg hst]; simp only [htk]
        exact go [⟨p, pv, nb⟩] lv _ hc (hrun.trans (step_gone (s := ⟨[⟨p, pv, nb⟩], [], [], []⟩) (e := ⟨p, pv, nb⟩) hpw hmem htk)) (by rw [ht]; rfl) (by show (([] : List Int) ++ nb.pend).length = 0; rw [hp nb rfl]; rfl) (by rw [ht]; simp [keepD])
      | ask =>
        have ht : tkL now (some nb) = (some (askNb nb now), 1) := by rw [tkL_some, if_neg hst]; simp only [htk]
        exact go [⟨p, pv, nb⟩] lv _ hc (hrun.trans (step_ask (s := ⟨[⟨p, pv, nb⟩], [], [], []⟩) (e := ⟨p, pv, nb⟩) hpw hmem htk)) (by rw [ht]; rfl) rfl (by rw [ht, keepD_nil]; simp [upd])
theorem tick2 {N g : Nat} {w : World} {nb : Nb} (now : Int) (h : One N w g (some nb)) (hst : nb.st = 2) (hp : nb.pend = []) (hnow : 0 ≤ now ∧ now ≤ 4398046511104) (hN : N ≤ w.heap.size) :
    Calls Try.prog 18 #[.pointer (some ⟨g, 0, none⟩), .int .i64 now] w fun e w' => ∃ A c A2 c2, e = .returned (.tuple #[.slice A 0 c, .slice A2 0 c2]) ∧ One N w' g (some nb) ∧ N ≤ w'.heap.size ∧ Fr (fun i => N ≤ i) w w' := by
  have h1 := tick1 now h (fun n e => by cases e; exact hp) hnow hN
  rw [tkL_some, if_pos hst] at h1
  exact h1
theorem tkL_le (now : Int) (o : Option Nb) : (tkL now o).2 ≤ 1 := by
  cases o with
  | none => exact Nat.zero_le _
  | some nb =>
    rw [tkL_some]
    split
    · exact Nat.zero_le _
    · split
      · exact Nat.zero_le _
      · exact Nat.zero_le _
      · exact Nat.le_refl _
theorem pend1 {N g : Nat} {w : World} {nb : Nb} (h : One N w g (some nb)) : Calls Try.prog 19 #[.pointer (some ⟨g, 0, none⟩)] w fun e w' => ∃ A c, e = .returned (.slice A nb.pend.length c) ∧ Fr (fun _ => False) w w' := by
  obtain ⟨p, pv, lv, hc⟩ := (one_some h)
  refine (pending19 w hc).mono ?_
  rintro e w' ⟨v, rfl, hs, hf⟩
  have hp : pendL [⟨p, pv, nb⟩] = nb.pend := by simp [pendL]
  rw [hp] at hs
  obtain ⟨A, c, rfl, _⟩ := hs.form
  exact ⟨A, c, rfl, hf⟩
theorem find1 {N g : Nat} {w : World} {nb : Nb} {sm : M6} (buf now : Int) (h : One N w g (some nb)) (hm : nb.mac = sm) (hi : nb.ip = q2) (hs : nb.st ≠ 1) (hnow : 0 ≤ now ∧ now ≤ 4398046511104) (hN : N ≤ w.heap.size) :
    Calls Try.prog 16 #[.pointer (some ⟨g, 0, none⟩), .agg #[.int .u8 10, .int .u8 0, .int .u8 0, .int .u8 2], .int .i64 buf, .int .i64 now] w fun e w' => ∃ A c, e = .returned (.tuple #[.agg #[.int .u8 sm.a, .int .u8 sm.b, .int .u8 sm.c, .int .u8 sm.d, .int .u8 sm.e, .int .u8 sm.f], .slice none 0 0, .slice A (if old64 nb now = true then 1 else 0) c, .int .i64 0]) ∧ One N w' g (some (findNb nb now)) ∧ N ≤ w'.heap.size ∧ Fr (fun i => N ≤ i) w w' := by
  subst hm
  obtain ⟨p, pv, lv, hc⟩ := (one_some h)
  refine (find16_known (i := 0) (e := ⟨p, pv, nb⟩) q2 buf now w q2_ok hc (by simp [fpt, hi]) rfl hs hnow hN).mono ?_
  rintro e w' ⟨v, rfl, hc', h1, h2, hf⟩
  have hfr : Fr (fun i => N ≤ i) w w' := hf.mono fun i _ e1 => by
    have e1 : i = p := e1
    have := (hc.ent _ List.mem_cons_self).hp
    rw [e1]; exact this
  cases ho : old64 nb now with
  | false =>
    rw [h1 ho]
    exact ⟨none, 0, rfl, ⟨_, lv, hc', rfl⟩, Nat.le_trans hN hf.size, hfr⟩
  | true =>
    obtain ⟨A, c, hv, _⟩ := (h2 ho).form
    rw [hv]
    exact ⟨A, c, rfl, ⟨_, lv, hc', rfl⟩, Nat.le_trans hN hf.size, hfr⟩
theorem find0 {N g : Nat} {w : World} (buf now : Int) (h : One N w g none) (hnow : 0 ≤ now ∧ now ≤ 4398046511104) (hN : N ≤ w.heap.size) :
    Calls Try.prog 16 #[.pointer (some ⟨g, 0, none⟩), .agg #[.int .u8 10, .int .u8 0, .int .u8 0, .int .u8 2], .int .i64 buf, .int .i64 now] w fun e w' => ∃ A c, e = .returned (.tuple #[.agg #[.int .u8 0, .int .u8 0, .int .u8 0, .int .u8 0, .int .u8 0, .int .u8 0], .slice none 0 0, .slice A 1 c, .int .i64 80]) ∧ One N w' g (some (nbNew q2 now buf)) ∧ N ≤ w'.heap.size ∧ Fr (fun i => N ≤ i) w w' := by
  obtain ⟨lv, hc⟩ := (one_none h)
  refine (find16_new q2 buf now w q2_ok hc rfl (by decide) hnow hN).mono ?_
  rintro e w' ⟨v, p, pv, lv', rfl, hc', _, _, hs, hf⟩
  obtain ⟨A, c, rfl, _⟩ := hs.form
  refine ⟨A, c, rfl, ⟨_, lv', hc', rfl⟩, Nat.le_trans hN hf.size, hf.mono ?_⟩
  rintro i _ (rfl | hi)
  · exact hc.hg
  · exact (hc.sl.lt i hi).1
theorem heard1 {N g : Nat} {w : World} {o : Option Nb} (sm : M6) (hsm : sm.ok) (now : Int) (h : One N w g o) (hi : ∀ nb, o = some nb → nb.ip = q2) (hnow : 0 ≤ now ∧ now ≤ 4398046511104) (hN : N ≤ w.heap.size) :
    Calls Try.prog 15 #[.pointer (some ⟨g, 0, none⟩), .agg #[.bool true, .int .u8 sm.a, .int .u8 sm.b, .int .u8 sm.c, .int .u8 sm.d, .int .u8 sm.e, .int .u8 sm.f, .int .u8 10, .int .u8 0, .int .u8 0, .int .u8 2, .int .u8 0, .int .u8 0, .int .u8 0, .int .u8 0, .int .u8 0, .int .u8 0, .int .u8 10, .int .u8 0, .int .u8 0, .int .u8 1], .int .i64 now] w fun e w' => (∃ v, e = .returned v) ∧ One N w' g (some (match o with | some nb => heardNb nb sm now | none => newK q2 sm now)) ∧ N ≤ w'.heap.size ∧ Fr (fun i => N ≤ i) w w' := by
  cases o with
  | none =>
    obtain ⟨lv, hc⟩ := one_none h
    refine (heard15 ⟨true, sm, q2, M6.zero, q1⟩ now w ⟨hsm, q2_ok, M6.zero_ok, q1_ok⟩ hc (show q2 ≠ q1 by decide) (show q2 ≠ I4.zero by decide) rfl hnow hN).mono ?_
    rintro e w' ⟨vout, vmay, toM, L', lv', rfl, ⟨hc', hw, hf⟩, _, _⟩
    refine ⟨⟨_, rfl⟩, ?_, Nat.le_trans hN hf.size, own_fr hc hf⟩
    rcases hw with ⟨i, e, he, hq, _⟩ | ⟨_, _, ⟨p, rfl, _⟩, _⟩ | ⟨_, h8, _⟩
    · cases hq
    · exact ⟨_, lv', hc', rfl⟩
    · cases h8
  | some n =>
    obtain ⟨p, pv, lv, hc⟩ := one_some h
    refine (heard15 ⟨true, sm, q2, M6.zero, q1⟩ now w ⟨hsm, q2_ok, M6.zero_ok, q1_ok⟩ hc (show q2 ≠ q1 by decide) (show q2 ≠ I4.zero by decide) rfl hnow hN).mono ?_
    rintro e w' ⟨vout, vmay, toM, L', lv', rfl, ⟨hc', hw, hf⟩, _, _⟩
    refine ⟨⟨_, rfl⟩, ?_, Nat.le_trans hN hf.size, own_fr hc hf⟩
    have hff : fpt [⟨p, pv, n⟩] q2 = some ⟨p, pv, n⟩ := by simp [fpt, hi n rfl]
    rcases hw with ⟨i, e, he, hq, rfl, _⟩ | ⟨h1, _⟩ | ⟨h1, _⟩
    · have e2 := (Option.some.inj (hff.symm.trans hq))
      subst e2
      have e3 : i = 0 := by
        have := (List.getElem?_eq_some_iff.1 he).1
        simp at this
        exact this
      subst e3
      exact ⟨_, lv', hc', rfl⟩
    · rw [hff] at h1; cases h1
    · rw [hff] at h1; cases h1
end Go.Proofs.Ytfnphkijalkllaa
