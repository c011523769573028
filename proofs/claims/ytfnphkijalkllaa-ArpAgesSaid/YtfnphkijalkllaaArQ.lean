/- Law 8: within a tick: one is asked anew, one is taken out. No condition. -/
import Derived.Test.YtfnphkijalkllaaArP
namespace Go.Proofs.Ytfnphkijalkllaa
set_option linter.unusedVariables false
open Go.RowKit
theorem keepD_in {M : List En} {D : List Nat} {e : En} : e ∈ keepD M D ↔ e ∈ M ∧ e.p ∉ D := by unfold keepD; simp [List.mem_filter]
theorem filter_dropAt {K : List En} (h : K.Pairwise fun a b => a.p ≠ b.p) {j : Nat} {e : En} (hj : K[j]? = some e) : K.filter (fun a => !decide (a.p = e.p)) = dropAt K j := by
  obtain ⟨hl, he⟩ := List.getElem?_eq_some_iff.1 hj
  have hs : K = K.take j ++ e :: K.drop (j + 1) := by
    conv => lhs; rw [← List.take_append_drop j K, List.drop_eq_getElem_cons hl, he]
  unfold dropAt
  conv => lhs; rw [hs]
  rw [hs] at h
  obtain ⟨h1, h2, h3⟩ := List.pairwise_append.1 h
  obtain ⟨h4, h5⟩ := List.pairwise_cons.1 h2
  have e1 : (K.take j).filter (fun a => !decide (a.p = e.p)) = K.take j := List.filter_eq_self.2 (fun a ha => by simpa using h3 a ha e List.mem_cons_self)
  have e2 : (K.drop (j + 1)).filter (fun a => !decide (a.p = e.p)) = K.drop (j + 1) := List.filter_eq_self.2 (fun a ha => by simpa using fun e2 => h4 a ha e2.symm)
  rw [List.filter_append, List.filter_cons, e1, e2]
  simp
theorem keepD_cons (M : List En) (D : List Nat) (x : Nat) : keepD M (x :: D) = (keepD M D).filter (fun a => !decide (a.p = x)) := by
  unfold keepD
  rw [List.filter_filter]
  apply List.filter_congr
  intro a _
  by_cases h : a.p = x <;> simp [h]
theorem keepD_again {M : List En} {D : List Nat} {x : Nat} (h : x ∈ D) : keepD M (x :: D) = keepD M D := by
  rw [keepD_cons, List.filter_eq_self.2]
  intro a ha
  have := (keepD_in.1 ha).2
  simpa using (fun (e : a.p = x) => this (e ▸ h))
theorem keepD_len (M : List En) (D : List Nat) : (keepD M D).length ≤ M.length := List.length_filter_le _ _
section
variable {N : Nat} {w w' : World} {g : Nat} {mac : M6} {ip : I4} {M : List En} {D : List Nat} {lv lv' : Value}
theorem TAt.pneg (h : TAt N w g mac ip M D lv) {a : En} (ha : a ∈ M) : a.p ≠ g := fun e1 => by
  have h1 := (h.ent a ha).blk
  rw [e1, h.at'.blk] at h1
  exact absurd (tag_ne h1) (by decide)
theorem TAt.drop (h : TAt N w g mac ip M D lv) {j : Nat} {e : En} (hj : (keepD M D)[j]? = some e) (hc : CAt N w' g mac ip (dropAt (keepD M D) j) lv') (f : Fr (fun i => i = g ∨ lv.ownBlock = some i) w w') : TAt N w' g mac ip M (e.p :: D) lv' := by
  refine ⟨by rw [keepD_cons, filter_dropAt h.at'.pnd hj]; exact hc, fun a ha => (h.ent a ha).heap (f.block _ (lt_of_block (h.ent a ha).blk) ?_) (fun k hk => f.block k ((h.ent a ha).sl.lt k hk).2 ?_), h.pnd, h.vnd⟩
  · rintro (e1 | e1)
    · exact h.pneg ha e1
    · exact h.at'.sl.ne (h.ent a ha).blk (by decide) e1
  · obtain ⟨c, hc⟩ := (h.ent a ha).sl.tag hk
    rintro (e1 | e1)
    · rw [e1, h.at'.blk] at hc; cases hc
    · exact h.at'.sl.ne hc (by decide) e1
theorem TAt.again (h : TAt N w g mac ip M D lv) {x : Nat} (hx : x ∈ D) (hc : CAt N w' g mac ip (keepD M D) lv) (f : Fr (fun i => i = g) w w') : TAt N w' g mac ip M (x :: D) lv := by
  refine ⟨by rw [keepD_again hx]; exact hc, fun a ha => (h.ent a ha).heap (f.block _ (lt_of_block (h.ent a ha).blk) (h.pneg ha)) (fun k hk => f.block k ((h.ent a ha).sl.lt k hk).2 (fun e1 => ?_)), h.pnd, h.vnd⟩
  obtain ⟨c, hc⟩ := (h.ent a ha).sl.tag hk
  rw [e1, h.at'.blk] at hc; cases hc
theorem TAt.ask (h : TAt N w g mac ip M D lv) {e : En} (hem : e ∈ M) (nb' : Nb) (hip : nb'.ip = e.nb.ip) (he' : EnAt N w' ⟨e.p, e.pv, nb'⟩) (f : Fr (fun b => b = e.p) w w') : TAt N w' g mac ip (M.map (upd e.p nb')) D lv := by
  have hoth : ∀ a ∈ M, a.p ≠ e.p → EnAt N w' a := fun a ha hne => (h.ent a ha).heap (f.block _ (lt_of_block (h.ent a ha).blk) hne) (fun k hk => f.block k ((h.ent a ha).sl.lt k hk).2 (fun e1 => by
    obtain ⟨c, hc⟩ := (h.ent a ha).sl.tag hk
    rw [e1, (h.ent e hem).blk] at hc; cases hc))
  refine ⟨?_, ?_, ?_, ?_⟩
  · rw [keepD_upd]
    by_cases hd : e.p ∈ D
    · have hid : (keepD M D).map (upd e.p nb') = keepD M D := by
        conv => rhs; rw [← List.map_id (keepD M D)]
        apply List.map_congr_left
        intro a ha
        have : a.p ≠ e.p := fun e1 => (keepD_in.1 ha).2 (e1 ▸ hd)
        simp [upd, this]
      rw [hid]
      refine h.at'.frS f ?_
      rintro i (rfl | hi | ⟨a, ha, rfl | hi⟩) e1
      · exact h.pneg hem e1.symm
      · exact h.at'.sl.ne (h.ent e hem).blk (by decide) (e1 ▸ hi)
      · exact (keepD_in.1 ha).2 (e1 ▸ hd)
      · obtain ⟨c, hc⟩ := (h.at'.ent a ha).sl.tag hi
        rw [e1, (h.ent e hem).blk] at hc; cases hc
    · obtain ⟨i, hi⟩ := List.mem_iff_getElem?.1 (keepD_in.2 ⟨hem, hd⟩)
      rw [map_upd_set h.at'.pnd hi]
      exact h.at'.set ⟨e.p, e.pv, nb'⟩ hi rfl hip he' (fun k hk => .inl hk) (f.mono fun _ _ e1 => .inl e1)
  · intro a ha
    obtain ⟨b, hb, rfl⟩ := List.mem_map.1 ha
    by_cases he : b.p = e.p
    · have : b = e := pw_inj h.pnd hb hem he
      subst this
      rw [show upd b.p nb' b = ⟨b.p, b.pv, nb'⟩ by simp [upd]]
      exact he'
    · rw [show upd e.p nb' b = b by simp [upd, he]]
      exact hoth b hb he
  · rw [List.pairwise_map]
    exact h.pnd.imp fun hab => by rw [upd_p, upd_p]; exact hab
  · rw [List.pairwise_map]
    exact h.vnd.imp fun hab => by rw [upd_pv, upd_pv]; exact hab
end
end Go.Proofs.Ytfnphkijalkllaa
