/- Law 8: the state between two rounds of a tick. No condition. -/
import Derived.Test.YtfnphkijalkllaaArQ
namespace Go.Proofs.Ytfnphkijalkllaa
set_option linter.unusedVariables false
open Go.RowKit Go.Shelf
theorem find_p {M : List En} (h : M.Pairwise fun a b => a.p ≠ b.p) {e : En} (he : e ∈ M) : M.find? (fun a => decide (a.p = e.p)) = some e := by
  cases hf : M.find? (fun a => decide (a.p = e.p)) with
  | none => exact absurd (List.find?_eq_none.1 hf e he) (by simp)
  | some a =>
    have h1 := List.mem_of_find?_eq_some hf
    have h2 : a.p = e.p := by simpa using List.find?_some hf
    rw [pw_inj h h1 he h2]
theorem step_wait {now : Int} {s : TS} {e : En} (h : s.M.Pairwise fun a b => a.p ≠ b.p) (he : e ∈ s.M) (ht : tkOf e.nb now = .wait) : TS.step now s e.p = s := by
  unfold TS.step; rw [find_p h he]; simp only [ht]
theorem step_gone {now : Int} {s : TS} {e : En} (h : s.M.Pairwise fun a b => a.p ≠ b.p) (he : e ∈ s.M) (ht : tkOf e.nb now = .gone) : TS.step now s e.p = ⟨s.M, e.p :: s.D, s.gone ++ e.nb.pend, s.out⟩ := by
  unfold TS.step; rw [find_p h he]; simp only [ht]
theorem step_ask {now : Int} {s : TS} {e : En} (h : s.M.Pairwise fun a b => a.p ≠ b.p) (he : e ∈ s.M) (ht : tkOf e.nb now = .ask) : TS.step now s e.p = ⟨s.M.map (upd e.p (askNb e.nb now)), s.D, s.gone, s.out ++ [e.nb.ip]⟩ := by
  unfold TS.step; rw [find_p h he]; simp only [ht]
  congr 1
  apply List.map_congr_left
  intro a ha
  unfold upd
  by_cases hp : a.p = e.p
  · rw [if_pos hp, if_pos hp, pw_inj h ha he hp]
  · rw [if_neg hp, if_neg hp]
theorem CAt.own_cells {N : Nat} {w : World} {g : Nat} {mac : M6} {ip : I4} {L : List En} {lv : Value} (h : CAt N w g mac ip L lv) {i : Nat} (hi : Own g lv L i) : ∃ c t, w.heap[i]? = some (.cells c t) := by
  rcases hi with rfl | hi | ⟨e, he, rfl | hi⟩
  · exact ⟨_, _, h.blk⟩
  · obtain ⟨c, hc⟩ := h.sl.tag hi; exact ⟨c, _, hc⟩
  · exact ⟨_, _, (h.ent e he).blk⟩
  · obtain ⟨c, hc⟩ := (h.ent e he).sl.tag hi; exact ⟨c, _, hc⟩
theorem Own.keepD {g : Nat} {lv : Value} {M : List En} {D : List Nat} {i : Nat} (h : Own g lv (keepD M D) i) : Own g lv M i := by
  rcases h with h | h | ⟨e, he, h⟩
  · exact .inl h
  · exact .inr (.inl h)
  · exact .inr (.inr ⟨e, (keepD_in.1 he).1, h⟩)
def pps (M : List En) : List (Nat × Value) := M.map fun e => (e.p, e.pv)
theorem pps_upd (x : Nat) (nb : Nb) (M : List En) : pps (M.map (upd x nb)) = pps M := by
  unfold pps
  rw [List.map_map]
  apply List.map_congr_left
  intro a _
  simp [Function.comp, upd_p, upd_pv]
theorem Own.pps {g : Nat} {lv : Value} {M L : List En} (hp : pps M = pps L) {i : Nat} (h : Own g lv M i) : Own g lv L i := by
  rcases h with h | h | ⟨e, he, h⟩
  · exact .inl h
  · exact .inr (.inl h)
  · have h1 : (e.p, e.pv) ∈ Proofs.Ytfnphkijalkllaa.pps M := List.mem_map.2 ⟨e, he, rfl⟩
    rw [hp] at h1
    obtain ⟨a, ha, h2⟩ := List.mem_map.1 h1
    injection h2 with h3 h4
    exact .inr (.inr ⟨a, ha, by rw [h3, h4]; exact h⟩)
theorem TAt.own_cells {N : Nat} {w : World} {g : Nat} {mac : M6} {ip : I4} {M : List En} {D : List Nat} {lv : Value} (h : TAt N w g mac ip M D lv) {i : Nat} (hi : Own g lv M i) : ∃ c t, w.heap[i]? = some (.cells c t) ∧ (t = 92 ∨ t = 93 ∨ t = 46 ∨ t = 3) := by
  rcases hi with rfl | hi | ⟨e, he, rfl | hi⟩
  · exact ⟨_, _, h.at'.blk, .inl rfl⟩
  · obtain ⟨c, hc⟩ := h.at'.sl.tag hi; exact ⟨c, _, hc, .inr (.inl rfl)⟩
  · exact ⟨_, _, (h.ent e he).blk, .inr (.inr (.inl rfl))⟩
  · obtain ⟨c, hc⟩ := (h.ent e he).sl.tag hi; exact ⟨c, _, hc, .inr (.inr (.inr rfl))⟩
theorem TAt.heap {N : Nat} {w w' : World} {g : Nat} {mac : M6} {ip : I4} {M : List En} {D : List Nat} {lv : Value} (h : TAt N w g mac ip M D lv) (hh : ∀ i, Own g lv M i → w'.heap[i]? = w.heap[i]?) : TAt N w' g mac ip M D lv :=
  ⟨h.at'.heap (fun i hi => hh i hi.keepD), fun e he => (h.ent e he).heap (hh _ (.inr (.inr ⟨e, he, .inl rfl⟩))) (fun k hk => hh k (.inr (.inr ⟨e, he, .inr hk⟩))), h.pnd, h.vnd⟩
theorem TAt.frS {S : Nat → Prop} {N : Nat} {w w' : World} {g : Nat} {mac : M6} {ip : I4} {M : List En} {D : List Nat} {lv : Value} (h : TAt N w g mac ip M D lv) (f : Fr S w w') (hS : ∀ i, Own g lv M i → ¬ S i) : TAt N w' g mac ip M D lv :=
  h.heap (fun i hi => f.block i (by obtain ⟨c, t, hc, _⟩ := h.own_cells hi; exact lt_of_block hc) (hS i hi))
def oc (mac : M6) (ip : I4) (l : List I4) : List Value := l.flatMap (rqCells mac ip)
theorem oc_snoc (mac : M6) (ip : I4) (l : List I4) (q : I4) : oc mac ip (l ++ [q]) = oc mac ip l ++ rqCells mac ip q := by simp [oc]
theorem il_app (a b : List Int) : il (a ++ b) = il a ++ il b := by simp [il]
/-- What does not turn in the loop: where the blocks lie. -/
structure TC (N B g bo bg : Nat) (w : World) (L : List En) (lv0 : Value) : Prop where
  low : ∀ i, Own g lv0 L i → i < B
  hwB : w.heap.size ≤ B
  hbo : w.heap.size ≤ bo ∧ bo < B
  hbg : w.heap.size ≤ bg ∧ bg < B
  hN : N ≤ w.heap.size
structure TI (N B g bo bg : Nat) (mac : M6) (ip : I4) (w : World) (L : List En) (lv0 : Value) (s : TS) (W : World) : Prop where
  ex : ∃ lv, TAt N W g mac ip s.M s.D lv ∧ lv.ownBlock = lv0.ownBlock
  ps : pps s.M = pps L
  out : ∃ A c, W.heap[bo]? = some (.cells #[.slice A s.out.length c] 36) ∧ Sl B 33 21 W (.slice A s.out.length c) s.out.length (oc mac ip s.out)
  gone : ∃ A c, W.heap[bg]? = some (.cells #[.slice A s.gone.length c] 37) ∧ Sl B 3 1 W (.slice A s.gone.length c) s.gone.length (il s.gone)
  size : B ≤ W.heap.size
  fr : Fr (Own g lv0 L) w W
section
variable {N B g bo bg : Nat} {mac : M6} {ip : I4} {w : World} {L : List En} {lv0 : Value} {s : TS} {W W' : World}
theorem Own.lv {g : Nat} {lv lv0 : Value} (h : lv.ownBlock = lv0.ownBlock) {M : List En} {i : Nat} (hi : Own g lv M i) : Own g lv0 M i := by
  rcases hi with h1 | h1 | h1
  · exact .inl h1
  · exact .inr (.inl (h ▸ h1))
  · exact .inr (.inr h1)
theorem TI.kc (h : TI N B g bo bg mac ip w L lv0 s W) (hK : ∀ (b : Nat) (c : Array Value) (t : TypeId), W.heap[b]? = some (Obj.cells c t) → W'.heap[b]? = W.heap[b]?) (hs : W.heap.size ≤ W'.heap.size) (hf : Fr (Own g lv0 L) w W') : TI N B g bo bg mac ip w L lv0 s W' := by
  obtain ⟨lv, ht, hl⟩ := h.ex
  obtain ⟨A, c, hb, hsl⟩ := h.out
  obtain ⟨A2, c2, hb2, hsl2⟩ := h.gone
  refine ⟨⟨lv, ht.heap (fun i hi => by obtain ⟨c, t, hc, _⟩ := ht.own_cells hi; exact hK i c t hc), hl⟩, h.ps, ⟨A, c, (hK _ _ _ hb).trans hb, hsl.heap (fun k hk => by obtain ⟨c, hc⟩ := hsl.tag hk; exact hK _ _ _ hc)⟩,
    ⟨A2, c2, (hK _ _ _ hb2).trans hb2, hsl2.heap (fun k hk => by obtain ⟨c, hc⟩ := hsl2.tag hk; exact hK _ _ _ hc)⟩, Nat.le_trans h.size hs, hf⟩
theorem TI.fr0 (h : TI N B g bo bg mac ip w L lv0 s W) (f : Fr (fun _ => False) W W') : TI N B g bo bg mac ip w L lv0 s W' :=
  h.kc (fun b c t hb => f.block b (lt_of_block hb) (fun e => e)) f.size (h.fr.trans f (fun _ _ e => e.elim))
theorem TI.setGone (T : TC N B g bo bg w L lv0) (h : TI N B g bo bg mac ip w L lv0 s W) {vg : Value} (hb0 : W.heap[bg]? = some (.cells #[vg] 37)) {x : List Int} {A : Option Addr} {c : Nat} (hb : W'.heap[bg]? = some (.cells #[.slice A x.length c] 37)) (hs : Sl B 3 1 W' (.slice A x.length c) x.length (il x)) (f : Fr (fun i => i = bg ∨ vg.ownBlock = some i) W W') :
    TI N B g bo bg mac ip w L lv0 { s with gone := x } W' := by
  obtain ⟨lv, ht, hl⟩ := h.ex
  obtain ⟨A1, c1, hb1, hsl⟩ := h.out
  obtain ⟨A2, c2, hb2, hsl2⟩ := h.gone
  have hv : vg = .slice A2 s.gone.length c2 := by
    rw [hb0] at hb2
    injection hb2 with h1
    injection h1 with h2 h3
    simpa using h2
  subst hv
  refine ⟨⟨lv, ht.frS f ?_, hl⟩, h.ps, ⟨A1, c1, (f.block bo (lt_of_block hb1) ?_).trans hb1, hsl.fr f ?_⟩, ⟨A, c, hb, hs⟩, Nat.le_trans h.size f.size, h.fr.trans f ?_⟩
  · rintro i hi (rfl | e)
    · obtain ⟨c, t, hc, ht4⟩ := ht.own_cells hi
      rw [hb2] at hc
      rcases ht4 with rfl | rfl | rfl | rfl <;> exact absurd (tag_ne hc) (by decide)
    · have h1 := (hsl2.lt i e).1
      have h2 := T.low i ((hi.lv hl).pps h.ps)
      omega
  · rintro (e | e)
    · rw [e, hb2] at hb1; exact absurd (tag_ne hb1) (by decide)
    · exact hsl2.ne hb1 (by decide) e
  · rintro k hk (e | e)
    · exact hsl.ne hb2 (by decide) (e ▸ hk)
    · obtain ⟨c', h'⟩ := hsl.tag hk
      exact hsl2.ne h' (by decide) e
  · rintro i hi (e | e)
    · have := T.hbg.1; omega
    · have h1 := (hsl2.lt i e).1; have h2 := T.hwB; omega
theorem TI.setOut (T : TC N B g bo bg w L lv0) (h : TI N B g bo bg mac ip w L lv0 s W) {vo : Value} (hb0 : W.heap[bo]? = some (.cells #[vo] 36)) {x : List I4} {A : Option Addr} {c : Nat} (hb : W'.heap[bo]? = some (.cells #[.slice A x.length c] 36)) (hs : Sl B 33 21 W' (.slice A x.length c) x.length (oc mac ip x)) (f : Fr (fun i => i = bo ∨ vo.ownBlock = some i) W W') :
    TI N B g bo bg mac ip w L lv0 { s with out := x } W' := by
  obtain ⟨lv, ht, hl⟩ := h.ex
  obtain ⟨A1, c1, hb1, hsl⟩ := h.out
  obtain ⟨A2, c2, hb2, hsl2⟩ := h.gone
  have hv : vo = .slice A1 s.out.length c1 := by
    rw [hb0] at hb1
    injection hb1 with h1
    injection h1 with h2 h3
    simpa using h2
  subst hv
  refine ⟨⟨lv, ht.frS f ?_, hl⟩, h.ps, ⟨A, c, hb, hs⟩, ⟨A2, c2, (f.block bg (lt_of_block hb2) ?_).trans hb2, hsl2.fr f ?_⟩, Nat.le_trans h.size f.size, h.fr.trans f ?_⟩
  · rintro i hi (rfl | e)
    · obtain ⟨c, t, hc, ht4⟩ := ht.own_cells hi
      rw [hb1] at hc
      rcases ht4 with rfl | rfl | rfl | rfl <;> exact absurd (tag_ne hc) (by decide)
    · have h1 := (hsl.lt i e).1
      have h2 := T.low i ((hi.lv hl).pps h.ps)
      omega
  · rintro (e | e)
    · rw [← e, hb2] at hb1; exact absurd (tag_ne hb1) (by decide)
    · exact hsl.ne hb2 (by decide) e
  · rintro k hk (e | e)
    · exact hsl2.ne hb1 (by decide) (e ▸ hk)
    · obtain ⟨c', h'⟩ := hsl2.tag hk
      exact hsl.ne h' (by decide) e
  · rintro i hi (e | e)
    · have := T.hbo.1; omega
    · have h1 := (hsl.lt i e).1; have h2 := T.hwB; omega
/-- One is taken out, or another time. -/
theorem TI.drop (T : TC N B g bo bg w L lv0) (h : TI N B g bo bg mac ip w L lv0 s W) (x : Nat) {lv lv' : Value} (ht : TAt N W g mac ip s.M s.D lv) (hl : lv.ownBlock = lv0.ownBlock) (ht' : TAt N W' g mac ip s.M (x :: s.D) lv') (hl' : lv'.ownBlock = lv.ownBlock) (f : Fr (fun i => i = g ∨ lv.ownBlock = some i) W W') :
    TI N B g bo bg mac ip w L lv0 { s with D := x :: s.D } W' := by
  obtain ⟨A1, c1, hb1, hsl⟩ := h.out
  obtain ⟨A2, c2, hb2, hsl2⟩ := h.gone
  have hown : ∀ i, (i = g ∨ lv.ownBlock = some i) → Own g lv s.M i := fun i hi => hi.elim .inl (fun e => .inr (.inl e))
  have hlow : ∀ i, (i = g ∨ lv.ownBlock = some i) → i < B ∧ ∃ c t, W.heap[i]? = some (.cells c t) ∧ (t = 92 ∨ t = 93 ∨ t = 46 ∨ t = 3) := fun i hi => ⟨T.low i (((hown i hi).lv hl).pps h.ps), ht.own_cells (hown i hi)⟩
  refine ⟨⟨lv', ht', hl'.trans hl⟩, h.ps, ⟨A1, c1, (f.block bo (lt_of_block hb1) ?_).trans hb1, hsl.fr f ?_⟩, ⟨A2, c2, (f.block bg (lt_of_block hb2) ?_).trans hb2, hsl2.fr f ?_⟩, Nat.le_trans h.size f.size, h.fr.trans f (fun i _ hi => ((hown i hi).lv hl).pps h.ps)⟩
  · intro e
    obtain ⟨_, c, t, hc, ht4⟩ := hlow bo e
    rw [hb1] at hc
    rcases ht4 with rfl | rfl | rfl | rfl <;> exact absurd (tag_ne hc) (by decide)
  · intro k hk e
    have h1 := (hsl.lt k hk).1
    have h2 := (hlow k e).1
    omega
  · intro e
    obtain ⟨_, c, t, hc, ht4⟩ := hlow bg e
    rw [hb2] at hc
    rcases ht4 with rfl | rfl | rfl | rfl <;> exact absurd (tag_ne hc) (by decide)
  · intro k hk e
    have h1 := (hsl2.lt k hk).1
    have h2 := (hlow k e).1
    omega
/-- One is asked anew. -/
theorem TI.ask (T : TC N B g bo bg w L lv0) (h : TI N B g bo bg mac ip w L lv0 s W) {e : En} (hem : e ∈ s.M) (nb' : Nb) (hip : nb'.ip = e.nb.ip) (he' : EnAt N W' ⟨e.p, e.pv, nb'⟩) (f : Fr (fun b => b = e.p) W W') :
    TI N B g bo bg mac ip w L lv0 { s with M := s.M.map (upd e.p nb') } W' := by
  obtain ⟨lv, ht, hl⟩ := h.ex
  obtain ⟨A1, c1, hb1, hsl⟩ := h.out
  obtain ⟨A2, c2, hb2, hsl2⟩ := h.gone
  have hbe := (ht.ent e hem).blk
  have hown : Own g lv0 L e.p := Own.pps h.ps (.inr (.inr ⟨e, hem, .inl rfl⟩))
  refine ⟨⟨lv, ht.ask hem nb' hip he' f, hl⟩, (pps_upd _ _ _).trans h.ps, ⟨A1, c1, (f.block bo (lt_of_block hb1) ?_).trans hb1, hsl.fr f ?_⟩, ⟨A2, c2, (f.block bg (lt_of_block hb2) ?_).trans hb2, hsl2.fr f ?_⟩, Nat.le_trans h.size f.size, h.fr.trans f (fun i _ hi => by have hi : i = e.p := hi; rw [hi]; exact hown)⟩
  · intro e1; have e1 : bo = e.p := e1; rw [e1, hbe] at hb1; exact absurd (tag_ne hb1) (by decide)
  · intro k hk e1; have e1 : k = e.p := e1; exact hsl.ne hbe (by decide) (e1 ▸ hk)
  · intro e1; have e1 : bg = e.p := e1; rw [e1, hbe] at hb2; exact absurd (tag_ne hb2) (by decide)
  · intro k hk e1; have e1 : k = e.p := e1; exact hsl2.ne hbe (by decide) (e1 ▸ hk)
end
end Go.Proofs.Ytfnphkijalkllaa
