/- Plain facts on the table's entries: what is found at a key behind Open, Close and Tick; how many entries there are. No condition. -/
import Derived.Test.YtcgghjjchfafiaaRestC
namespace Go.Proofs.Ytcgghjjchfafiaa
open Go.RowKit Go.Maps

theorem TabAt.nodup {w : World} {g m : Nat} {L : List (K4 × Int)} (h : TabAt w g m L) : (L.map (·.1)).Nodup := by
  have := h.map.2.1; rwa [tab_keys] at this

theorem lki_nil (k : K4) : lki [] k = none := rfl
theorem lki_cons (q : K4 × Int) (L : List (K4 × Int)) (k : K4) : lki (q :: L) k = if q.1 = k then some q.2 else lki L k := by
  unfold lki
  by_cases e : q.1 = k <;> simp [e]
theorem lki_append : ∀ (L L' : List (K4 × Int)) (k : K4), lki (L ++ L') k = (lki L k).or (lki L' k)
  | [], L', k => by simp [lki_nil]
  | q :: L, L', k => by
    rw [List.cons_append, lki_cons, lki_cons, lki_append L L' k]
    split <;> simp
theorem lki_rm : ∀ (L : List (K4 × Int)) (k k' : K4), lki (rm L k) k' = if k' = k then none else lki L k'
  | [], k, k' => by simp [rm, lki_nil]
  | q :: L, k, k' => by
    have ih := lki_rm L k k'
    unfold rm at *
    rw [List.filter_cons, lki_cons]
    by_cases e : q.1 = k
    · rw [if_neg (by simp [e]), ih]
      by_cases e' : k' = k
      · simp [e']
      · rw [if_neg e', if_neg e', if_neg (fun h => e' (h.symm.trans e))]
    · rw [if_pos (by simpa using e), lki_cons, ih]
      by_cases e' : k' = k
      · rw [if_pos e', if_pos e', if_neg (fun h => e (h.trans e'))]
      · rw [if_neg e', if_neg e']
theorem lki_put (L : List (K4 × Int)) (k k' : K4) (v : Int) : lki (rm L k ++ [(k, v)]) k' = if k' = k then some v else lki L k' := by
  rw [lki_append, lki_rm, lki_cons, lki_nil]
  by_cases e : k' = k
  · simp [e]
  · rw [if_neg e, if_neg e, if_neg (fun h => e h.symm)]; simp
theorem lki_mem {L : List (K4 × Int)} {k : K4} {u : Int} (h : lki L k = some u) : (k, u) ∈ L := by
  unfold lki at h
  cases hf : L.find? (fun p => p.1 = k) with
  | none => rw [hf] at h; cases h
  | some p =>
    rw [hf] at h
    have h1 := List.mem_of_find?_eq_some hf
    have h2 : p.1 = k := by simpa using List.find?_some hf
    simp at h
    rw [← h2, ← h]; exact h1
theorem lki_of_mem {L : List (K4 × Int)} (hn : (L.map (·.1)).Nodup) {k : K4} {u : Int} (h : (k, u) ∈ L) : lki L k = some u := by
  cases hf : lki L k with
  | none =>
    unfold lki at hf
    rw [Option.map_eq_none_iff, List.find?_eq_none] at hf
    exact absurd (by simp) (hf _ h)
  | some v =>
    have := pairwise_fst_eq (List.pairwise_map.1 (List.nodup_iff_pairwise_ne.1 hn)) (lki_mem hf) h rfl
    injection this with _ e; rw [e]
theorem lki_isSome {L : List (K4 × Int)} {k : K4} : (lki L k).isSome = true ↔ k ∈ L.map (·.1) := by
  constructor
  · intro h
    obtain ⟨u, hu⟩ := Option.isSome_iff_exists.1 h
    exact List.mem_map.2 ⟨_, lki_mem hu, rfl⟩
  · intro h
    obtain ⟨p, hp, rfl⟩ := List.mem_map.1 h
    unfold lki
    rw [Option.isSome_map, List.find?_isSome]
    exact ⟨p, hp, by simp⟩
theorem lki_tick {L : List (K4 × Int)} (hn : (L.map (·.1)).Nodup) (now : Int) (k : K4) : lki (tickL L now) k = (lki L k).filter (stays now) := by
  have hn' : ((tickL L now).map (·.1)).Nodup := (List.filter_sublist.map _).nodup hn
  cases h : lki L k with
  | none =>
    cases h' : lki (tickL L now) k with
    | none => rfl
    | some v =>
      have := lki_of_mem hn (List.mem_filter.1 (lki_mem h')).1
      rw [h] at this; cases this
  | some u =>
    by_cases hs : stays now u = true
    · rw [Option.filter_some, if_pos hs]
      exact lki_of_mem hn' (List.mem_filter.2 ⟨lki_mem h, hs⟩)
    · rw [Option.filter_some, if_neg hs]
      cases h' : lki (tickL L now) k with
      | none => rfl
      | some v =>
        have h1 := List.mem_filter.1 (lki_mem h')
        have := lki_of_mem hn h1.1
        rw [h] at this
        injection this with this
        exact absurd (this ▸ h1.2) hs

/-- How many entries there are, told by what is found at the keys of a list. -/
theorem len_by {L : List (K4 × Int)} (hn : (L.map (·.1)).Nodup) (N : Nat) (f : Nat → K4) (hf : ∀ i j, f i = f j → i = j) (hL : ∀ p ∈ L, ∃ i, i < N ∧ p.1 = f i) :
    L.length = ((List.range N).filter fun i => (lki L (f i)).isSome).length := by
  have h1 : (L.map (·.1)).Perm (((List.range N).filter fun i => (lki L (f i)).isSome).map f) := by
    refine (List.perm_ext_iff_of_nodup hn ?_).2 fun k => ?_
    · refine List.nodup_iff_pairwise_ne.2 (List.pairwise_map.2 ?_)
      refine (List.nodup_iff_pairwise_ne.1 (List.nodup_range.filter _)).imp fun hne e => hne (hf _ _ e)
    · constructor
      · intro hk
        obtain ⟨p, hp, rfl⟩ := List.mem_map.1 hk
        obtain ⟨i, hi, e⟩ := hL p hp
        rw [e]
        exact List.mem_map.2 ⟨i, List.mem_filter.2 ⟨List.mem_range.2 hi, by rw [← e]; exact lki_isSome.2 hk⟩, rfl⟩
      · intro hk
        obtain ⟨i, hi, rfl⟩ := List.mem_map.1 hk
        exact lki_isSome.1 (List.mem_filter.1 hi).2
  have h2 := h1.length_eq
  simpa using h2

theorem rm_none {L : List (K4 × Int)} {k : K4} (h : lki L k = none) : rm L k = L := by
  unfold rm
  rw [List.filter_eq_self]
  intro p hp
  have : ¬ (lki L k).isSome = true := by rw [h]; simp
  simp only [decide_not, Bool.not_eq_true', decide_eq_false_iff_not]
  intro e
  exact this (lki_isSome.2 (List.mem_map.2 ⟨p, hp, e⟩))
theorem rm_len {L : List (K4 × Int)} (hn : (L.map (·.1)).Nodup) {k : K4} {u : Int} (h : lki L k = some u) : (rm L k).length + 1 = L.length := by
  have hp : ((rm L k ++ [(k, u)]).map (·.1)).Perm (L.map (·.1)) := by
    refine (List.perm_ext_iff_of_nodup ?_ hn).2 fun x => ?_
    · rw [List.map_append, List.nodup_append]
      refine ⟨(List.filter_sublist.map _).nodup hn, by simp, ?_⟩
      intro x hx y hy e
      simp at hy; subst hy; subst e
      obtain ⟨p, hp, e⟩ := List.mem_map.1 hx
      exact absurd e (by simpa using (List.mem_filter.1 hp).2)
    · rw [← lki_isSome, ← lki_isSome, lki_put]
      by_cases e : x = k
      · simp [e, h]
      · simp [e]
  have := hp.length_eq
  simpa using this

/-- Open, Close, Tick in one word each. -/
theorem openL_full {L : List (K4 × Int)} {k : K4} (h : ¬ mayF L k = 0) : openL L k = L := by rw [openL, if_neg h]
theorem mayF_zero {L : List (K4 × Int)} {k : K4} : mayF L k = 0 ↔ lki L k = none ∧ L.length ≠ 24 := by
  unfold mayF
  cases lki L k <;> simp
theorem openL_new {L : List (K4 × Int)} {k : K4} (h : mayF L k = 0) : openL L k = L ++ [(k, -4611686018427387904)] := by
  rw [openL, if_pos h, rm_none (mayF_zero.1 h).1]
theorem closeF_zero {L : List (K4 × Int)} {k : K4} : closeF L k = 0 ↔ lki L k = some (-4611686018427387904) := by
  unfold closeF isOpen
  cases h : lki L k with
  | none => simp
  | some u =>
    by_cases hu : u = -4611686018427387904
    · simp [hu]
    · simp [hu]
theorem closeL_len {L : List (K4 × Int)} (hn : (L.map (·.1)).Nodup) (k : K4) (now : Int) : (closeL L k now).length = L.length := by
  unfold closeL
  by_cases h : closeF L k = 0
  · rw [if_pos h, List.length_append]
    exact rm_len hn (closeF_zero.1 h)
  · rw [if_neg h]
theorem lki_openL (L : List (K4 × Int)) (k k' : K4) : lki (openL L k) k' = if mayF L k = 0 ∧ k' = k then some (-4611686018427387904) else lki L k' := by
  unfold openL
  by_cases h : mayF L k = 0
  · rw [if_pos h, lki_put]; simp [h]
  · rw [if_neg h]; simp [h]
theorem lki_closeL (L : List (K4 × Int)) (k k' : K4) (now : Int) : lki (closeL L k now) k' = if closeF L k = 0 ∧ k' = k then some (now + 8) else lki L k' := by
  unfold closeL
  by_cases h : closeF L k = 0
  · rw [if_pos h, lki_put]; simp [h]
  · rw [if_neg h]; simp [h]
/-- Where the entries' keys come from. -/
theorem keys_openL {L : List (K4 × Int)} {k : K4} {p : K4 × Int} (h : p ∈ openL L k) : p ∈ L ∨ p.1 = k := by
  unfold openL at h
  split at h
  · rcases List.mem_append.1 h with h | h
    · exact .inl (List.mem_filter.1 h).1
    · simp at h; exact .inr (by rw [h])
  · exact .inl h
theorem keys_closeL {L : List (K4 × Int)} {k : K4} {now : Int} {p : K4 × Int} (h : p ∈ closeL L k now) : p ∈ L ∨ p.1 = k := by
  unfold closeL at h
  split at h
  · rcases List.mem_append.1 h with h | h
    · exact .inl (List.mem_filter.1 h).1
    · simp at h; exact .inr (by rw [h])
  · exact .inl h
theorem keys_tickL {L : List (K4 × Int)} {now : Int} {p : K4 × Int} (h : p ∈ tickL L now) : p ∈ L := (List.mem_filter.1 h).1
end Go.Proofs.Ytcgghjjchfafiaa
