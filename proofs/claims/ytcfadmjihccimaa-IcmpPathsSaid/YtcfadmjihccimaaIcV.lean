/- What is known of paths, by the program and by the reference: the plain law; Len. No condition. -/
import Derived.Test.YtcfadmjihccimaaIcR
namespace Go.Proofs.Ytcfadmjihccimaa
set_option linter.unusedVariables false
set_option linter.unusedSimpArgs false
open Go.RowKit

/-- The program's table L with its line is as the reference's list R. -/
structure PInv (L : List (I4 × Int)) (line : List I4) (R : List (I4 × Int)) : Prop where
  look : ∀ k, lki L k = lki R k
  keys : R.map (·.1) = line
  nodup : line.Nodup
  len : L.length ≤ line.length
  most : line.length ≤ 8

theorem lki_nil (k : I4) : lki [] k = none := rfl
theorem lki_cons (p : I4 × Int) (R : List (I4 × Int)) (k : I4) : lki (p :: R) k = if p.1 = k then some p.2 else lki R k := by
  unfold lki; rw [List.find?_cons]; by_cases h : p.1 = k <;> simp [h]
theorem lki_app (A B : List (I4 × Int)) (k : I4) : lki (A ++ B) k = (lki A k).or (lki B k) := by
  induction A with
  | nil => simp [lki_nil]
  | cons p A ih => rw [List.cons_append, lki_cons, lki_cons, ih]; split <;> simp
theorem lki_rm (L : List (I4 × Int)) (k k' : I4) : lki (rmI L k) k' = if k' = k then none else lki L k' := by
  induction L with
  | nil => simp [rmI, lki_nil]
  | cons p L ih =>
    unfold rmI at *
    rw [List.filter_cons]
    by_cases hp : p.1 = k
    · simp only [hp, ne_eq, not_true_eq_false, decide_false, Bool.false_eq_true, if_false]
      rw [ih, lki_cons]
      split
      · rfl
      · rename_i hk
        rw [if_neg (by rw [hp]; exact fun e => hk e.symm)]
    · simp only [ne_eq, hp, not_false_eq_true, decide_true, if_true]
      rw [lki_cons, lki_cons, ih]
      by_cases hk : p.1 = k'
      · rw [if_pos hk, if_pos hk, if_neg (fun e => hp (by rw [hk, e]))]
      · rw [if_neg hk, if_neg hk]
theorem lki_none_iff {R : List (I4 × Int)} {k : I4} : lki R k = none ↔ k ∉ R.map (·.1) := by
  induction R with
  | nil => simp [lki_nil]
  | cons p R ih =>
    rw [lki_cons]
    split
    · rename_i h; simp [h]
    · rename_i h
      rw [ih]
      simp only [List.map_cons, List.mem_cons, not_or]
      exact ⟨fun hh => ⟨fun e => h e.symm, hh⟩, fun hh => hh.2⟩
theorem rm_len (L : List (I4 × Int)) (k : I4) : (rmI L k).length ≤ L.length := List.length_filter_le _ _
theorem rm_lt {L : List (I4 × Int)} {k : I4} (h : (lki L k).isSome) : (rmI L k).length + 1 ≤ L.length := by
  induction L with
  | nil => simp [lki_nil] at h
  | cons p L ih =>
    unfold rmI at *
    rw [List.filter_cons]
    rw [lki_cons] at h
    by_cases hp : p.1 = k
    · simp only [hp, ne_eq, not_true_eq_false, decide_false, Bool.false_eq_true, if_false, List.length_cons]
      have := List.length_filter_le (fun p : I4 × Int => p.1 ≠ k) L
      simpa using this
    · rw [if_neg hp] at h
      have := ih h
      simp only [ne_eq, hp, not_false_eq_true, decide_true, if_true, List.length_cons]
      simpa using this
theorem rfSet_keys (R : List (I4 × Int)) (k : I4) (m : Int) : (rfSet R k m).map (·.1) = R.map (·.1) := by
  induction R with
  | nil => rfl
  | cons p R ih => unfold rfSet; split <;> simp_all
theorem rfSet_look {R : List (I4 × Int)} {k : I4} (m : Int) (hs : (lki R k).isSome) (k' : I4) : lki (rfSet R k m) k' = if k = k' then some m else lki R k' := by
  induction R with
  | nil => simp [lki_nil] at hs
  | cons p R ih =>
    unfold rfSet
    rw [lki_cons] at hs
    split
    · rename_i hp
      rw [lki_cons, lki_cons, hp]
      split <;> rfl
    · rename_i hp
      rw [if_neg hp] at hs
      rw [lki_cons, lki_cons, ih hs]
      by_cases h1 : p.1 = k'
      · rw [if_pos h1, if_pos h1, if_neg (fun e => hp (by rw [h1, e]))]
      · rw [if_neg h1, if_neg h1]

theorem PInv.start : PInv [] [] [] := ⟨fun _ => rfl, rfl, List.nodup_nil, Nat.le_refl _, by decide⟩
theorem PInv.learns {L : List (I4 × Int)} {line : List I4} {R : List (I4 × Int)} (h : PInv L line R) (k : I4) (m : Int) : learns L k m = learns R k m := by unfold Ytcfadmjihccimaa.learns; rw [h.look]
theorem PInv.rlen {L : List (I4 × Int)} {line : List I4} {R : List (I4 × Int)} (h : PInv L line R) : R.length = line.length := by rw [← h.keys, List.length_map]

theorem PInv.next {L : List (I4 × Int)} {line : List I4} {R : List (I4 × Int)} (h : PInv L line R) (k : I4) (m : Int) :
    PInv (lnNew L line k m).1 (lnNew L line k m).2 (rfNew R k m) ∧ lki (lnNew L line k m).1 k = some m := by
  have hl1 : ∀ k', lki (rmI L k ++ [(k, m)]) k' = if k = k' then some m else lki L k' := fun k' => by
    rw [lki_app, lki_rm, lki_cons, lki_nil]
    by_cases e : k' = k
    · subst e; simp
    · rw [if_neg e, if_neg (fun h => e h.symm), if_neg (fun h => e h.symm)]; simp
  unfold lnNew
  by_cases hs : (lki L k).isSome
  · have hsR : (lki R k).isSome := by rw [← h.look]; exact hs
    have e1 : lnLine L line k = line := by unfold lnLine; rw [if_pos hs]
    have e2 : lnFin (rmI L k ++ [(k, m)]) line = (rmI L k ++ [(k, m)], line) := by
      have := h.most
      cases line with
      | nil => rfl
      | cons p t => rw [lnFin, if_neg (by omega)]
    have e3 : rfNew R k m = rfSet R k m := by unfold rfNew; rw [if_pos hsR]
    rw [e1, e2, e3]
    refine ⟨⟨fun k' => ?_, by rw [rfSet_keys]; exact h.keys, h.nodup, ?_, h.most⟩, ?_⟩
    · rw [hl1, rfSet_look m hsR, h.look]
    · have := rm_lt hs
      have := h.len
      simp only [List.length_append, List.length_cons, List.length_nil]; omega
    · rw [hl1, if_pos rfl]
  · have hn : lki R k = none := by
      rw [← h.look]
      cases hh : lki L k with
      | none => rfl
      | some x => rw [hh] at hs; simp at hs
    have hk : k ∉ line := by rw [← h.keys]; exact lki_none_iff.1 hn
    have e1 : lnLine L line k = line ++ [k] := by unfold lnLine; rw [if_neg hs]
    have e3 : rfNew R k m = rfCut (R ++ [(k, m)]) := by unfold rfNew; rw [hn]; rfl
    have hnd : (line ++ [k]).Nodup := by
      rw [List.nodup_append]
      refine ⟨h.nodup, by simp, fun a ha b hb e => ?_⟩
      simp at hb
      subst hb; subst e
      exact hk ha
    have hr1 : ∀ k', lki (R ++ [(k, m)]) k' = if k = k' then some m else lki R k' := fun k' => by
      rw [lki_app, lki_cons, lki_nil]
      by_cases e : k = k'
      · subst e; simp [hn]
      · rw [if_neg e, if_neg e]; simp
    have hlen1 : (rmI L k ++ [(k, m)]).length ≤ line.length + 1 := by
      have := rm_len L k
      have := h.len
      simp only [List.length_append, List.length_cons, List.length_nil]; omega
    rw [e1, e3]
    cases hline : line ++ [k] with
    | nil => simp at hline
    | cons hd tl =>
      have hll : (hd :: tl).length = line.length + 1 := by rw [← hline]; simp
      by_cases h8 : (hd :: tl).length > 8
      · have e2 : rfCut (R ++ [(k, m)]) = (R ++ [(k, m)]).tail := by
          unfold rfCut; rw [if_pos (by rw [List.length_append, h.rlen]; simp; omega)]
        rw [lnFin, if_pos h8, e2]
        obtain ⟨⟨p1, p2⟩, r, hpr⟩ := List.exists_cons_of_ne_nil (l := R ++ [(k, m)]) (by simp)
        have hkeys : (R ++ [(k, m)]).map (·.1) = hd :: tl := by rw [List.map_append, h.keys, ← hline]; rfl
        rw [hpr] at hkeys hr1 ⊢
        simp only [List.map_cons, List.cons.injEq] at hkeys
        obtain ⟨hp, hr⟩ := hkeys
        subst hp
        rw [hline] at hnd
        obtain ⟨hnd1, hnd2⟩ := List.nodup_cons.1 hnd
        have hne : p1 ≠ k := fun e => by
          have h2 : line ≠ [] := fun e2 => by rw [e2] at hll; rw [hll] at h8; simp at h8
          obtain ⟨q, t, hq⟩ := List.exists_cons_of_ne_nil h2
          rw [hq] at hline
          simp at hline
          apply hk
          rw [hq, hline.1, e]
          simp
        have hrn : lki r p1 = none := lki_none_iff.2 (by rw [hr]; exact hnd1)
        have look : ∀ k', lki (rmI (rmI L k ++ [(k, m)]) p1) k' = lki r k' := fun k' => by
          rw [lki_rm, hl1]
          have := hr1 k'
          rw [lki_cons] at this
          by_cases e : k' = p1
          · rw [if_pos e, e, hrn]
          · rw [if_neg e, ← h.look k'] at *
            rw [if_neg (fun h => e h.symm)] at this
            exact this.symm
        refine ⟨⟨look, hr, hnd2, ?_, (by have := h.most; rw [List.length_cons] at hll; show tl.length ≤ 8; omega)⟩, ?_⟩
        · have hs1 : (lki (rmI L k ++ [(k, m)]) p1).isSome := by
            rw [hl1, if_neg (fun e => hne e.symm), h.look]
            have := hr1 p1
            rw [lki_cons, if_pos rfl, if_neg (fun e => hne e.symm)] at this
            rw [← this]; rfl
          have := rm_lt hs1
          rw [List.length_cons] at hll
          show (rmI (rmI L k ++ [(k, m)]) p1).length ≤ tl.length
          omega
        · rw [lki_rm, if_neg (fun e => hne e.symm), hl1, if_pos rfl]
      · have e2 : rfCut (R ++ [(k, m)]) = R ++ [(k, m)] := by
          unfold rfCut; rw [if_neg (by rw [List.length_append, h.rlen]; simp; omega)]
        rw [lnFin, if_neg h8, e2]
        refine ⟨⟨fun k' => by rw [hl1, hr1, h.look], by rw [List.map_append, h.keys, ← hline]; rfl, by rw [← hline]; exact hnd, (by show (rmI L k ++ [(k, m)]).length ≤ (hd :: tl).length; rw [hll]; exact hlen1), (by show (hd :: tl).length ≤ 8; omega)⟩, by rw [hl1, if_pos rfl]⟩

set_option maxHeartbeats 4000000 in
theorem len22 (g m : Nat) (L : List (I4 × Int)) (line : List I4) (lv : Value) (w : World) (h : LnAt w g m L line lv) :
    Calls Try.prog 22 #[.pointer (some ⟨g, 0, none⟩)] w fun e w' => e = .returned (.int .i64 line.length) ∧ w' = w := by
  obtain ⟨n, hn⟩ : ∃ n, line.length = n := ⟨_, rfl⟩
  obtain ⟨A, cap, hv, _, _⟩ := h.sl.form
  rw [hn] at hv ⊢
  subst hv
  have hc := h.pa.line
  clear h hn
  go_enter Try.func22, Try.ntmps22
  go_wp2_with fail
  go_ret
  exact ⟨rfl, rfl⟩
end Go.Proofs.Ytcfadmjihccimaa
