/- Law 8: the cache while a tick goes over it. No condition. -/
import Derived.Test.YtfnphkijalkllaaArO
import Derived.Test.YtfnphkijalkllaaArI
namespace Go.Proofs.Ytfnphkijalkllaa
set_option linter.unusedVariables false
open Go.RowKit
def keepD (M : List En) (D : List Nat) : List En := M.filter fun e => !decide (e.p ∈ D)
/-- All that were there at first lie there still; the list names those that were not taken out. -/
structure TAt (N : Nat) (w : World) (g : Nat) (mac : M6) (ip : I4) (M : List En) (D : List Nat) (lv : Value) : Prop where
  at' : CAt N w g mac ip (keepD M D) lv
  ent : ∀ e ∈ M, EnAt N w e
  pnd : M.Pairwise fun a b => a.p ≠ b.p
  vnd : M.Pairwise fun a b => ∀ k, a.pv.ownBlock = some k → b.pv.ownBlock ≠ some k
theorem TAt.fr {N : Nat} {w w' : World} {g : Nat} {mac : M6} {ip : I4} {M : List En} {D : List Nat} {lv : Value} (h : TAt N w g mac ip M D lv) (f : Fr (fun _ => False) w w') : TAt N w' g mac ip M D lv :=
  ⟨h.at'.fr f, fun e he => (h.ent e he).heap (f.block _ (lt_of_block (h.ent e he).blk) (fun e => e)) (fun k hk => f.block k ((h.ent e he).sl.lt k hk).2 (fun e => e)), h.pnd, h.vnd⟩
theorem keepD_nil (M : List En) : keepD M [] = M := by unfold keepD; simp
theorem TAt.start {N : Nat} {w : World} {g : Nat} {mac : M6} {ip : I4} {L : List En} {lv : Value} (h : CAt N w g mac ip L lv) : TAt N w g mac ip L [] lv :=
  ⟨by rw [keepD_nil]; exact h, h.ent, h.pnd, h.vnd⟩
def upd (x : Nat) (nb' : Nb) (a : En) : En := if a.p = x then { a with nb := nb' } else a
theorem upd_p (x : Nat) (nb' : Nb) (a : En) : (upd x nb' a).p = a.p := by unfold upd; split <;> rfl
theorem upd_pv (x : Nat) (nb' : Nb) (a : En) : (upd x nb' a).pv = a.pv := by unfold upd; split <;> rfl
theorem map_upd_set {M : List En} (h : M.Pairwise fun a b => a.p ≠ b.p) {i : Nat} {e : En} (hi : M[i]? = some e) (nb' : Nb) : M.map (upd e.p nb') = M.set i { e with nb := nb' } := by
  apply List.ext_getElem?
  intro j
  rw [List.getElem?_map, List.getElem?_set]
  obtain ⟨hl, he⟩ := List.getElem?_eq_some_iff.1 hi
  by_cases ej : i = j
  · subst ej
    rw [hi]
    simp [upd, hl]
  · rw [if_neg ej]
    cases hj : M[j]? with
    | none => rfl
    | some a =>
      have hne : a.p ≠ e.p := by
        rcases Nat.lt_or_gt_of_ne ej with h1 | h1
        · exact fun e1 => pairwise_at h hi hj h1 e1.symm
        · exact fun e1 => pairwise_at h hj hi h1 e1
      simp [upd, hne]
theorem keepD_upd (M : List En) (D : List Nat) (x : Nat) (nb' : Nb) : keepD (M.map (upd x nb')) D = (keepD M D).map (upd x nb') := by
  unfold keepD
  rw [List.filter_map]
  congr 1
  apply List.filter_congr
  intro a _
  simp [Function.comp, upd_p]
end Go.Proofs.Ytfnphkijalkllaa
