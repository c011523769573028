/- The table of law 10: Add. No condition but lengths. -/
import Derived.Test.YtcfadmjihccimaaRtH
import Derived.Test.YtcfadmjihccimaaRtE
import Derived.Test.YtcfadmjihccimaaRtP
namespace Go.Proofs.Ytcfadmjihccimaa
set_option linter.unusedVariables false
set_option linter.unusedSimpArgs false
open Go.RowKit
theorem bd114 : BdTy Try.prog 114 #[(0, 4), (4, 1)] (.agg #[.int .u8 0, .int .u8 0, .int .u8 0, .int .u8 0, .int .i64 0]) := ⟨⟨_, Try.underlying114, fun w => by kernel_rfl⟩, fun w => by kernel_rfl⟩
theorem src109 {w : World} {b : Nat} {x : N5} (h : w.rangeAt b 0 x.cells) : Src Try.prog 5 109 (.slice (some ⟨b, 0, none⟩) 1 1) 1 x.cells w :=
  Src.ofSlice (w := w) Try.underlying109 ⟨b, 0, none⟩ 1 1 _ rfl (fun j u hj => by rw [Addr.add_mid]; exact h j u hj) x.cells_one
theorem key_find {L : List W10} {x : W10} : L.findIdx? (keyW x.n x.bits) = L.findIdx? (fun y => decide (y.key = x.key)) := by
  congr 1
  funext y
  unfold keyW W10.key
  rw [Bool.eq_iff_iff]
  simp [N5.mk.injEq]
theorem lkW_none {L : List W10} {k : N5} (h : lkW L k = none) : L.findIdx? (fun y => decide (y.key = k)) = none := by
  unfold lkW at h
  rw [List.find?_eq_none] at h
  rw [List.findIdx?_eq_none_iff]
  intro y hy
  have := h y hy
  simpa using this
theorem lkW_some {L : List W10} {k : N5} {q : W10} (h : lkW L k = some q) : ∃ i, L.findIdx? (fun y => decide (y.key = k)) = some i ∧ L[i]? = some q ∧ q.key = k := by
  unfold lkW at h
  have hk : q.key = k := by simpa using List.find?_some h
  induction L with
  | nil => cases h
  | cons p L ih =>
    rw [List.find?_cons] at h
    rw [List.findIdx?_cons]
    by_cases e : p.key = k
    · simp only [e, decide_true] at h ⊢
      cases h
      exact ⟨0, by simp, rfl, hk⟩
    · simp only [e, decide_false] at h ⊢
      obtain ⟨i, h1, h2, h3⟩ := ih h
      exact ⟨i + 1, by simp [h1], h2, h3⟩
theorem but_tabW (L : List W10) (k : N5) : but (tabW L) k = tabW (L.filter fun x => x.key ≠ k) := by
  unfold but tabW
  induction L with
  | nil => rfl
  | cons q L ih =>
    by_cases e : q.key = k <;> simp [e, List.filter_cons] <;> simpa using ih
theorem filter_new {L : List W10} {k : N5} (h : L.findIdx? (fun y => decide (y.key = k)) = none) : (L.filter fun x => x.key ≠ k) = L := by
  rw [List.filter_eq_self]
  intro y hy
  have := List.findIdx?_eq_none_iff.1 h y hy
  simpa using this
theorem filter_set_perm {L : List W10} (hn : (L.map W10.key).Nodup) {i : Nat} {q x : W10} (hi : L[i]? = some q) (hq : q.key = x.key) : ((L.filter fun y => y.key ≠ x.key) ++ [x]).Perm (L.set i x) := by
  induction L generalizing i with
  | nil => cases hi
  | cons p L ih =>
    rw [List.map_cons, List.nodup_cons] at hn
    cases i with
    | zero =>
      cases hi
      rw [List.set_cons_zero, List.filter_cons, if_neg (by simp [hq])]
      have : (L.filter fun y => y.key ≠ x.key) = L := by
        rw [List.filter_eq_self]
        intro y hy
        have : ¬ y.key = x.key := fun e => hn.1 (by rw [hq, ← e]; exact List.mem_map.2 ⟨y, hy, rfl⟩)
        simpa using this
      rw [this]
      exact List.perm_append_comm
    | succ i =>
      have hi : L[i]? = some q := hi
      have hp : p.key ≠ x.key := fun e => hn.1 (by rw [e, ← hq]; exact List.mem_map.2 ⟨q, List.mem_of_getElem? hi, rfl⟩)
      rw [List.set_cons_succ, List.filter_cons, if_pos (by simpa using hp), List.cons_append]
      exact List.Perm.cons _ (ih hn.2 hi)
theorem kfl_set {L : List W10} {i : Nat} {q x : W10} (hi : L[i]? = some q) (hq : q.key = x.key) : kfl (L.set i x) = kfl L := by
  unfold kfl
  induction L generalizing i with
  | nil => cases hi
  | cons p L ih =>
    cases i with
    | zero => cases hi; simp [hq]
    | succ i => rw [List.set_cons_succ, List.flatMap_cons, List.flatMap_cons, ih hi]
def PtPost (N g m : Nat) (R' : List W10) (lv : Value) (r : Int) (w : World) (e : Ending) (w' : World) : Prop :=
  e = .returned (.int .i64 r) ∧ ∃ lv', PtAt N w' g m R' lv' ∧ Fr (fun i => i = g ∨ i = m ∨ lv.ownBlock = some i) w w'
theorem kr_look {P : Program} {ops : Array Oper} {T : World → Prop} {o : Oper} {a : Act} (hg : o.guard = none) {t : TypeId} {m x : Operand} (ho : o.op = .lookup t m x true) {b : Nat} {kv v : Value} (hm : a.eval m = .map (some b)) (hx : a.eval x = kv)
    (hr : ∀ w' : World, T w' → (Instr.lookup t (.map (some b)) kv true).run P w' = .ok v w') : YieldsIf P ops T o v a :=
  kr_run hg (fun w' hT => by unfold execOp; simp [ho, hm, hx, hr w' hT, Result.andThen])
theorem range_block {w w' : World} {b o : Nat} {cs : List Value} (h : w'.heap[b]? = w.heap[b]?) (r : w.rangeAt b o cs) : w'.rangeAt b o cs := fun j v hj => (World.cell?_of_block h).trans (r j v hj)
set_option maxHeartbeats 16000000 in
set_option maxRecDepth 100000 in
theorem add30 (N g m : Nat) (L : List W10) (lv : Value) (x : W10) (w : World) (hx : x.ok) (hT : PtAt N w g m L lv) (hlen : L.length ≤ 8) (hN : N ≤ w.heap.size) :
    Calls Try.prog 30 #[.pointer (some ⟨g, 0, none⟩), .agg x.cells.toArray] w (PtPost N g m (addL L x) lv (addE L x) w) := by
  have FA := Lib.hid (Fr.refl (fun _ => False) w)
  have HX := Lib.hid hx
  have HT := Lib.hid hT
  have HN := Lib.hid hN
  obtain ⟨n, hn⟩ : ∃ n, L.length = n := ⟨_, rfl⟩
  have Hn := Lib.hid hn
  obtain ⟨A, cap, hv, _, _⟩ := hT.sl.form
  rw [hn] at hv hlen
  subst hv
  obtain ⟨r0, hr0⟩ : ∃ r0, addE L x = r0 := ⟨_, rfl⟩
  obtain ⟨R', hR'⟩ : ∃ R', addL L x = R' := ⟨_, rfl⟩
  rw [hr0, hR']
  have HR0 := Lib.hid (And.intro hr0 hR')
  have HMP := Lib.hid (mayP_eq hx)
  have HBAD := Lib.hid (show mayP x = false → r0 = 1 ∧ R' = L from fun h => by
    rw [HMP.out] at h
    exact ⟨by rw [← hr0]; unfold addE; rw [h]; rfl, by rw [← hR']; unfold addL; rw [h]; rfl⟩)
  clear hx hT hN hr0 hR' hn
  unfold W10.cells
  go_enter Try.func30, Try.ntmps30
  go_upto_region 1 with (fail)
  have B1 := Lib.hid (box_at w x.cells 69)
  have F1 := Lib.hid (FA.out.alloc (.cells x.cells.toArray 69))
  unfold W10.cells at B1 F1
  generalize w.alloc (.cells #[.int .u8 x.n.a, .int .u8 x.n.b, .int .u8 x.n.c, .int .u8 x.n.d, .int .i64 x.bits, .int .u8 x.g.a, .int .u8 x.g.b, .int .u8 x.g.c, .int .u8 x.g.d, .bool x.via] 69) = w1 at B1 F1 ⊢
  obtain ⟨b0, hb0⟩ : ∃ b0, w.heap.size = b0 := ⟨_, rfl⟩
  have HB0 := Lib.hid hb0
  rw [hb0] at B1 ⊢
  clear hb0
  have HBX := Lib.hid (fun (w' : World) (f : Fr (fun _ => False) w1 w') => range_at w' b0 x.cells 69 (B1.out w' f))
  have HNET := Lib.hid (fun (w' : World) (f : Fr (fun _ => False) w1 w') => show w'.rangeAt b0 0 x.n.cells from range_part (HBX.out w' f) 0 4)
  have HGAT := Lib.hid (fun (w' : World) (f : Fr (fun _ => False) w1 w') => show w'.rangeAt b0 5 x.g.cells from by have h := range_part (HBX.out w' f) 5 4; rw [Nat.zero_add] at h; exact h)
  have HB4 := Lib.hid (fun (w' : World) (f : Fr (fun _ => False) w1 w') => show w'.cell? ⟨b0, 4, none⟩ = some (.int .i64 x.bits) from cells_at w' b0 x.cells 69 (B1.out w' f) 4 _ rfl)
  obtain ⟨bv, hbv⟩ : ∃ bv, x.via = bv := ⟨_, rfl⟩
  have HBV := Lib.hid hbv
  have HB9 := Lib.hid (fun (w' : World) (f : Fr (fun _ => False) w1 w') => show w'.cell? ⟨b0, 9, none⟩ = some (.bool bv) from by rw [← HBV.out]; exact cells_at w' b0 x.cells 69 (B1.out w' f) 9 _ rfl)
  clear hbv
  by_cases h1 : x.bits < 0
  · have HE := Lib.hid (HBAD.out (by unfold mayP; rw [decide_eq_false (by omega)]; rfl))
    as_aux_lemma =>
    refine kr_start [(1, fun W => W.cell? ⟨b0, 4, none⟩ = some (.int .i64 x.bits))] (by kernel_rfl) (by kernel_rfl) ?_
    refine kr_find 0 rfl (by kernel_rfl) (by kernel_rfl) (by kernel_rfl) (fun _ _ _ _ h => h) (by rfl) trivial ?_
    apply Exists.intro; apply And.intro
    · intro w' hS K hK
      clear hS
      go_light
      go_simp
      exact hK.out
    try simp only [Act.put, List.getElem_toArray, List.getElem_cons_zero, List.getElem_cons_succ, List.setIfInBounds_toArray, List.set_cons_zero, List.set_cons_succ]
    refine kr_find 1 rfl (by kernel_rfl) (by kernel_rfl) (by kernel_rfl) (fun _ _ _ _ h => h) (by rfl) (show _ from HB4.out _ (Fr.refl _ w1).drew) ?_
    apply Exists.intro; apply And.intro
    · intro w' hS K hK
      have hS : w'.cell? ⟨b0, 4, none⟩ = some (.int .i64 x.bits) := hS
      go_light
      go_simp
      exact hK.out
    try simp only [Act.put, List.getElem_toArray, List.getElem_cons_zero, List.getElem_cons_succ, List.setIfInBounds_toArray, List.set_cons_zero, List.set_cons_succ]
    refine kr_find 2 rfl (by kernel_rfl) (by kernel_rfl) (by kernel_rfl) (fun _ _ _ _ h => h) (by rfl) trivial ?_
    apply Exists.intro; apply And.intro
    · intro w' hS K hK
      clear hS
      go_light
      go_simp
      exact hK.out
    try simp only [Act.put, List.getElem_toArray, List.getElem_cons_zero, List.getElem_cons_succ, List.setIfInBounds_toArray, List.set_cons_zero, List.set_cons_succ]
    refine kr_find 3 rfl (by kernel_rfl) (by kernel_rfl) (by kernel_rfl) (fun _ _ _ _ h => h) (by rfl) trivial ?_
    apply Exists.intro; apply And.intro
    · intro w' hS K hK
      clear hS
      go_light
      go_simp
      exact hK.out
    try simp only [Act.put, List.getElem_toArray, List.getElem_cons_zero, List.getElem_cons_succ, List.setIfInBounds_toArray, List.set_cons_zero, List.set_cons_succ]
    refine kr_take 4 rfl (by kernel_rfl) (by kernel_rfl) (by kernel_rfl) (fun _ _ _ h => h) (kr_not (by rfl)) trivial ?_
    try simp only [Act.put, List.getElem_toArray, List.getElem_cons_zero, List.getElem_cons_succ, List.setIfInBounds_toArray, List.set_cons_zero, List.set_cons_succ]
    refine kr_take 5 rfl (by kernel_rfl) (by kernel_rfl) (by kernel_rfl) (fun _ _ _ h => h) (kr_not (by rfl)) trivial ?_
    try simp only [Act.put, List.getElem_toArray, List.getElem_cons_zero, List.getElem_cons_succ, List.setIfInBounds_toArray, List.set_cons_zero, List.set_cons_succ]
    refine kr_take 6 rfl (by kernel_rfl) (by kernel_rfl) (by kernel_rfl) (fun _ _ _ h => h) (kr_not (by rfl)) trivial ?_
    try simp only [Act.put, List.getElem_toArray, List.getElem_cons_zero, List.getElem_cons_succ, List.setIfInBounds_toArray, List.set_cons_zero, List.set_cons_succ]
    refine kr_find 7 rfl (by kernel_rfl) (by kernel_rfl) (by kernel_rfl) (fun _ _ _ _ h => h) (by rfl) trivial ?_
    apply Exists.intro; apply And.intro
    · intro w' hS K hK
      clear hS
      go_light
      go_simp
      exact hK.out
    try simp only [Act.put, List.getElem_toArray, List.getElem_cons_zero, List.getElem_cons_succ, List.setIfInBounds_toArray, List.set_cons_zero, List.set_cons_succ]
    refine kr_find 8 rfl (by kernel_rfl) (by kernel_rfl) (by kernel_rfl) (fun _ _ _ _ h => h) (by rfl) trivial ?_
    apply Exists.intro; apply And.intro
    · intro w' hS K hK
      clear hS
      go_light
      go_simp
      exact hK.out
    try simp only [Act.put, List.getElem_toArray, List.getElem_cons_zero, List.getElem_cons_succ, List.setIfInBounds_toArray, List.set_cons_zero, List.set_cons_succ]
    refine kr_take 9 rfl (by kernel_rfl) (by kernel_rfl) (by kernel_rfl) (fun _ _ _ h => h) (kr_not (by rfl)) trivial ?_
    try simp only [Act.put, List.getElem_toArray, List.getElem_cons_zero, List.getElem_cons_succ, List.setIfInBounds_toArray, List.set_cons_zero, List.set_cons_succ]
    refine kr_take 10 rfl (by kernel_rfl) (by kernel_rfl) (by kernel_rfl) (fun _ _ _ h => h) (kr_not (by rfl)) trivial ?_
    try simp only [Act.put, List.getElem_toArray, List.getElem_cons_zero, List.getElem_cons_succ, List.setIfInBounds_toArray, List.set_cons_zero, List.set_cons_succ]
    refine kr_take 11 rfl (by kernel_rfl) (by kernel_rfl) (by kernel_rfl) (fun _ _ _ h => h) (kr_not (by rfl)) trivial ?_
    try simp only [Act.put, List.getElem_toArray, List.getElem_cons_zero, List.getElem_cons_succ, List.setIfInBounds_toArray, List.set_cons_zero, List.set_cons_succ]
    refine kr_take 12 rfl (by kernel_rfl) (by kernel_rfl) (by kernel_rfl) (fun _ _ _ h => h) (kr_not (by rfl)) trivial ?_
    try simp only [Act.put, List.getElem_toArray, List.getElem_cons_zero, List.getElem_cons_succ, List.setIfInBounds_toArray, List.set_cons_zero, List.set_cons_succ]
    refine kr_take 13 rfl (by kernel_rfl) (by kernel_rfl) (by kernel_rfl) (fun _ _ _ h => h) (kr_not (by rfl)) trivial ?_
    try simp only [Act.put, List.getElem_toArray, List.getElem_cons_zero, List.getElem_cons_succ, List.setIfInBounds_toArray, List.set_cons_zero, List.set_cons_succ]
    refine kr_take 14 rfl (by kernel_rfl) (by kernel_rfl) (by kernel_rfl) (fun _ _ _ h => h) (kr_not (by rfl)) trivial ?_
    try simp only [Act.put, List.getElem_toArray, List.getElem_cons_zero, List.getElem_cons_succ, List.setIfInBounds_toArray, List.set_cons_zero, List.set_cons_succ]
    refine kr_take 15 rfl (by kernel_rfl) (by kernel_rfl) (by kernel_rfl) (fun _ _ _ h => h) (kr_not (by rfl)) trivial ?_
    try simp only [Act.put, List.getElem_toArray, List.getElem_cons_zero, List.getElem_cons_succ, List.setIfInBounds_toArray, List.set_cons_zero, List.set_cons_succ]
    refine kr_take 16 rfl (by kernel_rfl) (by kernel_rfl) (by kernel_rfl) (fun _ _ _ h => h) (kr_not (by rfl)) trivial ?_
    try simp only [Act.put, List.getElem_toArray, List.getElem_cons_zero, List.getElem_cons_succ, List.setIfInBounds_toArray, List.set_cons_zero, List.set_cons_succ]
    refine kr_find 17 rfl (by kernel_rfl) (by kernel_rfl) (by kernel_rfl) (fun _ _ _ _ h => h) (by rfl) trivial ?_
    apply Exists.intro; apply And.intro
    · intro w' hS K hK
      clear hS
      go_light
      go_simp
      exact hK.out
    try simp only [Act.put, List.getElem_toArray, List.getElem_cons_zero, List.getElem_cons_succ, List.setIfInBounds_toArray, List.set_cons_zero, List.set_cons_succ]
    refine kr_find 18 rfl (by kernel_rfl) (by kernel_rfl) (by kernel_rfl) (fun _ _ _ _ h => h) (by rfl) trivial ?_
    apply Exists.intro; apply And.intro
    · intro w' hS K hK
      clear hS
      go_light
      go_simp
      exact hK.out
    try simp only [Act.put, List.getElem_toArray, List.getElem_cons_zero, List.getElem_cons_succ, List.setIfInBounds_toArray, List.set_cons_zero, List.set_cons_succ]
    refine kr_take 19 rfl (by kernel_rfl) (by kernel_rfl) (by kernel_rfl) (fun _ _ _ h => h) (kr_not (by rfl)) trivial ?_
    try simp only [Act.put, List.getElem_toArray, List.getElem_cons_zero, List.getElem_cons_succ, List.setIfInBounds_toArray, List.set_cons_zero, List.set_cons_succ]
    refine kr_take 20 rfl (by kernel_rfl) (by kernel_rfl) (by kernel_rfl) (fun _ _ _ h => h) (kr_not (by rfl)) trivial ?_
    try simp only [Act.put, List.getElem_toArray, List.getElem_cons_zero, List.getElem_cons_succ, List.setIfInBounds_toArray, List.set_cons_zero, List.set_cons_succ]
    refine kr_take 21 rfl (by kernel_rfl) (by kernel_rfl) (by kernel_rfl) (fun _ _ _ h => h) (kr_not (by rfl)) trivial ?_
    try simp only [Act.put, List.getElem_toArray, List.getElem_cons_zero, List.getElem_cons_succ, List.setIfInBounds_toArray, List.set_cons_zero, List.set_cons_succ]
    refine kr_take 22 rfl (by kernel_rfl) (by kernel_rfl) (by kernel_rfl) (fun _ _ _ h => h) (kr_not (by rfl)) trivial ?_
    try simp only [Act.put, List.getElem_toArray, List.getElem_cons_zero, List.getElem_cons_succ, List.setIfInBounds_toArray, List.set_cons_zero, List.set_cons_succ]
    refine kr_take 23 rfl (by kernel_rfl) (by kernel_rfl) (by kernel_rfl) (fun _ _ _ h => h) (kr_not (by rfl)) trivial ?_
    try simp only [Act.put, List.getElem_toArray, List.getElem_cons_zero, List.getElem_cons_succ, List.setIfInBounds_toArray, List.set_cons_zero, List.set_cons_succ]
    refine kr_take 24 rfl (by kernel_rfl) (by kernel_rfl) (by kernel_rfl) (fun _ _ _ h => h) (kr_not (by rfl)) trivial ?_
    try simp only [Act.put, List.getElem_toArray, List.getElem_cons_zero, List.getElem_cons_succ, List.setIfInBounds_toArray, List.set_cons_zero, List.set_cons_succ]
    refine kr_take 25 rfl (by kernel_rfl) (by kernel_rfl) (by kernel_rfl) (fun _ _ _ h => h) (kr_not (by rfl)) trivial ?_
    try simp only [Act.put, List.getElem_toArray, List.getElem_cons_zero, List.getElem_cons_succ, List.setIfInBounds_toArray, List.set_cons_zero, List.set_cons_succ]
    refine kr_take 26 rfl (by kernel_rfl) (by kernel_rfl) (by kernel_rfl) (fun _ _ _ h => h) (kr_not (by rfl)) trivial ?_
    try simp only [Act.put, List.getElem_toArray, List.getElem_cons_zero, List.getElem_cons_succ, List.setIfInBounds_toArray, List.set_cons_zero, List.set_cons_succ]
    refine kr_take 27 rfl (by kernel_rfl) (by kernel_rfl) (by kernel_rfl) (fun _ _ _ h => h) (kr_not (by rfl)) trivial ?_
    try simp only [Act.put, List.getElem_toArray, List.getElem_cons_zero, List.getElem_cons_succ, List.setIfInBounds_toArray, List.set_cons_zero, List.set_cons_succ]
    refine kr_find 28 rfl (by kernel_rfl) (by kernel_rfl) (by kernel_rfl) (fun _ _ _ _ h => h) (by rfl) trivial ?_
    apply Exists.intro; apply And.intro
    · intro w' hS K hK
      clear hS
      go_light
      go_simp
      exact hK.out
    try simp only [Act.put, List.getElem_toArray, List.getElem_cons_zero, List.getElem_cons_succ, List.setIfInBounds_toArray, List.set_cons_zero, List.set_cons_succ]
    refine kr_done (by kernel_rfl) ?_ _
    go_wp2_with fail
    go_ret
    rw [HE.out.1, HE.out.2]
    exact ⟨rfl, _, HT.out.fr F1.out.drew, F1.out.drew.upto⟩
  by_cases h2 : 32 < x.bits
  · have HE := Lib.hid (HBAD.out (by unfold mayP; rw [decide_eq_false (show ¬ x.bits ≤ 32 by omega)]; simp))
    as_aux_lemma =>
    refine kr_start [(1, fun W => W.cell? ⟨b0, 4, none⟩ = some (.int .i64 x.bits)), (5, fun W => W.cell? ⟨b0, 4, none⟩ = some (.int .i64 x.bits))] (by kernel_rfl) (by kernel_rfl) ?_
    refine kr_find 0 rfl (by kernel_rfl) (by kernel_rfl) (by kernel_rfl) (fun _ _ _ _ h => h) (by rfl) trivial ?_
    apply Exists.intro; apply And.intro
    · intro w' hS K hK
      clear hS
      go_light
      go_simp
      exact hK.out
    try simp only [Act.put, List.getElem_toArray, List.getElem_cons_zero, List.getElem_cons_succ, List.setIfInBounds_toArray, List.set_cons_zero, List.set_cons_succ]
    refine kr_find 1 rfl (by kernel_rfl) (by kernel_rfl) (by kernel_rfl) (fun _ _ _ _ h => h) (by rfl) (show _ from HB4.out _ (Fr.refl _ w1).drew) ?_
    apply Exists.intro; apply And.intro
    · intro w' hS K hK
      have hS : w'.cell? ⟨b0, 4, none⟩ = some (.int .i64 x.bits) := hS
      go_light
      go_simp
      exact hK.out
    try simp only [Act.put, List.getElem_toArray, List.getElem_cons_zero, List.getElem_cons_succ, List.setIfInBounds_toArray, List.set_cons_zero, List.set_cons_succ]
    refine kr_find 2 rfl (by kernel_rfl) (by kernel_rfl) (by kernel_rfl) (fun _ _ _ _ h => h) (by rfl) trivial ?_
    apply Exists.intro; apply And.intro
    · intro w' hS K hK
      clear hS
      go_light
      go_simp
      exact hK.out
    try simp only [Act.put, List.getElem_toArray, List.getElem_cons_zero, List.getElem_cons_succ, List.setIfInBounds_toArray, List.set_cons_zero, List.set_cons_succ]
    refine kr_find 3 rfl (by kernel_rfl) (by kernel_rfl) (by kernel_rfl) (fun _ _ _ _ h => h) (by rfl) trivial ?_
    apply Exists.intro; apply And.intro
    · intro w' hS K hK
      clear hS
      go_light
      go_simp
      exact hK.out
    try simp only [Act.put, List.getElem_toArray, List.getElem_cons_zero, List.getElem_cons_succ, List.setIfInBounds_toArray, List.set_cons_zero, List.set_cons_succ]
    refine kr_find 4 rfl (by kernel_rfl) (by kernel_rfl) (by kernel_rfl) (fun _ _ _ _ h => h) (by rfl) trivial ?_
    apply Exists.intro; apply And.intro
    · intro w' hS K hK
      clear hS
      go_light
      go_simp
      exact hK.out
    try simp only [Act.put, List.getElem_toArray, List.getElem_cons_zero, List.getElem_cons_succ, List.setIfInBounds_toArray, List.set_cons_zero, List.set_cons_succ]
    refine kr_find 5 rfl (by kernel_rfl) (by kernel_rfl) (by kernel_rfl) (fun _ _ _ _ h => h) (by rfl) (show _ from HB4.out _ (Fr.refl _ w1).drew) ?_
    apply Exists.intro; apply And.intro
    · intro w' hS K hK
      have hS : w'.cell? ⟨b0, 4, none⟩ = some (.int .i64 x.bits) := hS
      go_light
      go_simp
      exact hK.out
    try simp only [Act.put, List.getElem_toArray, List.getElem_cons_zero, List.getElem_cons_succ, List.setIfInBounds_toArray, List.set_cons_zero, List.set_cons_succ]
    refine kr_find 6 rfl (by kernel_rfl) (by kernel_rfl) (by kernel_rfl) (fun _ _ _ _ h => h) (by rfl) trivial ?_
    apply Exists.intro; apply And.intro
    · intro w' hS K hK
      clear hS
      go_light
      go_simp
      exact hK.out
    try simp only [Act.put, List.getElem_toArray, List.getElem_cons_zero, List.getElem_cons_succ, List.setIfInBounds_toArray, List.set_cons_zero, List.set_cons_succ]
    refine kr_find 7 rfl (by kernel_rfl) (by kernel_rfl) (by kernel_rfl) (fun _ _ _ _ h => h) (by rfl) trivial ?_
    apply Exists.intro; apply And.intro
    · intro w' hS K hK
      clear hS
      go_light
      go_simp
      exact hK.out
    try simp only [Act.put, List.getElem_toArray, List.getElem_cons_zero, List.getElem_cons_succ, List.setIfInBounds_toArray, List.set_cons_zero, List.set_cons_succ]
    refine kr_find 8 rfl (by kernel_rfl) (by kernel_rfl) (by kernel_rfl) (fun _ _ _ _ h => h) (by rfl) trivial ?_
    apply Exists.intro; apply And.intro
    · intro w' hS K hK
      clear hS
      go_light
      go_simp
      exact hK.out
    try simp only [Act.put, List.getElem_toArray, List.getElem_cons_zero, List.getElem_cons_succ, List.setIfInBounds_toArray, List.set_cons_zero, List.set_cons_succ]
    refine kr_take 9 rfl (by kernel_rfl) (by kernel_rfl) (by kernel_rfl) (fun _ _ _ h => h) (kr_not (by rfl)) trivial ?_
    try simp only [Act.put, List.getElem_toArray, List.getElem_cons_zero, List.getElem_cons_succ, List.setIfInBounds_toArray, List.set_cons_zero, List.set_cons_succ]
    refine kr_take 10 rfl (by kernel_rfl) (by kernel_rfl) (by kernel_rfl) (fun _ _ _ h => h) (kr_not (by rfl)) trivial ?_
    try simp only [Act.put, List.getElem_toArray, List.getElem_cons_zero, List.getElem_cons_succ, List.setIfInBounds_toArray, List.set_cons_zero, List.set_cons_succ]
    refine kr_take 11 rfl (by kernel_rfl) (by kernel_rfl) (by kernel_rfl) (fun _ _ _ h => h) (kr_not (by rfl)) trivial ?_
    try simp only [Act.put, List.getElem_toArray, List.getElem_cons_zero, List.getElem_cons_succ, List.setIfInBounds_toArray, List.set_cons_zero, List.set_cons_succ]
    refine kr_take 12 rfl (by kernel_rfl) (by kernel_rfl) (by kernel_rfl) (fun _ _ _ h => h) (kr_not (by rfl)) trivial ?_
    try simp only [Act.put, List.getElem_toArray, List.getElem_cons_zero, List.getElem_cons_succ, List.setIfInBounds_toArray, List.set_cons_zero, List.set_cons_succ]
    refine kr_take 13 rfl (by kernel_rfl) (by kernel_rfl) (by kernel_rfl) (fun _ _ _ h => h) (kr_not (by rfl)) trivial ?_
    try simp only [Act.put, List.getElem_toArray, List.getElem_cons_zero, List.getElem_cons_succ, List.setIfInBounds_toArray, List.set_cons_zero, List.set_cons_succ]
    refine kr_take 14 rfl (by kernel_rfl) (by kernel_rfl) (by kernel_rfl) (fun _ _ _ h => h) (kr_not (by rfl)) trivial ?_
    try simp only [Act.put, List.getElem_toArray, List.getElem_cons_zero, List.getElem_cons_succ, List.setIfInBounds_toArray, List.set_cons_zero, List.set_cons_succ]
    refine kr_take 15 rfl (by kernel_rfl) (by kernel_rfl) (by kernel_rfl) (fun _ _ _ h => h) (kr_not (by rfl)) trivial ?_
    try simp only [Act.put, List.getElem_toArray, List.getElem_cons_zero, List.getElem_cons_succ, List.setIfInBounds_toArray, List.set_cons_zero, List.set_cons_succ]
    refine kr_take 16 rfl (by kernel_rfl) (by kernel_rfl) (by kernel_rfl) (fun _ _ _ h => h) (kr_not (by rfl)) trivial ?_
    try simp only [Act.put, List.getElem_toArray, List.getElem_cons_zero, List.getElem_cons_succ, List.setIfInBounds_toArray, List.set_cons_zero, List.set_cons_succ]
    refine kr_find 17 rfl (by kernel_rfl) (by kernel_rfl) (by kernel_rfl) (fun _ _ _ _ h => h) (by rfl) trivial ?_
    apply Exists.intro; apply And.intro
    · intro w' hS K hK
      clear hS
      go_light
      go_simp
      exact hK.out
    try simp only [Act.put, List.getElem_toArray, List.getElem_cons_zero, List.getElem_cons_succ, List.setIfInBounds_toArray, List.set_cons_zero, List.set_cons_succ]
    refine kr_find 18 rfl (by kernel_rfl) (by kernel_rfl) (by kernel_rfl) (fun _ _ _ _ h => h) (by rfl) trivial ?_
    apply Exists.intro; apply And.intro
    · intro w' hS K hK
      clear hS
      go_light
      go_simp
      exact hK.out
    try simp only [Act.put, List.getElem_toArray, List.getElem_cons_zero, List.getElem_cons_succ, List.setIfInBounds_toArray, List.set_cons_zero, List.set_cons_succ]
    refine kr_take 19 rfl (by kernel_rfl) (by kernel_rfl) (by kernel_rfl) (fun _ _ _ h => h) (kr_not (by rfl)) trivial ?_
    try simp only [Act.put, List.getElem_toArray, List.getElem_cons_zero, List.getElem_cons_succ, List.setIfInBounds_toArray, List.set_cons_zero, List.set_cons_succ]
    refine kr_take 20 rfl (by kernel_rfl) (by kernel_rfl) (by kernel_rfl) (fun _ _ _ h => h) (kr_not (by rfl)) trivial ?_
    try simp only [Act.put, List.getElem_toArray, List.getElem_cons_zero, List.getElem_cons_succ, List.setIfInBounds_toArray, List.set_cons_zero, List.set_cons_succ]
    refine kr_take 21 rfl (by kernel_rfl) (by kernel_rfl) (by kernel_rfl) (fun _ _ _ h => h) (kr_not (by rfl)) trivial ?_
    try simp only [Act.put, List.getElem_toArray, List.getElem_cons_zero, List.getElem_cons_succ, List.setIfInBounds_toArray, List.set_cons_zero, List.set_cons_succ]
    refine kr_take 22 rfl (by kernel_rfl) (by kernel_rfl) (by kernel_rfl) (fun _ _ _ h => h) (kr_not (by rfl)) trivial ?_
    try simp only [Act.put, List.getElem_toArray, List.getElem_cons_zero, List.getElem_cons_succ, List.setIfInBounds_toArray, List.set_cons_zero, List.set_cons_succ]
    refine kr_take 23 rfl (by kernel_rfl) (by kernel_rfl) (by kernel_rfl) (fun _ _ _ h => h) (kr_not (by rfl)) trivial ?_
    try simp only [Act.put, List.getElem_toArray, List.getElem_cons_zero, List.getElem_cons_succ, List.setIfInBounds_toArray, List.set_cons_zero, List.set_cons_succ]
    refine kr_take 24 rfl (by kernel_rfl) (by kernel_rfl) (by kernel_rfl) (fun _ _ _ h => h) (kr_not (by rfl)) trivial ?_
    try simp only [Act.put, List.getElem_toArray, List.getElem_cons_zero, List.getElem_cons_succ, List.setIfInBounds_toArray, List.set_cons_zero, List.set_cons_succ]
    refine kr_take 25 rfl (by kernel_rfl) (by kernel_rfl) (by kernel_rfl) (fun _ _ _ h => h) (kr_not (by rfl)) trivial ?_
    try simp only [Act.put, List.getElem_toArray, List.getElem_cons_zero, List.getElem_cons_succ, List.setIfInBounds_toArray, List.set_cons_zero, List.set_cons_succ]
    refine kr_take 26 rfl (by kernel_rfl) (by kernel_rfl) (by kernel_rfl) (fun _ _ _ h => h) (kr_not (by rfl)) trivial ?_
    try simp only [Act.put, List.getElem_toArray, List.getElem_cons_zero, List.getElem_cons_succ, List.setIfInBounds_toArray, List.set_cons_zero, List.set_cons_succ]
    refine kr_take 27 rfl (by kernel_rfl) (by kernel_rfl) (by kernel_rfl) (fun _ _ _ h => h) (kr_not (by rfl)) trivial ?_
    try simp only [Act.put, List.getElem_toArray, List.getElem_cons_zero, List.getElem_cons_succ, List.setIfInBounds_toArray, List.set_cons_zero, List.set_cons_succ]
    refine kr_find 28 rfl (by kernel_rfl) (by kernel_rfl) (by kernel_rfl) (fun _ _ _ _ h => h) (by rfl) trivial ?_
    apply Exists.intro; apply And.intro
    · intro w' hS K hK
      clear hS
      go_light
      go_simp
      exact hK.out
    try simp only [Act.put, List.getElem_toArray, List.getElem_cons_zero, List.getElem_cons_succ, List.setIfInBounds_toArray, List.set_cons_zero, List.set_cons_succ]
    refine kr_done (by kernel_rfl) ?_ _
    go_wp2_with fail
    go_ret
    rw [HE.out.1, HE.out.2]
    exact ⟨rfl, _, HT.out.fr F1.out.drew, F1.out.drew.upto⟩
  obtain ⟨nq, hnq⟩ : ∃ nq, decide (mkI x.n x.bits = x.n) = nq := ⟨_, rfl⟩
  have HNQ := Lib.hid hnq
  have HBT := Lib.hid (show 0 ≤ x.bits ∧ x.bits ≤ 32 by omega)
  obtain ⟨nb, hnb⟩ : ∃ nb : Nat, x.bits = nb := ⟨x.bits.toNat, by omega⟩
  have HNB := Lib.hid hnb
  have HNE := Lib.hid (fun w : World => show (binOp .neq 45 (.agg #[.int .u8 (mkB x.n.a x.bits 0), .int .u8 (mkB x.n.b x.bits 8), .int .u8 (mkB x.n.c x.bits 16), .int .u8 (mkB x.n.d x.bits 24)]) (.agg x.n.cells.toArray)).run Try.prog w = .ok (.bool (!nq)) w from by
    have h := neq45 (by rw [hnb]; exact mkI_ok HX.out.n nb : (mkI x.n x.bits).ok) HX.out.n w
    rw [hnq] at h
    exact h)
  clear hnq hnb
  cases nq
  · have HE := Lib.hid (HBAD.out (by unfold mayP; rw [HNQ.out]; simp))
    as_aux_lemma =>
    refine kr_start [(1, fun W => W.cell? ⟨b0, 4, none⟩ = some (.int .i64 x.bits)), (5, fun W => W.cell? ⟨b0, 4, none⟩ = some (.int .i64 x.bits)), (10, fun W => W.rangeAt b0 0 x.n.cells), (12, fun W => W.cell? ⟨b0, 4, none⟩ = some (.int .i64 x.bits)), (15, fun W => W.rangeAt b0 0 x.n.cells)] (by kernel_rfl) (by kernel_rfl) ?_
    refine kr_find 0 rfl (by kernel_rfl) (by kernel_rfl) (by kernel_rfl) (fun _ _ _ _ h => h) (by rfl) trivial ?_
    apply Exists.intro; apply And.intro
    · intro w' hS K hK
      clear hS
      go_light
      go_simp
      exact hK.out
    try simp only [Act.put, List.getElem_toArray, List.getElem_cons_zero, List.getElem_cons_succ, List.setIfInBounds_toArray, List.set_cons_zero, List.set_cons_succ]
    refine kr_find 1 rfl (by kernel_rfl) (by kernel_rfl) (by kernel_rfl) (fun _ _ _ _ h => h) (by rfl) (show _ from HB4.out _ (Fr.refl _ w1).drew) ?_
    apply Exists.intro; apply And.intro
    · intro w' hS K hK
      have hS : w'.cell? ⟨b0, 4, none⟩ = some (.int .i64 x.bits) := hS
      go_light
      go_simp
      exact hK.out
    try simp only [Act.put, List.getElem_toArray, List.getElem_cons_zero, List.getElem_cons_succ, List.setIfInBounds_toArray, List.set_cons_zero, List.set_cons_succ]
    refine kr_find 2 rfl (by kernel_rfl) (by kernel_rfl) (by kernel_rfl) (fun _ _ _ _ h => h) (by rfl) trivial ?_
    apply Exists.intro; apply And.intro
    · intro w' hS K hK
      clear hS
      go_light
      go_simp
      exact hK.out
    try simp only [Act.put, List.getElem_toArray, List.getElem_cons_zero, List.getElem_cons_succ, List.setIfInBounds_toArray, List.set_cons_zero, List.set_cons_succ]
    refine kr_find 3 rfl (by kernel_rfl) (by kernel_rfl) (by kernel_rfl) (fun _ _ _ _ h => h) (by rfl) trivial ?_
    apply Exists.intro; apply And.intro
    · intro w' hS K hK
      clear hS
      go_light
      go_simp
      exact hK.out
    try simp only [Act.put, List.getElem_toArray, List.getElem_cons_zero, List.getElem_cons_succ, List.setIfInBounds_toArray, List.set_cons_zero, List.set_cons_succ]
    refine kr_find 4 rfl (by kernel_rfl) (by kernel_rfl) (by kernel_rfl) (fun _ _ _ _ h => h) (by rfl) trivial ?_
    apply Exists.intro; apply And.intro
    · intro w' hS K hK
      clear hS
      go_light
      go_simp
      exact hK.out
    try simp only [Act.put, List.getElem_toArray, List.getElem_cons_zero, List.getElem_cons_succ, List.setIfInBounds_toArray, List.set_cons_zero, List.set_cons_succ]
    refine kr_find 5 rfl (by kernel_rfl) (by kernel_rfl) (by kernel_rfl) (fun _ _ _ _ h => h) (by rfl) (show _ from HB4.out _ (Fr.refl _ w1).drew) ?_
    apply Exists.intro; apply And.intro
    · intro w' hS K hK
      have hS : w'.cell? ⟨b0, 4, none⟩ = some (.int .i64 x.bits) := hS
      go_light
      go_simp
      exact hK.out
    try simp only [Act.put, List.getElem_toArray, List.getElem_cons_zero, List.getElem_cons_succ, List.setIfInBounds_toArray, List.set_cons_zero, List.set_cons_succ]
    refine kr_find 6 rfl (by kernel_rfl) (by kernel_rfl) (by kernel_rfl) (fun _ _ _ _ h => h) (by rfl) trivial ?_
    apply Exists.intro; apply And.intro
    · intro w' hS K hK
      clear hS
      go_light
      go_simp
      exact hK.out
    try simp only [Act.put, List.getElem_toArray, List.getElem_cons_zero, List.getElem_cons_succ, List.setIfInBounds_toArray, List.set_cons_zero, List.set_cons_succ]
    refine kr_find 7 rfl (by kernel_rfl) (by kernel_rfl) (by kernel_rfl) (fun _ _ _ _ h => h) (by rfl) trivial ?_
    apply Exists.intro; apply And.intro
    · intro w' hS K hK
      clear hS
      go_light
      go_simp
      exact hK.out
    try simp only [Act.put, List.getElem_toArray, List.getElem_cons_zero, List.getElem_cons_succ, List.setIfInBounds_toArray, List.set_cons_zero, List.set_cons_succ]
    refine kr_find 8 rfl (by kernel_rfl) (by kernel_rfl) (by kernel_rfl) (fun _ _ _ _ h => h) (by rfl) trivial ?_
    apply Exists.intro; apply And.intro
    · intro w' hS K hK
      clear hS
      go_light
      go_simp
      exact hK.out
    try simp only [Act.put, List.getElem_toArray, List.getElem_cons_zero, List.getElem_cons_succ, List.setIfInBounds_toArray, List.set_cons_zero, List.set_cons_succ]
    refine kr_find 9 rfl (by kernel_rfl) (by kernel_rfl) (by kernel_rfl) (fun _ _ _ _ h => h) (by rfl) trivial ?_
    apply Exists.intro; apply And.intro
    · intro w' hS K hK
      clear hS
      go_light
      go_simp
      exact hK.out
    try simp only [Act.put, List.getElem_toArray, List.getElem_cons_zero, List.getElem_cons_succ, List.setIfInBounds_toArray, List.set_cons_zero, List.set_cons_succ]
    refine kr_take 10 rfl (by kernel_rfl) (by kernel_rfl) (by kernel_rfl) (fun _ _ _ h => h) (yieldsIf_load_mid (by rfl) 45 _ rfl (b0) (0) rfl (x.n.cells) _ (fun _ h => h) Try.underlying45 rfl (by kernel_rfl)) (show _ from HNET.out _ (Fr.refl _ w1).drew) ?_
    try simp only [Act.put, List.getElem_toArray, List.getElem_cons_zero, List.getElem_cons_succ, List.setIfInBounds_toArray, List.set_cons_zero, List.set_cons_succ]
    refine kr_find 11 rfl (by kernel_rfl) (by kernel_rfl) (by kernel_rfl) (fun _ _ _ _ h => h) (by rfl) trivial ?_
    apply Exists.intro; apply And.intro
    · intro w' hS K hK
      clear hS
      go_light
      go_simp
      exact hK.out
    try simp only [Act.put, List.getElem_toArray, List.getElem_cons_zero, List.getElem_cons_succ, List.setIfInBounds_toArray, List.set_cons_zero, List.set_cons_succ]
    refine kr_find 12 rfl (by kernel_rfl) (by kernel_rfl) (by kernel_rfl) (fun _ _ _ _ h => h) (by rfl) (show _ from HB4.out _ (Fr.refl _ w1).drew) ?_
    apply Exists.intro; apply And.intro
    · intro w' hS K hK
      have hS : w'.cell? ⟨b0, 4, none⟩ = some (.int .i64 x.bits) := hS
      go_light
      go_simp
      exact hK.out
    try simp only [Act.put, List.getElem_toArray, List.getElem_cons_zero, List.getElem_cons_succ, List.setIfInBounds_toArray, List.set_cons_zero, List.set_cons_succ]
    refine kr_find 14 rfl (by kernel_rfl) (by kernel_rfl) (by kernel_rfl) (fun _ _ _ _ h => h) (by rfl) trivial ?_
    apply Exists.intro; apply And.intro
    · intro w' hS K hK
      clear hS
      go_light
      go_simp
      exact hK.out
    try simp only [Act.put, List.getElem_toArray, List.getElem_cons_zero, List.getElem_cons_succ, List.setIfInBounds_toArray, List.set_cons_zero, List.set_cons_succ]
    refine kr_take 15 rfl (by kernel_rfl) (by kernel_rfl) (by kernel_rfl) (fun _ _ _ h => h) (yieldsIf_load_mid (by rfl) 45 _ rfl (b0) (0) rfl (x.n.cells) _ (fun _ h => h) Try.underlying45 rfl (by kernel_rfl)) (show _ from HNET.out _ (Fr.refl _ w1).drew) ?_
    try simp only [Act.put, List.getElem_toArray, List.getElem_cons_zero, List.getElem_cons_succ, List.setIfInBounds_toArray, List.set_cons_zero, List.set_cons_succ]
    refine kr_one 13 (by kernel_rfl) rfl (by rfl) (fun K hK => ?_)
    go_simp
    go_at_call 55
    refine (masked55 x.n.a x.n.b x.n.c x.n.d x.bits _ HBT.out).mono ?_
    rintro e w3 ⟨rfl, f3⟩
    have F3 := Lib.hid ((Fr.refl (fun _ => False) w1).drew.then' f3)
    clear f3
    refine hK.out _ _ ⟨.inl (by kernel_rfl), .inl (by kernel_rfl), .inl (by kernel_rfl), .inl (by kernel_rfl), .inr (HNET.out _ F3.out), trivial⟩ ?_
    clear hK K
    try simp only [Act.put, List.getElem_toArray, List.getElem_cons_zero, List.getElem_cons_succ, List.setIfInBounds_toArray, List.set_cons_zero, List.set_cons_succ]
    refine kr_take 16 rfl (by kernel_rfl) (by kernel_rfl) (by kernel_rfl) (fun _ _ _ h => h) (kr_bin_agg (by rfl) .neq 45 45 _ _ rfl rfl rfl (by kernel_rfl) _ HNE.out) trivial ?_
    try simp only [Act.put, List.getElem_toArray, List.getElem_cons_zero, List.getElem_cons_succ, List.setIfInBounds_toArray, List.set_cons_zero, List.set_cons_succ]
    refine kr_find 17 rfl (by kernel_rfl) (by kernel_rfl) (by kernel_rfl) (fun _ _ _ _ h => h) (by rfl) trivial ?_
    apply Exists.intro; apply And.intro
    · intro w' hS K hK
      clear hS
      go_light
      go_simp
      exact hK.out
    try simp only [Act.put, List.getElem_toArray, List.getElem_cons_zero, List.getElem_cons_succ, List.setIfInBounds_toArray, List.set_cons_zero, List.set_cons_succ]
    refine kr_find 18 rfl (by kernel_rfl) (by kernel_rfl) (by kernel_rfl) (fun _ _ _ _ h => h) (by rfl) trivial ?_
    apply Exists.intro; apply And.intro
    · intro w' hS K hK
      clear hS
      go_light
      go_simp
      exact hK.out
    try simp only [Act.put, List.getElem_toArray, List.getElem_cons_zero, List.getElem_cons_succ, List.setIfInBounds_toArray, List.set_cons_zero, List.set_cons_succ]
    refine kr_take 19 rfl (by kernel_rfl) (by kernel_rfl) (by kernel_rfl) (fun _ _ _ h => h) (kr_not (by rfl)) trivial ?_
    try simp only [Act.put, List.getElem_toArray, List.getElem_cons_zero, List.getElem_cons_succ, List.setIfInBounds_toArray, List.set_cons_zero, List.set_cons_succ]
    refine kr_take 20 rfl (by kernel_rfl) (by kernel_rfl) (by kernel_rfl) (fun _ _ _ h => h) (kr_not (by rfl)) trivial ?_
    try simp only [Act.put, List.getElem_toArray, List.getElem_cons_zero, List.getElem_cons_succ, List.setIfInBounds_toArray, List.set_cons_zero, List.set_cons_succ]
    refine kr_take 21 rfl (by kernel_rfl) (by kernel_rfl) (by kernel_rfl) (fun _ _ _ h => h) (kr_not (by rfl)) trivial ?_
    try simp only [Act.put, List.getElem_toArray, List.getElem_cons_zero, List.getElem_cons_succ, List.setIfInBounds_toArray, List.set_cons_zero, List.set_cons_succ]
    refine kr_take 22 rfl (by kernel_rfl) (by kernel_rfl) (by kernel_rfl) (fun _ _ _ h => h) (kr_not (by rfl)) trivial ?_
    try simp only [Act.put, List.getElem_toArray, List.getElem_cons_zero, List.getElem_cons_succ, List.setIfInBounds_toArray, List.set_cons_zero, List.set_cons_succ]
    refine kr_take 23 rfl (by kernel_rfl) (by kernel_rfl) (by kernel_rfl) (fun _ _ _ h => h) (kr_not (by rfl)) trivial ?_
    try simp only [Act.put, List.getElem_toArray, List.getElem_cons_zero, List.getElem_cons_succ, List.setIfInBounds_toArray, List.set_cons_zero, List.set_cons_succ]
    refine kr_take 24 rfl (by kernel_rfl) (by kernel_rfl) (by kernel_rfl) (fun _ _ _ h => h) (kr_not (by rfl)) trivial ?_
    try simp only [Act.put, List.getElem_toArray, List.getElem_cons_zero, List.getElem_cons_succ, List.setIfInBounds_toArray, List.set_cons_zero, List.set_cons_succ]
    refine kr_take 25 rfl (by kernel_rfl) (by kernel_rfl) (by kernel_rfl) (fun _ _ _ h => h) (kr_not (by rfl)) trivial ?_
    try simp only [Act.put, List.getElem_toArray, List.getElem_cons_zero, List.getElem_cons_succ, List.setIfInBounds_toArray, List.set_cons_zero, List.set_cons_succ]
    refine kr_take 26 rfl (by kernel_rfl) (by kernel_rfl) (by kernel_rfl) (fun _ _ _ h => h) (kr_not (by rfl)) trivial ?_
    try simp only [Act.put, List.getElem_toArray, List.getElem_cons_zero, List.getElem_cons_succ, List.setIfInBounds_toArray, List.set_cons_zero, List.set_cons_succ]
    refine kr_take 27 rfl (by kernel_rfl) (by kernel_rfl) (by kernel_rfl) (fun _ _ _ h => h) (kr_not (by rfl)) trivial ?_
    try simp only [Act.put, List.getElem_toArray, List.getElem_cons_zero, List.getElem_cons_succ, List.setIfInBounds_toArray, List.set_cons_zero, List.set_cons_succ]
    refine kr_find 28 rfl (by kernel_rfl) (by kernel_rfl) (by kernel_rfl) (fun _ _ _ _ h => h) (by rfl) trivial ?_
    apply Exists.intro; apply And.intro
    · intro w' hS K hK
      clear hS
      go_light
      go_simp
      exact hK.out
    try simp only [Act.put, List.getElem_toArray, List.getElem_cons_zero, List.getElem_cons_succ, List.setIfInBounds_toArray, List.set_cons_zero, List.set_cons_succ]
    refine kr_done (by kernel_rfl) ?_ _
    go_wp2_with fail
    go_ret
    rw [HE.out.1, HE.out.2]
    exact ⟨rfl, _, HT.out.fr (F1.out.then' F3.out), (F1.out.then' F3.out).upto⟩
  obtain ⟨zg, hzg⟩ : ∃ zg, decide (x.g = I4.zero) = zg := ⟨_, rfl⟩
  have HZG := Lib.hid hzg
  have HNG := Lib.hid (fun w : World => show (binOp .neq 45 (.agg x.g.cells.toArray) (.agg #[.int .u8 0, .int .u8 0, .int .u8 0, .int .u8 0])).run Try.prog w = .ok (.bool (!zg)) w from by
    have h := neq45 HX.out.g I4.zero_ok w
    rw [hzg] at h
    exact h)
  clear hzg
  go_cut [36] (fun v36 wc => v36 = .bool (!(bv || zg)) ∧ Fr (fun _ => False) w1 wc)
  case first =>
    cases bv
    · cases zg
      · as_aux_lemma =>
        refine kr_start [(1, fun W => W.cell? ⟨b0, 4, none⟩ = some (.int .i64 x.bits)), (5, fun W => W.cell? ⟨b0, 4, none⟩ = some (.int .i64 x.bits)), (10, fun W => W.rangeAt b0 0 x.n.cells), (12, fun W => W.cell? ⟨b0, 4, none⟩ = some (.int .i64 x.bits)), (15, fun W => W.rangeAt b0 0 x.n.cells), (20, fun W => W.cell? ⟨b0, 9, none⟩ = some (.bool false)), (24, fun W => W.rangeAt b0 5 x.g.cells)] (by kernel_rfl) (by kernel_rfl) ?_
        refine kr_find 0 rfl (by kernel_rfl) (by kernel_rfl) (by kernel_rfl) (fun _ _ _ _ h => h) (by rfl) trivial ?_
        apply Exists.intro; apply And.intro
        · intro w' hS K hK
          clear hS
          go_light
          go_simp
          exact hK.out
        try simp only [Act.put, List.getElem_toArray, List.getElem_cons_zero, List.getElem_cons_succ, List.setIfInBounds_toArray, List.set_cons_zero, List.set_cons_succ]
        refine kr_find 1 rfl (by kernel_rfl) (by kernel_rfl) (by kernel_rfl) (fun _ _ _ _ h => h) (by rfl) (show _ from HB4.out _ (Fr.refl _ w1).drew) ?_
        apply Exists.intro; apply And.intro
        · intro w' hS K hK
          have hS : w'.cell? ⟨b0, 4, none⟩ = some (.int .i64 x.bits) := hS
          go_light
          go_simp
          exact hK.out
        try simp only [Act.put, List.getElem_toArray, List.getElem_cons_zero, List.getElem_cons_succ, List.setIfInBounds_toArray, List.set_cons_zero, List.set_cons_succ]
        refine kr_find 2 rfl (by kernel_rfl) (by kernel_rfl) (by kernel_rfl) (fun _ _ _ _ h => h) (by rfl) trivial ?_
        apply Exists.intro; apply And.intro
        · intro w' hS K hK
          clear hS
          go_light
          go_simp
          exact hK.out
        try simp only [Act.put, List.getElem_toArray, List.getElem_cons_zero, List.getElem_cons_succ, List.setIfInBounds_toArray, List.set_cons_zero, List.set_cons_succ]
        refine kr_find 3 rfl (by kernel_rfl) (by kernel_rfl) (by kernel_rfl) (fun _ _ _ _ h => h) (by rfl) trivial ?_
        apply Exists.intro; apply And.intro
        · intro w' hS K hK
          clear hS
          go_light
          go_simp
          exact hK.out
        try simp only [Act.put, List.getElem_toArray, List.getElem_cons_zero, List.getElem_cons_succ, List.setIfInBounds_toArray, List.set_cons_zero, List.set_cons_succ]
        refine kr_find 4 rfl (by kernel_rfl) (by kernel_rfl) (by kernel_rfl) (fun _ _ _ _ h => h) (by rfl) trivial ?_
        apply Exists.intro; apply And.intro
        · intro w' hS K hK
          clear hS
          go_light
          go_simp
          exact hK.out
        try simp only [Act.put, List.getElem_toArray, List.getElem_cons_zero, List.getElem_cons_succ, List.setIfInBounds_toArray, List.set_cons_zero, List.set_cons_succ]
        refine kr_find 5 rfl (by kernel_rfl) (by kernel_rfl) (by kernel_rfl) (fun _ _ _ _ h => h) (by rfl) (show _ from HB4.out _ (Fr.refl _ w1).drew) ?_
        apply Exists.intro; apply And.intro
        · intro w' hS K hK
          have hS : w'.cell? ⟨b0, 4, none⟩ = some (.int .i64 x.bits) := hS
          go_light
          go_simp
          exact hK.out
        try simp only [Act.put, List.getElem_toArray, List.getElem_cons_zero, List.getElem_cons_succ, List.setIfInBounds_toArray, List.set_cons_zero, List.set_cons_succ]
        refine kr_find 6 rfl (by kernel_rfl) (by kernel_rfl) (by kernel_rfl) (fun _ _ _ _ h => h) (by rfl) trivial ?_
        apply Exists.intro; apply And.intro
        · intro w' hS K hK
          clear hS
          go_light
          go_simp
          exact hK.out
        try simp only [Act.put, List.getElem_toArray, List.getElem_cons_zero, List.getElem_cons_succ, List.setIfInBounds_toArray, List.set_cons_zero, List.set_cons_succ]
        refine kr_find 7 rfl (by kernel_rfl) (by kernel_rfl) (by kernel_rfl) (fun _ _ _ _ h => h) (by rfl) trivial ?_
        apply Exists.intro; apply And.intro
        · intro w' hS K hK
          clear hS
          go_light
          go_simp
          exact hK.out
        try simp only [Act.put, List.getElem_toArray, List.getElem_cons_zero, List.getElem_cons_succ, List.setIfInBounds_toArray, List.set_cons_zero, List.set_cons_succ]
        refine kr_find 8 rfl (by kernel_rfl) (by kernel_rfl) (by kernel_rfl) (fun _ _ _ _ h => h) (by rfl) trivial ?_
        apply Exists.intro; apply And.intro
        · intro w' hS K hK
          clear hS
          go_light
          go_simp
          exact hK.out
        try simp only [Act.put, List.getElem_toArray, List.getElem_cons_zero, List.getElem_cons_succ, List.setIfInBounds_toArray, List.set_cons_zero, List.set_cons_succ]
        refine kr_find 9 rfl (by kernel_rfl) (by kernel_rfl) (by kernel_rfl) (fun _ _ _ _ h => h) (by rfl) trivial ?_
        apply Exists.intro; apply And.intro
        · intro w' hS K hK
          clear hS
          go_light
          go_simp
          exact hK.out
        try simp only [Act.put, List.getElem_toArray, List.getElem_cons_zero, List.getElem_cons_succ, List.setIfInBounds_toArray, List.set_cons_zero, List.set_cons_succ]
        refine kr_take 10 rfl (by kernel_rfl) (by kernel_rfl) (by kernel_rfl) (fun _ _ _ h => h) (yieldsIf_load_mid (by rfl) 45 _ rfl (b0) (0) rfl (x.n.cells) _ (fun _ h => h) Try.underlying45 rfl (by kernel_rfl)) (show _ from HNET.out _ (Fr.refl _ w1).drew) ?_
        try simp only [Act.put, List.getElem_toArray, List.getElem_cons_zero, List.getElem_cons_succ, List.setIfInBounds_toArray, List.set_cons_zero, List.set_cons_succ]
        refine kr_find 11 rfl (by kernel_rfl) (by kernel_rfl) (by kernel_rfl) (fun _ _ _ _ h => h) (by rfl) trivial ?_
        apply Exists.intro; apply And.intro
        · intro w' hS K hK
          clear hS
          go_light
          go_simp
          exact hK.out
        try simp only [Act.put, List.getElem_toArray, List.getElem_cons_zero, List.getElem_cons_succ, List.setIfInBounds_toArray, List.set_cons_zero, List.set_cons_succ]
        refine kr_find 12 rfl (by kernel_rfl) (by kernel_rfl) (by kernel_rfl) (fun _ _ _ _ h => h) (by rfl) (show _ from HB4.out _ (Fr.refl _ w1).drew) ?_
        apply Exists.intro; apply And.intro
        · intro w' hS K hK
          have hS : w'.cell? ⟨b0, 4, none⟩ = some (.int .i64 x.bits) := hS
          go_light
          go_simp
          exact hK.out
        try simp only [Act.put, List.getElem_toArray, List.getElem_cons_zero, List.getElem_cons_succ, List.setIfInBounds_toArray, List.set_cons_zero, List.set_cons_succ]
        refine kr_find 14 rfl (by kernel_rfl) (by kernel_rfl) (by kernel_rfl) (fun _ _ _ _ h => h) (by rfl) trivial ?_
        apply Exists.intro; apply And.intro
        · intro w' hS K hK
          clear hS
          go_light
          go_simp
          exact hK.out
        try simp only [Act.put, List.getElem_toArray, List.getElem_cons_zero, List.getElem_cons_succ, List.setIfInBounds_toArray, List.set_cons_zero, List.set_cons_succ]
        refine kr_take 15 rfl (by kernel_rfl) (by kernel_rfl) (by kernel_rfl) (fun _ _ _ h => h) (yieldsIf_load_mid (by rfl) 45 _ rfl (b0) (0) rfl (x.n.cells) _ (fun _ h => h) Try.underlying45 rfl (by kernel_rfl)) (show _ from HNET.out _ (Fr.refl _ w1).drew) ?_
        try simp only [Act.put, List.getElem_toArray, List.getElem_cons_zero, List.getElem_cons_succ, List.setIfInBounds_toArray, List.set_cons_zero, List.set_cons_succ]
        refine kr_one 13 (by kernel_rfl) rfl (by rfl) (fun K hK => ?_)
        go_simp
        go_at_call 55
        refine (masked55 x.n.a x.n.b x.n.c x.n.d x.bits _ HBT.out).mono ?_
        rintro e w3 ⟨rfl, f3⟩
        have F3 := Lib.hid ((Fr.refl (fun _ => False) w1).drew.then' f3)
        clear f3
        refine hK.out _ _ ⟨.inl (by kernel_rfl), .inl (by kernel_rfl), .inl (by kernel_rfl), .inl (by kernel_rfl), .inr (HNET.out _ F3.out), .inl (by kernel_rfl), .inl (by kernel_rfl), trivial⟩ ?_
        clear hK K
        try simp only [Act.put, List.getElem_toArray, List.getElem_cons_zero, List.getElem_cons_succ, List.setIfInBounds_toArray, List.set_cons_zero, List.set_cons_succ]
        refine kr_take 16 rfl (by kernel_rfl) (by kernel_rfl) (by kernel_rfl) (fun _ _ _ h => h) (kr_bin_agg (by rfl) .neq 45 45 _ _ rfl rfl rfl (by kernel_rfl) _ HNE.out) trivial ?_
        try simp only [Act.put, List.getElem_toArray, List.getElem_cons_zero, List.getElem_cons_succ, List.setIfInBounds_toArray, List.set_cons_zero, List.set_cons_succ]
        refine kr_find 17 rfl (by kernel_rfl) (by kernel_rfl) (by kernel_rfl) (fun _ _ _ _ h => h) (by rfl) trivial ?_
        apply Exists.intro; apply And.intro
        · intro w' hS K hK
          clear hS
          go_light
          go_simp
          exact hK.out
        try simp only [Act.put, List.getElem_toArray, List.getElem_cons_zero, List.getElem_cons_succ, List.setIfInBounds_toArray, List.set_cons_zero, List.set_cons_succ]
        refine kr_find 18 rfl (by kernel_rfl) (by kernel_rfl) (by kernel_rfl) (fun _ _ _ _ h => h) (by rfl) trivial ?_
        apply Exists.intro; apply And.intro
        · intro w' hS K hK
          clear hS
          go_light
          go_simp
          exact hK.out
        try simp only [Act.put, List.getElem_toArray, List.getElem_cons_zero, List.getElem_cons_succ, List.setIfInBounds_toArray, List.set_cons_zero, List.set_cons_succ]
        refine kr_find 19 rfl (by kernel_rfl) (by kernel_rfl) (by kernel_rfl) (fun _ _ _ _ h => h) (by rfl) trivial ?_
        apply Exists.intro; apply And.intro
        · intro w' hS K hK
          clear hS
          go_light
          go_simp
          exact hK.out
        try simp only [Act.put, List.getElem_toArray, List.getElem_cons_zero, List.getElem_cons_succ, List.setIfInBounds_toArray, List.set_cons_zero, List.set_cons_succ]
        refine kr_find 20 rfl (by kernel_rfl) (by kernel_rfl) (by kernel_rfl) (fun _ _ _ _ h => h) (by rfl) (show _ from HB9.out _ F3.out) ?_
        apply Exists.intro; apply And.intro
        · intro w' hS K hK
          have hS : w'.cell? ⟨b0, 9, none⟩ = some (.bool false) := hS
          go_light
          go_simp
          exact hK.out
        try simp only [Act.put, List.getElem_toArray, List.getElem_cons_zero, List.getElem_cons_succ, List.setIfInBounds_toArray, List.set_cons_zero, List.set_cons_succ]
        refine kr_find 21 rfl (by kernel_rfl) (by kernel_rfl) (by kernel_rfl) (fun _ _ _ _ h => h) (by rfl) trivial ?_
        apply Exists.intro; apply And.intro
        · intro w' hS K hK
          clear hS
          go_light
          go_simp
          exact hK.out
        try simp only [Act.put, List.getElem_toArray, List.getElem_cons_zero, List.getElem_cons_succ, List.setIfInBounds_toArray, List.set_cons_zero, List.set_cons_succ]
        refine kr_find 22 rfl (by kernel_rfl) (by kernel_rfl) (by kernel_rfl) (fun _ _ _ _ h => h) (by rfl) trivial ?_
        apply Exists.intro; apply And.intro
        · intro w' hS K hK
          clear hS
          go_light
          go_simp
          exact hK.out
        try simp only [Act.put, List.getElem_toArray, List.getElem_cons_zero, List.getElem_cons_succ, List.setIfInBounds_toArray, List.set_cons_zero, List.set_cons_succ]
        refine kr_find 23 rfl (by kernel_rfl) (by kernel_rfl) (by kernel_rfl) (fun _ _ _ _ h => h) (by rfl) trivial ?_
        apply Exists.intro; apply And.intro
        · intro w' hS K hK
          clear hS
          go_light
          go_simp
          exact hK.out
        try simp only [Act.put, List.getElem_toArray, List.getElem_cons_zero, List.getElem_cons_succ, List.setIfInBounds_toArray, List.set_cons_zero, List.set_cons_succ]
        refine kr_take 24 rfl (by kernel_rfl) (by kernel_rfl) (by kernel_rfl) (fun _ _ _ h => h) (yieldsIf_load_mid (by rfl) 45 _ rfl (b0) (5) rfl (x.g.cells) _ (fun _ h => h) Try.underlying45 rfl (by kernel_rfl)) (show _ from HGAT.out _ F3.out) ?_
        try simp only [Act.put, List.getElem_toArray, List.getElem_cons_zero, List.getElem_cons_succ, List.setIfInBounds_toArray, List.set_cons_zero, List.set_cons_succ]
        refine kr_find 25 rfl (by kernel_rfl) (by kernel_rfl) (by kernel_rfl) (fun _ _ _ _ h => h) (by rfl) trivial ?_
        apply Exists.intro; apply And.intro
        · intro w' hS K hK
          clear hS
          go_light
          go_simp
          exact hK.out
        try simp only [Act.put, List.getElem_toArray, List.getElem_cons_zero, List.getElem_cons_succ, List.setIfInBounds_toArray, List.set_cons_zero, List.set_cons_succ]
        refine kr_take 26 rfl (by kernel_rfl) (by kernel_rfl) (by kernel_rfl) (fun _ _ _ h => h) (kr_bin_agg (by rfl) .neq 45 45 _ _ rfl rfl rfl (by kernel_rfl) _ HNG.out) trivial ?_
        try simp only [Act.put, List.getElem_toArray, List.getElem_cons_zero, List.getElem_cons_succ, List.setIfInBounds_toArray, List.set_cons_zero, List.set_cons_succ]
        refine kr_find 27 rfl (by kernel_rfl) (by kernel_rfl) (by kernel_rfl) (fun _ _ _ _ h => h) (by rfl) trivial ?_
        apply Exists.intro; apply And.intro
        · intro w' hS K hK
          clear hS
          go_light
          go_simp
          exact hK.out
        try simp only [Act.put, List.getElem_toArray, List.getElem_cons_zero, List.getElem_cons_succ, List.setIfInBounds_toArray, List.set_cons_zero, List.set_cons_succ]
        refine kr_find 28 rfl (by kernel_rfl) (by kernel_rfl) (by kernel_rfl) (fun _ _ _ _ h => h) (by rfl) trivial ?_
        apply Exists.intro; apply And.intro
        · intro w' hS K hK
          clear hS
          go_light
          go_simp
          exact hK.out
        try simp only [Act.put, List.getElem_toArray, List.getElem_cons_zero, List.getElem_cons_succ, List.setIfInBounds_toArray, List.set_cons_zero, List.set_cons_succ]
        refine kr_done (by kernel_rfl) ?_ _
        go_wp2_with fail
        go_meet
        exact ⟨rfl, F3.out⟩
      · as_aux_lemma =>
        refine kr_start [(1, fun W => W.cell? ⟨b0, 4, none⟩ = some (.int .i64 x.bits)), (5, fun W => W.cell? ⟨b0, 4, none⟩ = some (.int .i64 x.bits)), (10, fun W => W.rangeAt b0 0 x.n.cells), (12, fun W => W.cell? ⟨b0, 4, none⟩ = some (.int .i64 x.bits)), (15, fun W => W.rangeAt b0 0 x.n.cells), (20, fun W => W.cell? ⟨b0, 9, none⟩ = some (.bool false)), (24, fun W => W.rangeAt b0 5 x.g.cells)] (by kernel_rfl) (by kernel_rfl) ?_
        refine kr_find 0 rfl (by kernel_rfl) (by kernel_rfl) (by kernel_rfl) (fun _ _ _ _ h => h) (by rfl) trivial ?_
        apply Exists.intro; apply And.intro
        · intro w' hS K hK
          clear hS
          go_light
          go_simp
          exact hK.out
        try simp only [Act.put, List.getElem_toArray, List.getElem_cons_zero, List.getElem_cons_succ, List.setIfInBounds_toArray, List.set_cons_zero, List.set_cons_succ]
        refine kr_find 1 rfl (by kernel_rfl) (by kernel_rfl) (by kernel_rfl) (fun _ _ _ _ h => h) (by rfl) (show _ from HB4.out _ (Fr.refl _ w1).drew) ?_
        apply Exists.intro; apply And.intro
        · intro w' hS K hK
          have hS : w'.cell? ⟨b0, 4, none⟩ = some (.int .i64 x.bits) := hS
          go_light
          go_simp
          exact hK.out
        try simp only [Act.put, List.getElem_toArray, List.getElem_cons_zero, List.getElem_cons_succ, List.setIfInBounds_toArray, List.set_cons_zero, List.set_cons_succ]
        refine kr_find 2 rfl (by kernel_rfl) (by kernel_rfl) (by kernel_rfl) (fun _ _ _ _ h => h) (by rfl) trivial ?_
        apply Exists.intro; apply And.intro
        · intro w' hS K hK
          clear hS
          go_light
          go_simp
          exact hK.out
        try simp only [Act.put, List.getElem_toArray, List.getElem_cons_zero, List.getElem_cons_succ, List.setIfInBounds_toArray, List.set_cons_zero, List.set_cons_succ]
        refine kr_find 3 rfl (by kernel_rfl) (by kernel_rfl) (by kernel_rfl) (fun _ _ _ _ h => h) (by rfl) trivial ?_
        apply Exists.intro; apply And.intro
        · intro w' hS K hK
          clear hS
          go_light
          go_simp
          exact hK.out
        try simp only [Act.put, List.getElem_toArray, List.getElem_cons_zero, List.getElem_cons_succ, List.setIfInBounds_toArray, List.set_cons_zero, List.set_cons_succ]
        refine kr_find 4 rfl (by kernel_rfl) (by kernel_rfl) (by kernel_rfl) (fun _ _ _ _ h => h) (by rfl) trivial ?_
        apply Exists.intro; apply And.intro
        · intro w' hS K hK
          clear hS
          go_light
          go_simp
          exact hK.out
        try simp only [Act.put, List.getElem_toArray, List.getElem_cons_zero, List.getElem_cons_succ, List.setIfInBounds_toArray, List.set_cons_zero, List.set_cons_succ]
        refine kr_find 5 rfl (by kernel_rfl) (by kernel_rfl) (by kernel_rfl) (fun _ _ _ _ h => h) (by rfl) (show _ from HB4.out _ (Fr.refl _ w1).drew) ?_
        apply Exists.intro; apply And.intro
        · intro w' hS K hK
          have hS : w'.cell? ⟨b0, 4, none⟩ = some (.int .i64 x.bits) := hS
          go_light
          go_simp
          exact hK.out
        try simp only [Act.put, List.getElem_toArray, List.getElem_cons_zero, List.getElem_cons_succ, List.setIfInBounds_toArray, List.set_cons_zero, List.set_cons_succ]
        refine kr_find 6 rfl (by kernel_rfl) (by kernel_rfl) (by kernel_rfl) (fun _ _ _ _ h => h) (by rfl) trivial ?_
        apply Exists.intro; apply And.intro
        · intro w' hS K hK
          clear hS
          go_light
          go_simp
          exact hK.out
        try simp only [Act.put, List.getElem_toArray, List.getElem_cons_zero, List.getElem_cons_succ, List.setIfInBounds_toArray, List.set_cons_zero, List.set_cons_succ]
        refine kr_find 7 rfl (by kernel_rfl) (by kernel_rfl) (by kernel_rfl) (fun _ _ _ _ h => h) (by rfl) trivial ?_
        apply Exists.intro; apply And.intro
        · intro w' hS K hK
          clear hS
          go_light
          go_simp
          exact hK.out
        try simp only [Act.put, List.getElem_toArray, List.getElem_cons_zero, List.getElem_cons_succ, List.setIfInBounds_toArray, List.set_cons_zero, List.set_cons_succ]
        refine kr_find 8 rfl (by kernel_rfl) (by kernel_rfl) (by kernel_rfl) (fun _ _ _ _ h => h) (by rfl) trivial ?_
        apply Exists.intro; apply And.intro
        · intro w' hS K hK
          clear hS
          go_light
          go_simp
          exact hK.out
        try simp only [Act.put, List.getElem_toArray, List.getElem_cons_zero, List.getElem_cons_succ, List.setIfInBounds_toArray, List.set_cons_zero, List.set_cons_succ]
        refine kr_find 9 rfl (by kernel_rfl) (by kernel_rfl) (by kernel_rfl) (fun _ _ _ _ h => h) (by rfl) trivial ?_
        apply Exists.intro; apply And.intro
        · intro w' hS K hK
          clear hS
          go_light
          go_simp
          exact hK.out
        try simp only [Act.put, List.getElem_toArray, List.getElem_cons_zero, List.getElem_cons_succ, List.setIfInBounds_toArray, List.set_cons_zero, List.set_cons_succ]
        refine kr_take 10 rfl (by kernel_rfl) (by kernel_rfl) (by kernel_rfl) (fun _ _ _ h => h) (yieldsIf_load_mid (by rfl) 45 _ rfl (b0) (0) rfl (x.n.cells) _ (fun _ h => h) Try.underlying45 rfl (by kernel_rfl)) (show _ from HNET.out _ (Fr.refl _ w1).drew) ?_
        try simp only [Act.put, List.getElem_toArray, List.getElem_cons_zero, List.getElem_cons_succ, List.setIfInBounds_toArray, List.set_cons_zero, List.set_cons_succ]
        refine kr_find 11 rfl (by kernel_rfl) (by kernel_rfl) (by kernel_rfl) (fun _ _ _ _ h => h) (by rfl) trivial ?_
        apply Exists.intro; apply And.intro
        · intro w' hS K hK
          clear hS
          go_light
          go_simp
          exact hK.out
        try simp only [Act.put, List.getElem_toArray, List.getElem_cons_zero, List.getElem_cons_succ, List.setIfInBounds_toArray, List.set_cons_zero, List.set_cons_succ]
        refine kr_find 12 rfl (by kernel_rfl) (by kernel_rfl) (by kernel_rfl) (fun _ _ _ _ h => h) (by rfl) (show _ from HB4.out _ (Fr.refl _ w1).drew) ?_
        apply Exists.intro; apply And.intro
        · intro w' hS K hK
          have hS : w'.cell? ⟨b0, 4, none⟩ = some (.int .i64 x.bits) := hS
          go_light
          go_simp
          exact hK.out
        try simp only [Act.put, List.getElem_toArray, List.getElem_cons_zero, List.getElem_cons_succ, List.setIfInBounds_toArray, List.set_cons_zero, List.set_cons_succ]
        refine kr_find 14 rfl (by kernel_rfl) (by kernel_rfl) (by kernel_rfl) (fun _ _ _ _ h => h) (by rfl) trivial ?_
        apply Exists.intro; apply And.intro
        · intro w' hS K hK
          clear hS
          go_light
          go_simp
          exact hK.out
        try simp only [Act.put, List.getElem_toArray, List.getElem_cons_zero, List.getElem_cons_succ, List.setIfInBounds_toArray, List.set_cons_zero, List.set_cons_succ]
        refine kr_take 15 rfl (by kernel_rfl) (by kernel_rfl) (by kernel_rfl) (fun _ _ _ h => h) (yieldsIf_load_mid (by rfl) 45 _ rfl (b0) (0) rfl (x.n.cells) _ (fun _ h => h) Try.underlying45 rfl (by kernel_rfl)) (show _ from HNET.out _ (Fr.refl _ w1).drew) ?_
        try simp only [Act.put, List.getElem_toArray, List.getElem_cons_zero, List.getElem_cons_succ, List.setIfInBounds_toArray, List.set_cons_zero, List.set_cons_succ]
        refine kr_one 13 (by kernel_rfl) rfl (by rfl) (fun K hK => ?_)
        go_simp
        go_at_call 55
        refine (masked55 x.n.a x.n.b x.n.c x.n.d x.bits _ HBT.out).mono ?_
        rintro e w3 ⟨rfl, f3⟩
        have F3 := Lib.hid ((Fr.refl (fun _ => False) w1).drew.then' f3)
        clear f3
        refine hK.out _ _ ⟨.inl (by kernel_rfl), .inl (by kernel_rfl), .inl (by kernel_rfl), .inl (by kernel_rfl), .inr (HNET.out _ F3.out), .inl (by kernel_rfl), .inl (by kernel_rfl), trivial⟩ ?_
        clear hK K
        try simp only [Act.put, List.getElem_toArray, List.getElem_cons_zero, List.getElem_cons_succ, List.setIfInBounds_toArray, List.set_cons_zero, List.set_cons_succ]
        refine kr_take 16 rfl (by kernel_rfl) (by kernel_rfl) (by kernel_rfl) (fun _ _ _ h => h) (kr_bin_agg (by rfl) .neq 45 45 _ _ rfl rfl rfl (by kernel_rfl) _ HNE.out) trivial ?_
        try simp only [Act.put, List.getElem_toArray, List.getElem_cons_zero, List.getElem_cons_succ, List.setIfInBounds_toArray, List.set_cons_zero, List.set_cons_succ]
        refine kr_find 17 rfl (by kernel_rfl) (by kernel_rfl) (by kernel_rfl) (fun _ _ _ _ h => h) (by rfl) trivial ?_
        apply Exists.intro; apply And.intro
        · intro w' hS K hK
          clear hS
          go_light
          go_simp
          exact hK.out
        try simp only [Act.put, List.getElem_toArray, List.getElem_cons_zero, List.getElem_cons_succ, List.setIfInBounds_toArray, List.set_cons_zero, List.set_cons_succ]
        refine kr_find 18 rfl (by kernel_rfl) (by kernel_rfl) (by kernel_rfl) (fun _ _ _ _ h => h) (by rfl) trivial ?_
        apply Exists.intro; apply And.intro
        · intro w' hS K hK
          clear hS
          go_light
          go_simp
          exact hK.out
        try simp only [Act.put, List.getElem_toArray, List.getElem_cons_zero, List.getElem_cons_succ, List.setIfInBounds_toArray, List.set_cons_zero, List.set_cons_succ]
        refine kr_find 19 rfl (by kernel_rfl) (by kernel_rfl) (by kernel_rfl) (fun _ _ _ _ h => h) (by rfl) trivial ?_
        apply Exists.intro; apply And.intro
        · intro w' hS K hK
          clear hS
          go_light
          go_simp
          exact hK.out
        try simp only [Act.put, List.getElem_toArray, List.getElem_cons_zero, List.getElem_cons_succ, List.setIfInBounds_toArray, List.set_cons_zero, List.set_cons_succ]
        refine kr_find 20 rfl (by kernel_rfl) (by kernel_rfl) (by kernel_rfl) (fun _ _ _ _ h => h) (by rfl) (show _ from HB9.out _ F3.out) ?_
        apply Exists.intro; apply And.intro
        · intro w' hS K hK
          have hS : w'.cell? ⟨b0, 9, none⟩ = some (.bool false) := hS
          go_light
          go_simp
          exact hK.out
        try simp only [Act.put, List.getElem_toArray, List.getElem_cons_zero, List.getElem_cons_succ, List.setIfInBounds_toArray, List.set_cons_zero, List.set_cons_succ]
        refine kr_find 21 rfl (by kernel_rfl) (by kernel_rfl) (by kernel_rfl) (fun _ _ _ _ h => h) (by rfl) trivial ?_
        apply Exists.intro; apply And.intro
        · intro w' hS K hK
          clear hS
          go_light
          go_simp
          exact hK.out
        try simp only [Act.put, List.getElem_toArray, List.getElem_cons_zero, List.getElem_cons_succ, List.setIfInBounds_toArray, List.set_cons_zero, List.set_cons_succ]
        refine kr_find 22 rfl (by kernel_rfl) (by kernel_rfl) (by kernel_rfl) (fun _ _ _ _ h => h) (by rfl) trivial ?_
        apply Exists.intro; apply And.intro
        · intro w' hS K hK
          clear hS
          go_light
          go_simp
          exact hK.out
        try simp only [Act.put, List.getElem_toArray, List.getElem_cons_zero, List.getElem_cons_succ, List.setIfInBounds_toArray, List.set_cons_zero, List.set_cons_succ]
        refine kr_find 23 rfl (by kernel_rfl) (by kernel_rfl) (by kernel_rfl) (fun _ _ _ _ h => h) (by rfl) trivial ?_
        apply Exists.intro; apply And.intro
        · intro w' hS K hK
          clear hS
          go_light
          go_simp
          exact hK.out
        try simp only [Act.put, List.getElem_toArray, List.getElem_cons_zero, List.getElem_cons_succ, List.setIfInBounds_toArray, List.set_cons_zero, List.set_cons_succ]
        refine kr_take 24 rfl (by kernel_rfl) (by kernel_rfl) (by kernel_rfl) (fun _ _ _ h => h) (yieldsIf_load_mid (by rfl) 45 _ rfl (b0) (5) rfl (x.g.cells) _ (fun _ h => h) Try.underlying45 rfl (by kernel_rfl)) (show _ from HGAT.out _ F3.out) ?_
        try simp only [Act.put, List.getElem_toArray, List.getElem_cons_zero, List.getElem_cons_succ, List.setIfInBounds_toArray, List.set_cons_zero, List.set_cons_succ]
        refine kr_find 25 rfl (by kernel_rfl) (by kernel_rfl) (by kernel_rfl) (fun _ _ _ _ h => h) (by rfl) trivial ?_
        apply Exists.intro; apply And.intro
        · intro w' hS K hK
          clear hS
          go_light
          go_simp
          exact hK.out
        try simp only [Act.put, List.getElem_toArray, List.getElem_cons_zero, List.getElem_cons_succ, List.setIfInBounds_toArray, List.set_cons_zero, List.set_cons_succ]
        refine kr_take 26 rfl (by kernel_rfl) (by kernel_rfl) (by kernel_rfl) (fun _ _ _ h => h) (kr_bin_agg (by rfl) .neq 45 45 _ _ rfl rfl rfl (by kernel_rfl) _ HNG.out) trivial ?_
        try simp only [Act.put, List.getElem_toArray, List.getElem_cons_zero, List.getElem_cons_succ, List.setIfInBounds_toArray, List.set_cons_zero, List.set_cons_succ]
        refine kr_find 27 rfl (by kernel_rfl) (by kernel_rfl) (by kernel_rfl) (fun _ _ _ _ h => h) (by rfl) trivial ?_
        apply Exists.intro; apply And.intro
        · intro w' hS K hK
          clear hS
          go_light
          go_simp
          exact hK.out
        try simp only [Act.put, List.getElem_toArray, List.getElem_cons_zero, List.getElem_cons_succ, List.setIfInBounds_toArray, List.set_cons_zero, List.set_cons_succ]
        refine kr_find 28 rfl (by kernel_rfl) (by kernel_rfl) (by kernel_rfl) (fun _ _ _ _ h => h) (by rfl) trivial ?_
        apply Exists.intro; apply And.intro
        · intro w' hS K hK
          clear hS
          go_light
          go_simp
          exact hK.out
        try simp only [Act.put, List.getElem_toArray, List.getElem_cons_zero, List.getElem_cons_succ, List.setIfInBounds_toArray, List.set_cons_zero, List.set_cons_succ]
        refine kr_done (by kernel_rfl) ?_ _
        go_wp2_with fail
        go_meet
        exact ⟨rfl, F3.out⟩
    · as_aux_lemma =>
      refine kr_start [(1, fun W => W.cell? ⟨b0, 4, none⟩ = some (.int .i64 x.bits)), (5, fun W => W.cell? ⟨b0, 4, none⟩ = some (.int .i64 x.bits)), (10, fun W => W.rangeAt b0 0 x.n.cells), (12, fun W => W.cell? ⟨b0, 4, none⟩ = some (.int .i64 x.bits)), (15, fun W => W.rangeAt b0 0 x.n.cells), (20, fun W => W.cell? ⟨b0, 9, none⟩ = some (.bool true))] (by kernel_rfl) (by kernel_rfl) ?_
      refine kr_find 0 rfl (by kernel_rfl) (by kernel_rfl) (by kernel_rfl) (fun _ _ _ _ h => h) (by rfl) trivial ?_
      apply Exists.intro; apply And.intro
      · intro w' hS K hK
        clear hS
        go_light
        go_simp
        exact hK.out
      try simp only [Act.put, List.getElem_toArray, List.getElem_cons_zero, List.getElem_cons_succ, List.setIfInBounds_toArray, List.set_cons_zero, List.set_cons_succ]
      refine kr_find 1 rfl (by kernel_rfl) (by kernel_rfl) (by kernel_rfl) (fun _ _ _ _ h => h) (by rfl) (show _ from HB4.out _ (Fr.refl _ w1).drew) ?_
      apply Exists.intro; apply And.intro
      · intro w' hS K hK
        have hS : w'.cell? ⟨b0, 4, none⟩ = some (.int .i64 x.bits) := hS
        go_light
        go_simp
        exact hK.out
      try simp only [Act.put, List.getElem_toArray, List.getElem_cons_zero, List.getElem_cons_succ, List.setIfInBounds_toArray, List.set_cons_zero, List.set_cons_succ]
      refine kr_find 2 rfl (by kernel_rfl) (by kernel_rfl) (by kernel_rfl) (fun _ _ _ _ h => h) (by rfl) trivial ?_
      apply Exists.intro; apply And.intro
      · intro w' hS K hK
        clear hS
        go_light
        go_simp
        exact hK.out
      try simp only [Act.put, List.getElem_toArray, List.getElem_cons_zero, List.getElem_cons_succ, List.setIfInBounds_toArray, List.set_cons_zero, List.set_cons_succ]
      refine kr_find 3 rfl (by kernel_rfl) (by kernel_rfl) (by kernel_rfl) (fun _ _ _ _ h => h) (by rfl) trivial ?_
      apply Exists.intro; apply And.intro
      · intro w' hS K hK
        clear hS
        go_light
        go_simp
        exact hK.out
      try simp only [Act.put, List.getElem_toArray, List.getElem_cons_zero, List.getElem_cons_succ, List.setIfInBounds_toArray, List.set_cons_zero, List.set_cons_succ]
      refine kr_find 4 rfl (by kernel_rfl) (by kernel_rfl) (by kernel_rfl) (fun _ _ _ _ h => h) (by rfl) trivial ?_
      apply Exists.intro; apply And.intro
      · intro w' hS K hK
        clear hS
        go_light
        go_simp
        exact hK.out
      try simp only [Act.put, List.getElem_toArray, List.getElem_cons_zero, List.getElem_cons_succ, List.setIfInBounds_toArray, List.set_cons_zero, List.set_cons_succ]
      refine kr_find 5 rfl (by kernel_rfl) (by kernel_rfl) (by kernel_rfl) (fun _ _ _ _ h => h) (by rfl) (show _ from HB4.out _ (Fr.refl _ w1).drew) ?_
      apply Exists.intro; apply And.intro
      · intro w' hS K hK
        have hS : w'.cell? ⟨b0, 4, none⟩ = some (.int .i64 x.bits) := hS
        go_light
        go_simp
        exact hK.out
      try simp only [Act.put, List.getElem_toArray, List.getElem_cons_zero, List.getElem_cons_succ, List.setIfInBounds_toArray, List.set_cons_zero, List.set_cons_succ]
      refine kr_find 6 rfl (by kernel_rfl) (by kernel_rfl) (by kernel_rfl) (fun _ _ _ _ h => h) (by rfl) trivial ?_
      apply Exists.intro; apply And.intro
      · intro w' hS K hK
        clear hS
        go_light
        go_simp
        exact hK.out
      try simp only [Act.put, List.getElem_toArray, List.getElem_cons_zero, List.getElem_cons_succ, List.setIfInBounds_toArray, List.set_cons_zero, List.set_cons_succ]
      refine kr_find 7 rfl (by kernel_rfl) (by kernel_rfl) (by kernel_rfl) (fun _ _ _ _ h => h) (by rfl) trivial ?_
      apply Exists.intro; apply And.intro
      · intro w' hS K hK
        clear hS
        go_light
        go_simp
        exact hK.out
      try simp only [Act.put, List.getElem_toArray, List.getElem_cons_zero, List.getElem_cons_succ, List.setIfInBounds_toArray, List.set_cons_zero, List.set_cons_succ]
      refine kr_find 8 rfl (by kernel_rfl) (by kernel_rfl) (by kernel_rfl) (fun _ _ _ _ h => h) (by rfl) trivial ?_
      apply Exists.intro; apply And.intro
      · intro w' hS K hK
        clear hS
        go_light
        go_simp
        exact hK.out
      try simp only [Act.put, List.getElem_toArray, List.getElem_cons_zero, List.getElem_cons_succ, List.setIfInBounds_toArray, List.set_cons_zero, List.set_cons_succ]
      refine kr_find 9 rfl (by kernel_rfl) (by kernel_rfl) (by kernel_rfl) (fun _ _ _ _ h => h) (by rfl) trivial ?_
      apply Exists.intro; apply And.intro
      · intro w' hS K hK
        clear hS
        go_light
        go_simp
        exact hK.out
      try simp only [Act.put, List.getElem_toArray, List.getElem_cons_zero, List.getElem_cons_succ, List.setIfInBounds_toArray, List.set_cons_zero, List.set_cons_succ]
      refine kr_take 10 rfl (by kernel_rfl) (by kernel_rfl) (by kernel_rfl) (fun _ _ _ h => h) (yieldsIf_load_mid (by rfl) 45 _ rfl (b0) (0) rfl (x.n.cells) _ (fun _ h => h) Try.underlying45 rfl (by kernel_rfl)) (show _ from HNET.out _ (Fr.refl _ w1).drew) ?_
      try simp only [Act.put, List.getElem_toArray, List.getElem_cons_zero, List.getElem_cons_succ, List.setIfInBounds_toArray, List.set_cons_zero, List.set_cons_succ]
      refine kr_find 11 rfl (by kernel_rfl) (by kernel_rfl) (by kernel_rfl) (fun _ _ _ _ h => h) (by rfl) trivial ?_
      apply Exists.intro; apply And.intro
      · intro w' hS K hK
        clear hS
        go_light
        go_simp
        exact hK.out
      try simp only [Act.put, List.getElem_toArray, List.getElem_cons_zero, List.getElem_cons_succ, List.setIfInBounds_toArray, List.set_cons_zero, List.set_cons_succ]
      refine kr_find 12 rfl (by kernel_rfl) (by kernel_rfl) (by kernel_rfl) (fun _ _ _ _ h => h) (by rfl) (show _ from HB4.out _ (Fr.refl _ w1).drew) ?_
      apply Exists.intro; apply And.intro
      · intro w' hS K hK
        have hS : w'.cell? ⟨b0, 4, none⟩ = some (.int .i64 x.bits) := hS
        go_light
        go_simp
        exact hK.out
      try simp only [Act.put, List.getElem_toArray, List.getElem_cons_zero, List.getElem_cons_succ, List.setIfInBounds_toArray, List.set_cons_zero, List.set_cons_succ]
      refine kr_find 14 rfl (by kernel_rfl) (by kernel_rfl) (by kernel_rfl) (fun _ _ _ _ h => h) (by rfl) trivial ?_
      apply Exists.intro; apply And.intro
      · intro w' hS K hK
        clear hS
        go_light
        go_simp
        exact hK.out
      try simp only [Act.put, List.getElem_toArray, List.getElem_cons_zero, List.getElem_cons_succ, List.setIfInBounds_toArray, List.set_cons_zero, List.set_cons_succ]
      refine kr_take 15 rfl (by kernel_rfl) (by kernel_rfl) (by kernel_rfl) (fun _ _ _ h => h) (yieldsIf_load_mid (by rfl) 45 _ rfl (b0) (0) rfl (x.n.cells) _ (fun _ h => h) Try.underlying45 rfl (by kernel_rfl)) (show _ from HNET.out _ (Fr.refl _ w1).drew) ?_
      try simp only [Act.put, List.getElem_toArray, List.getElem_cons_zero, List.getElem_cons_succ, List.setIfInBounds_toArray, List.set_cons_zero, List.set_cons_succ]
      refine kr_one 13 (by kernel_rfl) rfl (by rfl) (fun K hK => ?_)
      go_simp
      go_at_call 55
      refine (masked55 x.n.a x.n.b x.n.c x.n.d x.bits _ HBT.out).mono ?_
      rintro e w3 ⟨rfl, f3⟩
      have F3 := Lib.hid ((Fr.refl (fun _ => False) w1).drew.then' f3)
      clear f3
      refine hK.out _ _ ⟨.inl (by kernel_rfl), .inl (by kernel_rfl), .inl (by kernel_rfl), .inl (by kernel_rfl), .inr (HNET.out _ F3.out), .inl (by kernel_rfl), trivial⟩ ?_
      clear hK K
      try simp only [Act.put, List.getElem_toArray, List.getElem_cons_zero, List.getElem_cons_succ, List.setIfInBounds_toArray, List.set_cons_zero, List.set_cons_succ]
      refine kr_take 16 rfl (by kernel_rfl) (by kernel_rfl) (by kernel_rfl) (fun _ _ _ h => h) (kr_bin_agg (by rfl) .neq 45 45 _ _ rfl rfl rfl (by kernel_rfl) _ HNE.out) trivial ?_
      try simp only [Act.put, List.getElem_toArray, List.getElem_cons_zero, List.getElem_cons_succ, List.setIfInBounds_toArray, List.set_cons_zero, List.set_cons_succ]
      refine kr_find 17 rfl (by kernel_rfl) (by kernel_rfl) (by kernel_rfl) (fun _ _ _ _ h => h) (by rfl) trivial ?_
      apply Exists.intro; apply And.intro
      · intro w' hS K hK
        clear hS
        go_light
        go_simp
        exact hK.out
      try simp only [Act.put, List.getElem_toArray, List.getElem_cons_zero, List.getElem_cons_succ, List.setIfInBounds_toArray, List.set_cons_zero, List.set_cons_succ]
      refine kr_find 18 rfl (by kernel_rfl) (by kernel_rfl) (by kernel_rfl) (fun _ _ _ _ h => h) (by rfl) trivial ?_
      apply Exists.intro; apply And.intro
      · intro w' hS K hK
        clear hS
        go_light
        go_simp
        exact hK.out
      try simp only [Act.put, List.getElem_toArray, List.getElem_cons_zero, List.getElem_cons_succ, List.setIfInBounds_toArray, List.set_cons_zero, List.set_cons_succ]
      refine kr_find 19 rfl (by kernel_rfl) (by kernel_rfl) (by kernel_rfl) (fun _ _ _ _ h => h) (by rfl) trivial ?_
      apply Exists.intro; apply And.intro
      · intro w' hS K hK
        clear hS
        go_light
        go_simp
        exact hK.out
      try simp only [Act.put, List.getElem_toArray, List.getElem_cons_zero, List.getElem_cons_succ, List.setIfInBounds_toArray, List.set_cons_zero, List.set_cons_succ]
      refine kr_find 20 rfl (by kernel_rfl) (by kernel_rfl) (by kernel_rfl) (fun _ _ _ _ h => h) (by rfl) (show _ from HB9.out _ F3.out) ?_
      apply Exists.intro; apply And.intro
      · intro w' hS K hK
        have hS : w'.cell? ⟨b0, 9, none⟩ = some (.bool true) := hS
        go_light
        go_simp
        exact hK.out
      try simp only [Act.put, List.getElem_toArray, List.getElem_cons_zero, List.getElem_cons_succ, List.setIfInBounds_toArray, List.set_cons_zero, List.set_cons_succ]
      refine kr_find 21 rfl (by kernel_rfl) (by kernel_rfl) (by kernel_rfl) (fun _ _ _ _ h => h) (by rfl) trivial ?_
      apply Exists.intro; apply And.intro
      · intro w' hS K hK
        clear hS
        go_light
        go_simp
        exact hK.out
      try simp only [Act.put, List.getElem_toArray, List.getElem_cons_zero, List.getElem_cons_succ, List.setIfInBounds_toArray, List.set_cons_zero, List.set_cons_succ]
      refine kr_find 22 rfl (by kernel_rfl) (by kernel_rfl) (by kernel_rfl) (fun _ _ _ _ h => h) (by rfl) trivial ?_
      apply Exists.intro; apply And.intro
      · intro w' hS K hK
        clear hS
        go_light
        go_simp
        exact hK.out
      try simp only [Act.put, List.getElem_toArray, List.getElem_cons_zero, List.getElem_cons_succ, List.setIfInBounds_toArray, List.set_cons_zero, List.set_cons_succ]
      refine kr_take 23 rfl (by kernel_rfl) (by kernel_rfl) (by kernel_rfl) (fun _ _ _ h => h) (kr_not (by rfl)) trivial ?_
      try simp only [Act.put, List.getElem_toArray, List.getElem_cons_zero, List.getElem_cons_succ, List.setIfInBounds_toArray, List.set_cons_zero, List.set_cons_succ]
      refine kr_take 24 rfl (by kernel_rfl) (by kernel_rfl) (by kernel_rfl) (fun _ _ _ h => h) (kr_not (by rfl)) trivial ?_
      try simp only [Act.put, List.getElem_toArray, List.getElem_cons_zero, List.getElem_cons_succ, List.setIfInBounds_toArray, List.set_cons_zero, List.set_cons_succ]
      refine kr_take 25 rfl (by kernel_rfl) (by kernel_rfl) (by kernel_rfl) (fun _ _ _ h => h) (kr_not (by rfl)) trivial ?_
      try simp only [Act.put, List.getElem_toArray, List.getElem_cons_zero, List.getElem_cons_succ, List.setIfInBounds_toArray, List.set_cons_zero, List.set_cons_succ]
      refine kr_take 26 rfl (by kernel_rfl) (by kernel_rfl) (by kernel_rfl) (fun _ _ _ h => h) (kr_not (by rfl)) trivial ?_
      try simp only [Act.put, List.getElem_toArray, List.getElem_cons_zero, List.getElem_cons_succ, List.setIfInBounds_toArray, List.set_cons_zero, List.set_cons_succ]
      refine kr_find 27 rfl (by kernel_rfl) (by kernel_rfl) (by kernel_rfl) (fun _ _ _ _ h => h) (by rfl) trivial ?_
      apply Exists.intro; apply And.intro
      · intro w' hS K hK
        clear hS
        go_light
        go_simp
        exact hK.out
      try simp only [Act.put, List.getElem_toArray, List.getElem_cons_zero, List.getElem_cons_succ, List.setIfInBounds_toArray, List.set_cons_zero, List.set_cons_succ]
      refine kr_find 28 rfl (by kernel_rfl) (by kernel_rfl) (by kernel_rfl) (fun _ _ _ _ h => h) (by rfl) trivial ?_
      apply Exists.intro; apply And.intro
      · intro w' hS K hK
        clear hS
        go_light
        go_simp
        exact hK.out
      try simp only [Act.put, List.getElem_toArray, List.getElem_cons_zero, List.getElem_cons_succ, List.setIfInBounds_toArray, List.set_cons_zero, List.set_cons_succ]
      refine kr_done (by kernel_rfl) ?_ _
      go_wp2_with fail
      go_meet
      exact ⟨rfl, F3.out⟩
  case rest =>
  obtain ⟨rfl, hf2⟩ := hcut
  have F2 := Lib.hid hf2
  obtain ⟨w2, hw2⟩ : ∃ y, y = wc := ⟨_, rfl⟩
  subst hw2
  clear hf2
  cases hok : (bv || zg) with
  | false =>
    have HE := Lib.hid (HBAD.out (by unfold mayP; rw [HNQ.out, HBV.out, HZG.out, hok]; simp))
    clear hok
    as_aux_lemma =>
    go_wp2_with fail
    go_ret
    rw [HE.out.1, HE.out.2]
    exact ⟨rfl, _, HT.out.fr (F1.out.then' F2.out), (F1.out.then' F2.out).upto⟩
  | true =>
  have HMB := Lib.hid (show mayW x = true by rw [← HMP.out]; unfold mayP; rw [HNQ.out, HBV.out, HZG.out, hok, decide_eq_true HBT.out.1, decide_eq_true HBT.out.2]; rfl)
  clear hok
  iterate 60 (first
    | (have := MK3; clear this)
    | (refine wpList_load_mid rfl 45 _ rfl b0 0 rfl x.n.cells _ (HNET.out w2 F2.out) Try.underlying45 rfl (by kernel_rfl) ?_; have hb4 := HB4.out w2 F2.out)
    | (refine wpList_build bd114 rfl rfl [(0, .agg #[.int .u8 x.n.a, .int .u8 x.n.b, .int .u8 x.n.c, .int .u8 x.n.d]), (1, .int .i64 x.bits)] (by rfl) #[.int .u8 x.key.ip.a, .int .u8 x.key.ip.b, .int .u8 x.key.ip.c, .int .u8 x.key.ip.d, .int .i64 x.key.bits] (by rfl) ?_; have MK3 := Lib.hid True.intro)
    | go_step)
  clear hb4
  go_upto_region 4 with (fail)
  have HKB0 := Lib.hid (fun (w' : World) (f : Fr (fun _ => False) (w2.alloc (.cells x.key.cells.toArray 114)) w') => range_at w' w2.heap.size x.key.cells 114 (box_at w2 x.key.cells 114 w' f))
  have F3 := Lib.hid ((Fr.refl (fun _ => False) w2).alloc (.cells x.key.cells.toArray 114))
  unfold N5.cells at HKB0 F3
  generalize w2.alloc (.cells #[.int .u8 x.key.ip.a, .int .u8 x.key.ip.b, .int .u8 x.key.ip.c, .int .u8 x.key.ip.d, .int .i64 x.key.bits] 114) = w3 at HKB0 F3 ⊢
  obtain ⟨kb, hkb⟩ : ∃ kb, w2.heap.size = kb := ⟨_, rfl⟩
  have HKBN := Lib.hid (show w.heap.size ≤ kb by have := F1.out.size; have := F2.out.size; omega)
  rw [hkb] at HKB0 ⊢
  clear hkb
  have HKB := Lib.hid (fun (w' : World) (f : Fr (fun _ => False) w3 w') => show w'.rangeAt kb 0 x.key.cells from HKB0.out w' f)
  have T3 := Lib.hid (HT.out.fr (F1.out.then' (F2.out.then' F3.out)))
  have HMC := Lib.hid (fun (w' : World) (f : Fr (fun _ => False) w3 w') => cells_at w' g [.map (some m), .slice A n cap, .func (.func 54) #[] #[]] 111 (T3.out.fr f).blk 0 _ rfl)
  obtain ⟨q0, hq0⟩ : ∃ q0, (lkW L x.key).getD zW = q0 := ⟨_, rfl⟩
  obtain ⟨is, his⟩ : ∃ is, (lkW L x.key).isSome = is := ⟨_, rfl⟩
  have HLK := Lib.hid (fun (w' : World) (f : Fr (fun _ => False) w3 w') => show (Instr.lookup 105 (.map (some m)) (.agg #[.int .u8 x.key.ip.a, .int .u8 x.key.ip.b, .int .u8 x.key.ip.c, .int .u8 x.key.ip.d, .int .i64 x.key.bits]) true).run Try.prog w' = .ok (.tuple #[q0.val, .bool is]) w' from by
    have h := (T3.out.fr f).look HX.out.key
    rw [hq0, his] at h
    exact h)
  have HIS := Lib.hid his
  clear hq0 his
  refine kr_start [(3, fun W => W.cell? ⟨g, 0, none⟩ = some (.map (some m))), (4, fun W => W.rangeAt kb 0 x.key.cells), (5, fun W => (Instr.lookup 105 (.map (some m)) (.agg #[.int .u8 x.key.ip.a, .int .u8 x.key.ip.b, .int .u8 x.key.ip.c, .int .u8 x.key.ip.d, .int .i64 x.key.bits]) true).run Try.prog W = .ok (.tuple #[q0.val, .bool is]) W)] (by kernel_rfl) (by kernel_rfl) ?_
  refine kr_find 0 rfl (by kernel_rfl) (by kernel_rfl) (by kernel_rfl) (fun _ _ _ _ h => h) (by rfl) trivial ?_
  apply Exists.intro; apply And.intro
  · intro w' hS K hK
    clear hS
    go_light
    go_simp
    exact hK.out
  try simp only [Act.put, List.getElem_toArray, List.getElem_cons_zero, List.getElem_cons_succ, List.setIfInBounds_toArray, List.set_cons_zero, List.set_cons_succ]
  refine kr_find 1 rfl (by kernel_rfl) (by kernel_rfl) (by kernel_rfl) (fun _ _ _ _ h => h) (by rfl) trivial ?_
  apply Exists.intro; apply And.intro
  · intro w' hS K hK
    clear hS
    go_light
    go_simp
    exact hK.out
  try simp only [Act.put, List.getElem_toArray, List.getElem_cons_zero, List.getElem_cons_succ, List.setIfInBounds_toArray, List.set_cons_zero, List.set_cons_succ]
  refine kr_find 2 rfl (by kernel_rfl) (by kernel_rfl) (by kernel_rfl) (fun _ _ _ _ h => h) (by rfl) trivial ?_
  apply Exists.intro; apply And.intro
  · intro w' hS K hK
    clear hS
    go_light
    go_simp
    exact hK.out
  try simp only [Act.put, List.getElem_toArray, List.getElem_cons_zero, List.getElem_cons_succ, List.setIfInBounds_toArray, List.set_cons_zero, List.set_cons_succ]
  refine kr_find 3 rfl (by kernel_rfl) (by kernel_rfl) (by kernel_rfl) (fun _ _ _ _ h => h) (by rfl) (show _ from HMC.out _ (Fr.refl _ w3).drew) ?_
  apply Exists.intro; apply And.intro
  · intro w' hS K hK
    have hS : w'.cell? ⟨g, 0, none⟩ = some (.map (some m)) := hS
    go_light
    go_simp
    exact hK.out
  try simp only [Act.put, List.getElem_toArray, List.getElem_cons_zero, List.getElem_cons_succ, List.setIfInBounds_toArray, List.set_cons_zero, List.set_cons_succ]
  refine kr_take 4 rfl (by kernel_rfl) (by kernel_rfl) (by kernel_rfl) (fun _ _ _ h => h) (yieldsIf_load_mid (by rfl) 114 _ rfl (kb) (0) rfl (x.key.cells) _ (fun _ h => h) Try.underlying114 rfl (by kernel_rfl)) (show _ from HKB.out _ (Fr.refl _ w3).drew) ?_
  try simp only [Act.put, List.getElem_toArray, List.getElem_cons_zero, List.getElem_cons_succ, List.setIfInBounds_toArray, List.set_cons_zero, List.set_cons_succ]
  refine kr_take 5 rfl (by kernel_rfl) (by kernel_rfl) (by kernel_rfl) (fun _ _ _ h => h) (kr_look rfl rfl (b := m) (kv := (.agg #[.int .u8 x.key.ip.a, .int .u8 x.key.ip.b, .int .u8 x.key.ip.c, .int .u8 x.key.ip.d, .int .i64 x.key.bits])) (v := .tuple #[q0.val, .bool is]) rfl rfl (fun _ h => h)) (show _ from HLK.out _ (Fr.refl _ w3).drew) ?_
  try simp only [Act.put, List.getElem_toArray, List.getElem_cons_zero, List.getElem_cons_succ, List.setIfInBounds_toArray, List.set_cons_zero, List.set_cons_succ]
  refine kr_find 6 rfl (by kernel_rfl) (by kernel_rfl) (by kernel_rfl) (fun _ _ _ _ h => h) (by rfl) trivial ?_
  apply Exists.intro; apply And.intro
  · intro w' hS K hK
    clear hS
    go_light
    go_simp
    exact hK.out
  try simp only [Act.put, List.getElem_toArray, List.getElem_cons_zero, List.getElem_cons_succ, List.setIfInBounds_toArray, List.set_cons_zero, List.set_cons_succ]
  refine kr_find 7 rfl (by kernel_rfl) (by kernel_rfl) (by kernel_rfl) (fun _ _ _ _ h => h) (by rfl) trivial ?_
  apply Exists.intro; apply And.intro
  · intro w' hS K hK
    clear hS
    go_light
    go_simp
    exact hK.out
  try simp only [Act.put, List.getElem_toArray, List.getElem_cons_zero, List.getElem_cons_succ, List.setIfInBounds_toArray, List.set_cons_zero, List.set_cons_succ]
  refine kr_find 8 rfl (by kernel_rfl) (by kernel_rfl) (by kernel_rfl) (fun _ _ _ _ h => h) (by rfl) trivial ?_
  apply Exists.intro; apply And.intro
  · intro w' hS K hK
    clear hS
    go_light
    go_simp
    exact hK.out
  try simp only [Act.put, List.getElem_toArray, List.getElem_cons_zero, List.getElem_cons_succ, List.setIfInBounds_toArray, List.set_cons_zero, List.set_cons_succ]
  refine kr_one 9 (by kernel_rfl) rfl (by rfl) (fun K hK => ?_)
  go_simp
  refine hK.out _ _ ⟨.inr (HMC.out _ ((Fr.refl _ w3).drew.alloc (.cells #[.int .u8 0, .int .u8 0, .int .u8 0, .int .u8 0, .int .i64 0, .int .u8 0, .int .u8 0, .int .u8 0, .int .u8 0, .bool false] 69))), .inr (HKB.out _ ((Fr.refl _ w3).drew.alloc (.cells #[.int .u8 0, .int .u8 0, .int .u8 0, .int .u8 0, .int .i64 0, .int .u8 0, .int .u8 0, .int .u8 0, .int .u8 0, .bool false] 69))), .inr (HLK.out _ ((Fr.refl _ w3).drew.alloc (.cells #[.int .u8 0, .int .u8 0, .int .u8 0, .int .u8 0, .int .i64 0, .int .u8 0, .int .u8 0, .int .u8 0, .int .u8 0, .bool false] 69))), trivial⟩ ?_
  clear hK K
  try simp only [Act.put, List.getElem_toArray, List.getElem_cons_zero, List.getElem_cons_succ, List.setIfInBounds_toArray, List.set_cons_zero, List.set_cons_succ]
  refine kr_one 10 (by kernel_rfl) rfl (by rfl) (fun K hK => ?_)
  refine wp_store_mid 69 _ _ rfl w3.drew.heap.size 0 q0.cells.toArray rfl rfl (there_at _ _ [.int .u8 0, .int .u8 0, .int .u8 0, .int .u8 0, .int .i64 0, .int .u8 0, .int .u8 0, .int .u8 0, .int .u8 0, .bool false] 69 (heap_alloc_new w3.drew _)) (by kernel_rfl) (by simp [W10.cells, Value.oneCell']) ?_
  refine hK.out _ _ ⟨.inl (by kernel_rfl), .inl (by kernel_rfl), .inl (by kernel_rfl), trivial⟩ ?_
  clear hK K
  try simp only [Act.put, List.getElem_toArray, List.getElem_cons_zero, List.getElem_cons_succ, List.setIfInBounds_toArray, List.set_cons_zero, List.set_cons_succ]
  refine kr_find 11 rfl (by kernel_rfl) (by kernel_rfl) (by kernel_rfl) (fun _ _ _ _ h => h) (by rfl) trivial ?_
  apply Exists.intro; apply And.intro
  · intro w' hS K hK
    clear hS
    go_light
    go_simp
    exact hK.out
  try simp only [Act.put, List.getElem_toArray, List.getElem_cons_zero, List.getElem_cons_succ, List.setIfInBounds_toArray, List.set_cons_zero, List.set_cons_succ]
  refine kr_done (by kernel_rfl) ?_ _
  have F5 := Lib.hid (show Fr (fun _ => False) w3 ((w3.drew.alloc (.cells #[.int .u8 0, .int .u8 0, .int .u8 0, .int .u8 0, .int .i64 0, .int .u8 0, .int .u8 0, .int .u8 0, .int .u8 0, .bool false] 69)).setCells w3.drew.heap.size 0 q0.cells) from Fr.setCells (S := fun _ => False) (a := w3) w3.drew.heap.size (fun h => absurd h (Nat.lt_irrefl w3.heap.size)) q0.cells 0 _ ((Fr.refl (fun _ => False) w3).drew.alloc _))
  change (Exit.then _ _) _ _ ((w3.drew.alloc (.cells #[.int .u8 0, .int .u8 0, .int .u8 0, .int .u8 0, .int .i64 0, .int .u8 0, .int .u8 0, .int .u8 0, .int .u8 0, .bool false] 69)).setCells w3.drew.heap.size 0 q0.cells)
  generalize (w3.drew.alloc (.cells #[.int .u8 0, .int .u8 0, .int .u8 0, .int .u8 0, .int .i64 0, .int .u8 0, .int .u8 0, .int .u8 0, .int .u8 0, .bool false] 69)).setCells w3.drew.heap.size 0 q0.cells = w5 at F5 ⊢
  have T5 := Lib.hid (T3.out.fr F5.out)
  have HKB5 := Lib.hid (fun (w' : World) (f : Fr (fun _ => False) w5 w') => HKB.out w' (F5.out.then' f))
  have HBX5 := Lib.hid (fun (w' : World) (f : Fr (fun _ => False) w5 w') => HBX.out w' ((F2.out.then' (F3.out.then' F5.out)).then' f))
  have FW5 := Lib.hid (F1.out.then' ((F2.out.then' F3.out).then' F5.out))
  clear HKB0
  cases is
  · -- a new one
    have hnone : lkW L x.key = none := by
      have := HIS.out
      cases h : lkW L x.key with
      | none => rfl
      | some q => rw [h] at this; cases this
    have hfi := lkW_none hnone
    have hfk : L.findIdx? (keyW x.n x.bits) = none := by rw [key_find]; exact hfi
    clear hnone
    have cg := cells_at w5 g [.map (some m), .slice A n cap, .func (.func 54) #[] #[]] 111 T5.out.blk 1 _ rfl
    by_cases h8 : n = 8
    · have HE := Lib.hid (show r0 = 6 ∧ R' = L from ⟨by rw [← HR0.out.1]; unfold addE; rw [HMB.out, hfk, Hn.out, h8]; rfl, by rw [← HR0.out.2]; unfold addL; rw [HMB.out, hfk, Hn.out, h8]; rfl⟩)
      have hb8 : ((n : Int) == 8) = true := by simp; omega
      clear h8 hfi hfk
      as_aux_lemma =>
      go_wp2_with fail
      go_ret
      rw [HE.out.1, HE.out.2]
      exact ⟨rfl, _, T5.out, FW5.out.upto⟩
    have HE := Lib.hid (show r0 = 0 ∧ R' = L ++ [x] from ⟨by rw [← HR0.out.1]; unfold addE; rw [HMB.out, hfk, Hn.out, if_pos rfl]; simp [h8], by rw [← HR0.out.2]; unfold addL; rw [HMB.out, hfk, Hn.out, if_pos rfl]; simp [h8]⟩)
    have hb8 : ((n : Int) == 8) = false := by simp; omega
    have hn7 : n < 8 := by omega
    have HFI := Lib.hid hfi
    clear h8 hfi hfk
    go_upto_region 8 with (fail)
    clear cg
    have HCL := Lib.hid (fun (w' : World) (f : Fr (fun _ => False) w5 w') => cells_at w' g [.map (some m), .slice A n cap, .func (.func 54) #[] #[]] 111 (T5.out.fr f).blk 1 _ rfl)
    have hs5 := T5.out.sl
    rw [Hn.out] at hs5
    have HS5 := Lib.hid hs5
    clear hs5
    have HSZ := Lib.hid (show N ≤ w5.heap.size by have := HN.out; have := FW5.out.size; omega)
    refine kr_start [(4, fun W => W.cell? ⟨g, 1, none⟩ = some (.slice A n cap)), (5, fun W => W.rangeAt kb 0 x.key.cells)] (by kernel_rfl) (by kernel_rfl) ?_
    refine kr_find 0 rfl (by kernel_rfl) (by kernel_rfl) (by kernel_rfl) (fun _ _ _ _ h => h) (by rfl) trivial ?_
    apply Exists.intro; apply And.intro
    · intro w' hS K hK
      clear hS
      go_light
      go_simp
      exact hK.out
    try simp only [Act.put, List.getElem_toArray, List.getElem_cons_zero, List.getElem_cons_succ, List.setIfInBounds_toArray, List.set_cons_zero, List.set_cons_succ]
    refine kr_find 1 rfl (by kernel_rfl) (by kernel_rfl) (by kernel_rfl) (fun _ _ _ _ h => h) (by rfl) trivial ?_
    apply Exists.intro; apply And.intro
    · intro w' hS K hK
      clear hS
      go_light
      go_simp
      exact hK.out
    try simp only [Act.put, List.getElem_toArray, List.getElem_cons_zero, List.getElem_cons_succ, List.setIfInBounds_toArray, List.set_cons_zero, List.set_cons_succ]
    refine kr_find 2 rfl (by kernel_rfl) (by kernel_rfl) (by kernel_rfl) (fun _ _ _ _ h => h) (by rfl) trivial ?_
    apply Exists.intro; apply And.intro
    · intro w' hS K hK
      clear hS
      go_light
      go_simp
      exact hK.out
    try simp only [Act.put, List.getElem_toArray, List.getElem_cons_zero, List.getElem_cons_succ, List.setIfInBounds_toArray, List.set_cons_zero, List.set_cons_succ]
    refine kr_find 3 rfl (by kernel_rfl) (by kernel_rfl) (by kernel_rfl) (fun _ _ _ _ h => h) (by rfl) trivial ?_
    apply Exists.intro; apply And.intro
    · intro w' hS K hK
      clear hS
      go_light
      go_simp
      exact hK.out
    try simp only [Act.put, List.getElem_toArray, List.getElem_cons_zero, List.getElem_cons_succ, List.setIfInBounds_toArray, List.set_cons_zero, List.set_cons_succ]
    refine kr_find 4 rfl (by kernel_rfl) (by kernel_rfl) (by kernel_rfl) (fun _ _ _ _ h => h) (by rfl) (show _ from HCL.out _ (Fr.refl _ w5).drew) ?_
    apply Exists.intro; apply And.intro
    · intro w' hS K hK
      have hS : w'.cell? ⟨g, 1, none⟩ = some (.slice A n cap) := hS
      go_light
      go_simp
      exact hK.out
    try simp only [Act.put, List.getElem_toArray, List.getElem_cons_zero, List.getElem_cons_succ, List.setIfInBounds_toArray, List.set_cons_zero, List.set_cons_succ]
    refine kr_take 5 rfl (by kernel_rfl) (by kernel_rfl) (by kernel_rfl) (fun _ _ _ h => h) (yieldsIf_load_mid (by rfl) 114 _ rfl (kb) (0) rfl (x.key.cells) _ (fun _ h => h) Try.underlying114 rfl (by kernel_rfl)) (show _ from HKB5.out _ (Fr.refl _ w5).drew) ?_
    try simp only [Act.put, List.getElem_toArray, List.getElem_cons_zero, List.getElem_cons_succ, List.setIfInBounds_toArray, List.set_cons_zero, List.set_cons_succ]
    refine kr_one 6 (by kernel_rfl) rfl (by rfl) (fun K hK => ?_)
    refine wp_buildSlice1 st109 rfl (by decide) x.key.cells.toArray (by rfl) rfl ?_
    refine hK.out _ _ ⟨.inr (HCL.out _ ((Fr.refl _ w5).drew.alloc _)), .inl (by kernel_rfl), trivial⟩ ?_
    clear hK K
    try simp only [Act.put, List.getElem_toArray, List.getElem_cons_zero, List.getElem_cons_succ, List.setIfInBounds_toArray, List.set_cons_zero, List.set_cons_succ]
    refine kr_one 7 (by kernel_rfl) rfl (by rfl) (fun K hK => ?_)
    refine wp_append_sl _ _ rfl st109 (.slice A n cap) n _ rfl (HS5.out.fr0 ((Fr.refl _ w5).drew.alloc (.cells x.key.cells.toArray 114))) _ 1 x.key.cells rfl (src109 (range_at _ _ x.key.cells 114 (heap_alloc_new w5.drew _))) (by simp only [maxLen]; omega) (by omega) (by have h1 := HSZ.out; have h4 : (w5.drew.alloc (.cells x.key.cells.toArray 114)).heap.size = w5.heap.size + 1 := (by simp); omega) ?_
    intro v7 w7 sl7 gr7 ob7 nil7
    obtain ⟨A7, cp7, rfl, hn7, hm7⟩ := sl7.form
    clear hn7 hm7
    have S7 := Lib.hid sl7
    have F7 := Lib.hid (fr_of_grown gr7)
    have G7 := Lib.hid ((F7.out.block g (lt_of_block (T5.out.fr ((Fr.refl _ w5).drew.alloc (.cells x.key.cells.toArray 114))).blk) T5.out.lg).trans (T5.out.fr ((Fr.refl _ w5).drew.alloc (.cells x.key.cells.toArray 114))).blk)
    clear sl7 gr7 ob7 nil7
    refine hK.out _ _ ⟨.inl (by kernel_rfl), .inl (by kernel_rfl), trivial⟩ ?_
    clear hK K
    try simp only [Act.put, List.getElem_toArray, List.getElem_cons_zero, List.getElem_cons_succ, List.setIfInBounds_toArray, List.set_cons_zero, List.set_cons_succ]
    refine kr_find 8 rfl (by kernel_rfl) (by kernel_rfl) (by kernel_rfl) (fun _ _ _ _ h => h) (by rfl) trivial ?_
    apply Exists.intro; apply And.intro
    · intro w' hS K hK
      clear hS
      go_light
      go_simp
      exact hK.out
    try simp only [Act.put, List.getElem_toArray, List.getElem_cons_zero, List.getElem_cons_succ, List.setIfInBounds_toArray, List.set_cons_zero, List.set_cons_succ]
    refine kr_find 9 rfl (by kernel_rfl) (by kernel_rfl) (by kernel_rfl) (fun _ _ _ _ h => h) (by rfl) trivial ?_
    apply Exists.intro; apply And.intro
    · intro w' hS K hK
      clear hS
      go_light
      go_simp
      exact hK.out
    try simp only [Act.put, List.getElem_toArray, List.getElem_cons_zero, List.getElem_cons_succ, List.setIfInBounds_toArray, List.set_cons_zero, List.set_cons_succ]
    refine kr_one 10 (by kernel_rfl) rfl (by rfl) (fun K hK => ?_)
    have hc1 := cells_at w7 g [.map (some m), .slice A n cap, .func (.func 54) #[] #[]] 111 G7.out 1 _ rfl
    have hz1 := frozen_of_row w7 g 1 _ 111 G7.out
    go_simp
    clear hc1 hz1
    refine hK.out _ _ ⟨.inl (by kernel_rfl), .inl (by kernel_rfl), trivial⟩ ?_
    clear hK K
    try simp only [Act.put, List.getElem_toArray, List.getElem_cons_zero, List.getElem_cons_succ, List.setIfInBounds_toArray, List.set_cons_zero, List.set_cons_succ]
    refine kr_done (by kernel_rfl) ?_ _
    have hgn : (Value.slice A7 (n + 1) cp7).ownBlock ≠ some g := S7.out.ne (t := 111) G7.out (by decide)
    have hgm : m ≠ g := fun e => by
      obtain ⟨⟨es, ⟨es1, ck, h2, _⟩, _⟩, _⟩ := T5.out.map
      have := T5.out.blk
      rw [← e, h2] at this
      cases this
    have HGM := Lib.hid hgm
    have G8 := Lib.hid (show (w7.setCell ⟨g, 1, none⟩ (.slice A7 (n + 1) cp7)).heap[g]? = some (.cells #[.map (some m), .slice A7 (n + 1) cp7, .func (.func 54) #[] #[]] 111) from by rw [heap_setCell_same w7 g 1 _ 111 _ G7.out]; rfl)
    have S8 := Lib.hid (S7.out.heap (w' := w7.setCell ⟨g, 1, none⟩ (.slice A7 (n + 1) cp7)) (fun k hk => Below.heap_setCell _ _ _ _ (fun e => hgn (by rw [hk]; first | rw [e] | rw [← e]))))
    have F8 := Lib.hid (show Fr (fun i => i = g ∨ (Value.slice A n cap).ownBlock = some i) w5 (w7.setCell ⟨g, 1, none⟩ (.slice A7 (n + 1) cp7)) from
      (((((Fr.refl (fun _ => False) w5).drew.alloc _).upto (S := fun i => i = g ∨ (Value.slice A n cap).ownBlock = some i)).trans F7.out (fun _ _ e => .inr e)).setCell _ _ (fun _ => .inl rfl)))
    clear hgn hgm
    generalize w7.setCell ⟨g, 1, none⟩ (.slice A7 (n + 1) cp7) = w8 at G8 S8 F8 ⊢
    have hm8 : w8.heap[m]? = w5.heap[m]? := F8.out.block m T5.out.map.lt (fun e => by rcases e with e | e; exact HGM.out e; exact T5.out.lm e)
    have HM9 := Lib.hid (T5.out.map.heap hm8)
    have HMC9 := Lib.hid (fun (w' : World) (f : Fr (fun _ => False) w8 w') => cells_at w' g [.map (some m), .slice A7 (n + 1) cp7, .func (.func 54) #[] #[]] 111 ((f.block g (lt_of_block G8.out) (fun e => e)).trans G8.out) 0 _ rfl)
    have hg0 := lt_of_block HT.out.blk
    have hk8 : w8.heap[kb]? = w5.heap[kb]? := F8.out.block kb (block_lt_of_cell (HKB5.out w5 (Fr.refl _ _) 0 _ rfl)) (fun e => by
      have h1 := HKBN.out
      rcases e with e | e
      · omega
      · have := (HT.out.sl.lt kb e).2; omega)
    have hb8' : w8.heap[b0]? = w5.heap[b0]? := F8.out.block b0 (block_lt_of_cell (HBX5.out w5 (Fr.refl _ _) 0 _ rfl)) (fun e => by
      have h1 := HB0.out
      rcases e with e | e
      · omega
      · have := (HT.out.sl.lt b0 e).2; omega)
    have HKB8 := Lib.hid (range_block hk8 (HKB5.out w5 (Fr.refl _ _)))
    have HBX8 := Lib.hid (range_block hb8' (HBX5.out w5 (Fr.refl _ _)))
    have HKB9 := Lib.hid (fun (w' : World) (f : Fr (fun _ => False) w8 w') => show w'.rangeAt kb 0 x.key.cells from range_block (f.block kb (block_lt_of_cell (HKB8.out 0 _ rfl)) (fun e => e)) HKB8.out)
    have HBX9 := Lib.hid (fun (w' : World) (f : Fr (fun _ => False) w8 w') => show w'.rangeAt b0 0 x.cells from range_block (f.block b0 (block_lt_of_cell (HBX8.out 0 _ rfl)) (fun e => e)) HBX8.out)
    clear hm8 hg0 hk8 hb8'
    go_upto_region 9 with (fail)
    refine kr_start [(3, fun W => W.cell? ⟨g, 0, none⟩ = some (.map (some m))), (4, fun W => W.rangeAt kb 0 x.key.cells), (5, fun W => W.rangeAt b0 0 x.cells)] (by kernel_rfl) (by kernel_rfl) ?_
    refine kr_find 0 rfl (by kernel_rfl) (by kernel_rfl) (by kernel_rfl) (fun _ _ _ _ h => h) (by rfl) trivial ?_
    apply Exists.intro; apply And.intro
    · intro w' hS K hK
      clear hS
      go_light
      go_simp
      exact hK.out
    try simp only [Act.put, List.getElem_toArray, List.getElem_cons_zero, List.getElem_cons_succ, List.setIfInBounds_toArray, List.set_cons_zero, List.set_cons_succ]
    refine kr_find 1 rfl (by kernel_rfl) (by kernel_rfl) (by kernel_rfl) (fun _ _ _ _ h => h) (by rfl) trivial ?_
    apply Exists.intro; apply And.intro
    · intro w' hS K hK
      clear hS
      go_light
      go_simp
      exact hK.out
    try simp only [Act.put, List.getElem_toArray, List.getElem_cons_zero, List.getElem_cons_succ, List.setIfInBounds_toArray, List.set_cons_zero, List.set_cons_succ]
    refine kr_find 2 rfl (by kernel_rfl) (by kernel_rfl) (by kernel_rfl) (fun _ _ _ _ h => h) (by rfl) trivial ?_
    apply Exists.intro; apply And.intro
    · intro w' hS K hK
      clear hS
      go_light
      go_simp
      exact hK.out
    try simp only [Act.put, List.getElem_toArray, List.getElem_cons_zero, List.getElem_cons_succ, List.setIfInBounds_toArray, List.set_cons_zero, List.set_cons_succ]
    refine kr_find 3 rfl (by kernel_rfl) (by kernel_rfl) (by kernel_rfl) (fun _ _ _ _ h => h) (by rfl) (show _ from HMC9.out _ (Fr.refl _ w8).drew) ?_
    apply Exists.intro; apply And.intro
    · intro w' hS K hK
      have hS : w'.cell? ⟨g, 0, none⟩ = some (.map (some m)) := hS
      go_light
      go_simp
      exact hK.out
    try simp only [Act.put, List.getElem_toArray, List.getElem_cons_zero, List.getElem_cons_succ, List.setIfInBounds_toArray, List.set_cons_zero, List.set_cons_succ]
    refine kr_take 4 rfl (by kernel_rfl) (by kernel_rfl) (by kernel_rfl) (fun _ _ _ h => h) (yieldsIf_load_mid (by rfl) 114 _ rfl (kb) (0) rfl (x.key.cells) _ (fun _ h => h) Try.underlying114 rfl (by kernel_rfl)) (show _ from HKB9.out _ (Fr.refl _ w8).drew) ?_
    try simp only [Act.put, List.getElem_toArray, List.getElem_cons_zero, List.getElem_cons_succ, List.setIfInBounds_toArray, List.set_cons_zero, List.set_cons_succ]
    refine kr_take 5 rfl (by kernel_rfl) (by kernel_rfl) (by kernel_rfl) (fun _ _ _ h => h) (yieldsIf_load_mid (by rfl) 69 _ rfl (b0) (0) rfl (x.cells) _ (fun _ h => h) Try.underlying69 rfl (by kernel_rfl)) (show _ from HBX9.out _ (Fr.refl _ w8).drew) ?_
    try simp only [Act.put, List.getElem_toArray, List.getElem_cons_zero, List.getElem_cons_succ, List.setIfInBounds_toArray, List.set_cons_zero, List.set_cons_succ]
    refine kr_one 6 (by kernel_rfl) rfl (by rfl) (fun K hK => ?_)
    refine wp_mapStore (M := M114) _ _ _ _ 105 rfl 69 Try.underlying105 m (tabW L) rfl (HM9.out.heap rfl) (by simp only [tabW, List.length_map, Hn.out, maxLen]; omega) x.key HX.out.key rfl x.val rfl ?_
    intro w9 hm9 ht9
    rw [but_tabW] at hm9
    have HM9x := Lib.hid hm9
    have F9 := Lib.hid (fr_of_grown ht9.grown)
    clear hm9 ht9
    refine hK.out _ _ ⟨.inl (by kernel_rfl), .inl (by kernel_rfl), .inl (by kernel_rfl), trivial⟩ ?_
    clear hK K
    try simp only [Act.put, List.getElem_toArray, List.getElem_cons_zero, List.getElem_cons_succ, List.setIfInBounds_toArray, List.set_cons_zero, List.set_cons_succ]
    refine kr_done (by kernel_rfl) ?_ _
    go_wp2_with fail
    go_ret
    rw [HE.out.1, HE.out.2]
    have hlv : ∀ k, (Value.slice A7 (n + 1) cp7).ownBlock = some k → k ≠ m := fun k hk e => by
      obtain ⟨⟨es, ⟨es1, ck, h2, _⟩, _⟩, _⟩ := HM9.out
      obtain ⟨c, h'⟩ := S8.out.tag hk
      rw [e, h2] at h'
      cases h'
    have f8w : Fr (fun i => i = g ∨ i = m ∨ (Value.slice A n cap).ownBlock = some i) w w8 := ((FW5.out.upto (S := fun i => i = g ∨ i = m ∨ (Value.slice A n cap).ownBlock = some i))).trans F8.out (fun k _ e => by
      rcases e with e | e
      · exact .inl e
      · exact .inr (.inr e))
    have f9 : Fr (fun i => i = g ∨ i = m ∨ (Value.slice A n cap).ownBlock = some i) w w9 := f8w.drew.trans F9.out (fun k _ e => .inr (.inl (by injection e with e; exact e.symm)))
    refine ⟨rfl, .slice A7 (n + 1) cp7, ⟨?_, ?_, ?_, ?_, T5.out.hg, T5.out.hm⟩, f9⟩
    · exact (F9.out.block g (lt_of_block G8.out) (fun e => by injection e with e; exact HGM.out e)).trans G8.out
    · have h1 : kfl (L ++ [x]) = kfl L ++ x.key.cells := by simp [kfl]
      rw [List.length_append, Hn.out, h1]
      exact S8.out.heap (fun k hk => F9.out.block k (S8.out.lt k hk).2 (fun e => hlv k hk (by injection e with e; exact e.symm)))
    · have h := HM9x.out
      rw [filter_new HFI.out] at h
      have e : tabW L ++ [(x.key, x.val)] = tabW (L ++ [x]) := by simp [tabW]
      rw [e] at h
      exact h
    · intro p hp
      rcases List.mem_append.1 hp with hp | hp
      · exact HT.out.ok p hp
      · rw [List.mem_singleton.1 hp]; exact HX.out
  · -- it is there
    obtain ⟨q, hq⟩ : ∃ q, lkW L x.key = some q := by
      have := HIS.out
      cases h : lkW L x.key with
      | none => rw [h] at this; cases this
      | some q => exact ⟨q, rfl⟩
    obtain ⟨i, hfi, hiq, hqk⟩ := lkW_some hq
    have hfk : L.findIdx? (keyW x.n x.bits) = some i := by rw [key_find]; exact hfi
    have HE := Lib.hid (show r0 = 0 ∧ R' = L.set i x from ⟨by rw [← HR0.out.1]; unfold addE; rw [HMB.out, hfk]; rfl, by rw [← HR0.out.2]; unfold addL; rw [HMB.out, hfk]; rfl⟩)
    have HIQ := Lib.hid (And.intro hiq hqk)
    clear hq hfi hiq hqk hfk
    go_upto_region 9 with (fail)
    have HMC9 := Lib.hid (fun (w' : World) (f : Fr (fun _ => False) w5 w') => cells_at w' g [.map (some m), .slice A n cap, .func (.func 54) #[] #[]] 111 (T5.out.fr f).blk 0 _ rfl)
    have HKB9 := HKB5
    have HBX9 := HBX5
    have HM9 := Lib.hid T5.out.map
    refine kr_start [(3, fun W => W.cell? ⟨g, 0, none⟩ = some (.map (some m))), (4, fun W => W.rangeAt kb 0 x.key.cells), (5, fun W => W.rangeAt b0 0 x.cells)] (by kernel_rfl) (by kernel_rfl) ?_
    refine kr_find 0 rfl (by kernel_rfl) (by kernel_rfl) (by kernel_rfl) (fun _ _ _ _ h => h) (by rfl) trivial ?_
    apply Exists.intro; apply And.intro
    · intro w' hS K hK
      clear hS
      go_light
      go_simp
      exact hK.out
    try simp only [Act.put, List.getElem_toArray, List.getElem_cons_zero, List.getElem_cons_succ, List.setIfInBounds_toArray, List.set_cons_zero, List.set_cons_succ]
    refine kr_find 1 rfl (by kernel_rfl) (by kernel_rfl) (by kernel_rfl) (fun _ _ _ _ h => h) (by rfl) trivial ?_
    apply Exists.intro; apply And.intro
    · intro w' hS K hK
      clear hS
      go_light
      go_simp
      exact hK.out
    try simp only [Act.put, List.getElem_toArray, List.getElem_cons_zero, List.getElem_cons_succ, List.setIfInBounds_toArray, List.set_cons_zero, List.set_cons_succ]
    refine kr_find 2 rfl (by kernel_rfl) (by kernel_rfl) (by kernel_rfl) (fun _ _ _ _ h => h) (by rfl) trivial ?_
    apply Exists.intro; apply And.intro
    · intro w' hS K hK
      clear hS
      go_light
      go_simp
      exact hK.out
    try simp only [Act.put, List.getElem_toArray, List.getElem_cons_zero, List.getElem_cons_succ, List.setIfInBounds_toArray, List.set_cons_zero, List.set_cons_succ]
    refine kr_find 3 rfl (by kernel_rfl) (by kernel_rfl) (by kernel_rfl) (fun _ _ _ _ h => h) (by rfl) (show _ from HMC9.out _ (Fr.refl _ w5).drew) ?_
    apply Exists.intro; apply And.intro
    · intro w' hS K hK
      have hS : w'.cell? ⟨g, 0, none⟩ = some (.map (some m)) := hS
      go_light
      go_simp
      exact hK.out
    try simp only [Act.put, List.getElem_toArray, List.getElem_cons_zero, List.getElem_cons_succ, List.setIfInBounds_toArray, List.set_cons_zero, List.set_cons_succ]
    refine kr_take 4 rfl (by kernel_rfl) (by kernel_rfl) (by kernel_rfl) (fun _ _ _ h => h) (yieldsIf_load_mid (by rfl) 114 _ rfl (kb) (0) rfl (x.key.cells) _ (fun _ h => h) Try.underlying114 rfl (by kernel_rfl)) (show _ from HKB9.out _ (Fr.refl _ w5).drew) ?_
    try simp only [Act.put, List.getElem_toArray, List.getElem_cons_zero, List.getElem_cons_succ, List.setIfInBounds_toArray, List.set_cons_zero, List.set_cons_succ]
    refine kr_take 5 rfl (by kernel_rfl) (by kernel_rfl) (by kernel_rfl) (fun _ _ _ h => h) (yieldsIf_load_mid (by rfl) 69 _ rfl (b0) (0) rfl (x.cells) _ (fun _ h => h) Try.underlying69 rfl (by kernel_rfl)) (show _ from HBX9.out _ (Fr.refl _ w5).drew) ?_
    try simp only [Act.put, List.getElem_toArray, List.getElem_cons_zero, List.getElem_cons_succ, List.setIfInBounds_toArray, List.set_cons_zero, List.set_cons_succ]
    refine kr_one 6 (by kernel_rfl) rfl (by rfl) (fun K hK => ?_)
    refine wp_mapStore (M := M114) _ _ _ _ 105 rfl 69 Try.underlying105 m (tabW L) rfl (HM9.out.heap rfl) (by simp only [tabW, List.length_map, Hn.out, maxLen]; omega) x.key HX.out.key rfl x.val rfl ?_
    intro w9 hm9 ht9
    rw [but_tabW] at hm9
    have HM9x := Lib.hid hm9
    have F9 := Lib.hid (fr_of_grown ht9.grown)
    clear hm9 ht9
    refine hK.out _ _ ⟨.inl (by kernel_rfl), .inl (by kernel_rfl), .inl (by kernel_rfl), trivial⟩ ?_
    clear hK K
    try simp only [Act.put, List.getElem_toArray, List.getElem_cons_zero, List.getElem_cons_succ, List.setIfInBounds_toArray, List.set_cons_zero, List.set_cons_succ]
    refine kr_done (by kernel_rfl) ?_ _
    go_wp2_with fail
    go_ret
    rw [HE.out.1, HE.out.2]
    have hgm : g ≠ m := fun e => by
      obtain ⟨⟨es, ⟨es1, ck, h2, _⟩, _⟩, _⟩ := T5.out.map
      have := T5.out.blk
      rw [e, h2] at this
      cases this
    have f9 : Fr (fun i => i = g ∨ i = m ∨ (Value.slice A n cap).ownBlock = some i) w w9 := ((FW5.out.drew).upto (S := fun i => i = g ∨ i = m ∨ (Value.slice A n cap).ownBlock = some i)).trans F9.out (fun k _ e => .inr (.inl (by injection e with e; exact e.symm)))
    refine ⟨rfl, .slice A n cap, ⟨?_, ?_, ?_, ?_, T5.out.hg, T5.out.hm⟩, f9⟩
    · exact (F9.out.block g (lt_of_block T5.out.blk) (fun e => by injection e with e; exact hgm e.symm)).trans T5.out.blk
    · rw [List.length_set, kfl_set HIQ.out.1 HIQ.out.2]
      exact T5.out.sl.heap (fun k hk => F9.out.block k (T5.out.sl.lt k hk).2 (fun e => T5.out.lm (by rw [hk]; injection e with e; rw [e])))
    · have h := HM9x.out
      have e : tabW (L.filter fun y => y.key ≠ x.key) ++ [(x.key, x.val)] = tabW ((L.filter fun y => y.key ≠ x.key) ++ [x]) := by simp [tabW]
      rw [e] at h
      exact h.perm ((filter_set_perm HT.out.nd HIQ.out.1 HIQ.out.2).map _)
    · intro p hp
      rcases List.mem_or_eq_of_mem_set hp with hp | rfl
      · exact HT.out.ok p hp
      · exact HX.out
end Go.Proofs.Ytcfadmjihccimaa
