/- The reference's table of law 10: Add, Drop. No condition but lengths. -/
import Derived.Test.YtcfadmjihccimaaRtD
namespace Go.Proofs.Ytcfadmjihccimaa
set_option linter.unusedVariables false
set_option linter.unusedSimpArgs false
open Go.RowKit
theorem wfl_set : ∀ {R : List W10} {i : Nat} (x : W10), i < R.length → lset (wfl R) (i * 10) x.cells = wfl (R.set i x)
  | [], _, _, h => by simp at h
  | y :: R, 0, x, _ => by
    show lset (y.cells ++ wfl R) 0 x.cells = x.cells ++ wfl R
    exact lset_all _ _ _ rfl
  | y :: R, i + 1, x, h => by
    have e : (i + 1) * 10 = y.cells.length + i * 10 := by rw [W10.cells_len]; omega
    show lset (y.cells ++ wfl R) ((i + 1) * 10) x.cells = y.cells ++ wfl (R.set i x)
    rw [e, lset_pre, wfl_set x (by simpa using h)]
def addE (R : List W10) (x : W10) : Int := if mayW x = true then (match R.findIdx? (keyW x.n x.bits) with | some _ => 0 | none => if R.length = 8 then 6 else 0) else 1
def addL (R : List W10) (x : W10) : List W10 := if mayW x = true then (match R.findIdx? (keyW x.n x.bits) with | some i => R.set i x | none => if R.length = 8 then R else R ++ [x]) else R
def RrPost (N g : Nat) (R' : List W10) (lv : Value) (r : Int) (w : World) (e : Ending) (w' : World) : Prop :=
  e = .returned (.int .i64 r) ∧ ∃ lv', RrAt N w' g R' lv' ∧ Fr (fun i => i = g ∨ lv.ownBlock = some i) w w'
set_option maxHeartbeats 8000000 in
set_option maxRecDepth 100000 in
theorem radd31 (N g : Nat) (R : List W10) (lv : Value) (x : W10) (w : World) (hx : x.ok) (hR : RrAt N w g R lv) (hlen : R.length ≤ 8) (hN : N ≤ w.heap.size) :
    Calls Try.prog 31 #[.pointer (some ⟨g, 0, none⟩), .agg x.cells.toArray] w (RrPost N g (addL R x) lv (addE R x) w) := by
  have FA := Lib.hid (Fr.refl (fun _ => False) w)
  have HX := Lib.hid hx
  have HR := Lib.hid hR
  have HN := Lib.hid hN
  obtain ⟨n, hn⟩ : ∃ n, R.length = n := ⟨_, rfl⟩
  have Hn := Lib.hid hn
  obtain ⟨A, cap, hv, _, _⟩ := hR.sl.form
  rw [hn] at hv hlen
  subst hv
  obtain ⟨r0, hr0⟩ : ∃ r0, addE R x = r0 := ⟨_, rfl⟩
  obtain ⟨R', hR'⟩ : ∃ R', addL R x = R' := ⟨_, rfl⟩
  rw [hr0, hR']
  have HR0 := Lib.hid (And.intro hr0 hR')
  clear hx hR hN hr0 hR' hn
  unfold W10.cells
  go_enter Try.func31, Try.ntmps31
  go_upto_region 1 with (fail)
  have B1 := Lib.hid (box_at w x.cells 69)
  have F1 := Lib.hid (FA.out.alloc (.cells x.cells.toArray 69))
  unfold W10.cells at B1 F1
  generalize w.alloc (.cells #[.int .u8 x.n.a, .int .u8 x.n.b, .int .u8 x.n.c, .int .u8 x.n.d, .int .i64 x.bits, .int .u8 x.g.a, .int .u8 x.g.b, .int .u8 x.g.c, .int .u8 x.g.d, .bool x.via] 69) = w1 at B1 F1 ⊢
  obtain ⟨b0, hb0⟩ : ∃ b0, w.heap.size = b0 := ⟨_, rfl⟩
  have HB0 := Lib.hid hb0
  rw [hb0] at B1 ⊢
  clear hb0
  have HBX := Lib.hid (fun (w' : World) (f : Fr (fun _ => False) w1 w') => range_at w' b0 x.cells 69 (B1.out w' f))
  iterate 20 (first
    | (have := MK1; clear this)
    | (refine wpList_load_mid rfl 69 _ rfl b0 0 rfl x.cells _ (HBX.out w1 (Fr.refl _ _)) Try.underlying69 rfl (by kernel_rfl) ?_; have MK1 := Lib.hid True.intro)
    | go_step)
  obtain ⟨mb, hmb⟩ : ∃ mb, mayW x = mb := ⟨_, rfl⟩
  have HMB := Lib.hid hmb
  clear hmb
  go_upto_region 2 with (go_at_call 56; refine (may56 x _ HX.out).mono ?_; rw [HMB.out]; rintro e w2 ⟨rfl, f2⟩; have F2 := Lib.hid f2; clear f2)
  cases mb
  · have HE := Lib.hid (show r0 = 1 ∧ R' = R from ⟨by rw [← HR0.out.1]; unfold addE; rw [HMB.out]; rfl, by rw [← HR0.out.2]; unfold addL; rw [HMB.out]; rfl⟩)
    as_aux_lemma =>
    go_wp2_with fail
    go_ret
    rw [HE.out.1, HE.out.2]
    exact ⟨rfl, _, HR.out.fr (F1.out.then' F2.out), (F1.out.then' F2.out).upto⟩
  have HRw := Lib.hid (HR.out.fr (F1.out.then' F2.out))
  have RN := Lib.hid (fun (w' : World) (f : Fr (fun _ => False) w1 w') => range_part (HBX.out w' f) 0 4)
  have q4 := HBX.out w2 F2.out 4 _ rfl
  simp only [Nat.zero_add] at q4
  go_upto_region 4 with (fail)
  iterate 20 (first
    | (have := MK2; clear this)
    | (refine wpList_load_mid rfl 45 _ rfl b0 0 rfl x.n.cells _ (RN.out w2 F2.out) Try.underlying45 rfl (by kernel_rfl) ?_; have MK2 := Lib.hid True.intro)
    | go_step)
  go_upto_region 5 with (go_at_call 57; refine (rat57 N g R (.slice A n cap) x.n x.bits w2 HX.out.n HRw.out (by rw [Hn.out]; omega)).mono ?_; rintro e w3 ⟨rfl, f3⟩; have F3 := Lib.hid (F2.out.then' f3); clear f3)
  clear q4
  have H3 := Lib.hid (HR.out.fr (F1.out.then' F3.out))
  cases hfi : R.findIdx? (keyW x.n x.bits) with
  | some i =>
    have hi : i < n := by rw [← Hn.out]; exact (List.findIdx?_eq_some_iff_getElem.1 hfi).1
    have HE := Lib.hid (show r0 = 0 ∧ R' = R.set i x from ⟨by rw [← HR0.out.1]; unfold addE; rw [HMB.out, hfi]; rfl, by rw [← HR0.out.2]; unfold addL; rw [HMB.out, hfi]; rfl⟩)
    have hix : idxW R x.n x.bits = (i : Int) := by unfold idxW; rw [hfi]
    rw [hix]
    clear hix hfi
    have hiI : (i : Int) < (n : Int) := by omega
    go_upto_region 6 with (fail)
    have hs := H3.out.sl
    rw [Hn.out] at hs
    obtain ⟨b, off, cap', hv', _, _, _, _, _, _⟩ := hs.form1 (by omega)
    injection hv' with hv1 _ hv2
    subst hv1; subst hv2
    have HS := Lib.hid hs
    clear hs
    refine kr_start [(3, fun W => W.cell? ⟨g, 0, none⟩ = some (.slice (some ⟨b, off, none⟩) n cap)), (5, fun W => W.rangeAt b0 0 x.cells)] (by kernel_rfl) (by kernel_rfl) ?_
    refine kr_find 0 rfl (by kernel_rfl) (by kernel_rfl) (by kernel_rfl) (fun _ _ _ _ h => h) (by rfl) trivial ?_
    apply Exists.intro; apply And.intro
    · intro w' hS K hK
      clear hS
      go_light
      go_simp
      exact hK.out
    try simp only [Act.put, List.getElem_toArray, List.getElem_cons_zero, List.getElem_cons_succ, List.setIfInBounds_toArray, List.set_cons_zero, List.set_cons_succ]
    refine kr_find 1 rfl (by kernel_rfl) (by kernel_rfl) (by kernel_rfl) (fun _ _ _ _ h => h) (by rfl) trivial ?_
    apply Exists.intro; apply And.intro
    · intro w' hS K hK
      clear hS
      go_light
      go_simp
      exact hK.out
    try simp only [Act.put, List.getElem_toArray, List.getElem_cons_zero, List.getElem_cons_succ, List.setIfInBounds_toArray, List.set_cons_zero, List.set_cons_succ]
    refine kr_find 2 rfl (by kernel_rfl) (by kernel_rfl) (by kernel_rfl) (fun _ _ _ _ h => h) (by rfl) trivial ?_
    apply Exists.intro; apply And.intro
    · intro w' hS K hK
      clear hS
      go_light
      go_simp
      exact hK.out
    try simp only [Act.put, List.getElem_toArray, List.getElem_cons_zero, List.getElem_cons_succ, List.setIfInBounds_toArray, List.set_cons_zero, List.set_cons_succ]
    refine kr_find 3 rfl (by kernel_rfl) (by kernel_rfl) (by kernel_rfl) (fun _ _ _ _ h => h) (by rfl) (show _ from (H3.out.fr (Fr.refl _ w3).drew).line) ?_
    apply Exists.intro; apply And.intro
    · intro w' hS K hK
      have hS : w'.cell? ⟨g, 0, none⟩ = some (.slice (some ⟨b, off, none⟩) n cap) := hS
      go_light
      go_simp
      exact hK.out
    try simp only [Act.put, List.getElem_toArray, List.getElem_cons_zero, List.getElem_cons_succ, List.setIfInBounds_toArray, List.set_cons_zero, List.set_cons_succ]
    refine kr_find 4 rfl (by kernel_rfl) (by kernel_rfl) (by kernel_rfl) (fun _ _ _ _ h => h) (by rfl) trivial ?_
    apply Exists.intro; apply And.intro
    · intro w' hS K hK
      clear hS
      go_light
      go_simp
      exact hK.out
    try simp only [Act.put, List.getElem_toArray, List.getElem_cons_zero, List.getElem_cons_succ, List.setIfInBounds_toArray, List.set_cons_zero, List.set_cons_succ]
    refine kr_take 5 rfl (by kernel_rfl) (by kernel_rfl) (by kernel_rfl) (fun _ _ _ h => h) (yieldsIf_load_mid (by rfl) 69 _ rfl (b0) (0) rfl (x.cells) _ (fun _ h => h) Try.underlying69 rfl (by kernel_rfl)) (show _ from HBX.out _ F3.out.drew) ?_
    try simp only [Act.put, List.getElem_toArray, List.getElem_cons_zero, List.getElem_cons_succ, List.setIfInBounds_toArray, List.set_cons_zero, List.set_cons_succ]
    refine kr_find 6 rfl (by kernel_rfl) (by kernel_rfl) (by kernel_rfl) (fun _ _ _ _ h => h) (by rfl) trivial ?_
    apply Exists.intro; apply And.intro
    · intro w' hS K hK
      clear hS
      go_light
      go_simp
      exact hK.out
    try simp only [Act.put, List.getElem_toArray, List.getElem_cons_zero, List.getElem_cons_succ, List.setIfInBounds_toArray, List.set_cons_zero, List.set_cons_succ]
    refine kr_one 7 (by kernel_rfl) rfl (by rfl) (fun K hK => ?_)
    refine wp_store_mid 69 _ _ rfl b (off + i * 10) x.cells.toArray rfl rfl ((HS.out.fr0 (Fr.refl _ w3).drew).there (i * 10) 10 (by omega)) (by kernel_rfl) (by simp [W10.cells, Value.oneCell']) ?_
    refine hK.out _ _ ⟨.inl (by kernel_rfl), .inl (by kernel_rfl), trivial⟩ ?_
    clear hK K
    try simp only [Act.put, List.getElem_toArray, List.getElem_cons_zero, List.getElem_cons_succ, List.setIfInBounds_toArray, List.set_cons_zero, List.set_cons_succ]
    refine kr_done (by kernel_rfl) ?_ _
    go_wp2_with fail
    go_ret
    rw [HE.out.1, HE.out.2]
    have hne : b ≠ g := fun e => H3.out.lg (by rw [← e]; rfl)
    refine ⟨rfl, .slice (some ⟨b, off, none⟩) n cap, ⟨?_, ?_, H3.out.lg, ?_⟩, ?_⟩
    · rw [heap_setCells_other _ _ _ _ _ (fun e => hne e.symm)]; exact H3.out.blk
    · rw [List.length_set, Hn.out, ← wfl_set x (by rw [Hn.out]; exact hi)]
      exact (HS.out.fr0 (Fr.refl _ w3).drew).setCells x.cells (wfl R) w3.drew (i * 10) (by rw [W10.cells_len]; omega)
    · intro p hp
      rcases List.mem_or_eq_of_mem_set hp with hp | rfl
      · exact HR.out.ok p hp
      · exact HX.out
    · exact Fr.setCells b (fun _ => .inr rfl) x.cells _ _ (((F1.out.then' F3.out).drew).upto)
  | none =>
    have hix : idxW R x.n x.bits = -1 := by unfold idxW; rw [hfi]
    rw [hix]
    clear hix
    by_cases h8 : n = 8
    · have HE := Lib.hid (show r0 = 6 ∧ R' = R from ⟨by rw [← HR0.out.1]; unfold addE; rw [HMB.out, hfi, Hn.out, h8]; rfl, by rw [← HR0.out.2]; unfold addL; rw [HMB.out, hfi, Hn.out, h8]; rfl⟩)
      clear hfi
      have cg := H3.out.line
      have hb8 : ((n : Int) == 8) = true := by simp; omega
      clear h8
      as_aux_lemma =>
      go_wp2_with fail
      go_ret
      rw [HE.out.1, HE.out.2]
      exact ⟨rfl, _, H3.out, (F1.out.then' F3.out).upto⟩
    have HE := Lib.hid (show r0 = 0 ∧ R' = R ++ [x] from ⟨by rw [← HR0.out.1]; unfold addE; rw [HMB.out, hfi, Hn.out, if_pos rfl]; simp [h8], by rw [← HR0.out.2]; unfold addL; rw [HMB.out, hfi, Hn.out, if_pos rfl]; simp [h8]⟩)
    clear hfi
    have cg := H3.out.line
    have hb8 : ((n : Int) == 8) = false := by simp; omega
    have hn7 : n < 8 := by omega
    clear h8
    go_upto_region 10 with (fail)
    clear cg
    refine kr_start [(4, fun W => W.cell? ⟨g, 0, none⟩ = some (.slice A n cap)), (5, fun W => W.rangeAt b0 0 x.cells)] (by kernel_rfl) (by kernel_rfl) ?_
    refine kr_find 0 rfl (by kernel_rfl) (by kernel_rfl) (by kernel_rfl) (fun _ _ _ _ h => h) (by rfl) trivial ?_
    apply Exists.intro; apply And.intro
    · intro w' hS K hK
      clear hS
      go_light
      go_simp
      exact hK.out
    try simp only [Act.put, List.getElem_toArray, List.getElem_cons_zero, List.getElem_cons_succ, List.setIfInBounds_toArray, List.set_cons_zero, List.set_cons_succ]
    refine kr_find 1 rfl (by kernel_rfl) (by kernel_rfl) (by kernel_rfl) (fun _ _ _ _ h => h) (by rfl) trivial ?_
    apply Exists.intro; apply And.intro
    · intro w' hS K hK
      clear hS
      go_light
      go_simp
      exact hK.out
    try simp only [Act.put, List.getElem_toArray, List.getElem_cons_zero, List.getElem_cons_succ, List.setIfInBounds_toArray, List.set_cons_zero, List.set_cons_succ]
    refine kr_find 2 rfl (by kernel_rfl) (by kernel_rfl) (by kernel_rfl) (fun _ _ _ _ h => h) (by rfl) trivial ?_
    apply Exists.intro; apply And.intro
    · intro w' hS K hK
      clear hS
      go_light
      go_simp
      exact hK.out
    try simp only [Act.put, List.getElem_toArray, List.getElem_cons_zero, List.getElem_cons_succ, List.setIfInBounds_toArray, List.set_cons_zero, List.set_cons_succ]
    refine kr_find 3 rfl (by kernel_rfl) (by kernel_rfl) (by kernel_rfl) (fun _ _ _ _ h => h) (by rfl) trivial ?_
    apply Exists.intro; apply And.intro
    · intro w' hS K hK
      clear hS
      go_light
      go_simp
      exact hK.out
    try simp only [Act.put, List.getElem_toArray, List.getElem_cons_zero, List.getElem_cons_succ, List.setIfInBounds_toArray, List.set_cons_zero, List.set_cons_succ]
    refine kr_find 4 rfl (by kernel_rfl) (by kernel_rfl) (by kernel_rfl) (fun _ _ _ _ h => h) (by rfl) (show _ from (H3.out.fr (Fr.refl _ w3).drew).line) ?_
    apply Exists.intro; apply And.intro
    · intro w' hS K hK
      have hS : w'.cell? ⟨g, 0, none⟩ = some (.slice A n cap) := hS
      go_light
      go_simp
      exact hK.out
    try simp only [Act.put, List.getElem_toArray, List.getElem_cons_zero, List.getElem_cons_succ, List.setIfInBounds_toArray, List.set_cons_zero, List.set_cons_succ]
    refine kr_take 5 rfl (by kernel_rfl) (by kernel_rfl) (by kernel_rfl) (fun _ _ _ h => h) (yieldsIf_load_mid (by rfl) 69 _ rfl (b0) (0) rfl (x.cells) _ (fun _ h => h) Try.underlying69 rfl (by kernel_rfl)) (show _ from HBX.out _ F3.out.drew) ?_
    try simp only [Act.put, List.getElem_toArray, List.getElem_cons_zero, List.getElem_cons_succ, List.setIfInBounds_toArray, List.set_cons_zero, List.set_cons_succ]
    refine kr_one 6 (by kernel_rfl) rfl (by rfl) (fun K hK => ?_)
    refine wp_buildSlice1 st65 rfl (by decide) x.cells.toArray (by rfl) rfl ?_
    have LA := Lib.hid (H3.out.fr ((Fr.refl _ w3).drew.alloc (.cells x.cells.toArray 69)))
    refine hK.out _ _ ⟨.inr LA.out.line, .inl (by kernel_rfl), trivial⟩ ?_
    clear hK K
    try simp only [Act.put, List.getElem_toArray, List.getElem_cons_zero, List.getElem_cons_succ, List.setIfInBounds_toArray, List.set_cons_zero, List.set_cons_succ]
    refine kr_one 7 (by kernel_rfl) rfl (by rfl) (fun K hK => ?_)
    refine wp_append_sl _ _ rfl st65 (.slice A n cap) _ _ rfl LA.out.sl _ 1 x.cells rfl (src65 (range_at _ _ x.cells 69 (heap_alloc_new w3.drew _))) (by rw [Hn.out]; simp only [maxLen]; omega) (by rw [Hn.out]; omega) (by have h1 := HN.out; have h2 := F1.out.size; have h3 := F3.out.size; have h4 : (w3.drew.alloc (.cells x.cells.toArray 69)).heap.size = w3.heap.size + 1 := (by simp); omega) ?_
    intro v7 w7 sl7 gr7 ob7 nil7
    obtain ⟨A7, cp7, rfl, hn7, hm7⟩ := sl7.form
    clear hn7 hm7
    have fr7 := fr_of_grown gr7
    have LB := Lib.hid ((gr7.block g (lt_of_block LA.out.blk) (fun e => LA.out.lg e.symm)).trans LA.out.blk)
    have S7 := Lib.hid (And.intro sl7 (And.intro fr7 ob7))
    clear sl7 gr7 fr7 ob7 nil7
    refine hK.out _ _ ⟨.inl (by kernel_rfl), .inl (by kernel_rfl), trivial⟩ ?_
    clear hK K
    try simp only [Act.put, List.getElem_toArray, List.getElem_cons_zero, List.getElem_cons_succ, List.setIfInBounds_toArray, List.set_cons_zero, List.set_cons_succ]
    refine kr_find 8 rfl (by kernel_rfl) (by kernel_rfl) (by kernel_rfl) (fun _ _ _ _ h => h) (by rfl) trivial ?_
    apply Exists.intro; apply And.intro
    · intro w' hS K hK
      clear hS
      go_light
      go_simp
      exact hK.out
    try simp only [Act.put, List.getElem_toArray, List.getElem_cons_zero, List.getElem_cons_succ, List.setIfInBounds_toArray, List.set_cons_zero, List.set_cons_succ]
    refine kr_find 9 rfl (by kernel_rfl) (by kernel_rfl) (by kernel_rfl) (fun _ _ _ _ h => h) (by rfl) trivial ?_
    apply Exists.intro; apply And.intro
    · intro w' hS K hK
      clear hS
      go_light
      go_simp
      exact hK.out
    try simp only [Act.put, List.getElem_toArray, List.getElem_cons_zero, List.getElem_cons_succ, List.setIfInBounds_toArray, List.set_cons_zero, List.set_cons_succ]
    refine kr_one 10 (by kernel_rfl) rfl (by rfl) (fun K hK => ?_)
    have hc1 := cells_at w7 g [.slice A n cap] 67 LB.out 0 _ rfl
    have hz1 := frozen_of_row w7 g 0 _ 67 LB.out
    go_simp
    clear hc1 hz1
    refine hK.out _ _ ⟨.inl (by kernel_rfl), .inl (by kernel_rfl), trivial⟩ ?_
    clear hK K
    try simp only [Act.put, List.getElem_toArray, List.getElem_cons_zero, List.getElem_cons_succ, List.setIfInBounds_toArray, List.set_cons_zero, List.set_cons_succ]
    refine kr_done (by kernel_rfl) ?_ _
    go_wp2_with fail
    go_ret
    rw [HE.out.1, HE.out.2]
    obtain ⟨sl7, fr7, ob7⟩ := S7.out
    have hgn : (Value.slice A7 (n + 1) cp7).ownBlock ≠ some g := by
      rw [Hn.out] at ob7
      rcases ob7 with e | e
      · rw [e]; exact H3.out.lg
      · rw [e]; intro e'; injection e' with e'
        have := lt_of_block H3.out.blk
        have h4 : (w3.drew.alloc (.cells x.cells.toArray 69)).heap.size = w3.heap.size + 1 := by simp
        omega
    rw [Hn.out] at sl7
    refine ⟨rfl, .slice A7 (n + 1) cp7, ⟨?_, ?_, hgn, ?_⟩, ?_⟩
    · rw [heap_setCell_same w7 g 0 _ 67 _ LB.out, Hn.out]; rfl
    · rw [List.length_append, Hn.out, wfl_app]
      have h : wfl [x] = x.cells := by simp [wfl]
      rw [h]
      exact sl7.heap (fun k hk => Below.heap_setCell _ _ _ _ (fun e => hgn (by rw [hk]; first | rw [e] | rw [← e])))
    · intro p hp
      rcases List.mem_append.1 hp with hp | hp
      · exact HR.out.ok p hp
      · rw [List.mem_singleton.1 hp]; exact HX.out
    · have f1 : Fr (fun i => i = g ∨ (Value.slice A n cap).ownBlock = some i) w (w3.drew.alloc (.cells x.cells.toArray 69)) := (((F1.out.then' F3.out).drew).alloc _).upto
      exact (f1.trans fr7 (fun i _ e => .inr e)).setCell _ _ (fun _ => .inl rfl)
end Go.Proofs.Ytcfadmjihccimaa
