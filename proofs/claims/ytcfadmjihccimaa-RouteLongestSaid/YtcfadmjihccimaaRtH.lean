/- The table of law 10: New, All. No condition but lengths. -/
import Derived.Test.YtcfadmjihccimaaRtD
import Derived.Test.YtcfadmjihccimaaRtK
namespace Go.Proofs.Ytcfadmjihccimaa
set_option linter.unusedVariables false
set_option linter.unusedSimpArgs false
open Go.RowKit
def W10.key (x : W10) : N5 := ⟨x.n, x.bits⟩
def W10.val (x : W10) : Value := .agg #[.int .u8 x.n.a, .int .u8 x.n.b, .int .u8 x.n.c, .int .u8 x.n.d, .int .i64 x.bits, .int .u8 x.g.a, .int .u8 x.g.b, .int .u8 x.g.c, .int .u8 x.g.d, .bool x.via]
def zW : W10 := ⟨I4.zero, 0, I4.zero, false⟩
theorem W10.ok.key {x : W10} (h : x.ok) : x.key.ok := ⟨h.n, h.bits⟩
def tabW (L : List W10) : List (N5 × Value) := L.map fun x => (x.key, x.val)
def lkW (L : List W10) (k : N5) : Option W10 := L.find? (fun x => x.key = k)
theorem lkp_tabW (L : List W10) (k : N5) : lkp (tabW L) k = (lkW L k).map W10.val := by
  unfold lkp lkW tabW
  induction L with
  | nil => rfl
  | cons q L ih =>
    simp only [List.map_cons, List.find?_cons]
    by_cases e : q.key = k
    · simp [e]
    · simpa [e] using ih
theorem lkp_tabW_get (L : List W10) (k : N5) : (lkp (tabW L) k).getD zW.val = ((lkW L k).getD zW).val := by
  rw [lkp_tabW]; cases lkW L k <;> rfl
theorem lkp_tabW_is (L : List W10) (k : N5) : (lkp (tabW L) k).isSome = (lkW L k).isSome := by
  rw [lkp_tabW]; cases lkW L k <;> rfl
theorem zero69 (w : World) : (zeroValue 69).run Try.prog w = .ok zW.val w := by kernel_rfl
def kfl (L : List W10) : List Value := L.flatMap fun x => x.key.cells
theorem N5.cells_len (x : N5) : x.cells.length = 5 := rfl
theorem kfl_len : ∀ L : List W10, (kfl L).length = L.length * 5
  | [] => rfl
  | x :: L => by
    have := kfl_len L
    unfold kfl at *
    rw [List.flatMap_cons, List.length_append, this, N5.cells_len, List.length_cons]; omega
theorem kfl_at {L : List W10} {i : Nat} {q : W10} (hi : L[i]? = some q) {j : Nat} {v : Value} (hj : q.key.cells[j]? = some v) : (kfl L)[i * 5 + j]? = some v := by
  unfold kfl
  induction L generalizing i with
  | nil => cases hi
  | cons p L ih =>
    rw [List.flatMap_cons]
    cases i with
    | zero =>
      cases hi
      rw [Nat.zero_mul, Nat.zero_add, List.getElem?_append_left (List.getElem?_eq_some_iff.1 hj).1]
      exact hj
    | succ i =>
      rw [List.getElem?_append_right (by rw [N5.cells_len]; omega)]
      rw [show (i + 1) * 5 + j - p.key.cells.length = i * 5 + j by rw [N5.cells_len]; omega]
      exact ih hi
theorem N5.cells_one (x : N5) : ∀ u ∈ x.cells, u.oneCell' = true := by
  intro u hu
  simp [N5.cells] at hu
  rcases hu with rfl | rfl | rfl | rfl | rfl <;> rfl
theorem kfl_one (L : List W10) : ∀ u ∈ kfl L, u.oneCell' = true := by
  intro u hu
  unfold kfl at hu
  obtain ⟨x, _, hx⟩ := List.mem_flatMap.1 hu
  exact x.key.cells_one u hx
theorem st109 : SlTy Try.prog 109 114 5 16 (.agg #[.int .u8 0, .int .u8 0, .int .u8 0, .int .u8 0, .int .i64 0]) := ⟨Try.underlying109, by kernel_rfl, rfl, by decide⟩
/-- The table lies in block g, its map in block m; lv is the slice of the keys. -/
structure PtAt (N : Nat) (w : World) (g m : Nat) (L : List W10) (lv : Value) : Prop where
  blk : w.heap[g]? = some (.cells #[.map (some m), lv, .func (.func 54) #[] #[]] 111)
  sl : Sl N 114 5 w lv L.length (kfl L)
  map : MapAt M114 w m (tabW L)
  ok : ∀ p ∈ L, p.ok
  hg : N ≤ g
  hm : N ≤ m
theorem PtAt.lg {N : Nat} {w : World} {g m : Nat} {L : List W10} {lv : Value} (h : PtAt N w g m L lv) : lv.ownBlock ≠ some g := h.sl.ne h.blk (by decide)
theorem PtAt.lm {N : Nat} {w : World} {g m : Nat} {L : List W10} {lv : Value} (h : PtAt N w g m L lv) : lv.ownBlock ≠ some m := fun e => by
  obtain ⟨c, h'⟩ := h.sl.tag e
  obtain ⟨⟨es, ho, _⟩, _⟩ := h.map
  obtain ⟨es1, clock, h2, _⟩ := ho
  rw [h'] at h2
  cases h2
theorem PtAt.nd {N : Nat} {w : World} {g m : Nat} {L : List W10} {lv : Value} (h : PtAt N w g m L lv) : (L.map W10.key).Nodup := by
  have := h.map.2.1
  simpa [tabW, Function.comp_def] using this
theorem PtAt.heap {N : Nat} {w w' : World} {g m : Nat} {L : List W10} {lv : Value} (h : PtAt N w g m L lv) (h1 : w'.heap[g]? = w.heap[g]?) (h2 : w'.heap[m]? = w.heap[m]?) (h3 : ∀ k, lv.ownBlock = some k → w'.heap[k]? = w.heap[k]?) : PtAt N w' g m L lv :=
  ⟨h1.trans h.blk, h.sl.heap h3, h.map.heap h2, h.ok, h.hg, h.hm⟩
theorem PtAt.frS {N : Nat} {S : Nat → Prop} {w w' : World} {g m : Nat} {L : List W10} {lv : Value} (h : PtAt N w g m L lv) (f : Fr S w w') (h1 : ¬ S g) (h2 : ¬ S m) (h3 : ∀ k, lv.ownBlock = some k → ¬ S k) : PtAt N w' g m L lv :=
  h.heap (f.block g (lt_of_block h.blk) h1) (f.block m h.map.lt h2) (fun k hk => f.block k (h.sl.lt k hk).2 (h3 k hk))
theorem PtAt.fr {N : Nat} {w w' : World} {g m : Nat} {L : List W10} {lv : Value} (h : PtAt N w g m L lv) (f : Fr (fun _ => False) w w') : PtAt N w' g m L lv := h.frS f (fun e => e) (fun e => e) (fun _ _ e => e)
theorem PtAt.look {N : Nat} {w : World} {g m : Nat} {L : List W10} {lv : Value} (h : PtAt N w g m L lv) {k : N5} (hk : k.ok) :
    (Instr.lookup 105 (.map (some m)) (.agg #[.int .u8 k.ip.a, .int .u8 k.ip.b, .int .u8 k.ip.c, .int .u8 k.ip.d, .int .i64 k.bits]) true).run Try.prog w = .ok (.tuple #[((lkW L k).getD zW).val, .bool (lkW L k).isSome]) w := by
  have := h.map.look (M := M114) (w := w) Try.underlying105 (zero69 w) hk
  rw [lkp_tabW_get, lkp_tabW_is] at this
  exact this
theorem PtAt.look1 {N : Nat} {w : World} {g m : Nat} {L : List W10} {lv : Value} (h : PtAt N w g m L lv) {k : N5} (hk : k.ok) :
    (Instr.lookup 105 (.map (some m)) (.agg #[.int .u8 k.ip.a, .int .u8 k.ip.b, .int .u8 k.ip.c, .int .u8 k.ip.d, .int .i64 k.bits]) false).run Try.prog w = .ok ((lkW L k).getD zW).val w := by
  have := h.map.look1 (M := M114) (w := w) Try.underlying105 (zero69 w) hk
  rw [lkp_tabW_get] at this
  exact this
theorem lkW_at {L : List W10} (hn : (L.map W10.key).Nodup) {i : Nat} {q : W10} (hi : L[i]? = some q) : lkW L q.key = some q := by
  induction L generalizing i with
  | nil => cases hi
  | cons p L ih =>
    unfold lkW
    rw [List.find?_cons]
    cases i with
    | zero => cases hi; simp
    | succ i =>
      have hi : L[i]? = some q := hi
      rw [List.map_cons, List.nodup_cons] at hn
      have : ¬ p.key = q.key := fun e => hn.1 (by rw [e]; exact List.mem_map.2 ⟨q, List.mem_of_getElem? hi, rfl⟩)
      simp only [this, decide_false]
      exact ih hn.2 hi
theorem kr_look1 {P : Program} {ops : Array Oper} {T : World → Prop} {o : Oper} {a : Act} (hg : o.guard = none) {t : TypeId} {m x : Operand} (ho : o.op = .lookup t m x false) {b : Nat} {kv v : Value} (hm : a.eval m = .map (some b)) (hx : a.eval x = kv)
    (hr : ∀ w' : World, T w' → (Instr.lookup t (.map (some b)) kv false).run P w' = .ok v w') : YieldsIf P ops T o v a :=
  kr_run hg (fun w' hT => by unfold execOp; simp [ho, hm, hx, hr w' hT, Result.andThen])
set_option maxHeartbeats 8000000 in
set_option maxRecDepth 100000 in
theorem all36 (N g m : Nat) (L : List W10) (lv : Value) (w : World) (hT : PtAt N w g m L lv) (hlen : L.length ≤ 8) :
    Calls Try.prog 36 #[.pointer (some ⟨g, 0, none⟩)] w fun e w' => ∃ v, e = .returned v ∧ Sl w.heap.size 69 10 w' v L.length (wfl L) ∧ Fr (fun _ => False) w w' := by
  have FA := Lib.hid (Fr.refl (fun _ => False) w)
  have HT := Lib.hid hT
  obtain ⟨n, hn⟩ : ∃ n, L.length = n := ⟨_, rfl⟩
  have Hn := Lib.hid hn
  obtain ⟨A, cap, hv, hncap, _⟩ := hT.sl.form
  rw [hn] at hv hlen hncap
  subst hv
  rw [hn]
  clear hT hn
  go_enter Try.func36, Try.ntmps36
  go_upto_region 2 with (fail)
  have cl := cells_at w g [.map (some m), .slice A n cap, .func (.func 54) #[] #[]] 111 HT.out.blk 1 _ rfl
  go_upto_region 3 with (fail)
  clear cl
  go_loopw [3, 11] (fun v3 v11 wr => ∃ i : Nat, v11 = .int .i64 i ∧ i ≤ n ∧ Sl w.heap.size 69 10 wr v3 i (wfl (L.take i)) ∧ Fr (fun _ => False) w wr) (fun _ v _ => n - (intOf v).toNat)
  case atStart => exact ⟨0, rfl, Nat.zero_le _, Sl.nil _ _ _ _, Fr.refl _ _⟩
  case round =>
    obtain ⟨i, rfl, hi, hsl, hf⟩ := hrel
    obtain ⟨A3, c3, hv3, _, _⟩ := hsl.form
    subst hv3
    have HS := Lib.hid hsl
    have HF := Lib.hid hf
    clear hsl hf
    by_cases hlt : i < n
    · obtain ⟨q, hq⟩ : ∃ q, L[i]? = some q := ⟨_, List.getElem?_eq_getElem (by rw [Hn.out]; exact hlt)⟩
      have Hq := Lib.hid hq
      have HQO := Lib.hid (HT.out.ok q (List.mem_of_getElem? hq))
      clear hq
      have hs := (HT.out.fr HF.out).sl
      rw [Hn.out] at hs
      obtain ⟨b, off, cap', hv', _, _, _, _, hc, _⟩ := hs.form1 (by omega)
      injection hv' with hv1 _ hv2
      subst hv1; subst hv2
      have RK := Lib.hid (show wr.rangeAt b (off + i * 5) q.key.cells from fun j v hj => by rw [Nat.add_assoc]; exact hc _ v (kfl_at Hq.out hj))
      clear hc hs
      have hiI : (i : Int) < (n : Int) := by omega
      have hic : i < cap := by omega
      iterate 40 (first
        | (have := MK1; clear this)
        | (refine wpList_load_mid rfl 114 _ rfl b (off + i * 5) rfl [.int .u8 q.key.ip.a, .int .u8 q.key.ip.b, .int .u8 q.key.ip.c, .int .u8 q.key.ip.d, .int .i64 q.key.bits] _ RK.out Try.underlying114 rfl (by kernel_rfl) ?_; have MK1 := Lib.hid True.intro)
        | go_step)
      go_upto_region 5 with (fail)
      have HKB := Lib.hid (fun (w' : World) (f : Fr (fun _ => False) (wr.alloc (.cells q.key.cells.toArray 114)) w') => range_at w' wr.heap.size q.key.cells 114 (box_at wr q.key.cells 114 w' f))
      have F2 := Lib.hid ((Fr.refl (fun _ => False) wr).alloc (.cells q.key.cells.toArray 114))
      unfold N5.cells at HKB F2
      generalize wr.alloc (.cells #[.int .u8 q.key.ip.a, .int .u8 q.key.ip.b, .int .u8 q.key.ip.c, .int .u8 q.key.ip.d, .int .i64 q.key.bits] 114) = w2 at HKB F2 ⊢
      obtain ⟨kb, hkb⟩ : ∃ kb, wr.heap.size = kb := ⟨_, rfl⟩
      rw [hkb] at HKB ⊢
      clear hkb
      have HMC := Lib.hid (fun (w' : World) (f : Fr (fun _ => False) w2 w') => cells_at w' g [.map (some m), .slice (some ⟨b, off, none⟩) n cap, .func (.func 54) #[] #[]] 111 (HT.out.fr ((HF.out.then' F2.out).then' f)).blk 0 _ rfl)
      have HLK := Lib.hid (fun (w' : World) (f : Fr (fun _ => False) w2 w') => show (Instr.lookup 105 (.map (some m)) (.agg #[.int .u8 q.key.ip.a, .int .u8 q.key.ip.b, .int .u8 q.key.ip.c, .int .u8 q.key.ip.d, .int .i64 q.key.bits]) false).run Try.prog w' = .ok q.val w' from by
        have h := (HT.out.fr ((HF.out.then' F2.out).then' f)).look1 HQO.out.key
        rw [lkW_at HT.out.nd Hq.out] at h
        exact h)
      have HS2 := Lib.hid (HS.out.fr0 F2.out)
      have HSZ := Lib.hid (show w.heap.size ≤ w2.heap.size by have := HF.out.size; have := F2.out.size; omega)
      refine kr_start [(4, fun W => W.cell? ⟨g, 0, none⟩ = some (.map (some m))), (5, fun W => W.rangeAt kb 0 q.key.cells), (6, fun W => (Instr.lookup 105 (.map (some m)) (.agg #[.int .u8 q.key.ip.a, .int .u8 q.key.ip.b, .int .u8 q.key.ip.c, .int .u8 q.key.ip.d, .int .i64 q.key.bits]) false).run Try.prog W = .ok q.val W)] (by kernel_rfl) (by kernel_rfl) ?_
      refine kr_find 0 rfl (by kernel_rfl) (by kernel_rfl) (by kernel_rfl) (fun _ _ _ _ h => h) (by rfl) trivial ?_
      apply Exists.intro; apply And.intro
      · intro w' hS K hK
        clear hS
        go_light
        go_simp
        exact hK.out
      try simp only [Act.put, List.getElem_toArray, List.getElem_cons_zero, List.getElem_cons_succ, List.setIfInBounds_toArray, List.set_cons_zero, List.set_cons_succ]
      refine kr_find 1 rfl (by kernel_rfl) (by kernel_rfl) (by kernel_rfl) (fun _ _ _ _ h => h) (by rfl) trivial ?_
      apply Exists.intro; apply And.intro
      · intro w' hS K hK
        clear hS
        go_light
        go_simp
        exact hK.out
      try simp only [Act.put, List.getElem_toArray, List.getElem_cons_zero, List.getElem_cons_succ, List.setIfInBounds_toArray, List.set_cons_zero, List.set_cons_succ]
      refine kr_find 2 rfl (by kernel_rfl) (by kernel_rfl) (by kernel_rfl) (fun _ _ _ _ h => h) (by rfl) trivial ?_
      apply Exists.intro; apply And.intro
      · intro w' hS K hK
        clear hS
        go_light
        go_simp
        exact hK.out
      try simp only [Act.put, List.getElem_toArray, List.getElem_cons_zero, List.getElem_cons_succ, List.setIfInBounds_toArray, List.set_cons_zero, List.set_cons_succ]
      refine kr_find 3 rfl (by kernel_rfl) (by kernel_rfl) (by kernel_rfl) (fun _ _ _ _ h => h) (by rfl) trivial ?_
      apply Exists.intro; apply And.intro
      · intro w' hS K hK
        clear hS
        go_light
        go_simp
        exact hK.out
      try simp only [Act.put, List.getElem_toArray, List.getElem_cons_zero, List.getElem_cons_succ, List.setIfInBounds_toArray, List.set_cons_zero, List.set_cons_succ]
      refine kr_find 4 rfl (by kernel_rfl) (by kernel_rfl) (by kernel_rfl) (fun _ _ _ _ h => h) (by rfl) (show _ from HMC.out _ (Fr.refl _ w2).drew) ?_
      apply Exists.intro; apply And.intro
      · intro w' hS K hK
        have hS : w'.cell? ⟨g, 0, none⟩ = some (.map (some m)) := hS
        go_light
        go_simp
        exact hK.out
      try simp only [Act.put, List.getElem_toArray, List.getElem_cons_zero, List.getElem_cons_succ, List.setIfInBounds_toArray, List.set_cons_zero, List.set_cons_succ]
      refine kr_take 5 rfl (by kernel_rfl) (by kernel_rfl) (by kernel_rfl) (fun _ _ _ h => h) (yieldsIf_load_mid (by rfl) 114 _ rfl (kb) (0) rfl (q.key.cells) _ (fun _ h => h) Try.underlying114 rfl (by kernel_rfl)) (show _ from HKB.out _ (Fr.refl _ w2).drew) ?_
      try simp only [Act.put, List.getElem_toArray, List.getElem_cons_zero, List.getElem_cons_succ, List.setIfInBounds_toArray, List.set_cons_zero, List.set_cons_succ]
      refine kr_take 6 rfl (by kernel_rfl) (by kernel_rfl) (by kernel_rfl) (fun _ _ _ h => h) (kr_look1 rfl rfl (b := m) (kv := (.agg #[.int .u8 q.key.ip.a, .int .u8 q.key.ip.b, .int .u8 q.key.ip.c, .int .u8 q.key.ip.d, .int .i64 q.key.bits])) (v := q.val) rfl rfl (fun _ h => h)) (show _ from HLK.out _ (Fr.refl _ w2).drew) ?_
      try simp only [Act.put, List.getElem_toArray, List.getElem_cons_zero, List.getElem_cons_succ, List.setIfInBounds_toArray, List.set_cons_zero, List.set_cons_succ]
      refine kr_one 7 (by kernel_rfl) rfl (by rfl) (fun K hK => ?_)
      refine wp_buildSlice1 st65 rfl (by decide) q.cells.toArray (by rfl) rfl ?_
      refine hK.out _ _ ⟨.inl (by kernel_rfl), .inl (by kernel_rfl), .inl (by kernel_rfl), trivial⟩ ?_
      clear hK K
      try simp only [Act.put, List.getElem_toArray, List.getElem_cons_zero, List.getElem_cons_succ, List.setIfInBounds_toArray, List.set_cons_zero, List.set_cons_succ]
      refine kr_one 8 (by kernel_rfl) rfl (by rfl) (fun K hK => ?_)
      refine wp_append_sl _ _ rfl st65 (.slice A3 i c3) i _ rfl (HS2.out.fr0 ((Fr.refl _ w2).drew.alloc (.cells q.cells.toArray 69))) _ 1 q.cells rfl (src65 (range_at _ _ q.cells 69 (heap_alloc_new w2.drew _))) (by simp only [maxLen]; omega) (by omega) (by have h1 := HSZ.out; have h4 : (w2.drew.alloc (.cells q.cells.toArray 69)).heap.size = w2.heap.size + 1 := (by simp); omega) ?_
      intro v7 w7 sl7 gr7 ob7 nil7
      obtain ⟨A7, cp7, rfl, hn7, hm7⟩ := sl7.form
      clear hn7 hm7
      have S7 := Lib.hid (And.intro sl7 (And.intro (fr_of_grown gr7) ob7))
      clear sl7 gr7 ob7 nil7
      refine hK.out _ _ ⟨.inl (by kernel_rfl), .inl (by kernel_rfl), .inl (by kernel_rfl), trivial⟩ ?_
      clear hK K
      try simp only [Act.put, List.getElem_toArray, List.getElem_cons_zero, List.getElem_cons_succ, List.setIfInBounds_toArray, List.set_cons_zero, List.set_cons_succ]
      refine kr_find 9 rfl (by kernel_rfl) (by kernel_rfl) (by kernel_rfl) (fun _ _ _ _ h => h) (by rfl) trivial ?_
      apply Exists.intro; apply And.intro
      · intro w' hS K hK
        clear hS
        go_light
        go_simp
        exact hK.out
      try simp only [Act.put, List.getElem_toArray, List.getElem_cons_zero, List.getElem_cons_succ, List.setIfInBounds_toArray, List.set_cons_zero, List.set_cons_succ]
      refine kr_done (by kernel_rfl) ?_ _
      go_wp2_with fail
      obtain ⟨sl7, fr7, ob7⟩ := S7.out
      refine ⟨⟨i + 1, by go_num, by omega, ?_, ?_⟩, by simp [intOf]; omega⟩
      · have e : wfl (L.take (i + 1)) = wfl (L.take i) ++ q.cells := by
          rw [List.take_add_one, Hq.out, wfl_app]; simp [wfl]
        rw [e]
        exact sl7
      · have f1 : Fr (fun i' => (Value.slice A3 i c3).ownBlock = some i') w (w2.drew.alloc (.cells q.cells.toArray 69)) := (((HF.out.then' F2.out).drew).alloc _).upto
        exact (f1.trans fr7 (fun _ _ e => e)).mono (fun k hk e => by have := (HS.out.lt k e).1; omega)
    · obtain rfl : i = n := by omega
      have HE := Lib.hid (show wfl (L.take i) = wfl L by rw [List.take_of_length_le (by rw [Hn.out]; omega)])
      go_wp2_with fail
      go_ret
      refine ⟨_, rfl, ?_, HF.out⟩
      rw [← HE.out]
      exact HS.out
set_option maxHeartbeats 4000000 in
theorem new29 (w : World) : Calls Try.prog 29 #[] w fun e w' => ∃ g m, e = .returned (.pointer (some ⟨g, 0, none⟩)) ∧ PtAt w.heap.size w' g m [] (.slice none 0 0) ∧ Fr (fun _ => False) w w' := by
  have hmm := @run_makeMap Try.prog
  have T : PtAt w.heap.size ((w.alloc (.map #[] 0)).alloc (.cells #[.map (some w.heap.size), .slice none 0 0, .func (.func 54) #[] #[]] 111)) (w.heap.size + 1) w.heap.size [] (.slice none 0 0) :=
    ⟨by have := heap_alloc_new (w.alloc (.map #[] 0)) (.cells #[.map (some w.heap.size), .slice none 0 0, .func (.func 54) #[] #[]] 111); simpa using this, Sl.nil _ _ _ _, (MapAt.made (M := M114) w).heap (Below.heap_alloc _ _ _ (by simp)), (fun p h => by cases h), by omega, by omega⟩
  have f := ((Fr.refl (fun _ => False) w).alloc (.map #[] 0)).alloc (.cells #[.map (some w.heap.size), .slice none 0 0, .func (.func 54) #[] #[]] 111)
  go_enter Try.func29, Try.ntmps29
  go_wp2_with fail
  go_ret
  exact ⟨_, _, rfl, T, f⟩
end Go.Proofs.Ytcfadmjihccimaa
