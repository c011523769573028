/- The table of law 10: Drop. No condition but lengths. -/
import Derived.Test.YtcfadmjihccimaaRtI
import Derived.Test.YtcfadmjihccimaaRtL
namespace Go.Proofs.Ytcfadmjihccimaa
set_option linter.unusedVariables false
set_option linter.unusedSimpArgs false
open Go.RowKit
theorem filter_erase {L : List W10} (hn : (L.map W10.key).Nodup) {i : Nat} {q : W10} {k : N5} (hi : L[i]? = some q) (hq : q.key = k) : (L.filter fun y => y.key ≠ k) = L.take i ++ L.drop (i + 1) := by
  induction L generalizing i with
  | nil => cases hi
  | cons p L ih =>
    rw [List.map_cons, List.nodup_cons] at hn
    cases i with
    | zero =>
      cases hi
      rw [List.filter_cons, if_neg (by simp [hq])]
      simp only [List.take_zero, List.nil_append, Nat.zero_add, List.drop_succ_cons, List.drop_zero]
      rw [List.filter_eq_self]
      intro y hy
      have : ¬ y.key = k := fun e => hn.1 (by rw [hq, ← e]; exact List.mem_map.2 ⟨y, hy, rfl⟩)
      simpa using this
    | succ i =>
      have hi : L[i]? = some q := hi
      have hp : p.key ≠ k := fun e => hn.1 (by rw [e, ← hq]; exact List.mem_map.2 ⟨q, List.mem_of_getElem? hi, rfl⟩)
      rw [List.filter_cons, if_pos (by simpa using hp), ih hn.2 hi]
      rfl
theorem key_find2 {L : List W10} {k : I4} {b : Int} : L.findIdx? (keyW k b) = L.findIdx? (fun y => decide (y.key = ⟨k, b⟩)) := by
  congr 1
  funext y
  unfold keyW W10.key
  rw [Bool.eq_iff_iff]
  simp [N5.mk.injEq]
set_option maxHeartbeats 16000000 in
set_option maxRecDepth 100000 in
theorem drop32 (N g m : Nat) (L : List W10) (lv : Value) (key : I4) (bits : Int) (w : World) (hk : (⟨key, bits⟩ : N5).ok) (hT : PtAt N w g m L lv) (hlen : L.length ≤ 8) (hN : N ≤ w.heap.size) :
    Calls Try.prog 32 #[.pointer (some ⟨g, 0, none⟩), .agg #[.int .u8 key.a, .int .u8 key.b, .int .u8 key.c, .int .u8 key.d], .int .i64 bits] w (PtPost N g m (dropL L key bits) lv (dropE L key bits) w) := by
  have FA := Lib.hid (Fr.refl (fun _ => False) w)
  have HX := Lib.hid hk
  have HT := Lib.hid hT
  have HN := Lib.hid hN
  obtain ⟨n, hn⟩ : ∃ n, L.length = n := ⟨_, rfl⟩
  have Hn := Lib.hid hn
  obtain ⟨A, cap, hv, _, _⟩ := hT.sl.form
  rw [hn] at hv hlen
  subst hv
  obtain ⟨r0, hr0⟩ : ∃ r0, dropE L key bits = r0 := ⟨_, rfl⟩
  obtain ⟨R', hR'⟩ : ∃ R', dropL L key bits = R' := ⟨_, rfl⟩
  rw [hr0, hR']
  have HR0 := Lib.hid (And.intro hr0 hR')
  clear hk hT hN hr0 hR' hn
  go_enter Try.func32, Try.ntmps32
  go_upto_region 1 with (fail)
  have B1 := Lib.hid (box_at w key.cells 45)
  have F1 := Lib.hid (FA.out.alloc (.cells key.cells.toArray 45))
  unfold I4.cells at B1 F1
  generalize w.alloc (.cells #[.int .u8 key.a, .int .u8 key.b, .int .u8 key.c, .int .u8 key.d] 45) = w1 at B1 F1 ⊢
  obtain ⟨b0, hb0⟩ : ∃ b0, w.heap.size = b0 := ⟨_, rfl⟩
  have HB0 := Lib.hid hb0
  rw [hb0] at B1 ⊢
  clear hb0
  obtain ⟨x, hx⟩ : ∃ x : N5, (⟨key, bits⟩ : N5) = x := ⟨_, rfl⟩
  have HXE := Lib.hid hx
  iterate 60 (first
    | (have := MK3; clear this)
    | (refine wpList_load_mid rfl 45 _ rfl b0 0 rfl key.cells _ (range_at _ _ _ 45 (B1.out w1 (Fr.refl _ _))) Try.underlying45 rfl (by kernel_rfl) ?_)
    | (refine wpList_build bd114 rfl rfl [(0, .agg #[.int .u8 key.a, .int .u8 key.b, .int .u8 key.c, .int .u8 key.d]), (1, .int .i64 bits)] (by rfl) #[.int .u8 key.a, .int .u8 key.b, .int .u8 key.c, .int .u8 key.d, .int .i64 bits] (by rfl) ?_; have MK3 := Lib.hid True.intro)
    | go_step)
  go_upto_region 2 with (fail)
  have HKB0 := Lib.hid (fun (w' : World) (f : Fr (fun _ => False) (w1.alloc (.cells (⟨key, bits⟩ : N5).cells.toArray 114)) w') => range_at w' w1.heap.size (⟨key, bits⟩ : N5).cells 114 (box_at w1 (⟨key, bits⟩ : N5).cells 114 w' f))
  have F3 := Lib.hid ((Fr.refl (fun _ => False) w1).alloc (.cells (⟨key, bits⟩ : N5).cells.toArray 114))
  unfold N5.cells at HKB0 F3
  generalize w1.alloc (.cells #[.int .u8 key.a, .int .u8 key.b, .int .u8 key.c, .int .u8 key.d, .int .i64 bits] 114) = w3 at HKB0 F3 ⊢
  obtain ⟨kb, hkb⟩ : ∃ kb, w1.heap.size = kb := ⟨_, rfl⟩
  have HKBN := Lib.hid (show w.heap.size ≤ kb by have := F1.out.size; omega)
  rw [hkb] at HKB0 ⊢
  clear hkb
  have HKB := Lib.hid (fun (w' : World) (f : Fr (fun _ => False) w3 w') => show w'.rangeAt kb 0 x.cells from by rw [← HXE.out]; exact HKB0.out w' f)
  have HXO := Lib.hid (show x.ok from by rw [← hx]; exact HX.out)
  have T3 := Lib.hid (HT.out.fr (F1.out.then' F3.out))
  have HMC := Lib.hid (fun (w' : World) (f : Fr (fun _ => False) w3 w') => cells_at w' g [.map (some m), .slice A n cap, .func (.func 54) #[] #[]] 111 (T3.out.fr f).blk 0 _ rfl)
  obtain ⟨q0, hq0⟩ : ∃ q0, (lkW L x).getD zW = q0 := ⟨_, rfl⟩
  obtain ⟨is, his⟩ : ∃ is, (lkW L x).isSome = is := ⟨_, rfl⟩
  have HLK := Lib.hid (fun (w' : World) (f : Fr (fun _ => False) w3 w') => show (Instr.lookup 105 (.map (some m)) (.agg #[.int .u8 x.ip.a, .int .u8 x.ip.b, .int .u8 x.ip.c, .int .u8 x.ip.d, .int .i64 x.bits]) true).run Try.prog w' = .ok (.tuple #[q0.val, .bool is]) w' from by
    have h := (T3.out.fr f).look HXO.out
    rw [hq0, his] at h
    exact h)
  have HIS := Lib.hid his
  clear hq0 his HKB0 hx
  refine kr_start [(3, fun W => W.cell? ⟨g, 0, none⟩ = some (.map (some m))), (4, fun W => W.rangeAt kb 0 x.cells), (5, fun W => (Instr.lookup 105 (.map (some m)) (.agg #[.int .u8 x.ip.a, .int .u8 x.ip.b, .int .u8 x.ip.c, .int .u8 x.ip.d, .int .i64 x.bits]) true).run Try.prog W = .ok (.tuple #[q0.val, .bool is]) W)] (by kernel_rfl) (by kernel_rfl) ?_
  refine kr_find 0 rfl (by kernel_rfl) (by kernel_rfl) (by kernel_rfl) (fun _ _ _ _ h => h) (by rfl) trivial ?_
  apply Exists.intro; apply And.intro
  · intro w' hS K hK
    clear hS
    go_light
    go_simp
    exact hK.out
  try simp only [Act.put, List.getElem_toArray, List.getElem_cons_zero, List.getElem_cons_succ, List.setIfInBounds_toArray, List.set_cons_zero, List.set_cons_succ]
  refine kr_find 1 rfl (by kernel_rfl) (by kernel_rfl) (by kernel_rfl) (fun _ _ _ _ h => h) (by rfl) trivial ?_
  apply Exists.intro; apply And.intro
  · intro w' hS K hK
    clear hS
    go_light
    go_simp
    exact hK.out
  try simp only [Act.put, List.getElem_toArray, List.getElem_cons_zero, List.getElem_cons_succ, List.setIfInBounds_toArray, List.set_cons_zero, List.set_cons_succ]
  refine kr_find 2 rfl (by kernel_rfl) (by kernel_rfl) (by kernel_rfl) (fun _ _ _ _ h => h) (by rfl) trivial ?_
  apply Exists.intro; apply And.intro
  · intro w' hS K hK
    clear hS
    go_light
    go_simp
    exact hK.out
  try simp only [Act.put, List.getElem_toArray, List.getElem_cons_zero, List.getElem_cons_succ, List.setIfInBounds_toArray, List.set_cons_zero, List.set_cons_succ]
  refine kr_find 3 rfl (by kernel_rfl) (by kernel_rfl) (by kernel_rfl) (fun _ _ _ _ h => h) (by rfl) (show _ from HMC.out _ (Fr.refl _ w3).drew) ?_
  apply Exists.intro; apply And.intro
  · intro w' hS K hK
    have hS : w'.cell? ⟨g, 0, none⟩ = some (.map (some m)) := hS
    go_light
    go_simp
    exact hK.out
  try simp only [Act.put, List.getElem_toArray, List.getElem_cons_zero, List.getElem_cons_succ, List.setIfInBounds_toArray, List.set_cons_zero, List.set_cons_succ]
  refine kr_take 4 rfl (by kernel_rfl) (by kernel_rfl) (by kernel_rfl) (fun _ _ _ h => h) (yieldsIf_load_mid (by rfl) 114 _ rfl (kb) (0) rfl (x.cells) _ (fun _ h => h) Try.underlying114 rfl (by kernel_rfl)) (show _ from HKB.out _ (Fr.refl _ w3).drew) ?_
  try simp only [Act.put, List.getElem_toArray, List.getElem_cons_zero, List.getElem_cons_succ, List.setIfInBounds_toArray, List.set_cons_zero, List.set_cons_succ]
  refine kr_take 5 rfl (by kernel_rfl) (by kernel_rfl) (by kernel_rfl) (fun _ _ _ h => h) (kr_look rfl rfl (b := m) (kv := (.agg #[.int .u8 x.ip.a, .int .u8 x.ip.b, .int .u8 x.ip.c, .int .u8 x.ip.d, .int .i64 x.bits])) (v := .tuple #[q0.val, .bool is]) rfl rfl (fun _ h => h)) (show _ from HLK.out _ (Fr.refl _ w3).drew) ?_
  try simp only [Act.put, List.getElem_toArray, List.getElem_cons_zero, List.getElem_cons_succ, List.setIfInBounds_toArray, List.set_cons_zero, List.set_cons_succ]
  refine kr_find 6 rfl (by kernel_rfl) (by kernel_rfl) (by kernel_rfl) (fun _ _ _ _ h => h) (by rfl) trivial ?_
  apply Exists.intro; apply And.intro
  · intro w' hS K hK
    clear hS
    go_light
    go_simp
    exact hK.out
  try simp only [Act.put, List.getElem_toArray, List.getElem_cons_zero, List.getElem_cons_succ, List.setIfInBounds_toArray, List.set_cons_zero, List.set_cons_succ]
  refine kr_find 7 rfl (by kernel_rfl) (by kernel_rfl) (by kernel_rfl) (fun _ _ _ _ h => h) (by rfl) trivial ?_
  apply Exists.intro; apply And.intro
  · intro w' hS K hK
    clear hS
    go_light
    go_simp
    exact hK.out
  try simp only [Act.put, List.getElem_toArray, List.getElem_cons_zero, List.getElem_cons_succ, List.setIfInBounds_toArray, List.set_cons_zero, List.set_cons_succ]
  refine kr_find 8 rfl (by kernel_rfl) (by kernel_rfl) (by kernel_rfl) (fun _ _ _ _ h => h) (by rfl) trivial ?_
  apply Exists.intro; apply And.intro
  · intro w' hS K hK
    clear hS
    go_light
    go_simp
    exact hK.out
  try simp only [Act.put, List.getElem_toArray, List.getElem_cons_zero, List.getElem_cons_succ, List.setIfInBounds_toArray, List.set_cons_zero, List.set_cons_succ]
  refine kr_one 9 (by kernel_rfl) rfl (by rfl) (fun K hK => ?_)
  go_simp
  refine hK.out _ _ ⟨.inr (HMC.out _ ((Fr.refl _ w3).drew.alloc (.cells #[.int .u8 0, .int .u8 0, .int .u8 0, .int .u8 0, .int .i64 0, .int .u8 0, .int .u8 0, .int .u8 0, .int .u8 0, .bool false] 69))), .inr (HKB.out _ ((Fr.refl _ w3).drew.alloc (.cells #[.int .u8 0, .int .u8 0, .int .u8 0, .int .u8 0, .int .i64 0, .int .u8 0, .int .u8 0, .int .u8 0, .int .u8 0, .bool false] 69))), .inr (HLK.out _ ((Fr.refl _ w3).drew.alloc (.cells #[.int .u8 0, .int .u8 0, .int .u8 0, .int .u8 0, .int .i64 0, .int .u8 0, .int .u8 0, .int .u8 0, .int .u8 0, .bool false] 69))), trivial⟩ ?_
  clear hK K
  try simp only [Act.put, List.getElem_toArray, List.getElem_cons_zero, List.getElem_cons_succ, List.setIfInBounds_toArray, List.set_cons_zero, List.set_cons_succ]
  refine kr_one 10 (by kernel_rfl) rfl (by rfl) (fun K hK => ?_)
  refine wp_store_mid 69 _ _ rfl w3.drew.heap.size 0 q0.cells.toArray rfl rfl (there_at _ _ [.int .u8 0, .int .u8 0, .int .u8 0, .int .u8 0, .int .i64 0, .int .u8 0, .int .u8 0, .int .u8 0, .int .u8 0, .bool false] 69 (heap_alloc_new w3.drew _)) (by kernel_rfl) (by simp [W10.cells, Value.oneCell']) ?_
  refine hK.out _ _ ⟨.inl (by kernel_rfl), .inl (by kernel_rfl), .inl (by kernel_rfl), trivial⟩ ?_
  clear hK K
  try simp only [Act.put, List.getElem_toArray, List.getElem_cons_zero, List.getElem_cons_succ, List.setIfInBounds_toArray, List.set_cons_zero, List.set_cons_succ]
  refine kr_find 11 rfl (by kernel_rfl) (by kernel_rfl) (by kernel_rfl) (fun _ _ _ _ h => h) (by rfl) trivial ?_
  apply Exists.intro; apply And.intro
  · intro w' hS K hK
    clear hS
    go_light
    go_simp
    exact hK.out
  try simp only [Act.put, List.getElem_toArray, List.getElem_cons_zero, List.getElem_cons_succ, List.setIfInBounds_toArray, List.set_cons_zero, List.set_cons_succ]
  refine kr_done (by kernel_rfl) ?_ _
  have F5 := Lib.hid (show Fr (fun _ => False) w3 ((w3.drew.alloc (.cells #[.int .u8 0, .int .u8 0, .int .u8 0, .int .u8 0, .int .i64 0, .int .u8 0, .int .u8 0, .int .u8 0, .int .u8 0, .bool false] 69)).setCells w3.drew.heap.size 0 q0.cells) from Fr.setCells (S := fun _ => False) (a := w3) w3.drew.heap.size (fun h => absurd h (Nat.lt_irrefl w3.heap.size)) q0.cells 0 _ ((Fr.refl (fun _ => False) w3).drew.alloc _))
  change (Exit.then _ _) _ _ ((w3.drew.alloc (.cells #[.int .u8 0, .int .u8 0, .int .u8 0, .int .u8 0, .int .i64 0, .int .u8 0, .int .u8 0, .int .u8 0, .int .u8 0, .bool false] 69)).setCells w3.drew.heap.size 0 q0.cells)
  generalize (w3.drew.alloc (.cells #[.int .u8 0, .int .u8 0, .int .u8 0, .int .u8 0, .int .i64 0, .int .u8 0, .int .u8 0, .int .u8 0, .int .u8 0, .bool false] 69)).setCells w3.drew.heap.size 0 q0.cells = w5 at F5 ⊢
  have T5 := Lib.hid (T3.out.fr F5.out)
  have HKB5 := Lib.hid (fun (w' : World) (f : Fr (fun _ => False) w5 w') => HKB.out w' (F5.out.then' f))
  have FW5 := Lib.hid (F1.out.then' (F3.out.then' F5.out))
  cases is
  · have hnone : lkW L x = none := by
      have := HIS.out
      cases h : lkW L x with
      | none => rfl
      | some q => rw [h] at this; cases this
    have hfk : L.findIdx? (keyW key bits) = none := by rw [key_find2, HXE.out]; exact lkW_none hnone
    have HE := Lib.hid (show r0 = 7 ∧ R' = L from ⟨by rw [← HR0.out.1]; unfold dropE; rw [hfk], by rw [← HR0.out.2]; unfold dropL; rw [hfk]⟩)
    clear hnone hfk
    as_aux_lemma =>
    go_wp2_with fail
    go_ret
    rw [HE.out.1, HE.out.2]
    exact ⟨rfl, _, T5.out, FW5.out.upto⟩
  · obtain ⟨q, hq⟩ : ∃ q, lkW L x = some q := by
      have := HIS.out
      cases h : lkW L x with
      | none => rw [h] at this; cases this
      | some q => exact ⟨q, rfl⟩
    obtain ⟨i, hfi, hiq, hqk⟩ := lkW_some hq
    have hfk : L.findIdx? (keyW key bits) = some i := by rw [key_find2, HXE.out]; exact hfi
    have HE := Lib.hid (show r0 = 0 ∧ R' = L.take i ++ L.drop (i + 1) from ⟨by rw [← HR0.out.1]; unfold dropE; rw [hfk], by rw [← HR0.out.2]; unfold dropL; rw [hfk]⟩)
    have HIQ := Lib.hid (And.intro hiq hqk)
    have hin : i < n := by rw [← Hn.out]; exact (List.getElem?_eq_some_iff.1 hiq).1
    clear hq hfi hiq hqk hfk
    go_upto_region 5 with (fail)
    have HMC5 := Lib.hid (fun (w' : World) (f : Fr (fun _ => False) w5 w') => cells_at w' g [.map (some m), .slice A n cap, .func (.func 54) #[] #[]] 111 (T5.out.fr f).blk 0 _ rfl)
    have hgm : m ≠ g := fun e => by
      obtain ⟨⟨es, ⟨es1, ck, h2, _⟩, _⟩, _⟩ := T5.out.map
      have := T5.out.blk
      rw [← e, h2] at this
      cases this
    have HGM := Lib.hid hgm
    clear hgm
    refine kr_start [(3, fun W => W.cell? ⟨g, 0, none⟩ = some (.map (some m))), (4, fun W => W.rangeAt kb 0 x.cells)] (by kernel_rfl) (by kernel_rfl) ?_
    refine kr_find 0 rfl (by kernel_rfl) (by kernel_rfl) (by kernel_rfl) (fun _ _ _ _ h => h) (by rfl) trivial ?_
    apply Exists.intro; apply And.intro
    · intro w' hS K hK
      clear hS
      go_light
      go_simp
      exact hK.out
    try simp only [Act.put, List.getElem_toArray, List.getElem_cons_zero, List.getElem_cons_succ, List.setIfInBounds_toArray, List.set_cons_zero, List.set_cons_succ]
    refine kr_find 1 rfl (by kernel_rfl) (by kernel_rfl) (by kernel_rfl) (fun _ _ _ _ h => h) (by rfl) trivial ?_
    apply Exists.intro; apply And.intro
    · intro w' hS K hK
      clear hS
      go_light
      go_simp
      exact hK.out
    try simp only [Act.put, List.getElem_toArray, List.getElem_cons_zero, List.getElem_cons_succ, List.setIfInBounds_toArray, List.set_cons_zero, List.set_cons_succ]
    refine kr_find 2 rfl (by kernel_rfl) (by kernel_rfl) (by kernel_rfl) (fun _ _ _ _ h => h) (by rfl) trivial ?_
    apply Exists.intro; apply And.intro
    · intro w' hS K hK
      clear hS
      go_light
      go_simp
      exact hK.out
    try simp only [Act.put, List.getElem_toArray, List.getElem_cons_zero, List.getElem_cons_succ, List.setIfInBounds_toArray, List.set_cons_zero, List.set_cons_succ]
    refine kr_find 3 rfl (by kernel_rfl) (by kernel_rfl) (by kernel_rfl) (fun _ _ _ _ h => h) (by rfl) (show _ from HMC5.out _ (Fr.refl _ w5).drew) ?_
    apply Exists.intro; apply And.intro
    · intro w' hS K hK
      have hS : w'.cell? ⟨g, 0, none⟩ = some (.map (some m)) := hS
      go_light
      go_simp
      exact hK.out
    try simp only [Act.put, List.getElem_toArray, List.getElem_cons_zero, List.getElem_cons_succ, List.setIfInBounds_toArray, List.set_cons_zero, List.set_cons_succ]
    refine kr_take 4 rfl (by kernel_rfl) (by kernel_rfl) (by kernel_rfl) (fun _ _ _ h => h) (yieldsIf_load_mid (by rfl) 114 _ rfl (kb) (0) rfl (x.cells) _ (fun _ h => h) Try.underlying114 rfl (by kernel_rfl)) (show _ from HKB5.out _ (Fr.refl _ w5).drew) ?_
    try simp only [Act.put, List.getElem_toArray, List.getElem_cons_zero, List.getElem_cons_succ, List.setIfInBounds_toArray, List.set_cons_zero, List.set_cons_succ]
    refine kr_one 5 (by kernel_rfl) rfl (by rfl) (fun K hK => ?_)
    refine wp_mapDrop (M := M114) _ _ _ 105 rfl 69 Try.underlying105 m (tabW L) rfl (T5.out.map.heap rfl) x HXO.out rfl ?_
    intro w6 hm6 ht6
    rw [but_tabW] at hm6
    have HM6 := Lib.hid hm6
    have F6 := Lib.hid (fr_of_grown ht6.grown)
    clear hm6 ht6
    refine hK.out _ _ ⟨.inl (by kernel_rfl), .inl (by kernel_rfl), trivial⟩ ?_
    clear hK K
    try simp only [Act.put, List.getElem_toArray, List.getElem_cons_zero, List.getElem_cons_succ, List.setIfInBounds_toArray, List.set_cons_zero, List.set_cons_succ]
    refine kr_done (by kernel_rfl) ?_ _
    have HFW6 := Lib.hid (show Fr (fun i => some m = some i) w5 w6 from ((Fr.refl (fun i => some m = some i) w5).drew).trans F6.out (fun _ _ e => e))
    have hs5 := T5.out.sl
    rw [Hn.out] at hs5
    obtain ⟨b, off, cap', hv', _, _, hncap, _, _, _⟩ := hs5.form1 (by omega)
    injection hv' with hv1 _ hv2
    subst hv1; subst hv2
    have S6 := Lib.hid (hs5.fr HFW6.out (fun k hk e => T5.out.lm (by rw [Hn.out] at *; rw [hk]; injection e with e; rw [e])))
    have G6 := Lib.hid ((HFW6.out.block g (lt_of_block T5.out.blk) (fun e => HGM.out (by injection e))).trans T5.out.blk)
    have hkb5 := block_lt_of_cell (HKB5.out w5 (Fr.refl _ _) 0 _ rfl)
    have hkm : kb ≠ m := fun e => by
      have h1 := HT.out.map.lt
      have := HKBN.out
      omega
    have K6 := Lib.hid (range_block (HFW6.out.block kb hkb5 (fun e => hkm (by injection e with e; exact e.symm))) (HKB5.out w5 (Fr.refl _ _)))
    have hkbb : kb ≠ b := fun e => by
      have h1 := HT.out.sl.lt b rfl
      have := HKBN.out
      omega
    have HKBB := Lib.hid hkbb
    have HK6 := Lib.hid (show kb < w6.heap.size from Nat.lt_of_lt_of_le hkb5 HFW6.out.size)
    clear hs5 hkb5 hkm hkbb
    have cg := cells_at w6 g [.map (some m), .slice (some ⟨b, off, none⟩) n cap, .func (.func 54) #[] #[]] 111 G6.out 1 _ rfl
    go_upto_region 7 with (go_at_call 58; refine (delete58 N b off n cap kb i L x q w6 S6.out Hn.out hlen HT.out.ok HXO.out K6.out HK6.out HKBB.out HT.out.nd HIQ.out.1 HIQ.out.2).mono ?_; rintro e w7 ⟨rfl, s7, f7⟩; have S7 := Lib.hid s7; have F7 := Lib.hid f7; clear s7 f7; have G7 := Lib.hid ((F7.out.block g (lt_of_block G6.out) (fun e => T5.out.lg (by rw [e]; rfl))).trans G6.out); (have hc1 := cells_at w7 g [.map (some m), .slice (some ⟨b, off, none⟩) n cap, .func (.func 54) #[] #[]] 111 G7.out 1 _ rfl); (have hz1 := frozen_of_row w7 g 1 _ 111 G7.out))
    clear cg hc1 hz1
    go_wp2_with fail
    go_ret
    rw [HE.out.1, HE.out.2]
    have hbg : b ≠ g := fun e => T5.out.lg (by rw [e]; rfl)
    have hbm : b ≠ m := fun e => T5.out.lm (by rw [e]; rfl)
    have G8 : (w7.setCell ⟨g, 1, none⟩ (.slice (some ⟨b, off, none⟩) (n - 1) cap)).heap[g]? = some (.cells #[.map (some m), .slice (some ⟨b, off, none⟩) (n - 1) cap, .func (.func 54) #[] #[]] 111) := by rw [heap_setCell_same w7 g 1 _ 111 _ G7.out]; rfl
    have hlen' : (L.take i ++ L.drop (i + 1)).length = n - 1 := by rw [List.length_append, List.length_take, List.length_drop, Hn.out]; omega
    have f7 : Fr (fun j => j = g ∨ j = m ∨ (Value.slice (some ⟨b, off, none⟩) n cap).ownBlock = some j) w w7 :=
      ((FW5.out.upto (S := fun j => j = g ∨ j = m ∨ (Value.slice (some ⟨b, off, none⟩) n cap).ownBlock = some j)).trans HFW6.out (fun k _ e => .inr (.inl (by injection e with e; exact e.symm)))).trans F7.out (fun k _ e => .inr (.inr (by rw [e]; rfl)))
    refine ⟨rfl, .slice (some ⟨b, off, none⟩) (n - 1) cap, ⟨G8, ?_, ?_, ?_, T5.out.hg, T5.out.hm⟩, f7.setCell _ _ (fun _ => .inl rfl)⟩
    · rw [hlen']
      exact S7.out.heap (fun k hk => Below.heap_setCell _ _ _ _ (fun e => hbg (by injection hk with hk; first | exact hk.trans e | exact hk.trans e.symm)))
    · have h := HM6.out
      rw [filter_erase HT.out.nd HIQ.out.1 HIQ.out.2] at h
      refine h.heap ?_
      rw [Below.heap_setCell _ _ _ _ (fun e => HGM.out (by first | exact e | exact e.symm)), F7.out.block m h.lt (fun e => hbm e.symm)]
    · intro p hp
      rcases List.mem_append.1 hp with hp | hp
      · exact HT.out.ok p (List.mem_of_mem_take hp)
      · exact HT.out.ok p (List.mem_of_mem_drop hp)
end Go.Proofs.Ytcfadmjihccimaa
