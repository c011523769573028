/- RouteDoes: its walk. No condition but the form's sizes. -/
import Derived.Test.YtcfadmjihccimaaRtW
namespace Go.Proofs.Ytcfadmjihccimaa
set_option linter.unusedVariables false
set_option linter.unusedSimpArgs false
open Go.RowKit
theorem flat69 : flatK Try.prog 9 69 = some [some .u8, some .u8, some .u8, some .u8, some .i64, some .u8, some .u8, some .u8, some .u8, none] := by kernel_rfl
theorem fits69 {x : W10} (h : x.ok) : FitsL [some .u8, some .u8, some .u8, some .u8, some .i64, some .u8, some .u8, some .u8, some .u8, none] x.cells :=
  ⟨⟨_, rfl, h.n.1⟩, ⟨_, rfl, h.n.2.1⟩, ⟨_, rfl, h.n.2.2.1⟩, ⟨_, rfl, h.n.2.2.2⟩, ⟨_, rfl, h.bits⟩, ⟨_, rfl, h.g.1⟩, ⟨_, rfl, h.g.2.1⟩, ⟨_, rfl, h.g.2.2.1⟩, ⟨_, rfl, h.g.2.2.2⟩, ⟨_, rfl⟩, trivial⟩
theorem neq69 {x : W10} (h : x.ok) (w : World) : (binOp .neq 69 (.agg x.cells.toArray) (.agg x.cells.toArray)).run Try.prog w = .ok (.bool false) w :=
  run_neq_flat (P := Try.prog) flat69 (by kernel_rfl) (fits69 h) (fits69 h) (by kernel_rfl) (by kernel_rfl) true (iff_of_true rfl rfl) w
/-- Blocks made later leave both tables. -/
theorem Tw.other {N : Nat} {w0 w w' : World} {g m gr : Nat} {L R : List W10} {lv lr : Value} (hN : w0.heap.size ≤ w.heap.size) (h : Tw N w0 w g m gr L R lv lr) (f : Fr (fun i => w.heap.size ≤ i) w w') : Tw N w0 w' g m gr L R lv lr := by
  have hg := lt_of_block h.pt.blk
  have hr := lt_of_block h.rr.blk
  have hm : m < w.heap.size := by
    obtain ⟨⟨es, ⟨es1, ck, h3, _⟩, _⟩, _⟩ := h.pt.map
    exact lt_of_block h3
  exact ⟨h.pt.frS f (by omega) (by omega) (fun k hk => by have := (h.pt.sl.lt k hk).2; omega), h.rr.frS f (by omega) (fun k hk => by have := (h.rr.sl.lt k hk).2; omega), h.hr,
    h.fr.trans f (fun i hi e => by omega)⟩
theorem findX_ok {L : List W10} {ip : I4} (hi : ip.ok) (hok : ∀ p ∈ L, p.ok) : (findA L ip).ok := by
  unfold findA
  have spec := bst_spec ip L 0 none
  cases hb : bst ip L 0 none with
  | none => exact I4.zero_ok
  | some p =>
    obtain ⟨h1, _, _⟩ := spec.2 p hb
    rcases h1 with h1 | ⟨hpm, _⟩
    · cases h1
    simp only
    split
    · exact (hok _ hpm).g
    · exact hi
/-- What both tables' list is. -/
def JX (L : List W10) : Prop := (∀ p ∈ L, mayW p = true) ∧ L.length ≤ 8
theorem JX.add {L : List W10} (h : JX L) (x : W10) : JX (addL L x) := by
  unfold addL
  split
  · rename_i hm
    split
    · rename_i i hi
      refine ⟨fun p hp => ?_, by rw [List.length_set]; exact h.2⟩
      rcases List.mem_or_eq_of_mem_set hp with hp | rfl
      · exact h.1 p hp
      · exact hm
    · split
      · exact h
      · rename_i h8
        refine ⟨fun p hp => ?_, by rw [List.length_append]; have := h.2; simp; omega⟩
        rcases List.mem_append.1 hp with hp | hp
        · exact h.1 p hp
        · rw [List.mem_singleton.1 hp]; exact hm
  · exact h
theorem JX.drop {L : List W10} (h : JX L) (k : I4) (b : Int) : JX (dropL L k b) := by
  unfold dropL
  split
  · rename_i i hi
    rw [← List.eraseIdx_eq_take_drop_succ]
    exact ⟨fun p hp => h.1 p (List.mem_of_mem_eraseIdx hp), Nat.le_trans (List.length_eraseIdx_le _ _) h.2⟩
  · exact h
/-- The way that the law writes over what it was given. -/
def w99 : W10 := ⟨I4.zero, 99, I4.zero, false⟩
theorem w99_set {L : List W10} {k : Nat} (h : k < L.length) : (List.replicate k w99 ++ L.drop k).set k w99 = List.replicate (k + 1) w99 ++ L.drop (k + 1) := by
  rw [List.set_append_right _ _ (by simp), List.length_replicate, Nat.sub_self, List.drop_eq_getElem_cons h, List.set_cons_zero, List.replicate_succ', List.append_assoc]
  rfl
set_option maxHeartbeats 16000000 in
set_option maxRecDepth 100000 in
theorem does8 (A : Option Addr) (n cap : Nat) (os : List O11) (W : World) (hA : OpsIn W A n os) (hcap : n ≤ cap) :
    Calls Try.prog 8 #[.slice A n cap] W fun e w' => e = .returned (.bool true) ∧ Fr (fun _ => False) W w' := by
  have HA := Lib.hid hA
  have htop := hA.top
  clear hA
  go_enter Try.func8, Try.ntmps8
  go_upto_region 2 with (go_at_call 28; refine (awake28 W).mono ?_; rintro e w2 ⟨rfl, f2⟩; have F2 := Lib.hid f2; clear f2)
  go_upto_region 3 with (go_at_call 29; refine (new29 w2).mono ?_; rintro e w3 ⟨g, m, rfl, hp, f⟩; have P3 := Lib.hid hp; have F3 := Lib.hid f; clear hp f)
  obtain ⟨N, hN⟩ : ∃ N, w2.heap.size = N := ⟨_, rfl⟩
  have HN := Lib.hid (show W.heap.size ≤ N by have := F2.out.size; omega)
  go_upto_region 4 with (fail)
  have BR := Lib.hid (heap_alloc_new w3 (.cells #[.slice none 0 0] 67))
  have F4 := Lib.hid ((Fr.refl (fun _ => False) w3).alloc (.cells #[.slice none 0 0] 67))
  have hz3 := F3.out.size
  generalize w3.alloc (.cells #[.slice none 0 0] 67) = w4 at BR F4 ⊢
  obtain ⟨gr, hgr⟩ : ∃ k, w3.heap.size = k := ⟨_, rfl⟩
  have HGR := Lib.hid (show N ≤ gr by omega)
  have HZ4 := Lib.hid (show N ≤ w4.heap.size by have := F4.out.size; omega)
  rw [hgr] at BR ⊢
  rw [hN] at P3
  clear hgr hz3 hN
  obtain ⟨lv4, hp4⟩ : ∃ lv, PtAt N w3 g m [] lv := ⟨_, P3.out⟩
  have T4 := Lib.hid (show Tw N W w4 g m gr [] [] lv4 (.slice none 0 0) from ⟨hp4.fr F4.out, ⟨BR.out, Sl.nil _ _ _ _, (by simp [Value.ownBlock]), (fun p hp => by cases hp)⟩, HGR.out, (F2.out.then' F3.out).then' F4.out⟩)
  clear hp4 P3 BR
  go_upto_region 7 with (fail)
  go_wp2_with fail
  go_loopw [6] (fun v wr => ∃ (i : Nat) (L : List W10) (lv lr : Value), v = .int .i64 i ∧ i ≤ n ∧ JX L ∧ Tw N W wr g m gr L L lv lr ∧ N ≤ wr.heap.size) (fun v _ => n - (intOf v).toNat)
  case atStart => exact ⟨0, [], lv4, _, rfl, Nat.zero_le _, ⟨(fun p hp => by cases hp), by decide⟩, T4.out, HZ4.out⟩
  case round =>
    obtain ⟨i, L, lv, lr, rfl, hi, hj, ht, hz⟩ := hrel
    have HJ := Lib.hid hj
    have HT := Lib.hid ht
    have HZ := Lib.hid hz
    clear hj ht hz
    by_cases hlt : i < n
    · obtain ⟨o, ho⟩ : ∃ o, os[i]? = some o := ⟨_, List.getElem?_eq_getElem (by rw [HA.out.len]; exact hlt)⟩
      have HXO := Lib.hid (HA.out.ok o (List.mem_of_getElem? ho))
      obtain ⟨b, off, rfl, _, hc⟩ := (HA.out.fr HT.out.fr).here (by omega)
      have hro := hc i o ho
      have RX := Lib.hid (show wr.rangeAt b (off + i * 11 + 1) o.way.cells from range_part hro 1 10)
      have CK := Lib.hid (show wr.cell? ⟨b, off + i * 11, none⟩ = some (.int .i64 o.kind) from hro 0 _ rfl)
      have HO := Lib.hid ho
      clear hc ho hro
      have hic : i < cap := by omega
      iterate 60 (first
        | (have := MK1; clear this)
        | (refine wpList_load_mid rfl 69 _ rfl b (off + i * 11 + 1) rfl [.int .u8 o.way.n.a, .int .u8 o.way.n.b, .int .u8 o.way.n.c, .int .u8 o.way.n.d, .int .i64 o.way.bits, .int .u8 o.way.g.a, .int .u8 o.way.g.b, .int .u8 o.way.g.c, .int .u8 o.way.g.d, .bool o.way.via] _ RX.out Try.underlying69 rfl (by kernel_rfl) ?_; have MK1 := Lib.hid True.intro)
        | go_step)
      go_upto_region 10 with (fail)
      have B7 := Lib.hid (heap_alloc_new wr (.cells #[.int .u8 o.way.n.a, .int .u8 o.way.n.b, .int .u8 o.way.n.c, .int .u8 o.way.n.d, .int .i64 o.way.bits, .int .u8 o.way.g.a, .int .u8 o.way.g.b, .int .u8 o.way.g.c, .int .u8 o.way.g.d, .bool o.way.via] 69))
      have F5 := Lib.hid ((Fr.refl (fun _ => False) wr).alloc (.cells #[.int .u8 o.way.n.a, .int .u8 o.way.n.b, .int .u8 o.way.n.c, .int .u8 o.way.n.d, .int .i64 o.way.bits, .int .u8 o.way.g.a, .int .u8 o.way.g.b, .int .u8 o.way.g.c, .int .u8 o.way.g.d, .bool o.way.via] 69))
      generalize wr.alloc (.cells #[.int .u8 o.way.n.a, .int .u8 o.way.n.b, .int .u8 o.way.n.c, .int .u8 o.way.n.d, .int .i64 o.way.bits, .int .u8 o.way.g.a, .int .u8 o.way.g.b, .int .u8 o.way.g.c, .int .u8 o.way.g.d, .bool o.way.via] 69) = w5 at B7 F5 ⊢
      obtain ⟨b7, hb7⟩ : ∃ k, wr.heap.size = k := ⟨_, rfl⟩
      have HLR := Lib.hid (show lr.ownBlock ≠ some b7 from fun e => by have := (HT.out.rr.sl.lt _ e).2; omega)
      have HGB := Lib.hid (show b7 ≠ gr from by have := lt_of_block HT.out.rr.blk; omega)
      rw [hb7] at B7 ⊢
      clear hb7
      have CK5 := Lib.hid (show w5.cell? ⟨b, off + i * 11, none⟩ = some (.int .i64 o.kind) from by
        obtain ⟨b', off', e, _, hc⟩ := (HA.out.fr (HT.out.fr.then' F5.out)).here (by omega)
        cases e
        exact hc i o HO.out 0 _ rfl)
      obtain ⟨kd, hkd⟩ : ∃ kd, o.kind = kd := ⟨_, rfl⟩
      have c0 := CK5.out
      rw [hkd] at c0
      have T5 := Lib.hid (HT.out.stay F5.out)
      have Z5 := Lib.hid (show N ≤ w5.heap.size by have h1 := HZ.out; have h2 := F5.out.size; omega)
      have HB7 := Lib.hid (fun (w' : World) (h : w'.heap[b7]? = some (.cells #[.int .u8 o.way.n.a, .int .u8 o.way.n.b, .int .u8 o.way.n.c, .int .u8 o.way.n.d, .int .i64 o.way.bits, .int .u8 o.way.g.a, .int .u8 o.way.g.b, .int .u8 o.way.g.c, .int .u8 o.way.g.d, .bool o.way.via] 69)) => show w'.rangeAt b7 0 o.way.cells from range_at w' b7 o.way.cells 69 h)
      have HB7d := Lib.hid (((Fr.refl (fun _ => False) w5).drew.block b7 (lt_of_block B7.out) (fun e => e)).trans B7.out)
      have T5d := Lib.hid (T5.out.stay (Fr.refl _ w5).drew)
      have Z5d := Lib.hid (show N ≤ w5.drew.heap.size by have h1 := Z5.out; have h2 := ((Fr.refl (fun _ => False) w5).drew).size; omega)
      go_upto_block 2 with (fail)
      go_cut [8] (fun v8 wc => v8 = .bool true ∧ ∃ L' lv' lr', JX L' ∧ Tw N W wc g m gr L' L' lv' lr' ∧ N ≤ wc.heap.size ∧ wc.heap[b7]? = some (.cells #[.int .u8 o.way.n.a, .int .u8 o.way.n.b, .int .u8 o.way.n.c, .int .u8 o.way.n.d, .int .i64 o.way.bits, .int .u8 o.way.g.a, .int .u8 o.way.g.b, .int .u8 o.way.g.c, .int .u8 o.way.g.d, .bool o.way.via] 69))
      case first =>
        by_cases h0 : kd = 0
        · subst h0
          as_aux_lemma =>
          obtain ⟨r, hr⟩ : ∃ r, addE L o.way = r := ⟨_, rfl⟩
          obtain ⟨L', hl⟩ : ∃ L', addL L o.way = L' := ⟨_, rfl⟩
          have HRL := Lib.hid (And.intro hr hl)
          have HJ' := Lib.hid (show JX L' from hl ▸ HJ.out.add o.way)
          clear hr hl
          go_upto_region 13 with (fail)
          refine kr_start [(1, fun W => W.rangeAt b7 0 o.way.cells), (4, fun W => W.rangeAt b7 0 o.way.cells)] (by kernel_rfl) (by kernel_rfl) ?_
          refine kr_find 0 rfl (by kernel_rfl) (by kernel_rfl) (by kernel_rfl) (fun _ _ _ _ h => h) (by rfl) trivial ?_
          apply Exists.intro; apply And.intro
          · intro w' hS K hK
            clear hS
            go_light
            go_simp
            exact hK.out
          try simp only [Act.put, List.getElem_toArray, List.getElem_cons_zero, List.getElem_cons_succ, List.setIfInBounds_toArray, List.set_cons_zero, List.set_cons_succ]
          refine kr_take 1 rfl (by kernel_rfl) (by kernel_rfl) (by kernel_rfl) (fun _ _ _ h => h) (yieldsIf_load_mid (by rfl) 69 _ rfl (b7) (0) rfl (o.way.cells) _ (fun _ h => h) Try.underlying69 rfl (by kernel_rfl)) (show _ from (HB7.out _ HB7d.out)) ?_
          try simp only [Act.put, List.getElem_toArray, List.getElem_cons_zero, List.getElem_cons_succ, List.setIfInBounds_toArray, List.set_cons_zero, List.set_cons_succ]
          refine kr_find 3 rfl (by kernel_rfl) (by kernel_rfl) (by kernel_rfl) (fun _ _ _ _ h => h) (by rfl) trivial ?_
          apply Exists.intro; apply And.intro
          · intro w' hS K hK
            clear hS
            go_light
            go_simp
            exact hK.out
          try simp only [Act.put, List.getElem_toArray, List.getElem_cons_zero, List.getElem_cons_succ, List.setIfInBounds_toArray, List.set_cons_zero, List.set_cons_succ]
          refine kr_take 4 rfl (by kernel_rfl) (by kernel_rfl) (by kernel_rfl) (fun _ _ _ h => h) (yieldsIf_load_mid (by rfl) 69 _ rfl (b7) (0) rfl (o.way.cells) _ (fun _ h => h) Try.underlying69 rfl (by kernel_rfl)) (show _ from (HB7.out _ HB7d.out)) ?_
          try simp only [Act.put, List.getElem_toArray, List.getElem_cons_zero, List.getElem_cons_succ, List.setIfInBounds_toArray, List.set_cons_zero, List.set_cons_succ]
          refine kr_one 2 (by kernel_rfl) rfl (by rfl) (fun K hK => ?_)
          go_simp
          go_at_call 30
          refine (tw_add o.way HXO.out HN.out Z5d.out T5d.out HJ.out.2 HRL.out.1 HRL.out.2).mono ?_
          rintro e w6 ⟨rfl, ⟨lv6, ht⟩, hz, hk⟩
          have T6 := Lib.hid ht
          have Z6 := Lib.hid hz
          have K6 := Lib.hid hk
          clear ht hz hk
          have HB76 := Lib.hid (K6.out _ _ _ HB7d.out (by decide) (by decide))
          refine hK.out _ _ ⟨.inl (by kernel_rfl), .inr (HB7.out _ HB76.out), trivial⟩ ?_
          clear hK K
          try simp only [Act.put, List.getElem_toArray, List.getElem_cons_zero, List.getElem_cons_succ, List.setIfInBounds_toArray, List.set_cons_zero, List.set_cons_succ]
          refine kr_one 5 (by kernel_rfl) rfl (by rfl) (fun K hK => ?_)
          go_simp
          go_at_call 31
          refine (tw_radd o.way HXO.out HN.out (Nat.le_trans Z5d.out Z6.out) T6.out HJ.out.2 HRL.out.1 HRL.out.2).mono ?_
          rintro e w7 ⟨rfl, ⟨lr7, ht⟩, hz, hk⟩
          have T7 := Lib.hid ht
          have Z7 := Lib.hid hz
          have K7 := Lib.hid hk
          clear ht hz hk
          refine hK.out _ _ ⟨.inl (by kernel_rfl), .inl (by kernel_rfl), trivial⟩ ?_
          clear hK K
          try simp only [Act.put, List.getElem_toArray, List.getElem_cons_zero, List.getElem_cons_succ, List.setIfInBounds_toArray, List.set_cons_zero, List.set_cons_succ]
          refine kr_find 6 rfl (by kernel_rfl) (by kernel_rfl) (by kernel_rfl) (fun _ _ _ _ h => h) (by rfl) trivial ?_
          apply Exists.intro; apply And.intro
          · intro w' hS K hK
            clear hS
            go_light
            go_simp
            exact hK.out
          try simp only [Act.put, List.getElem_toArray, List.getElem_cons_zero, List.getElem_cons_succ, List.setIfInBounds_toArray, List.set_cons_zero, List.set_cons_succ]
          refine kr_find 7 rfl (by kernel_rfl) (by kernel_rfl) (by kernel_rfl) (fun _ _ _ _ h => h) (by rfl) trivial ?_
          apply Exists.intro; apply And.intro
          · intro w' hS K hK
            clear hS
            go_light
            go_simp
            exact hK.out
          try simp only [Act.put, List.getElem_toArray, List.getElem_cons_zero, List.getElem_cons_succ, List.setIfInBounds_toArray, List.set_cons_zero, List.set_cons_succ]
          refine kr_done (by kernel_rfl) ?_ _
          go_wp2_with fail
          go_meet
          exact ⟨by simp, L', lv6, lr7, HJ'.out, T7.out, Nat.le_trans Z5d.out (Nat.le_trans Z6.out Z7.out), (K7.out b7 (lt_of_block HB76.out) HGB.out HLR.out).trans HB76.out⟩
        · by_cases h1 : kd = 1
          · subst h1
            as_aux_lemma =>
            clear h0
            obtain ⟨r, hr⟩ : ∃ r, dropE L o.way.n o.way.bits = r := ⟨_, rfl⟩
            obtain ⟨L', hl⟩ : ∃ L', dropL L o.way.n o.way.bits = L' := ⟨_, rfl⟩
            have HRL := Lib.hid (And.intro hr hl)
            have HJ' := Lib.hid (show JX L' from hl ▸ HJ.out.drop o.way.n o.way.bits)
            clear hr hl
            go_upto_region 15 with (fail)
            refine kr_start [(2, fun W => W.rangeAt b7 0 o.way.n.cells), (4, fun W => W.cell? ⟨b7, 4, none⟩ = some (.int .i64 o.way.bits)), (8, fun W => W.rangeAt b7 0 o.way.n.cells), (10, fun W => W.cell? ⟨b7, 4, none⟩ = some (.int .i64 o.way.bits))] (by kernel_rfl) (by kernel_rfl) ?_
            refine kr_find 0 rfl (by kernel_rfl) (by kernel_rfl) (by kernel_rfl) (fun _ _ _ _ h => h) (by rfl) trivial ?_
            apply Exists.intro; apply And.intro
            · intro w' hS K hK
              clear hS
              go_light
              go_simp
              exact hK.out
            try simp only [Act.put, List.getElem_toArray, List.getElem_cons_zero, List.getElem_cons_succ, List.setIfInBounds_toArray, List.set_cons_zero, List.set_cons_succ]
            refine kr_find 1 rfl (by kernel_rfl) (by kernel_rfl) (by kernel_rfl) (fun _ _ _ _ h => h) (by rfl) trivial ?_
            apply Exists.intro; apply And.intro
            · intro w' hS K hK
              clear hS
              go_light
              go_simp
              exact hK.out
            try simp only [Act.put, List.getElem_toArray, List.getElem_cons_zero, List.getElem_cons_succ, List.setIfInBounds_toArray, List.set_cons_zero, List.set_cons_succ]
            refine kr_take 2 rfl (by kernel_rfl) (by kernel_rfl) (by kernel_rfl) (fun _ _ _ h => h) (yieldsIf_load_mid (by rfl) 45 _ rfl (b7) (0) rfl (o.way.n.cells) _ (fun _ h => h) Try.underlying45 rfl (by kernel_rfl)) (show _ from (range_part (HB7.out _ HB7d.out) 0 4)) ?_
            try simp only [Act.put, List.getElem_toArray, List.getElem_cons_zero, List.getElem_cons_succ, List.setIfInBounds_toArray, List.set_cons_zero, List.set_cons_succ]
            refine kr_find 3 rfl (by kernel_rfl) (by kernel_rfl) (by kernel_rfl) (fun _ _ _ _ h => h) (by rfl) trivial ?_
            apply Exists.intro; apply And.intro
            · intro w' hS K hK
              clear hS
              go_light
              go_simp
              exact hK.out
            try simp only [Act.put, List.getElem_toArray, List.getElem_cons_zero, List.getElem_cons_succ, List.setIfInBounds_toArray, List.set_cons_zero, List.set_cons_succ]
            refine kr_find 4 rfl (by kernel_rfl) (by kernel_rfl) (by kernel_rfl) (fun _ _ _ _ h => h) (by rfl) (show _ from (HB7.out _ HB7d.out 4 _ rfl)) ?_
            apply Exists.intro; apply And.intro
            · intro w' hS K hK
              have hS : w'.cell? ⟨b7, 4, none⟩ = some (.int .i64 o.way.bits) := hS
              go_light
              go_simp
              exact hK.out
            try simp only [Act.put, List.getElem_toArray, List.getElem_cons_zero, List.getElem_cons_succ, List.setIfInBounds_toArray, List.set_cons_zero, List.set_cons_succ]
            refine kr_find 6 rfl (by kernel_rfl) (by kernel_rfl) (by kernel_rfl) (fun _ _ _ _ h => h) (by rfl) trivial ?_
            apply Exists.intro; apply And.intro
            · intro w' hS K hK
              clear hS
              go_light
              go_simp
              exact hK.out
            try simp only [Act.put, List.getElem_toArray, List.getElem_cons_zero, List.getElem_cons_succ, List.setIfInBounds_toArray, List.set_cons_zero, List.set_cons_succ]
            refine kr_find 7 rfl (by kernel_rfl) (by kernel_rfl) (by kernel_rfl) (fun _ _ _ _ h => h) (by rfl) trivial ?_
            apply Exists.intro; apply And.intro
            · intro w' hS K hK
              clear hS
              go_light
              go_simp
              exact hK.out
            try simp only [Act.put, List.getElem_toArray, List.getElem_cons_zero, List.getElem_cons_succ, List.setIfInBounds_toArray, List.set_cons_zero, List.set_cons_succ]
            refine kr_take 8 rfl (by kernel_rfl) (by kernel_rfl) (by kernel_rfl) (fun _ _ _ h => h) (yieldsIf_load_mid (by rfl) 45 _ rfl (b7) (0) rfl (o.way.n.cells) _ (fun _ h => h) Try.underlying45 rfl (by kernel_rfl)) (show _ from (range_part (HB7.out _ HB7d.out) 0 4)) ?_
            try simp only [Act.put, List.getElem_toArray, List.getElem_cons_zero, List.getElem_cons_succ, List.setIfInBounds_toArray, List.set_cons_zero, List.set_cons_succ]
            refine kr_find 9 rfl (by kernel_rfl) (by kernel_rfl) (by kernel_rfl) (fun _ _ _ _ h => h) (by rfl) trivial ?_
            apply Exists.intro; apply And.intro
            · intro w' hS K hK
              clear hS
              go_light
              go_simp
              exact hK.out
            try simp only [Act.put, List.getElem_toArray, List.getElem_cons_zero, List.getElem_cons_succ, List.setIfInBounds_toArray, List.set_cons_zero, List.set_cons_succ]
            refine kr_find 10 rfl (by kernel_rfl) (by kernel_rfl) (by kernel_rfl) (fun _ _ _ _ h => h) (by rfl) (show _ from (HB7.out _ HB7d.out 4 _ rfl)) ?_
            apply Exists.intro; apply And.intro
            · intro w' hS K hK
              have hS : w'.cell? ⟨b7, 4, none⟩ = some (.int .i64 o.way.bits) := hS
              go_light
              go_simp
              exact hK.out
            try simp only [Act.put, List.getElem_toArray, List.getElem_cons_zero, List.getElem_cons_succ, List.setIfInBounds_toArray, List.set_cons_zero, List.set_cons_succ]
            refine kr_one 5 (by kernel_rfl) rfl (by rfl) (fun K hK => ?_)
            go_simp
            go_at_call 32
            refine (tw_drop o.way.n o.way.bits ⟨HXO.out.n, HXO.out.bits⟩ HN.out Z5d.out T5d.out HJ.out.2 HRL.out.1 HRL.out.2).mono ?_
            rintro e w6 ⟨rfl, ⟨lv6, ht⟩, hz, hk⟩
            have T6 := Lib.hid ht
            have Z6 := Lib.hid hz
            have K6 := Lib.hid hk
            clear ht hz hk
            have HB76 := Lib.hid (K6.out _ _ _ HB7d.out (by decide) (by decide))
            refine hK.out _ _ ⟨.inl (by kernel_rfl), .inl (by kernel_rfl), .inr (range_part (HB7.out _ HB76.out) 0 4), .inr (HB7.out _ HB76.out 4 _ rfl), trivial⟩ ?_
            clear hK K
            try simp only [Act.put, List.getElem_toArray, List.getElem_cons_zero, List.getElem_cons_succ, List.setIfInBounds_toArray, List.set_cons_zero, List.set_cons_succ]
            refine kr_one 11 (by kernel_rfl) rfl (by rfl) (fun K hK => ?_)
            go_simp
            go_at_call 33
            refine (tw_rdrop o.way.n o.way.bits HXO.out.n HN.out (Nat.le_trans Z5d.out Z6.out) T6.out HJ.out.2 HRL.out.1 HRL.out.2).mono ?_
            rintro e w7 ⟨rfl, ⟨lr7, ht⟩, hz, hk⟩
            have T7 := Lib.hid ht
            have Z7 := Lib.hid hz
            have K7 := Lib.hid hk
            clear ht hz hk
            refine hK.out _ _ ⟨.inl (by kernel_rfl), .inl (by kernel_rfl), .inl (by kernel_rfl), .inl (by kernel_rfl), trivial⟩ ?_
            clear hK K
            try simp only [Act.put, List.getElem_toArray, List.getElem_cons_zero, List.getElem_cons_succ, List.setIfInBounds_toArray, List.set_cons_zero, List.set_cons_succ]
            refine kr_find 12 rfl (by kernel_rfl) (by kernel_rfl) (by kernel_rfl) (fun _ _ _ _ h => h) (by rfl) trivial ?_
            apply Exists.intro; apply And.intro
            · intro w' hS K hK
              clear hS
              go_light
              go_simp
              exact hK.out
            try simp only [Act.put, List.getElem_toArray, List.getElem_cons_zero, List.getElem_cons_succ, List.setIfInBounds_toArray, List.set_cons_zero, List.set_cons_succ]
            refine kr_find 13 rfl (by kernel_rfl) (by kernel_rfl) (by kernel_rfl) (fun _ _ _ _ h => h) (by rfl) trivial ?_
            apply Exists.intro; apply And.intro
            · intro w' hS K hK
              clear hS
              go_light
              go_simp
              exact hK.out
            try simp only [Act.put, List.getElem_toArray, List.getElem_cons_zero, List.getElem_cons_succ, List.setIfInBounds_toArray, List.set_cons_zero, List.set_cons_succ]
            refine kr_done (by kernel_rfl) ?_ _
            go_wp2_with fail
            go_meet
            exact ⟨by simp, L', lv6, lr7, HJ'.out, T7.out, Nat.le_trans Z5d.out (Nat.le_trans Z6.out Z7.out), (K7.out b7 (lt_of_block HB76.out) HGB.out HLR.out).trans HB76.out⟩
          · as_aux_lemma =>
            go_wp2_with fail
            go_meet
            exact ⟨rfl, L, lv, lr, HJ.out, T5.out, Z5.out, B7.out⟩
      case rest =>
      obtain ⟨rfl, L', lv', lr', hj, ht, hz, hb⟩ := hcut
      obtain ⟨w6, hw6⟩ : ∃ y, y = wc := ⟨_, rfl⟩
      subst hw6
      have HJ2 := Lib.hid hj
      have T6 := Lib.hid ht
      have Z6 := Lib.hid hz
      have B6 := Lib.hid hb
      clear hj ht hz hb c0
      have HN6 := Lib.hid (show w6.rangeAt b7 0 [.int .u8 o.way.n.a, .int .u8 o.way.n.b, .int .u8 o.way.n.c, .int .u8 o.way.n.d] from range_part (HB7.out w6 B6.out) 0 4)
      obtain ⟨ra, hra⟩ : ∃ ra, findA L' o.way.n = ra := ⟨_, rfl⟩
      obtain ⟨re, hre⟩ : ∃ re, findE L' o.way.n = re := ⟨_, rfl⟩
      have HFE := Lib.hid (And.intro hra hre)
      have HRA := Lib.hid (show ra.ok from hra ▸ findX_ok HXO.out.n T6.out.pt.ok)
      clear hra hre
      iterate 60 (first
        | (have := MK4; clear this)
        | (refine wpList_load_mid rfl 45 _ rfl b7 0 rfl [.int .u8 o.way.n.a, .int .u8 o.way.n.b, .int .u8 o.way.n.c, .int .u8 o.way.n.d] _ HN6.out Try.underlying45 rfl (by kernel_rfl) ?_; have MK4 := Lib.hid True.intro)
        | go_step)
      go_upto_region 17 with (go_at_call 34; refine (tw_find o.way.n HXO.out.n T6.out HJ2.out.2 HJ2.out.1 HFE.out).mono ?_; rintro e w8 ⟨rfl, ht, f⟩; have T8 := Lib.hid ht; have F8 := Lib.hid f; clear ht f)
      have B9 := Lib.hid (heap_alloc_new w8 (.cells #[.int .u8 ra.a, .int .u8 ra.b, .int .u8 ra.c, .int .u8 ra.d] 45))
      have F9 := Lib.hid ((Fr.refl (fun _ => False) w8).alloc (.cells #[.int .u8 ra.a, .int .u8 ra.b, .int .u8 ra.c, .int .u8 ra.d] 45))
      generalize w8.alloc (.cells #[.int .u8 ra.a, .int .u8 ra.b, .int .u8 ra.c, .int .u8 ra.d] 45) = w9 at B9 F9 ⊢
      obtain ⟨b9, hb9⟩ : ∃ k, w8.heap.size = k := ⟨_, rfl⟩
      rw [hb9] at B9 ⊢
      clear hb9
      have T9 := Lib.hid (T8.out.stay F9.out)
      have HN9 := Lib.hid (show w9.rangeAt b7 0 [.int .u8 o.way.n.a, .int .u8 o.way.n.b, .int .u8 o.way.n.c, .int .u8 o.way.n.d] from range_part (HB7.out w9 (((F8.out.then' F9.out).block b7 (lt_of_block B6.out) (fun e => e)).trans B6.out)) 0 4)
      iterate 60 (first
        | (have := MK5; clear this)
        | (refine wpList_load_mid rfl 45 _ rfl b7 0 rfl [.int .u8 o.way.n.a, .int .u8 o.way.n.b, .int .u8 o.way.n.c, .int .u8 o.way.n.d] _ HN9.out Try.underlying45 rfl (by kernel_rfl) ?_; have MK5 := Lib.hid True.intro)
        | go_step)
      go_upto_region 18 with (go_at_call 35; refine (tw_rfind o.way.n HXO.out.n T9.out HJ2.out.2 HJ2.out.1 HFE.out).mono ?_; rintro e w10 ⟨rfl, ht, f⟩; have T10 := Lib.hid ht; have F10 := Lib.hid f; clear ht f)
      have B11 := Lib.hid (heap_alloc_new w10 (.cells #[.int .u8 ra.a, .int .u8 ra.b, .int .u8 ra.c, .int .u8 ra.d] 45))
      have F11 := Lib.hid ((Fr.refl (fun _ => False) w10).alloc (.cells #[.int .u8 ra.a, .int .u8 ra.b, .int .u8 ra.c, .int .u8 ra.d] 45))
      generalize w10.alloc (.cells #[.int .u8 ra.a, .int .u8 ra.b, .int .u8 ra.c, .int .u8 ra.d] 45) = w11 at B11 F11 ⊢
      obtain ⟨b11, hb11⟩ : ∃ k, w10.heap.size = k := ⟨_, rfl⟩
      rw [hb11] at B11 ⊢
      clear hb11
      have T11 := Lib.hid (T10.out.stay F11.out)
      have Z11 := Lib.hid (show N ≤ w11.heap.size by have h1 := Z6.out; have h2 := F8.out.size; have h3 := F9.out.size; have h4 := F10.out.size; have h5 := F11.out.size; omega)
      obtain ⟨ln, hln⟩ : ∃ k, L'.length = k := ⟨_, rfl⟩
      have HLN := Lib.hid hln
      have hln8 : ln ≤ 8 := by rw [← hln]; exact HJ2.out.2
      go_upto_region 19 with (go_at_call 36; refine (all36 N g m L' lv' w11 T11.out.pt HJ2.out.2).mono ?_; rw [hln]; rintro e w12 ⟨v12, rfl, s12, f12⟩; obtain ⟨A12, c12, hv12, hc12, _⟩ := s12.form; subst hv12; have S12 := Lib.hid s12; have F12 := Lib.hid f12; clear s12 f12)
      clear hln
      have T12 := Lib.hid (T11.out.stay F12.out)
      have R9 := Lib.hid (show w12.rangeAt b9 0 [.int .u8 ra.a, .int .u8 ra.b, .int .u8 ra.c, .int .u8 ra.d] from range_at w12 b9 [.int .u8 ra.a, .int .u8 ra.b, .int .u8 ra.c, .int .u8 ra.d] 45 (((F10.out.then' (F11.out.then' F12.out)).block b9 (lt_of_block B9.out) (fun e => e)).trans B9.out))
      have R11 := Lib.hid (show w12.rangeAt b11 0 [.int .u8 ra.a, .int .u8 ra.b, .int .u8 ra.c, .int .u8 ra.d] from range_at w12 b11 [.int .u8 ra.a, .int .u8 ra.b, .int .u8 ra.c, .int .u8 ra.d] 45 ((F12.out.block b11 (lt_of_block B11.out) (fun e => e)).trans B11.out))
      have HNE := Lib.hid (fun w : World => show (binOp .neq 45 (.agg #[.int .u8 ra.a, .int .u8 ra.b, .int .u8 ra.c, .int .u8 ra.d]) (.agg #[.int .u8 ra.a, .int .u8 ra.b, .int .u8 ra.c, .int .u8 ra.d])).run Try.prog w = .ok (.bool false) w from by rw [neq45x HRA.out HRA.out w]; simp)
      obtain ⟨Ar, cr, hlr, hcr, _⟩ := T12.out.rr.sl.form
      rw [HLN.out] at hlr hcr
      subst hlr
      have cg := T12.out.rr.line
      iterate 200 (first
        | (have := MK6; clear this)
        | (refine wpList_load_when (by rfl) 45 _ rfl b9 0 rfl [.int .u8 ra.a, .int .u8 ra.b, .int .u8 ra.c, .int .u8 ra.d] _ R9.out Try.underlying45 rfl (by kernel_rfl) ?_)
        | (refine wpList_load_when (by rfl) 45 _ rfl b11 0 rfl [.int .u8 ra.a, .int .u8 ra.b, .int .u8 ra.c, .int .u8 ra.d] _ R11.out Try.underlying45 rfl (by kernel_rfl) ?_)
        | (refine wpList_bin_agg (by rfl) .neq 45 45 _ _ rfl rfl rfl (by kernel_rfl) _ (HNE.out w12) ?_; have MK6 := Lib.hid True.intro)
        | go_step)
      go_upto_region 22 with (fail)
      clear cg
      have FL0 := Lib.hid (show Fr (fun i => w11.heap.size ≤ i) w11 w12 from F12.out.mono (fun _ _ e => e.elim))
      go_loopw [14] (fun v wr2 => ∃ k : Nat, v = .int .i64 k ∧ k ≤ ln ∧ Fr (fun i => w11.heap.size ≤ i) w11 wr2 ∧ Sl w11.heap.size 69 10 wr2 (.slice A12 ln c12) ln (wfl (List.replicate k w99 ++ L'.drop k))) (fun v _ => ln - (intOf v).toNat)
      case atStart => exact ⟨0, rfl, Nat.zero_le _, FL0.out, by rw [List.drop_zero]; exact S12.out⟩
      case round =>
        obtain ⟨k, rfl, hk, hf, hs⟩ := hrel
        have HF := Lib.hid hf
        have HS := Lib.hid hs
        clear hf hs
        by_cases hkl : k < ln
        · obtain ⟨q, hq⟩ : ∃ q, L'[k]? = some q := ⟨_, List.getElem?_eq_getElem (by rw [HLN.out]; exact hkl)⟩
          have HQ := Lib.hid hq
          have HQO := Lib.hid (T6.out.pt.ok q (List.mem_of_getElem? hq))
          have hq2 : (List.replicate k w99 ++ L'.drop k)[k]? = some q := by
            rw [List.getElem?_append_right (by simp), List.length_replicate, Nat.sub_self, List.getElem?_drop, Nat.add_zero]
            exact hq
          have TW := Lib.hid (T11.out.other (Nat.le_trans HN.out Z11.out) HF.out)
          obtain ⟨b, off, cap', hv', hbb, _, _, _, _, _⟩ := HS.out.form1 (by omega)
          injection hv' with hv1 _ hv2
          subst hv1; subst hv2
          obtain ⟨br, offr, capr, hvr, _, _, _, _, _, _⟩ := (show Sl N 69 10 wr (.slice Ar ln cr) ln (wfl L') from by have h := TW.out.rr.sl; rw [HLN.out] at h; exact h).form1 (by omega)
          injection hvr with hv1 _ hv2
          subst hv1; subst hv2
          have HBB := Lib.hid hbb
          clear hbb
          have RO := Lib.hid (fun (w' : World) (f : Fr (fun _ => False) wr w') => (HS.out.fr0 f).ways hq2)
          have RR := Lib.hid (fun (w' : World) (f : Fr (fun _ => False) wr w') => show w'.rangeAt br (offr + k * 10) q.cells from by have h := (TW.out.stay f).rr.sl; rw [HLN.out] at h; exact h.ways HQ.out)
          have CG := Lib.hid (fun (w' : World) (f : Fr (fun _ => False) wr w') => show w'.cell? ⟨gr, 0, none⟩ = some (.slice (some ⟨br, offr, none⟩) ln cr) from (TW.out.stay f).rr.line)
          have HN9 := Lib.hid (fun w : World => neq69 HQO.out w)
          have hkc : k < c12 := by omega
          have hkI : (k : Int) < (ln : Int) := by omega
          have hkr : k < cr := by omega
          clear hq hq2
          go_upto_region 24 with (fail)
          go_cut [120] (fun v120 wc => v120 = .bool false ∧ Fr (fun _ => False) wr wc)
          case first =>
            refine kr_start [(3, fun W => W.rangeAt b (off + k * 10) q.cells), (7, fun W => W.cell? ⟨gr, 0, none⟩ = some (.slice (some ⟨br, offr, none⟩) ln cr)), (10, fun W => W.rangeAt br (offr + k * 10) q.cells)] (by kernel_rfl) (by kernel_rfl) ?_
            refine kr_find 0 rfl (by kernel_rfl) (by kernel_rfl) (by kernel_rfl) (fun _ _ _ _ h => h) (by rfl) trivial ?_
            apply Exists.intro; apply And.intro
            · intro w' hS K hK
              clear hS
              go_light
              go_simp
              exact hK.out
            try simp only [Act.put, List.getElem_toArray, List.getElem_cons_zero, List.getElem_cons_succ, List.setIfInBounds_toArray, List.set_cons_zero, List.set_cons_succ]
            refine kr_find 1 rfl (by kernel_rfl) (by kernel_rfl) (by kernel_rfl) (fun _ _ _ _ h => h) (by rfl) trivial ?_
            apply Exists.intro; apply And.intro
            · intro w' hS K hK
              clear hS
              go_light
              go_simp
              exact hK.out
            try simp only [Act.put, List.getElem_toArray, List.getElem_cons_zero, List.getElem_cons_succ, List.setIfInBounds_toArray, List.set_cons_zero, List.set_cons_succ]
            refine kr_find 2 rfl (by kernel_rfl) (by kernel_rfl) (by kernel_rfl) (fun _ _ _ _ h => h) (by rfl) trivial ?_
            apply Exists.intro; apply And.intro
            · intro w' hS K hK
              clear hS
              go_light
              go_simp
              exact hK.out
            try simp only [Act.put, List.getElem_toArray, List.getElem_cons_zero, List.getElem_cons_succ, List.setIfInBounds_toArray, List.set_cons_zero, List.set_cons_succ]
            refine kr_take 3 rfl (by kernel_rfl) (by kernel_rfl) (by kernel_rfl) (fun _ _ _ h => h) (yieldsIf_load_mid (by rfl) 69 _ rfl (b) (off + k * 10) rfl (q.cells) _ (fun _ h => h) Try.underlying69 rfl (by kernel_rfl)) (show _ from RO.out _ (Fr.refl _ wr).drew) ?_
            try simp only [Act.put, List.getElem_toArray, List.getElem_cons_zero, List.getElem_cons_succ, List.setIfInBounds_toArray, List.set_cons_zero, List.set_cons_succ]
            refine kr_find 4 rfl (by kernel_rfl) (by kernel_rfl) (by kernel_rfl) (fun _ _ _ _ h => h) (by rfl) trivial ?_
            apply Exists.intro; apply And.intro
            · intro w' hS K hK
              clear hS
              go_light
              go_simp
              exact hK.out
            try simp only [Act.put, List.getElem_toArray, List.getElem_cons_zero, List.getElem_cons_succ, List.setIfInBounds_toArray, List.set_cons_zero, List.set_cons_succ]
            refine kr_find 5 rfl (by kernel_rfl) (by kernel_rfl) (by kernel_rfl) (fun _ _ _ _ h => h) (by rfl) trivial ?_
            apply Exists.intro; apply And.intro
            · intro w' hS K hK
              clear hS
              go_light
              go_simp
              exact hK.out
            try simp only [Act.put, List.getElem_toArray, List.getElem_cons_zero, List.getElem_cons_succ, List.setIfInBounds_toArray, List.set_cons_zero, List.set_cons_succ]
            refine kr_find 6 rfl (by kernel_rfl) (by kernel_rfl) (by kernel_rfl) (fun _ _ _ _ h => h) (by rfl) trivial ?_
            apply Exists.intro; apply And.intro
            · intro w' hS K hK
              clear hS
              go_light
              go_simp
              exact hK.out
            try simp only [Act.put, List.getElem_toArray, List.getElem_cons_zero, List.getElem_cons_succ, List.setIfInBounds_toArray, List.set_cons_zero, List.set_cons_succ]
            refine kr_find 7 rfl (by kernel_rfl) (by kernel_rfl) (by kernel_rfl) (fun _ _ _ _ h => h) (by rfl) (show _ from CG.out _ (Fr.refl _ wr).drew) ?_
            apply Exists.intro; apply And.intro
            · intro w' hS K hK
              have hS : w'.cell? ⟨gr, 0, none⟩ = some (.slice (some ⟨br, offr, none⟩) ln cr) := hS
              go_light
              go_simp
              exact hK.out
            try simp only [Act.put, List.getElem_toArray, List.getElem_cons_zero, List.getElem_cons_succ, List.setIfInBounds_toArray, List.set_cons_zero, List.set_cons_succ]
            refine kr_find 8 rfl (by kernel_rfl) (by kernel_rfl) (by kernel_rfl) (fun _ _ _ _ h => h) (by rfl) trivial ?_
            apply Exists.intro; apply And.intro
            · intro w' hS K hK
              clear hS
              go_light
              go_simp
              exact hK.out
            try simp only [Act.put, List.getElem_toArray, List.getElem_cons_zero, List.getElem_cons_succ, List.setIfInBounds_toArray, List.set_cons_zero, List.set_cons_succ]
            refine kr_find 9 rfl (by kernel_rfl) (by kernel_rfl) (by kernel_rfl) (fun _ _ _ _ h => h) (by rfl) trivial ?_
            apply Exists.intro; apply And.intro
            · intro w' hS K hK
              clear hS
              go_light
              go_simp
              exact hK.out
            try simp only [Act.put, List.getElem_toArray, List.getElem_cons_zero, List.getElem_cons_succ, List.setIfInBounds_toArray, List.set_cons_zero, List.set_cons_succ]
            refine kr_take 10 rfl (by kernel_rfl) (by kernel_rfl) (by kernel_rfl) (fun _ _ _ h => h) (yieldsIf_load_mid (by rfl) 69 _ rfl (br) (offr + k * 10) rfl (q.cells) _ (fun _ h => h) Try.underlying69 rfl (by kernel_rfl)) (show _ from RR.out _ (Fr.refl _ wr).drew) ?_
            try simp only [Act.put, List.getElem_toArray, List.getElem_cons_zero, List.getElem_cons_succ, List.setIfInBounds_toArray, List.set_cons_zero, List.set_cons_succ]
            refine kr_take 11 rfl (by kernel_rfl) (by kernel_rfl) (by kernel_rfl) (fun _ _ _ h => h) (kr_bin_agg (by rfl) .neq 69 69 _ _ rfl rfl rfl (by kernel_rfl) _ HN9.out) trivial ?_
            try simp only [Act.put, List.getElem_toArray, List.getElem_cons_zero, List.getElem_cons_succ, List.setIfInBounds_toArray, List.set_cons_zero, List.set_cons_succ]
            refine kr_done (by kernel_rfl) ?_ _
            go_wp2_with fail
            go_meet
            exact ⟨rfl, (Fr.refl _ wr).drew⟩
          case rest =>
          obtain ⟨rfl, hwc⟩ := hcut
          have HWC := Lib.hid hwc
          clear hwc
          go_upto_region 26 with (fail)
          have HSc := Lib.hid (HS.out.fr0 HWC.out)
          have HFc := Lib.hid (HF.out.trans HWC.out (fun _ _ e => e.elim))
          iterate 80 (first
            | (have := MK7; clear this)
            | (refine wpList_build bd69 rfl rfl [(1, .int .i64 99)] (by rfl) w99.cells.toArray (by rfl) ?_)
            | (refine wpList_store_mid rfl 69 _ _ rfl b (off + k * 10) w99.cells.toArray rfl rfl (HSc.out.there (k * 10) 10 (by omega)) (by kernel_rfl) (by simp [w99, W10.cells, Value.oneCell']) ?_; have MK7 := Lib.hid True.intro)
            | go_step)
          have HS7 := Lib.hid (HSc.out.setCells w99.cells (wfl (List.replicate k w99 ++ L'.drop k)) wc (k * 10) (by rw [W10.cells_len]; omega))
          have HF7 := Lib.hid (Fr.setCells (S := fun i => w11.heap.size ≤ i) b (fun _ => HBB.out) w99.cells (off + k * 10) wc HFc.out)
          change wpList Try.prog _ _ _ _ (wc.setCells b (off + k * 10) w99.cells)
          generalize wc.setCells b (off + k * 10) w99.cells = w7 at HS7 HF7 ⊢
          go_wp2_with fail
          go_roundw
          case rel =>
            refine ⟨k + 1, by go_num, by omega, HF7.out, ?_⟩
            have h := HS7.out
            rw [wfl_set w99 (by rw [List.length_append, List.length_replicate, List.length_drop, HLN.out]; omega), w99_set (by rw [HLN.out]; exact hkl)] at h
            exact h
          case measure => simp [intOf]; omega
        · go_wp2_with fail
          go_roundw
          case rel => exact ⟨i + 1, L', lv', _, by go_num, by omega, HJ2.out, T11.out.other (Nat.le_trans HN.out Z11.out) HF.out, Nat.le_trans Z11.out HF.out.size⟩
          case measure => simp [intOf]; omega
    · go_wp2_with fail
      go_ret
      exact ⟨rfl, HT.out.fr⟩
end Go.Proofs.Ytcfadmjihccimaa
