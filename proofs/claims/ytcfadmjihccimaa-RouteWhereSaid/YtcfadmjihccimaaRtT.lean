/- RouteWhere: its walk. No condition but the form's sizes. -/
import Derived.Test.YtcfadmjihccimaaRtS
import Derived.Test.YtcfadmjihccimaaFx
namespace Go.Proofs.Ytcfadmjihccimaa
set_option linter.unusedVariables false
set_option linter.unusedSimpArgs false
open Go.RowKit
/-- What came in: a slice of ways. -/
structure WaysIn (w : World) (A : Option Addr) (n : Nat) (ws : List W10) : Prop where
  len : ws.length = n
  ok : ∀ x ∈ ws, x.ok
  top : n ≤ 140737488355328
  here : 0 < n → ∃ b off, A = some ⟨b, off, none⟩ ∧ b < w.heap.size ∧ ∀ i x, ws[i]? = some x → w.rangeAt b (off + i * 10) x.cells
theorem WaysIn.fr {w w' : World} {A : Option Addr} {n : Nat} {ws : List W10} (h : WaysIn w A n ws) (f : Fr (fun _ => False) w w') : WaysIn w' A n ws :=
  ⟨h.len, h.ok, h.top, fun h0 => by
    obtain ⟨b, off, e, hb, hc⟩ := h.here h0
    exact ⟨b, off, e, Nat.lt_of_lt_of_le hb f.size, fun i x hi => range_block (f.block b hb (fun e => e)) (hc i x hi)⟩⟩
/-- What a table's list is. -/
def JW (L : List W10) : Prop := (∀ p ∈ L, mayW p = true) ∧ L.length ≤ 8
theorem JW.add {L : List W10} (h : JW L) (x : W10) : JW (addL L x) := by
  unfold addL
  split
  · rename_i hm
    split
    · rename_i i hi
      refine ⟨fun p hp => ?_, by rw [List.length_set]; exact h.2⟩
      rcases List.mem_or_eq_of_mem_set hp with hp | rfl
      · exact h.1 p hp
      · exact hm
    · split
      · exact h
      · rename_i h8
        refine ⟨fun p hp => ?_, by rw [List.length_append]; have := h.2; simp; omega⟩
        rcases List.mem_append.1 hp with hp | hp
        · exact h.1 p hp
        · rw [List.mem_singleton.1 hp]; exact hm
  · exact h
theorem JW.tl {L : List W10} (h : JW L) (k : Nat) : JW (L.drop k) := ⟨fun p hp => h.1 p (List.mem_of_mem_drop hp), by rw [List.length_drop]; have := h.2; omega⟩
theorem drop_head {L : List W10} {k : Nat} {q : W10} (h : L[k]? = some q) : dropE (L.drop k) q.n q.bits = 0 ∧ dropL (L.drop k) q.n q.bits = L.drop (k + 1) := by
  obtain ⟨hl, e⟩ := List.getElem?_eq_some_iff.1 h
  have hd : L.drop k = q :: L.drop (k + 1) := by rw [← List.getElem_cons_drop hl, e]
  have hf : (L.drop k).findIdx? (keyW q.n q.bits) = some 0 := by
    rw [hd, List.findIdx?_cons]
    have : keyW q.n q.bits q = true := by unfold keyW; simp
    rw [this]; rfl
  unfold dropE dropL
  rw [hf]
  refine ⟨rfl, ?_⟩
  rw [hd]
  rfl
/-- Whether a way tells that neighbour. -/
def goodW (ip ra : I4) (x : W10) : Bool := (x.via && decide (x.g = ra)) || (!x.via && decide (ip = ra))
theorem find_good {L : List W10} {ip : I4} (h : findE L ip ≠ 100) : findE L ip = 0 ∧ L.any (goodW ip (findA L ip)) = true ∧ L ≠ [] := by
  unfold findE findA at *
  have spec := bst_spec ip L 0 none
  cases hb : bst ip L 0 none with
  | none => rw [hb] at h; exact absurd rfl h
  | some p =>
    obtain ⟨h1, _, _⟩ := spec.2 p hb
    rcases h1 with h1 | ⟨hpm, _⟩
    · cases h1
    refine ⟨rfl, ?_, fun e => by rw [e] at hpm; cases hpm⟩
    rw [List.any_eq_true]
    refine ⟨p.2, hpm, ?_⟩
    unfold goodW
    cases hv : p.2.via <;> simp [hv]
theorem findA_ok {L : List W10} {ip : I4} (hi : ip.ok) (hok : ∀ p ∈ L, p.ok) : (findA L ip).ok := by
  unfold findA
  have spec := bst_spec ip L 0 none
  cases hb : bst ip L 0 none with
  | none => exact I4.zero_ok
  | some p =>
    obtain ⟨h1, _, _⟩ := spec.2 p hb
    rcases h1 with h1 | ⟨hpm, _⟩
    · cases h1
    simp only
    split
    · exact (hok _ hpm).g
    · exact hi
theorem Sl.keep {N n : Nat} {w w' : World} {v : Value} {cs : List Value} (h : Sl N 69 10 w v n cs) (k : Keep w w') : Sl N 69 10 w' v n cs :=
  h.heap (fun b hb => by
    obtain ⟨c, h1⟩ := h.tag hb
    rw [k b c 69 h1 (by decide) (by decide), h1])
set_option maxHeartbeats 16000000 in
set_option maxRecDepth 100000 in
theorem where10 (A : Option Addr) (n cap : Nat) (ws : List W10) (key : I4) (W : World) (hA : WaysIn W A n ws) (hcap : n ≤ cap) (hk : key.ok) :
    Calls Try.prog 10 #[.slice A n cap, .agg #[.int .u8 key.a, .int .u8 key.b, .int .u8 key.c, .int .u8 key.d]] W fun e w' => e = .returned (.bool true) ∧ Fr (fun _ => False) W w' := by
  have HA := Lib.hid hA
  have HX := Lib.hid hk
  have htop := hA.top
  have FA := Lib.hid (Fr.refl (fun _ => False) W)
  clear hA hk
  go_enter Try.func10, Try.ntmps10
  go_upto_region 1 with (fail)
  have B0 := Lib.hid (box_at W key.cells 45)
  have F1 := Lib.hid (FA.out.alloc (.cells key.cells.toArray 45))
  unfold I4.cells at B0 F1
  generalize W.alloc (.cells #[.int .u8 key.a, .int .u8 key.b, .int .u8 key.c, .int .u8 key.d] 45) = w1 at B0 F1 ⊢
  obtain ⟨b0, hb0⟩ : ∃ b0, W.heap.size = b0 := ⟨_, rfl⟩
  have HB0 := Lib.hid hb0
  rw [hb0] at B0 ⊢
  clear hb0
  go_upto_region 2 with (go_at_call 28; refine (awake28 w1).mono ?_; rintro e w2 ⟨rfl, f2⟩; have F2 := Lib.hid f2; clear f2)
  go_upto_region 3 with (go_at_call 29; refine (new29 w2).mono ?_; rintro e w3 ⟨g, m, rfl, hp, f⟩; have P3a := Lib.hid hp; have F3 := Lib.hid f; clear hp f)
  obtain ⟨N, hN⟩ : ∃ N, w2.heap.size = N := ⟨_, rfl⟩
  have HN := Lib.hid (show W.heap.size ≤ N by have := F1.out.size; have := F2.out.size; omega)
  have P3 := Lib.hid (show Pt N W w3 g m [] from by have h := P3a.out; rw [hN] at h; exact ⟨_, h, (F1.out.then' F2.out).then' F3.out⟩)
  have Z3 := Lib.hid (show N ≤ w3.heap.size by have := F3.out.size; omega)
  have K3 := Lib.hid (B0.out w3 (F2.out.then' F3.out))
  clear P3a hN B0
  go_upto_region 6 with (fail)
  go_wp2_with fail
  go_loopw [7] (fun v wr => ∃ (i : Nat) (L : List W10), v = .int .i64 i ∧ i ≤ n ∧ JW L ∧ Pt N W wr g m L ∧ N ≤ wr.heap.size ∧ wr.heap[b0]? = some (.cells #[.int .u8 key.a, .int .u8 key.b, .int .u8 key.c, .int .u8 key.d] 45)) (fun v _ => n - (intOf v).toNat)
  case atStart => exact ⟨0, [], rfl, Nat.zero_le _, ⟨(fun p hp => by cases hp), by decide⟩, P3.out, Z3.out, K3.out⟩
  case round =>
    obtain ⟨i, L, rfl, hi, hj, hpt, hz, hkb⟩ := hrel
    have HJ := Lib.hid hj
    have HP := Lib.hid hpt
    have HZ := Lib.hid hz
    have HKB := Lib.hid hkb
    clear hj hpt hz hkb
    by_cases hlt : i < n
    · obtain ⟨x, hx⟩ : ∃ x, ws[i]? = some x := ⟨_, List.getElem?_eq_getElem (by rw [HA.out.len]; exact hlt)⟩
      have HXO := Lib.hid (HA.out.ok x (List.mem_of_getElem? hx))
      obtain ⟨lvx, _, hfw⟩ := HP.out
      obtain ⟨b, off, rfl, _, hc⟩ := (HA.out.fr hfw).here (by omega)
      have RX := Lib.hid (hc i x hx)
      clear hc hx hfw
      have hic : i < cap := by omega
      iterate 60 (first
        | (have := MK1; clear this)
        | (refine wpList_load_mid rfl 69 _ rfl b (off + i * 10) rfl x.cells _ RX.out Try.underlying69 rfl (by kernel_rfl) ?_; have MK1 := Lib.hid True.intro)
        | go_step)
      go_upto_region 7 with (go_at_call 30; refine (add_aw x HXO.out HN.out HZ.out HP.out HJ.out.2 rfl rfl).mono ?_; rintro e w5 ⟨rfl, hp, hz, hk5⟩; have P5 := Lib.hid hp; have Z5 := Lib.hid hz; have K5 := Lib.hid hk5; clear hp hz hk5)
      go_wp2_with fail
      refine ⟨⟨i + 1, addL L x, by go_num, by omega, HJ.out.add x, P5.out, Nat.le_trans HZ.out Z5.out, K5.out _ _ _ HKB.out (by decide) (by decide)⟩, by simp [intOf]; omega⟩
    · obtain ⟨w4, hw4⟩ : ∃ y, y = wr := ⟨_, rfl⟩
      subst hw4
      go_upto_region 9 with (fail)
      clear hlt hi
      have hLO : ∀ p ∈ L, p.ok := by obtain ⟨lvx, hp, _⟩ := HP.out; exact hp.ok
      have hraok := findA_ok (ip := key) (L := L) HX.out hLO
      have hgood := fun h => find_good (L := L) (ip := key) h
      have hdich : findE L key = 0 ∨ findE L key = 100 := by unfold findE; cases bst key L 0 none with | none => exact .inr rfl | some p => exact .inl rfl
      have hnil : L = [] → findE L key = 100 := by rintro rfl; rfl
      obtain ⟨ra, hra⟩ : ∃ ra, findA L key = ra := ⟨_, rfl⟩
      obtain ⟨re, hre⟩ : ∃ re, findE L key = re := ⟨_, rfl⟩
      rw [hra] at hraok
      have HRA := Lib.hid hraok
      have HFE := Lib.hid (And.intro hra hre)
      rw [hre] at hdich hnil
      have HG := Lib.hid (show re ≠ 100 → re = 0 ∧ L.any (goodW key ra) = true ∧ L ≠ [] from by rw [← hre, ← hra]; exact hgood)
      have HNIL := Lib.hid hnil
      have HLO := Lib.hid hLO
      clear hLO hraok hgood hra hre hnil
      have RKB := Lib.hid (range_at w4 b0 [.int .u8 key.a, .int .u8 key.b, .int .u8 key.c, .int .u8 key.d] 45 HKB.out)
      iterate 60 (first
        | (have := MK4; clear this)
        | (refine wpList_load_mid rfl 45 _ rfl b0 0 rfl [.int .u8 key.a, .int .u8 key.b, .int .u8 key.c, .int .u8 key.d] _ RKB.out Try.underlying45 rfl (by kernel_rfl) ?_; have MK4 := Lib.hid True.intro)
        | go_step)
      go_upto_region 10 with (go_at_call 34; refine (find_aw key HX.out HP.out HJ.out.2 HJ.out.1 HFE.out).mono ?_; rintro e w5 ⟨rfl, hp, f⟩; have P5 := Lib.hid hp; have G5 := Lib.hid f; clear hp f)

      have B6 := Lib.hid (heap_alloc_new w5 (.cells #[.int .u8 ra.a, .int .u8 ra.b, .int .u8 ra.c, .int .u8 ra.d] 45))
      have FA6 := Lib.hid ((Fr.refl (fun _ => False) w5).alloc (.cells #[.int .u8 ra.a, .int .u8 ra.b, .int .u8 ra.c, .int .u8 ra.d] 45))
      generalize w5.alloc (.cells #[.int .u8 ra.a, .int .u8 ra.b, .int .u8 ra.c, .int .u8 ra.d] 45) = w6 at B6 FA6 ⊢
      obtain ⟨b1, hb1⟩ : ∃ b, w5.heap.size = b := ⟨_, rfl⟩
      rw [hb1] at B6 ⊢
      clear hb1
      obtain ⟨lv6, hp6, hf6⟩ := P5.out.fr FA6.out
      have HP6 := Lib.hid hp6
      have HF6 := Lib.hid hf6
      clear hp6 hf6
      obtain ⟨ln, hln⟩ : ∃ k, L.length = k := ⟨_, rfl⟩
      have HLN := Lib.hid hln
      have hln8 : ln ≤ 8 := by rw [← hln]; exact HJ.out.2
      go_upto_region 11 with (go_at_call 36; refine (all36 N g m L lv6 w6 HP6.out HJ.out.2).mono ?_; rw [hln]; rintro e w7 ⟨v7, rfl, s7, f7⟩; obtain ⟨A7, c7, hv7, hc7, hc7m⟩ := s7.form; subst hv7; have S7 := Lib.hid s7; have F7 := Lib.hid f7; clear s7 f7)
      clear hln
      have P7 := Lib.hid (show Pt N W w7 g m L from ⟨lv6, HP6.out.fr F7.out, HF6.out.then' F7.out⟩)
      have Z7 := Lib.hid (show N ≤ w7.heap.size by have h1 := HZ.out; have h2 := G5.out.size; have h3 := FA6.out.size; have h4 := F7.out.size; omega)
      have K7 := Lib.hid (show w7.heap[b0]? = _ from (((G5.out.then' FA6.out).then' F7.out).block b0 (lt_of_block HKB.out) (fun e => e)).trans HKB.out)
      have KG7 := Lib.hid (show w7.heap[b1]? = _ from (F7.out.block b1 (lt_of_block B6.out) (fun e => e)).trans B6.out)
      have HNN := Lib.hid (show re ≠ 100 → ln ≠ 0 from fun h e => (HG.out h).2.2 (List.eq_nil_of_length_eq_zero (HLN.out.trans e)))
      go_cut [55] (fun v55 wc => v55 = .bool false ∧ wc = w7)
      case first =>
        have h8 : ¬ (8 : Int) < (ln : Int) := by omega
        by_cases h0 : ln = 0
        · have h1 : (re != 100) = false := by
            by_cases h : re = 100
            · rw [h]; rfl
            · exact absurd h0 (HNN.out h)
          subst h0
          go_wp2_with fail
          go_meet
          exact ⟨rfl, rfl⟩
        · have h0I : ¬ (ln : Int) = 0 := by omega
          go_wp2_with fail
          go_meet
          exact ⟨by simp [h0, h0I, h8], rfl⟩
      case rest =>
      obtain ⟨rfl, hwc⟩ := hcut
      subst hwc
      obtain ⟨w7, hw7⟩ : ∃ y, y = wc := ⟨_, rfl⟩
      subst hw7
      go_upto_region 15 with (fail)
      go_wp2_with fail
      have S7N := Lib.hid (S7.out.mono (show N ≤ w6.heap.size by have h1 := HZ.out; have h2 := G5.out.size; have h3 := FA6.out.size; omega))
      go_loopw [11, 12] (fun v11 v12 wr => ∃ (k : Nat) (fv : Bool), v12 = .int .i64 k ∧ k ≤ ln ∧ v11 = .bool fv ∧ (decide (re = 0) && (L.take k).any (goodW key ra)) = fv ∧ Pt N W wr g m (L.drop k) ∧ N ≤ wr.heap.size ∧ wr.heap[b0]? = some (.cells #[.int .u8 key.a, .int .u8 key.b, .int .u8 key.c, .int .u8 key.d] 45) ∧ wr.heap[b1]? = some (.cells #[.int .u8 ra.a, .int .u8 ra.b, .int .u8 ra.c, .int .u8 ra.d] 45) ∧ Sl N 69 10 wr (.slice A7 ln c7) ln (wfl L)) (fun v11 v12 _ => ln - (intOf v12).toNat)
      case atStart => exact ⟨0, false, rfl, Nat.zero_le _, rfl, by rw [List.take_zero]; simp, P7.out, Z7.out, K7.out, KG7.out, S7N.out⟩
      case round =>
        obtain ⟨k, fv, rfl, hk, rfl, hfv, hp, hz, hk0, hk1, hs⟩ := hrel
        have HFV := Lib.hid hfv
        have HP8 := Lib.hid hp
        have HZ8 := Lib.hid hz
        have HK0 := Lib.hid hk0
        have HK1 := Lib.hid hk1
        have HS8 := Lib.hid hs
        clear hfv hp hz hk0 hk1 hs
        by_cases hlt : k < ln
        · obtain ⟨q, hq⟩ : ∃ q, L[k]? = some q := ⟨_, List.getElem?_eq_getElem (by rw [HLN.out]; exact hlt)⟩
          have Hq := Lib.hid hq
          have HQB := Lib.hid (mayW_bits (HJ.out.1 q (List.mem_of_getElem? hq)))
          have HQO := Lib.hid (HLO.out q (List.mem_of_getElem? hq))
          obtain ⟨b, off, cap', hv', _, _, _, _, _, _⟩ := HS8.out.form1 (by omega)
          injection hv' with hv1 _ hv2
          subst hv1; subst hv2
          have RQ := Lib.hid (fun (w' : World) (f : Fr (fun _ => False) wr w') => (HS8.out.fr0 f).ways hq)
          have R0 := Lib.hid (fun (w' : World) (f : Fr (fun _ => False) wr w') => show w'.rangeAt b0 0 key.cells from range_at w' b0 key.cells 45 ((f.block _ (lt_of_block HK0.out) (fun e => e)).trans HK0.out))
          have R1 := Lib.hid (fun (w' : World) (f : Fr (fun _ => False) wr w') => show w'.rangeAt b1 0 ra.cells from range_at w' b1 ra.cells 45 ((f.block _ (lt_of_block HK1.out) (fun e => e)).trans HK1.out))
          have RN := Lib.hid (fun (w' : World) (f : Fr (fun _ => False) wr w') => show w'.rangeAt b (off + k * 10) q.n.cells from range_part (RQ.out w' f) 0 4)
          have RG := Lib.hid (fun (w' : World) (f : Fr (fun _ => False) wr w') => show w'.rangeAt b (off + k * 10 + 5) q.g.cells from range_part (RQ.out w' f) 5 4)
          have C4 := Lib.hid (fun (w' : World) (f : Fr (fun _ => False) wr w') => show w'.cell? ⟨b, off + k * 10 + 4, none⟩ = some (.int .i64 q.bits) from RQ.out w' f 4 _ rfl)
          obtain ⟨bv, hbv⟩ : ∃ bv, q.via = bv := ⟨_, rfl⟩
          have HBV := Lib.hid hbv
          have C9 := Lib.hid (fun (w' : World) (f : Fr (fun _ => False) wr w') => show w'.cell? ⟨b, off + k * 10 + 9, none⟩ = some (.bool bv) from by rw [← hbv]; exact RQ.out w' f 9 _ rfl)
          clear hbv
          have HEG := Lib.hid (fun w : World => eql45 HQO.out.g HRA.out w)
          have HEK := Lib.hid (fun w : World => eql45 HX.out HRA.out w)
          have hic : k < c7 := by omega
          have hkI : (k : Int) < (ln : Int) := by omega
          go_upto_region 17 with (fail)
          obtain ⟨tt, htt⟩ : ∃ t, (decide (re = 0) && goodW key ra q) = t := ⟨_, rfl⟩
          have HTT := Lib.hid htt
          go_cut [92] (fun v92 wc => v92 = .bool tt ∧ Fr (fun _ => False) wr wc)
          case first =>
            clear htt
            rcases hdich with h0 | h0
            · subst h0
              cases bv
              · as_aux_lemma =>
                refine kr_start [(7, fun W => W.cell? ⟨b, off + k * 10 + 9, none⟩ = some (.bool false)), (22, fun W => W.cell? ⟨b, off + k * 10 + 9, none⟩ = some (.bool false)), (25, fun W => W.rangeAt b0 0 key.cells), (26, fun W => W.rangeAt b1 0 ra.cells)] (by kernel_rfl) (by kernel_rfl) ?_
                refine kr_find 0 rfl (by kernel_rfl) (by kernel_rfl) (by kernel_rfl) (fun _ _ _ _ h => h) (by rfl) trivial ?_
                apply Exists.intro; apply And.intro
                · intro w' hS K hK
                  clear hS
                  go_light
                  go_simp
                  exact hK.out
                try simp only [Act.put, List.getElem_toArray, List.getElem_cons_zero, List.getElem_cons_succ, List.setIfInBounds_toArray, List.set_cons_zero, List.set_cons_succ]
                refine kr_find 1 rfl (by kernel_rfl) (by kernel_rfl) (by kernel_rfl) (fun _ _ _ _ h => h) (by rfl) trivial ?_
                apply Exists.intro; apply And.intro
                · intro w' hS K hK
                  clear hS
                  go_light
                  go_simp
                  exact hK.out
                try simp only [Act.put, List.getElem_toArray, List.getElem_cons_zero, List.getElem_cons_succ, List.setIfInBounds_toArray, List.set_cons_zero, List.set_cons_succ]
                refine kr_find 2 rfl (by kernel_rfl) (by kernel_rfl) (by kernel_rfl) (fun _ _ _ _ h => h) (by rfl) trivial ?_
                apply Exists.intro; apply And.intro
                · intro w' hS K hK
                  clear hS
                  go_light
                  go_simp
                  exact hK.out
                try simp only [Act.put, List.getElem_toArray, List.getElem_cons_zero, List.getElem_cons_succ, List.setIfInBounds_toArray, List.set_cons_zero, List.set_cons_succ]
                refine kr_find 3 rfl (by kernel_rfl) (by kernel_rfl) (by kernel_rfl) (fun _ _ _ _ h => h) (by rfl) trivial ?_
                apply Exists.intro; apply And.intro
                · intro w' hS K hK
                  clear hS
                  go_light
                  go_simp
                  exact hK.out
                try simp only [Act.put, List.getElem_toArray, List.getElem_cons_zero, List.getElem_cons_succ, List.setIfInBounds_toArray, List.set_cons_zero, List.set_cons_succ]
                refine kr_find 4 rfl (by kernel_rfl) (by kernel_rfl) (by kernel_rfl) (fun _ _ _ _ h => h) (by rfl) trivial ?_
                apply Exists.intro; apply And.intro
                · intro w' hS K hK
                  clear hS
                  go_light
                  go_simp
                  exact hK.out
                try simp only [Act.put, List.getElem_toArray, List.getElem_cons_zero, List.getElem_cons_succ, List.setIfInBounds_toArray, List.set_cons_zero, List.set_cons_succ]
                refine kr_find 5 rfl (by kernel_rfl) (by kernel_rfl) (by kernel_rfl) (fun _ _ _ _ h => h) (by rfl) trivial ?_
                apply Exists.intro; apply And.intro
                · intro w' hS K hK
                  clear hS
                  go_light
                  go_simp
                  exact hK.out
                try simp only [Act.put, List.getElem_toArray, List.getElem_cons_zero, List.getElem_cons_succ, List.setIfInBounds_toArray, List.set_cons_zero, List.set_cons_succ]
                refine kr_find 6 rfl (by kernel_rfl) (by kernel_rfl) (by kernel_rfl) (fun _ _ _ _ h => h) (by rfl) trivial ?_
                apply Exists.intro; apply And.intro
                · intro w' hS K hK
                  clear hS
                  go_light
                  go_simp
                  exact hK.out
                try simp only [Act.put, List.getElem_toArray, List.getElem_cons_zero, List.getElem_cons_succ, List.setIfInBounds_toArray, List.set_cons_zero, List.set_cons_succ]
                refine kr_find 7 rfl (by kernel_rfl) (by kernel_rfl) (by kernel_rfl) (fun _ _ _ _ h => h) (by rfl) (show _ from C9.out _ (Fr.refl _ wr).drew) ?_
                apply Exists.intro; apply And.intro
                · intro w' hS K hK
                  have hS : w'.cell? ⟨b, off + k * 10 + 9, none⟩ = some (.bool false) := hS
                  go_light
                  go_simp
                  exact hK.out
                try simp only [Act.put, List.getElem_toArray, List.getElem_cons_zero, List.getElem_cons_succ, List.setIfInBounds_toArray, List.set_cons_zero, List.set_cons_succ]
                refine kr_find 8 rfl (by kernel_rfl) (by kernel_rfl) (by kernel_rfl) (fun _ _ _ _ h => h) (by rfl) trivial ?_
                apply Exists.intro; apply And.intro
                · intro w' hS K hK
                  clear hS
                  go_light
                  go_simp
                  exact hK.out
                try simp only [Act.put, List.getElem_toArray, List.getElem_cons_zero, List.getElem_cons_succ, List.setIfInBounds_toArray, List.set_cons_zero, List.set_cons_succ]
                refine kr_take 9 rfl (by kernel_rfl) (by kernel_rfl) (by kernel_rfl) (fun _ _ _ h => h) (kr_not (by rfl)) trivial ?_
                try simp only [Act.put, List.getElem_toArray, List.getElem_cons_zero, List.getElem_cons_succ, List.setIfInBounds_toArray, List.set_cons_zero, List.set_cons_succ]
                refine kr_take 10 rfl (by kernel_rfl) (by kernel_rfl) (by kernel_rfl) (fun _ _ _ h => h) (kr_not (by rfl)) trivial ?_
                try simp only [Act.put, List.getElem_toArray, List.getElem_cons_zero, List.getElem_cons_succ, List.setIfInBounds_toArray, List.set_cons_zero, List.set_cons_succ]
                refine kr_take 11 rfl (by kernel_rfl) (by kernel_rfl) (by kernel_rfl) (fun _ _ _ h => h) (kr_not (by rfl)) trivial ?_
                try simp only [Act.put, List.getElem_toArray, List.getElem_cons_zero, List.getElem_cons_succ, List.setIfInBounds_toArray, List.set_cons_zero, List.set_cons_succ]
                refine kr_take 12 rfl (by kernel_rfl) (by kernel_rfl) (by kernel_rfl) (fun _ _ _ h => h) (kr_not (by rfl)) trivial ?_
                try simp only [Act.put, List.getElem_toArray, List.getElem_cons_zero, List.getElem_cons_succ, List.setIfInBounds_toArray, List.set_cons_zero, List.set_cons_succ]
                refine kr_take 13 rfl (by kernel_rfl) (by kernel_rfl) (by kernel_rfl) (fun _ _ _ h => h) (kr_not (by rfl)) trivial ?_
                try simp only [Act.put, List.getElem_toArray, List.getElem_cons_zero, List.getElem_cons_succ, List.setIfInBounds_toArray, List.set_cons_zero, List.set_cons_succ]
                refine kr_take 14 rfl (by kernel_rfl) (by kernel_rfl) (by kernel_rfl) (fun _ _ _ h => h) (kr_not (by rfl)) trivial ?_
                try simp only [Act.put, List.getElem_toArray, List.getElem_cons_zero, List.getElem_cons_succ, List.setIfInBounds_toArray, List.set_cons_zero, List.set_cons_succ]
                refine kr_take 15 rfl (by kernel_rfl) (by kernel_rfl) (by kernel_rfl) (fun _ _ _ h => h) (kr_not (by rfl)) trivial ?_
                try simp only [Act.put, List.getElem_toArray, List.getElem_cons_zero, List.getElem_cons_succ, List.setIfInBounds_toArray, List.set_cons_zero, List.set_cons_succ]
                refine kr_find 16 rfl (by kernel_rfl) (by kernel_rfl) (by kernel_rfl) (fun _ _ _ _ h => h) (by rfl) trivial ?_
                apply Exists.intro; apply And.intro
                · intro w' hS K hK
                  clear hS
                  go_light
                  go_simp
                  exact hK.out
                try simp only [Act.put, List.getElem_toArray, List.getElem_cons_zero, List.getElem_cons_succ, List.setIfInBounds_toArray, List.set_cons_zero, List.set_cons_succ]
                refine kr_find 17 rfl (by kernel_rfl) (by kernel_rfl) (by kernel_rfl) (fun _ _ _ _ h => h) (by rfl) trivial ?_
                apply Exists.intro; apply And.intro
                · intro w' hS K hK
                  clear hS
                  go_light
                  go_simp
                  exact hK.out
                try simp only [Act.put, List.getElem_toArray, List.getElem_cons_zero, List.getElem_cons_succ, List.setIfInBounds_toArray, List.set_cons_zero, List.set_cons_succ]
                refine kr_find 18 rfl (by kernel_rfl) (by kernel_rfl) (by kernel_rfl) (fun _ _ _ _ h => h) (by rfl) trivial ?_
                apply Exists.intro; apply And.intro
                · intro w' hS K hK
                  clear hS
                  go_light
                  go_simp
                  exact hK.out
                try simp only [Act.put, List.getElem_toArray, List.getElem_cons_zero, List.getElem_cons_succ, List.setIfInBounds_toArray, List.set_cons_zero, List.set_cons_succ]
                refine kr_find 19 rfl (by kernel_rfl) (by kernel_rfl) (by kernel_rfl) (fun _ _ _ _ h => h) (by rfl) trivial ?_
                apply Exists.intro; apply And.intro
                · intro w' hS K hK
                  clear hS
                  go_light
                  go_simp
                  exact hK.out
                try simp only [Act.put, List.getElem_toArray, List.getElem_cons_zero, List.getElem_cons_succ, List.setIfInBounds_toArray, List.set_cons_zero, List.set_cons_succ]
                refine kr_find 20 rfl (by kernel_rfl) (by kernel_rfl) (by kernel_rfl) (fun _ _ _ _ h => h) (by rfl) trivial ?_
                apply Exists.intro; apply And.intro
                · intro w' hS K hK
                  clear hS
                  go_light
                  go_simp
                  exact hK.out
                try simp only [Act.put, List.getElem_toArray, List.getElem_cons_zero, List.getElem_cons_succ, List.setIfInBounds_toArray, List.set_cons_zero, List.set_cons_succ]
                refine kr_find 21 rfl (by kernel_rfl) (by kernel_rfl) (by kernel_rfl) (fun _ _ _ _ h => h) (by rfl) trivial ?_
                apply Exists.intro; apply And.intro
                · intro w' hS K hK
                  clear hS
                  go_light
                  go_simp
                  exact hK.out
                try simp only [Act.put, List.getElem_toArray, List.getElem_cons_zero, List.getElem_cons_succ, List.setIfInBounds_toArray, List.set_cons_zero, List.set_cons_succ]
                refine kr_find 22 rfl (by kernel_rfl) (by kernel_rfl) (by kernel_rfl) (fun _ _ _ _ h => h) (by rfl) (show _ from C9.out _ (Fr.refl _ wr).drew) ?_
                apply Exists.intro; apply And.intro
                · intro w' hS K hK
                  have hS : w'.cell? ⟨b, off + k * 10 + 9, none⟩ = some (.bool false) := hS
                  go_light
                  go_simp
                  exact hK.out
                try simp only [Act.put, List.getElem_toArray, List.getElem_cons_zero, List.getElem_cons_succ, List.setIfInBounds_toArray, List.set_cons_zero, List.set_cons_succ]
                refine kr_find 23 rfl (by kernel_rfl) (by kernel_rfl) (by kernel_rfl) (fun _ _ _ _ h => h) (by rfl) trivial ?_
                apply Exists.intro; apply And.intro
                · intro w' hS K hK
                  clear hS
                  go_light
                  go_simp
                  exact hK.out
                try simp only [Act.put, List.getElem_toArray, List.getElem_cons_zero, List.getElem_cons_succ, List.setIfInBounds_toArray, List.set_cons_zero, List.set_cons_succ]
                refine kr_find 24 rfl (by kernel_rfl) (by kernel_rfl) (by kernel_rfl) (fun _ _ _ _ h => h) (by rfl) trivial ?_
                apply Exists.intro; apply And.intro
                · intro w' hS K hK
                  clear hS
                  go_light
                  go_simp
                  exact hK.out
                try simp only [Act.put, List.getElem_toArray, List.getElem_cons_zero, List.getElem_cons_succ, List.setIfInBounds_toArray, List.set_cons_zero, List.set_cons_succ]
                refine kr_take 25 rfl (by kernel_rfl) (by kernel_rfl) (by kernel_rfl) (fun _ _ _ h => h) (yieldsIf_load_mid (by rfl) 45 _ rfl (b0) (0) rfl (key.cells) _ (fun _ h => h) Try.underlying45 rfl (by kernel_rfl)) (show _ from R0.out _ (Fr.refl _ wr).drew) ?_
                try simp only [Act.put, List.getElem_toArray, List.getElem_cons_zero, List.getElem_cons_succ, List.setIfInBounds_toArray, List.set_cons_zero, List.set_cons_succ]
                refine kr_take 26 rfl (by kernel_rfl) (by kernel_rfl) (by kernel_rfl) (fun _ _ _ h => h) (yieldsIf_load_mid (by rfl) 45 _ rfl (b1) (0) rfl (ra.cells) _ (fun _ h => h) Try.underlying45 rfl (by kernel_rfl)) (show _ from R1.out _ (Fr.refl _ wr).drew) ?_
                try simp only [Act.put, List.getElem_toArray, List.getElem_cons_zero, List.getElem_cons_succ, List.setIfInBounds_toArray, List.set_cons_zero, List.set_cons_succ]
                refine kr_take 27 rfl (by kernel_rfl) (by kernel_rfl) (by kernel_rfl) (fun _ _ _ h => h) (kr_bin_agg (by rfl) .eql 45 45 _ _ rfl rfl rfl (by kernel_rfl) _ HEK.out) trivial ?_
                try simp only [Act.put, List.getElem_toArray, List.getElem_cons_zero, List.getElem_cons_succ, List.setIfInBounds_toArray, List.set_cons_zero, List.set_cons_succ]
                refine kr_find 28 rfl (by kernel_rfl) (by kernel_rfl) (by kernel_rfl) (fun _ _ _ _ h => h) (by rfl) trivial ?_
                apply Exists.intro; apply And.intro
                · intro w' hS K hK
                  clear hS
                  go_light
                  go_simp
                  exact hK.out
                try simp only [Act.put, List.getElem_toArray, List.getElem_cons_zero, List.getElem_cons_succ, List.setIfInBounds_toArray, List.set_cons_zero, List.set_cons_succ]
                refine kr_find 29 rfl (by kernel_rfl) (by kernel_rfl) (by kernel_rfl) (fun _ _ _ _ h => h) (by rfl) trivial ?_
                apply Exists.intro; apply And.intro
                · intro w' hS K hK
                  clear hS
                  go_light
                  go_simp
                  exact hK.out
                try simp only [Act.put, List.getElem_toArray, List.getElem_cons_zero, List.getElem_cons_succ, List.setIfInBounds_toArray, List.set_cons_zero, List.set_cons_succ]
                refine kr_find 30 rfl (by kernel_rfl) (by kernel_rfl) (by kernel_rfl) (fun _ _ _ _ h => h) (by rfl) trivial ?_
                apply Exists.intro; apply And.intro
                · intro w' hS K hK
                  clear hS
                  go_light
                  go_simp
                  exact hK.out
                try simp only [Act.put, List.getElem_toArray, List.getElem_cons_zero, List.getElem_cons_succ, List.setIfInBounds_toArray, List.set_cons_zero, List.set_cons_succ]
                refine kr_done (by kernel_rfl) ?_ _
                go_wp2_with fail
                go_meet
                exact ⟨by rw [← HTT.out]; unfold goodW; rw [HBV.out]; simp, (Fr.refl _ wr).drew⟩
              · by_cases he : q.g = ra
                · as_aux_lemma =>
                  have HEG := Lib.hid (fun w : World => show (binOp .eql 45 (.agg q.g.cells.toArray) (.agg ra.cells.toArray)).run Try.prog w = .ok (.bool true) w from by rw [HEG.out w, he]; simp)
                  have HGW := Lib.hid (show goodW key ra q = true from by unfold goodW; rw [HBV.out, he]; simp)
                  clear he
                  refine kr_start [(7, fun W => W.cell? ⟨b, off + k * 10 + 9, none⟩ = some (.bool true)), (13, fun W => W.rangeAt b (off + k * 10 + 5) q.g.cells), (14, fun W => W.rangeAt b1 0 ra.cells)] (by kernel_rfl) (by kernel_rfl) ?_
                  refine kr_find 0 rfl (by kernel_rfl) (by kernel_rfl) (by kernel_rfl) (fun _ _ _ _ h => h) (by rfl) trivial ?_
                  apply Exists.intro; apply And.intro
                  · intro w' hS K hK
                    clear hS
                    go_light
                    go_simp
                    exact hK.out
                  try simp only [Act.put, List.getElem_toArray, List.getElem_cons_zero, List.getElem_cons_succ, List.setIfInBounds_toArray, List.set_cons_zero, List.set_cons_succ]
                  refine kr_find 1 rfl (by kernel_rfl) (by kernel_rfl) (by kernel_rfl) (fun _ _ _ _ h => h) (by rfl) trivial ?_
                  apply Exists.intro; apply And.intro
                  · intro w' hS K hK
                    clear hS
                    go_light
                    go_simp
                    exact hK.out
                  try simp only [Act.put, List.getElem_toArray, List.getElem_cons_zero, List.getElem_cons_succ, List.setIfInBounds_toArray, List.set_cons_zero, List.set_cons_succ]
                  refine kr_find 2 rfl (by kernel_rfl) (by kernel_rfl) (by kernel_rfl) (fun _ _ _ _ h => h) (by rfl) trivial ?_
                  apply Exists.intro; apply And.intro
                  · intro w' hS K hK
                    clear hS
                    go_light
                    go_simp
                    exact hK.out
                  try simp only [Act.put, List.getElem_toArray, List.getElem_cons_zero, List.getElem_cons_succ, List.setIfInBounds_toArray, List.set_cons_zero, List.set_cons_succ]
                  refine kr_find 3 rfl (by kernel_rfl) (by kernel_rfl) (by kernel_rfl) (fun _ _ _ _ h => h) (by rfl) trivial ?_
                  apply Exists.intro; apply And.intro
                  · intro w' hS K hK
                    clear hS
                    go_light
                    go_simp
                    exact hK.out
                  try simp only [Act.put, List.getElem_toArray, List.getElem_cons_zero, List.getElem_cons_succ, List.setIfInBounds_toArray, List.set_cons_zero, List.set_cons_succ]
                  refine kr_find 4 rfl (by kernel_rfl) (by kernel_rfl) (by kernel_rfl) (fun _ _ _ _ h => h) (by rfl) trivial ?_
                  apply Exists.intro; apply And.intro
                  · intro w' hS K hK
                    clear hS
                    go_light
                    go_simp
                    exact hK.out
                  try simp only [Act.put, List.getElem_toArray, List.getElem_cons_zero, List.getElem_cons_succ, List.setIfInBounds_toArray, List.set_cons_zero, List.set_cons_succ]
                  refine kr_find 5 rfl (by kernel_rfl) (by kernel_rfl) (by kernel_rfl) (fun _ _ _ _ h => h) (by rfl) trivial ?_
                  apply Exists.intro; apply And.intro
                  · intro w' hS K hK
                    clear hS
                    go_light
                    go_simp
                    exact hK.out
                  try simp only [Act.put, List.getElem_toArray, List.getElem_cons_zero, List.getElem_cons_succ, List.setIfInBounds_toArray, List.set_cons_zero, List.set_cons_succ]
                  refine kr_find 6 rfl (by kernel_rfl) (by kernel_rfl) (by kernel_rfl) (fun _ _ _ _ h => h) (by rfl) trivial ?_
                  apply Exists.intro; apply And.intro
                  · intro w' hS K hK
                    clear hS
                    go_light
                    go_simp
                    exact hK.out
                  try simp only [Act.put, List.getElem_toArray, List.getElem_cons_zero, List.getElem_cons_succ, List.setIfInBounds_toArray, List.set_cons_zero, List.set_cons_succ]
                  refine kr_find 7 rfl (by kernel_rfl) (by kernel_rfl) (by kernel_rfl) (fun _ _ _ _ h => h) (by rfl) (show _ from C9.out _ (Fr.refl _ wr).drew) ?_
                  apply Exists.intro; apply And.intro
                  · intro w' hS K hK
                    have hS : w'.cell? ⟨b, off + k * 10 + 9, none⟩ = some (.bool true) := hS
                    go_light
                    go_simp
                    exact hK.out
                  try simp only [Act.put, List.getElem_toArray, List.getElem_cons_zero, List.getElem_cons_succ, List.setIfInBounds_toArray, List.set_cons_zero, List.set_cons_succ]
                  refine kr_find 8 rfl (by kernel_rfl) (by kernel_rfl) (by kernel_rfl) (fun _ _ _ _ h => h) (by rfl) trivial ?_
                  apply Exists.intro; apply And.intro
                  · intro w' hS K hK
                    clear hS
                    go_light
                    go_simp
                    exact hK.out
                  try simp only [Act.put, List.getElem_toArray, List.getElem_cons_zero, List.getElem_cons_succ, List.setIfInBounds_toArray, List.set_cons_zero, List.set_cons_succ]
                  refine kr_find 9 rfl (by kernel_rfl) (by kernel_rfl) (by kernel_rfl) (fun _ _ _ _ h => h) (by rfl) trivial ?_
                  apply Exists.intro; apply And.intro
                  · intro w' hS K hK
                    clear hS
                    go_light
                    go_simp
                    exact hK.out
                  try simp only [Act.put, List.getElem_toArray, List.getElem_cons_zero, List.getElem_cons_succ, List.setIfInBounds_toArray, List.set_cons_zero, List.set_cons_succ]
                  refine kr_find 10 rfl (by kernel_rfl) (by kernel_rfl) (by kernel_rfl) (fun _ _ _ _ h => h) (by rfl) trivial ?_
                  apply Exists.intro; apply And.intro
                  · intro w' hS K hK
                    clear hS
                    go_light
                    go_simp
                    exact hK.out
                  try simp only [Act.put, List.getElem_toArray, List.getElem_cons_zero, List.getElem_cons_succ, List.setIfInBounds_toArray, List.set_cons_zero, List.set_cons_succ]
                  refine kr_find 11 rfl (by kernel_rfl) (by kernel_rfl) (by kernel_rfl) (fun _ _ _ _ h => h) (by rfl) trivial ?_
                  apply Exists.intro; apply And.intro
                  · intro w' hS K hK
                    clear hS
                    go_light
                    go_simp
                    exact hK.out
                  try simp only [Act.put, List.getElem_toArray, List.getElem_cons_zero, List.getElem_cons_succ, List.setIfInBounds_toArray, List.set_cons_zero, List.set_cons_succ]
                  refine kr_find 12 rfl (by kernel_rfl) (by kernel_rfl) (by kernel_rfl) (fun _ _ _ _ h => h) (by rfl) trivial ?_
                  apply Exists.intro; apply And.intro
                  · intro w' hS K hK
                    clear hS
                    go_light
                    go_simp
                    exact hK.out
                  try simp only [Act.put, List.getElem_toArray, List.getElem_cons_zero, List.getElem_cons_succ, List.setIfInBounds_toArray, List.set_cons_zero, List.set_cons_succ]
                  refine kr_take 13 rfl (by kernel_rfl) (by kernel_rfl) (by kernel_rfl) (fun _ _ _ h => h) (yieldsIf_load_mid (by rfl) 45 _ rfl (b) (off + k * 10 + 5) rfl (q.g.cells) _ (fun _ h => h) Try.underlying45 rfl (by kernel_rfl)) (show _ from RG.out _ (Fr.refl _ wr).drew) ?_
                  try simp only [Act.put, List.getElem_toArray, List.getElem_cons_zero, List.getElem_cons_succ, List.setIfInBounds_toArray, List.set_cons_zero, List.set_cons_succ]
                  refine kr_take 14 rfl (by kernel_rfl) (by kernel_rfl) (by kernel_rfl) (fun _ _ _ h => h) (yieldsIf_load_mid (by rfl) 45 _ rfl (b1) (0) rfl (ra.cells) _ (fun _ h => h) Try.underlying45 rfl (by kernel_rfl)) (show _ from R1.out _ (Fr.refl _ wr).drew) ?_
                  try simp only [Act.put, List.getElem_toArray, List.getElem_cons_zero, List.getElem_cons_succ, List.setIfInBounds_toArray, List.set_cons_zero, List.set_cons_succ]
                  refine kr_take 15 rfl (by kernel_rfl) (by kernel_rfl) (by kernel_rfl) (fun _ _ _ h => h) (kr_bin_agg (by rfl) .eql 45 45 _ _ rfl rfl rfl (by kernel_rfl) _ HEG.out) trivial ?_
                  try simp only [Act.put, List.getElem_toArray, List.getElem_cons_zero, List.getElem_cons_succ, List.setIfInBounds_toArray, List.set_cons_zero, List.set_cons_succ]
                  refine kr_find 16 rfl (by kernel_rfl) (by kernel_rfl) (by kernel_rfl) (fun _ _ _ _ h => h) (by rfl) trivial ?_
                  apply Exists.intro; apply And.intro
                  · intro w' hS K hK
                    clear hS
                    go_light
                    go_simp
                    exact hK.out
                  try simp only [Act.put, List.getElem_toArray, List.getElem_cons_zero, List.getElem_cons_succ, List.setIfInBounds_toArray, List.set_cons_zero, List.set_cons_succ]
                  refine kr_find 17 rfl (by kernel_rfl) (by kernel_rfl) (by kernel_rfl) (fun _ _ _ _ h => h) (by rfl) trivial ?_
                  apply Exists.intro; apply And.intro
                  · intro w' hS K hK
                    clear hS
                    go_light
                    go_simp
                    exact hK.out
                  try simp only [Act.put, List.getElem_toArray, List.getElem_cons_zero, List.getElem_cons_succ, List.setIfInBounds_toArray, List.set_cons_zero, List.set_cons_succ]
                  refine kr_take 18 rfl (by kernel_rfl) (by kernel_rfl) (by kernel_rfl) (fun _ _ _ h => h) (kr_not (by rfl)) trivial ?_
                  try simp only [Act.put, List.getElem_toArray, List.getElem_cons_zero, List.getElem_cons_succ, List.setIfInBounds_toArray, List.set_cons_zero, List.set_cons_succ]
                  refine kr_take 19 rfl (by kernel_rfl) (by kernel_rfl) (by kernel_rfl) (fun _ _ _ h => h) (kr_not (by rfl)) trivial ?_
                  try simp only [Act.put, List.getElem_toArray, List.getElem_cons_zero, List.getElem_cons_succ, List.setIfInBounds_toArray, List.set_cons_zero, List.set_cons_succ]
                  refine kr_take 20 rfl (by kernel_rfl) (by kernel_rfl) (by kernel_rfl) (fun _ _ _ h => h) (kr_not (by rfl)) trivial ?_
                  try simp only [Act.put, List.getElem_toArray, List.getElem_cons_zero, List.getElem_cons_succ, List.setIfInBounds_toArray, List.set_cons_zero, List.set_cons_succ]
                  refine kr_take 21 rfl (by kernel_rfl) (by kernel_rfl) (by kernel_rfl) (fun _ _ _ h => h) (kr_not (by rfl)) trivial ?_
                  try simp only [Act.put, List.getElem_toArray, List.getElem_cons_zero, List.getElem_cons_succ, List.setIfInBounds_toArray, List.set_cons_zero, List.set_cons_succ]
                  refine kr_take 22 rfl (by kernel_rfl) (by kernel_rfl) (by kernel_rfl) (fun _ _ _ h => h) (kr_not (by rfl)) trivial ?_
                  try simp only [Act.put, List.getElem_toArray, List.getElem_cons_zero, List.getElem_cons_succ, List.setIfInBounds_toArray, List.set_cons_zero, List.set_cons_succ]
                  refine kr_take 23 rfl (by kernel_rfl) (by kernel_rfl) (by kernel_rfl) (fun _ _ _ h => h) (kr_not (by rfl)) trivial ?_
                  try simp only [Act.put, List.getElem_toArray, List.getElem_cons_zero, List.getElem_cons_succ, List.setIfInBounds_toArray, List.set_cons_zero, List.set_cons_succ]
                  refine kr_take 24 rfl (by kernel_rfl) (by kernel_rfl) (by kernel_rfl) (fun _ _ _ h => h) (kr_not (by rfl)) trivial ?_
                  try simp only [Act.put, List.getElem_toArray, List.getElem_cons_zero, List.getElem_cons_succ, List.setIfInBounds_toArray, List.set_cons_zero, List.set_cons_succ]
                  refine kr_take 25 rfl (by kernel_rfl) (by kernel_rfl) (by kernel_rfl) (fun _ _ _ h => h) (kr_not (by rfl)) trivial ?_
                  try simp only [Act.put, List.getElem_toArray, List.getElem_cons_zero, List.getElem_cons_succ, List.setIfInBounds_toArray, List.set_cons_zero, List.set_cons_succ]
                  refine kr_take 26 rfl (by kernel_rfl) (by kernel_rfl) (by kernel_rfl) (fun _ _ _ h => h) (kr_not (by rfl)) trivial ?_
                  try simp only [Act.put, List.getElem_toArray, List.getElem_cons_zero, List.getElem_cons_succ, List.setIfInBounds_toArray, List.set_cons_zero, List.set_cons_succ]
                  refine kr_take 27 rfl (by kernel_rfl) (by kernel_rfl) (by kernel_rfl) (fun _ _ _ h => h) (kr_not (by rfl)) trivial ?_
                  try simp only [Act.put, List.getElem_toArray, List.getElem_cons_zero, List.getElem_cons_succ, List.setIfInBounds_toArray, List.set_cons_zero, List.set_cons_succ]
                  refine kr_take 28 rfl (by kernel_rfl) (by kernel_rfl) (by kernel_rfl) (fun _ _ _ h => h) (kr_not (by rfl)) trivial ?_
                  try simp only [Act.put, List.getElem_toArray, List.getElem_cons_zero, List.getElem_cons_succ, List.setIfInBounds_toArray, List.set_cons_zero, List.set_cons_succ]
                  refine kr_find 29 rfl (by kernel_rfl) (by kernel_rfl) (by kernel_rfl) (fun _ _ _ _ h => h) (by rfl) trivial ?_
                  apply Exists.intro; apply And.intro
                  · intro w' hS K hK
                    clear hS
                    go_light
                    go_simp
                    exact hK.out
                  try simp only [Act.put, List.getElem_toArray, List.getElem_cons_zero, List.getElem_cons_succ, List.setIfInBounds_toArray, List.set_cons_zero, List.set_cons_succ]
                  refine kr_find 30 rfl (by kernel_rfl) (by kernel_rfl) (by kernel_rfl) (fun _ _ _ _ h => h) (by rfl) trivial ?_
                  apply Exists.intro; apply And.intro
                  · intro w' hS K hK
                    clear hS
                    go_light
                    go_simp
                    exact hK.out
                  try simp only [Act.put, List.getElem_toArray, List.getElem_cons_zero, List.getElem_cons_succ, List.setIfInBounds_toArray, List.set_cons_zero, List.set_cons_succ]
                  refine kr_done (by kernel_rfl) ?_ _
                  go_wp2_with fail
                  go_meet
                  exact ⟨by rw [← HTT.out, HGW.out]; rfl, (Fr.refl _ wr).drew⟩
                · as_aux_lemma =>
                  have HEG := Lib.hid (fun w : World => show (binOp .eql 45 (.agg q.g.cells.toArray) (.agg ra.cells.toArray)).run Try.prog w = .ok (.bool false) w from by rw [HEG.out w]; simp [he])
                  have HGW := Lib.hid (show goodW key ra q = false from by unfold goodW; rw [HBV.out]; simp [he])
                  clear he
                  refine kr_start [(7, fun W => W.cell? ⟨b, off + k * 10 + 9, none⟩ = some (.bool true)), (13, fun W => W.rangeAt b (off + k * 10 + 5) q.g.cells), (14, fun W => W.rangeAt b1 0 ra.cells), (22, fun W => W.cell? ⟨b, off + k * 10 + 9, none⟩ = some (.bool true))] (by kernel_rfl) (by kernel_rfl) ?_
                  refine kr_find 0 rfl (by kernel_rfl) (by kernel_rfl) (by kernel_rfl) (fun _ _ _ _ h => h) (by rfl) trivial ?_
                  apply Exists.intro; apply And.intro
                  · intro w' hS K hK
                    clear hS
                    go_light
                    go_simp
                    exact hK.out
                  try simp only [Act.put, List.getElem_toArray, List.getElem_cons_zero, List.getElem_cons_succ, List.setIfInBounds_toArray, List.set_cons_zero, List.set_cons_succ]
                  refine kr_find 1 rfl (by kernel_rfl) (by kernel_rfl) (by kernel_rfl) (fun _ _ _ _ h => h) (by rfl) trivial ?_
                  apply Exists.intro; apply And.intro
                  · intro w' hS K hK
                    clear hS
                    go_light
                    go_simp
                    exact hK.out
                  try simp only [Act.put, List.getElem_toArray, List.getElem_cons_zero, List.getElem_cons_succ, List.setIfInBounds_toArray, List.set_cons_zero, List.set_cons_succ]
                  refine kr_find 2 rfl (by kernel_rfl) (by kernel_rfl) (by kernel_rfl) (fun _ _ _ _ h => h) (by rfl) trivial ?_
                  apply Exists.intro; apply And.intro
                  · intro w' hS K hK
                    clear hS
                    go_light
                    go_simp
                    exact hK.out
                  try simp only [Act.put, List.getElem_toArray, List.getElem_cons_zero, List.getElem_cons_succ, List.setIfInBounds_toArray, List.set_cons_zero, List.set_cons_succ]
                  refine kr_find 3 rfl (by kernel_rfl) (by kernel_rfl) (by kernel_rfl) (fun _ _ _ _ h => h) (by rfl) trivial ?_
                  apply Exists.intro; apply And.intro
                  · intro w' hS K hK
                    clear hS
                    go_light
                    go_simp
                    exact hK.out
                  try simp only [Act.put, List.getElem_toArray, List.getElem_cons_zero, List.getElem_cons_succ, List.setIfInBounds_toArray, List.set_cons_zero, List.set_cons_succ]
                  refine kr_find 4 rfl (by kernel_rfl) (by kernel_rfl) (by kernel_rfl) (fun _ _ _ _ h => h) (by rfl) trivial ?_
                  apply Exists.intro; apply And.intro
                  · intro w' hS K hK
                    clear hS
                    go_light
                    go_simp
                    exact hK.out
                  try simp only [Act.put, List.getElem_toArray, List.getElem_cons_zero, List.getElem_cons_succ, List.setIfInBounds_toArray, List.set_cons_zero, List.set_cons_succ]
                  refine kr_find 5 rfl (by kernel_rfl) (by kernel_rfl) (by kernel_rfl) (fun _ _ _ _ h => h) (by rfl) trivial ?_
                  apply Exists.intro; apply And.intro
                  · intro w' hS K hK
                    clear hS
                    go_light
                    go_simp
                    exact hK.out
                  try simp only [Act.put, List.getElem_toArray, List.getElem_cons_zero, List.getElem_cons_succ, List.setIfInBounds_toArray, List.set_cons_zero, List.set_cons_succ]
                  refine kr_find 6 rfl (by kernel_rfl) (by kernel_rfl) (by kernel_rfl) (fun _ _ _ _ h => h) (by rfl) trivial ?_
                  apply Exists.intro; apply And.intro
                  · intro w' hS K hK
                    clear hS
                    go_light
                    go_simp
                    exact hK.out
                  try simp only [Act.put, List.getElem_toArray, List.getElem_cons_zero, List.getElem_cons_succ, List.setIfInBounds_toArray, List.set_cons_zero, List.set_cons_succ]
                  refine kr_find 7 rfl (by kernel_rfl) (by kernel_rfl) (by kernel_rfl) (fun _ _ _ _ h => h) (by rfl) (show _ from C9.out _ (Fr.refl _ wr).drew) ?_
                  apply Exists.intro; apply And.intro
                  · intro w' hS K hK
                    have hS : w'.cell? ⟨b, off + k * 10 + 9, none⟩ = some (.bool true) := hS
                    go_light
                    go_simp
                    exact hK.out
                  try simp only [Act.put, List.getElem_toArray, List.getElem_cons_zero, List.getElem_cons_succ, List.setIfInBounds_toArray, List.set_cons_zero, List.set_cons_succ]
                  refine kr_find 8 rfl (by kernel_rfl) (by kernel_rfl) (by kernel_rfl) (fun _ _ _ _ h => h) (by rfl) trivial ?_
                  apply Exists.intro; apply And.intro
                  · intro w' hS K hK
                    clear hS
                    go_light
                    go_simp
                    exact hK.out
                  try simp only [Act.put, List.getElem_toArray, List.getElem_cons_zero, List.getElem_cons_succ, List.setIfInBounds_toArray, List.set_cons_zero, List.set_cons_succ]
                  refine kr_find 9 rfl (by kernel_rfl) (by kernel_rfl) (by kernel_rfl) (fun _ _ _ _ h => h) (by rfl) trivial ?_
                  apply Exists.intro; apply And.intro
                  · intro w' hS K hK
                    clear hS
                    go_light
                    go_simp
                    exact hK.out
                  try simp only [Act.put, List.getElem_toArray, List.getElem_cons_zero, List.getElem_cons_succ, List.setIfInBounds_toArray, List.set_cons_zero, List.set_cons_succ]
                  refine kr_find 10 rfl (by kernel_rfl) (by kernel_rfl) (by kernel_rfl) (fun _ _ _ _ h => h) (by rfl) trivial ?_
                  apply Exists.intro; apply And.intro
                  · intro w' hS K hK
                    clear hS
                    go_light
                    go_simp
                    exact hK.out
                  try simp only [Act.put, List.getElem_toArray, List.getElem_cons_zero, List.getElem_cons_succ, List.setIfInBounds_toArray, List.set_cons_zero, List.set_cons_succ]
                  refine kr_find 11 rfl (by kernel_rfl) (by kernel_rfl) (by kernel_rfl) (fun _ _ _ _ h => h) (by rfl) trivial ?_
                  apply Exists.intro; apply And.intro
                  · intro w' hS K hK
                    clear hS
                    go_light
                    go_simp
                    exact hK.out
                  try simp only [Act.put, List.getElem_toArray, List.getElem_cons_zero, List.getElem_cons_succ, List.setIfInBounds_toArray, List.set_cons_zero, List.set_cons_succ]
                  refine kr_find 12 rfl (by kernel_rfl) (by kernel_rfl) (by kernel_rfl) (fun _ _ _ _ h => h) (by rfl) trivial ?_
                  apply Exists.intro; apply And.intro
                  · intro w' hS K hK
                    clear hS
                    go_light
                    go_simp
                    exact hK.out
                  try simp only [Act.put, List.getElem_toArray, List.getElem_cons_zero, List.getElem_cons_succ, List.setIfInBounds_toArray, List.set_cons_zero, List.set_cons_succ]
                  refine kr_take 13 rfl (by kernel_rfl) (by kernel_rfl) (by kernel_rfl) (fun _ _ _ h => h) (yieldsIf_load_mid (by rfl) 45 _ rfl (b) (off + k * 10 + 5) rfl (q.g.cells) _ (fun _ h => h) Try.underlying45 rfl (by kernel_rfl)) (show _ from RG.out _ (Fr.refl _ wr).drew) ?_
                  try simp only [Act.put, List.getElem_toArray, List.getElem_cons_zero, List.getElem_cons_succ, List.setIfInBounds_toArray, List.set_cons_zero, List.set_cons_succ]
                  refine kr_take 14 rfl (by kernel_rfl) (by kernel_rfl) (by kernel_rfl) (fun _ _ _ h => h) (yieldsIf_load_mid (by rfl) 45 _ rfl (b1) (0) rfl (ra.cells) _ (fun _ h => h) Try.underlying45 rfl (by kernel_rfl)) (show _ from R1.out _ (Fr.refl _ wr).drew) ?_
                  try simp only [Act.put, List.getElem_toArray, List.getElem_cons_zero, List.getElem_cons_succ, List.setIfInBounds_toArray, List.set_cons_zero, List.set_cons_succ]
                  refine kr_take 15 rfl (by kernel_rfl) (by kernel_rfl) (by kernel_rfl) (fun _ _ _ h => h) (kr_bin_agg (by rfl) .eql 45 45 _ _ rfl rfl rfl (by kernel_rfl) _ HEG.out) trivial ?_
                  try simp only [Act.put, List.getElem_toArray, List.getElem_cons_zero, List.getElem_cons_succ, List.setIfInBounds_toArray, List.set_cons_zero, List.set_cons_succ]
                  refine kr_find 16 rfl (by kernel_rfl) (by kernel_rfl) (by kernel_rfl) (fun _ _ _ _ h => h) (by rfl) trivial ?_
                  apply Exists.intro; apply And.intro
                  · intro w' hS K hK
                    clear hS
                    go_light
                    go_simp
                    exact hK.out
                  try simp only [Act.put, List.getElem_toArray, List.getElem_cons_zero, List.getElem_cons_succ, List.setIfInBounds_toArray, List.set_cons_zero, List.set_cons_succ]
                  refine kr_find 17 rfl (by kernel_rfl) (by kernel_rfl) (by kernel_rfl) (fun _ _ _ _ h => h) (by rfl) trivial ?_
                  apply Exists.intro; apply And.intro
                  · intro w' hS K hK
                    clear hS
                    go_light
                    go_simp
                    exact hK.out
                  try simp only [Act.put, List.getElem_toArray, List.getElem_cons_zero, List.getElem_cons_succ, List.setIfInBounds_toArray, List.set_cons_zero, List.set_cons_succ]
                  refine kr_find 18 rfl (by kernel_rfl) (by kernel_rfl) (by kernel_rfl) (fun _ _ _ _ h => h) (by rfl) trivial ?_
                  apply Exists.intro; apply And.intro
                  · intro w' hS K hK
                    clear hS
                    go_light
                    go_simp
                    exact hK.out
                  try simp only [Act.put, List.getElem_toArray, List.getElem_cons_zero, List.getElem_cons_succ, List.setIfInBounds_toArray, List.set_cons_zero, List.set_cons_succ]
                  refine kr_find 19 rfl (by kernel_rfl) (by kernel_rfl) (by kernel_rfl) (fun _ _ _ _ h => h) (by rfl) trivial ?_
                  apply Exists.intro; apply And.intro
                  · intro w' hS K hK
                    clear hS
                    go_light
                    go_simp
                    exact hK.out
                  try simp only [Act.put, List.getElem_toArray, List.getElem_cons_zero, List.getElem_cons_succ, List.setIfInBounds_toArray, List.set_cons_zero, List.set_cons_succ]
                  refine kr_find 20 rfl (by kernel_rfl) (by kernel_rfl) (by kernel_rfl) (fun _ _ _ _ h => h) (by rfl) trivial ?_
                  apply Exists.intro; apply And.intro
                  · intro w' hS K hK
                    clear hS
                    go_light
                    go_simp
                    exact hK.out
                  try simp only [Act.put, List.getElem_toArray, List.getElem_cons_zero, List.getElem_cons_succ, List.setIfInBounds_toArray, List.set_cons_zero, List.set_cons_succ]
                  refine kr_find 21 rfl (by kernel_rfl) (by kernel_rfl) (by kernel_rfl) (fun _ _ _ _ h => h) (by rfl) trivial ?_
                  apply Exists.intro; apply And.intro
                  · intro w' hS K hK
                    clear hS
                    go_light
                    go_simp
                    exact hK.out
                  try simp only [Act.put, List.getElem_toArray, List.getElem_cons_zero, List.getElem_cons_succ, List.setIfInBounds_toArray, List.set_cons_zero, List.set_cons_succ]
                  refine kr_find 22 rfl (by kernel_rfl) (by kernel_rfl) (by kernel_rfl) (fun _ _ _ _ h => h) (by rfl) (show _ from C9.out _ (Fr.refl _ wr).drew) ?_
                  apply Exists.intro; apply And.intro
                  · intro w' hS K hK
                    have hS : w'.cell? ⟨b, off + k * 10 + 9, none⟩ = some (.bool true) := hS
                    go_light
                    go_simp
                    exact hK.out
                  try simp only [Act.put, List.getElem_toArray, List.getElem_cons_zero, List.getElem_cons_succ, List.setIfInBounds_toArray, List.set_cons_zero, List.set_cons_succ]
                  refine kr_find 23 rfl (by kernel_rfl) (by kernel_rfl) (by kernel_rfl) (fun _ _ _ _ h => h) (by rfl) trivial ?_
                  apply Exists.intro; apply And.intro
                  · intro w' hS K hK
                    clear hS
                    go_light
                    go_simp
                    exact hK.out
                  try simp only [Act.put, List.getElem_toArray, List.getElem_cons_zero, List.getElem_cons_succ, List.setIfInBounds_toArray, List.set_cons_zero, List.set_cons_succ]
                  refine kr_find 24 rfl (by kernel_rfl) (by kernel_rfl) (by kernel_rfl) (fun _ _ _ _ h => h) (by rfl) trivial ?_
                  apply Exists.intro; apply And.intro
                  · intro w' hS K hK
                    clear hS
                    go_light
                    go_simp
                    exact hK.out
                  try simp only [Act.put, List.getElem_toArray, List.getElem_cons_zero, List.getElem_cons_succ, List.setIfInBounds_toArray, List.set_cons_zero, List.set_cons_succ]
                  refine kr_take 25 rfl (by kernel_rfl) (by kernel_rfl) (by kernel_rfl) (fun _ _ _ h => h) (kr_not (by rfl)) trivial ?_
                  try simp only [Act.put, List.getElem_toArray, List.getElem_cons_zero, List.getElem_cons_succ, List.setIfInBounds_toArray, List.set_cons_zero, List.set_cons_succ]
                  refine kr_take 26 rfl (by kernel_rfl) (by kernel_rfl) (by kernel_rfl) (fun _ _ _ h => h) (kr_not (by rfl)) trivial ?_
                  try simp only [Act.put, List.getElem_toArray, List.getElem_cons_zero, List.getElem_cons_succ, List.setIfInBounds_toArray, List.set_cons_zero, List.set_cons_succ]
                  refine kr_take 27 rfl (by kernel_rfl) (by kernel_rfl) (by kernel_rfl) (fun _ _ _ h => h) (kr_not (by rfl)) trivial ?_
                  try simp only [Act.put, List.getElem_toArray, List.getElem_cons_zero, List.getElem_cons_succ, List.setIfInBounds_toArray, List.set_cons_zero, List.set_cons_succ]
                  refine kr_find 28 rfl (by kernel_rfl) (by kernel_rfl) (by kernel_rfl) (fun _ _ _ _ h => h) (by rfl) trivial ?_
                  apply Exists.intro; apply And.intro
                  · intro w' hS K hK
                    clear hS
                    go_light
                    go_simp
                    exact hK.out
                  try simp only [Act.put, List.getElem_toArray, List.getElem_cons_zero, List.getElem_cons_succ, List.setIfInBounds_toArray, List.set_cons_zero, List.set_cons_succ]
                  refine kr_find 29 rfl (by kernel_rfl) (by kernel_rfl) (by kernel_rfl) (fun _ _ _ _ h => h) (by rfl) trivial ?_
                  apply Exists.intro; apply And.intro
                  · intro w' hS K hK
                    clear hS
                    go_light
                    go_simp
                    exact hK.out
                  try simp only [Act.put, List.getElem_toArray, List.getElem_cons_zero, List.getElem_cons_succ, List.setIfInBounds_toArray, List.set_cons_zero, List.set_cons_succ]
                  refine kr_find 30 rfl (by kernel_rfl) (by kernel_rfl) (by kernel_rfl) (fun _ _ _ _ h => h) (by rfl) trivial ?_
                  apply Exists.intro; apply And.intro
                  · intro w' hS K hK
                    clear hS
                    go_light
                    go_simp
                    exact hK.out
                  try simp only [Act.put, List.getElem_toArray, List.getElem_cons_zero, List.getElem_cons_succ, List.setIfInBounds_toArray, List.set_cons_zero, List.set_cons_succ]
                  refine kr_done (by kernel_rfl) ?_ _
                  go_wp2_with fail
                  go_meet
                  exact ⟨by rw [← HTT.out, HGW.out]; rfl, (Fr.refl _ wr).drew⟩
            · subst h0
              as_aux_lemma =>
              refine kr_start [] (by kernel_rfl) (by kernel_rfl) ?_
              refine kr_find 0 rfl (by kernel_rfl) (by kernel_rfl) (by kernel_rfl) (fun _ _ _ _ h => h) (by rfl) trivial ?_
              apply Exists.intro; apply And.intro
              · intro w' hS K hK
                clear hS
                go_light
                go_simp
                exact hK.out
              try simp only [Act.put, List.getElem_toArray, List.getElem_cons_zero, List.getElem_cons_succ, List.setIfInBounds_toArray, List.set_cons_zero, List.set_cons_succ]
              refine kr_find 1 rfl (by kernel_rfl) (by kernel_rfl) (by kernel_rfl) (fun _ _ _ _ h => h) (by rfl) trivial ?_
              apply Exists.intro; apply And.intro
              · intro w' hS K hK
                clear hS
                go_light
                go_simp
                exact hK.out
              try simp only [Act.put, List.getElem_toArray, List.getElem_cons_zero, List.getElem_cons_succ, List.setIfInBounds_toArray, List.set_cons_zero, List.set_cons_succ]
              refine kr_find 2 rfl (by kernel_rfl) (by kernel_rfl) (by kernel_rfl) (fun _ _ _ _ h => h) (by rfl) trivial ?_
              apply Exists.intro; apply And.intro
              · intro w' hS K hK
                clear hS
                go_light
                go_simp
                exact hK.out
              try simp only [Act.put, List.getElem_toArray, List.getElem_cons_zero, List.getElem_cons_succ, List.setIfInBounds_toArray, List.set_cons_zero, List.set_cons_succ]
              refine kr_take 3 rfl (by kernel_rfl) (by kernel_rfl) (by kernel_rfl) (fun _ _ _ h => h) (kr_not (by rfl)) trivial ?_
              try simp only [Act.put, List.getElem_toArray, List.getElem_cons_zero, List.getElem_cons_succ, List.setIfInBounds_toArray, List.set_cons_zero, List.set_cons_succ]
              refine kr_take 4 rfl (by kernel_rfl) (by kernel_rfl) (by kernel_rfl) (fun _ _ _ h => h) (kr_not (by rfl)) trivial ?_
              try simp only [Act.put, List.getElem_toArray, List.getElem_cons_zero, List.getElem_cons_succ, List.setIfInBounds_toArray, List.set_cons_zero, List.set_cons_succ]
              refine kr_take 5 rfl (by kernel_rfl) (by kernel_rfl) (by kernel_rfl) (fun _ _ _ h => h) (kr_not (by rfl)) trivial ?_
              try simp only [Act.put, List.getElem_toArray, List.getElem_cons_zero, List.getElem_cons_succ, List.setIfInBounds_toArray, List.set_cons_zero, List.set_cons_succ]
              refine kr_take 6 rfl (by kernel_rfl) (by kernel_rfl) (by kernel_rfl) (fun _ _ _ h => h) (kr_not (by rfl)) trivial ?_
              try simp only [Act.put, List.getElem_toArray, List.getElem_cons_zero, List.getElem_cons_succ, List.setIfInBounds_toArray, List.set_cons_zero, List.set_cons_succ]
              refine kr_take 7 rfl (by kernel_rfl) (by kernel_rfl) (by kernel_rfl) (fun _ _ _ h => h) (kr_not (by rfl)) trivial ?_
              try simp only [Act.put, List.getElem_toArray, List.getElem_cons_zero, List.getElem_cons_succ, List.setIfInBounds_toArray, List.set_cons_zero, List.set_cons_succ]
              refine kr_take 8 rfl (by kernel_rfl) (by kernel_rfl) (by kernel_rfl) (fun _ _ _ h => h) (kr_not (by rfl)) trivial ?_
              try simp only [Act.put, List.getElem_toArray, List.getElem_cons_zero, List.getElem_cons_succ, List.setIfInBounds_toArray, List.set_cons_zero, List.set_cons_succ]
              refine kr_take 9 rfl (by kernel_rfl) (by kernel_rfl) (by kernel_rfl) (fun _ _ _ h => h) (kr_not (by rfl)) trivial ?_
              try simp only [Act.put, List.getElem_toArray, List.getElem_cons_zero, List.getElem_cons_succ, List.setIfInBounds_toArray, List.set_cons_zero, List.set_cons_succ]
              refine kr_take 10 rfl (by kernel_rfl) (by kernel_rfl) (by kernel_rfl) (fun _ _ _ h => h) (kr_not (by rfl)) trivial ?_
              try simp only [Act.put, List.getElem_toArray, List.getElem_cons_zero, List.getElem_cons_succ, List.setIfInBounds_toArray, List.set_cons_zero, List.set_cons_succ]
              refine kr_take 11 rfl (by kernel_rfl) (by kernel_rfl) (by kernel_rfl) (fun _ _ _ h => h) (kr_not (by rfl)) trivial ?_
              try simp only [Act.put, List.getElem_toArray, List.getElem_cons_zero, List.getElem_cons_succ, List.setIfInBounds_toArray, List.set_cons_zero, List.set_cons_succ]
              refine kr_take 12 rfl (by kernel_rfl) (by kernel_rfl) (by kernel_rfl) (fun _ _ _ h => h) (kr_not (by rfl)) trivial ?_
              try simp only [Act.put, List.getElem_toArray, List.getElem_cons_zero, List.getElem_cons_succ, List.setIfInBounds_toArray, List.set_cons_zero, List.set_cons_succ]
              refine kr_take 13 rfl (by kernel_rfl) (by kernel_rfl) (by kernel_rfl) (fun _ _ _ h => h) (kr_not (by rfl)) trivial ?_
              try simp only [Act.put, List.getElem_toArray, List.getElem_cons_zero, List.getElem_cons_succ, List.setIfInBounds_toArray, List.set_cons_zero, List.set_cons_succ]
              refine kr_take 14 rfl (by kernel_rfl) (by kernel_rfl) (by kernel_rfl) (fun _ _ _ h => h) (kr_not (by rfl)) trivial ?_
              try simp only [Act.put, List.getElem_toArray, List.getElem_cons_zero, List.getElem_cons_succ, List.setIfInBounds_toArray, List.set_cons_zero, List.set_cons_succ]
              refine kr_take 15 rfl (by kernel_rfl) (by kernel_rfl) (by kernel_rfl) (fun _ _ _ h => h) (kr_not (by rfl)) trivial ?_
              try simp only [Act.put, List.getElem_toArray, List.getElem_cons_zero, List.getElem_cons_succ, List.setIfInBounds_toArray, List.set_cons_zero, List.set_cons_succ]
              refine kr_take 16 rfl (by kernel_rfl) (by kernel_rfl) (by kernel_rfl) (fun _ _ _ h => h) (kr_not (by rfl)) trivial ?_
              try simp only [Act.put, List.getElem_toArray, List.getElem_cons_zero, List.getElem_cons_succ, List.setIfInBounds_toArray, List.set_cons_zero, List.set_cons_succ]
              refine kr_take 17 rfl (by kernel_rfl) (by kernel_rfl) (by kernel_rfl) (fun _ _ _ h => h) (kr_not (by rfl)) trivial ?_
              try simp only [Act.put, List.getElem_toArray, List.getElem_cons_zero, List.getElem_cons_succ, List.setIfInBounds_toArray, List.set_cons_zero, List.set_cons_succ]
              refine kr_take 18 rfl (by kernel_rfl) (by kernel_rfl) (by kernel_rfl) (fun _ _ _ h => h) (kr_not (by rfl)) trivial ?_
              try simp only [Act.put, List.getElem_toArray, List.getElem_cons_zero, List.getElem_cons_succ, List.setIfInBounds_toArray, List.set_cons_zero, List.set_cons_succ]
              refine kr_take 19 rfl (by kernel_rfl) (by kernel_rfl) (by kernel_rfl) (fun _ _ _ h => h) (kr_not (by rfl)) trivial ?_
              try simp only [Act.put, List.getElem_toArray, List.getElem_cons_zero, List.getElem_cons_succ, List.setIfInBounds_toArray, List.set_cons_zero, List.set_cons_succ]
              refine kr_take 20 rfl (by kernel_rfl) (by kernel_rfl) (by kernel_rfl) (fun _ _ _ h => h) (kr_not (by rfl)) trivial ?_
              try simp only [Act.put, List.getElem_toArray, List.getElem_cons_zero, List.getElem_cons_succ, List.setIfInBounds_toArray, List.set_cons_zero, List.set_cons_succ]
              refine kr_take 21 rfl (by kernel_rfl) (by kernel_rfl) (by kernel_rfl) (fun _ _ _ h => h) (kr_not (by rfl)) trivial ?_
              try simp only [Act.put, List.getElem_toArray, List.getElem_cons_zero, List.getElem_cons_succ, List.setIfInBounds_toArray, List.set_cons_zero, List.set_cons_succ]
              refine kr_take 22 rfl (by kernel_rfl) (by kernel_rfl) (by kernel_rfl) (fun _ _ _ h => h) (kr_not (by rfl)) trivial ?_
              try simp only [Act.put, List.getElem_toArray, List.getElem_cons_zero, List.getElem_cons_succ, List.setIfInBounds_toArray, List.set_cons_zero, List.set_cons_succ]
              refine kr_take 23 rfl (by kernel_rfl) (by kernel_rfl) (by kernel_rfl) (fun _ _ _ h => h) (kr_not (by rfl)) trivial ?_
              try simp only [Act.put, List.getElem_toArray, List.getElem_cons_zero, List.getElem_cons_succ, List.setIfInBounds_toArray, List.set_cons_zero, List.set_cons_succ]
              refine kr_take 24 rfl (by kernel_rfl) (by kernel_rfl) (by kernel_rfl) (fun _ _ _ h => h) (kr_not (by rfl)) trivial ?_
              try simp only [Act.put, List.getElem_toArray, List.getElem_cons_zero, List.getElem_cons_succ, List.setIfInBounds_toArray, List.set_cons_zero, List.set_cons_succ]
              refine kr_take 25 rfl (by kernel_rfl) (by kernel_rfl) (by kernel_rfl) (fun _ _ _ h => h) (kr_not (by rfl)) trivial ?_
              try simp only [Act.put, List.getElem_toArray, List.getElem_cons_zero, List.getElem_cons_succ, List.setIfInBounds_toArray, List.set_cons_zero, List.set_cons_succ]
              refine kr_take 26 rfl (by kernel_rfl) (by kernel_rfl) (by kernel_rfl) (fun _ _ _ h => h) (kr_not (by rfl)) trivial ?_
              try simp only [Act.put, List.getElem_toArray, List.getElem_cons_zero, List.getElem_cons_succ, List.setIfInBounds_toArray, List.set_cons_zero, List.set_cons_succ]
              refine kr_take 27 rfl (by kernel_rfl) (by kernel_rfl) (by kernel_rfl) (fun _ _ _ h => h) (kr_not (by rfl)) trivial ?_
              try simp only [Act.put, List.getElem_toArray, List.getElem_cons_zero, List.getElem_cons_succ, List.setIfInBounds_toArray, List.set_cons_zero, List.set_cons_succ]
              refine kr_take 28 rfl (by kernel_rfl) (by kernel_rfl) (by kernel_rfl) (fun _ _ _ h => h) (kr_not (by rfl)) trivial ?_
              try simp only [Act.put, List.getElem_toArray, List.getElem_cons_zero, List.getElem_cons_succ, List.setIfInBounds_toArray, List.set_cons_zero, List.set_cons_succ]
              refine kr_take 29 rfl (by kernel_rfl) (by kernel_rfl) (by kernel_rfl) (fun _ _ _ h => h) (kr_not (by rfl)) trivial ?_
              try simp only [Act.put, List.getElem_toArray, List.getElem_cons_zero, List.getElem_cons_succ, List.setIfInBounds_toArray, List.set_cons_zero, List.set_cons_succ]
              refine kr_find 30 rfl (by kernel_rfl) (by kernel_rfl) (by kernel_rfl) (fun _ _ _ _ h => h) (by rfl) trivial ?_
              apply Exists.intro; apply And.intro
              · intro w' hS K hK
                clear hS
                go_light
                go_simp
                exact hK.out
              try simp only [Act.put, List.getElem_toArray, List.getElem_cons_zero, List.getElem_cons_succ, List.setIfInBounds_toArray, List.set_cons_zero, List.set_cons_succ]
              refine kr_done (by kernel_rfl) ?_ _
              go_wp2_with fail
              go_meet
              exact ⟨by rw [← HTT.out]; rfl, (Fr.refl _ wr).drew⟩
          case rest =>
          obtain ⟨rfl, hwc⟩ := hcut
          have HWC := Lib.hid hwc
          clear hwc htt
          obtain ⟨w8, hw8⟩ : ∃ y, y = wc := ⟨_, rfl⟩
          subst hw8
          go_upto_if 92 with (fail)
          go_cut [11] (fun v11 wd => v11 = .bool (fv || tt) ∧ wd = w8)
          case first =>
            cases tt
            · go_wp2_with fail
              go_meet
              exact ⟨by simp, rfl⟩
            · go_wp2_with fail
              go_meet
              exact ⟨by simp, rfl⟩
          case rest =>
          obtain ⟨rfl, hwd⟩ := hcut
          subst hwd
          obtain ⟨w9, hw9⟩ : ∃ y, y = wc := ⟨_, rfl⟩
          subst hw9
          have HP9 := Lib.hid (HP8.out.fr HWC.out)
          have Z9 := Lib.hid (show N ≤ w9.heap.size by have h1 := HZ8.out; have h2 := HWC.out.size; omega)
          have HLD := Lib.hid (show (L.drop k).length ≤ 8 from (HJ.out.tl k).2)
          have HDH := Lib.hid (drop_head Hq.out)
          have HNB := Lib.hid (show (⟨q.n, q.bits⟩ : N5).ok from ⟨HQO.out.n, HQO.out.bits⟩)
          have P9d := Lib.hid (HP9.out.fr (Fr.refl _ w9).drew)
          have Z9d := Lib.hid (show N ≤ w9.drew.heap.size by have h1 := Z9.out; have h2 := ((Fr.refl (fun _ => False) w9).drew).size; omega)
          have RN9 := Lib.hid (fun (w' : World) (f : Fr (fun _ => False) w9 w') => RN.out w' (HWC.out.then' f))
          have C49 := Lib.hid (fun (w' : World) (f : Fr (fun _ => False) w9 w') => C4.out w' (HWC.out.then' f))
          have K0d := Lib.hid ((((HWC.out.then' (Fr.refl _ w9).drew)).block b0 (lt_of_block HK0.out) (fun e => e)).trans HK0.out)
          have K1d := Lib.hid ((((HWC.out.then' (Fr.refl _ w9).drew)).block b1 (lt_of_block HK1.out) (fun e => e)).trans HK1.out)
          have S9d := Lib.hid (HS8.out.fr0 (HWC.out.then' (Fr.refl _ w9).drew))
          go_upto_region 19 with (fail)
          refine kr_start [(5, fun W => W.rangeAt b (off + k * 10) q.n.cells), (10, fun W => W.cell? ⟨b, off + k * 10 + 4, none⟩ = some (.int .i64 q.bits))] (by kernel_rfl) (by kernel_rfl) ?_
          refine kr_find 0 rfl (by kernel_rfl) (by kernel_rfl) (by kernel_rfl) (fun _ _ _ _ h => h) (by rfl) trivial ?_
          apply Exists.intro; apply And.intro
          · intro w' hS K hK
            clear hS
            go_light
            go_simp
            exact hK.out
          try simp only [Act.put, List.getElem_toArray, List.getElem_cons_zero, List.getElem_cons_succ, List.setIfInBounds_toArray, List.set_cons_zero, List.set_cons_succ]
          refine kr_find 1 rfl (by kernel_rfl) (by kernel_rfl) (by kernel_rfl) (fun _ _ _ _ h => h) (by rfl) trivial ?_
          apply Exists.intro; apply And.intro
          · intro w' hS K hK
            clear hS
            go_light
            go_simp
            exact hK.out
          try simp only [Act.put, List.getElem_toArray, List.getElem_cons_zero, List.getElem_cons_succ, List.setIfInBounds_toArray, List.set_cons_zero, List.set_cons_succ]
          refine kr_find 2 rfl (by kernel_rfl) (by kernel_rfl) (by kernel_rfl) (fun _ _ _ _ h => h) (by rfl) trivial ?_
          apply Exists.intro; apply And.intro
          · intro w' hS K hK
            clear hS
            go_light
            go_simp
            exact hK.out
          try simp only [Act.put, List.getElem_toArray, List.getElem_cons_zero, List.getElem_cons_succ, List.setIfInBounds_toArray, List.set_cons_zero, List.set_cons_succ]
          refine kr_find 3 rfl (by kernel_rfl) (by kernel_rfl) (by kernel_rfl) (fun _ _ _ _ h => h) (by rfl) trivial ?_
          apply Exists.intro; apply And.intro
          · intro w' hS K hK
            clear hS
            go_light
            go_simp
            exact hK.out
          try simp only [Act.put, List.getElem_toArray, List.getElem_cons_zero, List.getElem_cons_succ, List.setIfInBounds_toArray, List.set_cons_zero, List.set_cons_succ]
          refine kr_find 4 rfl (by kernel_rfl) (by kernel_rfl) (by kernel_rfl) (fun _ _ _ _ h => h) (by rfl) trivial ?_
          apply Exists.intro; apply And.intro
          · intro w' hS K hK
            clear hS
            go_light
            go_simp
            exact hK.out
          try simp only [Act.put, List.getElem_toArray, List.getElem_cons_zero, List.getElem_cons_succ, List.setIfInBounds_toArray, List.set_cons_zero, List.set_cons_succ]
          refine kr_take 5 rfl (by kernel_rfl) (by kernel_rfl) (by kernel_rfl) (fun _ _ _ h => h) (yieldsIf_load_mid (by rfl) 45 _ rfl (b) (off + k * 10) rfl (q.n.cells) _ (fun _ h => h) Try.underlying45 rfl (by kernel_rfl)) (show _ from RN9.out _ (Fr.refl _ w9).drew) ?_
          try simp only [Act.put, List.getElem_toArray, List.getElem_cons_zero, List.getElem_cons_succ, List.setIfInBounds_toArray, List.set_cons_zero, List.set_cons_succ]
          refine kr_find 6 rfl (by kernel_rfl) (by kernel_rfl) (by kernel_rfl) (fun _ _ _ _ h => h) (by rfl) trivial ?_
          apply Exists.intro; apply And.intro
          · intro w' hS K hK
            clear hS
            go_light
            go_simp
            exact hK.out
          try simp only [Act.put, List.getElem_toArray, List.getElem_cons_zero, List.getElem_cons_succ, List.setIfInBounds_toArray, List.set_cons_zero, List.set_cons_succ]
          refine kr_find 7 rfl (by kernel_rfl) (by kernel_rfl) (by kernel_rfl) (fun _ _ _ _ h => h) (by rfl) trivial ?_
          apply Exists.intro; apply And.intro
          · intro w' hS K hK
            clear hS
            go_light
            go_simp
            exact hK.out
          try simp only [Act.put, List.getElem_toArray, List.getElem_cons_zero, List.getElem_cons_succ, List.setIfInBounds_toArray, List.set_cons_zero, List.set_cons_succ]
          refine kr_find 8 rfl (by kernel_rfl) (by kernel_rfl) (by kernel_rfl) (fun _ _ _ _ h => h) (by rfl) trivial ?_
          apply Exists.intro; apply And.intro
          · intro w' hS K hK
            clear hS
            go_light
            go_simp
            exact hK.out
          try simp only [Act.put, List.getElem_toArray, List.getElem_cons_zero, List.getElem_cons_succ, List.setIfInBounds_toArray, List.set_cons_zero, List.set_cons_succ]
          refine kr_find 9 rfl (by kernel_rfl) (by kernel_rfl) (by kernel_rfl) (fun _ _ _ _ h => h) (by rfl) trivial ?_
          apply Exists.intro; apply And.intro
          · intro w' hS K hK
            clear hS
            go_light
            go_simp
            exact hK.out
          try simp only [Act.put, List.getElem_toArray, List.getElem_cons_zero, List.getElem_cons_succ, List.setIfInBounds_toArray, List.set_cons_zero, List.set_cons_succ]
          refine kr_find 10 rfl (by kernel_rfl) (by kernel_rfl) (by kernel_rfl) (fun _ _ _ _ h => h) (by rfl) (show _ from C49.out _ (Fr.refl _ w9).drew) ?_
          apply Exists.intro; apply And.intro
          · intro w' hS K hK
            have hS : w'.cell? ⟨b, off + k * 10 + 4, none⟩ = some (.int .i64 q.bits) := hS
            go_light
            go_simp
            exact hK.out
          try simp only [Act.put, List.getElem_toArray, List.getElem_cons_zero, List.getElem_cons_succ, List.setIfInBounds_toArray, List.set_cons_zero, List.set_cons_succ]
          refine kr_one 11 (by kernel_rfl) rfl (by rfl) (fun K hK => ?_)
          go_simp
          go_at_call 32
          refine (drop_aw q.n q.bits HNB.out HN.out Z9d.out P9d.out HLD.out HDH.out.1 HDH.out.2).mono ?_
          rintro e w10 ⟨rfl, hp, hz, hk10⟩
          have P10 := Lib.hid hp
          have Z10 := Lib.hid hz
          have K10 := Lib.hid hk10
          clear hp hz hk10
          refine hK.out _ _ ⟨.inl (by kernel_rfl), .inl (by kernel_rfl), trivial⟩ ?_
          clear hK K
          try simp only [Act.put, List.getElem_toArray, List.getElem_cons_zero, List.getElem_cons_succ, List.setIfInBounds_toArray, List.set_cons_zero, List.set_cons_succ]
          refine kr_find 12 rfl (by kernel_rfl) (by kernel_rfl) (by kernel_rfl) (fun _ _ _ _ h => h) (by rfl) trivial ?_
          apply Exists.intro; apply And.intro
          · intro w' hS K hK
            clear hS
            go_light
            go_simp
            exact hK.out
          try simp only [Act.put, List.getElem_toArray, List.getElem_cons_zero, List.getElem_cons_succ, List.setIfInBounds_toArray, List.set_cons_zero, List.set_cons_succ]
          refine kr_done (by kernel_rfl) ?_ _
          go_wp2_with fail
          go_roundw
          case rel =>
            refine ⟨k + 1, fv || tt, by go_num, by omega, rfl, ?_, P10.out, Nat.le_trans Z9d.out Z10.out, K10.out _ _ _ K0d.out (by decide) (by decide), K10.out _ _ _ K1d.out (by decide) (by decide), S9d.out.keep K10.out⟩
            rw [← HFV.out, ← HTT.out, List.take_add_one, Hq.out, List.any_append]
            cases decide (re = 0) <;> simp
          case measure => simp [intOf]; omega
        · have hkn : k = ln := by omega
          obtain ⟨w8, hw8⟩ : ∃ y, y = wr := ⟨_, rfl⟩
          subst hw8
          go_upto_region 22 with (fail)
          clear hlt
          have PE := Lib.hid (show Pt N W w8 g m [] from by have h := HP8.out; rw [hkn, ← HLN.out, List.drop_length] at h; exact h)
          have FVA := Lib.hid (show re ≠ 0 ∨ fv = true from by
            by_cases h : re = 0
            · refine .inr ?_
              have h1 := (HG.out (by rw [h]; decide)).2.1
              rw [← HFV.out, hkn, ← HLN.out, List.take_length, h1, h]
              rfl
            · exact .inl h)
          have RK8 := Lib.hid (range_at w8 b0 [.int .u8 key.a, .int .u8 key.b, .int .u8 key.c, .int .u8 key.d] 45 HK0.out)
          iterate 60 (first
            | (have := MK5; clear this)
            | (refine wpList_load_mid rfl 45 _ rfl b0 0 rfl [.int .u8 key.a, .int .u8 key.b, .int .u8 key.c, .int .u8 key.d] _ RK8.out Try.underlying45 rfl (by kernel_rfl) ?_; have MK5 := Lib.hid True.intro)
            | go_step)
          obtain ⟨z, hz⟩ : ∃ z, findA [] key = z := ⟨_, rfl⟩
          go_upto_region 23 with (go_at_call 34; refine (find_aw key HX.out PE.out (by decide) (fun p hp => by cases hp) (show findA [] key = z ∧ findE [] key = 100 from ⟨hz, rfl⟩)).mono ?_; rintro e w9 ⟨rfl, hp, f⟩; have P9 := Lib.hid hp; have G9 := Lib.hid f; clear hp f)
          have FA9 := Lib.hid ((Fr.refl (fun _ => False) w9).alloc (.cells #[.int .u8 z.a, .int .u8 z.b, .int .u8 z.c, .int .u8 z.d] 45))
          generalize w9.alloc (.cells #[.int .u8 z.a, .int .u8 z.b, .int .u8 z.c, .int .u8 z.d] 45) = w10 at FA9 ⊢
          obtain ⟨lvE, hpE, hfE⟩ := P9.out.fr FA9.out
          have HPE := Lib.hid hpE
          have HFE2 := Lib.hid hfE
          clear hpE hfE hz
          go_cut [4] (fun v4 wc => v4 = .bool true ∧ Fr (fun _ => False) W wc)
          case first =>
            rcases hdich with h0 | h0
            · subst h0
              have hfv : fv = true := FVA.out.resolve_left (fun h => h rfl)
              subst hfv
              as_aux_lemma =>
              go_wp2_with (go_at_call 36; refine (all36 N g m [] lvE w10 HPE.out (by decide)).mono ?_; rintro e w11 ⟨v9, rfl, s9, f9⟩; obtain ⟨A9, c9, hv9, _, _⟩ := s9.form; subst hv9; have F9 := Lib.hid f9; clear s9 f9)
              go_meet
              exact ⟨rfl, HFE2.out.then' F9.out⟩
            · subst h0
              as_aux_lemma =>
              go_wp2_with (go_at_call 36; refine (all36 N g m [] lvE w10 HPE.out (by decide)).mono ?_; rintro e w11 ⟨v9, rfl, s9, f9⟩; obtain ⟨A9, c9, hv9, _, _⟩ := s9.form; subst hv9; have F9 := Lib.hid f9; clear s9 f9)
              go_meet
              exact ⟨rfl, HFE2.out.then' F9.out⟩
          case rest =>
          obtain ⟨rfl, hwc⟩ := hcut
          go_wp2_with fail
          go_ret
          exact ⟨rfl, hwc⟩
end Go.Proofs.Ytcfadmjihccimaa
