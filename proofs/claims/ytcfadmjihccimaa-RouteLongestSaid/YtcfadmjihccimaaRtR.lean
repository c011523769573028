/- The table of law 10: Find. No condition but lengths. -/
import Derived.Test.YtcfadmjihccimaaRtQ
namespace Go.Proofs.Ytcfadmjihccimaa
set_option linter.unusedVariables false
set_option linter.unusedSimpArgs false
open Go.RowKit
theorem results_cell34 (tmps : Array Value) (w : World) (b : Nat) (cs : List Value) (hp : tmps.getD 4 undef = .pointer (some ⟨b, 0, none⟩)) (hl : (loadVar 45 ⟨b, 0, none⟩).run Try.prog w = .ok (.agg cs.toArray) w) :
    (results Try.f34 tmps).run Try.prog w = .ok (.tuple #[.agg cs.toArray, tmps.getD 5 undef]) w := by
  have ha : (asAddr (.pointer (some ⟨b, 0, none⟩))).run Try.prog w = .ok ⟨b, 0, none⟩ w := by rfl
  rw [Array.getD_eq_getD_getElem?] at *
  simp [results, Try.results34, hp, hl, ha, Sem.run_bind]
theorem results_set34 (tmps : Array Value) (w : World) (b : Nat) (k : I4) (hp : tmps.getD 4 undef = .pointer (some ⟨b, 0, none⟩)) (ht : w.there b 0 4) :
    (results Try.f34 tmps).run Try.prog (w.setCells b 0 k.cells) = .ok (.tuple #[.agg k.cells.toArray, tmps.getD 5 undef]) (w.setCells b 0 k.cells) :=
  results_cell34 tmps _ b k.cells hp (run_loadVar_mid _ b 0 45 k.cells _ (World.rangeAt_setCells_same w b 0 k.cells ht) Try.underlying45 rfl (by kernel_rfl))
theorem find_prefix {p : W10 → Bool} {L : List W10} {i : Nat} {q : W10} (h : ∀ j x, j < i → L[j]? = some x → p x = false) (hi : L[i]? = some q) (hq : p q = true) : L.find? p = some q := by
  induction L generalizing i with
  | nil => cases hi
  | cons x L ih =>
    rw [List.find?_cons]
    cases i with
    | zero => cases hi; simp [hq]
    | succ i => rw [h 0 x (by omega) rfl]; exact ih (fun j y hj hy => h (j + 1) y (by omega) hy) hi
theorem find_none {p : W10 → Bool} {L : List W10} (h : ∀ (j : Nat) x, L[j]? = some x → p x = false) : L.find? p = none := by
  rw [List.find?_eq_none]
  intro x hx
  obtain ⟨j, hj⟩ := List.getElem?_of_mem hx
  simp [h j x hj]
set_option maxHeartbeats 16000000 in
set_option maxRecDepth 100000 in
theorem find34 (N g m : Nat) (L : List W10) (lv : Value) (key : I4) (w : World) (hk : key.ok) (hT : PtAt N w g m L lv) (hlen : L.length ≤ 8) (hmay : ∀ p ∈ L, mayW p = true) :
    Calls Try.prog 34 #[.pointer (some ⟨g, 0, none⟩), .agg #[.int .u8 key.a, .int .u8 key.b, .int .u8 key.c, .int .u8 key.d]] w fun e w' => e = .returned (.tuple #[.agg (findA L key).cells.toArray, .int .i64 (findE L key)]) ∧ Fr (fun _ => False) w w' := by
  have FA := Lib.hid (Fr.refl (fun _ => False) w)
  have HX := Lib.hid hk
  have HT := Lib.hid hT
  have HM := Lib.hid hmay
  obtain ⟨n, hn⟩ : ∃ n, L.length = n := ⟨_, rfl⟩
  have Hn := Lib.hid hn
  rw [hn] at hlen
  obtain ⟨ra, hra⟩ : ∃ ra, findA L key = ra := ⟨_, rfl⟩
  obtain ⟨re, hre⟩ : ∃ re, findE L key = re := ⟨_, rfl⟩
  rw [hra, hre]
  have HR0 := Lib.hid (And.intro hra hre)
  clear hk hT hra hre hn hmay
  go_enter Try.func34, Try.ntmps34
  go_upto_region 1 with (fail)
  obtain ⟨w1, hw1⟩ : ∃ w1, (w.alloc (.cells #[.int .u8 key.a, .int .u8 key.b, .int .u8 key.c, .int .u8 key.d] 45)).alloc (.cells #[.int .u8 0, .int .u8 0, .int .u8 0, .int .u8 0] 45) = w1 := ⟨_, rfl⟩
  have g0 : w1.heap[w.heap.size]? = some (.cells #[.int .u8 key.a, .int .u8 key.b, .int .u8 key.c, .int .u8 key.d] 45) := by
    rw [← hw1, Below.heap_alloc _ _ _ (by simp)]; exact heap_alloc_new w _
  have g1 : w1.heap[w.heap.size + 1]? = some (.cells #[.int .u8 0, .int .u8 0, .int .u8 0, .int .u8 0] 45) := by
    rw [← hw1]; have := heap_alloc_new (w.alloc (.cells #[.int .u8 key.a, .int .u8 key.b, .int .u8 key.c, .int .u8 key.d] 45)) (.cells #[.int .u8 0, .int .u8 0, .int .u8 0, .int .u8 0] 45); simpa using this
  have F1 := Lib.hid (show Fr (fun _ => False) w w1 from hw1 ▸ (FA.out.alloc _).alloc _)
  rw [hw1]
  clear hw1
  obtain ⟨b0, hb0⟩ : ∃ b0, w.heap.size = b0 := ⟨_, rfl⟩
  have HB0 := Lib.hid hb0
  rw [hb0] at g0 g1 ⊢
  clear hb0
  have HBX := Lib.hid (fun (w' : World) (f : Fr (fun _ => False) w1 w') => range_at w' b0 key.cells 45 ((f.block _ (lt_of_block g0) (fun e => e)).trans g0))
  have HTH := Lib.hid (fun (w' : World) (f : Fr (fun _ => False) w1 w') => show w'.there (b0 + 1) 0 4 from there_at w' (b0 + 1) [.int .u8 0, .int .u8 0, .int .u8 0, .int .u8 0] 45 ((f.block _ (lt_of_block g1) (fun e => e)).trans g1))
  clear g0 g1
  have T1 := Lib.hid (HT.out.fr F1.out)
  go_upto_region 2 with (go_at_call 36; refine (all36 N g m L lv w1 T1.out (by rw [Hn.out]; exact hlen)).mono ?_; rw [Hn.out]; rintro e w2 ⟨v2, rfl, s2, f2⟩; have S2 := Lib.hid s2; have F2 := Lib.hid f2; clear s2 f2)
  obtain ⟨A2, c2, hv2, hc2, _⟩ := S2.out.form
  subst hv2
  have T2 := Lib.hid (T1.out.fr F2.out)
  have cf := cells_at w2 g [.map (some m), lv, .func (.func 54) #[] #[]] 111 T2.out.blk 2 _ rfl
  go_upto_region 3 with (go_at_call 60; refine (sort60 w1.heap.size n c2 A2 L w2 S2.out Hn.out hlen (fun p hp => mayW_bits (HM.out p hp))).mono ?_; rintro e w3 ⟨rfl, L', hp, hd, s3, f3⟩; have HP := Lib.hid hp; have HD := Lib.hid hd; have S3 := Lib.hid s3; have F3 := Lib.hid (show Fr (fun _ => False) w1 w3 from F2.out.trans f3 (fun i hi e => by have := (S2.out.lt i e).1; omega)); clear hp hd s3 f3)
  clear cf
  have HL' := Lib.hid (show L'.length = n by rw [HP.out.length_eq, Hn.out])
  have HFL := Lib.hid (find_law HX.out HT.out.ok HM.out HT.out.nd HP.out (by rw [HL'.out]; exact HD.out))
  go_wp2_with fail
  go_loopw [20] (fun v wr => ∃ i : Nat, v = .int .i64 i ∧ i ≤ n ∧ (∀ (j : Nat) (x : W10), j < i → L'[j]? = some x → hitW key x = false) ∧ Fr (fun _ => False) w3 wr) (fun v _ => n - (intOf v).toNat)
  case atStart => exact ⟨0, rfl, Nat.zero_le _, (fun j x hj => absurd hj (Nat.not_lt_zero _)), Fr.refl _ _⟩
  case round =>
    obtain ⟨i, rfl, hi, hno, hf⟩ := hrel
    have Hno := Lib.hid hno
    have HF := Lib.hid hf
    clear hno hf
    by_cases hlt : i < n
    · obtain ⟨q, hq⟩ : ∃ q, L'[i]? = some q := ⟨_, List.getElem?_eq_getElem (by rw [HL'.out]; exact hlt)⟩
      have Hq := Lib.hid hq
      have hqm := HP.out.mem_iff.1 (List.mem_of_getElem? hq)
      have HQB := Lib.hid (mayW_bits (HM.out q hqm))
      have HQO := Lib.hid (HT.out.ok q hqm)
      obtain ⟨b, off, cap', hv', _, _, _, _, _, _⟩ := S3.out.form1 (by omega)
      injection hv' with hv1 _ hv2
      subst hv1; subst hv2
      have RQ := Lib.hid ((S3.out.fr0 HF.out).ways hq)
      obtain ⟨ht, hht⟩ : ∃ ht, hitW key q = ht := ⟨_, rfl⟩
      have HHT := Lib.hid hht
      have HNE := Lib.hid (fun w : World => show (binOp .neq 45 (.agg #[.int .u8 (mkB key.a q.bits 0), .int .u8 (mkB key.b q.bits 8), .int .u8 (mkB key.c q.bits 16), .int .u8 (mkB key.d q.bits 24)]) (.agg q.n.cells.toArray)).run Try.prog w = .ok (.bool (!ht)) w from by
        obtain ⟨nb, hnb⟩ : ∃ nb : Nat, q.bits = nb := ⟨q.bits.toNat, by have := HQB.out; omega⟩
        have h := neq45 (by rw [hnb]; exact mkI_ok HX.out nb : (mkI key q.bits).ok) HQO.out.n w
        rw [← hht]
        exact h)
      clear hq hqm hht
      have hic : i < c2 := by omega
      have hiI : (i : Int) < (n : Int) := by omega
      iterate 60 (first
        | (have := MK1; clear this)
        | (refine wpList_load_mid rfl 69 _ rfl b (off + i * 10) rfl [.int .u8 q.n.a, .int .u8 q.n.b, .int .u8 q.n.c, .int .u8 q.n.d, .int .i64 q.bits, .int .u8 q.g.a, .int .u8 q.g.b, .int .u8 q.g.c, .int .u8 q.g.d, .bool q.via] _ RQ.out Try.underlying69 rfl (by kernel_rfl) ?_; have MK1 := Lib.hid True.intro)
        | go_step)
      go_upto_region 6 with (fail)
      have B5 := Lib.hid (box_at wr q.cells 69)
      have F5 := Lib.hid ((Fr.refl (fun _ => False) wr).alloc (.cells q.cells.toArray 69))
      unfold W10.cells at B5 F5
      generalize wr.alloc (.cells #[.int .u8 q.n.a, .int .u8 q.n.b, .int .u8 q.n.c, .int .u8 q.n.d, .int .i64 q.bits, .int .u8 q.g.a, .int .u8 q.g.b, .int .u8 q.g.c, .int .u8 q.g.d, .bool q.via] 69) = w5 at B5 F5 ⊢
      obtain ⟨wb, hwb⟩ : ∃ wb, wr.heap.size = wb := ⟨_, rfl⟩
      rw [hwb] at B5 ⊢
      clear hwb
      have HKX := Lib.hid (fun (w' : World) (f : Fr (fun _ => False) w5 w') => HBX.out w' (F3.out.then' (HF.out.then' (F5.out.then' f))))
      have HQA := Lib.hid (fun (w' : World) (f : Fr (fun _ => False) w5 w') => show w'.rangeAt wb 0 q.cells from range_at w' wb q.cells 69 (B5.out w' f))
      have HQN := Lib.hid (fun (w' : World) (f : Fr (fun _ => False) w5 w') => show w'.rangeAt wb 0 q.n.cells from range_part (HQA.out w' f) 0 4)
      have HQG := Lib.hid (fun (w' : World) (f : Fr (fun _ => False) w5 w') => show w'.rangeAt wb 5 q.g.cells from by have h := range_part (HQA.out w' f) 5 4; rw [Nat.zero_add] at h; exact h)
      have HQ4 := Lib.hid (fun (w' : World) (f : Fr (fun _ => False) w5 w') => cells_at w' wb q.cells 69 (B5.out w' f) 4 _ rfl)
      have HQ9 := Lib.hid (fun (w' : World) (f : Fr (fun _ => False) w5 w') => cells_at w' wb q.cells 69 (B5.out w' f) 9 _ rfl)
      refine kr_start [(0, fun W => W.rangeAt b0 0 key.cells), (2, fun W => W.cell? ⟨wb, 4, none⟩ = some (.int .i64 q.bits)), (5, fun W => W.rangeAt wb 0 q.n.cells)] (by kernel_rfl) (by kernel_rfl) ?_
      refine kr_take 0 rfl (by kernel_rfl) (by kernel_rfl) (by kernel_rfl) (fun _ _ _ h => h) (yieldsIf_load_mid (by rfl) 45 _ rfl (b0) (0) rfl (key.cells) _ (fun _ h => h) Try.underlying45 rfl (by kernel_rfl)) (show _ from HKX.out _ (Fr.refl _ w5).drew) ?_
      try simp only [Act.put, List.getElem_toArray, List.getElem_cons_zero, List.getElem_cons_succ, List.setIfInBounds_toArray, List.set_cons_zero, List.set_cons_succ]
      refine kr_find 1 rfl (by kernel_rfl) (by kernel_rfl) (by kernel_rfl) (fun _ _ _ _ h => h) (by rfl) trivial ?_
      apply Exists.intro; apply And.intro
      · intro w' hS K hK
        clear hS
        go_light
        go_simp
        exact hK.out
      try simp only [Act.put, List.getElem_toArray, List.getElem_cons_zero, List.getElem_cons_succ, List.setIfInBounds_toArray, List.set_cons_zero, List.set_cons_succ]
      refine kr_find 2 rfl (by kernel_rfl) (by kernel_rfl) (by kernel_rfl) (fun _ _ _ _ h => h) (by rfl) (show _ from HQ4.out _ (Fr.refl _ w5).drew) ?_
      apply Exists.intro; apply And.intro
      · intro w' hS K hK
        have hS : w'.cell? ⟨wb, 4, none⟩ = some (.int .i64 q.bits) := hS
        go_light
        go_simp
        exact hK.out
      try simp only [Act.put, List.getElem_toArray, List.getElem_cons_zero, List.getElem_cons_succ, List.setIfInBounds_toArray, List.set_cons_zero, List.set_cons_succ]
      refine kr_find 4 rfl (by kernel_rfl) (by kernel_rfl) (by kernel_rfl) (fun _ _ _ _ h => h) (by rfl) trivial ?_
      apply Exists.intro; apply And.intro
      · intro w' hS K hK
        clear hS
        go_light
        go_simp
        exact hK.out
      try simp only [Act.put, List.getElem_toArray, List.getElem_cons_zero, List.getElem_cons_succ, List.setIfInBounds_toArray, List.set_cons_zero, List.set_cons_succ]
      refine kr_take 5 rfl (by kernel_rfl) (by kernel_rfl) (by kernel_rfl) (fun _ _ _ h => h) (yieldsIf_load_mid (by rfl) 45 _ rfl (wb) (0) rfl (q.n.cells) _ (fun _ h => h) Try.underlying45 rfl (by kernel_rfl)) (show _ from HQN.out _ (Fr.refl _ w5).drew) ?_
      try simp only [Act.put, List.getElem_toArray, List.getElem_cons_zero, List.getElem_cons_succ, List.setIfInBounds_toArray, List.set_cons_zero, List.set_cons_succ]
      refine kr_one 3 (by kernel_rfl) rfl (by rfl) (fun K hK => ?_)
      go_simp
      go_at_call 55
      refine (masked55 key.a key.b key.c key.d q.bits _ HQB.out).mono ?_
      rintro e w6 ⟨rfl, f6⟩
      have F6 := Lib.hid ((Fr.refl (fun _ => False) w5).drew.then' f6)
      clear f6
      refine hK.out _ _ ⟨.inl (by kernel_rfl), .inl (by kernel_rfl), .inr (HQN.out _ F6.out), trivial⟩ ?_
      clear hK K
      try simp only [Act.put, List.getElem_toArray, List.getElem_cons_zero, List.getElem_cons_succ, List.setIfInBounds_toArray, List.set_cons_zero, List.set_cons_succ]
      refine kr_take 6 rfl (by kernel_rfl) (by kernel_rfl) (by kernel_rfl) (fun _ _ _ h => h) (kr_bin_agg (by rfl) .neq 45 45 _ _ rfl rfl rfl (by kernel_rfl) _ HNE.out) trivial ?_
      try simp only [Act.put, List.getElem_toArray, List.getElem_cons_zero, List.getElem_cons_succ, List.setIfInBounds_toArray, List.set_cons_zero, List.set_cons_succ]
      refine kr_done (by kernel_rfl) ?_ _
      have FX6 := Lib.hid (F3.out.then' (HF.out.then' (F5.out.then' F6.out)))
      cases ht
      · go_wp2_with fail
        go_roundw
        case rel =>
          refine ⟨i + 1, by go_num, by omega, fun j x hj hx => ?_, HF.out.then' (F5.out.then' F6.out)⟩
          by_cases e : j = i
          · subst e
            rw [Hq.out] at hx
            cases hx
            exact HHT.out
          · exact Hno.out j x (by omega) hx
        case measure => simp [intOf]; omega
      · have HFQ := Lib.hid (find_prefix Hno.out Hq.out HHT.out)
        have d9 := HQ9.out w6 F6.out
        cases hv : q.via with
        | true =>
          have HE := Lib.hid (show ra = q.g ∧ re = 0 from by
            have h1 := HFL.out
            rw [HFQ.out] at h1
            rw [← HR0.out.1, ← HR0.out.2]
            unfold findA findE
            cases hb : bst key L 0 none with
            | none => rw [hb] at h1; cases h1
            | some p => rw [hb] at h1; cases h1; simp [hv])
          rw [hv] at d9
          clear hv
          as_aux_lemma =>
          iterate 200 (first
            | (have := MK9; clear this)
            | (refine wpList_load_mid rfl 45 _ rfl wb 5 rfl q.g.cells _ (HQG.out w6 F6.out) Try.underlying45 rfl (by kernel_rfl) ?_)
            | (refine wpList_store_mid rfl 45 _ _ rfl (b0 + 1) 0 (q.g).cells.toArray rfl rfl (HTH.out w6 FX6.out) (by kernel_rfl) (by simp [I4.cells, Value.oneCell']) ?_; have MK9 := Lib.hid True.intro)
            | go_step)
          have F9 := Lib.hid (Fr.setCells (S := fun _ => False) (b0 + 1) (fun h => absurd h (by have := HB0.out; omega)) (q.g).cells 0 w6 (F1.out.then' FX6.out))
          have RS := Lib.hid (fun tmps hp => results_set34 tmps w6 (b0 + 1) (q.g) hp (HTH.out w6 FX6.out))
          change wpList Try.prog _ _ _ _ (w6.setCells (b0 + 1) 0 (q.g).cells)
          generalize w6.setCells (b0 + 1) 0 (q.g).cells = w9 at F9 RS ⊢
          go_wp2_with fail
          exact bodyPost_ret (v := .tuple #[.agg (q.g).cells.toArray, .int .i64 0]) (RS.out _ rfl) rfl ⟨by rw [HE.out.1, HE.out.2], F9.out⟩
        | false =>
          have HE := Lib.hid (show ra = key ∧ re = 0 from by
            have h1 := HFL.out
            rw [HFQ.out] at h1
            rw [← HR0.out.1, ← HR0.out.2]
            unfold findA findE
            cases hb : bst key L 0 none with
            | none => rw [hb] at h1; cases h1
            | some p => rw [hb] at h1; cases h1; simp [hv])
          rw [hv] at d9
          clear hv
          as_aux_lemma =>
          iterate 200 (first
            | (have := MK9; clear this)
            | (refine wpList_load_mid rfl 45 _ rfl b0 0 rfl key.cells _ (HKX.out w6 F6.out) Try.underlying45 rfl (by kernel_rfl) ?_)
            | (refine wpList_store_mid rfl 45 _ _ rfl (b0 + 1) 0 (key).cells.toArray rfl rfl (HTH.out w6 FX6.out) (by kernel_rfl) (by simp [I4.cells, Value.oneCell']) ?_; have MK9 := Lib.hid True.intro)
            | go_step)
          have F9 := Lib.hid (Fr.setCells (S := fun _ => False) (b0 + 1) (fun h => absurd h (by have := HB0.out; omega)) (key).cells 0 w6 (F1.out.then' FX6.out))
          have RS := Lib.hid (fun tmps hp => results_set34 tmps w6 (b0 + 1) (key) hp (HTH.out w6 FX6.out))
          change wpList Try.prog _ _ _ _ (w6.setCells (b0 + 1) 0 (key).cells)
          generalize w6.setCells (b0 + 1) 0 (key).cells = w9 at F9 RS ⊢
          go_wp2_with fail
          exact bodyPost_ret (v := .tuple #[.agg (key).cells.toArray, .int .i64 0]) (RS.out _ rfl) rfl ⟨by rw [HE.out.1, HE.out.2], F9.out⟩
    · obtain rfl : i = n := by omega
      have HE := Lib.hid (show ra = I4.zero ∧ re = 100 from by
        have h1 := HFL.out
        rw [find_none (fun j x hx => Hno.out j x (by have := (List.getElem?_eq_some_iff.1 hx).1; rw [HL'.out] at this; omega) hx)] at h1
        rw [← HR0.out.1, ← HR0.out.2]
        unfold findA findE
        cases hb : bst key L 0 none with
        | none => exact ⟨rfl, rfl⟩
        | some p => rw [hb] at h1; cases h1)
      have FXR := Lib.hid (F3.out.then' HF.out)
      as_aux_lemma =>
      iterate 200 (first
        | (have := MK9; clear this)
        | (refine wpList_store_mid rfl 45 _ _ rfl (b0 + 1) 0 (I4.zero).cells.toArray rfl rfl (HTH.out wr FXR.out) (by kernel_rfl) (by simp [I4.cells, Value.oneCell']) ?_; have MK9 := Lib.hid True.intro)
        | go_step)
      have F9 := Lib.hid (Fr.setCells (S := fun _ => False) (b0 + 1) (fun h => absurd h (by have := HB0.out; omega)) (I4.zero).cells 0 wr (F1.out.then' FXR.out))
      have RS := Lib.hid (fun tmps hp => results_set34 tmps wr (b0 + 1) (I4.zero) hp (HTH.out wr FXR.out))
      change wpList Try.prog _ _ _ _ (wr.setCells (b0 + 1) 0 (I4.zero).cells)
      generalize wr.setCells (b0 + 1) 0 (I4.zero).cells = w9 at F9 RS ⊢
      go_wp2_with fail
      exact bodyPost_ret (v := .tuple #[.agg (I4.zero).cells.toArray, .int .i64 100]) (RS.out _ rfl) rfl ⟨by rw [HE.out.1, HE.out.2], F9.out⟩
end Go.Proofs.Ytcfadmjihccimaa
