/- The table of law 10: DeleteFunc at its keys. No condition but lengths. -/
import Derived.Test.YtcfadmjihccimaaRtJ
import Derived.Test.YtcfadmjihccimaaRtF
namespace Go.Proofs.Ytcfadmjihccimaa
set_option linter.unusedVariables false
set_option linter.unusedSimpArgs false
open Go.RowKit
theorem lset_take : ∀ (vs cs : List Value) (j i : Nat), i ≤ j → (lset cs j vs).take i = cs.take i
  | [], _, _, _, _ => rfl
  | v :: vs, cs, j, i, h => by
    unfold lset
    rw [lset_take vs _ (j + 1) i (by omega), List.take_set_of_le h]
theorem kfl_lset : ∀ {R : List W10} {i : Nat} (x : W10), i < R.length → lset (kfl R) (i * 5) x.key.cells = kfl (R.set i x)
  | [], _, _, h => by simp at h
  | y :: R, 0, x, _ => by
    show lset (y.key.cells ++ kfl R) 0 x.key.cells = x.key.cells ++ kfl R
    exact lset_all _ _ _ rfl
  | y :: R, i + 1, x, h => by
    have e : (i + 1) * 5 = y.key.cells.length + i * 5 := by rw [N5.cells_len]; omega
    show lset (y.key.cells ++ kfl R) ((i + 1) * 5) x.key.cells = y.key.cells ++ kfl (R.set i x)
    rw [e, lset_pre, kfl_lset x (by simpa using h)]
theorem kfl_take (L : List W10) (k : Nat) : (kfl L).take (k * 5) = kfl (L.take k) := by
  induction L generalizing k with
  | nil => simp [kfl]
  | cons x L ih =>
    cases k with
    | zero => simp [kfl]
    | succ k =>
      have e : (k + 1) * 5 = x.key.cells.length + k * 5 := by rw [N5.cells_len]; omega
      show (x.key.cells ++ kfl L).take ((k + 1) * 5) = x.key.cells ++ kfl (L.take k)
      rw [e, List.take_length_add_append, ih]
theorem wpList_clear {P : Program} {ops : Array Oper} {rest : List Oper} {o : Oper} {a : Act} {w : World} {Q : Exit → Act → World → Prop} {t e : TypeId} {sz bytes : Nat} {z : Value} (hgd : o.guard = none) (x : Operand)
    (ho : o.op = .call { callee := .builtin .clear, args := #[x], argTypes := #[t] }) (T : SlTy P t e sz bytes z) (hz : ∀ w, (zeroValue e).run P w = .ok z w) (h1 : ∀ u ∈ z.cells, u.oneCell' = true)
    {g off n cap : Nat} (hx : a.eval x = .slice (some ⟨g, off, none⟩) (n + 1) cap) (ht : w.there g off ((n + 1) * sz))
    (hK : ∀ zs : List Value, zs.length = (n + 1) * sz → wpList P ops Q rest (a.put o.dst (.tuple #[])) (w.setCells g off zs)) : wpList P ops Q (o :: rest) a w := by
  refine wpList_plain hgd fun K' hK' => ?_
  have hlen : (Builtin.zeroCells z.cells (n + 1)).toList.length = (n + 1) * sz := by simp [Builtin.zeroCells, T.zs]
  have hone : ∀ u ∈ (Builtin.zeroCells z.cells (n + 1)).toList, u.oneCell' = true := by
    intro u hu
    have h0 := T.pos
    simp only [Builtin.zeroCells, Array.toList_map, List.mem_map] at hu
    obtain ⟨i, _, rfl⟩ := hu
    have hi : i % z.cells.size < z.cells.size := Nat.mod_lt _ (by rw [T.zs]; exact h0)
    rw [getElem!_pos z.cells _ hi]
    exact h1 _ (Array.getElem_mem hi)
  have hst := run_storeCells_cells (P := P) g off (Builtin.zeroCells z.cells (n + 1)).toList 0 w (fun j hj => (ht j (by omega)).1) (fun j hj => (ht j (by omega)).2) hone
  simp only [Nat.add_zero] at hst
  unfold Oper.wp
  simp [execOp, ho, resolve, invoke, builtin, hx, Builtin.clear_, run_underlying T.under, hz, hst, Result.andThen]
  exact hK' _ _ (hK _ hlen)
theorem run_sliceTo {P : Program} {t e : TypeId} {sz bytes : Nat} {z : Value} (T : SlTy P t e sz bytes z) {g off n cap k : Nat} (hkc : k ≤ cap) (hcm : cap ≤ maxLen) (w' : World) : (Instr.sliceAt t (.slice (some ⟨g, off, none⟩) n cap) none (some (.int .i64 k)) none).run P w' = .ok (.slice (some ⟨g, off, none⟩) k cap) w' := by
  obtain ⟨i, hi, hz, rfl, rfl⟩ := T.inf
  have hcap : cap ≤ 9223372036854775807 := by simp only [maxLen] at hcm; omega
  simp [Instr.sliceAt, Instr.slice, Instr.sliceBounds, Instr.sliceBound, run_underlying T.under, sizeOf, typeInfo, hi, asIntOf, hkc, Addr.add_mid]
theorem zero114 (w : World) : (zeroValue 114).run Try.prog w = .ok (.agg #[.int .u8 0, .int .u8 0, .int .u8 0, .int .u8 0, .int .i64 0]) w := by kernel_rfl
theorem wpList_clear109 {ops : Array Oper} {rest : List Oper} {o : Oper} {a : Act} {w : World} {Q : Exit → Act → World → Prop} (hgd : o.guard = none) (x : Operand)
    (ho : o.op = .call { callee := .builtin .clear, args := #[x], argTypes := #[109] })
    {g off cap : Nat} (hx : a.eval x = .slice (some ⟨g, off, none⟩) 1 cap) (ht : w.there g off 5)
    (hK : ∀ zs : List Value, zs.length = 5 → wpList Try.prog ops Q rest (a.put o.dst (.tuple #[])) (w.setCells g off zs)) : wpList Try.prog ops Q (o :: rest) a w :=
  wpList_clear (n := 0) hgd x ho st109 zero114 (by decide) hx ht hK
/-- The row while it is closed up: up to j. -/
def mid (L : List W10) (i0 j : Nat) : List W10 := (L.take i0 ++ L.drop (i0 + 1)).take (j - 1) ++ L.drop (j - 1)
theorem mid_len {L : List W10} {i0 j n : Nat} (hn : L.length = n) (h0 : i0 < n) (hj : i0 < j) (hjn : j ≤ n) : (mid L i0 j).length = n := by
  unfold mid
  rw [List.length_append, List.length_take, List.length_append, List.length_take, List.length_drop, List.length_drop, hn]
  omega
theorem mid_at {L : List W10} {i0 j n : Nat} (hn : L.length = n) (h0 : i0 < n) (hj : i0 < j) (hjn : j < n) : (mid L i0 j)[j]? = L[j]? := by
  unfold mid
  rw [List.getElem?_append_right (by rw [List.length_take, List.length_append, List.length_take, List.length_drop, hn]; omega), List.getElem?_drop]
  congr 1
  rw [List.length_take, List.length_append, List.length_take, List.length_drop, hn]
  omega
theorem mid_start (L : List W10) {i0 : Nat} (h : i0 < L.length) : mid L i0 (i0 + 1) = L := by
  unfold mid
  rw [Nat.add_sub_cancel, List.take_append_of_le_length (by rw [List.length_take]; omega), List.take_of_length_le (by rw [List.length_take]; omega), List.take_append_drop]
theorem mid_step {L : List W10} {i0 j n : Nat} {q : W10} (hn : L.length = n) (h0 : i0 < n) (hj : i0 < j) (hjn : j < n) (hq : L[j]? = some q) : (mid L i0 j).set (j - 1) q = mid L i0 (j + 1) := by
  have hlen : (L.take i0 ++ L.drop (i0 + 1)).length = n - 1 := by rw [List.length_append, List.length_take, List.length_drop, hn]; omega
  have hD : (L.take i0 ++ L.drop (i0 + 1))[j - 1]? = some q := by
    rw [List.getElem?_append_right (by rw [List.length_take, hn]; omega), List.length_take, hn, List.getElem?_drop, ← hq]
    congr 1
    omega
  unfold mid
  obtain ⟨hlt, hgq⟩ := List.getElem?_eq_some_iff.1 hD
  rw [Nat.add_sub_cancel, List.set_append_right _ _ (by rw [List.length_take]; omega), List.length_take, hlen, Nat.min_eq_left (by omega), Nat.sub_self]
  have e1 : (L.take i0 ++ L.drop (i0 + 1)).take j = (L.take i0 ++ L.drop (i0 + 1)).take (j - 1) ++ [q] := by
    rw [show j = (j - 1) + 1 by omega, List.take_add_one, hD]
    simp
  have e2 : L.drop (j - 1) = L[j - 1]'(by omega) :: L.drop j := by
    rw [List.drop_eq_getElem_cons (by omega), show j - 1 + 1 = j by omega]
  rw [e1, e2, List.set_cons_zero, List.append_assoc]
  rfl
theorem mid_end {L : List W10} {i0 n : Nat} (hn : L.length = n) (h0 : i0 < n) : (mid L i0 n).take (n - 1) = L.take i0 ++ L.drop (i0 + 1) := by
  have hlen : (L.take i0 ++ L.drop (i0 + 1)).length = n - 1 := by rw [List.length_append, List.length_take, List.length_drop, hn]; omega
  unfold mid
  rw [List.take_append_of_le_length (by rw [List.length_take]; omega), List.take_take, Nat.min_self, List.take_of_length_le (by omega)]
set_option maxHeartbeats 8000000 in
set_option maxRecDepth 100000 in
theorem delete58 (N b off n cap kb i0 : Nat) (L : List W10) (k : N5) (q0 : W10) (w : World) (hS : Sl N 114 5 w (.slice (some ⟨b, off, none⟩) n cap) n (kfl L)) (hn : L.length = n) (hlen : n ≤ 8) (hok : ∀ p ∈ L, p.ok) (hk : k.ok) (hr : w.rangeAt kb 0 k.cells) (hkb : kb < w.heap.size) (hkb2 : kb ≠ b)
    (hnd : (L.map W10.key).Nodup) (hi0 : L[i0]? = some q0) (hq0 : q0.key = k) :
    Calls Try.prog 58 #[.slice (some ⟨b, off, none⟩) n cap, .func (.func 59) #[] #[.pointer (some ⟨kb, 0, none⟩)]] w fun e w' => e = .returned (.slice (some ⟨b, off, none⟩) (n - 1) cap) ∧ Sl N 114 5 w' (.slice (some ⟨b, off, none⟩) (n - 1) cap) (n - 1) (kfl (L.take i0 ++ L.drop (i0 + 1))) ∧ Fr (fun i => i = b) w w' := by
  have FA := Lib.hid (Fr.refl (fun _ => False) w)
  have HS := Lib.hid hS
  have HO := Lib.hid (And.intro hok hk)
  have Hn := Lib.hid hn
  obtain ⟨A9, c9, hv9, hcap, hcm⟩ := hS.form
  cases hv9
  have hi0n : i0 < n := by rw [← hn]; exact (List.getElem?_eq_some_iff.1 hi0).1
  have hne : ∀ j q, L[j]? = some q → j ≠ i0 → q.key ≠ k := fun j q hj hji e => by
    have h1 : (L.map W10.key)[j]? = some k := by rw [List.getElem?_map, hj]; simp [e]
    have h2 : (L.map W10.key)[i0]? = some k := by rw [List.getElem?_map, hi0]; simp [hq0]
    obtain ⟨l1, e1⟩ := List.getElem?_eq_some_iff.1 h1
    obtain ⟨l2, e2⟩ := List.getElem?_eq_some_iff.1 h2
    exact hji ((List.getElem_inj hnd).1 (e1.trans e2.symm))
  have HNE := Lib.hid hne
  have hi0m : ((i0 : Int) == -1) = false := by simp
  have HIX := Lib.hid (idxK_at hi0 hq0 (fun j q hj hq => hne j q hq (by omega)))
  have HKB := Lib.hid (fun (w' : World) (f : Fr (fun i => i = b) w w') => show w'.rangeAt kb 0 k.cells ∧ kb < w'.heap.size from ⟨fun j v hj => (World.cell?_of_block (f.block kb hkb hkb2)).trans (hr j v hj), Nat.lt_of_lt_of_le hkb f.size⟩)
  have HKW := Lib.hid (And.intro hr hkb)
  clear hS hn hok hk hr hkb hkb2 hnd hi0 hq0 hne
  go_enter Try.func58, Try.ntmps58
  go_upto_region 2 with (go_at_call 71; refine (index71 N b off n cap kb L k w HS.out Hn.out hlen HO.out.1 HO.out.2 HKW.out.1 HKW.out.2).mono ?_; rw [HIX.out]; rintro e w2 ⟨rfl, f2⟩; have F2 := Lib.hid f2; clear f2)
  have S2 := Lib.hid (HS.out.fr0 F2.out)
  have FB2 := Lib.hid (F2.out.upto (S := fun i => i = b))
  go_wp2_with fail
  go_loopw [5, 6] (fun v5 v6 wr => ∃ j : Nat, v6 = .int .i64 j ∧ i0 < j ∧ j ≤ n ∧ v5 = .int .i64 ((j - 1 : Nat) : Int) ∧ Sl N 114 5 wr (.slice (some ⟨b, off, none⟩) n cap) n (kfl (mid L i0 j)) ∧ Fr (fun i => i = b) w wr) (fun _ v _ => n - (intOf v).toNat)
  case atStart => exact ⟨i0 + 1, by go_num, by omega, by omega, rfl, by rw [mid_start L (by rw [Hn.out]; exact hi0n)]; exact S2.out, FB2.out⟩
  case round =>
    obtain ⟨j, rfl, hj0, hjn, rfl, hsj, hfj⟩ := hrel
    have HSJ := Lib.hid hsj
    have HFJ := Lib.hid hfj
    clear hsj hfj
    by_cases hlt : j < n
    · obtain ⟨q, hq⟩ : ∃ q, L[j]? = some q := ⟨_, List.getElem?_eq_getElem (by rw [Hn.out]; exact hlt)⟩
      have Hq := Lib.hid hq
      have HQO := Lib.hid (HO.out.1 q (List.mem_of_getElem? hq)).key
      have RK := Lib.hid (HSJ.out.keys (show (mid L i0 j)[j]? = some q from by rw [mid_at Hn.out hi0n hj0 hlt]; exact hq))
      have HE := Lib.hid (decide_eq_false (HNE.out j q hq (by omega)))
      have HST := Lib.hid (mid_step Hn.out hi0n hj0 hlt hq)
      have HML := Lib.hid (mid_len Hn.out hi0n hj0 hjn)
      clear hq
      have hjc : j < cap := by omega
      have hjI : (j : Int) < (n : Int) := by omega
      have hj1 : j - 1 < n := by omega
      have hj2 : j - 1 < cap := by omega
      have hj3 : ((j - 1 : Nat) : Int) < (n : Int) := by omega
      iterate 60 (first
        | (have := MK1; clear this)
        | (refine wpList_load_mid rfl 114 _ rfl b (off + j * 5) rfl [.int .u8 q.key.ip.a, .int .u8 q.key.ip.b, .int .u8 q.key.ip.c, .int .u8 q.key.ip.d, .int .i64 q.key.bits] _ RK.out Try.underlying114 rfl (by kernel_rfl) ?_; have MK1 := Lib.hid True.intro)
        | go_step)
      go_upto_region 8 with (fail)
      have HVB := Lib.hid (fun (w' : World) (f : Fr (fun _ => False) (wr.alloc (.cells q.key.cells.toArray 114)) w') => range_at w' wr.heap.size q.key.cells 114 (box_at wr q.key.cells 114 w' f))
      have F5 := Lib.hid ((Fr.refl (fun _ => False) wr).alloc (.cells q.key.cells.toArray 114))
      unfold N5.cells at HVB F5
      generalize wr.alloc (.cells #[.int .u8 q.key.ip.a, .int .u8 q.key.ip.b, .int .u8 q.key.ip.c, .int .u8 q.key.ip.d, .int .i64 q.key.bits] 114) = w5 at HVB F5 ⊢
      obtain ⟨vb, hvb⟩ : ∃ vb, wr.heap.size = vb := ⟨_, rfl⟩
      rw [hvb] at HVB ⊢
      clear hvb
      iterate 60 (first
        | (have := MK2; clear this)
        | (refine wpList_load_mid rfl 114 _ rfl vb 0 rfl q.key.cells _ (HVB.out w5 (Fr.refl _ _)) Try.underlying114 rfl (by kernel_rfl) ?_; have MK2 := Lib.hid True.intro)
        | go_step)
      have HFW5 := Lib.hid (HFJ.out.trans F5.out (fun _ _ e => e.elim))
      go_upto_region 9 with (go_at_call 59; refine (closure59 k q.key kb _ HO.out.2 HQO.out (HKB.out _ HFW5.out).1 (HKB.out _ HFW5.out).2).mono ?_; rw [HE.out]; rintro e w6 ⟨rfl, f6⟩; have F6 := Lib.hid f6; clear f6)
      have HS6 := Lib.hid (HSJ.out.fr0 (F5.out.then' F6.out))
      have HFW6 := Lib.hid (HFW5.out.trans F6.out (fun _ _ e => e.elim))
      iterate 80 (first
        | (have := MK3; clear this)
        | (refine wpList_load_mid rfl 114 _ rfl vb 0 rfl q.key.cells _ (HVB.out w6 F6.out) Try.underlying114 rfl (by kernel_rfl) ?_)
        | (refine wpList_store_mid rfl 114 _ _ rfl b (off + (j - 1) * 5) q.key.cells.toArray rfl rfl (HS6.out.there ((j - 1) * 5) 5 (by omega)) (by kernel_rfl) (by simp [N5.cells, Value.oneCell']) ?_; have MK3 := Lib.hid True.intro)
        | go_step)
      have HS7 := Lib.hid (HS6.out.setCells q.key.cells (kfl (mid L i0 j)) w6 ((j - 1) * 5) (by rw [N5.cells_len]; omega))
      have HF7 := Lib.hid (Fr.setCells (S := fun i => i = b) b (fun _ => rfl) q.key.cells (off + (j - 1) * 5) w6 HFW6.out)
      change wpList Try.prog _ _ _ _ (w6.setCells b (off + (j - 1) * 5) q.key.cells)
      generalize w6.setCells b (off + (j - 1) * 5) q.key.cells = w7 at HS7 HF7 ⊢
      go_wp2_with fail
      go_roundw
      case rel =>
        refine ⟨j + 1, by go_num, by omega, by omega, by first | rfl | (congr 1; omega) | go_num, ?_, HF7.out⟩
        have h := HS7.out
        rw [kfl_lset q (by rw [HML.out]; omega), HST.out] at h
        exact h
      case measure => simp [intOf]; omega
    · obtain rfl : j = n := by omega
      have hj1 : j - 1 ≤ j := by omega
      have hj2 : ¬ cap = j - 1 := by omega
      have hj3 : j - 1 ≤ cap := by omega
      have HEND := Lib.hid (mid_end Hn.out hi0n)
      have hcp : cap ≤ 9223372036854775807 := by simp only [maxLen] at hcm; omega
      have hjj : j - (j - 1) = 0 + 1 := by omega
      iterate 60 (first
        | (have := MK4; clear this)
        | (refine wpList_clear109 rfl _ rfl (g := b) (off := off + (j - 1) * 5) (cap := cap - (j - 1)) rfl (HSJ.out.there ((j - 1) * 5) 5 (by omega)) ?_; intro zs hzs; have HZS := Lib.hid hzs; clear hzs; have MK4 := Lib.hid True.intro)
        | go_step)
      have HS9 := Lib.hid (HSJ.out.setCells zs (kfl (mid L i0 j)) wr ((j - 1) * 5) (by rw [HZS.out]; omega))
      have HF9 := Lib.hid (Fr.setCells (S := fun i => i = b) b (fun _ => rfl) zs (off + (j - 1) * 5) wr HFJ.out)
      generalize wr.setCells b (off + (j - 1) * 5) zs = w9 at HS9 HF9 ⊢
      obtain ⟨vu, hur, hus, huo⟩ := HS9.out.upto st109 (j - 1) (by omega)
      have hvu : vu = .slice (some ⟨b, off, none⟩) (j - 1) cap := by
        have h1 := hur w9
        rw [run_sliceTo st109 (by omega) hcm] at h1
        injection h1 with h1
        exact h1.symm
      subst hvu
      have HUR := Lib.hid hur
      rw [lset_take _ _ _ _ (Nat.le_refl _), kfl_take, HEND.out] at hus
      have HUS := Lib.hid hus
      clear hur hus huo
      go_upto_region 12 with (fail)
      iterate 60 (first
        | (have := MK5; clear this)
        | (refine wpList_sliceTo rfl _ _ rfl rfl rfl HUR.out ?_; have MK5 := Lib.hid True.intro)
        | go_step)
      go_wp2_with fail
      go_ret
      exact ⟨rfl, HUS.out, HF9.out⟩
end Go.Proofs.Ytcfadmjihccimaa
