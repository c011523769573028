/- Law 8: All. No condition but lengths. -/
import Derived.Test.YtfnphkijalkllaaArJ
import Derived.Test.YtfnphkijalkllaaArL
namespace Go.Proofs.Ytfnphkijalkllaa
set_option linter.unusedVariables false
set_option linter.unusedSimpArgs false
open Go.RowKit
theorem st43 : SlTy Try.prog 43 46 15 72 (.agg #[.int .u8 0, .int .u8 0, .int .u8 0, .int .u8 0, .int .i64 0, .int .u8 0, .int .u8 0, .int .u8 0, .int .u8 0, .int .u8 0, .int .u8 0, .int .i64 0, .int .i64 0, .int .i64 0, .slice none 0 0]) := ⟨Try.underlying43, by kernel_rfl, rfl, by decide⟩
def ec (M : List En) : List Value := M.flatMap En.cells
set_option maxRecDepth 100000 in
set_option maxHeartbeats 4000000 in
theorem all17 {N g : Nat} {mac : M6} {ip : I4} {L : List En} {lv : Value} (w : World) (hC : CAt N w g mac ip L lv) :
    Calls Try.prog 17 #[.pointer (some ⟨g, 0, none⟩)] w fun e w' => ∃ v M, e = .returned v ∧ M.map (·.nb) = L.map (·.nb) ∧ Sl w.heap.size 46 15 w' v M.length (ec M) ∧ Fr (fun _ => False) w w' := by
  have FA := Lib.hid (Fr.refl (fun _ => False) w)
  have HC := Lib.hid hC
  obtain ⟨n, hn⟩ : ∃ n, L.length = n := ⟨_, rfl⟩
  have Hn := Lib.hid hn
  obtain ⟨A, cap, hlv, _, _⟩ := hC.sl.form
  rw [hn] at hlv
  have HLV := Lib.hid hlv
  have hn8 : n ≤ 8 := by rw [← hn]; exact hC.len
  have ck := hC.cell (j := 10) rfl
  rw [hlv] at ck
  clear hC hn hlv
  go_enter Try.func17, Try.ntmps17
  go_upto_region 3 with (fail)
  clear ck
  go_loopw [3, 12] (fun v3 v12 wr => ∃ (i : Nat) (M : List En), v12 = .int .i64 i ∧ i ≤ n ∧ M.map (·.nb) = (L.take i).map (·.nb) ∧ Sl w.heap.size 46 15 wr v3 i (ec M) ∧ Fr (fun _ => False) w wr) (fun _ v _ => n - (intOf v).toNat)
  case atStart => exact ⟨0, [], rfl, Nat.zero_le _, rfl, Sl.nil _ _ _ _, Fr.refl _ _⟩
  case round =>
    obtain ⟨i, M, rfl, hi, hm, hsl, hf⟩ := hrel
    obtain ⟨A3, c3, hv3, _, _⟩ := hsl.form
    subst hv3
    have HS := Lib.hid hsl
    have HF := Lib.hid hf
    have HMM := Lib.hid hm
    clear hsl hf hm
    by_cases hlt : i < n
    · obtain ⟨q, hq⟩ : ∃ q, L[i]? = some q := ⟨_, List.getElem?_eq_getElem (by rw [Hn.out]; exact hlt)⟩
      have Hq := Lib.hid hq
      have HCr := Lib.hid (HC.out.fr HF.out)
      have HE := Lib.hid (HCr.out.ent q (List.mem_of_getElem? hq))
      obtain ⟨b, off, cap', hv', _, _, _, _, hc, _⟩ := (show Sl N 93 1 wr (.slice A n cap) n (pts L) from by have h := HCr.out.sl; rw [Hn.out, HLV.out] at h; exact h).form1 (by omega)
      injection hv' with hv1 _ hv2
      subst hv1; subst hv2
      have ce : wr.cell? ⟨b, off + i, none⟩ = some (.pointer (some ⟨q.p, 0, none⟩)) := hc i _ (by unfold pts; rw [List.getElem?_map, hq]; rfl)
      clear hc hq
      have hiI : (i : Int) < (n : Int) := by omega
      have hic : i < cap := by omega
      have RQ := Lib.hid (range_at wr q.p q.cells 46 HE.out.blk)
      go_upto_region 5 with (fail)
      clear ce
      obtain ⟨m, hm⟩ : ∃ m, q.nb.pend.length = m := ⟨_, rfl⟩
      have HM := Lib.hid hm
      have hm2 : m ≤ 2 := by rw [← hm]; exact HE.out.ok.pend
      have SP := Lib.hid (show Sl N 3 1 wr q.pv m (il q.nb.pend) from by have h := HE.out.sl; rw [hm] at h; exact h)
      obtain ⟨Aq, cq, hpv, _, _⟩ := SP.out.form
      have HPV := Lib.hid hpv
      have HONE := Lib.hid (show q.cells.toArray.all (·.oneCell') = true from by simp [En.cells, hpv, Value.oneCell'])
      rw [hpv] at SP
      clear hm hpv
      obtain ⟨b2, eb2⟩ : ∃ k, wr.heap.size = k := ⟨_, rfl⟩
      obtain ⟨w2, ew2⟩ : ∃ y, wr.alloc (.cells #[.int .u8 0, .int .u8 0, .int .u8 0, .int .u8 0, .int .i64 0, .int .u8 0, .int .u8 0, .int .u8 0, .int .u8 0, .int .u8 0, .int .u8 0, .int .i64 0, .int .i64 0, .int .i64 0, .slice none 0 0] 46) = y := ⟨_, rfl⟩
      have h2 := one_new wr #[.int .u8 0, .int .u8 0, .int .u8 0, .int .u8 0, .int .i64 0, .int .u8 0, .int .u8 0, .int .u8 0, .int .u8 0, .int .u8 0, .int .u8 0, .int .i64 0, .int .i64 0, .int .i64 0, .slice none 0 0] 46
      rw [ew2, eb2] at h2
      have H2 := Lib.hid h2
      have E2 := Lib.hid (And.intro ew2 eb2)
      have Z2 := Lib.hid (show wr.heap.size = b2 from eb2)
      have TH2 := Lib.hid (there_at w2 b2 [.int .u8 0, .int .u8 0, .int .u8 0, .int .u8 0, .int .i64 0, .int .u8 0, .int .u8 0, .int .u8 0, .int .u8 0, .int .u8 0, .int .u8 0, .int .i64 0, .int .i64 0, .int .i64 0, .slice none 0 0] 46 h2.1)
      clear h2 ew2 eb2
      iterate 60 (first
        | (have := MK3; clear this)
        | (have := MK2; refine wpList_store_mid rfl 46 _ _ rfl b2 0 q.cells.toArray rfl rfl TH2.out (by kernel_rfl) HONE.out ?_; clear this; have MK3 := Lib.hid True.intro)
        | (refine wpList_load_mid rfl 46 _ rfl q.p 0 rfl q.cells _ RQ.out Try.underlying46 rfl (by kernel_rfl) ?_)
        | (have := E2; rw [this.out.1, this.out.2]; clear this; clear E2; have MK2 := Lib.hid True.intro)
        | go_step)
      change wpList Try.prog _ _ _ _ (w2.setCells b2 0 q.cells)
      have B3 := Lib.hid (show (w2.setCells b2 0 q.cells).heap[b2]? = some (.cells q.cells.toArray 46) from heap_setCells_same q.cells _ w2 b2 0 46 H2.out.1)
      have F3 := Lib.hid (Fr.setCells (S := fun _ => False) (a := wr) b2 (fun h => absurd h (by have h1 := Z2.out; omega)) q.cells 0 w2 H2.out.2.1)
      generalize w2.setCells b2 0 q.cells = w3 at B3 F3 ⊢
      have SP3 := Lib.hid (SP.out.fr0 F3.out)
      have c14 : w3.cell? ⟨q.p, 14, none⟩ = some (.slice Aq m cq) := by
        have h := cells_at w3 q.p q.cells 46 ((F3.out.block q.p (lt_of_block HE.out.blk) (fun e => e)).trans HE.out.blk) 14 q.pv rfl
        rw [HPV.out] at h; exact h
      go_upto_region 6 with (fail)
      iterate 60 (first
        | (have := MK5; clear this)
        | (have := MK4; refine wpList_store_one rfl 37 _ _ rfl b2 14 (.slice A4 m cp4) rfl rfl rfl rfl (there_one B4.out rfl (by decide : 14 < 15)) (by kernel_rfl) ?_; clear this; have MK5 := Lib.hid True.intro)
        | (go_at_call 40; refine (clone40 N m _ _ w3 SP3.out (il_one _) (by omega)).mono ?_; rintro en w4 ⟨vc, rfl, hs, hf⟩; obtain ⟨A4, cp4, hv4, _, _⟩ := hs.form; subst hv4; have S4 := Lib.hid hs; have F4 := Lib.hid hf; have B4 := Lib.hid ((hf.block b2 (lt_of_block B3.out) (fun e => e)).trans B3.out); clear hs hf c14; dsimp only; have MK4 := Lib.hid True.intro)
        | go_step)
      have B5 := Lib.hid (show (w4.setCell ⟨b2, 14, none⟩ (.slice A4 m cp4)).heap[b2]? = some (.cells (En.cells ⟨q.p, .slice A4 m cp4, q.nb⟩).toArray 46) from by rw [heap_setCell_same w4 b2 14 _ 46 _ B4.out]; rfl)
      have F5 := Lib.hid (show Fr (fun _ => False) wr (w4.setCell ⟨b2, 14, none⟩ (.slice A4 m cp4)) from (F3.out.then' F4.out).setCell _ _ (fun h => absurd h (by have h1 := Z2.out; show ¬ b2 < wr.heap.size; omega)))
      generalize w4.setCell ⟨b2, 14, none⟩ (.slice A4 m cp4) = w5 at B5 F5 ⊢
      go_upto_region 7 with (fail)
      have HO5 := Lib.hid (show ∀ u ∈ En.cells ⟨q.p, .slice A4 m cp4, q.nb⟩, u.oneCell' = true from by simp [En.cells, Value.oneCell'])
      have R5 := Lib.hid (range_at w5 b2 _ 46 B5.out)
      have S5 := Lib.hid (HS.out.fr0 F5.out)
      obtain ⟨b6, eb6⟩ : ∃ k, w5.heap.size = k := ⟨_, rfl⟩
      obtain ⟨w6, ew6⟩ : ∃ y, w5.alloc (.cells (En.cells ⟨q.p, .slice A4 m cp4, q.nb⟩).toArray 46) = y := ⟨_, rfl⟩
      have h6 := one_new w5 (En.cells ⟨q.p, .slice A4 m cp4, q.nb⟩).toArray 46
      rw [ew6, eb6] at h6
      have H6 := Lib.hid h6
      have E6 := Lib.hid (And.intro ew6 eb6)
      have S6 := Lib.hid (S5.out.fr0 h6.2.1)
      have Z6 := Lib.hid (show w.heap.size ≤ w6.heap.size from by have h1 := HF.out.size; have h2 := F5.out.size; have h3 := h6.2.1.size; omega)
      clear h6 ew6 eb6
      iterate 60 (first
        | (have := MK8; clear this)
        | (have := MK7; refine wpList_append_sl (base := w.heap.size) rfl _ _ rfl st43 (.slice A3 i c3) i (ec M) rfl S6.out _ 1 (En.cells ⟨q.p, .slice A4 m cp4, q.nb⟩) rfl (Src.ofSlice (w := w6) Try.underlying43 ⟨b6, 0, none⟩ 1 1 _ rfl (fun j u hj => by rw [Addr.add_mid]; exact range_at w6 b6 _ 46 H6.out.1 j u hj) HO5.out) (by simp only [maxLen]; omega) (by omega) Z6.out ?_; clear this; rintro v7 w7 hs hg ho hn; obtain ⟨A7, cp7, hv7, _, _⟩ := hs.form; subst hv7; have S7 := Lib.hid hs; have G7 := Lib.hid hg; clear hs hg ho hn; have MK8 := Lib.hid True.intro)
        | (refine wpList_load_mid rfl 46 _ rfl b2 0 rfl (En.cells ⟨q.p, .slice A4 m cp4, q.nb⟩) _ R5.out Try.underlying46 rfl (by kernel_rfl) ?_)
        | (refine wpList_buildSlice1 rfl st43 rfl (by decide) (En.cells ⟨q.p, .slice A4 m cp4, q.nb⟩).toArray rfl rfl ?_; rw [E6.out.1, E6.out.2]; have MK7 := Lib.hid True.intro)
        | go_step)
      go_wp2_with fail
      refine ⟨⟨i + 1, M ++ [⟨q.p, .slice A4 m cp4, q.nb⟩], by go_num, by omega, ?_, ?_, ?_⟩, by simp [intOf]; omega⟩
      · rw [List.map_append, HMM.out, List.take_add_one, Hq.out]; simp
      · have h := S7.out
        rw [show ec M ++ En.cells ⟨q.p, .slice A4 m cp4, q.nb⟩ = ec (M ++ [⟨q.p, .slice A4 m cp4, q.nb⟩]) from by simp [ec]] at h
        exact h
      · exact ((HF.out.then' F5.out).then' H6.out.2.1).grown G7.out (fun r e hr => by have := (HS.out.lt r e).1; omega)
    · obtain rfl : i = n := by omega
      go_wp2_with fail
      go_ret
      have hM := HMM.out
      rw [List.take_of_length_le (by rw [Hn.out]; omega)] at hM
      have hl : M.length = i := by have := congrArg List.length hM; simpa [Hn.out] using this
      exact ⟨_, rfl, M, hM, by rw [hl]; exact HS.out, HF.out⟩
end Go.Proofs.Ytfnphkijalkllaa
