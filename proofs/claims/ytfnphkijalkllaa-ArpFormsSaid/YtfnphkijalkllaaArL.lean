/- Law 8: the buffers that wait. No condition but lengths. -/
import Derived.Test.YtfnphkijalkllaaArI
namespace Go.Proofs.Ytfnphkijalkllaa
set_option linter.unusedVariables false
set_option linter.unusedSimpArgs false
open Go.RowKit
def pendL (L : List En) : List Int := L.flatMap fun e => e.nb.pend
theorem pendL_snoc {L : List En} {i : Nat} {e : En} (h : L[i]? = some e) : pendL (L.take (i + 1)) = pendL (L.take i) ++ e.nb.pend := by
  unfold pendL; rw [List.take_add_one, h]; simp [List.flatMap_append]
theorem pendL_len {L : List En} (h : ∀ e ∈ L, e.nb.pend.length ≤ 2) : (pendL L).length ≤ 2 * L.length := by
  induction L with
  | nil => simp [pendL]
  | cons x r ih =>
    have h1 := h x (List.mem_cons_self ..)
    have h2 := ih (fun e he => h e (List.mem_cons_of_mem _ he))
    unfold pendL at *
    rw [List.flatMap_cons, List.length_append, List.length_cons]
    omega
set_option maxRecDepth 100000 in
set_option maxHeartbeats 4000000 in
theorem pending19 {N g : Nat} {mac : M6} {ip : I4} {L : List En} {lv : Value} (w : World) (hC : CAt N w g mac ip L lv) :
    Calls Try.prog 19 #[.pointer (some ⟨g, 0, none⟩)] w fun e w' => ∃ v, e = .returned v ∧ Sl w.heap.size 3 1 w' v (pendL L).length (il (pendL L)) ∧ Fr (fun _ => False) w w' := by
  have FA := Lib.hid (Fr.refl (fun _ => False) w)
  have HC := Lib.hid hC
  obtain ⟨n, hn⟩ : ∃ n, L.length = n := ⟨_, rfl⟩
  have Hn := Lib.hid hn
  obtain ⟨A, cap, hlv, _, _⟩ := hC.sl.form
  rw [hn] at hlv
  have HLV := Lib.hid hlv
  have hn8 : n ≤ 8 := by rw [← hn]; exact hC.len
  have ck := hC.cell (j := 10) rfl
  rw [hlv] at ck
  clear hC hn hlv
  go_enter Try.func19, Try.ntmps19
  go_upto_region 3 with (fail)
  clear ck
  go_loopw [3, 11] (fun v3 v11 wr => ∃ i : Nat, v11 = .int .i64 i ∧ i ≤ n ∧ Sl w.heap.size 3 1 wr v3 (pendL (L.take i)).length (il (pendL (L.take i))) ∧ Fr (fun _ => False) w wr) (fun _ v _ => n - (intOf v).toNat)
  case atStart => exact ⟨0, rfl, Nat.zero_le _, Sl.nil _ _ _ _, Fr.refl _ _⟩
  case round =>
    obtain ⟨i, rfl, hi, hsl, hf⟩ := hrel
    obtain ⟨k, hk⟩ : ∃ k, (pendL (L.take i)).length = k := ⟨_, rfl⟩
    have hk16 : k ≤ 16 := by
      have h := pendL_len (L := L.take i) (fun e he => (HC.out.ent e (List.mem_of_mem_take he)).ok.pend)
      rw [List.length_take, Hn.out] at h
      omega
    rw [hk] at hsl
    have HK := Lib.hid hk
    obtain ⟨A3, c3, hv3, _, _⟩ := hsl.form
    subst hv3
    have HS := Lib.hid hsl
    have HF := Lib.hid hf
    clear hsl hf hk
    by_cases hlt : i < n
    · obtain ⟨q, hq⟩ : ∃ q, L[i]? = some q := ⟨_, List.getElem?_eq_getElem (by rw [Hn.out]; exact hlt)⟩
      have Hq := Lib.hid hq
      have HCr := Lib.hid (HC.out.fr HF.out)
      have HE := Lib.hid (HCr.out.ent q (List.mem_of_getElem? hq))
      obtain ⟨m, hm⟩ : ∃ m, q.nb.pend.length = m := ⟨_, rfl⟩
      have HM := Lib.hid hm
      have hm2 : m ≤ 2 := by rw [← hm]; exact HE.out.ok.pend
      have SP := Lib.hid (show Sl N 3 1 wr q.pv m (il q.nb.pend) from by have h := HE.out.sl; rw [hm] at h; exact h)
      obtain ⟨Aq, cq, hpv, _, _⟩ := SP.out.form
      have c14 : wr.cell? ⟨q.p, 14, none⟩ = some (.slice Aq m cq) := by have h := HE.out.cell (j := 14) (v := q.pv) rfl; rw [hpv] at h; exact h
      rw [hpv] at SP
      obtain ⟨b, off, cap', hv', _, _, _, _, hc, _⟩ := (show Sl N 93 1 wr (.slice A n cap) n (pts L) from by have h := HCr.out.sl; rw [Hn.out, HLV.out] at h; exact h).form1 (by omega)
      injection hv' with hv1 _ hv2
      subst hv1; subst hv2
      have ce : wr.cell? ⟨b, off + i, none⟩ = some (.pointer (some ⟨q.p, 0, none⟩)) := hc i _ (by unfold pts; rw [List.getElem?_map, hq]; rfl)
      clear hc hq hm hpv
      have hiI : (i : Int) < (n : Int) := by omega
      have hic : i < cap := by omega
      go_upto_region 5 with (fail)
      iterate 60 (first
        | (have := MK6; clear this)
        | (refine wpList_append_sl (base := w.heap.size) rfl _ _ rfl st37 (.slice A3 k c3) k (il (pendL (L.take i))) rfl HS.out (.slice Aq m cq) m (il q.nb.pend) rfl (SP.out.src st37.under (il_one _)) (by simp only [maxLen]; omega) (by omega) HF.out.size ?_; rintro v5 w5 hs hg ho hn; obtain ⟨A5, cp5, hv5, _, _⟩ := hs.form; subst hv5; have S5 := Lib.hid hs; have G5 := Lib.hid hg; clear hs hg ho hn; have MK6 := Lib.hid True.intro)
        | go_step)
      go_wp2_with fail
      refine ⟨⟨i + 1, by go_num, by omega, ?_, ?_⟩, by simp [intOf]; omega⟩
      · rw [pendL_snoc Hq.out, List.length_append, HK.out, HM.out]
        have h := S5.out
        rw [show il (pendL (L.take i)) ++ il q.nb.pend = il (pendL (L.take i) ++ q.nb.pend) from by simp [il]] at h
        exact h
      · exact HF.out.grown G5.out (fun r e hr => by have := (HS.out.lt r e).1; omega)
    · obtain rfl : i = n := by omega
      have HEQ := Lib.hid (show L.take i = L from List.take_of_length_le (by rw [Hn.out]; omega))
      go_wp2_with fail
      go_ret
      refine ⟨_, rfl, ?_, HF.out⟩
      have hkk : k = (pendL L).length := by rw [← HK.out, HEQ.out]
      rw [← hkk]
      have h := HS.out
      rw [HEQ.out] at h
      exact h
end Go.Proofs.Ytfnphkijalkllaa
