/- IcmpTells: its walk. No condition but the form's sizes. -/
import Derived.Test.YtcfadmjihccimaaIcO
namespace Go.Proofs.Ytcfadmjihccimaa
set_option linter.unusedVariables false
set_option linter.unusedSimpArgs false
open Go.RowKit

theorem wt_lay (m : Im) (s : Int) (d : List Int) (h0 : 0 ≤ s) (h1 : s ≤ 65535) : wt false (m.lay s d) = wt false (m.lay 0 d) + s := by
  unfold Im.lay
  simp only [by16, List.cons_append, List.nil_append, wt]
  omega
theorem lay_ck {m : Im} {d : List Int} (hm : m.may = true) (hd : isB d) : ck (m.lay (ck (m.lay 0 d)) d) = 0 := by
  have h0 := wt_nonneg false _ (isB_lay hm 0 hd)
  have hb := nrm_bd h0
  unfold ck
  rw [wt_lay m _ d (by omega) (by omega)]
  generalize wt false (m.lay 0 d) = W at h0 hb
  unfold nrm at *
  split at hb
  · rename_i e; subst e; simp
  · rename_i e
    rw [if_neg e, if_neg (by omega)]
    omega

theorem encode_box (m : Im) (A : Option Addr) (nd cd : Nat) (d : List Int) (w : World) (P : Pc w A nd d) (hok : nd ≤ 1016 ∧ m.may = true) (n : Nat) (hn : n = 8 + nd) (L : List Int) (hL : L = m.lay (ck (m.lay 0 d)) d) :
    Calls Try.prog 12 #[.agg #[.int .i64 m.ty, .int .i64 m.code, .int .i64 m.id, .int .i64 m.seq, .int .i64 m.mtu, .slice A nd cd]] w fun e w' => ∃ g cp, e = .returned (.tuple #[.slice (some ⟨g, 0, none⟩) n cp, .int .i64 0]) ∧ OwnB w.heap.size w' (.slice (some ⟨g, 0, none⟩) n cp) L ∧ Fr (fun _ => False) w w' ∧ w.heap.size ≤ g ∧ g < w'.heap.size := by
  refine (encode12_ok m A nd cd d w hok.1 hok.2 P).mono ?_
  rintro e w' ⟨v, rfl, o, f⟩
  subst hL; subst hn
  obtain ⟨g, cp, rfl, h1, h2⟩ := o.form (n := 8 + nd) (by rw [lay_len, P.len]) (by omega)
  exact ⟨g, cp, rfl, o, f, h1, h2⟩
theorem encode_no (m : Im) (A : Option Addr) (nd cd : Nat) (w : World) (hno : ¬ (nd ≤ 1016 ∧ m.may = true)) :
    Calls Try.prog 12 #[.agg #[.int .i64 m.ty, .int .i64 m.code, .int .i64 m.id, .int .i64 m.seq, .int .i64 m.mtu, .slice A nd cd]] w fun e w' => ∃ r : Int, e = .returned (.tuple #[.slice none 0 0, .int .i64 r]) ∧ (r == 0) = false ∧ (r != 0) = true ∧ (r = if nd ≤ 1016 then 1 else 2) ∧ Fr (fun _ => False) w w' := by
  by_cases hn : nd ≤ 1016
  · have hm : m.may = false := by cases h : m.may with
      | false => rfl
      | true => exact absurd ⟨hn, h⟩ hno
    exact (encode12_bad m A nd cd w hn hm).mono fun e w' h => ⟨1, h.1, rfl, rfl, by rw [if_pos hn], h.2⟩
  · exact (encode12_long m A nd cd w (by omega)).mono fun e w' h => ⟨2, h.1, rfl, rfl, by rw [if_neg hn], h.2⟩

set_option maxHeartbeats 8000000 in
set_option maxRecDepth 100000 in
theorem tells4 (m : Im) (A : Option Addr) (nd cd : Nat) (d : List Int) (bit : Int) (w : World) (P : Pc w A nd d) :
    Calls Try.prog 4 #[.agg #[.int .i64 m.ty, .int .i64 m.code, .int .i64 m.id, .int .i64 m.seq, .int .i64 m.mtu, .slice A nd cd], .int .i64 bit] w fun e w' => e = .returned (.bool true) ∧ Fr (fun _ => False) w w' := by
  have HP := Lib.hid P
  clear P
  have FA := Lib.hid (Fr.refl (fun _ => False) w)
  go_enter Try.func4, Try.ntmps4
  go_upto_region 1 with (fail)
  have HB := Lib.hid (heap_alloc_new w (.cells #[.int .i64 m.ty, .int .i64 m.code, .int .i64 m.id, .int .i64 m.seq, .int .i64 m.mtu, .slice A nd cd] 24))
  have FB := Lib.hid (FA.out.alloc (.cells #[.int .i64 m.ty, .int .i64 m.code, .int .i64 m.id, .int .i64 m.seq, .int .i64 m.mtu, .slice A nd cd] 24))
  have HZ := Lib.hid (show w.heap.size < (w.alloc (.cells #[.int .i64 m.ty, .int .i64 m.code, .int .i64 m.id, .int .i64 m.seq, .int .i64 m.mtu, .slice A nd cd] 24)).heap.size by simp)
  generalize w.alloc (.cells #[.int .i64 m.ty, .int .i64 m.code, .int .i64 m.id, .int .i64 m.seq, .int .i64 m.mtu, .slice A nd cd] 24) = w1 at HB FB HZ ⊢
  go_upto_region 2 with (go_at_call 11; refine (awake11 w1).mono ?_; rintro e w2 ⟨rfl, f2⟩; have F2 := Lib.hid f2; clear f2)
  have hrow := (F2.out.block w.heap.size HZ.out (fun e => e)).trans HB.out
  have hc : ∀ j v, ([.int .i64 m.ty, .int .i64 m.code, .int .i64 m.id, .int .i64 m.seq, .int .i64 m.mtu, .slice A nd cd] : List Value)[j]? = some v → w2.cell? ⟨w.heap.size, j, none⟩ = some v := fun j v hj => cells_at w2 w.heap.size _ 24 hrow j v hj
  have d0 := hc 0 _ rfl
  have d1 := hc 1 _ rfl
  have d2 := hc 2 _ rfl
  have d3 := hc 3 _ rfl
  have d4 := hc 4 _ rfl
  have d5 := hc 5 _ rfl
  have FW2 := Lib.hid (FB.out.then' F2.out)
  have P2 := Lib.hid (HP.out.fr FW2.out)
  clear hc hrow
  by_cases hok : nd ≤ 1016 ∧ m.may = true
  · as_aux_lemma =>
      obtain ⟨L, hL⟩ : ∃ L, L = m.lay (ck (m.lay 0 d)) d := ⟨_, rfl⟩
      obtain ⟨n, hn⟩ : ∃ n, n = 8 + nd := ⟨_, rfl⟩
      have HOK := Lib.hid hok
      have HL := Lib.hid hL
      have HN := Lib.hid hn
      have hn1 : n ≤ 1024 := by omega
      have hn8 : 8 ≤ n := by omega
      clear hok hL hn
      go_upto_region 3 with (go_at_call 12; refine (encode_box m A nd cd d w2 P2.out HOK.out n HN.out L HL.out).mono ?_; rintro e w3 ⟨g, cp, rfl, o3, f3, h3a, h3b⟩; have O3 := Lib.hid o3; have F3 := Lib.hid f3; have G3 := Lib.hid (And.intro h3a h3b); clear o3 f3 h3a h3b)
      clear d0 d1 d2 d3 d4 d5
      have FW3 := Lib.hid (FW2.out.then' F3.out)
      by_cases hbit : bit < 0 ∨ 8 * (n : Int) ≤ bit
      · have h1 : bit < 0 ∨ (¬ bit < 0 ∧ 8 * (n : Int) ≤ bit) := by omega
        clear hbit
        rcases h1 with h1 | ⟨h1, h2⟩
        · go_wp2_with fail
          go_ret
          exact ⟨rfl, FW3.out⟩
        · go_wp2_with fail
          go_ret
          exact ⟨rfl, FW3.out⟩
      · obtain ⟨k, rfl⟩ : ∃ k : Nat, bit = k := ⟨bit.toNat, by omega⟩
        have hLl : L.length = n := by rw [HL.out, lay_len, HP.out.len, HN.out]
        have hLB : isB L := by rw [HL.out]; exact isB_lay HOK.out.2 _ HP.out.ok
        have hL0 : ck L = 0 := by rw [HL.out]; exact lay_ck HOK.out.2 HP.out.ok
        obtain ⟨j, hj⟩ : ∃ j, j = k / 8 := ⟨_, rfl⟩
        obtain ⟨r, hr⟩ : ∃ r, r = k % 8 := ⟨_, rfl⟩
        have hjl : j < n := by omega
        obtain ⟨x, hx⟩ : ∃ x, L[j]? = some x := ⟨_, List.getElem?_eq_getElem (by omega)⟩
        have hxB := hLB x (List.mem_of_getElem? hx)
        have hq : (k : Int) / 8 = (j : Int) := by omega
        have hm : (k : Int) % 8 = (r : Int) := by omega
        have hr8 : r < 8 := by omega
        obtain ⟨cx, fx⟩ := O3.out.cell hx
        obtain ⟨y, hy⟩ : ∃ y, bits .xor .u8 x (2 ^ r % 256) = y := ⟨_, rfl⟩
        have hyy : 0 ≤ y ∧ y ≤ 255 ∧ y ≠ x := by
          rw [← hy]
          have hz : 0 < (2 : Int) ^ r % 256 ∧ (2 : Int) ^ r % 256 ≤ 255 := by
            have : r = 0 ∨ r = 1 ∨ r = 2 ∨ r = 3 ∨ r = 4 ∨ r = 5 ∨ r = 6 ∨ r = 7 := by omega
            rcases this with rfl | rfl | rfl | rfl | rfl | rfl | rfl | rfl <;> decide
          exact xor_ne hxB.1 hxB.2 hz.1 hz.2
        obtain ⟨o4, f4⟩ := O3.out.set j y
        have hne := turn_law hLB hx ⟨hyy.1, hyy.2.1⟩ hyy.2.2
        rw [hL0] at hne
        have hB4 := hLB.set (j := j) ⟨hyy.1, hyy.2.1⟩
        have P4 := Lib.hid (o4.pc (n := n) (by rw [List.length_set]; exact hLl) hB4 (by omega)).1
        have NE := Lib.hid (Ne.symm hne)
        have F4 := Lib.hid (show Fr (fun _ => False) w (w3.setCell ⟨g, j, none⟩ (.int .u8 y)) from FW3.out.trans f4 (fun i hi e => by have := G3.out.1; have := FW2.out.size; omega))
        have hk8 : ¬ (8 * (n : Int) ≤ k) := by omega
        have hk0 : ¬ ((k : Int) < 0) := by omega
        have HX := Lib.hid hx
        clear o4 f4 hne hB4 hyy hL0 hLB hLl hj hr hbit hx hxB
        go_upto_region 6 with (fail)
        clear hy cx fx
        generalize w3.setCell ⟨g, j, none⟩ (.int .u8 y) = w4 at P4 F4 ⊢
        go_wp2_with (go_at_call 14; refine (decode14_sum _ _ _ _ w4 hn8 hn1 P4.out NE.out).mono ?_; rintro e w5 ⟨rfl, f5⟩; have F5 := Lib.hid f5; clear f5)
        go_ret
        exact ⟨rfl, (F4.out.then' F5.out).alloc _⟩
  · as_aux_lemma =>
      have HOK := Lib.hid hok
      clear hok
      go_upto_region 3 with (go_at_call 12; refine (encode_no m A nd cd w2 HOK.out).mono ?_; rintro e w3 ⟨r, rfl, h1, h2, hreq, f3⟩; have F3 := Lib.hid f3; clear f3 hreq)
      clear d0 d1 d2 d3 d4 d5
      go_wp2_with fail
      go_ret
      exact ⟨rfl, FW2.out.then' F3.out⟩
end Go.Proofs.Ytcfadmjihccimaa
