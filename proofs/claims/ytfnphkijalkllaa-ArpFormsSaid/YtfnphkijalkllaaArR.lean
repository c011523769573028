/- The chapter's examples hold (awake of law 08): its walk. No condition. -/
import Derived.Test.YtfnphkijalkllaaArJ
import Derived.Test.YtfnphkijalkllaaArL
namespace Go.Proofs.Ytfnphkijalkllaa
set_option linter.unusedVariables false
set_option linter.unusedSimpArgs false
open Go.RowKit
def q2 : I4 := ⟨10, 0, 0, 2⟩
def q1 : I4 := ⟨10, 0, 0, 1⟩
def m2 : M6 := ⟨2, 0, 0, 0, 0, 0⟩
def m4 : M6 := ⟨4, 0, 0, 0, 0, 0⟩
theorem q2_ok : q2.ok := ⟨by decide, by decide, by decide, by decide⟩
theorem q1_ok : q1.ok := ⟨by decide, by decide, by decide, by decide⟩
theorem m2_ok : m2.ok := ⟨by decide, by decide, by decide, by decide, by decide, by decide⟩
theorem m4_ok : m4.ok := ⟨by decide, by decide, by decide, by decide, by decide, by decide⟩
section
variable {N g : Nat} {lv : Value} {w : World}
theorem aw_new (w : World) : Calls Try.prog 13 #[.agg #[.int .u8 2, .int .u8 0, .int .u8 0, .int .u8 0, .int .u8 0, .int .u8 0], .agg #[.int .u8 10, .int .u8 0, .int .u8 0, .int .u8 1]] w fun e w' => ∃ g, e = .returned (.pointer (some ⟨g, 0, none⟩)) ∧ CAt w.heap.size w' g m2 q1 [] (.slice none 0 0) ∧ Fr (fun _ => False) w w' := new13 m2 q1 m2_ok q1_ok w
theorem aw_one (h : CAt N w g m2 q1 [] lv) (hN : N ≤ w.heap.size) : Calls Try.prog 16 #[.pointer (some ⟨g, 0, none⟩), .agg #[.int .u8 10, .int .u8 0, .int .u8 0, .int .u8 2], .int .i64 7, .int .i64 0] w fun e w' => ∃ b off cap p pv lv', e = .returned (.tuple #[.agg #[.int .u8 0, .int .u8 0, .int .u8 0, .int .u8 0, .int .u8 0, .int .u8 0], .slice none 0 0, .slice (some ⟨b, off, none⟩) 1 cap, .int .i64 80]) ∧
    CAt N w' g m2 q1 [⟨p, pv, nbNew q2 0 7⟩] lv' ∧ Sl N 33 21 w' (.slice (some ⟨b, off, none⟩) 1 cap) 1 (rqCells m2 q1 q2) ∧ N ≤ w'.heap.size ∧ Fr (fun i => N ≤ i) w w' := by
  refine (find16_new q2 7 0 w q2_ok h rfl (by decide) (by decide) hN).mono ?_
  rintro e w' ⟨v, p, pv, lv', rfl, hc, _, _, hs, hf⟩
  obtain ⟨b, off, cap, rfl, _⟩ := hs.form1 (by decide)
  refine ⟨b, off, cap, p, pv, lv', rfl, hc, hs.mono hN, Nat.le_trans hN hf.size, hf.mono ?_⟩
  rintro i _ (rfl | hi)
  · exact h.hg
  · exact (h.sl.lt i hi).1
theorem aw_wait {p : Nat} {pv : Value} {nb : Nb} (buf now : Int) (k : Nat) (l : List Int) (hg : goneW nb = l) (hk : l.length = k) (h : CAt N w g m2 q1 [⟨p, pv, nb⟩] lv) (hN : N ≤ w.heap.size) (hi : nb.ip = q2) (hs : nb.st = 1) : Calls Try.prog 16 #[.pointer (some ⟨g, 0, none⟩), .agg #[.int .u8 10, .int .u8 0, .int .u8 0, .int .u8 2], .int .i64 buf, .int .i64 now] w fun e w' => ∃ A cap pv', e = .returned (.tuple #[.agg #[.int .u8 0, .int .u8 0, .int .u8 0, .int .u8 0, .int .u8 0, .int .u8 0], .slice A k cap, .slice none 0 0, .int .i64 80]) ∧
    CAt N w' g m2 q1 [⟨p, pv', waitNb nb buf⟩] lv ∧ Sl N 3 1 w' (.slice A k cap) k (il l) ∧ (∀ b, pv'.ownBlock = some b → (Value.slice A k cap).ownBlock ≠ some b) ∧ N ≤ w'.heap.size ∧ Fr (fun i => N ≤ i ∧ ((∃ c, w.heap[i]? = some (.cells c 46)) ∨ ∃ c, w.heap[i]? = some (.cells c 3))) w w' := by
  subst hg; subst hk
  refine (find16_wait (i := 0) (e := ⟨p, pv, nb⟩) q2 buf now w q2_ok h (by simp [fpt, hi]) rfl hs hN).mono ?_
  rintro e w' ⟨v, pv', rfl, hc, hp, hs, hf⟩
  obtain ⟨A, cap, rfl, _⟩ := hs.form
  have hE := h.ent ⟨p, pv, nb⟩ List.mem_cons_self
  refine ⟨A, cap, pv', rfl, hc, hs.mono hN, fun k hk => (hp k hk).2, Nat.le_trans hN hf.size, hf.mono ?_⟩
  rintro i _ (rfl | hi)
  · exact ⟨hE.hp, .inl ⟨_, hE.blk⟩⟩
  · exact ⟨(hE.sl.lt i hi).1, .inr (hE.sl.tag hi)⟩
theorem aw_heard {p : Nat} {pv : Value} {nb : Nb} (h : CAt N w g m2 q1 [⟨p, pv, nb⟩] lv) (hN : N ≤ w.heap.size) (hi : nb.ip = q2) (hp : nb.pend = [8, 9]) : Calls Try.prog 15 #[.pointer (some ⟨g, 0, none⟩), .agg #[.bool true, .int .u8 4, .int .u8 0, .int .u8 0, .int .u8 0, .int .u8 0, .int .u8 0, .int .u8 10, .int .u8 0, .int .u8 0, .int .u8 2, .int .u8 0, .int .u8 0, .int .u8 0, .int .u8 0, .int .u8 0, .int .u8 0, .int .u8 10, .int .u8 0, .int .u8 0, .int .u8 1], .int .i64 1] w fun e w' => ∃ b off cap vout, e = .returned (.tuple #[vout, .slice (some ⟨b, off, none⟩) 2 cap, .agg #[.int .u8 4, .int .u8 0, .int .u8 0, .int .u8 0, .int .u8 0, .int .u8 0]]) ∧
    CAt N w' g m2 q1 [⟨p, .slice none 0 0, heardNb nb m4 1⟩] lv ∧ w'.cell? ⟨b, off, none⟩ = some (.int .i64 8) ∧ N ≤ w'.heap.size ∧ (∃ c, w'.heap[b]? = some (.cells c 3)) ∧ Fr (Own g lv [⟨p, pv, nb⟩]) w w' := by
  refine (heard15 ⟨true, m4, q2, M6.zero, q1⟩ 1 w ⟨m4_ok, q2_ok, M6.zero_ok, q1_ok⟩ h (by decide) (by decide) rfl (by decide) hN).mono ?_
  rintro e w' ⟨vout, vmay, toM, L', lv', rfl, ⟨hc, hw, hf⟩, _, _⟩
  have hff : fpt [⟨p, pv, nb⟩] q2 = some ⟨p, pv, nb⟩ := by simp [fpt, hi]
  rcases hw with ⟨i, e, he, hq, rfl, rfl, rfl, rfl, hs⟩ | ⟨h1, _⟩ | ⟨h1, _⟩
  · have e2 := (Option.some.inj (hff.symm.trans hq))
    subst e2
    have e3 : i = 0 := by
      have := (List.getElem?_eq_some_iff.1 he).1
      simp at this
      exact this
    subst e3
    simp only [hp] at hs
    obtain ⟨b, off, cap, hv, hb, _, _, _, hcl, _⟩ := hs.form1 (by decide)
    have hv : pv = .slice (some ⟨b, off, none⟩) 2 cap := hv
    have htag := hs.tag (k := b) (by show pv.ownBlock = _; rw [hv]; rfl)
    refine ⟨b, off, cap, vout, ?_, hc, by simpa [il] using hcl 0 _ rfl, Nat.le_trans hN hf.size, htag, hf⟩
    simp only [hp, hv]
    rfl
  · rw [hff] at h1; cases h1
  · rw [hff] at h1; cases h1
theorem aw_known {p : Nat} {pv : Value} {nb : Nb} (h : CAt N w g m2 q1 [⟨p, pv, nb⟩] lv) (hN : N ≤ w.heap.size) (hi : nb.ip = q2) (hs : nb.st = 2) (hm : nb.mac = m4) (hsi : nb.since = 1) : Calls Try.prog 16 #[.pointer (some ⟨g, 0, none⟩), .agg #[.int .u8 10, .int .u8 0, .int .u8 0, .int .u8 2], .int .i64 5, .int .i64 2] w fun e w' => ∃ v10, e = .returned (.tuple #[.agg #[.int .u8 4, .int .u8 0, .int .u8 0, .int .u8 0, .int .u8 0, .int .u8 0], .slice none 0 0, v10, .int .i64 0]) ∧ Fr (fun i => i = p) w w' := by
  refine (find16_known (i := 0) (e := ⟨p, pv, nb⟩) q2 5 2 w q2_ok h (by simp [fpt, hi]) rfl (by rw [hs]; decide) (by decide) hN).mono ?_
  rintro e w' ⟨v, rfl, hc, _, _, hf⟩
  refine ⟨v, ?_, hf⟩
  simp only [hm]
  rfl
end
set_option maxRecDepth 100000 in
set_option maxHeartbeats 8000000 in
theorem awake12 (w : World) : Calls Try.prog 12 #[] w fun e w' => e = .returned (.bool true) ∧ Fr (fun _ => False) w w' := by
  have FA := Lib.hid (Fr.refl (fun _ => False) w)
  go_enter Try.func12, Try.ntmps12
  go_upto_region 2 with (first
    | (go_at_call 14; refine (ip14 1 _).mono ?_; rintro e w1 ⟨rfl, f1⟩; have F1 := Lib.hid f1; clear f1)
    | (go_at_call 13; refine (aw_new _).mono ?_; rintro e w2 ⟨g, rfl, hc, f2⟩; have C2 := Lib.hid hc; have F2 := Lib.hid f2; clear hc f2))
  have N2 := Lib.hid (F2.out.size)
  go_upto_region 5 with (first
    | (go_at_call 14; refine (ip14 2 _).mono ?_; rintro e w3 ⟨rfl, f3⟩; have F3 := Lib.hid f3; clear f3)
    | (go_at_call 16; refine (aw_one (C2.out.fr F3.out) (Nat.le_trans N2.out F3.out.size)).mono ?_; rintro e w4 ⟨br, ofr, cpr, p, pv, lv, rfl, hc, hs, hn, hf⟩; have C4 := Lib.hid hc; have R4 := Lib.hid hs; have N4 := Lib.hid hn; have F4 := Lib.hid hf; clear hc hs hn hf))
  have F5 := Lib.hid ((Fr.refl (fun _ => False) w4).alloc (.cells #[.int .u8 0, .int .u8 0, .int .u8 0, .int .u8 0, .int .u8 0, .int .u8 0] 27))
  generalize w4.alloc (.cells #[.int .u8 0, .int .u8 0, .int .u8 0, .int .u8 0, .int .u8 0, .int .u8 0] 27) = w5 at F5 ⊢
  have C5 := Lib.hid (C4.out.fr F5.out)
  have N5 := Lib.hid (Nat.le_trans N4.out F5.out.size)
  go_upto_region 6 with (first
    | (go_at_call 14; refine (ip14 2 _).mono ?_; rintro e w6 ⟨rfl, f6⟩; have F6 := Lib.hid f6; clear f6)
    | (go_at_call 16; refine (aw_wait 8 0 0 [] rfl rfl (C5.out.fr F6.out) (Nat.le_trans N5.out F6.out.size) rfl rfl).mono ?_; rintro e w7 ⟨A7, cp7, pv7, rfl, hc, hs, hd, hn, hf⟩; have C7 := Lib.hid hc; have N7 := Lib.hid hn; have F7 := Lib.hid hf; clear hc hs hd hn hf))
  have F8 := Lib.hid ((Fr.refl (fun _ => False) w7).alloc (.cells #[.int .u8 0, .int .u8 0, .int .u8 0, .int .u8 0, .int .u8 0, .int .u8 0] 27))
  generalize w7.alloc (.cells #[.int .u8 0, .int .u8 0, .int .u8 0, .int .u8 0, .int .u8 0, .int .u8 0] 27) = w8 at F8 ⊢
  have C8 := Lib.hid (C7.out.fr F8.out)
  have N8 := Lib.hid (Nat.le_trans N7.out F8.out.size)
  go_upto_region 7 with (first
    | (go_at_call 14; refine (ip14 2 _).mono ?_; rintro e w9 ⟨rfl, f9⟩; have F9 := Lib.hid f9; clear f9)
    | (go_at_call 16; refine (aw_wait 9 1 1 [7] rfl rfl (C8.out.fr F9.out) (Nat.le_trans N8.out F9.out.size) rfl rfl).mono ?_; rintro e w10 ⟨A10, cpg, pv10, rfl, hc, hs, hd, hn, hf⟩; have C10 := Lib.hid hc; have S10 := Lib.hid hs; have D10 := Lib.hid hd; have N10 := Lib.hid hn; have F10 := Lib.hid hf; clear hc hs hd hn hf))
  obtain ⟨bg, ofg, cpg', hvg, _, _, _, _, hcg, _⟩ := S10.out.form1 (by decide)
  injection hvg with e1 _ e2
  subst e1; subst e2
  have TG := Lib.hid (S10.out.tag (k := bg) rfl)
  have CG10 := Lib.hid (show w10.cell? ⟨bg, ofg, none⟩ = some (.int .i64 7) from by simpa [il] using hcg 0 _ rfl)
  have DG := Lib.hid (show pv10.ownBlock ≠ some bg from fun e => D10.out bg e rfl)
  clear hcg S10 D10
  have F11 := Lib.hid ((Fr.refl (fun _ => False) w10).alloc (.cells #[.int .u8 0, .int .u8 0, .int .u8 0, .int .u8 0, .int .u8 0, .int .u8 0] 27))
  generalize w10.alloc (.cells #[.int .u8 0, .int .u8 0, .int .u8 0, .int .u8 0, .int .u8 0, .int .u8 0] 27) = w11 at F11 ⊢
  have C11 := Lib.hid (C10.out.fr F11.out)
  have N11 := Lib.hid (Nat.le_trans N10.out F11.out.size)
  go_upto_region 8 with (first
    | (go_at_call 14; refine (ip14 2 _).mono ?_; rintro e w12 ⟨rfl, f12⟩; have F12 := Lib.hid f12; clear f12)
    | (go_at_call 14; refine (ip14 1 _).mono ?_; rintro e w13 ⟨rfl, f13⟩; have F13 := Lib.hid f13; clear f13)
    | (go_at_call 15; refine (aw_heard (C11.out.fr (F12.out.then' F13.out)) (Nat.le_trans N11.out (F12.out.then' F13.out).size) rfl rfl).mono ?_; rintro e w14 ⟨bh, ofh, cph, vo, rfl, hc, hs, hn, hd, hf⟩; have C14 := Lib.hid hc; have CH14 := Lib.hid hs; have TH := Lib.hid hd; have N14 := Lib.hid hn; have F14 := Lib.hid hf; clear hc hs hd hn hf))
  obtain ⟨hbt, hft, _⟩ := one_new w14 #[.int .u8 4, .int .u8 0, .int .u8 0, .int .u8 0, .int .u8 0, .int .u8 0] 27
  generalize w14.alloc (.cells #[.int .u8 4, .int .u8 0, .int .u8 0, .int .u8 0, .int .u8 0, .int .u8 0] 27) = w15 at hbt hft ⊢
  obtain ⟨bt, ebt⟩ : ∃ k, w14.heap.size = k := ⟨_, rfl⟩
  rw [ebt] at hbt ⊢
  have BT := Lib.hid hbt
  have F15 := Lib.hid hft
  clear hbt hft ebt
  have C15 := Lib.hid (C14.out.fr F15.out)
  have N15 := Lib.hid (Nat.le_trans N14.out F15.out.size)
  go_upto_region 9 with (first
    | (go_at_call 14; refine (ip14 2 _).mono ?_; rintro e w16 ⟨rfl, f16⟩; have F16 := Lib.hid f16; clear f16)
    | (go_at_call 16; refine (aw_known (C15.out.fr F16.out) (Nat.le_trans N15.out F16.out.size) rfl rfl rfl rfl).mono ?_; rintro e w17 ⟨v17, rfl, hf⟩; have F17 := Lib.hid hf; clear hf))
  obtain ⟨hbm, hfm, _⟩ := one_new w17 #[.int .u8 4, .int .u8 0, .int .u8 0, .int .u8 0, .int .u8 0, .int .u8 0] 27
  generalize w17.alloc (.cells #[.int .u8 4, .int .u8 0, .int .u8 0, .int .u8 0, .int .u8 0, .int .u8 0] 27) = w18 at hbm hfm ⊢
  obtain ⟨bm, ebm⟩ : ∃ k, w17.heap.size = k := ⟨_, rfl⟩
  rw [ebm] at hbm ⊢
  have BM := Lib.hid hbm
  have F18 := Lib.hid hfm
  clear hbm hfm ebm
  have Fd := Lib.hid (F18.out.then' (Fr.refl _ w18).drew)
  have HP := Lib.hid (show w16.heap[p]? = some (.cells (En.cells ⟨p, .slice none 0 0, heardNb (waitNb (waitNb (nbNew q2 0 7) 8) 9) m4 1⟩).toArray 46) from ((C15.out.fr F16.out).ent _ List.mem_cons_self).blk)
  have C13 := Lib.hid (C11.out.fr (F12.out.then' F13.out))
  have NP := Lib.hid (show w1.heap.size ≤ p from (C15.out.ent _ List.mem_cons_self).hp)
  have CG := Lib.hid (show w18.drew.cell? ⟨bg, ofg, none⟩ = some (.int .i64 7) from by
    obtain ⟨cg, hcg⟩ := TG.out
    have a13 := ((F11.out.then' (F12.out.then' F13.out)).block bg (lt_of_block hcg) (fun e => e)).trans hcg
    have a14 := (F14.out.block bg (lt_of_block a13) (C13.out.row a13 (fun e he => by cases List.mem_singleton.1 he; exact DG.out))).trans a13
    have a16 := ((F15.out.then' F16.out).block bg (lt_of_block a14) (fun e => e)).trans a14
    have a17 := (F17.out.block bg (lt_of_block a16) (fun e => by rw [e, HP.out] at a16; exact absurd (tag_ne a16) (by decide))).trans a16
    have a18 := (Fd.out.block bg (lt_of_block a17) (fun e => e)).trans a17
    exact (World.cell?_of_block (a18.trans hcg.symm)).trans CG10.out)
  have CH := Lib.hid (show w18.drew.cell? ⟨bh, ofh, none⟩ = some (.int .i64 8) from by
    obtain ⟨cg, hcg⟩ := TH.out
    have a16 := ((F15.out.then' F16.out).block bh (lt_of_block hcg) (fun e => e)).trans hcg
    have a17 := (F17.out.block bh (lt_of_block a16) (fun e => by rw [e, HP.out] at a16; exact absurd (tag_ne a16) (by decide))).trans a16
    have a18 := (Fd.out.block bh (lt_of_block a17) (fun e => e)).trans a17
    exact (World.cell?_of_block (a18.trans hcg.symm)).trans CH14.out)
  have RT := Lib.hid (show w18.drew.rangeAt bt 0 [.int .u8 4, .int .u8 0, .int .u8 0, .int .u8 0, .int .u8 0, .int .u8 0] from by
    have a16 := (F16.out.block bt (lt_of_block BT.out) (fun e => e)).trans BT.out
    have a17 := (F17.out.block bt (lt_of_block a16) (fun e => by rw [e, HP.out] at a16; exact absurd (tag_ne a16) (by decide))).trans a16
    exact range_at w18.drew bt _ 27 ((Fd.out.block bt (lt_of_block a17) (fun e => e)).trans a17))
  have RM := Lib.hid (show w18.drew.rangeAt bm 0 [.int .u8 4, .int .u8 0, .int .u8 0, .int .u8 0, .int .u8 0, .int .u8 0] from range_at w18.drew bm _ 27 BM.out)
  have RR := Lib.hid (show ∀ w' : World, Fr (fun _ => False) w18.drew w' → w'.rangeAt br (ofr + 17) [.int .u8 10, .int .u8 0, .int .u8 0, .int .u8 2] from fun w' f' => by
    have s6 := R4.out.fr0 (F5.out.then' F6.out)
    have s7 := s6.fr F7.out (fun k hk hs => by
      obtain ⟨c, hc⟩ := s6.tag hk
      rcases hs.2 with ⟨c', h'⟩ | ⟨c', h'⟩ <;> (rw [hc] at h'; exact absurd (tag_ne h') (by decide)))
    have s9 := s7.fr0 (F8.out.then' F9.out)
    have s10 := s9.fr F10.out (fun k hk hs => by
      obtain ⟨c, hc⟩ := s9.tag hk
      rcases hs.2 with ⟨c', h'⟩ | ⟨c', h'⟩ <;> (rw [hc] at h'; exact absurd (tag_ne h') (by decide)))
    have s13 := s10.fr0 (F11.out.then' (F12.out.then' F13.out))
    have s14 := s13.fr F14.out (fun k hk => by
      obtain ⟨c, hc⟩ := s13.tag hk
      exact C13.out.tag hc (by decide) (by decide) (by decide) (by decide))
    have s16 := s14.fr0 (F15.out.then' F16.out)
    have s17 := s16.fr F17.out (fun k hk hs => by
      obtain ⟨c, hc⟩ := s16.tag hk
      rw [hs, HP.out] at hc
      exact absurd (tag_ne hc) (by decide))
    have s18 := (s17.fr0 Fd.out).fr0 f'
    obtain ⟨b, off, cap, hv, _, _, _, _, hcl, _⟩ := s18.form1 (by decide)
    injection hv with e1 _ e2
    injection e1 with e1
    injection e1 with e1 e3
    subst e1; subst e3
    intro j v hj
    rw [Nat.add_assoc]
    refine hcl (17 + j) v ?_
    match j, hj with
    | 0, hj => exact hj
    | 1, hj => exact hj
    | 2, hj => exact hj
    | 3, hj => exact hj)
  have FF := Lib.hid (show Fr (fun _ => False) w w18.drew from by
    have k1 := F1.out.size
    have a3 := F1.out.then' (F2.out.then' F3.out)
    have a4 := a3.trans F4.out (fun i hi h => by have h : w1.heap.size ≤ i := h; omega)
    have a6 := a4.then' (F5.out.then' F6.out)
    have a7 := a6.trans F7.out (fun i hi h => by have h : w1.heap.size ≤ i := h.1; omega)
    have a9 := a7.then' (F8.out.then' F9.out)
    have a10 := a9.trans F10.out (fun i hi h => by have h : w1.heap.size ≤ i := h.1; omega)
    have a13 := a10.then' (F11.out.then' (F12.out.then' F13.out))
    have a14 := a13.trans F14.out (fun i hi h => by have h := (C13.out.lt h).1; omega)
    have a16 := a14.then' (F15.out.then' F16.out)
    have a17 := a16.trans F17.out (fun i hi h => by have h : i = p := h; have := NP.out; omega)
    exact a17.then' Fd.out)
  have HEM := Lib.hid (fun w : World => show (binOp .eql 27 (.agg #[.int .u8 4, .int .u8 0, .int .u8 0, .int .u8 0, .int .u8 0, .int .u8 0]) (.agg #[.int .u8 4, .int .u8 0, .int .u8 0, .int .u8 0, .int .u8 0, .int .u8 0])).run Try.prog w = .ok (.bool true) w from eql27 m4_ok m4_ok w)
  have HEQ := Lib.hid (fun w : World => show (binOp .eql 29 (.agg #[.int .u8 10, .int .u8 0, .int .u8 0, .int .u8 2]) (.agg #[.int .u8 10, .int .u8 0, .int .u8 0, .int .u8 2])).run Try.prog w = .ok (.bool true) w from eql29 q2_ok q2_ok w)
  go_upto_region 11 with (fail)
  clear F1 F2 F3 F4 F5 F6 F7 F8 F9 F10 F11 F12 F13 F14 F15 F16 F17 F18 C2 C4 C5 C7 C8 C10 C11 C13 C14 C15 N2 N4 N5 N7 N8 N10 N11 N14 N15 R4 BT BM HP NP TG TH CG10 CH14 DG Fd
  refine kr_start [(13, fun W => W.cell? ⟨bg, ofg, none⟩ = some (.int .i64 7)), (19, fun W => W.cell? ⟨bh, ofh, none⟩ = some (.int .i64 8)), (23, fun W => W.rangeAt bt 0 [.int .u8 4, .int .u8 0, .int .u8 0, .int .u8 0, .int .u8 0, .int .u8 0]), (28, fun W => W.rangeAt bm 0 [.int .u8 4, .int .u8 0, .int .u8 0, .int .u8 0, .int .u8 0, .int .u8 0]), (40, fun W => W.rangeAt br (ofr + 17) [.int .u8 10, .int .u8 0, .int .u8 0, .int .u8 2])] (by kernel_rfl) (by kernel_rfl) ?_
  generalize w18.drew = wd at FF CG CH RT RM RR ⊢
  refine kr_find 0 rfl (by kernel_rfl) (by kernel_rfl) (by kernel_rfl) (fun _ _ _ _ h => h) (by rfl) trivial ?_
  apply Exists.intro; apply And.intro
  · intro w' hS K hK
    clear hS
    go_light
    go_simp
    exact hK.out
  try simp only [Act.put, List.getElem_toArray, List.getElem_cons_zero, List.getElem_cons_succ, List.setIfInBounds_toArray, List.set_cons_zero, List.set_cons_succ]
  refine kr_find 1 rfl (by kernel_rfl) (by kernel_rfl) (by kernel_rfl) (fun _ _ _ _ h => h) (by rfl) trivial ?_
  apply Exists.intro; apply And.intro
  · intro w' hS K hK
    clear hS
    go_light
    go_simp
    exact hK.out
  try simp only [Act.put, List.getElem_toArray, List.getElem_cons_zero, List.getElem_cons_succ, List.setIfInBounds_toArray, List.set_cons_zero, List.set_cons_succ]
  refine kr_find 2 rfl (by kernel_rfl) (by kernel_rfl) (by kernel_rfl) (fun _ _ _ _ h => h) (by rfl) trivial ?_
  apply Exists.intro; apply And.intro
  · intro w' hS K hK
    clear hS
    go_light
    go_simp
    exact hK.out
  try simp only [Act.put, List.getElem_toArray, List.getElem_cons_zero, List.getElem_cons_succ, List.setIfInBounds_toArray, List.set_cons_zero, List.set_cons_succ]
  refine kr_find 3 rfl (by kernel_rfl) (by kernel_rfl) (by kernel_rfl) (fun _ _ _ _ h => h) (by rfl) trivial ?_
  apply Exists.intro; apply And.intro
  · intro w' hS K hK
    clear hS
    go_light
    go_simp
    exact hK.out
  try simp only [Act.put, List.getElem_toArray, List.getElem_cons_zero, List.getElem_cons_succ, List.setIfInBounds_toArray, List.set_cons_zero, List.set_cons_succ]
  refine kr_find 4 rfl (by kernel_rfl) (by kernel_rfl) (by kernel_rfl) (fun _ _ _ _ h => h) (by rfl) trivial ?_
  apply Exists.intro; apply And.intro
  · intro w' hS K hK
    clear hS
    go_light
    go_simp
    exact hK.out
  try simp only [Act.put, List.getElem_toArray, List.getElem_cons_zero, List.getElem_cons_succ, List.setIfInBounds_toArray, List.set_cons_zero, List.set_cons_succ]
  refine kr_find 5 rfl (by kernel_rfl) (by kernel_rfl) (by kernel_rfl) (fun _ _ _ _ h => h) (by rfl) trivial ?_
  apply Exists.intro; apply And.intro
  · intro w' hS K hK
    clear hS
    go_light
    go_simp
    exact hK.out
  try simp only [Act.put, List.getElem_toArray, List.getElem_cons_zero, List.getElem_cons_succ, List.setIfInBounds_toArray, List.set_cons_zero, List.set_cons_succ]
  refine kr_find 6 rfl (by kernel_rfl) (by kernel_rfl) (by kernel_rfl) (fun _ _ _ _ h => h) (by rfl) trivial ?_
  apply Exists.intro; apply And.intro
  · intro w' hS K hK
    clear hS
    go_light
    go_simp
    exact hK.out
  try simp only [Act.put, List.getElem_toArray, List.getElem_cons_zero, List.getElem_cons_succ, List.setIfInBounds_toArray, List.set_cons_zero, List.set_cons_succ]
  refine kr_find 7 rfl (by kernel_rfl) (by kernel_rfl) (by kernel_rfl) (fun _ _ _ _ h => h) (by rfl) trivial ?_
  apply Exists.intro; apply And.intro
  · intro w' hS K hK
    clear hS
    go_light
    go_simp
    exact hK.out
  try simp only [Act.put, List.getElem_toArray, List.getElem_cons_zero, List.getElem_cons_succ, List.setIfInBounds_toArray, List.set_cons_zero, List.set_cons_succ]
  refine kr_find 8 rfl (by kernel_rfl) (by kernel_rfl) (by kernel_rfl) (fun _ _ _ _ h => h) (by rfl) trivial ?_
  apply Exists.intro; apply And.intro
  · intro w' hS K hK
    clear hS
    go_light
    go_simp
    exact hK.out
  try simp only [Act.put, List.getElem_toArray, List.getElem_cons_zero, List.getElem_cons_succ, List.setIfInBounds_toArray, List.set_cons_zero, List.set_cons_succ]
  refine kr_find 9 rfl (by kernel_rfl) (by kernel_rfl) (by kernel_rfl) (fun _ _ _ _ h => h) (by rfl) trivial ?_
  apply Exists.intro; apply And.intro
  · intro w' hS K hK
    clear hS
    go_light
    go_simp
    exact hK.out
  try simp only [Act.put, List.getElem_toArray, List.getElem_cons_zero, List.getElem_cons_succ, List.setIfInBounds_toArray, List.set_cons_zero, List.set_cons_succ]
  refine kr_find 10 rfl (by kernel_rfl) (by kernel_rfl) (by kernel_rfl) (fun _ _ _ _ h => h) (by rfl) trivial ?_
  apply Exists.intro; apply And.intro
  · intro w' hS K hK
    clear hS
    go_light
    go_simp
    exact hK.out
  try simp only [Act.put, List.getElem_toArray, List.getElem_cons_zero, List.getElem_cons_succ, List.setIfInBounds_toArray, List.set_cons_zero, List.set_cons_succ]
  refine kr_find 11 rfl (by kernel_rfl) (by kernel_rfl) (by kernel_rfl) (fun _ _ _ _ h => h) (by rfl) trivial ?_
  apply Exists.intro; apply And.intro
  · intro w' hS K hK
    clear hS
    go_light
    go_simp
    exact hK.out
  try simp only [Act.put, List.getElem_toArray, List.getElem_cons_zero, List.getElem_cons_succ, List.setIfInBounds_toArray, List.set_cons_zero, List.set_cons_succ]
  refine kr_find 12 rfl (by kernel_rfl) (by kernel_rfl) (by kernel_rfl) (fun _ _ _ _ h => h) (by rfl) trivial ?_
  apply Exists.intro; apply And.intro
  · intro w' hS K hK
    clear hS
    go_light
    go_simp
    exact hK.out
  try simp only [Act.put, List.getElem_toArray, List.getElem_cons_zero, List.getElem_cons_succ, List.setIfInBounds_toArray, List.set_cons_zero, List.set_cons_succ]
  refine kr_find 13 rfl (by kernel_rfl) (by kernel_rfl) (by kernel_rfl) (fun _ _ _ _ h => h) (by rfl) (show _ from CG.out) ?_
  apply Exists.intro; apply And.intro
  · intro w' hS K hK
    have hS : w'.cell? ⟨bg, ofg, none⟩ = some (.int .i64 7) := hS
    go_light
    go_simp
    exact hK.out
  try simp only [Act.put, List.getElem_toArray, List.getElem_cons_zero, List.getElem_cons_succ, List.setIfInBounds_toArray, List.set_cons_zero, List.set_cons_succ]
  refine kr_find 14 rfl (by kernel_rfl) (by kernel_rfl) (by kernel_rfl) (fun _ _ _ _ h => h) (by rfl) trivial ?_
  apply Exists.intro; apply And.intro
  · intro w' hS K hK
    clear hS
    go_light
    go_simp
    exact hK.out
  try simp only [Act.put, List.getElem_toArray, List.getElem_cons_zero, List.getElem_cons_succ, List.setIfInBounds_toArray, List.set_cons_zero, List.set_cons_succ]
  refine kr_find 15 rfl (by kernel_rfl) (by kernel_rfl) (by kernel_rfl) (fun _ _ _ _ h => h) (by rfl) trivial ?_
  apply Exists.intro; apply And.intro
  · intro w' hS K hK
    clear hS
    go_light
    go_simp
    exact hK.out
  try simp only [Act.put, List.getElem_toArray, List.getElem_cons_zero, List.getElem_cons_succ, List.setIfInBounds_toArray, List.set_cons_zero, List.set_cons_succ]
  refine kr_find 16 rfl (by kernel_rfl) (by kernel_rfl) (by kernel_rfl) (fun _ _ _ _ h => h) (by rfl) trivial ?_
  apply Exists.intro; apply And.intro
  · intro w' hS K hK
    clear hS
    go_light
    go_simp
    exact hK.out
  try simp only [Act.put, List.getElem_toArray, List.getElem_cons_zero, List.getElem_cons_succ, List.setIfInBounds_toArray, List.set_cons_zero, List.set_cons_succ]
  refine kr_find 17 rfl (by kernel_rfl) (by kernel_rfl) (by kernel_rfl) (fun _ _ _ _ h => h) (by rfl) trivial ?_
  apply Exists.intro; apply And.intro
  · intro w' hS K hK
    clear hS
    go_light
    go_simp
    exact hK.out
  try simp only [Act.put, List.getElem_toArray, List.getElem_cons_zero, List.getElem_cons_succ, List.setIfInBounds_toArray, List.set_cons_zero, List.set_cons_succ]
  refine kr_find 18 rfl (by kernel_rfl) (by kernel_rfl) (by kernel_rfl) (fun _ _ _ _ h => h) (by rfl) trivial ?_
  apply Exists.intro; apply And.intro
  · intro w' hS K hK
    clear hS
    go_light
    go_simp
    exact hK.out
  try simp only [Act.put, List.getElem_toArray, List.getElem_cons_zero, List.getElem_cons_succ, List.setIfInBounds_toArray, List.set_cons_zero, List.set_cons_succ]
  refine kr_find 19 rfl (by kernel_rfl) (by kernel_rfl) (by kernel_rfl) (fun _ _ _ _ h => h) (by rfl) (show _ from CH.out) ?_
  apply Exists.intro; apply And.intro
  · intro w' hS K hK
    have hS : w'.cell? ⟨bh, ofh, none⟩ = some (.int .i64 8) := hS
    go_light
    go_simp
    exact hK.out
  try simp only [Act.put, List.getElem_toArray, List.getElem_cons_zero, List.getElem_cons_succ, List.setIfInBounds_toArray, List.set_cons_zero, List.set_cons_succ]
  refine kr_find 20 rfl (by kernel_rfl) (by kernel_rfl) (by kernel_rfl) (fun _ _ _ _ h => h) (by rfl) trivial ?_
  apply Exists.intro; apply And.intro
  · intro w' hS K hK
    clear hS
    go_light
    go_simp
    exact hK.out
  try simp only [Act.put, List.getElem_toArray, List.getElem_cons_zero, List.getElem_cons_succ, List.setIfInBounds_toArray, List.set_cons_zero, List.set_cons_succ]
  refine kr_find 21 rfl (by kernel_rfl) (by kernel_rfl) (by kernel_rfl) (fun _ _ _ _ h => h) (by rfl) trivial ?_
  apply Exists.intro; apply And.intro
  · intro w' hS K hK
    clear hS
    go_light
    go_simp
    exact hK.out
  try simp only [Act.put, List.getElem_toArray, List.getElem_cons_zero, List.getElem_cons_succ, List.setIfInBounds_toArray, List.set_cons_zero, List.set_cons_succ]
  refine kr_find 22 rfl (by kernel_rfl) (by kernel_rfl) (by kernel_rfl) (fun _ _ _ _ h => h) (by rfl) trivial ?_
  apply Exists.intro; apply And.intro
  · intro w' hS K hK
    clear hS
    go_light
    go_simp
    exact hK.out
  try simp only [Act.put, List.getElem_toArray, List.getElem_cons_zero, List.getElem_cons_succ, List.setIfInBounds_toArray, List.set_cons_zero, List.set_cons_succ]
  refine kr_take 23 rfl (by kernel_rfl) (by kernel_rfl) (by kernel_rfl) (fun _ _ _ h => h) (yieldsIf_load_mid (by rfl) 27 _ rfl (bt) (0) rfl ([.int .u8 4, .int .u8 0, .int .u8 0, .int .u8 0, .int .u8 0, .int .u8 0]) _ (fun _ h => h) Try.underlying27 rfl (by kernel_rfl)) (show _ from RT.out) ?_
  try simp only [Act.put, List.getElem_toArray, List.getElem_cons_zero, List.getElem_cons_succ, List.setIfInBounds_toArray, List.set_cons_zero, List.set_cons_succ]
  refine kr_find 24 rfl (by kernel_rfl) (by kernel_rfl) (by kernel_rfl) (fun _ _ _ _ h => h) (by rfl) trivial ?_
  apply Exists.intro; apply And.intro
  · intro w' hS K hK
    clear hS
    go_light
    go_simp
    exact hK.out
  try simp only [Act.put, List.getElem_toArray, List.getElem_cons_zero, List.getElem_cons_succ, List.setIfInBounds_toArray, List.set_cons_zero, List.set_cons_succ]
  refine kr_take 25 rfl (by kernel_rfl) (by kernel_rfl) (by kernel_rfl) (fun _ _ _ h => h) (kr_bin_agg (by rfl) .eql 27 27 _ _ rfl rfl rfl (by kernel_rfl) _ HEM.out) trivial ?_
  try simp only [Act.put, List.getElem_toArray, List.getElem_cons_zero, List.getElem_cons_succ, List.setIfInBounds_toArray, List.set_cons_zero, List.set_cons_succ]
  refine kr_find 26 rfl (by kernel_rfl) (by kernel_rfl) (by kernel_rfl) (fun _ _ _ _ h => h) (by rfl) trivial ?_
  apply Exists.intro; apply And.intro
  · intro w' hS K hK
    clear hS
    go_light
    go_simp
    exact hK.out
  try simp only [Act.put, List.getElem_toArray, List.getElem_cons_zero, List.getElem_cons_succ, List.setIfInBounds_toArray, List.set_cons_zero, List.set_cons_succ]
  refine kr_find 27 rfl (by kernel_rfl) (by kernel_rfl) (by kernel_rfl) (fun _ _ _ _ h => h) (by rfl) trivial ?_
  apply Exists.intro; apply And.intro
  · intro w' hS K hK
    clear hS
    go_light
    go_simp
    exact hK.out
  try simp only [Act.put, List.getElem_toArray, List.getElem_cons_zero, List.getElem_cons_succ, List.setIfInBounds_toArray, List.set_cons_zero, List.set_cons_succ]
  refine kr_take 28 rfl (by kernel_rfl) (by kernel_rfl) (by kernel_rfl) (fun _ _ _ h => h) (yieldsIf_load_mid (by rfl) 27 _ rfl (bm) (0) rfl ([.int .u8 4, .int .u8 0, .int .u8 0, .int .u8 0, .int .u8 0, .int .u8 0]) _ (fun _ h => h) Try.underlying27 rfl (by kernel_rfl)) (show _ from RM.out) ?_
  try simp only [Act.put, List.getElem_toArray, List.getElem_cons_zero, List.getElem_cons_succ, List.setIfInBounds_toArray, List.set_cons_zero, List.set_cons_succ]
  refine kr_find 29 rfl (by kernel_rfl) (by kernel_rfl) (by kernel_rfl) (fun _ _ _ _ h => h) (by rfl) trivial ?_
  apply Exists.intro; apply And.intro
  · intro w' hS K hK
    clear hS
    go_light
    go_simp
    exact hK.out
  try simp only [Act.put, List.getElem_toArray, List.getElem_cons_zero, List.getElem_cons_succ, List.setIfInBounds_toArray, List.set_cons_zero, List.set_cons_succ]
  refine kr_take 30 rfl (by kernel_rfl) (by kernel_rfl) (by kernel_rfl) (fun _ _ _ h => h) (kr_bin_agg (by rfl) .eql 27 27 _ _ rfl rfl rfl (by kernel_rfl) _ HEM.out) trivial ?_
  try simp only [Act.put, List.getElem_toArray, List.getElem_cons_zero, List.getElem_cons_succ, List.setIfInBounds_toArray, List.set_cons_zero, List.set_cons_succ]
  refine kr_find 31 rfl (by kernel_rfl) (by kernel_rfl) (by kernel_rfl) (fun _ _ _ _ h => h) (by rfl) trivial ?_
  apply Exists.intro; apply And.intro
  · intro w' hS K hK
    clear hS
    go_light
    go_simp
    exact hK.out
  try simp only [Act.put, List.getElem_toArray, List.getElem_cons_zero, List.getElem_cons_succ, List.setIfInBounds_toArray, List.set_cons_zero, List.set_cons_succ]
  refine kr_find 32 rfl (by kernel_rfl) (by kernel_rfl) (by kernel_rfl) (fun _ _ _ _ h => h) (by rfl) trivial ?_
  apply Exists.intro; apply And.intro
  · intro w' hS K hK
    clear hS
    go_light
    go_simp
    exact hK.out
  try simp only [Act.put, List.getElem_toArray, List.getElem_cons_zero, List.getElem_cons_succ, List.setIfInBounds_toArray, List.set_cons_zero, List.set_cons_succ]
  refine kr_find 33 rfl (by kernel_rfl) (by kernel_rfl) (by kernel_rfl) (fun _ _ _ _ h => h) (by rfl) trivial ?_
  apply Exists.intro; apply And.intro
  · intro w' hS K hK
    clear hS
    go_light
    go_simp
    exact hK.out
  try simp only [Act.put, List.getElem_toArray, List.getElem_cons_zero, List.getElem_cons_succ, List.setIfInBounds_toArray, List.set_cons_zero, List.set_cons_succ]
  refine kr_find 34 rfl (by kernel_rfl) (by kernel_rfl) (by kernel_rfl) (fun _ _ _ _ h => h) (by rfl) trivial ?_
  apply Exists.intro; apply And.intro
  · intro w' hS K hK
    clear hS
    go_light
    go_simp
    exact hK.out
  try simp only [Act.put, List.getElem_toArray, List.getElem_cons_zero, List.getElem_cons_succ, List.setIfInBounds_toArray, List.set_cons_zero, List.set_cons_succ]
  refine kr_find 35 rfl (by kernel_rfl) (by kernel_rfl) (by kernel_rfl) (fun _ _ _ _ h => h) (by rfl) trivial ?_
  apply Exists.intro; apply And.intro
  · intro w' hS K hK
    clear hS
    go_light
    go_simp
    exact hK.out
  try simp only [Act.put, List.getElem_toArray, List.getElem_cons_zero, List.getElem_cons_succ, List.setIfInBounds_toArray, List.set_cons_zero, List.set_cons_succ]
  refine kr_find 36 rfl (by kernel_rfl) (by kernel_rfl) (by kernel_rfl) (fun _ _ _ _ h => h) (by rfl) trivial ?_
  apply Exists.intro; apply And.intro
  · intro w' hS K hK
    clear hS
    go_light
    go_simp
    exact hK.out
  try simp only [Act.put, List.getElem_toArray, List.getElem_cons_zero, List.getElem_cons_succ, List.setIfInBounds_toArray, List.set_cons_zero, List.set_cons_succ]
  refine kr_find 37 rfl (by kernel_rfl) (by kernel_rfl) (by kernel_rfl) (fun _ _ _ _ h => h) (by rfl) trivial ?_
  apply Exists.intro; apply And.intro
  · intro w' hS K hK
    clear hS
    go_light
    go_simp
    exact hK.out
  try simp only [Act.put, List.getElem_toArray, List.getElem_cons_zero, List.getElem_cons_succ, List.setIfInBounds_toArray, List.set_cons_zero, List.set_cons_succ]
  refine kr_find 38 rfl (by kernel_rfl) (by kernel_rfl) (by kernel_rfl) (fun _ _ _ _ h => h) (by rfl) trivial ?_
  apply Exists.intro; apply And.intro
  · intro w' hS K hK
    clear hS
    go_light
    go_simp
    exact hK.out
  try simp only [Act.put, List.getElem_toArray, List.getElem_cons_zero, List.getElem_cons_succ, List.setIfInBounds_toArray, List.set_cons_zero, List.set_cons_succ]
  refine kr_find 39 rfl (by kernel_rfl) (by kernel_rfl) (by kernel_rfl) (fun _ _ _ _ h => h) (by rfl) trivial ?_
  apply Exists.intro; apply And.intro
  · intro w' hS K hK
    clear hS
    go_light
    go_simp
    exact hK.out
  try simp only [Act.put, List.getElem_toArray, List.getElem_cons_zero, List.getElem_cons_succ, List.setIfInBounds_toArray, List.set_cons_zero, List.set_cons_succ]
  refine kr_take 40 rfl (by kernel_rfl) (by kernel_rfl) (by kernel_rfl) (fun _ _ _ h => h) (yieldsIf_load_mid (by rfl) 29 _ rfl (br) (ofr + 17) rfl ([.int .u8 10, .int .u8 0, .int .u8 0, .int .u8 2]) _ (fun _ h => h) Try.underlying29 rfl (by kernel_rfl)) (show _ from (RR.out _ (Fr.refl _ _))) ?_
  try simp only [Act.put, List.getElem_toArray, List.getElem_cons_zero, List.getElem_cons_succ, List.setIfInBounds_toArray, List.set_cons_zero, List.set_cons_succ]
  refine kr_one 41 (by kernel_rfl) rfl (by rfl) (fun K hK => ?_)
  go_simp
  go_at_call 14
  refine (ip14 2 _).mono ?_
  rintro e w20 ⟨rfl, f20⟩
  have F20 := Lib.hid f20
  clear f20
  refine hK.out _ _ ⟨.inl (by kernel_rfl), .inl (by kernel_rfl), .inl (by kernel_rfl), .inl (by kernel_rfl), .inr (RR.out _ F20.out), trivial⟩ ?_
  clear hK K
  try simp only [Act.put, List.getElem_toArray, List.getElem_cons_zero, List.getElem_cons_succ, List.setIfInBounds_toArray, List.set_cons_zero, List.set_cons_succ]
  refine kr_take 42 rfl (by kernel_rfl) (by kernel_rfl) (by kernel_rfl) (fun _ _ _ h => h) (kr_bin_agg (by rfl) .eql 29 29 _ _ rfl rfl rfl (by kernel_rfl) _ HEQ.out) trivial ?_
  try simp only [Act.put, List.getElem_toArray, List.getElem_cons_zero, List.getElem_cons_succ, List.setIfInBounds_toArray, List.set_cons_zero, List.set_cons_succ]
  refine kr_find 43 rfl (by kernel_rfl) (by kernel_rfl) (by kernel_rfl) (fun _ _ _ _ h => h) (by rfl) trivial ?_
  apply Exists.intro; apply And.intro
  · intro w' hS K hK
    clear hS
    go_light
    go_simp
    exact hK.out
  try simp only [Act.put, List.getElem_toArray, List.getElem_cons_zero, List.getElem_cons_succ, List.setIfInBounds_toArray, List.set_cons_zero, List.set_cons_succ]
  refine kr_find 44 rfl (by kernel_rfl) (by kernel_rfl) (by kernel_rfl) (fun _ _ _ _ h => h) (by rfl) trivial ?_
  apply Exists.intro; apply And.intro
  · intro w' hS K hK
    clear hS
    go_light
    go_simp
    exact hK.out
  try simp only [Act.put, List.getElem_toArray, List.getElem_cons_zero, List.getElem_cons_succ, List.setIfInBounds_toArray, List.set_cons_zero, List.set_cons_succ]
  refine kr_done (by kernel_rfl) ?_ _
  go_wp2_with fail
  go_ret
  exact ⟨rfl, FF.out.then' F20.out⟩
end Go.Proofs.Ytfnphkijalkllaa
