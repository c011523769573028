/- IcmpForms: its walk. No condition but the form's sizes. -/
import Derived.Test.YtcfadmjihccimaaIcN
namespace Go.Proofs.Ytcfadmjihccimaa
set_option linter.unusedVariables false
set_option linter.unusedSimpArgs false
open Go.RowKit

theorem fr_nil {w w' : World} (h : Fr (fun i => (Value.slice none 0 0).ownBlock = some i) w w') : Fr (fun _ => False) w w' := h.mono (fun i _ e => by cases e)
theorem own_new {w w' : World} {v : Value} {l : List Int} {k : Nat} (h : OwnB w.heap.size w' v l) (hk : k < w.heap.size) : v.ownBlock ≠ some k := fun e => by have := (World.ownsRow.lt h k e).1; omega

theorem isB_enc (m : Im) (nd : Nat) {d : List Int} (hd : isB d) : isB (encL m nd d) := by
  unfold encL
  split
  · rename_i h; exact isB_lay h.2 _ hd
  · intro x hx; cases hx
theorem isB_dec {l : List Int} (hl : isB l) : isB (decL l) := by
  unfold decL
  split
  · intro x hx; exact hl x (List.mem_of_mem_drop hx)
  · intro x hx; cases hx
set_option maxHeartbeats 16000000 in
set_option maxRecDepth 100000 in
theorem forms3 (m : Im) (A : Option Addr) (nd cd : Nat) (d : List Int) (B : Option Addr) (nb cb : Nat) (lb : List Int) (w : World) (P : Pc w A nd d) (PB : Pc w B nb lb) (hcb : nb ≤ cb) :
    Calls Try.prog 3 #[.agg #[.int .i64 m.ty, .int .i64 m.code, .int .i64 m.id, .int .i64 m.seq, .int .i64 m.mtu, .slice A nd cd], .slice B nb cb] w fun e w' => e = .returned (.bool true) ∧ Fr (fun _ => False) w w' := by
  have HP := Lib.hid P
  have HPB := Lib.hid PB
  have HCB := Lib.hid hcb
  have htd := P.top
  have htb := PB.top
  clear P PB hcb
  have FA := Lib.hid (Fr.refl (fun _ => False) w)
  go_enter Try.func3, Try.ntmps3
  go_upto_region 1 with (fail)
  have HBX := Lib.hid (fun (w' : World) (k : Fr (fun _ => False) (w.alloc (.cells #[.int .i64 m.ty, .int .i64 m.code, .int .i64 m.id, .int .i64 m.seq, .int .i64 m.mtu, .slice A nd cd] 24)) w') => (k.block w.heap.size (by simp) (fun e => e)).trans (heap_alloc_new w (.cells #[.int .i64 m.ty, .int .i64 m.code, .int .i64 m.id, .int .i64 m.seq, .int .i64 m.mtu, .slice A nd cd] 24)))
  have FB := Lib.hid (FA.out.alloc (.cells #[.int .i64 m.ty, .int .i64 m.code, .int .i64 m.id, .int .i64 m.seq, .int .i64 m.mtu, .slice A nd cd] 24))
  have HZ := Lib.hid (show w.heap.size < (w.alloc (.cells #[.int .i64 m.ty, .int .i64 m.code, .int .i64 m.id, .int .i64 m.seq, .int .i64 m.mtu, .slice A nd cd] 24)).heap.size by simp)
  generalize w.alloc (.cells #[.int .i64 m.ty, .int .i64 m.code, .int .i64 m.id, .int .i64 m.seq, .int .i64 m.mtu, .slice A nd cd] 24) = w1 at HBX FB HZ ⊢
  obtain ⟨mb, hmb⟩ : ∃ mb, w.heap.size = mb := ⟨_, rfl⟩
  rw [hmb] at HBX HZ ⊢
  clear hmb
  go_upto_region 2 with (go_at_call 11; refine (awake11 w1).mono ?_; rintro e w2 ⟨rfl, f2⟩; have F2 := Lib.hid f2; clear f2)
  have hcq := fun j v hj => cells_at w2 mb [.int .i64 m.ty, .int .i64 m.code, .int .i64 m.id, .int .i64 m.seq, .int .i64 m.mtu, .slice A nd cd] 24 (HBX.out w2 F2.out) j v hj
  have q0 := hcq 0 _ rfl
  have q1 := hcq 1 _ rfl
  have q2 := hcq 2 _ rfl
  have q3 := hcq 3 _ rfl
  have q4 := hcq 4 _ rfl
  have q5 := hcq 5 _ rfl
  clear hcq
  go_upto_region 3 with (fail)
  clear q0 q1 q2 q3 q4 q5
  have OB3 := Lib.hid (heap_alloc_new w2 (.cells #[.int .i64 m.ty, .int .i64 m.code, .int .i64 m.id, .int .i64 m.seq, .int .i64 m.mtu, .slice A nd cd] 24))
  have F3 := Lib.hid (F2.out.alloc (.cells #[.int .i64 m.ty, .int .i64 m.code, .int .i64 m.id, .int .i64 m.seq, .int .i64 m.mtu, .slice A nd cd] 24))
  have Z3 := Lib.hid (show w2.heap.size < (w2.alloc (.cells #[.int .i64 m.ty, .int .i64 m.code, .int .i64 m.id, .int .i64 m.seq, .int .i64 m.mtu, .slice A nd cd] 24)).heap.size by simp)
  generalize w2.alloc (.cells #[.int .i64 m.ty, .int .i64 m.code, .int .i64 m.id, .int .i64 m.seq, .int .i64 m.mtu, .slice A nd cd] 24) = w3 at OB3 F3 Z3 ⊢
  obtain ⟨ob, hob⟩ : ∃ ob, w2.heap.size = ob := ⟨_, rfl⟩
  have NMO := Lib.hid (show mb ≠ ob by have h1 := HZ.out; have h2 := F2.out.size; omega)
  have HOBS := Lib.hid hob
  rw [hob] at OB3 Z3 ⊢
  clear hob
  have MB3 := Lib.hid (HBX.out w3 F3.out)
  have q5 := cells_at w3 mb [.int .i64 m.ty, .int .i64 m.code, .int .i64 m.id, .int .i64 m.seq, .int .i64 m.mtu, .slice A nd cd] 24 MB3.out 5 _ rfl
  have P3 := Lib.hid (HP.out.fr (FB.out.then' F3.out))
  go_upto_region 4 with (at_builtin; refine wpList_appN _ rfl _ _ rfl w3.heap.size _ [] (by exact rfl) (OwnB.nil _ _) w3.heap.size A nd cd d P3.out.len (by exact rfl) P3.out.here (by simp; omega) (Nat.le_refl _) ?_; intro v4 w4 o4 f4; have O4 := Lib.hid (show OwnB w3.heap.size w4 v4 d by simpa using o4); have F4 := Lib.hid (fr_nil f4); (obtain ⟨A4, c4, hv4, hb4⟩ := O4.out.viewN P3.out.len); subst hv4; (have ho4 := (F4.out.block ob Z3.out (fun e => e)).trans OB3.out); (have y5 := cells_at w4 ob _ 24 ho4 5 _ rfl); (have z5 := frozen_of_row w4 ob 5 _ 24 ho4); (have OB4 := Lib.hid ho4); clear o4 f4 hb4 ho4)
  clear q5 y5 z5
  have nob := own_new O4.out Z3.out
  have OB5 := Lib.hid (show (w4.setCell ⟨ob, 5, none⟩ (.slice A4 nd c4)).heap[ob]? = some (.cells #[.int .i64 m.ty, .int .i64 m.code, .int .i64 m.id, .int .i64 m.seq, .int .i64 m.mtu, .slice A4 nd c4] 24) by rw [heap_setCell_same w4 ob 5 _ 24 _ OB4.out]; rfl)
  have f5 : Fr (fun i => i = ob) w4 (w4.setCell ⟨ob, 5, none⟩ (.slice A4 nd c4)) := (Fr.refl (fun i => i = ob) w4).setCell _ _ (fun _ => rfl)
  have O5 := Lib.hid (O4.out.fr f5 (fun k hk e => nob (by rw [hk, e])))
  have MB5 := Lib.hid ((f5.block mb (by have := lt_of_block MB3.out; have := F4.out.size; omega) NMO.out).trans ((F4.out.block mb (lt_of_block MB3.out) (fun e => e)).trans MB3.out))
  have hwob : w.heap.size ≤ ob := by
    have := FB.out.size; have := F2.out.size; have := HOBS.out; omega
  have FW5 := Lib.hid (show Fr (fun _ => False) w (w4.setCell ⟨ob, 5, none⟩ (.slice A4 nd c4)) from ((FB.out.then' F3.out).then' F4.out).trans f5 (fun i hi e => by omega))
  clear nob f5 hwob OB4 MB3 F4 O4 P3 NMO Z3 OB3 F2 F3 HBX HZ
  generalize w4.setCell ⟨ob, 5, none⟩ (.slice A4 nd c4) = w5 at OB5 O5 MB5 FW5 ⊢
  have P5 := Lib.hid (O5.out.pc HP.out.len HP.out.ok htd).1
  have PM5 := Lib.hid (HP.out.fr FW5.out)
  obtain ⟨L, hL⟩ : ∃ L, encL m nd d = L := ⟨_, rfl⟩
  obtain ⟨ee, hee⟩ : ∃ ee, encE m nd = ee := ⟨_, rfl⟩
  have HENC := Lib.hid (And.intro hL hee)
  obtain ⟨nx, hnx⟩ : ∃ nx, L.length = nx := ⟨_, rfl⟩
  have HNX := Lib.hid hnx
  clear hL hee hnx
  have hcq := fun j v hj => cells_at w5 ob [.int .i64 m.ty, .int .i64 m.code, .int .i64 m.id, .int .i64 m.seq, .int .i64 m.mtu, .slice A4 nd c4] 24 (OB5.out) j v hj
  have q0 := hcq 0 _ rfl
  have q1 := hcq 1 _ rfl
  have q2 := hcq 2 _ rfl
  have q3 := hcq 3 _ rfl
  have q4 := hcq 4 _ rfl
  have q5 := hcq 5 _ rfl
  clear hcq
  go_upto_region 5 with (go_at_call 12; refine (encode_any m A4 nd c4 d w5 P5.out).mono ?_; rintro e w6 ⟨A6, c6, hr6, o6, f6⟩; rw [HENC.out.1, HENC.out.2, HNX.out] at hr6; rw [HENC.out.1, HNX.out] at o6; subst hr6; have O6 := Lib.hid o6; have F6 := Lib.hid f6; clear o6 f6)
  clear q0 q1 q2 q3 q4 q5
  have MB6 := Lib.hid ((F6.out.block mb (lt_of_block MB5.out) (fun e => e)).trans MB5.out)
  have hcq := fun j v hj => cells_at w6 mb [.int .i64 m.ty, .int .i64 m.code, .int .i64 m.id, .int .i64 m.seq, .int .i64 m.mtu, .slice A nd cd] 24 (MB6.out) j v hj
  have q0 := hcq 0 _ rfl
  have q1 := hcq 1 _ rfl
  have q2 := hcq 2 _ rfl
  have q3 := hcq 3 _ rfl
  have q4 := hcq 4 _ rfl
  have q5 := hcq 5 _ rfl
  clear hcq
  go_upto_region 6 with (go_at_call 13; refine (rencode_any m A nd cd d w6 (PM5.out.fr F6.out)).mono ?_; rintro e w7 ⟨A7, c7, hr7, o7, f7⟩; rw [HENC.out.1, HENC.out.2, HNX.out] at hr7; rw [HENC.out.1, HNX.out] at o7; subst hr7; have O7 := Lib.hid o7; have F7 := Lib.hid (F6.out.then' f7); have G7 := Lib.hid f7; clear o7 f7)
  clear q0 q1 q2 q3 q4 q5
  have PB7 := Lib.hid (HPB.out.fr (FW5.out.then' F7.out))
  go_upto_region 7 with (at_builtin; refine wpList_appN _ rfl _ _ rfl w7.heap.size _ [] (by exact rfl) (OwnB.nil _ _) w7.heap.size B nb cb lb PB7.out.len (by exact rfl) PB7.out.here (by simp; omega) (Nat.le_refl _) ?_; intro v8 w8 o8 f8; have O8 := Lib.hid (show OwnB w7.heap.size w8 v8 lb by simpa using o8); have G8 := Lib.hid (fr_nil f8); clear o8 f8)
  obtain ⟨A8, c8, rfl, hb8⟩ := O8.out.viewN HPB.out.len
  have PC8 := Lib.hid (OwnB.pc O8.out HPB.out.len HPB.out.ok htb)
  clear hb8
  obtain ⟨np, hnp⟩ : ∃ np, (decL lb).length = np := ⟨_, rfl⟩
  obtain ⟨de, hde⟩ : ∃ de, decE lb = de := ⟨_, rfl⟩
  have HNP := Lib.hid (And.intro hnp hde)
  clear hnp hde
  go_upto_region 8 with (go_at_call 14; refine (decode_any A8 nb c8 lb w8 PC8.out.2 PC8.out.1).mono ?_; rintro e w9 ⟨A9, c9, hr9, o9, p9, f9⟩; rw [HNP.out.1, HNP.out.2] at hr9; rw [HNP.out.1] at o9 p9; subst hr9; have O9 := Lib.hid (o9 rfl); have PP9 := Lib.hid p9; have G9 := Lib.hid f9; clear o9 p9 f9)
  have PB10 := Lib.hid (heap_alloc_new w9 (.cells #[.int .i64 (decM lb).ty, .int .i64 (decM lb).code, .int .i64 (decM lb).id, .int .i64 (decM lb).seq, .int .i64 (decM lb).mtu, .slice A9 np c9] 24))
  have G10 := Lib.hid ((Fr.refl (fun _ => False) w9).alloc (.cells #[.int .i64 (decM lb).ty, .int .i64 (decM lb).code, .int .i64 (decM lb).id, .int .i64 (decM lb).seq, .int .i64 (decM lb).mtu, .slice A9 np c9] 24))
  have Z10 := Lib.hid (show w9.heap.size < (w9.alloc (.cells #[.int .i64 (decM lb).ty, .int .i64 (decM lb).code, .int .i64 (decM lb).id, .int .i64 (decM lb).seq, .int .i64 (decM lb).mtu, .slice A9 np c9] 24)).heap.size by simp)
  generalize w9.alloc (.cells #[.int .i64 (decM lb).ty, .int .i64 (decM lb).code, .int .i64 (decM lb).id, .int .i64 (decM lb).seq, .int .i64 (decM lb).mtu, .slice A9 np c9] 24) = w10 at PB10 G10 Z10 ⊢
  obtain ⟨pb, hpb⟩ : ∃ pb, w9.heap.size = pb := ⟨_, rfl⟩
  have HPBs := Lib.hid hpb
  rw [hpb] at PB10 Z10 ⊢
  clear hpb
  have F10 := Lib.hid (((G8.out.then' G9.out).then' G10.out))
  have PBw := Lib.hid (PB7.out.fr F10.out)
  go_upto_region 9 with (go_at_call 15; refine (rdecode_any B nb cb lb w10 HCB.out PBw.out).mono ?_; rintro e w11 ⟨A10, c10, hr11, o11, p11, f11⟩; rw [HNP.out.1, HNP.out.2] at hr11; rw [HNP.out.1] at p11; subst hr11; have PQ11 := Lib.hid p11; have G11 := Lib.hid f11; clear o11 p11 f11)
  have QB12 := Lib.hid (heap_alloc_new w11 (.cells #[.int .i64 (decM lb).ty, .int .i64 (decM lb).code, .int .i64 (decM lb).id, .int .i64 (decM lb).seq, .int .i64 (decM lb).mtu, .slice A10 np c10] 24))
  have G12 := Lib.hid ((Fr.refl (fun _ => False) w11).alloc (.cells #[.int .i64 (decM lb).ty, .int .i64 (decM lb).code, .int .i64 (decM lb).id, .int .i64 (decM lb).seq, .int .i64 (decM lb).mtu, .slice A10 np c10] 24))
  generalize w11.alloc (.cells #[.int .i64 (decM lb).ty, .int .i64 (decM lb).code, .int .i64 (decM lb).id, .int .i64 (decM lb).seq, .int .i64 (decM lb).mtu, .slice A10 np c10] 24) = w12 at QB12 G12 ⊢
  obtain ⟨qb, hqb⟩ : ∃ qb, w11.heap.size = qb := ⟨_, rfl⟩
  rw [hqb] at QB12 ⊢
  clear hqb
  have F1012 := Lib.hid (G11.out.then' G12.out)
  have PB12 := Lib.hid ((F1012.out.block pb Z10.out (fun e => e)).trans PB10.out)
  have PP12 := Lib.hid (PP9.out.fr (G10.out.then' F1012.out))
  have PQ12 := Lib.hid (PQ11.out.fr G12.out)
  have hcq := fun j v hj => cells_at w12 pb [.int .i64 (decM lb).ty, .int .i64 (decM lb).code, .int .i64 (decM lb).id, .int .i64 (decM lb).seq, .int .i64 (decM lb).mtu, .slice A9 np c9] 24 (PB12.out) j v hj
  have q0 := hcq 0 _ rfl
  have q1 := hcq 1 _ rfl
  have q2 := hcq 2 _ rfl
  have q3 := hcq 3 _ rfl
  have q4 := hcq 4 _ rfl
  have q5 := hcq 5 _ rfl
  clear hcq
  have hcr := fun j v hj => cells_at w12 qb [.int .i64 (decM lb).ty, .int .i64 (decM lb).code, .int .i64 (decM lb).id, .int .i64 (decM lb).seq, .int .i64 (decM lb).mtu, .slice A10 np c10] 24 (QB12.out) j v hj
  have r0 := hcr 0 _ rfl
  have r1 := hcr 1 _ rfl
  have r2 := hcr 2 _ rfl
  have r3 := hcr 3 _ rfl
  have r4 := hcr 4 _ rfl
  have r5 := hcr 5 _ rfl
  clear hcr
  go_upto_region 10 with (go_at_call 16; refine (same16 (decM lb) (decM lb) A9 A10 np c9 np c10 (decL lb) (decL lb) w12 PP12.out PQ12.out).mono ?_; rw [sameB_self]; rintro e w13 ⟨rfl, f13⟩; have G13 := Lib.hid f13; clear f13)
  clear q0 q1 q2 q3 q4 q5
  clear r0 r1 r2 r3 r4 r5
  have F813 := Lib.hid (F10.out.then' (F1012.out.then' G13.out))
  have F613 := Lib.hid (G7.out.then' F813.out)
  have O613 := Lib.hid (O6.out.fr0 F613.out)
  have PX := Lib.hid (OwnB.pc O613.out HNX.out (by rw [← HENC.out.1]; exact isB_enc m nd HP.out.ok) (by
    have h := HNX.out
    rw [← HENC.out.1] at h
    unfold encL at h
    split at h
    · rename_i h1
      rw [lay_len, HP.out.len] at h
      omega
    · simp at h; omega))
  obtain ⟨nk, hnk⟩ : ∃ nk, (decL L).length = nk := ⟨_, rfl⟩
  obtain ⟨ke, hke⟩ : ∃ ke, decE L = ke := ⟨_, rfl⟩
  have HNK := Lib.hid (And.intro hnk hke)
  clear hnk hke
  go_upto_region 11 with (go_at_call 14; refine (decode_any A6 nx c6 L w13 PX.out.2 PX.out.1).mono ?_; rintro e w14 ⟨A12, c12, hr14, o14, p14, f14⟩; rw [HNK.out.1, HNK.out.2] at hr14; rw [HNK.out.1] at p14; subst hr14; have PK14 := Lib.hid p14; have G14 := Lib.hid f14; clear o14 p14 f14)
  have KB15 := Lib.hid (heap_alloc_new w14 (.cells #[.int .i64 (decM L).ty, .int .i64 (decM L).code, .int .i64 (decM L).id, .int .i64 (decM L).seq, .int .i64 (decM L).mtu, .slice A12 nk c12] 24))
  have G15 := Lib.hid ((Fr.refl (fun _ => False) w14).alloc (.cells #[.int .i64 (decM L).ty, .int .i64 (decM L).code, .int .i64 (decM L).id, .int .i64 (decM L).seq, .int .i64 (decM L).mtu, .slice A12 nk c12] 24))
  generalize w14.alloc (.cells #[.int .i64 (decM L).ty, .int .i64 (decM L).code, .int .i64 (decM L).id, .int .i64 (decM L).seq, .int .i64 (decM L).mtu, .slice A12 nk c12] 24) = w15 at KB15 G15 ⊢
  obtain ⟨kb, hkb⟩ : ∃ kb, w14.heap.size = kb := ⟨_, rfl⟩
  rw [hkb] at KB15 ⊢
  clear hkb
  have F615 := Lib.hid (F613.out.then' (G14.out.then' G15.out))
  have MB15 := Lib.hid ((F615.out.block mb (lt_of_block MB6.out) (fun e => e)).trans MB6.out)
  have PM15 := Lib.hid (PM5.out.fr (F6.out.then' F615.out))
  have PK15 := Lib.hid (PK14.out.fr G15.out)
  obtain ⟨sb, hsb⟩ : ∃ sb, sameB (decM L) m (decL L) d = sb := ⟨_, rfl⟩
  have HSB := Lib.hid hsb
  clear hsb
  have hcq := fun j v hj => cells_at w15 kb [.int .i64 (decM L).ty, .int .i64 (decM L).code, .int .i64 (decM L).id, .int .i64 (decM L).seq, .int .i64 (decM L).mtu, .slice A12 nk c12] 24 (KB15.out) j v hj
  have q0 := hcq 0 _ rfl
  have q1 := hcq 1 _ rfl
  have q2 := hcq 2 _ rfl
  have q3 := hcq 3 _ rfl
  have q4 := hcq 4 _ rfl
  have q5 := hcq 5 _ rfl
  clear hcq
  have hcr := fun j v hj => cells_at w15 mb [.int .i64 m.ty, .int .i64 m.code, .int .i64 m.id, .int .i64 m.seq, .int .i64 m.mtu, .slice A nd cd] 24 (MB15.out) j v hj
  have r0 := hcr 0 _ rfl
  have r1 := hcr 1 _ rfl
  have r2 := hcr 2 _ rfl
  have r3 := hcr 3 _ rfl
  have r4 := hcr 4 _ rfl
  have r5 := hcr 5 _ rfl
  clear hcr
  go_upto_region 12 with (go_at_call 16; refine (same16 (decM L) m A12 A nk c12 nd cd (decL L) d w15 PK15.out PM15.out).mono ?_; rw [HSB.out]; rintro e w16 ⟨rfl, f16⟩; have G16 := Lib.hid f16; clear f16)
  clear q0 q1 q2 q3 q4 q5
  clear r0 r1 r2 r3 r4 r5
  have F616 := Lib.hid (F615.out.then' G16.out)
  have X16 := Lib.hid (O6.out.fr0 F616.out)
  have Y16 := Lib.hid (O7.out.fr0 (show Fr (fun _ => False) w7 w16 from F813.out.then' ((G14.out.then' G15.out).then' G16.out) |> fun h => G8.out.then' (show Fr (fun _ => False) w8 w16 from (G9.out.then' G10.out).then' (F1012.out.then' (G13.out.then' ((G14.out.then' G15.out).then' G16.out))))))
  have F816 := Lib.hid (show Fr (fun _ => False) w8 w16 from (G9.out.then' G10.out).then' (F1012.out.then' (G13.out.then' ((G14.out.then' G15.out).then' G16.out))))
  have W16 := Lib.hid (O8.out.fr0 F816.out)
  have D16 := Lib.hid (O9.out.fr0 (show Fr (fun _ => False) w9 w16 from G10.out.then' (F1012.out.then' (G13.out.then' ((G14.out.then' G15.out).then' G16.out)))))
  have C16 := Lib.hid (O5.out.fr0 (F6.out.then' F616.out))
  have PR16 := Lib.hid (((show Fr (fun _ => False) w12 w16 from G13.out.then' ((G14.out.then' G15.out).then' G16.out)).block pb (lt_of_block PB12.out) (fun e => e)).trans PB12.out)
  have OR16 := Lib.hid (((F6.out.then' F616.out).block ob (lt_of_block OB5.out) (fun e => e)).trans OB5.out)
  have MR16 := Lib.hid ((F616.out.block mb (lt_of_block MB6.out) (fun e => e)).trans MB6.out)
  have FW16 := Lib.hid (FW5.out.then' (F6.out.then' F616.out))
  have hlaw : (ee == 0) = false ∨ (ee = 0 ∧ ke = 0 ∧ sb = true) := by
    by_cases h : ee = 0
    · right
      have hb := back_law HP.out.ok HP.out.len (by rw [HENC.out.2]; exact h)
      rw [HENC.out.1] at hb
      refine ⟨h, by rw [← HNK.out.2]; exact hb.1, ?_⟩
      rw [← HSB.out, hb.2.1, hb.2.2, sameB_self]
    · left; simpa using h
  go_cut [71] (fun v71 wc => v71 = .bool false ∧ wc = w16)
  case first =>
    rcases hlaw with hl | ⟨h1, h2, h3⟩
    · go_wp2_with fail
      go_meet
      exact ⟨rfl, rfl⟩
    · subst h1; subst h2; subst h3
      go_wp2_with fail
      go_meet
      exact ⟨rfl, rfl⟩
  case rest =>
    obtain ⟨rfl, hwc⟩ := hcut
    subst hwc
    clear hlaw
    obtain ⟨w16, hw16⟩ : ∃ x, x = wc := ⟨_, rfl⟩
    subst hw16
    have k1 := pc_str (c := c6) (OwnB.pc X16.out HNX.out (by rw [← HENC.out.1]; exact isB_enc m nd HP.out.ok) PX.out.1.top).1
    have k2 := pc_str (c := c7) (OwnB.pc Y16.out HNX.out (by rw [← HENC.out.1]; exact isB_enc m nd HP.out.ok) PX.out.1.top).1
    go_upto_region 15 with (fail)
    clear k1 k2
    have hnx := PX.out.1.top
    as_aux_lemma =>
    go_wp2_with fail
    go_loopw [21] (fun v wr => ∃ k : Nat, v = .int .i64 k ∧ k ≤ nx ∧ ∃ l' : List Int, l'.length = nx ∧ OwnB w5.heap.size wr (.slice A6 nx c6) l' ∧ Fr (fun i => (Value.slice A6 nx c6).ownBlock = some i) w16 wr) (fun v _ => nx - (intOf v).toNat)
    case atStart => exact ⟨0, rfl, Nat.zero_le _, L, HNX.out, X16.out, Fr.refl _ _⟩
    case round =>
      obtain ⟨k, rfl, hk, l', hl', ho', hf'⟩ := hrel
      by_cases hlt : k < nx
      · as_aux_lemma =>
        obtain ⟨g, cc, hv, hg1, hg2⟩ := ho'.form hl' (by omega)
        injection hv with hv1 _ hv2
        subst hv1; subst hv2
        obtain ⟨x, hx⟩ : ∃ x, l'[k]? = some x := ⟨_, List.getElem?_eq_getElem (by omega)⟩
        obtain ⟨cx, fx⟩ := ho'.cell hx
        have HO := Lib.hid ho'
        have HF := Lib.hid hf'
        have HL := Lib.hid hl'
        clear ho' hf' hl' hx
        go_wp2_with fail
        go_roundw
        case rel => exact ⟨k + 1, by go_num, by omega, _, by rw [List.length_set]; exact HL.out, (HO.out.set k _).1, HF.out.setCell _ _ (fun _ => rfl)⟩
        case measure => simp [intOf]; omega
      · as_aux_lemma =>
        have hxl := fun k (e : (Value.slice A6 nx c6).ownBlock = some k) => World.ownsRow.lt O6.out k e
        have h67 := G7.out.size
        have h78 := G8.out.size
        have h89 := G9.out.size
        have hob5 := lt_of_block OB5.out
        have hmb5 := lt_of_block MB5.out
        have hpb9 := HPBs.out
        have hww5 := FW5.out.size
        have D17 := Lib.hid (D16.out.fr hf' (fun k hk e => by have h1 := hxl k e; have h2 := (World.ownsRow.lt O9.out k hk).1; omega))
        have W17 := Lib.hid (W16.out.fr hf' (fun k hk e => by have h1 := hxl k e; have h2 := (World.ownsRow.lt O8.out k hk).1; omega))
        have C17 := Lib.hid (C16.out.fr hf' (fun k hk e => by have h1 := hxl k e; have h2 := (World.ownsRow.lt O5.out k hk).2; omega))
        have PR17 := Lib.hid ((hf'.block pb (lt_of_block PR16.out) (fun e => by have h1 := hxl _ e; omega)).trans PR16.out)
        have OR17 := Lib.hid ((hf'.block ob (lt_of_block OR16.out) (fun e => by have h1 := hxl _ e; omega)).trans OR16.out)
        have MR17 := Lib.hid ((hf'.block mb (lt_of_block MR16.out) (fun e => by have h1 := hxl _ e; omega)).trans MR16.out)
        have FW17 := Lib.hid (FW16.out.trans hf' (fun i hi e => by have h1 := hxl _ e; omega))
        have HNPl := HNP.out.1
        have hnpt : np ≤ 140737488355328 := PP9.out.top
        obtain ⟨w17, hw17⟩ : ∃ x, x = wr := ⟨_, rfl⟩
        subst hw17
        have HS := Lib.hid (And.intro h67 (And.intro h78 (And.intro h89 (And.intro hob5 (And.intro hmb5 (And.intro hpb9 hww5))))))
        have HNPL := Lib.hid HNPl
        clear hxl h67 h78 h89 hob5 hmb5 hpb9 hww5 ho' hf' hl' HNPl
        go_wp2_with fail
        go_loopw [22] (fun v wr => ∃ k : Nat, v = .int .i64 k ∧ k ≤ np ∧ ∃ l' : List Int, l'.length = np ∧ OwnB w8.heap.size wr (.slice A9 np c9) l' ∧ Fr (fun i => (Value.slice A9 np c9).ownBlock = some i) w17 wr) (fun v _ => np - (intOf v).toNat)
        case atStart => exact ⟨0, rfl, Nat.zero_le _, decL lb, HNPL.out, D17.out, Fr.refl _ _⟩
        case round =>
          obtain ⟨k, rfl, hk, l', hl', ho', hf'⟩ := hrel
          have hpl := fun k (e : (Value.slice A9 np c9).ownBlock = some k) => World.ownsRow.lt O9.out k e
          have PRr := Lib.hid ((hf'.block pb (lt_of_block PR17.out) (fun e => by have h1 := hpl _ e; have := HS.out; omega)).trans PR17.out)
          have hc5 := cells_at wr pb [.int .i64 (decM lb).ty, .int .i64 (decM lb).code, .int .i64 (decM lb).id, .int .i64 (decM lb).seq, .int .i64 (decM lb).mtu, .slice A9 np c9] 24 PRr.out 5 _ rfl
          by_cases hlt : k < np
          · as_aux_lemma =>
            obtain ⟨g, cc, hv, hg1, hg2⟩ := ho'.form hl' (by omega)
            injection hv with hv1 _ hv2
            subst hv1; subst hv2
            obtain ⟨x, hx⟩ : ∃ x, l'[k]? = some x := ⟨_, List.getElem?_eq_getElem (by omega)⟩
            obtain ⟨cx, fx⟩ := ho'.cell hx
            have HO := Lib.hid ho'
            have HF := Lib.hid hf'
            have HL := Lib.hid hl'
            clear ho' hf' hl' hx hpl
            go_upto_region 22 with (fail)
            have HC5 := Lib.hid hc5
            have HCX := Lib.hid cx
            have HFX := Lib.hid fx
            clear hc5 cx fx
            have hltI : (k : Int) < (np : Int) := by omega
            refine kr_start [(1, fun W => W.cell? ⟨pb, 5, none⟩ = some (.slice (some ⟨g, 0, none⟩) np c9)), (4, fun W => W.cell? ⟨pb, 5, none⟩ = some (.slice (some ⟨g, 0, none⟩) np c9)), (7, fun W => W.cell? ⟨g, k, none⟩ = some (.int .u8 x))] (by kernel_rfl) (by kernel_rfl) ?_
            refine kr_find 0 rfl (by kernel_rfl) (by kernel_rfl) (by kernel_rfl) (fun _ _ _ _ h => h) (by rfl) trivial ?_
            apply Exists.intro; apply And.intro
            · intro w' hS K hK
              clear hS
              go_light
              go_simp
              exact hK.out
            try simp only [Act.put, List.getElem_toArray, List.getElem_cons_zero, List.getElem_cons_succ, List.setIfInBounds_toArray, List.set_cons_zero, List.set_cons_succ]
            refine kr_find 1 rfl (by kernel_rfl) (by kernel_rfl) (by kernel_rfl) (fun _ _ _ _ h => h) (by rfl) (show _ from HC5.out) ?_
            apply Exists.intro; apply And.intro
            · intro w' hS K hK
              have hS : w'.cell? ⟨pb, 5, none⟩ = some (.slice (some ⟨g, 0, none⟩) np c9) := hS
              go_light
              go_simp
              exact hK.out
            try simp only [Act.put, List.getElem_toArray, List.getElem_cons_zero, List.getElem_cons_succ, List.setIfInBounds_toArray, List.set_cons_zero, List.set_cons_succ]
            refine kr_find 2 rfl (by kernel_rfl) (by kernel_rfl) (by kernel_rfl) (fun _ _ _ _ h => h) (by rfl) trivial ?_
            apply Exists.intro; apply And.intro
            · intro w' hS K hK
              clear hS
              go_light
              go_simp
              exact hK.out
            try simp only [Act.put, List.getElem_toArray, List.getElem_cons_zero, List.getElem_cons_succ, List.setIfInBounds_toArray, List.set_cons_zero, List.set_cons_succ]
            refine kr_find 3 rfl (by kernel_rfl) (by kernel_rfl) (by kernel_rfl) (fun _ _ _ _ h => h) (by rfl) trivial ?_
            apply Exists.intro; apply And.intro
            · intro w' hS K hK
              clear hS
              go_light
              go_simp
              exact hK.out
            try simp only [Act.put, List.getElem_toArray, List.getElem_cons_zero, List.getElem_cons_succ, List.setIfInBounds_toArray, List.set_cons_zero, List.set_cons_succ]
            refine kr_find 4 rfl (by kernel_rfl) (by kernel_rfl) (by kernel_rfl) (fun _ _ _ _ h => h) (by rfl) (show _ from HC5.out) ?_
            apply Exists.intro; apply And.intro
            · intro w' hS K hK
              have hS : w'.cell? ⟨pb, 5, none⟩ = some (.slice (some ⟨g, 0, none⟩) np c9) := hS
              go_light
              go_simp
              exact hK.out
            try simp only [Act.put, List.getElem_toArray, List.getElem_cons_zero, List.getElem_cons_succ, List.setIfInBounds_toArray, List.set_cons_zero, List.set_cons_succ]
            refine kr_find 5 rfl (by kernel_rfl) (by kernel_rfl) (by kernel_rfl) (fun _ _ _ _ h => h) (by rfl) trivial ?_
            apply Exists.intro; apply And.intro
            · intro w' hS K hK
              clear hS
              go_light
              go_simp
              exact hK.out
            try simp only [Act.put, List.getElem_toArray, List.getElem_cons_zero, List.getElem_cons_succ, List.setIfInBounds_toArray, List.set_cons_zero, List.set_cons_succ]
            refine kr_find 6 rfl (by kernel_rfl) (by kernel_rfl) (by kernel_rfl) (fun _ _ _ _ h => h) (by rfl) trivial ?_
            apply Exists.intro; apply And.intro
            · intro w' hS K hK
              clear hS
              go_light
              go_simp
              exact hK.out
            try simp only [Act.put, List.getElem_toArray, List.getElem_cons_zero, List.getElem_cons_succ, List.setIfInBounds_toArray, List.set_cons_zero, List.set_cons_succ]
            refine kr_find 7 rfl (by kernel_rfl) (by kernel_rfl) (by kernel_rfl) (fun _ _ _ _ h => h) (by rfl) (show _ from HCX.out) ?_
            apply Exists.intro; apply And.intro
            · intro w' hS K hK
              have hS : w'.cell? ⟨g, k, none⟩ = some (.int .u8 x) := hS
              go_light
              go_simp
              exact hK.out
            try simp only [Act.put, List.getElem_toArray, List.getElem_cons_zero, List.getElem_cons_succ, List.setIfInBounds_toArray, List.set_cons_zero, List.set_cons_succ]
            refine kr_find 8 rfl (by kernel_rfl) (by kernel_rfl) (by kernel_rfl) (fun _ _ _ _ h => h) (by rfl) trivial ?_
            apply Exists.intro; apply And.intro
            · intro w' hS K hK
              clear hS
              go_light
              go_simp
              exact hK.out
            try simp only [Act.put, List.getElem_toArray, List.getElem_cons_zero, List.getElem_cons_succ, List.setIfInBounds_toArray, List.set_cons_zero, List.set_cons_succ]
            refine kr_find 9 rfl (by kernel_rfl) (by kernel_rfl) (by kernel_rfl) (fun _ _ _ _ h => h) (by rfl) trivial ?_
            apply Exists.intro; apply And.intro
            · intro w' hS K hK
              clear hS
              go_light
              go_simp
              exact hK.out
            try simp only [Act.put, List.getElem_toArray, List.getElem_cons_zero, List.getElem_cons_succ, List.setIfInBounds_toArray, List.set_cons_zero, List.set_cons_succ]
            refine kr_one 10 (by kernel_rfl) rfl (by rfl) (fun K hK => ?_)
            have hc1 := HCX.out
            have hz1 := HFX.out
            go_simp
            clear hc1 hz1
            refine hK.out _ _ ⟨.inl (by kernel_rfl), .inl (by kernel_rfl), .inl (by kernel_rfl), trivial⟩ ?_
            clear hK K
            try simp only [Act.put, List.getElem_toArray, List.getElem_cons_zero, List.getElem_cons_succ, List.setIfInBounds_toArray, List.set_cons_zero, List.set_cons_succ]
            refine kr_done (by kernel_rfl) ?_ _
            go_wp2_with fail
            go_roundw
            case rel => exact ⟨k + 1, by go_num, by omega, _, by rw [List.length_set]; exact HL.out, ((HO.out.fr0 (Fr.refl _ wr).drew).set k _).1, (HF.out.drew).setCell _ _ (fun _ => rfl)⟩
            case measure => simp [intOf]; omega
          · as_aux_lemma =>
            have W18 := W17.out.fr hf' (fun k hk e => by have h1 := hpl k e; have h2 := (World.ownsRow.lt O8.out k hk).2; omega)
            have C18 := C17.out.fr hf' (fun k hk e => by have h1 := hpl k e; have h2 := (World.ownsRow.lt O5.out k hk).2; have := HS.out; have := F6.out.size; omega)
            have OR18 := (hf'.block ob (lt_of_block OR17.out) (fun e => by have h1 := hpl _ e; have := HS.out; have := F6.out.size; omega)).trans OR17.out
            have MR18 := (hf'.block mb (lt_of_block MR17.out) (fun e => by have h1 := hpl _ e; have := HS.out; have := F6.out.size; omega)).trans MR17.out
            have FW18 := FW17.out.trans hf' (fun i hi e => by have h1 := hpl _ e; have := HS.out; have := F6.out.size; omega)
            have k1 := pc_str (c := c8) (OwnB.pc W18 HPB.out.len HPB.out.ok htb).1
            have k2 := pc_str (c := cb) (HPB.out.fr FW18)
            have k3 := pc_str (c := c4) (OwnB.pc C18 HP.out.len HP.out.ok htd).1
            have k4 := pc_str (c := cd) (HP.out.fr FW18)
            have c1 := cells_at wr ob [.int .i64 m.ty, .int .i64 m.code, .int .i64 m.id, .int .i64 m.seq, .int .i64 m.mtu, .slice A4 nd c4] 24 OR18 5 _ rfl
            have c2 := cells_at wr mb [.int .i64 m.ty, .int .i64 m.code, .int .i64 m.id, .int .i64 m.seq, .int .i64 m.mtu, .slice A nd cd] 24 MR18 5 _ rfl
            have HFW := Lib.hid FW18
            clear W18 C18 OR18 MR18 FW18 ho' hf' hl' hpl
            go_wp2_with fail
            go_ret
            exact ⟨rfl, HFW.out⟩
end Go.Proofs.Ytcfadmjihccimaa
