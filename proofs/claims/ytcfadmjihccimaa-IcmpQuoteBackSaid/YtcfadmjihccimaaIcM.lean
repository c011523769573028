/- The chapter's examples hold (awake of law 12): its walk. No condition. -/
import Derived.Test.YtcfadmjihccimaaIcE
import Derived.Test.YtcfadmjihccimaaIcG
import Derived.Test.YtcfadmjihccimaaIcL
import Derived.Lib.SlBytesConst
namespace Go.Proofs.Ytcfadmjihccimaa
set_option linter.unusedVariables false
set_option linter.unusedSimpArgs false
open Go.RowKit

theorem OwnB.pc {base : Nat} {w : World} {A : Option Addr} {n c : Nat} {l : List Int} (h : OwnB base w (.slice A n c) l) (hn : l.length = n) (hB : isB l) (ht : n ≤ 140737488355328) : Pc w A n l ∧ n ≤ c := by
  obtain ⟨A', c', e, hb, hc, _⟩ := h.cap hn
  cases e
  exact ⟨⟨hn, hB, ht, hb⟩, hc⟩
theorem decode_aw0 (A : Option Addr) (c : Nat) (w : World) (hc : 9 ≤ c) (P : Pc w A 9 l0) :
    Calls Try.prog 14 #[.slice A 9 c] w fun e w' => ∃ A2 c2, e = .returned (.tuple #[.agg #[.int .i64 8, .int .i64 0, .int .i64 1, .int .i64 2, .int .i64 0, .slice A2 1 c2], .int .i64 0]) ∧ OwnB w.heap.size w' (.slice A2 1 c2) [97] ∧ Fr (fun _ => False) w w' := by
  refine (decode14_rest A 9 c l0 w (by omega) (by omega) hc P l0_ck m0 (by unfold dI m0; congr 1 <;> decide) true (by decide) (by decide) (by decide) (by decide) (by decide) (by decide)).mono ?_
  rintro e w' ⟨f, h1, _⟩
  obtain ⟨v, he, ho⟩ := h1 (by decide)
  obtain ⟨A2, c2, rfl, _⟩ := ho.viewN (n := 1) (by decide)
  exact ⟨A2, c2, he, ho, f⟩
theorem take_aw (g : Nat) (w : World) (h : w.heap[g]? = some (bk 4)) :
    Calls Try.prog 38 #[.pointer (some ⟨g, 0, none⟩), .int .i64 0] w fun e w' => e = .returned (.int .i64 0) ∧ w'.heap[g]? = some (bk 3) ∧ Fr (fun i => i = g) w w' := take38c g w h
def ip10 : I4 := ⟨10, 0, 0, 0⟩
theorem ip10_ok : ip10.ok := ⟨by decide, by decide, by decide, by decide⟩
theorem find_aw1 (g m : Nat) (lv : Value) (w : World) (hT : PaAt w g m [(ip10, 100)] lv) :
    Calls Try.prog 18 #[.pointer (some ⟨g, 0, none⟩), .agg #[.int .u8 10, .int .u8 0, .int .u8 0, .int .u8 0]] w fun e w' => e = .returned (.int .i64 100) ∧ Fr (fun _ => False) w w' := by
  have h := find18 g m [(ip10, 100)] lv 10 0 0 0 w ip10_ok hT
  rwa [show (lki [(ip10, 100)] ⟨10, 0, 0, 0⟩).getD 256 = 100 by decide] at h
theorem find_aw2 (g m : Nat) (lv : Value) (w : World) (hT : PaAt w g m [(ip10, 100)] lv) :
    Calls Try.prog 18 #[.pointer (some ⟨g, 0, none⟩), .agg #[.int .u8 11, .int .u8 0, .int .u8 0, .int .u8 0]] w fun e w' => e = .returned (.int .i64 256) ∧ Fr (fun _ => False) w w' := by
  have h := find18 g m [(ip10, 100)] lv 11 0 0 0 w ⟨by decide, by decide, by decide, by decide⟩ hT
  rwa [show (lki [(ip10, 100)] ⟨11, 0, 0, 0⟩).getD 256 = 256 by decide] at h
theorem learn_aw (g m : Nat) (w : World) (h : LnAt w g m [] [] (.slice none 0 0)) :
    Calls Try.prog 19 #[.pointer (some ⟨g, 0, none⟩), .agg #[.int .u8 10, .int .u8 0, .int .u8 0, .int .u8 0], .int .i64 100] w fun e w' => e = .returned (.bool true) ∧ ∃ lv', PaAt w' g m [(ip10, 100)] lv' ∧ Fr (fun i => i = g ∨ i = m) w w' := by
  refine (learn19_yes g m [] [] _ 10 0 0 0 100 w ip10_ok h (by decide) (by decide) (by decide)).mono ?_
  rintro e w' ⟨rfl, lv', h1, f, _⟩
  refine ⟨rfl, lv', h1.pa, f.mono (fun i hi hh => ?_)⟩
  rcases hh with h | h | h
  · exact .inl h
  · exact .inr h
  · cases h

set_option maxHeartbeats 16000000 in
set_option maxRecDepth 100000 in
theorem awake11 (w : World) : Calls Try.prog 11 #[] w fun e w' => e = .returned (.bool true) ∧ Fr (fun _ => False) w w' := by
  have FA := Lib.hid (Fr.refl (fun _ => False) w)
  go_enter Try.func11, Try.ntmps11
  go_upto_region 1 with (fail)
  have hcv := fun (C : Array Value) (n c : Nat) => Lib.run_convert_bytes_const (P := Try.prog) w 22 5 C n c Try.underlying22 Try.underlying5
  have P0 := Lib.hid (show Pc (w.alloc (.cells #[.int .u8 97] 5 (1, 2))) (some ⟨w.heap.size, 0, none⟩) 1 [97] from ⟨rfl, by intro x hx; simp at hx; omega, by decide, fun _ => ⟨w.heap.size, 0, rfl, by simp, fun j x hj => by
    match j, hj with
    | 0, hj => cases hj; rw [Nat.zero_add, cell_of_row _ _ 0 #[.int .u8 97] 5 (1, 2) (heap_alloc_new w _)]; rfl⟩⟩)
  have FB := Lib.hid (FA.out.alloc (.cells #[.int .u8 97] 5 (1, 2)))
  go_upto_region 2 with (go_at_call 12; refine (encode_aw _ _ _ P0.out).mono ?_; rintro e w1 ⟨g, cp, rfl, o1, f1⟩; have O1 := Lib.hid o1; have F1 := Lib.hid (FB.out.then' f1); have Z1 := Lib.hid f1.size; clear o1 f1)
  clear hcv P0 FB
  have d2 := (O1.out.cell (j := 2) (x := 150) rfl).1
  have d3 := (O1.out.cell (j := 3) (x := 252) rfl).1
  have HPC := Lib.hid (O1.out.pc (n := 9) rfl l0_ok (by decide))
  go_upto_region 5 with (go_at_call 14; refine (decode_aw0 _ _ _ HPC.out.2 HPC.out.1).mono ?_; rintro e w2 ⟨A2, c2, rfl, o2, f2⟩; have O2 := Lib.hid o2; have F2 := Lib.hid f2; clear o2 f2)
  clear d2 d3
  obtain ⟨M0, hM0⟩ : ∃ M0, M0 = Obj.cells #[.int .i64 8, .int .i64 0, .int .i64 1, .int .i64 2, .int .i64 0, .slice A2 1 c2] 24 := ⟨_, rfl⟩
  have MB := Lib.hid (heap_alloc_new w2 (.cells #[.int .i64 8, .int .i64 0, .int .i64 1, .int .i64 2, .int .i64 0, .slice A2 1 c2] 24))
  have F3 := Lib.hid (F2.out.alloc (.cells #[.int .i64 8, .int .i64 0, .int .i64 1, .int .i64 2, .int .i64 0, .slice A2 1 c2] 24))
  have O3 := Lib.hid (O1.out.fr0 F3.out)
  have D3 := Lib.hid (O2.out.fr0 ((Fr.refl _ w2).alloc (.cells #[.int .i64 8, .int .i64 0, .int .i64 1, .int .i64 2, .int .i64 0, .slice A2 1 c2] 24)))
  have z3 : w2.heap.size < (w2.alloc (.cells #[.int .i64 8, .int .i64 0, .int .i64 1, .int .i64 2, .int .i64 0, .slice A2 1 c2] 24)).heap.size := by simp
  have Z3 := Lib.hid z3
  clear hM0 z3
  generalize w2.alloc (.cells #[.int .i64 8, .int .i64 0, .int .i64 1, .int .i64 2, .int .i64 0, .slice A2 1 c2] 24) = w3 at MB F3 O3 D3 Z3 ⊢
  have d8 := O3.out.cell (j := 8) (x := 97) rfl
  obtain ⟨d8, z8⟩ := d8
  go_upto_region 6 with (fail)
  clear d8 z8
  have hs8 := O3.out.set 8 98
  obtain ⟨o4, f4⟩ := hs8
  rw [l01] at o4
  have gb := O1.out.pc (n := 9) rfl l0_ok (by decide)
  have hg1 : g < w1.heap.size ∧ w.heap.size ≤ g := by
    obtain ⟨g', c', e, h1, h2⟩ := O1.out.form (n := 9) rfl (by omega)
    cases e
    have h3 := Z1.out
    simp at h3
    exact ⟨h2, by have := (World.ownsRow.lt O1.out g rfl).1; simp at this; omega⟩
  have hz12 := F2.out.size
  have MB4 := Lib.hid ((f4.block w2.heap.size Z3.out (by omega)).trans MB.out)
  have D4 := Lib.hid (D3.out.fr f4 (fun k hk e => by have := (World.ownsRow.lt D3.out k hk).1; omega))
  have P4 := Lib.hid (o4.pc (n := 9) rfl l1_ok (by decide)).1
  have F4 := Lib.hid (show Fr (fun _ => False) w (w3.setCell ⟨g, 8, none⟩ (.int .u8 98)) from (F1.out.then' F3.out).trans f4 (fun i hi e => by omega))
  have Z4 := Lib.hid (show w2.heap.size < (w3.setCell ⟨g, 8, none⟩ (.int .u8 98)).heap.size from Nat.lt_of_lt_of_le Z3.out f4.size)
  clear o4 f4 gb hg1 hz12 MB O3 D3 F3 Z3 F2 O2 HPC O1 F1 Z1
  obtain ⟨mb, hmb⟩ : ∃ mb, w2.heap.size = mb := ⟨_, rfl⟩
  rw [hmb] at MB4 Z4 ⊢
  clear hmb
  generalize w3.setCell ⟨g, 8, none⟩ (.int .u8 98) = w4 at MB4 D4 P4 F4 Z4 ⊢
  go_upto_region 7 with (go_at_call 14; refine (decode_aw1 _ _ w4 P4.out).mono ?_; rintro e w5 ⟨rfl, f5⟩; have F5 := Lib.hid f5; clear f5)
  have F6 := Lib.hid (F5.out.alloc (.cells #[.int .i64 0, .int .i64 0, .int .i64 0, .int .i64 0, .int .i64 0, .slice none 0 0] 24))
  generalize w5.alloc (.cells #[.int .i64 0, .int .i64 0, .int .i64 0, .int .i64 0, .int .i64 0, .slice none 0 0] 24) = w6 at F6 ⊢
  go_upto_region 8 with (go_at_call 37; refine (newBucket37 0 w6).mono ?_; rintro e w7 ⟨rfl, hw7⟩; have B7 := Lib.hid (show w7.heap[w6.heap.size]? = some (bk 4) by rw [hw7]; exact heap_alloc_new w6 _); have F7 := Lib.hid (show Fr (fun _ => False) w4 w7 by rw [hw7]; exact F6.out.alloc _); have Z7 := Lib.hid (show w6.heap.size < w7.heap.size by rw [hw7]; simp); clear hw7)
  have F6z := Lib.hid F6.out.size
  obtain ⟨kb, hkb⟩ : ∃ kb, w6.heap.size = kb := ⟨_, rfl⟩
  rw [hkb] at B7 Z7 F6z ⊢
  clear hkb F6 F5
  go_upto_region 11 with (go_at_call 17; refine (newPaths17 w7).mono ?_; rintro e w8 ⟨pg, pm, rfl, t8, f8, h8a, h8b⟩; have T8 := Lib.hid t8; have F8 := Lib.hid f8; have Z8 := Lib.hid (And.intro h8a h8b); clear t8 f8 h8a h8b)
  have hne : pg ≠ pm := fun e => by
    have h1 := T8.out.blk
    obtain ⟨⟨es, ⟨es', cl, hb, _⟩, _⟩, _⟩ := T8.out.map
    rw [← e, h1] at hb
    cases hb
  have LN8 := Lib.hid (show LnAt w8 pg pm [] [] (.slice none 0 0) from ⟨T8.out, Sl.nil _ _ _ _, hne, by simp [Value.ownBlock], by simp [Value.ownBlock], fun _ h => by cases h⟩)
  have B8 := Lib.hid ((F8.out.block kb Z7.out (fun e => e)).trans B7.out)
  go_upto_region 12 with (go_at_call 38; refine (take_aw kb w8 B8.out).mono ?_; rintro e w9 ⟨rfl, b9, f9⟩; have B9 := Lib.hid b9; have F9 := Lib.hid f9; clear b9 f9)
  have hz := And.intro Z7.out Z8.out
  have LN9 := Lib.hid (LN8.out.heap (F9.out.block pg (lt_of_block T8.out.blk) (by omega)) (F9.out.block pm T8.out.map.lt (by omega)) (fun k hk => by cases hk))
  clear hz
  go_upto_region 13 with (go_at_call 19; refine (learn_aw pg pm w9 LN9.out).mono ?_; rintro e w10 ⟨rfl, lv', t10, f10⟩; have T10 := Lib.hid t10; have F10 := Lib.hid f10; clear t10 f10)
  have hz := And.intro Z7.out Z8.out
  have hz2 := And.intro F7.out.size F8.out.size
  have hz3 := And.intro Z4.out F6z.out
  have F810 : Fr (fun i => i = kb ∨ i = pg ∨ i = pm) w8 w10 := (F9.out.mono (fun i _ e => .inl e)).trans F10.out (fun i hi e => .inr e)
  have F410 : Fr (fun _ => False) w4 w10 := (F7.out.then' F8.out).trans F810 (fun i hi e => by omega)
  have B10 := Lib.hid ((F10.out.block kb (lt_of_block B9.out) (by omega)).trans B9.out)
  have M10 := Lib.hid ((F410.block mb Z4.out (fun e => e)).trans MB4.out)
  have D10 := Lib.hid (D4.out.fr0 F410)
  have FW10 := Lib.hid (F4.out.then' F410)
  have HK := Lib.hid (show w.heap.size ≤ kb ∧ kb ≠ pg ∧ kb ≠ pm by have := F4.out.size; omega)
  clear hz hz2 hz3 F810 F410 LN9 LN8 B8 B9 F9 F10 T8 F8 Z8 F7 B7 Z7 F6z MB4 D4 P4 F4 Z4 hne
  as_aux_lemma =>
    have m2 := cells_at w10 mb _ 24 M10.out 2 _ rfl
    have m3 := cells_at w10 mb _ 24 M10.out 3 _ rfl
    have m5 := cells_at w10 mb _ 24 M10.out 5 _ rfl
    have hst : (convert 22 9 (.slice A2 1 c2)).run Try.prog w10 = .ok (.string { data := #[97] }) w10 := by
      obtain ⟨A', c', e, hb⟩ := D10.out.viewN (n := 1) rfl
      cases e
      exact str_bytes (l := [97]) c2 hb
    have T1 := Lib.hid True.intro
    go_wp2_with (first
      | (go_at_call 39; refine (left39c kb 3 w10 (.inl rfl) B10.out).mono ?_; rintro e w11 ⟨rfl, b11, f11⟩; have F11 := Lib.hid f11; have T11 := Lib.hid (T10.out.heap (f11.block pg (lt_of_block T10.out.blk) (fun e => HK.out.2.1 e.symm)) (f11.block pm T10.out.map.lt (fun e => HK.out.2.2 e.symm))); clear b11 f11)
      | (have TK := T1.out; go_at_call 18; refine (find_aw1 pg pm lv' w11 T11.out).mono ?_; rintro e w12 ⟨rfl, f12⟩; have F12 := Lib.hid f12; clear T1 TK f12)
      | (go_at_call 18; refine (find_aw2 pg pm lv' w12 (T11.out.fr F12.out)).mono ?_; rintro e w13 ⟨rfl, f13⟩; have F13 := Lib.hid f13; clear f13))
    go_ret
    exact ⟨rfl, (FW10.out.trans F11.out (fun i hi e => by have := HK.out; omega)).then' (F12.out.then' F13.out)⟩
end Go.Proofs.Ytcfadmjihccimaa
