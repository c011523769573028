/- Law 8: one who is gone already is taken out: nothing turns. No condition but lengths. -/
import Derived.Test.YtfnphkijalkllaaArD
namespace Go.Proofs.Ytfnphkijalkllaa
set_option linter.unusedVariables false
set_option linter.unusedSimpArgs false
open Go.RowKit
set_option maxHeartbeats 4000000 in
set_option maxRecDepth 100000 in
theorem delete66_not (N b off n cap kb : Nat) (L : List Nat) (k : Nat) (w : World) (hS : Sl N 93 1 w (.slice (some ⟨b, off, none⟩) n cap) n (pl L)) (hn : L.length = n) (hlen : n ≤ 1000) (hr : w.cell? ⟨kb, 0, none⟩ = some (ptr k)) (hkb : kb < w.heap.size) (hkl : Liv w k) (hll : ∀ q ∈ L, Liv w q) (hk : k ∉ L) :
    Calls Try.prog 66 #[.slice (some ⟨b, off, none⟩) n cap, .func (.func 67) #[] #[.pointer (some ⟨kb, 0, none⟩)]] w fun e w' => e = .returned (.slice (some ⟨b, off, none⟩) n cap) ∧ Fr (fun _ => False) w w' := by
  have HX := Lib.hid (idxP_not (L := L) (k := k) (fun j q hj e => hk (e ▸ List.mem_of_getElem? hj)))
  have HI := Lib.hid (index77 N b off n cap kb L k w hS hn hlen hr hkb hkl hll)
  clear hS hn hr hkb hkl hll hk
  go_enter Try.func66, Try.ntmps66
  go_upto_region 2 with (go_at_call 77; refine HI.out.mono ?_; rw [HX.out]; rintro e w2 ⟨rfl, f2⟩; have F2 := Lib.hid f2; clear f2)
  go_wp2_with fail
  go_ret
  exact ⟨rfl, F2.out⟩
set_option maxHeartbeats 4000000 in
set_option maxRecDepth 100000 in
theorem drop43_not {N g b off n cap : Nat} {mac : M6} {ip : I4} {L : List En} (p : Nat) (w : World) (hC : CAt N w g mac ip L (.slice (some ⟨b, off, none⟩) n cap)) (hn : L.length = n) (hp : p ∉ L.map (·.p)) (hl : Liv w p) :
    Calls Try.prog 43 #[.pointer (some ⟨g, 0, none⟩), .pointer (some ⟨p, 0, none⟩)] w fun e w' => e = .returned (.tuple #[]) ∧ CAt N w' g mac ip L (.slice (some ⟨b, off, none⟩) n cap) ∧ Fr (fun i => i = g) w w' := by
  have FA := Lib.hid (Fr.refl (fun _ => False) w)
  have HC := Lib.hid hC
  have HN := Lib.hid hn
  have HP := Lib.hid (And.intro hp hl)
  have hl8 := hC.len
  rw [hn] at hl8
  have hck := hC.cell (j := 10) rfl
  clear hC hn hp hl
  go_enter Try.func43, Try.ntmps43
  go_upto_region 1 with (fail)
  have B1 := Lib.hid (heap_alloc_new w (.cells #[.pointer (some ⟨p, 0, none⟩)] 93))
  have F1 := Lib.hid (FA.out.alloc (.cells #[.pointer (some ⟨p, 0, none⟩)] 93))
  generalize w.alloc (.cells #[.pointer (some ⟨p, 0, none⟩)] 93) = w1 at B1 F1 ⊢
  obtain ⟨kb, hkb⟩ : ∃ k, w.heap.size = k := ⟨_, rfl⟩
  rw [hkb] at B1 ⊢
  have HC1 := Lib.hid (HC.out.fr F1.out)
  have hc1 := HC1.out.cell (j := 10) rfl
  clear hkb hck
  go_wp2_with (go_at_call 66; refine (delete66_not N b off n cap kb (L.map (·.p)) p w1 (by have h := HC1.out.sl; rw [pts_pl, HN.out] at h; exact h) (by rw [List.length_map]; exact HN.out) (by omega) (cells_at w1 kb [ptr p] 93 B1.out 0 _ rfl) (lt_of_block B1.out) (HP.out.2.fr F1.out)
    (fun q hq => by obtain ⟨e, he, rfl⟩ := List.mem_map.1 hq; exact ⟨_, _, (HC1.out.ent e he).blk⟩) HP.out.1).mono ?_; rintro e w2 ⟨rfl, hf⟩; have F2 := Lib.hid hf; clear hf; have B2 := Lib.hid ((F2.out.block g (lt_of_block HC1.out.blk) (fun e => e)).trans HC1.out.blk); have hc2 := cells_at w2 g _ 92 B2.out 10 _ rfl; have hz2 := frozen_of_row w2 g 10 _ 92 B2.out; clear hc1)
  go_end0
  have F3 : Fr (fun i => i = g) w2 (w2.setCell ⟨g, 10, none⟩ (.slice (some ⟨b, off, none⟩) n cap)) := (Fr.refl _ w2).setCell _ _ (fun _ => rfl)
  have hC2 := HC1.out.fr F2.out
  refine ⟨rfl, hC2.heap (fun i hi => ?_), (F1.out.then' F2.out).upto.trans F3 (fun _ _ h => h)⟩
  by_cases e : i = g
  · subst e
    rw [heap_setCell_same w2 i 10 _ 92 _ B2.out, B2.out]
    rfl
  · exact F3.block i (hC2.lt hi).2 e
end Go.Proofs.Ytfnphkijalkllaa
