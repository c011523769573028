/- Law 8: a neighbour is taken out. No condition but lengths. -/
import Derived.Test.YtfnphkijalkllaaArC
namespace Go.Proofs.Ytfnphkijalkllaa
set_option linter.unusedVariables false
set_option linter.unusedSimpArgs false
open Go.RowKit
theorem pts_pl (L : List En) : pts L = pl (L.map (·.p)) := by unfold pts pl; rw [List.map_map]; rfl
theorem pairwise_nodup {L : List En} (h : L.Pairwise fun a b => a.p ≠ b.p) : (L.map (·.p)).Nodup := by
  rw [List.Nodup, List.pairwise_map]; exact h
def dropAt (L : List En) (i : Nat) : List En := L.take i ++ L.drop (i + 1)
theorem dropAt_sub (L : List En) (i : Nat) : (dropAt L i).Sublist L := by
  unfold dropAt; rw [← List.eraseIdx_eq_take_drop_succ]; exact List.eraseIdx_sublist _ _
theorem dropAt_len {L : List En} {i : Nat} (h : i < L.length) : (dropAt L i).length = L.length - 1 := by
  unfold dropAt; rw [List.length_append, List.length_take, List.length_drop]; omega
set_option maxHeartbeats 4000000 in
set_option maxRecDepth 100000 in
theorem drop43 {N g i0 : Nat} {mac : M6} {ip : I4} {L : List En} {lv : Value} {e0 : En} (w : World) (hC : CAt N w g mac ip L lv) (hi : L[i0]? = some e0) :
    Calls Try.prog 43 #[.pointer (some ⟨g, 0, none⟩), .pointer (some ⟨e0.p, 0, none⟩)] w fun e w' => e = .returned (.tuple #[]) ∧ ∃ lv', CAt N w' g mac ip (dropAt L i0) lv' ∧ lv'.ownBlock = lv.ownBlock ∧ Fr (fun i => i = g ∨ lv.ownBlock = some i) w w' := by
  have FA := Lib.hid (Fr.refl (fun _ => False) w)
  have HC := Lib.hid hC
  have hi0 : i0 < L.length := (List.getElem?_eq_some_iff.1 hi).1
  have hl8 := hC.len
  obtain ⟨n, hn⟩ : ∃ n, L.length = n := ⟨_, rfl⟩
  have HNL := Lib.hid hn
  rw [hn] at hi0 hl8
  obtain ⟨b, off, cap, hlv, hNb, hbl, hnc, hcm, _, _⟩ := hC.sl.form1 (by omega)
  rw [hn] at hlv
  subst hlv
  have HI := Lib.hid hi
  have HBL := Lib.hid hbl
  have hck := hC.cell (j := 10) rfl
  have hcz := frozen_of_row w g 10 _ 92 hC.blk
  clear hC hi hn hnc hcm hNb hbl
  go_enter Try.func43, Try.ntmps43
  go_upto_region 1 with (fail)
  have B1 := Lib.hid (heap_alloc_new w (.cells #[.pointer (some ⟨e0.p, 0, none⟩)] 93))
  have F1 := Lib.hid (FA.out.alloc (.cells #[.pointer (some ⟨e0.p, 0, none⟩)] 93))
  generalize w.alloc (.cells #[.pointer (some ⟨e0.p, 0, none⟩)] 93) = w1 at B1 F1 ⊢
  obtain ⟨kb, hkb⟩ : ∃ k, w.heap.size = k := ⟨_, rfl⟩
  have HKB := Lib.hid (show kb ≠ b from by have := HBL.out; omega)
  rw [hkb] at B1 ⊢
  have HC1 := Lib.hid (HC.out.fr F1.out)
  have hc1 := HC1.out.cell (j := 10) rfl
  clear hkb hck hcz
  go_wp2_with (go_at_call 66; refine (delete66 N b off n cap kb i0 (L.map (·.p)) e0.p w1 (by have h := HC1.out.sl; rw [pts_pl, HNL.out] at h; exact h) (by rw [List.length_map]; exact HNL.out) (by omega) (cells_at w1 kb [ptr e0.p] 93 B1.out 0 _ rfl) (lt_of_block B1.out) HKB.out
    (fun q hq => by
      obtain ⟨e, he, rfl⟩ := List.mem_map.1 hq
      refine ⟨⟨_, _, (HC1.out.ent e he).blk⟩, fun e1 => ?_⟩
      obtain ⟨c, h'⟩ := HC1.out.sl.tag (k := b) rfl
      rw [← e1, (HC1.out.ent e he).blk] at h'
      exact absurd (tag_ne h') (by decide))
    (pairwise_nodup HC1.out.pnd) (by rw [List.getElem?_map, HI.out]; rfl)).mono ?_; rintro e w2 ⟨rfl, hs, hf⟩; have S2 := Lib.hid hs; have F2 := Lib.hid hf; clear hs hf; have B2 := Lib.hid ((F2.out.block g (lt_of_block HC1.out.blk) (fun e => by
      obtain ⟨c, h'⟩ := HC1.out.sl.tag (k := b) rfl
      rw [← e, HC1.out.blk] at h'
      exact absurd (tag_ne h') (by decide))).trans HC1.out.blk); have hc2 := cells_at w2 g _ 92 B2.out 10 _ rfl; have hz2 := frozen_of_row w2 g 10 _ 92 B2.out; clear hc1)
  go_end0
  have hl2 : (dropAt L i0).length = n - 1 := by rw [dropAt_len (by rw [HNL.out]; exact hi0), HNL.out]
  have hsub := dropAt_sub L i0
  have hck : ∀ i, (i = b ∨ i = g) ∨ ¬ (i = b ∨ i = g) := fun i => Classical.em _
  have hen : ∀ e ∈ L, e.p ≠ b ∧ e.p ≠ g ∧ ∀ k, e.pv.ownBlock = some k → k ≠ b ∧ k ≠ g := fun e he => by
    obtain ⟨c, h'⟩ := HC1.out.sl.tag (k := b) rfl
    refine ⟨fun e1 => ?_, fun e1 => ?_, fun k hk => ⟨fun e1 => ?_, fun e1 => ?_⟩⟩
    · rw [← e1, (HC1.out.ent e he).blk] at h'; exact absurd (tag_ne h') (by decide)
    · have := HC1.out.blk; rw [← e1, (HC1.out.ent e he).blk] at this; exact absurd (tag_ne this) (by decide)
    · obtain ⟨c2, h2⟩ := (HC1.out.ent e he).sl.tag hk
      rw [← e1, h2] at h'; exact absurd (tag_ne h') (by decide)
    · obtain ⟨c2, h2⟩ := (HC1.out.ent e he).sl.tag hk
      have := HC1.out.blk; rw [← e1, h2] at this; exact absurd (tag_ne this) (by decide)
  have hgb : g ≠ b := fun e1 => by
    obtain ⟨c, h'⟩ := HC1.out.sl.tag (k := b) rfl
    rw [← e1, HC1.out.blk] at h'; exact absurd (tag_ne h') (by decide)
  have F12 : Fr (fun i => i = b ∨ i = g) w1 (w2.setCell ⟨g, 10, none⟩ (.slice (some ⟨b, off, none⟩) (n - 1) cap)) := (F2.out.mono (fun i _ e => Or.inl e)).setCell _ _ (fun _ => .inr rfl)
  refine ⟨rfl, .slice (some ⟨b, off, none⟩) (n - 1) cap, ⟨?_, ?_, fun e he => ?_, HC1.out.pnd.sublist hsub, HC1.out.vnd.sublist hsub, HC1.out.ipn.sublist hsub, HC1.out.hg, by omega, HC1.out.mok, HC1.out.iok⟩, rfl, ?_⟩
  · rw [heap_setCell_same w2 g 10 _ 92 _ B2.out]; rfl
  · have h := S2.out
    rw [hl2, pts_pl, show (dropAt L i0).map (·.p) = (L.map (·.p)).take i0 ++ (L.map (·.p)).drop (i0 + 1) from by unfold dropAt; rw [List.map_append, List.map_take, List.map_drop]]
    exact h.heap (fun k hk => by cases hk; exact Below.heap_setCell w2 ⟨g, 10, none⟩ (.slice (some ⟨b, off, none⟩) (n - 1) cap) b (fun e => hgb e.symm))
  · have he' := hsub.mem he
    obtain ⟨h1, h2, h3⟩ := hen e he'
    exact (HC1.out.ent e he').heap (F12.block _ (lt_of_block (HC1.out.ent e he').blk) (fun h => h.elim h1 h2)) (fun k hk => F12.block k ((HC1.out.ent e he').sl.lt k hk).2 (fun h => h.elim (h3 k hk).1 (h3 k hk).2))
  · exact Fr.trans (F1.out.upto (S := fun i => i = g ∨ (Value.slice (some ⟨b, off, none⟩) n cap).ownBlock = some i)) (F12.mono (fun i _ e => e.elim (fun e => Or.inr (by rw [e]; rfl)) .inl) : Fr (fun i => i = g ∨ (Value.slice (some ⟨b, off, none⟩) n cap).ownBlock = some i) w1 _) (fun i hi e => e)
end Go.Proofs.Ytfnphkijalkllaa
