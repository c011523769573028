/- Contracts of the reference's May, Rests, Open, Close, Tick. No condition. -/
import Derived.Test.YtcgghjjchfafiaaRestT
import Derived.Deep.RegionLaw
import Derived.Deep.AppendLies
import Derived.BigRegion
namespace Go.Proofs.Ytcgghjjchfafiaa
open Go.RowKit Go.Maps

theorem may_idx {L : List (K4 × Int)} {k : K4} : (idxF L k = -1 ∧ mayF L k = if L.length = 24 then 190 else 0) ∨ ((0 : Int) ≤ idxF L k ∧ mayF L k = 191) := by
  rcases idx_cases L k with ⟨h1, h2⟩ | ⟨i, u, h1, _, h2⟩
  · left; refine ⟨h1, ?_⟩; simp [mayF, h2]
  · right; refine ⟨by omega, ?_⟩; simp [mayF, h2]

set_option maxHeartbeats 800000 in
theorem may23 (g B : Nat) (v : Value) (L : List (K4 × Int)) (p a b c d t : Int) (w : World) (hk : K4.ok ⟨p, a, b, c, d, t⟩) (hR : RefAt w g B v L) (hlen : L.length < 1000000) :
    Calls Try.prog 23 #[.pointer (some ⟨g, 0, none⟩), .agg #[.int .i64 p, .int .u8 a, .int .u8 b, .int .u8 c, .int .u8 d, .int .i64 t]] w fun e w' => e = .returned (.int .i64 (mayF L ⟨p, a, b, c, d, t⟩)) ∧ Fr (fun _ => False) w w' := by
  have f1 := (Fr.refl (fun _ => False) w).alloc (.cells #[.int .i64 p, .int .u8 a, .int .u8 b, .int .u8 c, .int .u8 d, .int .i64 t] 33)
  have HR := Lib.hid (hR.fr0 f1)
  clear hR
  obtain ⟨A, cap, hv⟩ := HR.out.slice
  rcases may_idx (L := L) (k := ⟨p, a, b, c, d, t⟩) with ⟨h1, h2⟩ | ⟨h1, h2⟩
  · by_cases h24 : L.length = 24
    all_goals
      have H1 := Lib.hid h1
      first | rw [if_pos h24] at h2 | rw [if_neg h24] at h2
      have h24' : ((L.length : Int) == 24) = decide (L.length = 24) := by rw [Bool.eq_iff_iff, decide_eq_true_iff, beq_iff_eq]; omega
      simp only [h24] at h24'
      have H2 := Lib.hid h2
      clear h1 h2
      go_enter Try.func23, Try.ntmps23
      go_wp2_with fail
      refine (at39 g B v L p a b c d t _ hk HR.out hlen).mono ?_
      rintro e w2 ⟨rfl, f2⟩
      rw [H1.out]
      have c2 := cell_of_one (HR.out.fr0 f2).blk
      rw [hv] at c2
      go_wp2_with fail
      go_ret
      exact ⟨by rw [H2.out]; rfl, f1.none f2⟩
  · have H2 := Lib.hid h2
    clear h2
    go_enter Try.func23, Try.ntmps23
    go_wp2_with fail
    refine (at39 g B v L p a b c d t _ hk HR.out hlen).mono ?_
    rintro e w2 ⟨rfl, f2⟩
    go_wp2_with fail
    go_ret
    exact ⟨by rw [H2.out]; rfl, f1.none f2⟩

set_option maxHeartbeats 800000 in
theorem rests25 (g B : Nat) (v : Value) (L : List (K4 × Int)) (p a b c d t : Int) (w : World) (hk : K4.ok ⟨p, a, b, c, d, t⟩) (hR : RefAt w g B v L) (hlen : L.length < 1000000) :
    Calls Try.prog 25 #[.pointer (some ⟨g, 0, none⟩), .agg #[.int .i64 p, .int .u8 a, .int .u8 b, .int .u8 c, .int .u8 d, .int .i64 t]] w fun e w' => e = .returned (.bool (restsF L ⟨p, a, b, c, d, t⟩)) ∧ Fr (fun _ => False) w w' := by
  have f1 := (Fr.refl (fun _ => False) w).alloc (.cells #[.int .i64 p, .int .u8 a, .int .u8 b, .int .u8 c, .int .u8 d, .int .i64 t] 33)
  have HR := Lib.hid (hR.fr0 f1)
  clear hR
  obtain ⟨A, cap, hv⟩ := HR.out.slice
  subst hv
  rcases idx_cases L ⟨p, a, b, c, d, t⟩ with ⟨h1, h2⟩ | ⟨i, u, h1, h3, h2⟩
  · have H1 := Lib.hid h1
    have H2 := Lib.hid (show restsF L ⟨p, a, b, c, d, t⟩ = false by rw [restsF, h2])
    clear h1 h2
    go_enter Try.func25, Try.ntmps25
    go_wp2_with fail
    refine (at39 g B _ L p a b c d t _ hk HR.out hlen).mono ?_
    rintro e w2 ⟨rfl, f2⟩
    rw [H1.out]
    go_wp2_with fail
    go_ret
    exact ⟨by rw [H2.out]; rfl, f1.none f2⟩
  · have H1 := Lib.hid h1
    have H2 := Lib.hid (show restsF L ⟨p, a, b, c, d, t⟩ = !isOpen u by rw [restsF, h2])
    have H3 := Lib.hid h3
    have hil : i < L.length := (List.getElem?_eq_some_iff.1 h3).1
    obtain ⟨n, hn⟩ : ∃ n, L.length = n := ⟨_, rfl⟩
    have HN := Lib.hid hn
    rw [hn] at hil
    clear h1 h2 h3 hn
    go_enter Try.func25, Try.ntmps25
    go_wp2_with fail
    refine (at39 g B _ L p a b c d t _ hk HR.out hlen).mono ?_
    rintro e w2 ⟨rfl, f2⟩
    rw [H1.out]
    have R2 := HR.out.fr0 f2
    have c2 := cell_of_one R2.blk
    obtain ⟨r, hA, -, hc⟩ := R2.cells H3.out
    have c6 := hc 6 _ rfl
    clear hc R2
    rw [HN.out] at c2
    subst hA
    simp only [] at c6
    go_wp2_with fail
    go_ret
    exact ⟨by rw [H2.out]; rfl, f1.none f2⟩

theorem ownsRow_heap {w W : World} {B : Nat} {E : TypeId} {sz n : Nat} {v : Value} {xs : List Value} (h : w.ownsRow B E sz v n xs) (hW : ∀ i, v.ownBlock = some i → W.heap[i]? = w.heap[i]?) : W.ownsRow B E sz v n xs := by
  rcases h with ⟨h1, h2⟩
  refine ⟨h1, ?_⟩
  rcases h2 with h2 | ⟨g', cap, cur, rfl, h3, h4, h5⟩
  · exact .inl h2
  · exact .inr ⟨g', cap, cur, rfl, h3, (hW g' rfl).trans h4, h5⟩
theorem cells_new {W : World} {b : Nat} {cs : List Value} {T : TypeId} {fr : Nat × Nat} (h : W.heap[b]? = some (.cells cs.toArray T fr)) : ∀ j u, cs[j]? = some u → W.cell? ((⟨b, 0, none⟩ : Addr).add j) = some u := by
  intro j u hj
  have e : (⟨b, 0, none⟩ : Addr).add j = ⟨b, j, none⟩ := by unfold Addr.add; split <;> simp_all
  rw [e, cell_of_row W b j _ T fr h]
  simpa using hj
theorem ec_one (q : K4 × Int) : ∀ u ∈ ec q, u.oneCell' = true := by
  intro u hu
  simp [ec] at hu
  rcases hu with rfl | rfl | rfl | rfl | rfl | rfl | rfl | rfl <;> rfl
theorem info43 : (Try.prog.info? 43).map (fun i => (i.zero, i.size, i.bytes)) = some (some (.agg #[.int .i64 0, .int .u8 0, .int .u8 0, .int .u8 0, .int .u8 0, .int .i64 0, .bool false, .int .i64 0]), 8, 40) := by kernel_rfl

theorem ref_appended {w w2 W w3 : World} {g B : Nat} {v v' : Value} {L : List (K4 × Int)} {q : K4 × Int} (hR : RefAt w2 g B v L) (hf : Fr (fun _ => False) w w2) (hW : Fr (fun _ => False) w2 W) (hg : W.grownBy w3 v.ownBlock)
    (ho : w3.ownsRow B 43 8 v' (L.length + 1) (ecs L ++ ec q)) (hb : w3.heap[g]? = some (.cells #[v] 29 (0, 0))) (hq : q.1.ok) :
    RefAt (w3.setCell ⟨g, 0, none⟩ v') g B v' (L ++ [q]) ∧ Fr (fun i => i = g ∨ v.ownBlock = some i) w (w3.setCell ⟨g, 0, none⟩ v') := by
  have hne : v'.ownBlock ≠ some g := by
    intro e
    obtain ⟨cs', h1, _⟩ := ownsRow_block ho e
    rw [hb] at h1
    injection h1 with h1
    injection h1 with _ h2
    exact absurd h2 (by decide)
  refine ⟨⟨one_setCell hb, ?_, fun p hp => ?_⟩, ?_⟩
  · have h1 := ownsRow_setCell_other ho (a := ⟨g, 0, none⟩) hne v'
    rw [List.length_append, List.length_singleton]
    unfold ecs at *
    rw [List.flatMap_append, List.flatMap_singleton]
    exact h1
  · rcases List.mem_append.1 hp with hp | hp
    · exact hR.ok p hp
    · simp at hp; rw [hp]; exact hq
  · have h1 := (hf.none hW).mono (S' := fun i => i = g ∨ v.ownBlock = some i) (fun _ _ e => e.elim)
    exact (h1.grown hg (fun r e _ => .inr e)).setCell _ _ (fun _ => .inl rfl)

set_option maxHeartbeats 1600000 in
theorem open17 (g B : Nat) (v : Value) (L : List (K4 × Int)) (p a b c d t : Int) (w : World) (hk : K4.ok ⟨p, a, b, c, d, t⟩) (hR : RefAt w g B v L) (hlen : L.length < 1000000) (hB : B ≤ w.heap.size) :
    Calls Try.prog 17 #[.pointer (some ⟨g, 0, none⟩), .agg #[.int .i64 p, .int .u8 a, .int .u8 b, .int .u8 c, .int .u8 d, .int .i64 t]] w fun e w' => e = .returned (.int .i64 (mayF L ⟨p, a, b, c, d, t⟩)) ∧
      ∃ v', RefAt w' g B v' (openL L ⟨p, a, b, c, d, t⟩) ∧ Fr (fun i => i = g ∨ v.ownBlock = some i) w w' := by
  have f1 := (Fr.refl (fun _ => False) w).alloc (.cells #[.int .i64 p, .int .u8 a, .int .u8 b, .int .u8 c, .int .u8 d, .int .i64 t] 33)
  have HR := Lib.hid (hR.fr0 f1)
  have K1 := heap_alloc_new w (.cells #[.int .i64 p, .int .u8 a, .int .u8 b, .int .u8 c, .int .u8 d, .int .i64 t] 33)
  have hgk : w.heap.size ≠ g := by have := lt_of_block hR.blk; omega
  obtain ⟨Bk, hBk⟩ : ∃ b, w.heap.size = b := ⟨_, rfl⟩
  rw [hBk] at K1 hgk
  have HBk := Lib.hid hBk
  have HK1 := Lib.hid K1
  clear hR K1 hBk
  by_cases hm : mayF L ⟨p, a, b, c, d, t⟩ = 0
  · have Hm := Lib.hid hm
    clear hm
    obtain ⟨i0, hi, hz0, hz1, hz2⟩ := info_parts info43
    go_enter Try.func17, Try.ntmps17
    go_wp2_with fail
    rw [HBk.out]
    refine (may23 g B v L p a b c d t _ hk HR.out hlen).mono ?_
    rintro e w2 ⟨rfl, f2⟩
    rw [Hm.out]
    have R2 := HR.out.fr0 f2
    have c2 := cell_of_one R2.blk
    have fg := free_of_one R2.blk
    obtain ⟨k0, k1, k2, k3, k4, k5⟩ := six ((f2.block Bk (lt_of_block HK1.out) (fun e => e)).trans HK1.out)
    have f3 := f1.none f2
    have HR2 := Lib.hid R2
    have Hf3 := Lib.hid f3
    clear R2 f1 f2 f3
    go_wp2_with fail
    have hrow : ∀ W : World, (∀ i, i < w2.heap.size → W.heap[i]? = w2.heap[i]?) → W.ownsRow B 43 8 v L.length (ecs L) := fun W hW => ownsRow_heap HR2.out.row (fun i hi => hW i (lt_of_block (ownsRow_block HR2.out.row hi).choose_spec.1))
    have Hrow := Lib.hid hrow
    have hB2 : B ≤ w2.heap.size := by have := Hf3.out.size; omega
    have hgv := HR2.out.ne_cells HR2.out.blk (by decide)
    have hgl := lt_of_block HR2.out.blk
    have Hgb := Lib.hid HR2.out.blk
    have Hgv := Lib.hid hgv
    clear hrow hgv
    go_region_law (refine step_append_lies _ rfl (.tmp 15) (.tmp 18) 27 (by exact rfl) B 43 i0 _ 8 40 Try.underlying27 hi hz0 hz1 hz2 rfl (by decide) v L.length (ecs L) (by exact rfl) (by exact Hrow.out _ (fun i hi => Below.heap_alloc w2 _ i hi)) ⟨w2.heap.size, 0, none⟩ 1 1 (ec (⟨p, a, b, c, d, t⟩, -4611686018427387904)) (by exact rfl) (by exact rfl) (by exact cells_new (heap_alloc_new w2 _)) (by exact ec_one _) (by decide) (by unfold maxLen; omega) (by omega) (by first | (simp; omega) | simp) _ (by exact rfl) ?_; intro r cap w3 ho3 hg3 hr3 hl3; have hb3 : w3.heap[g]? = some (.cells #[v] 29 (0, 0)) := (hg3.block g (by first | (simp; omega) | simp) (fun e => Hgv.out e.symm)).trans ((Below.heap_alloc w2 _ g hgl).trans Hgb.out); have c3 := cell_of_one hb3; have fr3 := free_of_one hb3; have Hb3 := Lib.hid hb3; have Ho3 := Lib.hid ho3; have Hg3 := Lib.hid hg3; clear hb3 ho3 hg3)
    all_goals
      have fin := ref_appended (q := (⟨p, a, b, c, d, t⟩, -4611686018427387904)) HR2.out Hf3.out (by repeat (first | exact Fr.refl _ _ | apply Fr.drew | apply Fr.alloc)) Hg3.out Ho3.out Hb3.out hk
      have Fin := Lib.hid fin
      clear fin
      go_wp2_with fail
      go_ret
      exact ⟨by rw [Hm.out]; rfl, _, by rw [openL_new Hm.out]; exact Fin.out.1, Fin.out.2⟩
  · have hm1 : (mayF L ⟨p, a, b, c, d, t⟩ == 0) = false := by simpa using hm
    have Hm := Lib.hid hm
    obtain ⟨x, hx⟩ : ∃ x, mayF L ⟨p, a, b, c, d, t⟩ = x := ⟨_, rfl⟩
    rw [hx] at hm1
    have Hx := Lib.hid hx
    clear hm hx
    go_enter Try.func17, Try.ntmps17
    go_wp2_with fail
    rw [HBk.out]
    refine (may23 g B v L p a b c d t _ hk HR.out hlen).mono ?_
    rintro e w2 ⟨rfl, f2⟩
    rw [Hx.out]
    go_wp2_with fail
    go_ret
    exact ⟨by rw [Hx.out]; rfl, v, by rw [openL_full Hm.out]; exact HR.out.fr0 f2, (f1.none f2).mono (fun _ _ e => e.elim)⟩
end Go.Proofs.Ytcgghjjchfafiaa
