/- Contracts of the reference's Close and Tick. No condition. -/
import Derived.Test.YtcgghjjchfafiaaRestU
namespace Go.Proofs.Ytcgghjjchfafiaa
open Go.RowKit Go.Maps

/-- What the reference's Close leaves. -/
def setL (L : List (K4 × Int)) (k : K4) (now : Int) : List (K4 × Int) := if closeF L k = 0 then L.map (fun p => if p.1 = k then (k, now + 8) else p) else L

theorem ecs_set : ∀ (L : List (K4 × Int)) (i : Nat) (q : K4 × Int), i < L.length →
    ((((((((ecs L).set (i * 8) (.int .i64 q.1.p)).set (i * 8 + 1) (.int .u8 q.1.a)).set (i * 8 + 2) (.int .u8 q.1.b)).set (i * 8 + 3) (.int .u8 q.1.c)).set (i * 8 + 4) (.int .u8 q.1.d)).set (i * 8 + 5) (.int .i64 q.1.t)).set (i * 8 + 6) (.bool (isOpen q.2))).set (i * 8 + 7) (.int .i64 (if isOpen q.2 then 0 else q.2)) = ecs (L.set i q)
  | [], i, q, h => by simp at h
  | p :: L, 0, q, _ => by simp [ecs, ec]
  | p :: L, i + 1, q, h => by
    have ih := ecs_set L i q (by simpa using h)
    have e : ecs (p :: L) = .int .i64 p.1.p :: .int .u8 p.1.a :: .int .u8 p.1.b :: .int .u8 p.1.c :: .int .u8 p.1.d :: .int .i64 p.1.t :: .bool (isOpen p.2) :: .int .i64 (if isOpen p.2 then 0 else p.2) :: ecs L := rfl
    have e' : ecs ((p :: L).set (i + 1) q) = .int .i64 p.1.p :: .int .u8 p.1.a :: .int .u8 p.1.b :: .int .u8 p.1.c :: .int .u8 p.1.d :: .int .i64 p.1.t :: .bool (isOpen p.2) :: .int .i64 (if isOpen p.2 then 0 else p.2) :: ecs (L.set i q) := rfl
    rw [e, e', ← ih, show (i + 1) * 8 = i * 8 + 8 by omega]
    rw [show i * 8 + 8 + 1 = i * 8 + 1 + 8 by omega, show i * 8 + 8 + 2 = i * 8 + 2 + 8 by omega, show i * 8 + 8 + 3 = i * 8 + 3 + 8 by omega, show i * 8 + 8 + 4 = i * 8 + 4 + 8 by omega, show i * 8 + 8 + 5 = i * 8 + 5 + 8 by omega, show i * 8 + 8 + 6 = i * 8 + 6 + 8 by omega, show i * 8 + 8 + 7 = i * 8 + 7 + 8 by omega]
    rfl
theorem set_map {L : List (K4 × Int)} (hn : (L.map (·.1)).Nodup) {i : Nat} {k : K4} {u v : Int} (hi : L[i]? = some (k, u)) : L.set i (k, v) = L.map fun p => if p.1 = k then (k, v) else p := by
  obtain ⟨hlt, e⟩ := List.getElem?_eq_some_iff.1 hi
  apply List.ext_getElem
  · simp
  · intro j h1 h2
    rw [List.getElem_set, List.getElem_map]
    by_cases hij : i = j
    · subst hij; rw [if_pos rfl, e]; simp
    · rw [if_neg hij, if_neg]
      intro hk
      have hj : j < L.length := by simpa using h2
      have hpw := List.nodup_iff_pairwise_ne.1 hn
      have := (List.getElem_inj (xs := L.map (·.1)) (i := i) (j := j) (h₀ := by simpa using hlt) (h₁ := by simpa using hj) hn).1 (by simp [e, hk])
      exact hij this
theorem ref_set {w w2 : World} {g B r cap i : Nat} {L : List (K4 × Int)} {p a b c d t u u' : Int} (hR : RefAt w2 g B (.slice (some ⟨r, 0, none⟩) L.length cap) L) (hn : (L.map (·.1)).Nodup) (hi : L[i]? = some (⟨p, a, b, c, d, t⟩, u)) (hk : K4.ok ⟨p, a, b, c, d, t⟩)
    (hu : isOpen u' = false) (hf : Fr (fun _ => False) w w2) :
    RefAt ((((((((w2.setCell ⟨r, i * 8, none⟩ (.int .i64 p)).setCell ⟨r, i * 8 + 1, none⟩ (.int .u8 a)).setCell ⟨r, i * 8 + 2, none⟩ (.int .u8 b)).setCell ⟨r, i * 8 + 3, none⟩ (.int .u8 c)).setCell ⟨r, i * 8 + 4, none⟩ (.int .u8 d)).setCell ⟨r, i * 8 + 5, none⟩ (.int .i64 t)).setCell ⟨r, i * 8 + 6, none⟩ (.bool false)).setCell ⟨r, i * 8 + 7, none⟩ (.int .i64 u')).drew g B (.slice (some ⟨r, 0, none⟩) L.length cap)
      (L.map fun p' => if p'.1 = ⟨p, a, b, c, d, t⟩ then (⟨p, a, b, c, d, t⟩, u') else p') ∧
    Fr (fun j => j = g ∨ (Value.slice (some ⟨r, 0, none⟩) L.length cap).ownBlock = some j) w ((((((((w2.setCell ⟨r, i * 8, none⟩ (.int .i64 p)).setCell ⟨r, i * 8 + 1, none⟩ (.int .u8 a)).setCell ⟨r, i * 8 + 2, none⟩ (.int .u8 b)).setCell ⟨r, i * 8 + 3, none⟩ (.int .u8 c)).setCell ⟨r, i * 8 + 4, none⟩ (.int .u8 d)).setCell ⟨r, i * 8 + 5, none⟩ (.int .i64 t)).setCell ⟨r, i * 8 + 6, none⟩ (.bool false)).setCell ⟨r, i * 8 + 7, none⟩ (.int .i64 u')).drew := by
  have hlt := (List.getElem?_eq_some_iff.1 hi).1
  have hrg : g ≠ r := by
    intro e
    subst e
    exact hR.ne_cells hR.blk (by decide) rfl
  have hg : ∀ (W : World) (j : Nat) (x : Value), W.heap[g]? = some (.cells #[.slice (some ⟨r, 0, none⟩) L.length cap] 29 (0, 0)) → (W.setCell ⟨r, j, none⟩ x).heap[g]? = some (.cells #[.slice (some ⟨r, 0, none⟩) L.length cap] 29 (0, 0)) :=
    fun W j x h => (Below.heap_setCell W _ x g hrg).trans h
  have hrow := (((((((((hR.row.stored (i * 8) (.int .i64 p)).1.stored (i * 8 + 1) (.int .u8 a)).1.stored (i * 8 + 2) (.int .u8 b)).1.stored (i * 8 + 3) (.int .u8 c)).1.stored (i * 8 + 4) (.int .u8 d)).1.stored (i * 8 + 5) (.int .i64 t)).1.stored (i * 8 + 6) (.bool false)).1.stored (i * 8 + 7) (.int .i64 u')).1)
  have he := ecs_set L i (⟨p, a, b, c, d, t⟩, u') hlt
  simp only [hu, Bool.false_eq_true, if_false] at he
  refine ⟨⟨?_, ?_, fun q hq => ?_⟩, ?_⟩
  · rw [heap_drew]
    repeat (with_reducible refine hg _ _ _ ?_)
    exact hR.blk
  · rw [← set_map hn hi, List.length_set, ← he]
    exact World.ownsRow.drew hrow
  · obtain ⟨q', hq', rfl⟩ := List.mem_map.1 hq
    split
    · exact hk
    · exact hR.ok q' hq'
  · have h1 := hf.mono (S' := fun j => j = g ∨ (Value.slice (some ⟨r, 0, none⟩) L.length cap).ownBlock = some j) (fun _ _ e => e.elim)
    have hs : ∀ (W : World) (j : Nat) (x : Value), Fr (fun j => j = g ∨ (Value.slice (some ⟨r, 0, none⟩) L.length cap).ownBlock = some j) w W → Fr (fun j => j = g ∨ (Value.slice (some ⟨r, 0, none⟩) L.length cap).ownBlock = some j) w (W.setCell ⟨r, j, none⟩ x) :=
      fun W j x h => h.setCell _ _ (fun _ => .inr rfl)
    refine Fr.drew ?_
    repeat (with_reducible refine hs _ _ _ ?_)
    exact h1

set_option maxHeartbeats 1600000 in
theorem close19 (g B : Nat) (v : Value) (L : List (K4 × Int)) (p a b c d t now : Int) (w : World) (hk : K4.ok ⟨p, a, b, c, d, t⟩) (hR : RefAt w g B v L) (hN : (L.map (·.1)).Nodup) (hlen : L.length < 1000000) (h0 : -1000000000000000 ≤ now) (h1 : now ≤ 1000000000000000) :
    Calls Try.prog 19 #[.pointer (some ⟨g, 0, none⟩), .agg #[.int .i64 p, .int .u8 a, .int .u8 b, .int .u8 c, .int .u8 d, .int .i64 t], .int .i64 now] w fun e w' => e = .returned (.int .i64 (closeF L ⟨p, a, b, c, d, t⟩)) ∧
      RefAt w' g B v (setL L ⟨p, a, b, c, d, t⟩ now) ∧ Fr (fun i => i = g ∨ v.ownBlock = some i) w w' := by
  have f1 := (Fr.refl (fun _ => False) w).alloc (.cells #[.int .i64 p, .int .u8 a, .int .u8 b, .int .u8 c, .int .u8 d, .int .i64 t] 33)
  have HR := Lib.hid (hR.fr0 f1)
  have K1 := heap_alloc_new w (.cells #[.int .i64 p, .int .u8 a, .int .u8 b, .int .u8 c, .int .u8 d, .int .i64 t] 33)
  have hgk : w.heap.size ≠ g := by have := lt_of_block hR.blk; omega
  obtain ⟨Bk, hBk⟩ : ∃ b, w.heap.size = b := ⟨_, rfl⟩
  rw [hBk] at K1 hgk
  have HBk := Lib.hid hBk
  have HK1 := Lib.hid K1
  obtain ⟨A, cap, hv⟩ := HR.out.slice
  subst hv
  clear hR K1 hBk
  rcases idx_cases L ⟨p, a, b, c, d, t⟩ with ⟨h1, h2⟩ | ⟨i, u, h1, h3, h2⟩
  · have H1 := Lib.hid h1
    have hc : closeF L ⟨p, a, b, c, d, t⟩ = 7 := by rw [closeF, h2]
    have H2 := Lib.hid hc
    clear h1 h2 hc
    go_enter Try.func19, Try.ntmps19
    go_wp2_with fail
    refine (at39 g B _ L p a b c d t _ hk HR.out hlen).mono ?_
    rintro e w2 ⟨rfl, f2⟩
    rw [H1.out]
    go_wp2_with fail
    go_ret
    exact ⟨by rw [H2.out]; rfl, by rw [setL, if_neg (by rw [H2.out]; decide)]; exact HR.out.fr0 f2, (f1.none f2).mono (fun _ _ e => e.elim)⟩
  · have H1 := Lib.hid h1
    have H3 := Lib.hid h3
    have hil : i < L.length := (List.getElem?_eq_some_iff.1 h3).1
    obtain ⟨n, hn⟩ : ∃ n, L.length = n := ⟨_, rfl⟩
    have HN := Lib.hid hn
    rw [hn] at hil
    have hcu : closeF L ⟨p, a, b, c, d, t⟩ = if isOpen u then 0 else 7 := by rw [closeF, h2]
    have HNd := Lib.hid hN
    clear h1 h2 h3 hn hN
    cases hu : isOpen u
    · rw [hu, if_neg (by decide)] at hcu
      have H2 := Lib.hid hcu
      have Hu := Lib.hid hu
      clear hu hcu
      go_enter Try.func19, Try.ntmps19
      go_wp2_with fail
      refine (at39 g B _ L p a b c d t _ hk HR.out hlen).mono ?_
      rintro e w2 ⟨rfl, f2⟩
      rw [H1.out]
      have R2 := HR.out.fr0 f2
      have c2 := cell_of_one R2.blk
      obtain ⟨r, hA, -, hc⟩ := R2.cells H3.out
      have c6 := hc 6 _ rfl
      clear hc R2
      rw [HN.out] at c2
      subst hA
      simp only [Hu.out] at c6
      go_wp2_with fail
      go_ret
      exact ⟨by rw [H2.out]; rfl, by rw [setL, if_neg (by rw [H2.out]; decide)]; exact HR.out.fr0 f2, (f1.none f2).mono (fun _ _ e => e.elim)⟩
    · rw [hu, if_pos rfl] at hcu
      have H2 := Lib.hid hcu
      have Hu := Lib.hid hu
      clear hu hcu
      go_enter Try.func19, Try.ntmps19
      go_wp2_with fail
      rw [HBk.out]
      refine (at39 g B _ L p a b c d t _ hk HR.out hlen).mono ?_
      rintro e w2 ⟨rfl, f2⟩
      rw [H1.out]
      have R2 := HR.out.fr0 f2
      have c2 := cell_of_one R2.blk
      obtain ⟨k0, k1, k2, k3, k4, k5⟩ := six ((f2.block Bk (lt_of_block HK1.out) (fun e => e)).trans HK1.out)
      obtain ⟨r, hA, hr, hc⟩ := R2.cells H3.out
      obtain ⟨cs, hrb, -⟩ := ownsRow_block R2.row hr
      have g6 := fun j => frozen_of_row w2 r j cs 43 hrb
      have c0 := hc 0 _ rfl
      have c1 := hc 1 _ rfl
      have d2 := hc 2 _ rfl
      have d3 := hc 3 _ rfl
      have d4 := hc 4 _ rfl
      have d5 := hc 5 _ rfl
      have c6 := hc 6 _ rfl
      have c7 := hc 7 _ rfl
      have HR2 := Lib.hid R2
      clear hc R2
      rw [HN.out] at c2
      subst hA
      simp only [Hu.out] at c6 c7
      simp only [Nat.add_zero] at c0
      go_wp2_with fail
      go_still_tail 10, (by kernel_rfl)
      go_wp2_with fail
      have hq : L[i]? = some (⟨p, a, b, c, d, t⟩, u) := H3.out
      have fin := ref_set HR2.out HNd.out hq hk (show isOpen (now + 8) = false by unfold isOpen; simp; omega) (f1.none f2)
      have Fin := Lib.hid fin
      clear fin
      go_ret
      exact ⟨by rw [H2.out]; rfl, by rw [setL, if_pos H2.out]; exact Fin.out.1, Fin.out.2⟩

theorem ownsRow_base {w : World} {B B' : Nat} {E : TypeId} {sz n : Nat} {v : Value} {xs : List Value} (h : w.ownsRow B E sz v n xs) (hB : B' ≤ B) : w.ownsRow B' E sz v n xs := by
  rcases h with ⟨h1, h2⟩
  refine ⟨h1, ?_⟩
  rcases h2 with h2 | ⟨g', cap, cur, rfl, h3, h4, h5⟩
  · exact .inl h2
  · exact .inr ⟨g', cap, cur, rfl, by omega, h4, h5⟩
theorem tick_take (L : List (K4 × Int)) (now : Int) (i : Nat) (q : K4 × Int) (h : L[i]? = some q) : tickL (L.take (i + 1)) now = tickL (L.take i) now ++ if stays now q.2 then [q] else [] := by
  unfold tickL
  obtain ⟨hlt, e⟩ := List.getElem?_eq_some_iff.1 h
  rw [List.take_succ_eq_append_getElem hlt, List.filter_append, e, List.filter_cons]
  split <;> simp

theorem tick_fin {w wr : World} {g B : Nat} {v v4 : Value} {L L' : List (K4 × Int)} (hR : RefAt wr g B v L) (hf : Fr (fun _ => False) w wr) (ho : wr.ownsRow w.heap.size 43 8 v4 L'.length (ecs L')) (hgl : g < w.heap.size) (hB : B ≤ w.heap.size) (hok : ∀ p ∈ L', p.1.ok) :
    RefAt (wr.setCell ⟨g, 0, none⟩ v4) g B v4 L' ∧ Fr (fun i => i = g) w (wr.setCell ⟨g, 0, none⟩ v4) := by
  have hne : v4.ownBlock ≠ some g := by
    intro e
    have := (ownsRow_block ho e).choose_spec.2
    omega
  exact ⟨⟨one_setCell hR.blk, ownsRow_base (ownsRow_setCell_other ho (a := ⟨g, 0, none⟩) hne v4) hB, hok⟩, (hf.mono (fun _ _ e => e.elim)).setCell _ _ (fun _ => rfl)⟩

set_option maxHeartbeats 1600000 in
theorem tick21 (g B : Nat) (v : Value) (L : List (K4 × Int)) (now : Int) (w : World) (hR : RefAt w g B v L) (hlen : L.length < 1000000) (hB : B ≤ w.heap.size) :
    Calls Try.prog 21 #[.pointer (some ⟨g, 0, none⟩), .int .i64 now] w fun e w' => e = .returned (.tuple #[]) ∧ ∃ v', RefAt w' g B v' (tickL L now) ∧ Fr (fun i => i = g) w w' := by
  obtain ⟨A, cap, rfl⟩ := hR.slice
  obtain ⟨n, hn⟩ : ∃ n, L.length = n := ⟨_, rfl⟩
  have HN := Lib.hid hn
  have HR := Lib.hid hR
  have hgl := lt_of_block hR.blk
  rw [hn] at hlen
  clear hn hR
  obtain ⟨i0, hi, hz0, hz1, hz2⟩ := info_parts info43
  go_enter Try.func21, Try.ntmps21
  go_wp2_with fail
  go_loopw [4, 5] (fun v4 v5 wr => ∃ i : Nat, v5 = .int .i64 i ∧ i ≤ n ∧ wr.ownsRow w.heap.size 43 8 v4 (tickL (L.take i) now).length (ecs (tickL (L.take i) now)) ∧ Fr (fun _ => False) w wr) (fun _ v _ => n - (intOf v).toNat)
  case atStart => exact ⟨0, rfl, Nat.zero_le _, World.ownsRow_nil _ _ _ _, Fr.refl _ _⟩
  case round =>
    obtain ⟨i, rfl, hin, ho, hf⟩ := hrel
    have R := HR.out.fr0 hf
    have cg := cell_of_one R.blk
    have fg := free_of_one R.blk
    rw [HN.out] at cg
    have HR2 := Lib.hid R
    have Ho := Lib.hid ho
    have Hf := Lib.hid hf
    clear R ho hf
    by_cases hlt : i < n
    · obtain ⟨q, hq⟩ : ∃ q, L[i]? = some q := ⟨_, List.getElem?_eq_getElem (by rw [HN.out]; exact hlt)⟩
      obtain ⟨r, hA, -, hc⟩ := HR2.out.cells hq
      have c6 := hc 6 _ rfl
      have c7 := hc 7 _ rfl
      have c0 := hc 0 _ rfl
      have c1 := hc 1 _ rfl
      have d2 := hc 2 _ rfl
      have d3 := hc 3 _ rfl
      have d4 := hc 4 _ rfl
      have d5 := hc 5 _ rfl
      have ht := tick_take L now i q hq
      clear hc
      subst hA
      obtain ⟨⟨qp, qa, qb, qc, qd, qt⟩, qu⟩ := q
      simp only [Nat.add_zero] at c0 c1 d2 d3 d4 d5 c6 c7
      have Hq := Lib.hid hq
      have Ht := Lib.hid ht
      clear hq ht
      have hml : (tickL (L.take i) now).length ≤ i := Nat.le_trans (List.length_filter_le _ _) (by simp; omega)
      have hs : isOpen qu = true ∧ stays now qu = true ∨ isOpen qu = false ∧ now < qu ∧ stays now qu = true ∨ isOpen qu = false ∧ qu ≤ now ∧ stays now qu = false := by
        unfold stays
        cases isOpen qu
        · by_cases h : now < qu
          · simp [h]
          · simp [h]; omega
        · simp
      rcases hs with ⟨hop, hst⟩ | ⟨hop, hlt2, hst⟩ | ⟨hop, hlt2, hst⟩
      · simp only [hop] at c6 c7
        have Hop := Lib.hid hop
        have Hst := Lib.hid hst
        clear hop hst
        go_wp2_with (first | (at_builtin; refine wpList_append_own _ rfl (.tmp 35) (.tmp 43) 27 rfl w.heap.size 43 i0 _ 8 40 Try.underlying27 hi hz0 hz1 hz2 rfl (by decide) _ _ _ rfl (Ho.out.alloc _) ⟨wr.heap.size, 0, none⟩ 1 1 (ec (⟨qp, qa, qb, qc, qd, qt⟩, qu)) rfl rfl (by exact cells_new (by simp only [ec, Hop.out]; exact heap_alloc_new wr _)) (ec_one _) (by unfold maxLen; omega) (by omega) (by have := Hf.out.size; simp; omega) ?_; intro v' w3 ho3 hg3 _))
        go_roundw
        case rel =>
          refine ⟨i + 1, by go_num, by omega, ?_, Hf.out.trans (Fr.grown (S := fun i => w.heap.size ≤ i) ((Fr.refl _ wr).alloc _) hg3 (fun r hr _ => (ownsRow_block Ho.out hr).choose_spec.2)) (fun j hj e => absurd e (by omega))⟩
          rw [Ht.out, Hst.out, if_pos rfl, List.length_append]
          unfold ecs at *
          rw [List.flatMap_append, List.flatMap_singleton]
          exact ho3
        case measure => simp [intOf]; omega
      · simp only [hop] at c6 c7
        have Hop := Lib.hid hop
        have Hst := Lib.hid hst
        clear hop hst
        go_wp2_with (first | (at_builtin; refine wpList_append_own _ rfl (.tmp 35) (.tmp 43) 27 rfl w.heap.size 43 i0 _ 8 40 Try.underlying27 hi hz0 hz1 hz2 rfl (by decide) _ _ _ rfl (Ho.out.alloc _) ⟨wr.heap.size, 0, none⟩ 1 1 (ec (⟨qp, qa, qb, qc, qd, qt⟩, qu)) rfl rfl (by exact cells_new (by simp only [ec, Hop.out]; exact heap_alloc_new wr _)) (ec_one _) (by unfold maxLen; omega) (by omega) (by have := Hf.out.size; simp; omega) ?_; intro v' w3 ho3 hg3 _))
        go_roundw
        case rel =>
          refine ⟨i + 1, by go_num, by omega, ?_, Hf.out.trans (Fr.grown (S := fun i => w.heap.size ≤ i) ((Fr.refl _ wr).alloc _) hg3 (fun r hr _ => (ownsRow_block Ho.out hr).choose_spec.2)) (fun j hj e => absurd e (by omega))⟩
          rw [Ht.out, Hst.out, if_pos rfl, List.length_append]
          unfold ecs at *
          rw [List.flatMap_append, List.flatMap_singleton]
          exact ho3
        case measure => simp [intOf]; omega
      · simp only [hop] at c6 c7
        have Hst := Lib.hid hst
        clear hop hst
        go_wp2_with fail
        go_roundw
        case rel =>
          refine ⟨i + 1, by go_num, by omega, ?_, Hf.out⟩
          rw [Ht.out, Hst.out, if_neg (by decide), List.append_nil]
          exact Ho.out
        case measure => simp [intOf]; omega
    · obtain rfl : i = n := by omega
      have hL : tickL (L.take i) now = tickL L now := by rw [List.take_of_length_le (by rw [HN.out]; omega)]
      rw [hL] at Ho
      have Fin := Lib.hid (tick_fin HR2.out Hf.out Ho.out hgl hB (fun p hp => HR2.out.ok p (List.mem_filter.1 hp).1))
      clear hL
      rcases Ho.out.2 with ⟨rfl, _⟩ | ⟨r, cap', cur, rfl, _⟩
      all_goals
        go_wp2_with fail
        go_end0
        exact ⟨rfl, _, Fin.out.1, Fin.out.2⟩
end Go.Proofs.Ytcgghjjchfafiaa
