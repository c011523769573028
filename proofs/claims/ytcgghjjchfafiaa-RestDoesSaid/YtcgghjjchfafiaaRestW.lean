/- The walk of packhorselaw19.RestDoes. No condition. -/
import Derived.Test.YtcgghjjchfafiaaRestV
import Derived.Test.YtcgghjjchfafiaaRestQ
import Derived.Deep.CutBlock
import Derived.Deep.RegionHeld3
import Derived.Deep.DeepMust
import Derived.Deep.RegionWith
namespace Go.Proofs.Ytcgghjjchfafiaa
open Go.RowKit Go.Maps

theorem close_perm : ∀ (L : List (K4 × Int)) (k : K4) (v : Int), (L.map (·.1)).Nodup → k ∈ L.map (·.1) → (rm L k ++ [(k, v)]).Perm (L.map fun p => if p.1 = k then (k, v) else p)
  | [], _, _, _, h => by simp at h
  | p :: L, k, v, hn, hk => by
    rw [List.map_cons, List.nodup_cons] at hn
    unfold rm
    rw [List.filter_cons, List.map_cons]
    by_cases e : p.1 = k
    · have hno : ∀ q ∈ L, q.1 ≠ k := fun q hq h => hn.1 (List.mem_map.2 ⟨q, hq, by rw [h, e]⟩)
      rw [if_neg (by simp [e]), if_pos e]
      have e1 : (L.filter fun p => p.1 ≠ k) = L := List.filter_eq_self.2 (fun q hq => by simpa using hno q hq)
      have e2 : (L.map fun p => if p.1 = k then (k, v) else p) = L := by
        conv => rhs; rw [← List.map_id L]
        exact List.map_congr_left fun q hq => by rw [if_neg (hno q hq)]; rfl
      rw [e1, e2]
      exact List.perm_append_singleton _ _
    · rw [if_pos (by simpa using e), if_neg e, List.cons_append]
      refine List.Perm.cons _ (close_perm L k v hn.2 ?_)
      rw [List.map_cons, List.mem_cons] at hk
      rcases hk with hk | hk
      · exact absurd hk.symm e
      · exact hk
theorem TabAt.perm {w : World} {g m : Nat} {L L' : List (K4 × Int)} (h : TabAt w g m L) (hp : L.Perm L') : TabAt w g m L' := ⟨h.blk, h.map.perm (hp.map _)⟩
theorem closed_perm {L : List (K4 × Int)} (hn : (L.map (·.1)).Nodup) (k : K4) (now : Int) : (closeL L k now).Perm (setL L k now) := by
  unfold closeL setL
  by_cases h : closeF L k = 0
  · rw [if_pos h, if_pos h]
    refine close_perm L k _ hn (lki_isSome.1 ?_)
    rw [closeF_zero.1 h]; rfl
  · rw [if_neg h, if_neg h]

theorem seven {w : World} {b g : Nat} {T T' : TypeId} {v0 v1 v2 v3 v4 v5 v6 : Value} (h : w.heap[b]? = some (.cells #[v0, v1, v2, v3, v4, v5] T (0, 0))) (h' : w.heap[g]? = some (.cells #[v6] T' (0, 0))) :
    w.cell? ⟨b, 0, none⟩ = some v0 ∧ w.cell? ⟨b, 1, none⟩ = some v1 ∧ w.cell? ⟨b, 2, none⟩ = some v2 ∧ w.cell? ⟨b, 3, none⟩ = some v3 ∧ w.cell? ⟨b, 4, none⟩ = some v4 ∧ w.cell? ⟨b, 5, none⟩ = some v5 ∧ w.cell? ⟨g, 0, none⟩ = some v6 := by
  obtain ⟨a, b, c, d, e, f⟩ := six h
  exact ⟨a, b, c, d, e, f, cell_of_one h'⟩
theorem seven_kept {w w' : World} {r g : Nat} {cs : Array Value} {T : TypeId} {i0 i1 i2 i3 i4 i5 : Nat} {v0 v1 v2 v3 v4 v5 v6 : Value} (f : Fr (fun _ => False) w w') (hr : w.heap[r]? = some (.cells cs T (0, 0))) (hg : g < w.heap.size)
    (c0 : w.cell? ⟨r, i0, none⟩ = some v0) (c1 : w.cell? ⟨r, i1, none⟩ = some v1) (c2 : w.cell? ⟨r, i2, none⟩ = some v2) (c3 : w.cell? ⟨r, i3, none⟩ = some v3) (c4 : w.cell? ⟨r, i4, none⟩ = some v4) (c5 : w.cell? ⟨r, i5, none⟩ = some v5) (c6 : w.cell? ⟨g, 0, none⟩ = some v6) :
    w'.cell? ⟨r, i0, none⟩ = some v0 ∧ w'.cell? ⟨r, i1, none⟩ = some v1 ∧ w'.cell? ⟨r, i2, none⟩ = some v2 ∧ w'.cell? ⟨r, i3, none⟩ = some v3 ∧ w'.cell? ⟨r, i4, none⟩ = some v4 ∧ w'.cell? ⟨r, i5, none⟩ = some v5 ∧ w'.cell? ⟨g, 0, none⟩ = some v6 := by
  have h : ∀ j, w'.cell? ⟨r, j, none⟩ = w.cell? ⟨r, j, none⟩ := fun j => World.cell?_of_block (f.block r (lt_of_block hr) (fun e => e))
  have h' : w'.cell? ⟨g, 0, none⟩ = w.cell? ⟨g, 0, none⟩ := World.cell?_of_block (f.block g hg (fun e => e))
  simp only [h, h']
  exact ⟨c0, c1, c2, c3, c4, c5, c6⟩
/-- Both tables hold the same entries. -/
theorem tmod20' (p : Int) : -20 < p.tmod 20 ∧ p.tmod 20 < 20 := ⟨Int.lt_tmod_of_pos p (by omega), Int.tmod_lt_of_pos p (by omega)⟩
structure Both (w0 w : World) (gt mt gr : Nat) (v : Value) (L : List (K4 × Int)) : Prop where
  tab : TabAt w gt mt L
  ref : RefAt w gr w0.heap.size v L
  fr : Fr (fun _ => False) w0 w
  few : L.length ≤ 24
  ne1 : gt ≠ gr
  ne2 : mt ≠ gr
  new1 : w0.heap.size ≤ gt
  new2 : w0.heap.size ≤ mt
  new3 : w0.heap.size ≤ gr

theorem Both.ref_ne {w0 w : World} {gt mt gr : Nat} {v : Value} {L : List (K4 × Int)} (h : Both w0 w gt mt gr v L) : v.ownBlock ≠ some gt ∧ v.ownBlock ≠ some mt := by
  refine ⟨h.ref.ne_cells h.tab.blk (by decide), ?_⟩
  obtain ⟨⟨es, ⟨es', cl, hb, _⟩, _⟩, _⟩ := h.tab.map
  exact h.ref.ne_map hb
/-- The reference's table is kept while the program's turns. -/
theorem Both.kept {w0 w w' : World} {gt mt gr : Nat} {v : Value} {L : List (K4 × Int)} (h : Both w0 w gt mt gr v L) (f : Fr (fun i => i = mt) w w') : RefAt w' gr w0.heap.size v L :=
  h.ref.fr f h.ne2.symm (fun i hi e => h.ref_ne.2 (by rw [hi, e]))
/-- .. and the program's while the reference's does. -/
theorem Both.kept2 {w0 w w' w'' : World} {gt mt gr : Nat} {v : Value} {L L' : List (K4 × Int)} (h : Both w0 w gt mt gr v L) (_f : Fr (fun i => i = mt) w w') (hT : TabAt w' gt mt L') (f' : Fr (fun i => i = gr ∨ v.ownBlock = some i) w' w'') : TabAt w'' gt mt L' :=
  hT.heap (f'.block gt hT.ltg (fun e => e.elim h.ne1 h.ref_ne.1)) (f'.block mt hT.ltm (fun e => e.elim h.ne2 h.ref_ne.2))
theorem Both.fr2 {w0 w w' w'' : World} {gt mt gr : Nat} {v : Value} {L : List (K4 × Int)} (h : Both w0 w gt mt gr v L) (f : Fr (fun i => i = mt) w w') (f' : Fr (fun i => i = gr ∨ v.ownBlock = some i) w' w'') : Fr (fun _ => False) w0 w'' := by
  have h1 := h.fr.trans f (fun i hi e => by have := h.new2; omega)
  refine h1.trans f' (fun i hi e => ?_)
  rcases e with e | e
  · have := h.new3; omega
  · have := (ownsRow_block h.ref.row e).choose_spec.2; omega
theorem Both.fr0 {w0 w w' : World} {gt mt gr : Nat} {v : Value} {L : List (K4 × Int)} (h : Both w0 w gt mt gr v L) (f : Fr (fun _ => False) w w') : Both w0 w' gt mt gr v L :=
  ⟨h.tab.fr f, h.ref.fr0 f, h.fr.none f, h.few, h.ne1, h.ne2, h.new1, h.new2, h.new3⟩

theorem Both.open_ {w0 w w' w'' : World} {gt mt gr : Nat} {v v' : Value} {L : List (K4 × Int)} {k : K4} (h : Both w0 w gt mt gr v L) (f : Fr (fun i => i = mt) w w') (hT : TabAt w' gt mt (openL L k)) (hR : RefAt w'' gr w0.heap.size v' (openL L k)) (f' : Fr (fun i => i = gr ∨ v.ownBlock = some i) w' w'') : Both w0 w'' gt mt gr v' (openL L k) := by
  refine ⟨h.kept2 f hT f', hR, h.fr2 f f', ?_, h.ne1, h.ne2, h.new1, h.new2, h.new3⟩
  by_cases hm : mayF L k = 0
  · rw [openL_new hm, List.length_append]
    have := (mayF_zero.1 hm).2
    have := h.few
    simp; omega
  · rw [openL_full hm]; exact h.few
theorem Both.close_ {w0 w w' w'' : World} {gt mt gr : Nat} {v v' : Value} {L : List (K4 × Int)} {k : K4} {now : Int} (h : Both w0 w gt mt gr v L) (f : Fr (fun i => i = mt) w w') (hT : TabAt w' gt mt (closeL L k now)) (hR : RefAt w'' gr w0.heap.size v' (setL L k now)) (f' : Fr (fun i => i = gr ∨ v.ownBlock = some i) w' w'') : Both w0 w'' gt mt gr v' (setL L k now) := by
  have hp := closed_perm h.tab.nodup k now
  refine ⟨h.kept2 f (hT.perm hp) f', hR, h.fr2 f f', ?_, h.ne1, h.ne2, h.new1, h.new2, h.new3⟩
  rw [← hp.length_eq, closeL_len h.tab.nodup]
  exact h.few
theorem Both.tick_ {w0 w w' w'' : World} {gt mt gr : Nat} {v v' : Value} {L : List (K4 × Int)} {now : Int} (h : Both w0 w gt mt gr v L) (f : Fr (fun i => i = mt) w w') (hT : TabAt w' gt mt (tickL L now)) (hR : RefAt w'' gr w0.heap.size v' (tickL L now)) (f' : Fr (fun i => i = gr) w' w'') : Both w0 w'' gt mt gr v' (tickL L now) := by
  have f'' := f'.mono (S' := fun i => i = gr ∨ v.ownBlock = some i) (fun _ _ e => .inl e)
  exact ⟨h.kept2 f hT f'', hR, h.fr2 f f'', Nat.le_trans (List.length_filter_le _ _) h.few, h.ne1, h.ne2, h.new1, h.new2, h.new3⟩

set_option maxHeartbeats 3000000 in
set_option maxRecDepth 100000 in
theorem does3 (now0 : Int) (A : Option Addr) (b off cap : Nat) (l : List Op8) (w : World) (hA : 0 < l.length → A = some ⟨b, off, none⟩ ∧ OpsAt w b off l) (hlen : l.length * 40 ≤ 140737488351232) (hn1 : -1000 ≤ now0) (hn2 : now0 ≤ 1099511627776) :
    Calls Try.prog 3 #[.int .i64 now0, .slice A l.length cap] w fun e w' => e = .returned (.bool true) ∧ Fr (fun _ => False) w w' := by
  have HA := Lib.hid hA
  clear hA
  obtain ⟨len, hln⟩ : ∃ n, n = l.length := ⟨_, rfl⟩
  rw [← hln] at hlen ⊢
  have HN := Lib.hid hln
  clear hln
  go_enter Try.func3, Try.ntmps3
  go_wp2_with fail
  refine (awake14 _).mono ?_
  rintro e w1 ⟨rfl, f1⟩
  go_wp2_with fail
  refine (new15 _).mono ?_
  rintro e w2 ⟨gt, mt, rfl, T2, f2, hgt, hmt⟩
  have f2 := f1.none f2
  have hg1 : w.heap.size ≤ gt := by have := f1.size; omega
  have hm1 : w.heap.size ≤ mt := by have := f1.size; omega
  have hBoth : Both w (w2.alloc (.cells #[.slice none 0 0] 29)) gt mt w2.heap.size (.slice none 0 0) [] := by
    refine ⟨T2.alloc _, ⟨heap_alloc_new _ _, World.ownsRow_nil _ _ _ _, by simp⟩, f2.alloc _, by simp, by have := T2.ltg; omega, by have := T2.ltm; omega, hg1, hm1, f2.size⟩
  clear f1 hgt hmt T2 f2 hg1 hm1
  obtain ⟨gr, hgr⟩ : ∃ g, w2.heap.size = g := ⟨_, rfl⟩
  rw [hgr] at hBoth
  have Hgr := Lib.hid hgr
  have HBoth := Lib.hid hBoth
  clear hgr hBoth
  go_wp2_with fail
  rw [Hgr.out]
  go_loopw [0, 8] (fun v0 v8 wr => ∃ (k : Nat) (now : Int) (v : Value) (L : List (K4 × Int)), v8 = .int .i64 k ∧ k ≤ len ∧ v0 = .int .i64 now ∧ -1000 - 20 * (k : Int) ≤ now ∧ now ≤ 1099511627776 + 20 * k ∧ Both w wr gt mt gr v L) (fun _ v _ => len - (intOf v).toNat)
  case atStart => exact ⟨0, now0, _, [], rfl, by omega, rfl, by omega, by omega, HBoth.out⟩
  case round =>
    clear HBoth
    obtain ⟨k, now, v, L, rfl, hk, rfl, hnow0, hnow, hB⟩ := hrel
    have HB := Lib.hid hB
    clear hB
    by_cases h : k < len
    · obtain ⟨eA, hl⟩ := HA.out (by rw [← HN.out]; omega)
      have HL := Lib.hid hl
      clear hl
      subst eA
      obtain ⟨o, hlo⟩ : ∃ o, l[k]? = some o := ⟨_, List.getElem?_eq_getElem (by rw [← HN.out]; exact h)⟩
      obtain ⟨hok, c0, c1, d1, d2, d3, d4, d5, c7⟩ := (HL.out.fr HB.out.fr).2 k o hlo
      have Hlo := Lib.hid hlo
      clear hlo
      have hwt := tmod20' o.wait
      have hkey := hok.1
      clear hok
      go_upto_region 11 with (fail)
      have hB4 := HB.out.fr0 ((Fr.refl (fun _ => False) wr).alloc (.cells #[.int .i64 o.p, .int .u8 o.a, .int .u8 o.b, .int .u8 o.c, .int .u8 o.d, .int .i64 o.t] 33))
      have hK4 := heap_alloc_new wr (.cells #[.int .i64 o.p, .int .u8 o.a, .int .u8 o.b, .int .u8 o.c, .int .u8 o.d, .int .i64 o.t] 33)
      have hk1 : wr.heap.size ≠ mt := by have := HB.out.tab.ltm; omega
      have hk2 : wr.heap.size ≠ gr := by have := lt_of_block HB.out.ref.blk; omega
      obtain ⟨Bk, hBk⟩ : ∃ g, wr.heap.size = g := ⟨_, rfl⟩
      obtain ⟨nw, hnw⟩ : ∃ x, now + o.wait.tmod 20 = x := ⟨_, rfl⟩
      have hnw0 : -1000 - 20 * ((k : Int) + 1) ≤ nw := by omega
      have hnw1 : nw ≤ 1099511627776 + 20 * ((k : Int) + 1) := by omega
      rw [hBk] at hK4 hk1 hk2
      rw [hBk, hnw]
      generalize wr.alloc (.cells #[.int .i64 o.p, .int .u8 o.a, .int .u8 o.b, .int .u8 o.c, .int .u8 o.d, .int .i64 o.t] 33) = w4 at *
      obtain ⟨-, c0, -⟩ := (HL.out.fr hB4.fr).2 k o Hlo.out
      have HB4 := Lib.hid hB4
      have HK4 := Lib.hid hK4
      clear hB4 hK4 hBk hnw c1 d1 d2 d3 d4 d5 c7 hwt hnow0 hnow HB
      obtain ⟨ok, op, oa, ob, oc, od, ot, ow⟩ := o
      simp only [] at c0 hkey HK4
      go_upto_block 2 with (fail)

      go_cut [10] (fun v10 wc => v10 = .bool true ∧ ∃ (v : Value) (L : List (K4 × Int)), Both w wc gt mt gr v L ∧ wc.heap[Bk]? = some (.cells #[.int .i64 op, .int .u8 oa, .int .u8 ob, .int .u8 oc, .int .u8 od, .int .i64 ot] 33 (0, 0)))
      case first =>
        obtain ⟨k0, k1, k2, k3, k4, k5⟩ := six HK4.out
        have hfew : L.length < 1000000 := by have := HB4.out.few; omega
        by_cases hq0 : ok = 0
        · -- Open
          subst hq0
          go_wp2_with fail
          go_region_held3 (fun w' => w'.cell? ⟨Bk, 0, none⟩ = some (.int .i64 op) ∧ w'.cell? ⟨Bk, 1, none⟩ = some (.int .u8 oa) ∧ w'.cell? ⟨Bk, 2, none⟩ = some (.int .u8 ob) ∧ w'.cell? ⟨Bk, 3, none⟩ = some (.int .u8 oc) ∧ w'.cell? ⟨Bk, 4, none⟩ = some (.int .u8 od) ∧ w'.cell? ⟨Bk, 5, none⟩ = some (.int .i64 ot))
            (first | exact ⟨k0, k1, k2, k3, k4, k5⟩ | exact six (by assumption))
            (first
              | (go_at_call 16; go_must (refine (open16 gt mt L op oa ob oc od ot _ hkey (by exact HB4.out.tab.heap rfl rfl) hfew).mono ?_); rintro e w5 ⟨rfl, T5, f5⟩; have K5 := (f5.block Bk (lt_of_block HK4.out) hk1).trans HK4.out; have R5 := HB4.out.kept ⟨f5.os, f5.tape, f5.output, f5.size, f5.block⟩; have s5 : w.heap.size ≤ w5.heap.size := Nat.le_trans HB4.out.fr.size f5.size)
              | (go_at_call 17; go_must (refine (open17 gr w.heap.size v L op oa ob oc od ot _ hkey (by assumption) hfew (by assumption)).mono ?_); rintro e w6 ⟨rfl, v6, R6, f6⟩; have K6 := (f6.block Bk (lt_of_block K5) (fun e => e.elim hk2 (HB4.out.ref.ne_cells HK4.out (by decide)))).trans K5))
          have B6 := Both.open_ HB4.out (w' := w5) (w'' := w6) ⟨f5.os, f5.tape, f5.output, f5.size, f5.block⟩ T5 R6 f6
          have HB6 := Lib.hid B6
          have HK6 := Lib.hid K6
          clear B6 T5 f5 R5 R6 f6 K5 K6 k0 k1 k2 k3 k4 k5
          go_wp2_with fail
          go_meet
          exact ⟨rfl, _, _, HB6.out, HK6.out⟩
        · have hb0 : (ok == 0) = false := by simpa using hq0
          clear hq0
          by_cases hq1 : ok = 1
          · -- Close
            subst hq1
            clear hb0
            have hnd := HB4.out.tab.nodup
            have Hnd := Lib.hid hnd
            clear hnd
            go_wp2_with fail
            go_region_held3 (fun w' => w'.cell? ⟨Bk, 0, none⟩ = some (.int .i64 op) ∧ w'.cell? ⟨Bk, 1, none⟩ = some (.int .u8 oa) ∧ w'.cell? ⟨Bk, 2, none⟩ = some (.int .u8 ob) ∧ w'.cell? ⟨Bk, 3, none⟩ = some (.int .u8 oc) ∧ w'.cell? ⟨Bk, 4, none⟩ = some (.int .u8 od) ∧ w'.cell? ⟨Bk, 5, none⟩ = some (.int .i64 ot))
              (first | exact ⟨k0, k1, k2, k3, k4, k5⟩ | exact six (by assumption))
              (first
                | (go_at_call 18; go_must (refine (close18 gt mt L op oa ob oc od ot nw _ hkey (by exact HB4.out.tab.heap rfl rfl) hfew (by omega) (by omega)).mono ?_); rintro e w5 ⟨rfl, T5, f5⟩; have K5 := (f5.block Bk (lt_of_block HK4.out) hk1).trans HK4.out; have R5 := HB4.out.kept ⟨f5.os, f5.tape, f5.output, f5.size, f5.block⟩)
                | (go_at_call 19; go_must (refine (close19 gr w.heap.size v L op oa ob oc od ot nw _ hkey (by assumption) Hnd.out hfew (by omega) (by omega)).mono ?_); rintro e w6 ⟨rfl, R6, f6⟩; have K6 := (f6.block Bk (lt_of_block K5) (fun e => e.elim hk2 (HB4.out.ref.ne_cells HK4.out (by decide)))).trans K5))
            have B6 := Both.close_ HB4.out (w' := w5) (w'' := w6) ⟨f5.os, f5.tape, f5.output, f5.size, f5.block⟩ T5 R6 f6
            have HB6 := Lib.hid B6
            have HK6 := Lib.hid K6
            clear B6 T5 f5 R5 R6 f6 K5 K6 k0 k1 k2 k3 k4 k5
            go_wp2_with fail
            go_meet
            exact ⟨rfl, _, _, HB6.out, HK6.out⟩
          · have hb1 : (ok == 1) = false := by simpa using hq1
            clear hq1
            cases hb2 : (ok == 2)
            · go_wp2_with fail
              go_meet
              exact ⟨rfl, _, _, HB4.out, HK4.out⟩
            · clear k0 k1 k2 k3 k4 k5
              go_wp2_with fail
              refine (tick20 gt mt L nw _ HB4.out.tab).mono ?_
              rintro e w5 ⟨rfl, T5, f5⟩
              have R5 := HB4.out.kept f5
              have K5 := (f5.block Bk (lt_of_block HK4.out) hk1).trans HK4.out
              have HT5 := Lib.hid T5
              have Hf5 := Lib.hid f5
              have HR5 := Lib.hid R5
              have HK5 := Lib.hid K5
              clear T5 f5 R5 K5
              go_wp2_with fail
              refine (tick21 gr w.heap.size v L nw _ HR5.out hfew (by have := HB4.out.fr.size; have := Hf5.out.size; omega)).mono ?_
              rintro e w6 ⟨rfl, v6, R6, f6⟩
              have B6 := Both.tick_ HB4.out Hf5.out HT5.out R6 f6
              have K6 := (f6.block Bk (lt_of_block HK5.out) hk2).trans HK5.out
              have HB6 := Lib.hid B6
              have HK6 := Lib.hid K6
              clear B6 R6 f6 K6
              go_wp2_with fail
              go_meet
              exact ⟨rfl, _, _, HB6.out, HK6.out⟩
      case rest =>
        clear HB4 HK4 c0
        obtain ⟨rfl, v, L, hB, hK⟩ := hcut
        have HB := Lib.hid hB
        have HK := Lib.hid hK
        clear hB hK
        obtain ⟨k0, k1, k2, k3, k4, k5⟩ := six HK.out
        have hfew : L.length < 1000000 := by have := HB.out.few; omega
        obtain ⟨A', cap', hv⟩ := HB.out.ref.slice
        subst hv
        have cr0 := cell_of_one HB.out.ref.blk
        go_wp2_with fail
        go_region_held3 (fun w' => w'.cell? ⟨Bk, 0, none⟩ = some (.int .i64 op) ∧ w'.cell? ⟨Bk, 1, none⟩ = some (.int .u8 oa) ∧ w'.cell? ⟨Bk, 2, none⟩ = some (.int .u8 ob) ∧ w'.cell? ⟨Bk, 3, none⟩ = some (.int .u8 oc) ∧ w'.cell? ⟨Bk, 4, none⟩ = some (.int .u8 od) ∧ w'.cell? ⟨Bk, 5, none⟩ = some (.int .i64 ot) ∧ w'.cell? ⟨gr, 0, none⟩ = some (.slice A' L.length cap'))
          (first | exact ⟨k0, k1, k2, k3, k4, k5, cr0⟩ | exact seven (by assumption) (by assumption))
          (first
            | (go_at_call 22; go_must (refine (may22 gt mt L op oa ob oc od ot _ hkey (by exact HB.out.tab.heap rfl rfl)).mono ?_); rintro e w5 ⟨rfl, f5⟩; have B5 := HB.out.fr0 (w' := w5) ⟨f5.os, f5.tape, f5.output, f5.size, f5.block⟩; have K5 := (f5.block Bk (lt_of_block HK.out) (fun e => e)).trans HK.out; have c5 := B5.ref.blk)
            | (go_at_call 23; go_must (refine (may23 gr w.heap.size _ L op oa ob oc od ot _ hkey B5.ref hfew).mono ?_); rintro e w6 ⟨rfl, f6⟩; have B6 := B5.fr0 f6; have K6 := (f6.block Bk (lt_of_block K5) (fun e => e)).trans K5; have c6 := B6.ref.blk)
            | (go_at_call 24; go_must (refine (rests24 gt mt L op oa ob oc od ot _ hkey B6.tab).mono ?_); rintro e w7 ⟨rfl, f7⟩; have B7 := B6.fr0 f7; have K7 := (f7.block Bk (lt_of_block K6) (fun e => e)).trans K6; have c7 := B7.ref.blk)
            | (go_at_call 25; go_must (refine (rests25 gr w.heap.size _ L op oa ob oc od ot _ hkey B7.ref hfew).mono ?_); rintro e w8 ⟨rfl, f8⟩; have B8 := B7.fr0 f8; have K8 := (f8.block Bk (lt_of_block K7) (fun e => e)).trans K7; have c8 := B8.ref.blk)
            | (go_at_call 26; go_must (refine (len26 gt mt L _ B8.tab).mono ?_); rintro e w9 ⟨rfl, rfl⟩))
        have HB8 := Lib.hid B8
        clear B5 B6 B7 B8 K5 K6 K7 K8 f5 f6 f7 f8 c5 c6 c7 c8 k0 k1 k2 k3 k4 k5 cr0
        go_wp2_with fail
        go_roundw
        case rel => exact ⟨k + 1, nw, _, L, by go_num, by omega, rfl, by omega, by omega, HB8.out⟩
        case measure => simp [intOf]; omega
    · clear hnow0 hnow
      have hfew : L.length < 1000000 := by have := HB.out.few; omega
      obtain ⟨A', cap', hv⟩ := HB.out.ref.slice
      subst hv
      obtain ⟨n, hn⟩ : ∃ n, L.length = n := ⟨_, rfl⟩
      have Hn := Lib.hid hn
      have hn24 : n < 1000000 := by omega
      clear hn
      go_wp2_with fail
      go_loopw [11] (fun v11 wr => ∃ i : Nat, v11 = .int .i64 i ∧ i ≤ n ∧ Both w wr gt mt gr (.slice A' L.length cap') L) (fun v _ => n - (intOf v).toNat)
      case atStart => exact ⟨0, rfl, Nat.zero_le _, HB.out⟩
      case round =>
        clear HB
        obtain ⟨i, rfl, hin, hB⟩ := hrel
        have HB := Lib.hid hB
        clear hB
        have cr0 := cell_of_one HB.out.ref.blk
        rw [Hn.out] at cr0
        by_cases hlt : i < n
        · obtain ⟨q, hq⟩ : ∃ q, L[i]? = some q := ⟨_, List.getElem?_eq_getElem (by rw [Hn.out]; exact hlt)⟩
          obtain ⟨r, hA', hr, hc⟩ := HB.out.ref.cells hq
          obtain ⟨cs, hrb, -⟩ := ownsRow_block HB.out.ref.row hr
          have hqk : q.1.ok := HB.out.ref.ok q (List.mem_of_getElem? hq)
          have hm : mayF L q.1 = 191 := by rw [mayF, if_pos (lki_isSome.2 (List.mem_map.2 ⟨q, List.mem_of_getElem? hq, rfl⟩))]
          have c0 := hc 0 _ rfl
          have c1 := hc 1 _ rfl
          have c2 := hc 2 _ rfl
          have c3 := hc 3 _ rfl
          have c4 := hc 4 _ rfl
          have c5 := hc 5 _ rfl
          have Hrb := Lib.hid hrb
          have hfewL := Lib.hid hfew
          clear hc hq hfew hrb hr
          subst hA'
          obtain ⟨⟨qp, qa, qb, qc, qd, qt⟩, qu⟩ := q
          simp only [Nat.add_zero] at c0 c1 c2 c3 c4 c5 hqk hm
          have Hm := Lib.hid hm
          clear hm
          go_wp2_with fail
          go_region_held3 (fun w' => w'.cell? ⟨r, i * 8, none⟩ = some (.int .i64 qp) ∧ w'.cell? ⟨r, i * 8 + 1, none⟩ = some (.int .u8 qa) ∧ w'.cell? ⟨r, i * 8 + 2, none⟩ = some (.int .u8 qb) ∧ w'.cell? ⟨r, i * 8 + 3, none⟩ = some (.int .u8 qc) ∧ w'.cell? ⟨r, i * 8 + 4, none⟩ = some (.int .u8 qd) ∧ w'.cell? ⟨r, i * 8 + 5, none⟩ = some (.int .i64 qt) ∧ w'.cell? ⟨gr, 0, none⟩ = some (.slice (some ⟨r, 0, none⟩) n cap'))
            (first | exact ⟨c0, c1, c2, c3, c4, c5, cr0⟩ | exact seven_kept (by assumption) Hrb.out (lt_of_block HB.out.ref.blk) c0 c1 c2 c3 c4 c5 cr0)
            (first
              | (go_at_call 24; go_must (refine (rests24 gt mt L qp qa qb qc qd qt _ hqk (by exact HB.out.tab.heap rfl rfl)).mono ?_); rintro e w5 ⟨rfl, f5⟩; have B5 := HB.out.fr0 (w' := w5) ⟨f5.os, f5.tape, f5.output, f5.size, f5.block⟩; have F5 : Fr (fun _ => False) wr w5 := ⟨f5.os, f5.tape, f5.output, f5.size, f5.block⟩)
              | (go_at_call 25; go_must (refine (rests25 gr w.heap.size _ L qp qa qb qc qd qt _ hqk B5.ref hfewL.out).mono ?_); rintro e w6 ⟨rfl, f6⟩; have B6 := B5.fr0 f6; have F6 := F5.none f6)
              | (go_at_call 22; go_must (refine (may22 gt mt L qp qa qb qc qd qt _ hqk B6.tab).mono ?_); rintro e w7 ⟨rfl, f7⟩; rw [Hm.out]; have B7 := B6.fr0 f7; have F7 := F6.none f7))
          have HB7 := Lib.hid B7
          clear B5 B6 B7 F5 F6 F7 f5 f6 f7 c0 c1 c2 c3 c4 c5 cr0
          go_wp2_with fail
          go_roundw
          case rel => exact ⟨i + 1, by go_num, by omega, HB7.out⟩
          case measure => simp [intOf]; omega
        · go_wp2_with fail
          go_ret
          exact ⟨rfl, HB.out.fr⟩
end Go.Proofs.Ytcgghjjchfafiaa
