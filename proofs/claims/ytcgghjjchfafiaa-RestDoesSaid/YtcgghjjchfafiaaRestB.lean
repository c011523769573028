/- What Close, Tick and New do to a rest.Table, each as a contract. No condition. -/
import Derived.Test.YtcgghjjchfafiaaRestA
namespace Go.Proofs.Ytcgghjjchfafiaa
open Go.RowKit Go.Maps

def closeF (L : List (K4 × Int)) (k : K4) : Int := match lki L k with | some u => if isOpen u then 0 else 7 | none => 7
def closeL (L : List (K4 × Int)) (k : K4) (now : Int) : List (K4 × Int) := if closeF L k = 0 then rm L k ++ [(k, now + 8)] else L

set_option maxHeartbeats 800000 in
theorem close18 (g m : Nat) (L : List (K4 × Int)) (p a b c d t now : Int) (w : World) (hk : K4.ok ⟨p, a, b, c, d, t⟩) (hT : TabAt w g m L) (hlen : L.length < 1000000) (h0 : -1000000000000000 ≤ now) (h1 : now ≤ 1000000000000000) :
    Calls Try.prog 18 #[.pointer (some ⟨g, 0, none⟩), .agg #[.int .i64 p, .int .u8 a, .int .u8 b, .int .u8 c, .int .u8 d, .int .i64 t], .int .i64 now] w fun e w' =>
      e = .returned (.int .i64 (closeF L ⟨p, a, b, c, d, t⟩)) ∧ TabAt w' g m (closeL L ⟨p, a, b, c, d, t⟩ now) ∧ Fr (fun i => i = m) w w' := by
  have f1 := (Fr.refl (fun i => i = m) w).alloc (.cells #[.int .i64 p, .int .u8 a, .int .u8 b, .int .u8 c, .int .u8 d, .int .i64 t] 33)
  have T1 : ∀ n, TabAt ((w.alloc (.cells #[.int .i64 p, .int .u8 a, .int .u8 b, .int .u8 c, .int .u8 d, .int .i64 t] 33)).drewN n) g m L := fun n => hT.heap (Below.heap_alloc w _ g hT.ltg) (Below.heap_alloc w _ m hT.ltm)
  have hl' := fun n => (T1 n).look hk
  have hc' := fun n => cell_of_one (T1 n).blk
  have HT := Lib.hid T1
  clear T1 hT
  have hlen' : (tab L).length < maxLen := by rw [tab_len]; unfold maxLen; omega
  cases hlk : lki L ⟨p, a, b, c, d, t⟩ with
  | none =>
    have hcF : closeF L ⟨p, a, b, c, d, t⟩ = 7 := by rw [closeF, hlk]
    have hcL : closeL L ⟨p, a, b, c, d, t⟩ now = L := by rw [closeL, hcF]; simp
    rw [hlk] at hl'
    simp only [Option.getD_none, Option.isSome_none] at hl'
    rw [hcF, hcL]
    clear hlk hcF hcL
    go_enter Try.func18, Try.ntmps18
    go_wp2_with fail
    go_quiet (fail)
    go_wp2_with fail
    go_ret
    exact ⟨rfl, HT.out _, f1.drewN _⟩
  | some u =>
    rw [hlk] at hl'
    simp only [Option.getD_some, Option.isSome_some] at hl'
    cases hu : isOpen u
    · have hcF : closeF L ⟨p, a, b, c, d, t⟩ = 7 := by rw [closeF, hlk]; simp [hu]
      have hcL : closeL L ⟨p, a, b, c, d, t⟩ now = L := by rw [closeL, hcF]; simp
      have hu2 : (u != -4611686018427387904) = true := by simpa [isOpen, bne] using hu
      rw [hcF, hcL]
      clear hlk hcF hcL hu
      go_enter Try.func18, Try.ntmps18
      go_wp2_with fail
      go_quiet (fail)
      go_wp2_with fail
      go_ret
      exact ⟨rfl, HT.out _, f1.drewN _⟩
    · have hcF : closeF L ⟨p, a, b, c, d, t⟩ = 0 := by rw [closeF, hlk]; simp [hu]
      have HcL : Hid (closeL L ⟨p, a, b, c, d, t⟩ now = rm L ⟨p, a, b, c, d, t⟩ ++ [(⟨p, a, b, c, d, t⟩, now + 8)]) := Lib.hid (by rw [closeL, if_pos hcF])
      have hu2 : (u != -4611686018427387904) = false := by simpa [isOpen, bne] using hu
      rw [hcF]
      clear hlk hcF hu
      go_enter Try.func18, Try.ntmps18
      go_wp2_with fail
      go_quiet (fail)
      have T2 := HT.out nq
      have f2 := f1.drewN nq
      have c2 := cell_of_one T2.blk
      obtain ⟨k0, k1, k2, k3, k4, k5⟩ := six (w := (w.alloc (.cells #[.int .i64 p, .int .u8 a, .int .u8 b, .int .u8 c, .int .u8 d, .int .i64 t] 33)).drewN nq) (b := w.heap.size) (heap_alloc_new w _)
      clear HT hl' hc' f1
      generalize (w.alloc (.cells #[.int .i64 p, .int .u8 a, .int .u8 b, .int .u8 c, .int .u8 d, .int .i64 t] 33)).drewN nq = w2 at *
      go_wp2_with fail
      go_still_tail 7, (by kernel_rfl)
      refine wpList_store_at (M := M33) _ rfl _ _ _ 70 rfl 3 Try.underlying70 m (tab L) rfl (T2.map.heap rfl) hlen' ⟨p, a, b, c, d, t⟩ hk rfl (.int .i64 (IntKind.i64.wrap (now + 8))) rfl ?_
      intro w3 hm3 ht3
      rw [show IntKind.i64.wrap (now + 8) = now + 8 from IntWalk.i64_in _ (by omega)] at hm3
      have T3 : TabAt w3 g m (closeL L ⟨p, a, b, c, d, t⟩ now) := by
        rw [HcL.out]
        rw [but_tab, tab_snoc] at hm3
        exact TabAt.turned (w := { heap := w2.heap, tape := w2.tape, drawn := w2.drawn + 1, os := w2.os, output := w2.output }) ⟨T2.blk, T2.map.heap rfl⟩ ht3 hm3
      have f3 : Fr (fun i => i = m) w w3 :=
        Fr.grown (b := { heap := w2.heap, tape := w2.tape, drawn := w2.drawn + 1, os := w2.os, output := w2.output }) ⟨f2.os, f2.tape, f2.output, f2.size, f2.block⟩ ht3.grown (fun r e _ => by injection e with e; exact e.symm)
      clear hm3 ht3
      go_wp2_with fail
      go_ret
      exact ⟨rfl, T3, f3⟩

set_option maxHeartbeats 400000 in
theorem new15 (w : World) : Calls Try.prog 15 #[] w fun e w' => ∃ g m, e = .returned (.pointer (some ⟨g, 0, none⟩)) ∧ TabAt w' g m [] ∧ Fr (fun _ => False) w w' ∧ w.heap.size ≤ g ∧ w.heap.size ≤ m := by
  have hmm := @run_makeMap Try.prog
  have T : TabAt ((w.alloc (.map #[] 0)).alloc (.cells #[.map (some w.heap.size)] 72)) (w.heap.size + 1) w.heap.size [] :=
    ⟨by have := heap_alloc_new (w.alloc (.map #[] 0)) (.cells #[.map (some w.heap.size)] 72); simpa using this, (MapAt.made (M := M33) w).heap (Below.heap_alloc _ _ _ (by simp))⟩
  have f := ((Fr.refl (fun _ => False) w).alloc (.map #[] 0)).alloc (.cells #[.map (some w.heap.size)] 72)
  go_enter Try.func15, Try.ntmps15
  go_wp2_with fail
  go_ret
  exact ⟨_, _, rfl, T, f, by omega, by omega⟩

/-- What of the table is left when a tick has gone by. -/
def stays (now : Int) (u : Int) : Bool := isOpen u || decide (now < u)
def tickL (L : List (K4 × Int)) (now : Int) : List (K4 × Int) := L.filter fun p => stays now p.2

theorem M33_val (p a b c d t : Int) : M33.val ⟨p, a, b, c, d, t⟩ = .agg #[.int .i64 p, .int .u8 a, .int .u8 b, .int .u8 c, .int .u8 d, .int .i64 t] := rfl

theorem tick_start (L : List (K4 × Int)) (now : Int) : (L.filter fun p => stays now p.2 || decide (p.1 ∈ (tab L).map (·.1))) = L := by
  rw [List.filter_eq_self]
  intro p hp
  have : p.1 ∈ (tab L).map (·.1) := by
    unfold tab
    rw [List.map_map]
    exact List.mem_map.2 ⟨p, hp, rfl⟩
  simp [this]
theorem tick_end (L : List (K4 × Int)) (now : Int) : (L.filter fun p => stays now p.2 || decide (p.1 ∈ ([] : List K4))) = tickL L now := by
  unfold tickL
  congr 1
  funext p
  simp
theorem tick_keep (L : List (K4 × Int)) (now : Int) (todo : List K4) (x : K4) (u : Int) (hn : todo.Nodup) (hN : (L.map (·.1)).Nodup) (hx : (x, u) ∈ L) (hs : stays now u = true) :
    (L.filter fun p => stays now p.2 || decide (p.1 ∈ todo)) = L.filter fun p => stays now p.2 || decide (p.1 ∈ todo.erase x) := by
  refine List.filter_congr fun p hp => ?_
  by_cases e : p.1 = x
  · have hpw := List.pairwise_map.1 (List.nodup_iff_pairwise_ne.1 hN)
    have : p = (x, u) := pairwise_fst_eq hpw hp hx e
    rw [this, hs]; simp
  · simp [hn.mem_erase_iff, e]
theorem tick_drop (L : List (K4 × Int)) (now : Int) (todo : List K4) (x : K4) (u : Int) (hn : todo.Nodup) (hN : (L.map (·.1)).Nodup) (hx : (x, u) ∈ L) (hs : stays now u = false) :
    rm (L.filter fun p => stays now p.2 || decide (p.1 ∈ todo)) x = L.filter fun p => stays now p.2 || decide (p.1 ∈ todo.erase x) := by
  unfold rm
  rw [List.filter_filter]
  refine List.filter_congr fun p hp => ?_
  by_cases e : p.1 = x
  · have hpw := List.pairwise_map.1 (List.nodup_iff_pairwise_ne.1 hN)
    have : p = (x, u) := pairwise_fst_eq hpw hp hx e
    rw [this, hs]; simp [hn.mem_erase_iff]
  · simp [hn.mem_erase_iff, e]
theorem mem_tab {L : List (K4 × Int)} {x : K4} {v : Value} (h : (x, v) ∈ tab L) : ∃ u, v = .int .i64 u ∧ (x, u) ∈ L := by
  unfold tab at h
  obtain ⟨q, hq, e⟩ := List.mem_map.1 h
  injection e with e1 e2
  subst e1; subst e2
  exact ⟨q.2, rfl, hq⟩
theorem tab_keys (L : List (K4 × Int)) : (tab L).map (·.1) = L.map (·.1) := by simp [tab, Function.comp_def]
theorem RangeAt.todo_nodup {w : World} {b r cnt : Nat} {L : List (K4 × Value)} {todo : List K4} (h : RangeAt M33 w b r L todo cnt) : todo.Nodup := h.2.2.2.1

set_option maxHeartbeats 800000 in
theorem tick20 (g m : Nat) (L : List (K4 × Int)) (now : Int) (w : World) (hT : TabAt w g m L) :
    Calls Try.prog 20 #[.pointer (some ⟨g, 0, none⟩), .int .i64 now] w fun e w' =>
      e = .returned (.tuple #[]) ∧ TabAt w' g m (tickL L now) ∧ Fr (fun i => i = m) w w' := by
  have c0 := cell_of_one hT.blk
  have HT := Lib.hid hT
  clear hT
  go_enter Try.func20, Try.ntmps20
  go_wp2_with (first | (at_range; refine wpList_range_at (M := M33) _ rfl _ 70 rfl 3 Try.underlying70 m (tab L) rfl HT.out.map ?_; intro w0 hr0 hg0 hs0))
  have f0 : Fr (fun i => i = m) w w0 := (Fr.refl _ w).grown hg0 (fun r e => by cases e)
  clear hg0
  go_frame
  go_loopw [4] (fun _ wr => ∃ (todo : List K4) (cnt : Nat), RangeAt M33 wr m w.heap.size (tab (L.filter fun p => stays now p.2 || decide (p.1 ∈ todo))) todo cnt ∧ Fr (fun i => i = m) w wr ∧ wr.heap[g]? = w.heap[g]?)
    (fun _ wr => wr.rangeLeft m w.heap.size)
  case atStart =>
    refine ⟨(tab L).map (·.1), (tab L).length, ?_, f0, ?_⟩
    · rw [tick_start]; exact hr0
    · have := f0.block g HT.out.ltg HT.out.ne; exact this
  case round =>
    obtain ⟨todo, cnt, hrg, hf, hgg⟩ := hrel
    have hN : (L.map (·.1)).Nodup := by have := HT.out.map.2.1; rwa [tab_keys] at this
    go_wp2_with (first | (at_next; refine wpList_next_at (M := M33) _ rfl _ rfl m w.heap.size _ todo cnt rfl hrg ?_ ?_))
    · intro h0
      have T : TabAt wr g m (tickL L now) := ⟨hgg.trans HT.out.blk, by rw [h0, tick_end] at hrg; exact hrg.toMap⟩
      clear h0
      go_wp2
      go_end0
      exact ⟨rfl, T, hf⟩
    · intro x v w1 cnt1 hx hxt hxL hrg1 hlt hg1 hs1 hen
      obtain ⟨u, rfl, huL⟩ := mem_tab hxL
      obtain ⟨p, a, b, c, d, t⟩ := x
      rw [M33_val] at hen ⊢
      have huL' : (⟨⟨p, a, b, c, d, t⟩, u⟩ : K4 × Int) ∈ L := (List.mem_filter.1 huL).1
      have hnd := hrg.todo_nodup
      have f1 : Fr (fun i => i = m) w w1 := hf.grown hg1 (fun r e hr => by injection e with e; omega)
      have g1 : w1.heap[g]? = w.heap[g]? := (hg1.block g (by have := hf.size; have := HT.out.ltg; omega) (by have := HT.out.ltg; intro e; injection e with e; omega)).trans hgg
      have c1 := cell_of_one (g1.trans HT.out.blk)
      cases hst : stays now u
      · -- it goes
        have Hd := Lib.hid (tick_drop L now todo _ u hnd hN huL' hst)
        have h1 : (u != -4611686018427387904) = true := by unfold stays isOpen at hst; simp at hst; simp [bne, hst.1]
        have h2 : decide (u ≤ now) = true := by unfold stays isOpen at hst; simp at hst; simpa using hst.2
        clear hst hxL huL
        obtain ⟨w2, hw2⟩ : ∃ w2, w2 = w1.alloc (.cells #[.int .i64 p, .int .u8 a, .int .u8 b, .int .u8 c, .int .u8 d, .int .i64 t] 33) := ⟨_, rfl⟩
        have hrg2 : RangeAt M33 w2 m w.heap.size _ _ cnt1 := hw2 ▸ hrg1.heap (Below.heap_alloc _ _ _ hrg1.toMap.lt) (Below.heap_alloc _ _ _ hrg1.lt)
        have f2 : Fr (fun i => i = m) w w2 := hw2 ▸ f1.alloc _
        have hgg1 : g < w1.heap.size := by have := f1.size; have := HT.out.ltg; omega
        have g2 : w2.heap[g]? = w.heap[g]? := by rw [hw2]; exact (Below.heap_alloc _ _ _ hgg1).trans g1
        have c2 := cell_of_one (g2.trans HT.out.blk)
        have hb2 : w2.heap[w1.heap.size]? = some (.cells #[.int .i64 p, .int .u8 a, .int .u8 b, .int .u8 c, .int .u8 d, .int .i64 t] 33 (0, 0)) := by rw [hw2]; exact heap_alloc_new _ _
        rw [hs1] at hb2
        obtain ⟨k0, k1, k2, k3, k4, k5⟩ := six hb2
        have Hw2 := Lib.hid hw2.symm
        clear hw2 hb2
        go_wp2
        rw [Hw2.out]
        have Hrg2 := Lib.hid hrg2
        have Hrg := Lib.hid hrg
        have Hlt := Lib.hid hlt
        have Hg2 := Lib.hid g2
        clear hrg2 hrg hrg1 g1 g2 hen hs1 hlt hgg
        go_still_tail 5, (by kernel_rfl)
        refine wpList_drop_range_at (M := M33) _ rfl _ _ 70 rfl 3 Try.underlying70 m w.heap.size _ _ cnt1 rfl (Hrg2.out.heap rfl rfl) ⟨p, a, b, c, d, t⟩ hx rfl ?_
        intro w3 cnt3 hrg3 hle ht3
        rw [but_tab, Hd.out] at hrg3
        have f3 : Fr (fun i => i = m) w w3 := Fr.grown (b := { heap := w2.heap, tape := w2.tape, drawn := w2.drawn + 1, os := w2.os, output := w2.output }) ⟨f2.os, f2.tape, f2.output, f2.size, f2.block⟩ ht3.grown (fun r e _ => by injection e with e; exact e.symm)
        have g3 : w3.heap[g]? = w.heap[g]? := (ht3.grown.block g (by have := f2.size; have := HT.out.ltg; exact Nat.lt_of_lt_of_le this f2.size) (fun e => HT.out.ne (by injection e))).trans Hg2.out
        have fin : (∃ (todo : List K4) (cnt : Nat), RangeAt M33 w3 m w.heap.size (tab (L.filter fun p => stays now p.2 || decide (p.1 ∈ todo))) todo cnt ∧ Fr (fun i => i = m) w w3 ∧ w3.heap[g]? = w.heap[g]?) ∧ w3.rangeLeft m w.heap.size < wr.rangeLeft m w.heap.size := by
          have e : ((todo.erase ⟨p, a, b, c, d, t⟩).erase ⟨p, a, b, c, d, t⟩) = todo.erase ⟨p, a, b, c, d, t⟩ := List.erase_of_not_mem (by rw [hnd.mem_erase_iff]; simp)
          rw [e] at hrg3
          refine ⟨⟨_, cnt3, hrg3, f3, g3⟩, ?_⟩
          rw [hrg3.left_eq, Hrg.out.left_eq]
          have := Hlt.out
          omega
        have Fin := Lib.hid fin
        clear fin f3 g3 hrg3 ht3 hle
        go_frame
        go_wp2
        go_roundw
        case rel => exact Fin.out.1
        case measure => exact Fin.out.2
      · have Hd := Lib.hid (tick_keep L now todo _ u hnd hN huL' hst)
        have h1 : (u != -4611686018427387904) = false ∨ decide (u ≤ now) = false := by
          unfold stays isOpen at hst; simp at hst
          rcases hst with h | h
          · left; simp [h]
          · right; simp; omega
        clear hst hxL huL
        have fin : (∃ (todo : List K4) (cnt : Nat), RangeAt M33 (w1.alloc (.cells #[.int .i64 p, .int .u8 a, .int .u8 b, .int .u8 c, .int .u8 d, .int .i64 t] 33)) m w.heap.size (tab (L.filter fun p => stays now p.2 || decide (p.1 ∈ todo))) todo cnt ∧ Fr (fun i => i = m) w (w1.alloc (.cells #[.int .i64 p, .int .u8 a, .int .u8 b, .int .u8 c, .int .u8 d, .int .i64 t] 33)) ∧ (w1.alloc (.cells #[.int .i64 p, .int .u8 a, .int .u8 b, .int .u8 c, .int .u8 d, .int .i64 t] 33)).heap[g]? = w.heap[g]?) ∧ 
            (w1.alloc (.cells #[.int .i64 p, .int .u8 a, .int .u8 b, .int .u8 c, .int .u8 d, .int .i64 t] 33)).rangeLeft m w.heap.size < wr.rangeLeft m w.heap.size := by
          have h2 := hrg1.heap (w' := w1.alloc (.cells #[.int .i64 p, .int .u8 a, .int .u8 b, .int .u8 c, .int .u8 d, .int .i64 t] 33)) (Below.heap_alloc _ _ _ hrg1.toMap.lt) (Below.heap_alloc _ _ _ hrg1.lt)
          refine ⟨⟨_, cnt1, Hd.out ▸ h2, f1.alloc _, (Below.heap_alloc _ _ _ (by have := f1.size; have := HT.out.ltg; omega)).trans g1⟩, ?_⟩
          rw [h2.left_eq, hrg.left_eq]; exact hlt
        have Fin := Lib.hid fin
        clear fin hlt g1 hrg hrg1
        rcases h1 with h1 | h1
        · go_wp2
          go_roundw
          case rel => exact Fin.out.1
          case measure => exact Fin.out.2
        · cases h2 : (u != -4611686018427387904)
          all_goals
            go_wp2
            go_roundw
            case rel => exact Fin.out.1
            case measure => exact Fin.out.2
end Go.Proofs.Ytcgghjjchfafiaa
