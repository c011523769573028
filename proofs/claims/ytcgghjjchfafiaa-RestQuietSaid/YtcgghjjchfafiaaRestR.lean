/- The walk of packhorselaw19.RestQuiet: it returns true at every list and turns nothing that was there. No condition. -/
import Derived.Test.YtcgghjjchfafiaaRestQ
namespace Go.Proofs.Ytcgghjjchfafiaa
open Go.RowKit Go.Maps

theorem upd_map {α β : Type} (f : α → β) (h : Nat → α) (n : Nat) (v : α) : upd (fun j => f (h j)) n (f v) = fun j => f (upd h n v j) := by
  funext j; unfold upd; split <;> rfl

def QS (w0 wr : World) (g m bo bs : Nat) (op : Nat → Bool) (si : Nat → Int) (now : Int) : Prop :=
  ∃ L, Quiet L op si now ∧ TabAt wr g m L ∧ Row40 wr bo 45 (fun j => .bool (op j)) ∧ Row40 wr bs 46 (fun j => .int .i64 (si j)) ∧ Fr (fun _ => False) w0 wr

theorem QS.tick {w0 w w' : World} {g m bo bs : Nat} {op : Nat → Bool} {si : Nat → Int} {now : Int} {L : List (K4 × Int)} (hQ : Quiet L op si now) (hT : TabAt w g m L) (ho : Row40 w bo 45 (fun j => .bool (op j))) (hs : Row40 w bs 46 (fun j => .int .i64 (si j)))
    (hf : Fr (fun _ => False) w0 w) (h1 : bo ≠ m) (h2 : bs ≠ m) (hm : w0.heap.size ≤ m) (hT' : TabAt w' g m (tickL L (now + 1))) (hf' : Fr (fun i => i = m) w w') : QS w0 w' g m bo bs op si (now + 1) :=
  ⟨_, quiet_tick hQ hT.nodup, hT', ho.fr hf' h1, hs.fr hf' h2, hf.far hf' hm⟩

theorem tmod40 (p : Int) : ∃ n : Nat, n < 40 ∧ (p.tmod 40 + 40) % 40 = n ∧ 0 ≤ p.tmod 40 + 40 ∧ -40 < p.tmod 40 ∧ p.tmod 40 < 40 := by
  have h1 := Int.tmod_lt_of_pos p (b := 40) (by omega)
  have h2 := Int.lt_tmod_of_pos p (b := 40) (by omega)
  refine ⟨((p.tmod 40 + 40) % 40).toNat, ?_, ?_, ?_, ?_, ?_⟩ <;> omega
theorem tmod20 (p : Int) : -20 < p.tmod 20 ∧ p.tmod 20 < 20 := ⟨Int.lt_tmod_of_pos p (by omega), Int.tmod_lt_of_pos p (by omega)⟩

set_option maxHeartbeats 2000000 in
set_option maxRecDepth 100000 in
theorem quiet4 (A : Option Addr) (b off cap : Nat) (l : List Op8) (w : World) (hA : 0 < l.length → A = some ⟨b, off, none⟩ ∧ OpsAt w b off l) (hlen : l.length * 40 ≤ 140737488351232) :
    Calls Try.prog 4 #[.slice A l.length cap] w fun e w' => e = .returned (.bool true) ∧ Fr (fun _ => False) w w' := by
  have HA := Lib.hid hA
  clear hA
  obtain ⟨len, hln⟩ : ∃ n, n = l.length := ⟨_, rfl⟩
  rw [← hln] at hlen ⊢
  have HN := Lib.hid hln
  clear hln
  go_enter Try.func4, Try.ntmps4
  go_wp2_with fail
  refine (awake14 _).mono ?_
  rintro e w1 ⟨rfl, f1⟩
  go_wp2_with fail
  refine (new15 _).mono ?_
  rintro e w2 ⟨g, m, rfl, T2, f2, hg, hm'⟩
  have f2 := f1.none f2
  have hm : w.heap.size ≤ m := by have := f1.size; omega
  clear f1 hg hm'
  go_wp2_with fail
  have T3 := (T2.alloc (.cells (row40 fun _ => .bool false) 45)).alloc (.cells (row40 fun _ => .int .i64 0) 46)
  have f3 := (f2.alloc (.cells (row40 fun _ => .bool false) 45)).alloc (.cells (row40 fun _ => .int .i64 0) 46)
  have ho3 : Row40 ((w2.alloc (.cells (row40 fun _ => .bool false) 45)).alloc (.cells (row40 fun _ => .int .i64 0) 46)) w2.heap.size 45 (fun j => .bool ((fun _ => false) j)) := heap_alloc2_old _ _ _
  have hs3 : Row40 ((w2.alloc (.cells (row40 fun _ => .bool false) 45)).alloc (.cells (row40 fun _ => .int .i64 0) 46)) (w2.heap.size + 1) 46 (fun j => .int .i64 ((fun _ => 0) j)) := heap_alloc2_new _ _ _
  obtain ⟨bo, hbo⟩ : ∃ b, b = w2.heap.size := ⟨_, rfl⟩
  have hb1 : w.heap.size ≤ bo := by have := f2.size; omega
  have hb2 : bo ≠ m := by have := T2.ltm; omega
  have hb3 : bo + 1 ≠ m := by have := T2.ltm; omega
  have hb4 : bo ≠ g := by have := T2.ltg; omega
  have hb5 : bo + 1 ≠ g := by have := T2.ltg; omega
  rw [← hbo] at ho3 hs3 ⊢
  clear T2 f2
  have e1 : (row40 fun _ => Value.bool false) = #[.bool false, .bool false, .bool false, .bool false, .bool false, .bool false, .bool false, .bool false, .bool false, .bool false, .bool false, .bool false, .bool false, .bool false, .bool false, .bool false, .bool false, .bool false, .bool false, .bool false, .bool false, .bool false, .bool false, .bool false, .bool false, .bool false, .bool false, .bool false, .bool false, .bool false, .bool false, .bool false, .bool false, .bool false, .bool false, .bool false, .bool false, .bool false, .bool false, .bool false] := by rfl
  have e2 : (row40 fun _ => Value.int .i64 0) = #[.int .i64 0, .int .i64 0, .int .i64 0, .int .i64 0, .int .i64 0, .int .i64 0, .int .i64 0, .int .i64 0, .int .i64 0, .int .i64 0, .int .i64 0, .int .i64 0, .int .i64 0, .int .i64 0, .int .i64 0, .int .i64 0, .int .i64 0, .int .i64 0, .int .i64 0, .int .i64 0, .int .i64 0, .int .i64 0, .int .i64 0, .int .i64 0, .int .i64 0, .int .i64 0, .int .i64 0, .int .i64 0, .int .i64 0, .int .i64 0, .int .i64 0, .int .i64 0, .int .i64 0, .int .i64 0, .int .i64 0, .int .i64 0, .int .i64 0, .int .i64 0, .int .i64 0, .int .i64 0] := by rfl
  rw [e1, e2] at T3 f3 ho3 hs3
  clear e1 e2
  generalize (w2.alloc (.cells _ 45)).alloc (.cells _ 46) = w3 at *
  have HT3 := Lib.hid T3
  have Hf3 := Lib.hid f3
  have Ho3 := Lib.hid ho3
  have Hs3 := Lib.hid hs3
  have Hbo := Lib.hid hbo
  clear T3 f3 ho3 hs3 hbo
  go_loopw [7] (fun v7 wr => ∃ i : Nat, v7 = .int .i64 i ∧ i ≤ 40 ∧ TabAt wr g m [] ∧ Row40 wr bo 45 (fun j => .bool ((fun _ => false) j)) ∧ Row40 wr (bo + 1) 46 (fun j => .int .i64 ((fun j => if j < i then -100 else 0) j)) ∧ Fr (fun _ => False) w wr) (fun v _ => 40 - (intOf v).toNat)
  case atStart => exact ⟨0, rfl, by omega, HT3.out, Ho3.out, Hs3.out, Hf3.out⟩
  case round =>
    clear HT3 Hf3 Ho3 Hs3
    obtain ⟨i, rfl, hi, hT, ho, hs, hf⟩ := hrel
    have HT := Lib.hid hT
    have Ho := Lib.hid ho
    have Hs := Lib.hid hs
    have Hf := Lib.hid hf
    clear hT ho hs hf
    by_cases h : i < 40
    · have c1 := Hs.out.cell h
      have g1 := Hs.out.free i
      have fin : ∃ i' : Nat, Value.int .i64 ((i : Int) + 1) = .int .i64 i' ∧ i' ≤ 40 ∧ TabAt (wr.setCell ⟨bo + 1, i, none⟩ (.int .i64 (-100))) g m [] ∧ Row40 (wr.setCell ⟨bo + 1, i, none⟩ (.int .i64 (-100))) bo 45 (fun j => .bool ((fun _ => false) j)) ∧
          Row40 (wr.setCell ⟨bo + 1, i, none⟩ (.int .i64 (-100))) (bo + 1) 46 (fun j => .int .i64 ((fun j => if j < i' then -100 else 0) j)) ∧ Fr (fun _ => False) w (wr.setCell ⟨bo + 1, i, none⟩ (.int .i64 (-100))) := by
        refine ⟨i + 1, by go_num, by omega, HT.out.heap (heap_setCell_other _ _ _ _ (by simpa using hb5.symm)) (heap_setCell_other _ _ _ _ (by simpa using hb3.symm)), Ho.out.far _ _ (by simp), ?_, Hf.out.setCell _ _ (by simp; omega)⟩
        have := Hs.out.set i (.int .i64 (-100))
        rw [upd_map (Value.int .i64)] at this
        rw [show (fun j => Value.int IntKind.i64 ((fun j => if j < i + 1 then -100 else 0) j)) = fun j => Value.int .i64 (upd (fun j => if j < i then -100 else 0) i (-100) j) from by
          funext j; unfold upd; congr 1; by_cases e : j = i
          · simp [e]
          · rw [if_neg e]; by_cases e' : j < i
            · show (if j < i + 1 then (-100 : Int) else 0) = (if j < i then -100 else 0)
              rw [if_pos e', if_pos (by omega)]
            · show (if j < i + 1 then (-100 : Int) else 0) = (if j < i then -100 else 0)
              rw [if_neg e', if_neg (by omega)]]
        exact this
      have Fin := Lib.hid fin
      clear fin
      go_wp2_with fail
      go_roundw
      case rel => exact Fin.out
      case measure => simp [intOf]; omega
    · have hQ : QS w wr g m bo (bo + 1) (fun _ => false) (fun _ => -100) 0 := by
        obtain rfl : i = 40 := by omega
        refine ⟨[], quiet_start, HT.out, Ho.out, ?_, Hf.out⟩
        have := Hs.out
        unfold Row40 at this ⊢
        rw [this]
        rfl
      have HQ := Lib.hid hQ
      clear hQ HT Ho Hs Hf
      have h40 : 40 ≤ (i : Int) := by omega
      clear hi h
      go_wp2_with fail
      go_loopw [8, 9] (fun v8 v9 wr => ∃ (k : Nat) (now : Int) (op : Nat → Bool) (si : Nat → Int), v9 = .int .i64 k ∧ k ≤ len ∧ v8 = .int .i64 now ∧ 0 ≤ now ∧ now ≤ 20 * k ∧ QS w wr g m bo (bo + 1) op si now) (fun _ v _ => len - (intOf v).toNat)
      case atStart => exact ⟨0, 0, _, _, rfl, by omega, rfl, by omega, by omega, HQ.out⟩
      case round =>
        clear HQ
        obtain ⟨k, now, op, si, rfl, hk, rfl, hnow0, hnow, hQ⟩ := hrel
        by_cases h : k < len
        · obtain ⟨eA, hl⟩ := HA.out (by rw [← HN.out]; omega)
          have HL := Lib.hid hl
          clear hl
          subst eA
          obtain ⟨o, hlo⟩ : ∃ o, l[k]? = some o := ⟨_, List.getElem?_eq_getElem (by rw [← HN.out]; exact h)⟩
          obtain ⟨hok, c0, c1, -, -, -, -, -, c7⟩ := (HL.out.fr hQ.choose_spec.2.2.2.2).2 k o hlo
          have Hlo := Lib.hid hlo
          clear hlo
          clear hok
          obtain ⟨L, hQ, hT, ho, hs, hf⟩ := hQ
          have hwt := tmod20 o.wait
          obtain ⟨n, hn40, hn, hp0, hp1, hp2⟩ := tmod40 o.p
          have Hn := Lib.hid hn
          clear hn
          have HQ := Lib.hid hQ
          have HT := Lib.hid (hT.alloc (.cells #[.int .i64 n, .int .u8 0, .int .u8 0, .int .u8 0, .int .u8 0, .int .i64 1] 33))
          have Hf := Lib.hid (hf.alloc (.cells #[.int .i64 n, .int .u8 0, .int .u8 0, .int .u8 0, .int .u8 0, .int .i64 1] 33))
          have Ho := Lib.hid (ho.fr ((Fr.refl (fun _ => False) wr).alloc (.cells #[.int .i64 n, .int .u8 0, .int .u8 0, .int .u8 0, .int .u8 0, .int .i64 1] 33)) (fun e => e))
          have Hs := Lib.hid (hs.fr ((Fr.refl (fun _ => False) wr).alloc (.cells #[.int .i64 n, .int .u8 0, .int .u8 0, .int .u8 0, .int .u8 0, .int .i64 1] 33)) (fun e => e))
          have hkb := heap_alloc_new wr (.cells #[.int .i64 n, .int .u8 0, .int .u8 0, .int .u8 0, .int .u8 0, .int .i64 1] 33)
          have hkm : wr.heap.size ≠ m := by have := hT.ltm; omega
          have hkg : wr.heap.size ≠ g := by have := hT.ltg; omega
          have hkw : w.heap.size ≤ wr.heap.size := hf.size
          have hko : wr.heap.size ≠ bo := by have := lt_of_block ho; omega
          have hks : wr.heap.size ≠ bo + 1 := by have := lt_of_block hs; omega
          generalize hB : wr.heap.size = B at *
          have Hkb := Lib.hid hkb
          have HB := Lib.hid hB
          clear hkb hB hQ hT ho hs hf
          go_upto_region 16 with (fail)
          rw [Hn.out]
          go_upto_region 17 with (fail)
          rw [HB.out]
          generalize wr.alloc (.cells #[.int .i64 n, .int .u8 0, .int .u8 0, .int .u8 0, .int .u8 0, .int .i64 1] 33) = w4 at *
          clear c0 c1 c7 HB
          have c7 : w4.cell? ⟨b, off + k * 8 + 7, none⟩ = some (.int .i64 o.wait) := by obtain ⟨-, -, -, -, -, -, -, -, c⟩ := (HL.out.fr Hf.out).2 k o Hlo.out; exact c
          have HW := Lib.hid (show QS w w4 g m bo (bo + 1) op si now from ⟨L, HQ.out, HT.out, Ho.out, Hs.out, Hf.out⟩)
          clear HQ HT Ho Hs Hf
          go_wp2_with fail
          go_loopw [8, 12] (fun v8 v12 wr => ∃ q now : Int, v12 = .int .i64 q ∧ v8 = .int .i64 now ∧ q < 20 ∧ -20 < q ∧ 0 ≤ now ∧ now ≤ 20 * k + 19 ∧ now + q ≤ 20 * k + 19 ∧ QS w wr g m bo (bo + 1) op si now ∧ Hid (wr.heap[B]? = some (.cells #[.int .i64 n, .int .u8 0, .int .u8 0, .int .u8 0, .int .u8 0, .int .i64 1] 33 (0, 0)))) (fun _ v _ => (intOf v).toNat)
          case atStart => exact ⟨_, now, rfl, rfl, by omega, by omega, by omega, by omega, by omega, HW.out, Hkb.out⟩
          case round =>
            clear HW Hkb c7 hnow0 hnow hwt
            obtain ⟨q, now, rfl, rfl, hq0, hq1, hnow0, hnow, hnq, hW, Hkb⟩ := hrel
            have HW := Lib.hid hW
            clear hW
            by_cases hq : 0 < q
            · obtain ⟨L, hQ, hT, ho, hs, hf⟩ := HW.out
              have HQ := Lib.hid hQ
              have HT := Lib.hid hT
              have Ho := Lib.hid ho
              have Hs := Lib.hid hs
              have Hf := Lib.hid hf
              clear hQ hT ho hs hf HW
              go_wp2_with fail
              refine (tick20 g m L (now + 1) _ HT.out).mono ?_
              rintro e w5 ⟨rfl, T5, f5⟩
              have W5 := QS.tick HQ.out HT.out Ho.out Hs.out Hf.out hb2 hb3 hm T5 f5
              have K5 := (f5.block B (lt_of_block Hkb.out) hkm).trans Hkb.out
              have Fin := Lib.hid (And.intro W5 K5)
              clear T5 f5 W5 K5 HQ HT Ho Hs Hf
              go_wp2_with fail
              go_roundw
              case rel => exact ⟨q - 1, now + 1, by go_num, rfl, by omega, by omega, by omega, by omega, by omega, Fin.out.1, Fin.out.2⟩
              case measure => simp [intOf]; omega
            · clear hq0 hq1 hnq
              have c0 : wr.cell? ⟨b, off + k * 8, none⟩ = some (.int .i64 o.kind) := by obtain ⟨-, c, -⟩ := (HL.out.fr HW.out.choose_spec.2.2.2.2).2 k o Hlo.out; exact c
              go_upto_if 69 with (fail)
              go_cut [13] (fun _ wc => ∃ (op : Nat → Bool) (si : Nat → Int), QS w wc g m bo (bo + 1) op si now)
              case first =>
                clear c0
                obtain ⟨L, hQ, hT, ho, hs, hf⟩ := HW.out
                have HQ := Lib.hid hQ
                have HT := Lib.hid hT
                have Ho := Lib.hid ho
                have Hs := Lib.hid hs
                have Hf := Lib.hid hf
                have Hfew := Lib.hid hQ.few
                clear hQ ho hs hf HW
                obtain ⟨k0, k1, k2, k3, k4, k5⟩ := six Hkb.out
                cases hb : (o.kind.tmod 2 == 0)
                · -- Close
                  cases hop : op n
                  · have Hop := Lib.hid hop
                    clear hop
                    go_wp2_with fail
                    refine (close18 g m L n 0 0 0 0 1 now _ (qk_ok n (by omega)) HT.out (by have := Hfew.out; omega) (by omega) (by omega)).mono ?_
                    rintro e w5 ⟨rfl, T5, f5⟩
                    rw [quiet_close HQ.out hn40, Hop.out]
                    rw [quiet_not HQ.out hn40 Hop.out] at T5
                    have o5 := Ho.out.fr f5 hb2
                    have s5 := Hs.out.fr f5 hb3
                    have W5 : QS w w5 g m bo (bo + 1) op si now := ⟨L, HQ.out, T5, o5, s5, Hf.out.far f5 hm⟩
                    have co := o5.cell hn40
                    simp only [Hop.out] at co
                    have HW5 := Lib.hid W5
                    clear W5 T5 f5 o5 s5 k0 k1 k2 k3 k4 k5
                    go_wp2_with fail
                    go_meet
                    exact ⟨_, _, HW5.out⟩
                  · have Hop := Lib.hid hop
                    clear hop
                    go_wp2_with fail
                    refine (close18 g m L n 0 0 0 0 1 now _ (qk_ok n (by omega)) HT.out (by have := Hfew.out; omega) (by omega) (by omega)).mono ?_
                    rintro e w5 ⟨rfl, T5, f5⟩
                    rw [quiet_close HQ.out hn40, Hop.out]
                    have o5 := Ho.out.fr f5 hb2
                    have s5 := Hs.out.fr f5 hb3
                    have f5 := Hf.out.far f5 hm
                    have co := o5.cell hn40
                    simp only [Hop.out] at co
                    have go5 := o5.free n
                    have gs5 := s5.free n
                    have cs5 := s5.cell hn40
                    have W5 : QS w ((w5.setCell ⟨bo, n, none⟩ (.bool false)).setCell ⟨bo + 1, n, none⟩ (.int .i64 now)) g m bo (bo + 1) (upd op n false) (upd si n now) now := by
                      refine ⟨_, quiet_closed HQ.out hn40 HT.out.nodup Hop.out, ?_, ?_, ?_, ?_⟩
                      · exact (T5.heap (w' := w5.setCell ⟨bo, n, none⟩ (.bool false)) (heap_setCell_other _ _ _ _ hb4.symm) (heap_setCell_other _ _ _ _ hb2.symm)).heap (heap_setCell_other _ _ _ _ hb5.symm) (heap_setCell_other _ _ _ _ hb3.symm)
                      · have := (o5.set n (.bool false)).far ⟨bo + 1, n, none⟩ (.int .i64 now) (by simp)
                        rw [upd_map Value.bool] at this
                        exact this
                      · have := (s5.far ⟨bo, n, none⟩ (.bool false) (by simp)).set n (.int .i64 now)
                        rw [upd_map (Value.int .i64)] at this
                        exact this
                      · exact (f5.setCell _ _ (by simp; omega)).setCell _ _ (by simp; omega)
                    have HW5 := Lib.hid W5
                    clear W5 T5 f5 o5 s5 k0 k1 k2 k3 k4 k5
                    go_wp2_with fail
                    go_meet
                    exact ⟨_, _, HW5.out⟩
                · -- Open
                  by_cases hm0 : mayF L ⟨n, 0, 0, 0, 0, 1⟩ = 0
                  · obtain ⟨hop, h8⟩ := quiet_may HQ.out hn40 hm0
                    have hlo := HQ.out.lo n
                    have hhi := HQ.out.hi n
                    have Hop := Lib.hid hop
                    have Hm0 := Lib.hid hm0
                    clear hop hm0
                    go_wp2_with fail
                    refine (open16 g m L n 0 0 0 0 1 _ (qk_ok n (by omega)) HT.out (by have := Hfew.out; omega)).mono ?_
                    rintro e w5 ⟨rfl, T5, f5⟩
                    rw [Hm0.out]
                    have o5 := Ho.out.fr f5 hb2
                    have s5 := Hs.out.fr f5 hb3
                    have f5 := Hf.out.far f5 hm
                    have co := o5.cell hn40
                    simp only [Hop.out] at co
                    have go5 := o5.free n
                    have cs5 := s5.cell hn40
                    have W5 : QS w (w5.setCell ⟨bo, n, none⟩ (.bool true)) g m bo (bo + 1) (upd op n true) si now := by
                      refine ⟨_, quiet_open HQ.out hn40 Hm0.out, ?_, ?_, ?_, ?_⟩
                      · exact T5.heap (heap_setCell_other _ _ _ _ hb4.symm) (heap_setCell_other _ _ _ _ hb2.symm)
                      · have := o5.set n (.bool true)
                        rw [upd_map Value.bool] at this
                        exact this
                      · exact s5.far ⟨bo, n, none⟩ (.bool true) (by simp)
                      · exact f5.setCell _ _ (by simp; omega)
                    have HW5 := Lib.hid W5
                    generalize si n = sn at *
                    clear W5 T5 f5 o5 s5 k0 k1 k2 k3 k4 k5
                    go_wp2_with fail
                    go_meet
                    exact ⟨_, _, HW5.out⟩
                  · have hm1 : (mayF L ⟨n, 0, 0, 0, 0, 1⟩ == 0) = false := by simpa using hm0
                    have hoL := openL_full hm0
                    obtain ⟨r, hr⟩ : ∃ r, mayF L ⟨n, 0, 0, 0, 0, 1⟩ = r := ⟨_, rfl⟩
                    rw [hr] at hm1
                    have HoL := Lib.hid hoL
                    have Hr := Lib.hid hr
                    clear hm0 hoL hr
                    go_wp2_with fail
                    refine (open16 g m L n 0 0 0 0 1 _ (qk_ok n (by omega)) HT.out (by have := Hfew.out; omega)).mono ?_
                    rintro e w5 ⟨rfl, T5, f5⟩
                    rw [Hr.out]
                    rw [HoL.out] at T5
                    have W5 : QS w w5 g m bo (bo + 1) op si now := ⟨L, HQ.out, T5, Ho.out.fr f5 hb2, Hs.out.fr f5 hb3, Hf.out.far f5 hm⟩
                    have HW5 := Lib.hid W5
                    clear W5 T5 f5 k0 k1 k2 k3 k4 k5
                    go_wp2_with fail
                    go_meet
                    exact ⟨_, _, HW5.out⟩
              case rest =>
                clear HW Hkb c0
                obtain ⟨op, si, hW⟩ := hcut
                have HW := Lib.hid hW
                clear hW
                go_wp2_with fail
                go_loopw [15, 16] (fun v15 v16 wr => ∃ j : Nat, v16 = .int .i64 j ∧ j ≤ 40 ∧ v15 = .int .i64 (manyTo op si now j) ∧ QS w wr g m bo (bo + 1) op si now) (fun _ v _ => 40 - (intOf v).toNat)
                case atStart => exact ⟨0, rfl, by omega, rfl, HW.out⟩
                case round =>
                  clear HW
                  obtain ⟨j, rfl, hj, rfl, hW⟩ := hrel
                  obtain ⟨L, hQ, hT, ho, hs, hf⟩ := hW
                  have HQ := Lib.hid hQ
                  have HT := Lib.hid hT
                  have Hf := Lib.hid hf
                  have Ho := Lib.hid ho
                  have Hs := Lib.hid hs
                  have hml := many_le op si now j
                  clear hQ hT hf ho hs
                  by_cases hj40 : j < 40
                  · have co := Ho.out.cell hj40
                    have cs := Hs.out.cell hj40
                    have hlo := HQ.out.lo j
                    have hhi := HQ.out.hi j
                    have Hm := Lib.hid (many_succ op si now j)
                    cases hop : op j
                    · have Hop := Lib.hid hop
                      have W5 := Lib.hid (show QS w wr g m bo (bo + 1) op si now from ⟨L, HQ.out, HT.out, Ho.out, Hs.out, Hf.out⟩)
                      simp only [hop] at co
                      clear hop
                      by_cases h8 : now - si j < 8
                      all_goals
                        go_wp2_with fail
                        go_roundw
                        case rel => exact ⟨j + 1, by go_num, by omega, by rw [Hm.out, Hop.out]; simp [h8], W5.out⟩
                        case measure => simp [intOf]; omega
                    · have Hop := Lib.hid hop
                      simp only [hop] at co
                      clear hop
                      go_wp2_with fail
                      refine (may22 g m L j 0 0 0 0 1 _ (qk_ok j (by omega)) HT.out).mono ?_
                      rintro e w5 ⟨rfl, f5⟩
                      rw [quiet_is HQ.out hj40 Hop.out]
                      have W5 := Lib.hid (show QS w w5 g m bo (bo + 1) op si now from ⟨L, HQ.out, HT.out.fr f5, Ho.out.fr f5 (fun e => e), Hs.out.fr f5 (fun e => e), Hf.out.none f5⟩)
                      clear f5
                      go_wp2_with fail
                      go_roundw
                      case rel => exact ⟨j + 1, by go_num, by omega, by rw [Hm.out, Hop.out]; simp, W5.out⟩
                      case measure => simp [intOf]; omega
                  · obtain rfl : j = 40 := by omega
                    have hlen := quiet_len HQ.out HT.out.nodup
                    have hfew := HQ.out.few
                    rw [hlen] at hfew
                    have W5 := Lib.hid (show QS w wr g m bo (bo + 1) op si now from ⟨L, HQ.out, HT.out, Ho.out, Hs.out, Hf.out⟩)
                    have Hlen := Lib.hid hlen
                    clear hlen
                    go_wp2_with fail
                    refine (len26 g m L _ HT.out).mono ?_
                    rintro e w5 ⟨rfl, rfl⟩
                    rw [Hlen.out]
                    go_wp2_with fail
                    go_roundw
                    case rel => exact ⟨k + 1, now, op, si, by go_num, by omega, rfl, by omega, by omega, W5.out⟩
                    case measure => simp [intOf]; omega
        · go_wp2_with fail
          go_ret
          exact ⟨rfl, hQ.choose_spec.2.2.2.2⟩
end Go.Proofs.Ytcgghjjchfafiaa
