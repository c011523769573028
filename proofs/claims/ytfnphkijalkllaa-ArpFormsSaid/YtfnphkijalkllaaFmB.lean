/- Law 8: the reference's Encode. No condition. -/
import Derived.Test.YtfnphkijalkllaaFmA
namespace Go.Proofs.Ytfnphkijalkllaa
set_option linter.unusedVariables false
set_option linter.unusedSimpArgs false
open Go.RowKit
def bl (l : List Int) : List Value := l.map (.int .u8 ·)
theorem bl_app (a b : List Int) : bl (a ++ b) = bl a ++ bl b := by simp [bl]
theorem st55 : SlTy Try.prog 55 5 1 1 (.int .u8 0) := ⟨Try.underlying55, by kernel_rfl, rfl, by decide⟩
theorem src55 {w : World} {b : Nat} {x : Int} (h : w.heap[b]? = some (.cells #[.int .u8 x] 5)) : Src Try.prog 1 55 (.slice (some ⟨b, 0, none⟩) 1 1) 1 [.int .u8 x] w :=
  Src.ofSlice (w := w) Try.underlying55 ⟨b, 0, none⟩ 1 1 _ rfl (fun j u hj => by rw [Addr.add_mid]; exact range_at w b [.int .u8 x] 5 h j u hj) (by simp [Value.oneCell'])
theorem take_next {l : List Int} {j : Nat} {x : Int} (h : l[j]? = some x) : l.take (j + 1) = l.take j ++ [x] := by rw [List.take_add_one, h]; rfl
theorem Sl.bytes {N n : Nat} {w : World} {v : Value} {l : List Int} (h : Sl N 5 1 w v n (bl l)) : ∃ A c, v = .slice A n c ∧ l.length = n ∧ BytesIn w.heap.size w A l := by
  have hl : l.length = n := by have := h.1; simp [bl] at this; omega
  rcases h.2 with ⟨rfl, h0⟩ | ⟨g, off, cap, cur, rfl, hb, hg, h1, h2, h3, h4⟩
  · exact ⟨none, 0, by rw [h0], hl, fun hp => by omega⟩
  · refine ⟨_, _, rfl, hl, fun hp => ⟨g, off, rfl, lt_of_block hg, fun j x hj => ?_⟩⟩
    have hn0 : 0 < n := by omega
    obtain ⟨g', off', cap', hv, _, _, _, _, hc, _⟩ := h.form1 hn0
    injection hv with e1 _ _
    injection e1 with e1
    injection e1 with e1 e2
    subst e1; subst e2
    exact hc j _ (by simp [bl, hj])
set_option maxRecDepth 100000 in
set_option maxHeartbeats 4000000 in
theorem renc21_bad (a : Rq) (ha : a.ok) (hb : a.sm.a % 2 = 1) (w : World) : Calls Try.prog 21 #[.agg a.cells.toArray] w fun e w' => e = .returned (.tuple #[.slice none 0 0, .int .i64 1]) ∧ Fr (fun _ => False) w w' := by
  have FA := Lib.hid (Fr.refl (fun _ => False) w)
  have hrem : a.sm.a.tmod 2 = 1 := by rw [rem_two ha.sm.1, hb]
  go_enter Try.func21, Try.ntmps21
  go_upto_region 1 with (fail)
  have hc := cells_at _ w.heap.size a.cells 33 (heap_alloc_new w (.cells a.cells.toArray 33)) 1 (.int .u8 a.sm.a) rfl
  go_wp2_with fail
  exact bodyPost_ret (v := .tuple #[.slice none 0 0, .int .i64 1]) (by simp [results, Try.results21, go_sem]) rfl ⟨rfl, FA.out.alloc _⟩
set_option maxRecDepth 100000 in
set_option maxHeartbeats 8000000 in
theorem renc21_ok (a : Rq) (ha : a.ok) (hb : ¬ a.sm.a % 2 = 1) (w : World) : Calls Try.prog 21 #[.agg a.cells.toArray] w fun e w' => ∃ v, e = .returned (.tuple #[v, .int .i64 0]) ∧ Sl w.heap.size 5 1 w' v 28 (bl (ab a)) ∧ Fr (fun _ => False) w w' := by
  have FA := Lib.hid (Fr.refl (fun _ => False) w)
  have hrem : a.sm.a.tmod 2 = a.sm.a % 2 := rem_two ha.sm.1
  have hnb : ¬ (a.sm.a % 2 = 1) := hb
  go_enter Try.func21, Try.ntmps21
  go_upto_region 1 with (fail)
  obtain ⟨h1, h2, h3⟩ := one_new w a.cells.toArray 33
  have hc := cells_at _ w.heap.size a.cells 33 h1 1 (.int .u8 a.sm.a) rfl
  have hc0 := cells_at _ w.heap.size a.cells 33 h1 0 (.bool a.ans) rfl
  generalize w.alloc (.cells a.cells.toArray 33) = w1 at h1 h2 h3 hc hc0 ⊢
  obtain ⟨b1, eb1⟩ : ∃ k, w.heap.size = k := ⟨_, rfl⟩
  have ZB := Lib.hid (show w.heap.size ≤ w1.heap.size from h2.size)
  rw [eb1] at h1 hc hc0 ⊢
  have B0 := Lib.hid h1
  have F1 := Lib.hid h2
  clear h1 h2 h3 eb1
  go_upto_region 4 with (fail)
  go_upto_if 16 with (fail)
  go_cut [4] (fun v4 wc => v4 = .int .u8 (opb a.ans) ∧ wc = w1)
  case first =>
    obtain ⟨an, han⟩ : ∃ an, a.ans = an := ⟨_, rfl⟩
    rw [han]
    cases an <;> (go_wp2_with fail; go_meet; first | exact ⟨rfl, rfl⟩ | exact ⟨by rw [han]; rfl, rfl⟩)
  case rest =>
  obtain ⟨rfl, hwc⟩ := hcut
  subst hwc
  clear hc hc0 hrem hnb
  go_upto_region 7 with (fail)
  have S0 := Lib.hid (show Sl wc.heap.size 5 1 (wc.alloc (.cells #[.int .u8 0, .int .u8 1, .int .u8 8, .int .u8 0, .int .u8 6, .int .u8 4, .int .u8 0, .int .u8 (opb a.ans)] 5)) (.slice (some ⟨wc.heap.size, 0, none⟩) 8 8) 8 (bl ([0, 1, 8, 0, 6, 4, 0, opb a.ans] ++ (mb a.sm).take 0)) from Sl.made wc _ 5 1 8 rfl (by simp only [maxLen]; omega) (Nat.le_refl _))
  have F0 := Lib.hid ((Fr.refl (fun _ => False) wc).alloc (.cells #[.int .u8 0, .int .u8 1, .int .u8 8, .int .u8 0, .int .u8 6, .int .u8 4, .int .u8 0, .int .u8 (opb a.ans)] 5))
  have F1w := Lib.hid F1.out
  go_wp2_with fail
  go_loopw [5, 6] (fun u5 u6 wr => ∃ (j : Nat) (A : Option Addr) (c : Nat), u6 = .int .i64 (j : Int) ∧ j ≤ 6 ∧ u5 = .slice A (8 + j) c ∧ Sl wc.heap.size 5 1 wr (.slice A (8 + j) c) (8 + j) (bl (([0, 1, 8, 0, 6, 4, 0, opb a.ans] : List Int) ++ (mb a.sm).take j)) ∧ Fr (fun _ => False) wc wr) (fun _ v _ => 6 - (intOf v).toNat)
  case atStart => exact ⟨0, _, _, rfl, Nat.zero_le _, rfl, S0.out, F0.out⟩
  case round =>
    obtain ⟨j, A, c, rfl, hj, rfl, hs, hf⟩ := hrel
    have HS := Lib.hid hs
    have HF := Lib.hid hf
    clear hs hf S0 F0
    by_cases hlt : j < 6
    · obtain ⟨x, hx⟩ : ∃ x, (mb a.sm)[j]? = some x := ⟨_, List.getElem?_eq_getElem (show j < 6 from hlt)⟩
      have HX := Lib.hid hx
      have cx : wr.cell? ⟨b1, 1 + j, none⟩ = some (.int .u8 x) := cells_at wr b1 a.cells 33 ((HF.out.block b1 (lt_of_block B0.out) (fun e => e)).trans B0.out) (1 + j) _ (rq_sm (six_at hx))
      have hltI : (j : Int) < 6 := by omega
      obtain ⟨b4, eb4⟩ : ∃ k, wr.heap.size = k := ⟨_, rfl⟩
      obtain ⟨w4, ew4⟩ : ∃ y, wr.alloc (.cells #[.int .u8 x] 5) = y := ⟨_, rfl⟩
      have H4 := Lib.hid (show w4.heap[b4]? = some (.cells #[.int .u8 x] 5) ∧ Fr (fun _ => False) wr w4 from by have h := one_new wr #[.int .u8 x] 5; rw [ew4, eb4] at h; exact ⟨h.1, h.2.1⟩)
      have E4 := Lib.hid (And.intro ew4 eb4)
      have ZW := Lib.hid (show wc.heap.size ≤ w4.heap.size from by have h2 := HF.out.size; have h3 := H4.out.2.size; omega)
      have HS4 := Lib.hid (HS.out.fr0 H4.out.2)
      clear ew4 eb4 hx
      iterate 60 (first
        | (have := MK6; clear this)
        | (have := MK5; refine wpList_append_sl (base := wc.heap.size) rfl _ _ rfl st55 (.slice A (8 + j) c) (8 + j) (bl (([0, 1, 8, 0, 6, 4, 0, opb a.ans] : List Int) ++ (mb a.sm).take j)) rfl HS4.out _ 1 [.int .u8 x] rfl (src55 H4.out.1) (by simp only [maxLen]; omega) (by omega) ZW.out ?_; clear this; rintro v5 w5 hs hg ho hn; obtain ⟨A5, cp5, hv5, _, _⟩ := hs.form; subst hv5; have S5 := Lib.hid hs; have F5 := Lib.hid (show Fr (fun _ => False) wc w5 from (HF.out.then' H4.out.2).grown hg (fun r e hr => by have h1 := (HS4.out.lt r e).1; omega)); clear hs hg ho hn; have MK6 := Lib.hid True.intro)
        | (have := E4; rw [this.out.1, this.out.2]; clear this; have MK5 := Lib.hid True.intro; clear E4)
        | go_step)
      go_wp2_with fail
      refine ⟨⟨j + 1, A5, cp5, by go_num, by omega, rfl, ?_, F5.out⟩, by simp [intOf]; omega⟩
      rw [take_next HX.out, ← List.append_assoc, bl_app]
      exact S5.out
    · obtain ⟨w8, hw8⟩ : ∃ y, y = wr := ⟨_, rfl⟩
      subst hw8
      have hj6 : j = 6 := by omega
      subst hj6
      simp only [show ((6 : Nat) : Int) = 6 from rfl]
      have S1 := Lib.hid (show Sl wc.heap.size 5 1 w8 (.slice A 14 c) 14 (bl (([0, 1, 8, 0, 6, 4, 0, opb a.ans] : List Int) ++ mb a.sm)) from HS.out)
      have F1 := Lib.hid HF.out
      clear HS HF hlt hj
      go_wp2_with fail
      go_loopw [5, 7] (fun u5 u6 wr => ∃ (j : Nat) (A : Option Addr) (c : Nat), u6 = .int .i64 (j : Int) ∧ j ≤ 4 ∧ u5 = .slice A (14 + j) c ∧ Sl wc.heap.size 5 1 wr (.slice A (14 + j) c) (14 + j) (bl ((([0, 1, 8, 0, 6, 4, 0, opb a.ans] : List Int) ++ mb a.sm) ++ (ib a.si).take j)) ∧ Fr (fun _ => False) wc wr) (fun _ v _ => 4 - (intOf v).toNat)
      case atStart => exact ⟨0, _, _, rfl, Nat.zero_le _, rfl, by rw [List.take_zero, List.append_nil]; exact S1.out, F1.out⟩
      case round =>
        obtain ⟨j, A, c, rfl, hj, rfl, hs, hf⟩ := hrel
        have HS := Lib.hid hs
        have HF := Lib.hid hf
        clear hs hf S1 F1
        by_cases hlt : j < 4
        · obtain ⟨x, hx⟩ : ∃ x, (ib a.si)[j]? = some x := ⟨_, List.getElem?_eq_getElem (show j < 4 from hlt)⟩
          have HX := Lib.hid hx
          have cx : wr.cell? ⟨b1, 7 + j, none⟩ = some (.int .u8 x) := cells_at wr b1 a.cells 33 ((HF.out.block b1 (lt_of_block B0.out) (fun e => e)).trans B0.out) (7 + j) _ (rq_si (four_at hx))
          have hltI : (j : Int) < 4 := by omega
          obtain ⟨b4, eb4⟩ : ∃ k, wr.heap.size = k := ⟨_, rfl⟩
          obtain ⟨w4, ew4⟩ : ∃ y, wr.alloc (.cells #[.int .u8 x] 5) = y := ⟨_, rfl⟩
          have H4 := Lib.hid (show w4.heap[b4]? = some (.cells #[.int .u8 x] 5) ∧ Fr (fun _ => False) wr w4 from by have h := one_new wr #[.int .u8 x] 5; rw [ew4, eb4] at h; exact ⟨h.1, h.2.1⟩)
          have E4 := Lib.hid (And.intro ew4 eb4)
          have ZW := Lib.hid (show wc.heap.size ≤ w4.heap.size from by have h2 := HF.out.size; have h3 := H4.out.2.size; omega)
          have HS4 := Lib.hid (HS.out.fr0 H4.out.2)
          clear ew4 eb4 hx
          iterate 60 (first
            | (have := MK6; clear this)
            | (have := MK5; refine wpList_append_sl (base := wc.heap.size) rfl _ _ rfl st55 (.slice A (14 + j) c) (14 + j) (bl ((([0, 1, 8, 0, 6, 4, 0, opb a.ans] : List Int) ++ mb a.sm) ++ (ib a.si).take j)) rfl HS4.out _ 1 [.int .u8 x] rfl (src55 H4.out.1) (by simp only [maxLen]; omega) (by omega) ZW.out ?_; clear this; rintro v5 w5 hs hg ho hn; obtain ⟨A5, cp5, hv5, _, _⟩ := hs.form; subst hv5; have S5 := Lib.hid hs; have F5 := Lib.hid (show Fr (fun _ => False) wc w5 from (HF.out.then' H4.out.2).grown hg (fun r e hr => by have h1 := (HS4.out.lt r e).1; omega)); clear hs hg ho hn; have MK6 := Lib.hid True.intro)
            | (have := E4; rw [this.out.1, this.out.2]; clear this; have MK5 := Lib.hid True.intro; clear E4)
            | go_step)
          go_wp2_with fail
          refine ⟨⟨j + 1, A5, cp5, by go_num, by omega, rfl, ?_, F5.out⟩, by simp [intOf]; omega⟩
          rw [take_next HX.out, ← List.append_assoc, bl_app]
          exact S5.out
        · obtain ⟨w8, hw8⟩ : ∃ y, y = wr := ⟨_, rfl⟩
          subst hw8
          have hj4 : j = 4 := by omega
          subst hj4
          simp only [show ((4 : Nat) : Int) = 4 from rfl]
          have S2 := Lib.hid (show Sl wc.heap.size 5 1 w8 (.slice A 18 c) 18 (bl ((([0, 1, 8, 0, 6, 4, 0, opb a.ans] : List Int) ++ mb a.sm) ++ ib a.si)) from HS.out)
          have F2 := Lib.hid HF.out
          clear HS HF hlt hj
          go_wp2_with fail
          go_loopw [5, 8] (fun u5 u6 wr => ∃ (j : Nat) (A : Option Addr) (c : Nat), u6 = .int .i64 (j : Int) ∧ j ≤ 6 ∧ u5 = .slice A (18 + j) c ∧ Sl wc.heap.size 5 1 wr (.slice A (18 + j) c) (18 + j) (bl (((([0, 1, 8, 0, 6, 4, 0, opb a.ans] : List Int) ++ mb a.sm) ++ ib a.si) ++ (mb a.dm).take j)) ∧ Fr (fun _ => False) wc wr) (fun _ v _ => 6 - (intOf v).toNat)
          case atStart => exact ⟨0, _, _, rfl, Nat.zero_le _, rfl, by rw [List.take_zero, List.append_nil]; exact S2.out, F2.out⟩
          case round =>
            obtain ⟨j, A, c, rfl, hj, rfl, hs, hf⟩ := hrel
            have HS := Lib.hid hs
            have HF := Lib.hid hf
            clear hs hf S2 F2
            by_cases hlt : j < 6
            · obtain ⟨x, hx⟩ : ∃ x, (mb a.dm)[j]? = some x := ⟨_, List.getElem?_eq_getElem (show j < 6 from hlt)⟩
              have HX := Lib.hid hx
              have cx : wr.cell? ⟨b1, 11 + j, none⟩ = some (.int .u8 x) := cells_at wr b1 a.cells 33 ((HF.out.block b1 (lt_of_block B0.out) (fun e => e)).trans B0.out) (11 + j) _ (rq_dm (six_at hx))
              have hltI : (j : Int) < 6 := by omega
              obtain ⟨b4, eb4⟩ : ∃ k, wr.heap.size = k := ⟨_, rfl⟩
              obtain ⟨w4, ew4⟩ : ∃ y, wr.alloc (.cells #[.int .u8 x] 5) = y := ⟨_, rfl⟩
              have H4 := Lib.hid (show w4.heap[b4]? = some (.cells #[.int .u8 x] 5) ∧ Fr (fun _ => False) wr w4 from by have h := one_new wr #[.int .u8 x] 5; rw [ew4, eb4] at h; exact ⟨h.1, h.2.1⟩)
              have E4 := Lib.hid (And.intro ew4 eb4)
              have ZW := Lib.hid (show wc.heap.size ≤ w4.heap.size from by have h2 := HF.out.size; have h3 := H4.out.2.size; omega)
              have HS4 := Lib.hid (HS.out.fr0 H4.out.2)
              clear ew4 eb4 hx
              iterate 60 (first
                | (have := MK6; clear this)
                | (have := MK5; refine wpList_append_sl (base := wc.heap.size) rfl _ _ rfl st55 (.slice A (18 + j) c) (18 + j) (bl (((([0, 1, 8, 0, 6, 4, 0, opb a.ans] : List Int) ++ mb a.sm) ++ ib a.si) ++ (mb a.dm).take j)) rfl HS4.out _ 1 [.int .u8 x] rfl (src55 H4.out.1) (by simp only [maxLen]; omega) (by omega) ZW.out ?_; clear this; rintro v5 w5 hs hg ho hn; obtain ⟨A5, cp5, hv5, _, _⟩ := hs.form; subst hv5; have S5 := Lib.hid hs; have F5 := Lib.hid (show Fr (fun _ => False) wc w5 from (HF.out.then' H4.out.2).grown hg (fun r e hr => by have h1 := (HS4.out.lt r e).1; omega)); clear hs hg ho hn; have MK6 := Lib.hid True.intro)
                | (have := E4; rw [this.out.1, this.out.2]; clear this; have MK5 := Lib.hid True.intro; clear E4)
                | go_step)
              go_wp2_with fail
              refine ⟨⟨j + 1, A5, cp5, by go_num, by omega, rfl, ?_, F5.out⟩, by simp [intOf]; omega⟩
              rw [take_next HX.out, ← List.append_assoc, bl_app]
              exact S5.out
            · obtain ⟨w8, hw8⟩ : ∃ y, y = wr := ⟨_, rfl⟩
              subst hw8
              have hj6 : j = 6 := by omega
              subst hj6
              simp only [show ((6 : Nat) : Int) = 6 from rfl]
              have S3 := Lib.hid (show Sl wc.heap.size 5 1 w8 (.slice A 24 c) 24 (bl (((([0, 1, 8, 0, 6, 4, 0, opb a.ans] : List Int) ++ mb a.sm) ++ ib a.si) ++ mb a.dm)) from HS.out)
              have F3 := Lib.hid HF.out
              clear HS HF hlt hj
              go_wp2_with fail
              go_loopw [5, 9] (fun u5 u6 wr => ∃ (j : Nat) (A : Option Addr) (c : Nat), u6 = .int .i64 (j : Int) ∧ j ≤ 4 ∧ u5 = .slice A (24 + j) c ∧ Sl wc.heap.size 5 1 wr (.slice A (24 + j) c) (24 + j) (bl ((((([0, 1, 8, 0, 6, 4, 0, opb a.ans] : List Int) ++ mb a.sm) ++ ib a.si) ++ mb a.dm) ++ (ib a.di).take j)) ∧ Fr (fun _ => False) wc wr) (fun _ v _ => 4 - (intOf v).toNat)
              case atStart => exact ⟨0, _, _, rfl, Nat.zero_le _, rfl, by rw [List.take_zero, List.append_nil]; exact S3.out, F3.out⟩
              case round =>
                obtain ⟨j, A, c, rfl, hj, rfl, hs, hf⟩ := hrel
                have HS := Lib.hid hs
                have HF := Lib.hid hf
                clear hs hf S3 F3
                by_cases hlt : j < 4
                · obtain ⟨x, hx⟩ : ∃ x, (ib a.di)[j]? = some x := ⟨_, List.getElem?_eq_getElem (show j < 4 from hlt)⟩
                  have HX := Lib.hid hx
                  have cx : wr.cell? ⟨b1, 17 + j, none⟩ = some (.int .u8 x) := cells_at wr b1 a.cells 33 ((HF.out.block b1 (lt_of_block B0.out) (fun e => e)).trans B0.out) (17 + j) _ (rq_di (four_at hx))
                  have hltI : (j : Int) < 4 := by omega
                  obtain ⟨b4, eb4⟩ : ∃ k, wr.heap.size = k := ⟨_, rfl⟩
                  obtain ⟨w4, ew4⟩ : ∃ y, wr.alloc (.cells #[.int .u8 x] 5) = y := ⟨_, rfl⟩
                  have H4 := Lib.hid (show w4.heap[b4]? = some (.cells #[.int .u8 x] 5) ∧ Fr (fun _ => False) wr w4 from by have h := one_new wr #[.int .u8 x] 5; rw [ew4, eb4] at h; exact ⟨h.1, h.2.1⟩)
                  have E4 := Lib.hid (And.intro ew4 eb4)
                  have ZW := Lib.hid (show wc.heap.size ≤ w4.heap.size from by have h2 := HF.out.size; have h3 := H4.out.2.size; omega)
                  have HS4 := Lib.hid (HS.out.fr0 H4.out.2)
                  clear ew4 eb4 hx
                  iterate 60 (first
                    | (have := MK6; clear this)
                    | (have := MK5; refine wpList_append_sl (base := wc.heap.size) rfl _ _ rfl st55 (.slice A (24 + j) c) (24 + j) (bl ((((([0, 1, 8, 0, 6, 4, 0, opb a.ans] : List Int) ++ mb a.sm) ++ ib a.si) ++ mb a.dm) ++ (ib a.di).take j)) rfl HS4.out _ 1 [.int .u8 x] rfl (src55 H4.out.1) (by simp only [maxLen]; omega) (by omega) ZW.out ?_; clear this; rintro v5 w5 hs hg ho hn; obtain ⟨A5, cp5, hv5, _, _⟩ := hs.form; subst hv5; have S5 := Lib.hid hs; have F5 := Lib.hid (show Fr (fun _ => False) wc w5 from (HF.out.then' H4.out.2).grown hg (fun r e hr => by have h1 := (HS4.out.lt r e).1; omega)); clear hs hg ho hn; have MK6 := Lib.hid True.intro)
                    | (have := E4; rw [this.out.1, this.out.2]; clear this; have MK5 := Lib.hid True.intro; clear E4)
                    | go_step)
                  go_wp2_with fail
                  refine ⟨⟨j + 1, A5, cp5, by go_num, by omega, rfl, ?_, F5.out⟩, by simp [intOf]; omega⟩
                  rw [take_next HX.out, ← List.append_assoc, bl_app]
                  exact S5.out
                · obtain ⟨w8, hw8⟩ : ∃ y, y = wr := ⟨_, rfl⟩
                  subst hw8
                  have hj4 : j = 4 := by omega
                  subst hj4
                  simp only [show ((4 : Nat) : Int) = 4 from rfl]
                  have S4 := Lib.hid (show Sl wc.heap.size 5 1 w8 (.slice A 28 c) 28 (bl ((((([0, 1, 8, 0, 6, 4, 0, opb a.ans] : List Int) ++ mb a.sm) ++ ib a.si) ++ mb a.dm) ++ ib a.di)) from HS.out)
                  have F4 := Lib.hid HF.out
                  clear HS HF hlt hj
                  go_wp2_with fail
                  refine bodyPost_ret (v := .tuple #[.slice A 28 c, .int .i64 0]) (by simp [results, Try.results21, go_sem]) rfl ⟨_, rfl, ?_, F1w.out.then' F4.out⟩
                  have h := S4.out
                  rw [show ((((([0, 1, 8, 0, 6, 4, 0, opb a.ans] : List Int) ++ mb a.sm) ++ ib a.si) ++ mb a.dm) ++ ib a.di) = ab a from by simp [ab, List.append_assoc]] at h
                  exact h.mono ZB.out
end Go.Proofs.Ytfnphkijalkllaa
