/- Law 8: the reference's Decode. No condition but lengths. -/
import Derived.Test.YtfnphkijalkllaaFmD
namespace Go.Proofs.Ytfnphkijalkllaa
set_option linter.unusedVariables false
set_option linter.unusedSimpArgs false
open Go.RowKit
/-- The box while its cells are filled: a of the addresses' six, c of the addresses' four. -/
def Fil (w : World) (b4 : Nat) (l : List Int) (an : Bool) (a c : Nat) : Prop := ∃ cs : List Value, w.heap[b4]? = some (.cells cs.toArray 33) ∧ cs.length = 21 ∧ cs[0]? = some (.bool an) ∧ (∀ k, k < a → cs[1 + k]? = some (.int .u8 (gB l (8 + k))) ∧ cs[11 + k]? = some (.int .u8 (gB l (18 + k)))) ∧
  ∀ k, k < c → cs[7 + k]? = some (.int .u8 (gB l (14 + k))) ∧ cs[17 + k]? = some (.int .u8 (gB l (24 + k)))
theorem Fil.fr {w w' : World} {b4 : Nat} {l : List Int} {an : Bool} {a c : Nat} (h : Fil w b4 l an a c) (f : Fr (fun _ => False) w w') : Fil w' b4 l an a c := by
  obtain ⟨cs, h1, h2⟩ := h
  exact ⟨cs, (f.block b4 (lt_of_block h1) (fun e => e)).trans h1, h2⟩
theorem Fil.all {w : World} {b4 : Nat} {l : List Int} {an : Bool} (h : Fil w b4 l an 6 4) (ha : decide (gB l 7 = 2) = an) : w.heap[b4]? = some (.cells (decR l).cells.toArray 33) := by
  obtain ⟨cs, h1, h2, h0, h3, h4⟩ := h
  have e : cs = (decR l).cells := by
    match cs, h2, h0, h3, h4 with
    | [c0, c1, c2, c3, c4, c5, c6, c7, c8, c9, c10, c11, c12, c13, c14, c15, c16, c17, c18, c19, c20], _, h0, h3, h4 =>
      have s0 := h3 0 (by decide); have s1 := h3 1 (by decide); have s2 := h3 2 (by decide); have s3 := h3 3 (by decide); have s4 := h3 4 (by decide); have s5 := h3 5 (by decide)
      have f0 := h4 0 (by decide); have f1 := h4 1 (by decide); have f2 := h4 2 (by decide); have f3 := h4 3 (by decide)
      simp at h0 s0 s1 s2 s3 s4 s5 f0 f1 f2 f3
      obtain ⟨s0, t0⟩ := s0; obtain ⟨s1, t1⟩ := s1; obtain ⟨s2, t2⟩ := s2; obtain ⟨s3, t3⟩ := s3; obtain ⟨s4, t4⟩ := s4; obtain ⟨s5, t5⟩ := s5
      obtain ⟨f0, g0⟩ := f0; obtain ⟨f1, g1⟩ := f1; obtain ⟨f2, g2⟩ := f2; obtain ⟨f3, g3⟩ := f3
      subst h0 s0 s1 s2 s3 s4 s5 t0 t1 t2 t3 t4 t5 f0 f1 f2 f3 g0 g1 g2 g3
      rw [← ha]
      rfl
  rw [e] at h1
  exact h1
theorem Fil.six {w : World} {b4 : Nat} {l : List Int} {an : Bool} {i c : Nat} (h : Fil w b4 l an i c) (hi : i < 6) (hc : c = 0) : Fil ((w.setCell ⟨b4, 1 + i, none⟩ (.int .u8 (gB l (8 + i)))).setCell ⟨b4, 11 + i, none⟩ (.int .u8 (gB l (18 + i)))) b4 l an (i + 1) c := by
  subst hc
  obtain ⟨cs, hb, hl, h0, h3, h4⟩ := h
  have hb1 : (w.setCell ⟨b4, 1 + i, none⟩ (.int .u8 (gB l (8 + i)))).heap[b4]? = some (.cells (cs.set (1 + i) (.int .u8 (gB l (8 + i)))).toArray 33) := by
    rw [heap_setCell_same w b4 (1 + i) _ 33 _ hb, List.setIfInBounds_toArray]
  refine ⟨(cs.set (1 + i) (.int .u8 (gB l (8 + i)))).set (11 + i) (.int .u8 (gB l (18 + i))), by rw [heap_setCell_same _ b4 (11 + i) _ 33 _ hb1, List.setIfInBounds_toArray], by simp [hl], ?_, fun k hk => ⟨?_, ?_⟩, fun k hk => absurd hk (by omega)⟩
  · rw [List.getElem?_set_ne (by omega), List.getElem?_set_ne (by omega)]; exact h0
  · rw [List.getElem?_set_ne (by omega)]
    by_cases e : k = i
    · subst e; rw [List.getElem?_set_self (by omega)]
    · rw [List.getElem?_set_ne (by omega)]; exact (h3 k (by omega)).1
  · by_cases e : k = i
    · subst e; rw [List.getElem?_set_self (by rw [List.length_set]; omega)]
    · rw [List.getElem?_set_ne (by omega), List.getElem?_set_ne (by omega)]; exact (h3 k (by omega)).2
theorem Fil.four {w : World} {b4 : Nat} {l : List Int} {an : Bool} {i : Nat} (h : Fil w b4 l an 6 i) (hi : i < 4) : Fil ((w.setCell ⟨b4, 7 + i, none⟩ (.int .u8 (gB l (14 + i)))).setCell ⟨b4, 17 + i, none⟩ (.int .u8 (gB l (24 + i)))) b4 l an 6 (i + 1) := by
  obtain ⟨cs, hb, hl, h0, h3, h4⟩ := h
  have hb1 : (w.setCell ⟨b4, 7 + i, none⟩ (.int .u8 (gB l (14 + i)))).heap[b4]? = some (.cells (cs.set (7 + i) (.int .u8 (gB l (14 + i)))).toArray 33) := by
    rw [heap_setCell_same w b4 (7 + i) _ 33 _ hb, List.setIfInBounds_toArray]
  refine ⟨(cs.set (7 + i) (.int .u8 (gB l (14 + i)))).set (17 + i) (.int .u8 (gB l (24 + i))), by rw [heap_setCell_same _ b4 (17 + i) _ 33 _ hb1, List.setIfInBounds_toArray], by simp [hl], ?_, fun k hk => ⟨?_, ?_⟩, fun k hk => ⟨?_, ?_⟩⟩
  · rw [List.getElem?_set_ne (by omega), List.getElem?_set_ne (by omega)]; exact h0
  · rw [List.getElem?_set_ne (by omega), List.getElem?_set_ne (by omega)]; exact (h3 k hk).1
  · rw [List.getElem?_set_ne (by omega), List.getElem?_set_ne (by omega)]; exact (h3 k hk).2
  · rw [List.getElem?_set_ne (by omega)]
    by_cases e : k = i
    · subst e; rw [List.getElem?_set_self (by omega)]
    · rw [List.getElem?_set_ne (by omega)]; exact (h4 k (by omega)).1
  · by_cases e : k = i
    · subst e; rw [List.getElem?_set_self (by rw [List.length_set]; omega)]
    · rw [List.getElem?_set_ne (by omega), List.getElem?_set_ne (by omega)]; exact (h4 k (by omega)).2
theorem rf1 (an : Bool) : Instr.fill ((#[(0, 1), (1, 6), (7, 4), (11, 6), (17, 4)] : Array (Nat × Nat))[·]?) (Value.agg #[.bool false, .int .u8 0, .int .u8 0, .int .u8 0, .int .u8 0, .int .u8 0, .int .u8 0, .int .u8 0, .int .u8 0, .int .u8 0, .int .u8 0, .int .u8 0, .int .u8 0, .int .u8 0, .int .u8 0, .int .u8 0, .int .u8 0, .int .u8 0, .int .u8 0, .int .u8 0, .int .u8 0]).cells [(0, .bool an)] = some #[.bool an, .int .u8 0, .int .u8 0, .int .u8 0, .int .u8 0, .int .u8 0, .int .u8 0, .int .u8 0, .int .u8 0, .int .u8 0, .int .u8 0, .int .u8 0, .int .u8 0, .int .u8 0, .int .u8 0, .int .u8 0, .int .u8 0, .int .u8 0, .int .u8 0, .int .u8 0, .int .u8 0] := by kernel_rfl
theorem Fil.there {w : World} {b4 : Nat} {l : List Int} {an : Bool} {a c : Nat} (h : Fil w b4 l an a c) {o : Nat} (ho : o < 21) : w.there b4 o 1 := by
  obtain ⟨cs, hb, hl, _⟩ := h
  exact there_one hb hl ho
theorem strOfNums_inj : ∀ {a b : List Int}, isB a → isB b → strOfNums a = strOfNums b → a = b := by
  intro a b ha hb h
  have h1 : a.map (fun n => UInt8.ofNat n.toNat) = b.map (fun n => UInt8.ofNat n.toNat) := by
    have := congrArg (fun s : ByteArray => s.data.toList) h
    simpa [strOfNums] using this
  induction a generalizing b with
  | nil => cases b with
    | nil => rfl
    | cons y b => simp at h1
  | cons x a ih => cases b with
    | nil => simp at h1
    | cons y b =>
      simp only [List.map_cons, List.cons.injEq] at h1
      have hx := ha x (by simp)
      have hy := hb y (by simp)
      have h3 : x = y := by
        have := congrArg UInt8.toNat h1.1
        simp only [UInt8.toNat_ofNat'] at this
        omega
      rw [h3, ih (fun z hz => ha z (by simp [hz])) (fun z hz => hb z (by simp [hz])) (by simp [strOfNums, h1.2]) h1.2]
theorem str_ne {a b : List Int} (ha : isB a) (hb : isB b) (h : a ≠ b) : ((strOfNums a).toList == (strOfNums b).toList) = false := by
  rw [beq_eq_false_iff_ne]
  intro e
  rw [ByteArray.toList_eq, ByteArray.toList_eq] at e
  apply h
  apply strOfNums_inj ha hb
  exact Go.WideShapes.bytes_inj e
theorem mb_ok {m : M6} (h : m.ok) : isB (mb m) := fun x hx => by
  simp [mb] at hx
  have h1 := u8_of h.1; have h2 := u8_of h.2.1; have h3 := u8_of h.2.2.1; have h4 := u8_of h.2.2.2.1; have h5 := u8_of h.2.2.2.2.1; have h6 := u8_of h.2.2.2.2.2
  rcases hx with rfl | rfl | rfl | rfl | rfl | rfl <;> assumption
theorem ib_ok {m : I4} (h : m.ok) : isB (ib m) := fun x hx => by
  simp [ib] at hx
  have h1 := u8_of h.1; have h2 := u8_of h.2.1; have h3 := u8_of h.2.2.1; have h4 := u8_of h.2.2.2
  rcases hx with rfl | rfl | rfl | rfl <;> assumption
theorem ab_ok {a : Rq} (h : a.ok) : isB (ab a) := by
  unfold ab
  refine isB.app (fun x hx => ?_) ((mb_ok h.sm).app ((ib_ok h.si).app ((mb_ok h.dm).app (ib_ok h.di))))
  have ho := opb_le a.ans
  simp at hx
  omega
theorem results_cell23 (tmps : Array Value) (w : World) (b : Nat) (v e : Value) (hp : tmps.getD 2 undef = .pointer (some ⟨b, 0, none⟩)) (he : tmps.getD 3 undef = e) (hl : (loadVar 33 ⟨b, 0, none⟩).run Try.prog w = .ok v w) :
    (results Try.f23 tmps).run Try.prog w = .ok (.tuple #[v, e]) w := by
  have ha : (asAddr (.pointer (some ⟨b, 0, none⟩))).run Try.prog w = .ok ⟨b, 0, none⟩ w := by rfl
  rw [Array.getD_eq_getD_getElem?] at *
  simp [results, Try.results23, hp, he, hl, ha, Sem.run_bind]
set_option maxRecDepth 100000 in
set_option maxHeartbeats 4000000 in
theorem rdec23_short (A : Option Addr) (n c : Nat) (w : World) (hn : n < 28) :
    Calls Try.prog 23 #[.slice A n c] w fun e w' => e = .returned (.tuple #[.agg zRq.cells.toArray, .int .i64 3]) ∧ Fr (fun _ => False) w w' := by
  have FA := Lib.hid (Fr.refl (fun _ => False) w)
  have hnI : (n : Int) < 28 := by omega
  go_enter Try.func23, Try.ntmps23
  go_upto_region 1 with (fail)
  obtain ⟨h1, h2, h3⟩ := one_new w zRq.cells.toArray 33
  change Code.wp Try.prog _ _ _ (w.alloc (.cells zRq.cells.toArray 33))
  generalize w.alloc (.cells zRq.cells.toArray 33) = w1 at h1 h2 h3 ⊢
  obtain ⟨b2, eb2⟩ : ∃ k, w.heap.size = k := ⟨_, rfl⟩
  rw [eb2] at h1 ⊢
  have B2 := Lib.hid h1
  have F2 := Lib.hid h2
  have TH := Lib.hid (there_at w1 b2 zRq.cells 33 B2.out)
  have ZB := Lib.hid eb2
  clear h1 h2 h3 eb2
  go_upto_region 2 with (fail)
  iterate 40 (first
    | (have := MK1; clear this)
    | (refine wpList_store_mid rfl 33 _ _ rfl b2 0 zRq.cells.toArray rfl rfl TH.out (by kernel_rfl) (by kernel_rfl) ?_; have MK1 := Lib.hid True.intro)
    | go_step)
  change wpList Try.prog _ _ _ _ (w1.setCells b2 0 zRq.cells)
  have RS := Lib.hid (fun (tmps : Array Value) hp he => results_cell23 tmps (w1.setCells b2 0 zRq.cells) b2 _ (.int .i64 3) hp he (loads33 (setAll (cs := zRq.cells) rfl B2.out)))
  have F3 := Lib.hid (Fr.setCells (S := fun _ => False) (a := w) b2 (fun h => by have := ZB.out; omega) zRq.cells 0 w1 F2.out)
  generalize w1.setCells b2 0 zRq.cells = w3 at RS F3 ⊢
  go_wp2_with fail
  exact bodyPost_ret (RS.out _ rfl rfl) rfl ⟨rfl, F3.out⟩
set_option maxRecDepth 100000 in
set_option maxHeartbeats 8000000 in
theorem rdec23_long (A : Option Addr) (n c : Nat) (l : List Int) (w : World) (hl : l.length = n) (hn : 28 ≤ n) (hc : n ≤ c) (hB : isB l) (hA : BytesIn w.heap.size w A l) (hm : n ≤ 140737488355328) :
    Calls Try.prog 23 #[.slice A n c] w fun e w' => e = .returned (.tuple #[.agg (decE l).1.cells.toArray, .int .i64 (decE l).2]) ∧ Fr (fun _ => False) w w' := by
  have FA := Lib.hid (Fr.refl (fun _ => False) w)
  have HL := Lib.hid hl
  have HB := Lib.hid hB
  obtain ⟨b, off, rfl, hbl, _⟩ := hA (by omega)
  have HA := Lib.hid hA
  have hnI : ¬ (n : Int) < 28 := by omega
  have h7 : (7 : Int) < (n : Int) := by omega
  have h7N : 7 < n := by omega
  clear hl hB hA hbl
  go_enter Try.func23, Try.ntmps23
  go_upto_region 1 with (fail)
  obtain ⟨h1, h2, h3⟩ := one_new w zRq.cells.toArray 33
  change Code.wp Try.prog _ _ _ (w.alloc (.cells zRq.cells.toArray 33))
  generalize w.alloc (.cells zRq.cells.toArray 33) = w1 at h1 h2 h3 ⊢
  obtain ⟨b2, eb2⟩ : ∃ k, w.heap.size = k := ⟨_, rfl⟩
  rw [eb2] at h1 ⊢
  have B2 := Lib.hid h1
  have F2 := Lib.hid h2
  have ZB := Lib.hid eb2
  clear h1 h2 h3 eb2
  have hA1 := HA.out.fr F2.out (Nat.le_refl _) (fun _ _ e => e)
  have c7 := hA1.byte (gB_at (i := 7) (by rw [HL.out]; omega))
  clear hA1
  obtain ⟨an, han⟩ : ∃ an, decide (gB l 7 = 2) = an := ⟨_, rfl⟩
  have han2 : (gB l 7 == 2) = an := by rw [← han]; rfl
  have HAN := Lib.hid han
  clear han
  go_upto_region 3 with (fail)
  have TH4 := Lib.hid (there_at (w1.alloc (.cells #[.bool false, .int .u8 0, .int .u8 0, .int .u8 0, .int .u8 0, .int .u8 0, .int .u8 0, .int .u8 0, .int .u8 0, .int .u8 0, .int .u8 0, .int .u8 0, .int .u8 0, .int .u8 0, .int .u8 0, .int .u8 0, .int .u8 0, .int .u8 0, .int .u8 0, .int .u8 0, .int .u8 0] 33)) w1.heap.size [.bool false, .int .u8 0, .int .u8 0, .int .u8 0, .int .u8 0, .int .u8 0, .int .u8 0, .int .u8 0, .int .u8 0, .int .u8 0, .int .u8 0, .int .u8 0, .int .u8 0, .int .u8 0, .int .u8 0, .int .u8 0, .int .u8 0, .int .u8 0, .int .u8 0, .int .u8 0, .int .u8 0] 33 (heap_alloc_new w1 _))
  iterate 60 (first
    | (have := MK3; clear this)
    | (refine wpList_build bd33 rfl rfl [(0, .bool an)] (by rfl) #[.bool an, .int .u8 0, .int .u8 0, .int .u8 0, .int .u8 0, .int .u8 0, .int .u8 0, .int .u8 0, .int .u8 0, .int .u8 0, .int .u8 0, .int .u8 0, .int .u8 0, .int .u8 0, .int .u8 0, .int .u8 0, .int .u8 0, .int .u8 0, .int .u8 0, .int .u8 0, .int .u8 0] (rf1 an) ?_)
    | (refine wpList_store_mid rfl 33 _ _ rfl w1.heap.size 0 #[.bool an, .int .u8 0, .int .u8 0, .int .u8 0, .int .u8 0, .int .u8 0, .int .u8 0, .int .u8 0, .int .u8 0, .int .u8 0, .int .u8 0, .int .u8 0, .int .u8 0, .int .u8 0, .int .u8 0, .int .u8 0, .int .u8 0, .int .u8 0, .int .u8 0, .int .u8 0, .int .u8 0] rfl rfl TH4.out (by kernel_rfl) (by simp [Value.oneCell']) ?_; have MK3 := Lib.hid True.intro)
    | go_step)
  change wpList Try.prog _ _ _ _ ((w1.alloc (.cells #[.bool false, .int .u8 0, .int .u8 0, .int .u8 0, .int .u8 0, .int .u8 0, .int .u8 0, .int .u8 0, .int .u8 0, .int .u8 0, .int .u8 0, .int .u8 0, .int .u8 0, .int .u8 0, .int .u8 0, .int .u8 0, .int .u8 0, .int .u8 0, .int .u8 0, .int .u8 0, .int .u8 0] 33)).setCells w1.heap.size 0 [.bool an, .int .u8 0, .int .u8 0, .int .u8 0, .int .u8 0, .int .u8 0, .int .u8 0, .int .u8 0, .int .u8 0, .int .u8 0, .int .u8 0, .int .u8 0, .int .u8 0, .int .u8 0, .int .u8 0, .int .u8 0, .int .u8 0, .int .u8 0, .int .u8 0, .int .u8 0, .int .u8 0])
  clear c7 han2 h7 h7N
  have h2 := (Fr.refl (fun _ => False) w1).alloc (.cells #[.bool false, .int .u8 0, .int .u8 0, .int .u8 0, .int .u8 0, .int .u8 0, .int .u8 0, .int .u8 0, .int .u8 0, .int .u8 0, .int .u8 0, .int .u8 0, .int .u8 0, .int .u8 0, .int .u8 0, .int .u8 0, .int .u8 0, .int .u8 0, .int .u8 0, .int .u8 0, .int .u8 0] 33)
  have h1 := setAll (cs := [.bool false, .int .u8 0, .int .u8 0, .int .u8 0, .int .u8 0, .int .u8 0, .int .u8 0, .int .u8 0, .int .u8 0, .int .u8 0, .int .u8 0, .int .u8 0, .int .u8 0, .int .u8 0, .int .u8 0, .int .u8 0, .int .u8 0, .int .u8 0, .int .u8 0, .int .u8 0, .int .u8 0]) (vs := [.bool an, .int .u8 0, .int .u8 0, .int .u8 0, .int .u8 0, .int .u8 0, .int .u8 0, .int .u8 0, .int .u8 0, .int .u8 0, .int .u8 0, .int .u8 0, .int .u8 0, .int .u8 0, .int .u8 0, .int .u8 0, .int .u8 0, .int .u8 0, .int .u8 0, .int .u8 0, .int .u8 0]) rfl (heap_alloc_new w1 (.cells #[.bool false, .int .u8 0, .int .u8 0, .int .u8 0, .int .u8 0, .int .u8 0, .int .u8 0, .int .u8 0, .int .u8 0, .int .u8 0, .int .u8 0, .int .u8 0, .int .u8 0, .int .u8 0, .int .u8 0, .int .u8 0, .int .u8 0, .int .u8 0, .int .u8 0, .int .u8 0, .int .u8 0] 33))
  have h3 := Fr.setCells (S := fun _ => False) (a := w1) w1.heap.size (fun h => absurd h (by omega)) [.bool an, .int .u8 0, .int .u8 0, .int .u8 0, .int .u8 0, .int .u8 0, .int .u8 0, .int .u8 0, .int .u8 0, .int .u8 0, .int .u8 0, .int .u8 0, .int .u8 0, .int .u8 0, .int .u8 0, .int .u8 0, .int .u8 0, .int .u8 0, .int .u8 0, .int .u8 0, .int .u8 0] 0 _ h2
  generalize (w1.alloc (.cells #[.bool false, .int .u8 0, .int .u8 0, .int .u8 0, .int .u8 0, .int .u8 0, .int .u8 0, .int .u8 0, .int .u8 0, .int .u8 0, .int .u8 0, .int .u8 0, .int .u8 0, .int .u8 0, .int .u8 0, .int .u8 0, .int .u8 0, .int .u8 0, .int .u8 0, .int .u8 0, .int .u8 0] 33)).setCells w1.heap.size 0 [.bool an, .int .u8 0, .int .u8 0, .int .u8 0, .int .u8 0, .int .u8 0, .int .u8 0, .int .u8 0, .int .u8 0, .int .u8 0, .int .u8 0, .int .u8 0, .int .u8 0, .int .u8 0, .int .u8 0, .int .u8 0, .int .u8 0, .int .u8 0, .int .u8 0, .int .u8 0, .int .u8 0] = w4 at h1 h3 ⊢
  obtain ⟨b4, eb4⟩ : ∃ k, w1.heap.size = k := ⟨_, rfl⟩
  rw [eb4] at h1 ⊢
  have FL0 := Lib.hid (show Fil w4 b4 l an 0 0 from ⟨_, h1, rfl, rfl, (fun k hk => absurd hk (by omega)), fun k hk => absurd hk (by omega)⟩)
  have F4 := Lib.hid (F2.out.then' h3)
  have B24 := Lib.hid (show w4.heap[b2]? = some (.cells zRq.cells.toArray 33) from (h3.block b2 (lt_of_block B2.out) (fun e => e)).trans B2.out)
  have Z4 := Lib.hid (show w.heap.size ≤ b4 ∧ b2 < b4 from by have h := F2.out.size; have h2 := lt_of_block B2.out; omega)
  clear h1 h2 h3 eb4
  go_wp2_with fail
  go_loopw [5] (fun v wr => ∃ i : Nat, v = .int .i64 (i : Int) ∧ i ≤ 6 ∧ Fil wr b4 l an i 0 ∧ Fr (fun _ => False) w wr ∧ wr.heap[b2]? = some (.cells zRq.cells.toArray 33)) (fun v _ => 6 - (intOf v).toNat)
  case atStart => exact ⟨0, rfl, Nat.zero_le _, FL0.out, F4.out, B24.out⟩
  case round =>
    obtain ⟨i, rfl, hi, hfl, hf, hb2⟩ := hrel
    have HFL := Lib.hid hfl
    have HF := Lib.hid hf
    have HB2 := Lib.hid hb2
    clear hfl hf hb2 FL0 F4 B24
    by_cases hlt : i < 6
    · have hAf := HA.out.fr HF.out (Nat.le_refl _) (fun _ _ e => e)
      have c8 := hAf.byte (gB_at (i := 8 + i) (by rw [HL.out]; omega))
      have hltI : (i : Int) < 6 := by omega
      have h8I : (8 : Int) + (i : Int) < (n : Int) := by omega
      have h18I : (18 : Int) + (i : Int) < (n : Int) := by omega
      clear hAf
      go_upto_region 7 with (fail)
      iterate 60 (first
        | (have := MK1; clear this)
        | (refine wpList_store_one rfl 5 _ _ rfl b4 (1 + i) (.int .u8 (gB l (8 + i))) rfl rfl rfl rfl (HFL.out.there (by omega)) (by kernel_rfl) ?_; have MK1 := Lib.hid True.intro)
        | go_step)
      clear c8
      have HAs := Lib.hid (show (wr.setCell ⟨b4, 1 + i, none⟩ (.int .u8 (gB l (8 + i)))).cell? ⟨b, off + (18 + i), none⟩ = some (.int .u8 (gB l (18 + i))) from (HA.out.fr (HF.out.setCell ⟨b4, 1 + i, none⟩ (.int .u8 (gB l (8 + i))) (fun h => absurd h (by have := Z4.out; show ¬ b4 < _; omega))) (Nat.le_refl _) (fun _ _ e => e)).byte (gB_at (i := 18 + i) (by rw [HL.out]; omega)))
      have TH2 := Lib.hid (there_setc (HFL.out.there (o := 11 + i) (by omega)) ⟨b4, 1 + i, none⟩ (.int .u8 (gB l (8 + i))))
      have FL1 := Lib.hid (HFL.out.six hlt rfl)
      have F1 := Lib.hid ((HF.out.setCell ⟨b4, 1 + i, none⟩ (.int .u8 (gB l (8 + i))) (fun h => absurd h (by have := Z4.out; show ¬ b4 < _; omega))).setCell ⟨b4, 11 + i, none⟩ (.int .u8 (gB l (18 + i))) (fun h => absurd h (by have := Z4.out; show ¬ b4 < _; omega)))
      have B21 := Lib.hid (show ((wr.setCell ⟨b4, 1 + i, none⟩ (.int .u8 (gB l (8 + i)))).setCell ⟨b4, 11 + i, none⟩ (.int .u8 (gB l (18 + i)))).heap[b2]? = some (.cells zRq.cells.toArray 33) from (Below.heap_setCell _ _ _ _ (fun e => by have := Z4.out; have e : b2 = b4 := e; omega)).trans ((Below.heap_setCell _ _ _ _ (fun e => by have := Z4.out; have e : b2 = b4 := e; omega)).trans HB2.out))
      obtain ⟨w7, ew7⟩ : ∃ y, wr.setCell ⟨b4, 1 + i, none⟩ (.int .u8 (gB l (8 + i))) = y := ⟨_, rfl⟩
      rw [ew7] at HAs TH2 FL1 F1 B21 ⊢
      clear ew7
      have c18 := HAs.out
      go_upto_region 8 with (fail)
      iterate 60 (first
        | (have := MK2; clear this)
        | (refine wpList_store_one rfl 5 _ _ rfl b4 (11 + i) (.int .u8 (gB l (18 + i))) rfl rfl rfl rfl TH2.out (by kernel_rfl) ?_; have MK2 := Lib.hid True.intro)
        | go_step)
      clear c18
      generalize w7.setCell ⟨b4, 11 + i, none⟩ (.int .u8 (gB l (18 + i))) = w8 at FL1 F1 B21 ⊢
      go_wp2_with fail
      refine ⟨⟨i + 1, by go_num, by omega, FL1.out, F1.out, B21.out⟩, by simp [intOf]; omega⟩
    · obtain ⟨w5, hw5⟩ : ∃ y, y = wr := ⟨_, rfl⟩
      subst hw5
      have hi6 : i = 6 := by omega
      subst hi6
      simp only [show ((6 : Nat) : Int) = 6 from rfl]
      clear hlt hi
      as_aux_lemma =>
      go_wp2_with fail
      go_loopw [6] (fun v wr => ∃ i : Nat, v = .int .i64 (i : Int) ∧ i ≤ 4 ∧ Fil wr b4 l an 6 i ∧ Fr (fun _ => False) w wr ∧ wr.heap[b2]? = some (.cells zRq.cells.toArray 33)) (fun v _ => 4 - (intOf v).toNat)
      case atStart => exact ⟨0, rfl, Nat.zero_le _, HFL.out, HF.out, HB2.out⟩
      case round =>
        obtain ⟨i, rfl, hi, hfl, hf, hb2⟩ := hrel
        clear HFL HF HB2
        have HFL := Lib.hid hfl
        have HF := Lib.hid hf
        have HB2 := Lib.hid hb2
        clear hfl hf hb2
        by_cases hlt : i < 4
        · have hAf := HA.out.fr HF.out (Nat.le_refl _) (fun _ _ e => e)
          have c8 := hAf.byte (gB_at (i := 14 + i) (by rw [HL.out]; omega))
          have hltI : (i : Int) < 4 := by omega
          have h8I : (14 : Int) + (i : Int) < (n : Int) := by omega
          have h18I : (24 : Int) + (i : Int) < (n : Int) := by omega
          clear hAf
          go_upto_region 12 with (fail)
          iterate 60 (first
            | (have := MK1; clear this)
            | (refine wpList_store_one rfl 5 _ _ rfl b4 (7 + i) (.int .u8 (gB l (14 + i))) rfl rfl rfl rfl (HFL.out.there (by omega)) (by kernel_rfl) ?_; have MK1 := Lib.hid True.intro)
            | go_step)
          clear c8
          have HAs := Lib.hid (show (wr.setCell ⟨b4, 7 + i, none⟩ (.int .u8 (gB l (14 + i)))).cell? ⟨b, off + (24 + i), none⟩ = some (.int .u8 (gB l (24 + i))) from (HA.out.fr (HF.out.setCell ⟨b4, 7 + i, none⟩ (.int .u8 (gB l (14 + i))) (fun h => absurd h (by have := Z4.out; show ¬ b4 < _; omega))) (Nat.le_refl _) (fun _ _ e => e)).byte (gB_at (i := 24 + i) (by rw [HL.out]; omega)))
          have TH2 := Lib.hid (there_setc (HFL.out.there (o := 17 + i) (by omega)) ⟨b4, 7 + i, none⟩ (.int .u8 (gB l (14 + i))))
          have FL1 := Lib.hid (HFL.out.four hlt)
          have F1 := Lib.hid ((HF.out.setCell ⟨b4, 7 + i, none⟩ (.int .u8 (gB l (14 + i))) (fun h => absurd h (by have := Z4.out; show ¬ b4 < _; omega))).setCell ⟨b4, 17 + i, none⟩ (.int .u8 (gB l (24 + i))) (fun h => absurd h (by have := Z4.out; show ¬ b4 < _; omega)))
          have B21 := Lib.hid (show ((wr.setCell ⟨b4, 7 + i, none⟩ (.int .u8 (gB l (14 + i)))).setCell ⟨b4, 17 + i, none⟩ (.int .u8 (gB l (24 + i)))).heap[b2]? = some (.cells zRq.cells.toArray 33) from (Below.heap_setCell _ _ _ _ (fun e => by have := Z4.out; have e : b2 = b4 := e; omega)).trans ((Below.heap_setCell _ _ _ _ (fun e => by have := Z4.out; have e : b2 = b4 := e; omega)).trans HB2.out))
          obtain ⟨w7, ew7⟩ : ∃ y, wr.setCell ⟨b4, 7 + i, none⟩ (.int .u8 (gB l (14 + i))) = y := ⟨_, rfl⟩
          rw [ew7] at HAs TH2 FL1 F1 B21 ⊢
          clear ew7
          have c18 := HAs.out
          go_upto_region 13 with (fail)
          iterate 60 (first
            | (have := MK2; clear this)
            | (refine wpList_store_one rfl 5 _ _ rfl b4 (17 + i) (.int .u8 (gB l (24 + i))) rfl rfl rfl rfl TH2.out (by kernel_rfl) ?_; have MK2 := Lib.hid True.intro)
            | go_step)
          clear c18
          generalize w7.setCell ⟨b4, 17 + i, none⟩ (.int .u8 (gB l (24 + i))) = w8 at FL1 F1 B21 ⊢
          go_wp2_with fail
          refine ⟨⟨i + 1, by go_num, by omega, FL1.out, F1.out, B21.out⟩, by simp [intOf]; omega⟩
        · obtain ⟨w6, hw6⟩ : ∃ y, y = wr := ⟨_, rfl⟩
          subst hw6
          have hi4 : i = 4 := by omega
          subst hi4
          have B46 := Lib.hid (HFL.out.all HAN.out)
          have HAO := Lib.hid (decR_ok HB.out)
          have HDC := Lib.hid (show decE l = if (decR l).sm.a % 2 = 1 ∨ ab (decR l) ≠ l.take 28 then (zRq, 4) else (decR l, 0) from by unfold decE; rw [if_neg (by rw [HL.out]; omega)])
          obtain ⟨a, ha⟩ : ∃ a, decR l = a := ⟨_, rfl⟩
          rw [ha] at B46 HAO HDC
          clear ha hlt hi HFL
          have RB := Lib.hid (range_at w6 b4 _ 33 B46.out)
          go_upto_region 14 with (fail)
          iterate 40 (first
            | (have := MK1; clear this)
            | (refine wpList_load_mid rfl 33 _ rfl b4 0 rfl a.cells _ RB.out Try.underlying33 rfl (by kernel_rfl) ?_; have MK1 := Lib.hid True.intro)
            | go_step)
          by_cases hod : a.sm.a % 2 = 1
          · have HDE := Lib.hid (show decE l = (zRq, 4) from by rw [HDC.out, if_pos (.inl hod)])
            go_upto_region 15 with (go_at_call 21; refine (renc21_bad a HAO.out hod _).mono ?_; rintro e w7 ⟨rfl, f6⟩; have F6 := Lib.hid f6; clear f6)
            refine kr_start [] (by kernel_rfl) (by kernel_rfl) ?_
            refine kr_find 0 rfl (by kernel_rfl) (by kernel_rfl) (by kernel_rfl) (fun _ _ _ _ h => h) (by rfl) trivial ?_
            apply Exists.intro; apply And.intro
            · intro w' hS K hK
              clear hS
              go_light
              go_simp
              exact hK.out
            try simp only [Act.put, List.getElem_toArray, List.getElem_cons_zero, List.getElem_cons_succ, List.setIfInBounds_toArray, List.set_cons_zero, List.set_cons_succ]
            refine kr_find 1 rfl (by kernel_rfl) (by kernel_rfl) (by kernel_rfl) (fun _ _ _ _ h => h) (by rfl) trivial ?_
            apply Exists.intro; apply And.intro
            · intro w' hS K hK
              clear hS
              go_light
              go_simp
              exact hK.out
            try simp only [Act.put, List.getElem_toArray, List.getElem_cons_zero, List.getElem_cons_succ, List.setIfInBounds_toArray, List.set_cons_zero, List.set_cons_succ]
            refine kr_find 2 rfl (by kernel_rfl) (by kernel_rfl) (by kernel_rfl) (fun _ _ _ _ h => h) (by rfl) trivial ?_
            apply Exists.intro; apply And.intro
            · intro w' hS K hK
              clear hS
              go_light
              go_simp
              exact hK.out
            try simp only [Act.put, List.getElem_toArray, List.getElem_cons_zero, List.getElem_cons_succ, List.setIfInBounds_toArray, List.set_cons_zero, List.set_cons_succ]
            refine kr_take 3 rfl (by kernel_rfl) (by kernel_rfl) (by kernel_rfl) (fun _ _ _ h => h) (kr_not (by rfl)) trivial ?_
            try simp only [Act.put, List.getElem_toArray, List.getElem_cons_zero, List.getElem_cons_succ, List.setIfInBounds_toArray, List.set_cons_zero, List.set_cons_succ]
            refine kr_take 4 rfl (by kernel_rfl) (by kernel_rfl) (by kernel_rfl) (fun _ _ _ h => h) (kr_not (by rfl)) trivial ?_
            try simp only [Act.put, List.getElem_toArray, List.getElem_cons_zero, List.getElem_cons_succ, List.setIfInBounds_toArray, List.set_cons_zero, List.set_cons_succ]
            refine kr_take 5 rfl (by kernel_rfl) (by kernel_rfl) (by kernel_rfl) (fun _ _ _ h => h) (kr_not (by rfl)) trivial ?_
            try simp only [Act.put, List.getElem_toArray, List.getElem_cons_zero, List.getElem_cons_succ, List.setIfInBounds_toArray, List.set_cons_zero, List.set_cons_succ]
            refine kr_take 6 rfl (by kernel_rfl) (by kernel_rfl) (by kernel_rfl) (fun _ _ _ h => h) (kr_not (by rfl)) trivial ?_
            try simp only [Act.put, List.getElem_toArray, List.getElem_cons_zero, List.getElem_cons_succ, List.setIfInBounds_toArray, List.set_cons_zero, List.set_cons_succ]
            refine kr_take 7 rfl (by kernel_rfl) (by kernel_rfl) (by kernel_rfl) (fun _ _ _ h => h) (kr_not (by rfl)) trivial ?_
            try simp only [Act.put, List.getElem_toArray, List.getElem_cons_zero, List.getElem_cons_succ, List.setIfInBounds_toArray, List.set_cons_zero, List.set_cons_succ]
            refine kr_take 8 rfl (by kernel_rfl) (by kernel_rfl) (by kernel_rfl) (fun _ _ _ h => h) (kr_not (by rfl)) trivial ?_
            try simp only [Act.put, List.getElem_toArray, List.getElem_cons_zero, List.getElem_cons_succ, List.setIfInBounds_toArray, List.set_cons_zero, List.set_cons_succ]
            refine kr_find 9 rfl (by kernel_rfl) (by kernel_rfl) (by kernel_rfl) (fun _ _ _ _ h => h) (by rfl) trivial ?_
            apply Exists.intro; apply And.intro
            · intro w' hS K hK
              clear hS
              go_light
              go_simp
              exact hK.out
            try simp only [Act.put, List.getElem_toArray, List.getElem_cons_zero, List.getElem_cons_succ, List.setIfInBounds_toArray, List.set_cons_zero, List.set_cons_succ]
            refine kr_done (by kernel_rfl) ?_ _
            generalize hwz : w7.drew = wz
            have Fz := Lib.hid (show Fr (fun _ => False) w wz from by rw [← hwz]; exact HF.out.then' (F6.out.then' (Fr.refl _ w7).drew))
            have B2z := Lib.hid (show wz.heap[b2]? = some (.cells zRq.cells.toArray 33) from by rw [← hwz]; exact (F6.out.block b2 (lt_of_block HB2.out) (fun e => e)).trans HB2.out)
            clear hwz
            have TH := Lib.hid (there_at wz b2 zRq.cells 33 B2z.out)
            go_upto_region 16 with (fail)
            iterate 40 (first
              | (have := MKz; clear this)
              | (refine wpList_store_mid rfl 33 _ _ rfl b2 0 zRq.cells.toArray rfl rfl TH.out (by kernel_rfl) (by kernel_rfl) ?_; have MKz := Lib.hid True.intro)
              | go_step)
            change wpList Try.prog _ _ _ _ (wz.setCells b2 0 zRq.cells)
            have RS := Lib.hid (fun (tmps : Array Value) hp he => results_cell23 tmps (wz.setCells b2 0 zRq.cells) b2 _ (.int .i64 4) hp he (loads33 (setAll (cs := zRq.cells) rfl B2z.out)))
            have F9 := Lib.hid (Fr.setCells (S := fun _ => False) (a := w) b2 (fun h => by have := ZB.out; omega) zRq.cells 0 wz Fz.out)
            generalize wz.setCells b2 0 zRq.cells = w9 at RS F9 ⊢
            go_wp2_with fail
            exact bodyPost_ret (RS.out _ rfl rfl) rfl ⟨by rw [HDE.out], F9.out⟩
          · have HEN := Lib.hid (renc21_ok a HAO.out hod w6)
            have HOD := Lib.hid hod
            clear hod
            go_upto_region 15 with (go_at_call 21; refine HEN.out.mono ?_; rintro e w7 ⟨v6, rfl, o6, f6⟩; obtain ⟨A6, c6, rfl, hl6, hb6⟩ := o6.bytes; have O6 := Lib.hid hb6; have F6 := Lib.hid f6; clear o6 f6 hl6 hb6)
            have Fz0 := Lib.hid (HF.out.then' (F6.out.then' (Fr.refl _ w7).drew))
            have CV1 := Lib.hid (show (convert 55 9 (.slice A6 28 c6)).run Try.prog w7.drew = .ok (.string (strOfNums (ab a))) w7.drew from str_bytes c6 (O6.out.fr (Fr.refl (fun _ => False) w7).drew (Nat.le_refl _) (fun _ _ e => e)))
            have CV2 := Lib.hid (show (convert 55 9 (.slice (some ⟨b, off, none⟩) 28 c)).run Try.prog w7.drew = .ok (.string (strOfNums (l.take 28))) w7.drew from by
              have h := str_bytes c ((HA.out.take 28).fr Fz0.out (Nat.le_refl _) (fun _ _ e => e))
              rw [show (l.take 28).length = 28 from by rw [List.length_take, HL.out]; omega] at h
              exact h)
            obtain ⟨eq, heq⟩ : ∃ eq, ((strOfNums (ab a)).toList == (strOfNums (l.take 28)).toList) = eq := ⟨_, rfl⟩
            have hq1 : eq = true → ab a = l.take 28 := fun h => by
              rw [h] at heq
              by_cases h2 : ab a = l.take 28
              · exact h2
              · rw [str_ne (ab_ok HAO.out) (fun x hx => HB.out x (List.mem_of_mem_take hx)) h2] at heq
                cases heq
            have hq2 : eq = false → ab a ≠ l.take 28 := fun h e => by
              rw [h, e] at heq
              simp at heq
            have HEQ := Lib.hid (And.intro hq1 hq2)
            clear hq1 hq2
            have h28 : (28 : Int) ≤ (c : Int) := by omega
            have h28N : 28 ≤ c := by omega
            refine kr_start [(4, fun W => (convert 55 9 (.slice A6 28 c6)).run Try.prog W = .ok (.string (strOfNums (ab a))) W), (7, fun W => (convert 55 9 (.slice (some ⟨b, off, none⟩) 28 c)).run Try.prog W = .ok (.string (strOfNums (l.take 28))) W)] (by kernel_rfl) (by kernel_rfl) ?_
            refine kr_find 0 rfl (by kernel_rfl) (by kernel_rfl) (by kernel_rfl) (fun _ _ _ _ h => h) (by rfl) trivial ?_
            apply Exists.intro; apply And.intro
            · intro w' hS K hK
              clear hS
              go_light
              go_simp
              exact hK.out
            try simp only [Act.put, List.getElem_toArray, List.getElem_cons_zero, List.getElem_cons_succ, List.setIfInBounds_toArray, List.set_cons_zero, List.set_cons_succ]
            refine kr_find 1 rfl (by kernel_rfl) (by kernel_rfl) (by kernel_rfl) (fun _ _ _ _ h => h) (by rfl) trivial ?_
            apply Exists.intro; apply And.intro
            · intro w' hS K hK
              clear hS
              go_light
              go_simp
              exact hK.out
            try simp only [Act.put, List.getElem_toArray, List.getElem_cons_zero, List.getElem_cons_succ, List.setIfInBounds_toArray, List.set_cons_zero, List.set_cons_succ]
            refine kr_find 2 rfl (by kernel_rfl) (by kernel_rfl) (by kernel_rfl) (fun _ _ _ _ h => h) (by rfl) trivial ?_
            apply Exists.intro; apply And.intro
            · intro w' hS K hK
              clear hS
              go_light
              go_simp
              exact hK.out
            try simp only [Act.put, List.getElem_toArray, List.getElem_cons_zero, List.getElem_cons_succ, List.setIfInBounds_toArray, List.set_cons_zero, List.set_cons_succ]
            refine kr_find 3 rfl (by kernel_rfl) (by kernel_rfl) (by kernel_rfl) (fun _ _ _ _ h => h) (by rfl) trivial ?_
            apply Exists.intro; apply And.intro
            · intro w' hS K hK
              clear hS
              go_light
              go_simp
              exact hK.out
            try simp only [Act.put, List.getElem_toArray, List.getElem_cons_zero, List.getElem_cons_succ, List.setIfInBounds_toArray, List.set_cons_zero, List.set_cons_succ]
            refine kr_find 4 rfl (by kernel_rfl) (by kernel_rfl) (by kernel_rfl) (fun _ _ _ _ h => h) (by rfl) (show _ from CV1.out) ?_
            apply Exists.intro; apply And.intro
            · intro w' hS K hK
              have hS : (convert 55 9 (.slice A6 28 c6)).run Try.prog w' = .ok (.string (strOfNums (ab a))) w' := hS
              go_light
              go_simp
              exact hK.out
            try simp only [Act.put, List.getElem_toArray, List.getElem_cons_zero, List.getElem_cons_succ, List.setIfInBounds_toArray, List.set_cons_zero, List.set_cons_succ]
            refine kr_find 5 rfl (by kernel_rfl) (by kernel_rfl) (by kernel_rfl) (fun _ _ _ _ h => h) (by rfl) trivial ?_
            apply Exists.intro; apply And.intro
            · intro w' hS K hK
              clear hS
              go_light
              go_simp
              exact hK.out
            try simp only [Act.put, List.getElem_toArray, List.getElem_cons_zero, List.getElem_cons_succ, List.setIfInBounds_toArray, List.set_cons_zero, List.set_cons_succ]
            refine kr_find 6 rfl (by kernel_rfl) (by kernel_rfl) (by kernel_rfl) (fun _ _ _ _ h => h) (by rfl) trivial ?_
            apply Exists.intro; apply And.intro
            · intro w' hS K hK
              clear hS
              go_light
              go_simp
              exact hK.out
            try simp only [Act.put, List.getElem_toArray, List.getElem_cons_zero, List.getElem_cons_succ, List.setIfInBounds_toArray, List.set_cons_zero, List.set_cons_succ]
            refine kr_find 7 rfl (by kernel_rfl) (by kernel_rfl) (by kernel_rfl) (fun _ _ _ _ h => h) (by rfl) (show _ from CV2.out) ?_
            apply Exists.intro; apply And.intro
            · intro w' hS K hK
              have hS : (convert 55 9 (.slice (some ⟨b, off, none⟩) 28 c)).run Try.prog w' = .ok (.string (strOfNums (l.take 28))) w' := hS
              go_light
              go_simp
              exact hK.out
            try simp only [Act.put, List.getElem_toArray, List.getElem_cons_zero, List.getElem_cons_succ, List.setIfInBounds_toArray, List.set_cons_zero, List.set_cons_succ]
            refine kr_find 8 rfl (by kernel_rfl) (by kernel_rfl) (by kernel_rfl) (fun _ _ _ _ h => h) (by rfl) trivial ?_
            apply Exists.intro; apply And.intro
            · intro w' hS K hK
              clear hS
              go_light
              go_simp
              exact hK.out
            try simp only [Act.put, List.getElem_toArray, List.getElem_cons_zero, List.getElem_cons_succ, List.setIfInBounds_toArray, List.set_cons_zero, List.set_cons_succ]
            refine kr_find 9 rfl (by kernel_rfl) (by kernel_rfl) (by kernel_rfl) (fun _ _ _ _ h => h) (by rfl) trivial ?_
            apply Exists.intro; apply And.intro
            · intro w' hS K hK
              clear hS
              go_light
              go_simp
              exact hK.out
            try simp only [Act.put, List.getElem_toArray, List.getElem_cons_zero, List.getElem_cons_succ, List.setIfInBounds_toArray, List.set_cons_zero, List.set_cons_succ]
            refine kr_done (by kernel_rfl) ?_ _
            clear heq
            generalize hwz : w7.drew = wz
            have Fz := Lib.hid (show Fr (fun _ => False) w wz from by rw [← hwz]; exact Fz0.out)
            have B2z := Lib.hid (show wz.heap[b2]? = some (.cells zRq.cells.toArray 33) from by rw [← hwz]; exact (F6.out.block b2 (lt_of_block HB2.out) (fun e => e)).trans HB2.out)
            have B4z := Lib.hid (show wz.heap[b4]? = some (.cells a.cells.toArray 33) from by rw [← hwz]; exact (F6.out.block b4 (lt_of_block B46.out) (fun e => e)).trans B46.out)
            clear hwz CV1 CV2 Fz0
            have TH := Lib.hid (there_at wz b2 zRq.cells 33 B2z.out)
            have RB7 := Lib.hid (range_at wz b4 _ 33 B4z.out)
            cases eq with
            | false =>
              have HDE := Lib.hid (show decE l = (zRq, 4) from by rw [HDC.out, if_pos (.inr (HEQ.out.2 rfl))])
              go_upto_region 16 with (fail)
              iterate 40 (first
                | (have := MKz; clear this)
                | (refine wpList_store_mid rfl 33 _ _ rfl b2 0 zRq.cells.toArray rfl rfl TH.out (by kernel_rfl) (by kernel_rfl) ?_; have MKz := Lib.hid True.intro)
                | go_step)
              change wpList Try.prog _ _ _ _ (wz.setCells b2 0 zRq.cells)
              have RS := Lib.hid (fun (tmps : Array Value) hp he => results_cell23 tmps (wz.setCells b2 0 zRq.cells) b2 _ (.int .i64 4) hp he (loads33 (setAll (cs := zRq.cells) rfl B2z.out)))
              have F9 := Lib.hid (Fr.setCells (S := fun _ => False) (a := w) b2 (fun h => by have := ZB.out; omega) zRq.cells 0 wz Fz.out)
              generalize wz.setCells b2 0 zRq.cells = w9 at RS F9 ⊢
              go_wp2_with fail
              exact bodyPost_ret (RS.out _ rfl rfl) rfl ⟨by rw [HDE.out], F9.out⟩
            | true =>
              have HDE := Lib.hid (show decE l = (a, 0) from by rw [HDC.out, if_neg (fun h => h.elim HOD.out (fun h => h (HEQ.out.1 rfl)))])
              go_upto_region 17 with (fail)
              iterate 40 (first
                | (have := MKz; clear this)
                | (refine wpList_load_mid rfl 33 _ rfl b4 0 rfl a.cells _ RB7.out Try.underlying33 rfl (by kernel_rfl) ?_)
                | (refine wpList_store_mid rfl 33 _ _ rfl b2 0 a.cells.toArray rfl rfl TH.out (by kernel_rfl) (by simp [Rq.cells, Value.oneCell']) ?_; have MKz := Lib.hid True.intro)
                | go_step)
              change wpList Try.prog _ _ _ _ (wz.setCells b2 0 a.cells)
              have RS := Lib.hid (fun (tmps : Array Value) hp he => results_cell23 tmps (wz.setCells b2 0 a.cells) b2 _ (.int .i64 0) hp he (loads33 (setAll (cs := zRq.cells) rfl B2z.out)))
              have F9 := Lib.hid (Fr.setCells (S := fun _ => False) (a := w) b2 (fun h => by have := ZB.out; omega) a.cells 0 wz Fz.out)
              generalize wz.setCells b2 0 a.cells = w9 at RS F9 ⊢
              go_wp2_with fail
              exact bodyPost_ret (RS.out _ rfl rfl) rfl ⟨by rw [HDE.out], F9.out⟩
end Go.Proofs.Ytfnphkijalkllaa
