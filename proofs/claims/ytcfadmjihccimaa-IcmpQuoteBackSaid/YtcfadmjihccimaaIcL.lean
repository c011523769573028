/- Paths of package icmp: Learn. No condition but lengths. -/
import Derived.Test.YtcfadmjihccimaaIcP
import Derived.Test.YtcfadmjihccimaaKw
import Derived.Deep.DeepCutAuto
import Derived.Deep.DeepMust
namespace Go.Proofs.Ytcfadmjihccimaa
set_option linter.unusedVariables false
set_option linter.unusedSimpArgs false
open Go.RowKit

def I4.cells (k : I4) : List Value := [.int .u8 k.a, .int .u8 k.b, .int .u8 k.c, .int .u8 k.d]
theorem st95 : SlTy Try.prog 95 45 4 4 (.agg #[.int .u8 0, .int .u8 0, .int .u8 0, .int .u8 0]) := ⟨Try.underlying95, by kernel_rfl, rfl, by decide⟩
def rmI (L : List (I4 × Int)) (k : I4) : List (I4 × Int) := L.filter fun p => p.1 ≠ k
theorem but_tabI : ∀ (L : List (I4 × Int)) (k : I4), but (tab L) k = tab (rmI L k)
  | [], _ => rfl
  | q :: L, k => by
    have ih := but_tabI L k
    unfold but tab rmI at *
    by_cases e : q.1 = k
    · simpa [e] using ih
    · simpa [e] using ih
theorem tab_snocI (L : List (I4 × Int)) (k : I4) (u : Int) : tab L ++ [(k, .int .i64 u)] = tab (L ++ [(k, u)]) := by simp [tab]

theorem PaAt.line {w : World} {g m : Nat} {L : List (I4 × Int)} {lv : Value} (h : PaAt w g m L lv) : w.cell? ⟨g, 1, none⟩ = some lv := cells_at w g [.map (some m), lv] 97 h.blk 1 _ rfl
theorem PaAt.mapc {w : World} {g m : Nat} {L : List (I4 × Int)} {lv : Value} (h : PaAt w g m L lv) : w.cell? ⟨g, 0, none⟩ = some (.map (some m)) := cells_at w g [.map (some m), lv] 97 h.blk 0 _ rfl
theorem PaAt.setLine {w : World} {g m : Nat} {L : List (I4 × Int)} {lv : Value} (h : PaAt w g m L lv) (gm : g ≠ m) (v : Value) : PaAt (w.setCell ⟨g, 1, none⟩ v) g m L v :=
  ⟨by rw [heap_setCell_same w g 1 _ 97 _ h.blk]; rfl, h.map.heap (Below.heap_setCell _ _ _ _ (fun e => gm e.symm))⟩
/-- Block kb holds an address. -/
structure KbAt (w : World) (kb : Nat) (a b c d : Int) : Prop where
  blk : w.heap[kb]? = some (.cells #[.int .u8 a, .int .u8 b, .int .u8 c, .int .u8 d] 45)
theorem KbAt.cells {w : World} {kb : Nat} {a b c d : Int} (h : KbAt w kb a b c d) : w.rangeAt kb 0 [.int .u8 a, .int .u8 b, .int .u8 c, .int .u8 d] := fun j v hj => by
  rw [Nat.zero_add]; exact cells_at w kb _ 45 h.blk j v hj
theorem KbAt.fr {S : Nat → Prop} {w w' : World} {kb : Nat} {a b c d : Int} (h : KbAt w kb a b c d) (f : Fr S w w') (hn : ¬ S kb) : KbAt w' kb a b c d := ⟨(f.block kb (lt_of_block h.blk) hn).trans h.blk⟩
theorem World.rangeAt_alloc (w : World) (cs : List Value) (t : TypeId) : (w.alloc (.cells cs.toArray t)).rangeAt w.heap.size 0 cs := fun j v hj => by
  rw [Nat.zero_add]; exact cells_at _ _ _ t (heap_alloc_new w _) j v hj
theorem src1 {w : World} {x : Nat} {a b c d : Int} (h : w.rangeAt x 0 [.int .u8 a, .int .u8 b, .int .u8 c, .int .u8 d]) : Src Try.prog 4 95 (.slice (some ⟨x, 0, none⟩) 1 1) 1 [.int .u8 a, .int .u8 b, .int .u8 c, .int .u8 d] w :=
  Src.ofSlice (w := w) Try.underlying95 ⟨x, 0, none⟩ 1 1 _ rfl (fun j u hj => by rw [Addr.add_mid]; exact h j u hj) (by simp [Value.oneCell'])

/-- The table of paths, its line too. -/
structure LnAt (w : World) (g m : Nat) (L : List (I4 × Int)) (line : List I4) (lv : Value) : Prop where
  pa : PaAt w g m L lv
  sl : Sl 0 45 4 w lv line.length (line.flatMap I4.cells)
  gm : g ≠ m
  lg : lv.ownBlock ≠ some g
  lm : lv.ownBlock ≠ some m
  ok : ∀ k ∈ line, k.ok
theorem LnAt.fr {w w' : World} {g m : Nat} {L : List (I4 × Int)} {line : List I4} {lv : Value} (h : LnAt w g m L line lv) (f : Fr (fun _ => False) w w') : LnAt w' g m L line lv :=
  ⟨h.pa.fr f, h.sl.fr0 f, h.gm, h.lg, h.lm, h.ok⟩
theorem LnAt.heap {w w' : World} {g m : Nat} {L : List (I4 × Int)} {line : List I4} {lv : Value} (h : LnAt w g m L line lv) (hg : w'.heap[g]? = w.heap[g]?) (hm : w'.heap[m]? = w.heap[m]?) (hl : ∀ k, lv.ownBlock = some k → w'.heap[k]? = w.heap[k]?) : LnAt w' g m L line lv :=
  ⟨h.pa.heap hg hm, h.sl.heap hl, h.gm, h.lg, h.lm, h.ok⟩
theorem LnAt.turned {w w' : World} {g m : Nat} {L L' : List (I4 × Int)} {line : List I4} {lv : Value} (h : LnAt w g m L line lv) (hm : MapAt M45 w' m (tab L')) (ht : w.drew.mapTurned w' m) : LnAt w' g m L' line lv :=
  ⟨⟨(ht.grown.block g (lt_of_block h.pa.blk) (fun e => h.gm (by injection e))).trans h.pa.blk, hm⟩,
   h.sl.heap (fun k hk => (ht.grown.block k (h.sl.lt k hk).2 (fun e => h.lm (by rw [hk]; exact e)))), h.gm, h.lg, h.lm, h.ok⟩

def learns (L : List (I4 × Int)) (k : I4) (mtu : Int) : Bool := decide (68 ≤ mtu) && decide (mtu < (lki L k).getD 256)
def lnLine (L : List (I4 × Int)) (line : List I4) (k : I4) : List I4 := if (lki L k).isSome then line else line ++ [k]
def lnFin (L1 : List (I4 × Int)) : List I4 → List (I4 × Int) × List I4
  | [] => (L1, [])
  | h :: t => if (h :: t).length > 8 then (rmI L1 h, t) else (L1, h :: t)
def lnNew (L : List (I4 × Int)) (line : List I4) (k : I4) (mtu : Int) : List (I4 × Int) × List I4 := lnFin (rmI L k ++ [(k, mtu)]) (lnLine L line k)

set_option maxHeartbeats 8000000 in
set_option maxRecDepth 100000 in
theorem learn19_no (g m : Nat) (L : List (I4 × Int)) (line : List I4) (lv : Value) (a b c d mtu : Int) (w : World) (hk : I4.ok ⟨a, b, c, d⟩) (hT : LnAt w g m L line lv) (hno : learns L ⟨a, b, c, d⟩ mtu = false) :
    Calls Try.prog 19 #[.pointer (some ⟨g, 0, none⟩), .agg #[.int .u8 a, .int .u8 b, .int .u8 c, .int .u8 d], .int .i64 mtu] w fun e w' => e = .returned (.bool false) ∧ Fr (fun _ => False) w w' := by
  have HT := Lib.hid hT
  have HN := Lib.hid hno
  have FA := Lib.hid (Fr.refl (fun _ => False) w)
  obtain ⟨x, hx⟩ : ∃ x, (lki L ⟨a, b, c, d⟩).getD 256 = x := ⟨_, rfl⟩
  have HX := Lib.hid hx
  clear hT hno hx
  go_enter Try.func19, Try.ntmps19
  go_upto_region 1 with (fail)
  have g0 : KbAt (w.alloc (.cells #[.int .u8 a, .int .u8 b, .int .u8 c, .int .u8 d] 45)) w.heap.size a b c d := ⟨heap_alloc_new w _⟩
  have FB := Lib.hid (FA.out.alloc (.cells #[.int .u8 a, .int .u8 b, .int .u8 c, .int .u8 d] 45))
  generalize w.alloc (.cells #[.int .u8 a, .int .u8 b, .int .u8 c, .int .u8 d] 45) = w1 at g0 FB ⊢
  have c0 := g0.cells 0 _ rfl
  have c1 := g0.cells 1 _ rfl
  have c2 := g0.cells 2 _ rfl
  have c3 := g0.cells 3 _ rfl
  simp only [Nat.zero_add] at c0 c1 c2 c3
  clear g0
  by_cases h1 : mtu < 68
  · go_wp2_with fail
    go_ret
    exact ⟨rfl, FB.out⟩
  · have h2 : x ≤ mtu := by
      have := HN.out
      unfold learns at this
      rw [HX.out] at this
      simp at this
      have := this (by omega)
      omega
    go_wp2_with (go_at_call 18; refine (find18 g m L lv a b c d w1 hk (HT.out.pa.fr FB.out)).mono ?_; rw [HX.out]; rintro e w2 ⟨rfl, f2⟩)
    go_ret
    exact ⟨rfl, FB.out.trans f2 (fun _ _ e => e)⟩

set_option maxHeartbeats 16000000 in
set_option maxRecDepth 100000 in
theorem learn19_yes (g m : Nat) (L : List (I4 × Int)) (line : List I4) (lv0 : Value) (a b c d mtu : Int) (w : World) (hk : I4.ok ⟨a, b, c, d⟩) (hT : LnAt w g m L line lv0) (hyes : learns L ⟨a, b, c, d⟩ mtu = true) (hl : line.length ≤ 8) (hL : L.length ≤ 100) :
    Calls Try.prog 19 #[.pointer (some ⟨g, 0, none⟩), .agg #[.int .u8 a, .int .u8 b, .int .u8 c, .int .u8 d], .int .i64 mtu] w fun e w' => e = .returned (.bool true) ∧ ∃ lv', LnAt w' g m (lnNew L line ⟨a, b, c, d⟩ mtu).1 (lnNew L line ⟨a, b, c, d⟩ mtu).2 lv' ∧
      Fr (fun i => i = g ∨ i = m ∨ lv0.ownBlock = some i) w w' ∧ (lv'.ownBlock = lv0.ownBlock ∨ ∃ z, lv'.ownBlock = some z ∧ w.heap.size ≤ z) := by
  have HT := Lib.hid hT
  have FA := Lib.hid (Fr.refl (fun _ => False) w)
  obtain ⟨o, ho⟩ : ∃ o, lki L ⟨a, b, c, d⟩ = o := ⟨_, rfl⟩
  have HO := Lib.hid ho
  obtain ⟨x, hx⟩ : ∃ x, o.getD 256 = x := ⟨_, rfl⟩
  have HX := Lib.hid hx
  have h1 : ¬ mtu < 68 ∧ ¬ x ≤ mtu := by
    unfold learns at hyes
    rw [ho, hx] at hyes
    simp at hyes
    omega
  obtain ⟨h1, h2⟩ := h1
  obtain ⟨line1, hline1⟩ : ∃ line1, lnLine L line ⟨a, b, c, d⟩ = line1 := ⟨_, rfl⟩
  have HLN := Lib.hid hline1
  have HNEW := Lib.hid (show lnNew L line ⟨a, b, c, d⟩ mtu = lnFin (rmI L ⟨a, b, c, d⟩ ++ [(⟨a, b, c, d⟩, mtu)]) line1 by unfold lnNew; rw [hline1])
  obtain ⟨R, hR⟩ : ∃ R, lnNew L line ⟨a, b, c, d⟩ mtu = R := ⟨_, rfl⟩
  rw [hR]
  have HR := Lib.hid hR
  clear hT hyes ho hx hline1 hR
  go_enter Try.func19, Try.ntmps19
  go_upto_region 1 with (fail)
  have g0 : KbAt (w.alloc (.cells #[.int .u8 a, .int .u8 b, .int .u8 c, .int .u8 d] 45)) w.heap.size a b c d := ⟨heap_alloc_new w _⟩
  have FB := Lib.hid (FA.out.alloc (.cells #[.int .u8 a, .int .u8 b, .int .u8 c, .int .u8 d] 45))
  have hz : w.heap.size < (w.alloc (.cells #[.int .u8 a, .int .u8 b, .int .u8 c, .int .u8 d] 45)).heap.size := by simp
  generalize w.alloc (.cells #[.int .u8 a, .int .u8 b, .int .u8 c, .int .u8 d] 45) = w1 at g0 FB hz ⊢
  obtain ⟨kb, hkb⟩ : ∃ kb, w.heap.size = kb := ⟨_, rfl⟩
  have HKB := Lib.hid hkb
  have KN := Lib.hid (show ¬ (lv0.ownBlock = some kb) from fun e => by have := (HT.out.sl.lt kb e).2; omega)
  have KM := Lib.hid (show kb ≠ m from fun e => by have := HT.out.pa.map.lt; omega)
  have KG := Lib.hid (show kb ≠ g from fun e => by have := lt_of_block HT.out.pa.blk; omega)
  rw [hkb] at g0 hz ⊢
  clear hkb
  have KB1 := Lib.hid g0
  have c0 := g0.cells 0 _ rfl
  have c1 := g0.cells 1 _ rfl
  have c2 := g0.cells 2 _ rfl
  have c3 := g0.cells 3 _ rfl
  simp only [Nat.zero_add] at c0 c1 c2 c3
  clear g0 hz
  go_upto_region 3 with (go_at_call 18; refine (find18 g m L lv0 a b c d w1 hk (HT.out.pa.fr FB.out)).mono ?_; rw [HO.out, HX.out]; rintro e w2 ⟨rfl, f2⟩; have F2 := Lib.hid (FB.out.trans f2 (fun _ _ e => e)); have KB2 := Lib.hid (KB1.out.fr f2 (fun e => e)); clear f2)
  clear c0 c1 c2 c3
  have LN2 := Lib.hid (HT.out.fr F2.out)
  have c0 : ∀ j, (w2.drewN j).cell? ⟨kb, 0, none⟩ = some (.int .u8 a) ∧ (w2.drewN j).cell? ⟨kb, 1, none⟩ = some (.int .u8 b) ∧ (w2.drewN j).cell? ⟨kb, 2, none⟩ = some (.int .u8 c) ∧ (w2.drewN j).cell? ⟨kb, 3, none⟩ = some (.int .u8 d) := fun j => by
    have h := cells_at (w2.drewN j) kb [.int .u8 a, .int .u8 b, .int .u8 c, .int .u8 d] 45 KB2.out.blk
    exact ⟨h 0 _ rfl, h 1 _ rfl, h 2 _ rfl, h 3 _ rfl⟩
  have c1 : ∀ j, (w2.drewN j).cell? ⟨g, 0, none⟩ = some (.map (some m)) := fun j => (LN2.out.fr ((Fr.refl _ w2).drewN j)).pa.mapc
  have hlk := fun j => ((LN2.out.fr ((Fr.refl (fun _ => False) w2).drewN j)).pa).look hk
  simp only [HO.out] at hlk
  go_quiet (fail)
  clear hlk c0 c1
  have F3 := Lib.hid (F2.out.drewN nq)
  have LN3 := Lib.hid (LN2.out.fr ((Fr.refl _ w2).drewN nq))
  have KB3 := Lib.hid (KB2.out.fr ((Fr.refl (fun _ => False) w2).drewN nq) (fun e => e))
  generalize w2.drewN nq = w3 at F3 LN3 KB3 ⊢
  clear F2 LN2 KB2 FB KB1
  go_upto_if 28 with (fail)
  obtain ⟨lv, hlv⟩ : ∃ lv, lv0 = lv := ⟨_, rfl⟩
  go_cut [] (fun wc => ∃ lv1, LnAt wc g m L line1 lv1 ∧ KbAt wc kb a b c d ∧ Fr (fun i => i = g ∨ i = m ∨ lv0.ownBlock = some i) w wc ∧ (lv1.ownBlock = lv0.ownBlock ∨ ∃ z, lv1.ownBlock = some z ∧ w.heap.size ≤ z))
  case first =>
    subst hlv
    cases o with
    | some y =>
      have hli := HLN.out
      unfold lnLine at hli
      rw [HO.out] at hli
      simp at hli
      subst hli
      go_wp2_with fail
      go_meet
      exact ⟨lv0, LN3.out, KB3.out, F3.out.mono (fun _ _ e => e.elim), .inl rfl⟩
    | none =>
      have hli := HLN.out
      unfold lnLine at hli
      rw [HO.out] at hli
      simp at hli
      subst hli
      as_aux_lemma =>
        obtain ⟨lv, hlv⟩ : ∃ lv, lv = lv0 := ⟨_, rfl⟩
        subst hlv
        go_upto_region 5 with (fail)
        have LA := Lib.hid (LN3.out.fr ((Fr.refl _ w3).drew.alloc (.cells #[.int .u8 a, .int .u8 b, .int .u8 c, .int .u8 d] 45)))
        have KA := Lib.hid (KB3.out.fr ((Fr.refl (fun _ => False) w3).drew.alloc (.cells #[.int .u8 a, .int .u8 b, .int .u8 c, .int .u8 d] 45)) (fun e => e))
        refine kr_start [(4, fun W => W.cell? ⟨g, 1, none⟩ = some lv), (5, fun W => W.rangeAt kb 0 [.int .u8 a, .int .u8 b, .int .u8 c, .int .u8 d])] (by kernel_rfl) (by kernel_rfl) ?_
        refine kr_find 0 rfl (by kernel_rfl) (by kernel_rfl) (by kernel_rfl) (fun _ _ _ _ h => h) (by rfl) trivial ?_
        apply Exists.intro; apply And.intro
        · intro w' hS K hK
          clear hS
          go_light
          go_simp
          exact hK.out
        try simp only [Act.put, List.getElem_toArray, List.getElem_cons_zero, List.getElem_cons_succ, List.setIfInBounds_toArray, List.set_cons_zero, List.set_cons_succ]
        refine kr_find 1 rfl (by kernel_rfl) (by kernel_rfl) (by kernel_rfl) (fun _ _ _ _ h => h) (by rfl) trivial ?_
        apply Exists.intro; apply And.intro
        · intro w' hS K hK
          clear hS
          go_light
          go_simp
          exact hK.out
        try simp only [Act.put, List.getElem_toArray, List.getElem_cons_zero, List.getElem_cons_succ, List.setIfInBounds_toArray, List.set_cons_zero, List.set_cons_succ]
        refine kr_find 2 rfl (by kernel_rfl) (by kernel_rfl) (by kernel_rfl) (fun _ _ _ _ h => h) (by rfl) trivial ?_
        apply Exists.intro; apply And.intro
        · intro w' hS K hK
          clear hS
          go_light
          go_simp
          exact hK.out
        try simp only [Act.put, List.getElem_toArray, List.getElem_cons_zero, List.getElem_cons_succ, List.setIfInBounds_toArray, List.set_cons_zero, List.set_cons_succ]
        refine kr_find 3 rfl (by kernel_rfl) (by kernel_rfl) (by kernel_rfl) (fun _ _ _ _ h => h) (by rfl) trivial ?_
        apply Exists.intro; apply And.intro
        · intro w' hS K hK
          clear hS
          go_light
          go_simp
          exact hK.out
        try simp only [Act.put, List.getElem_toArray, List.getElem_cons_zero, List.getElem_cons_succ, List.setIfInBounds_toArray, List.set_cons_zero, List.set_cons_succ]
        refine kr_find 4 rfl (by kernel_rfl) (by kernel_rfl) (by kernel_rfl) (fun _ _ _ _ h => h) (by rfl) (show _ from LN3.out.pa.line) ?_
        apply Exists.intro; apply And.intro
        · intro w' hS K hK
          have hS : w'.cell? ⟨g, 1, none⟩ = some lv := hS
          go_light
          go_simp
          exact hK.out
        try simp only [Act.put, List.getElem_toArray, List.getElem_cons_zero, List.getElem_cons_succ, List.setIfInBounds_toArray, List.set_cons_zero, List.set_cons_succ]
        refine kr_take 5 rfl (by kernel_rfl) (by kernel_rfl) (by kernel_rfl) (fun _ _ _ h => h) (yieldsIf_load_mid (by rfl) 45 _ rfl kb 0 rfl [.int .u8 a, .int .u8 b, .int .u8 c, .int .u8 d] _ (fun _ h => h) Try.underlying45 rfl (by kernel_rfl)) (show _ from KB3.out.cells) ?_
        try simp only [Act.put, List.getElem_toArray, List.getElem_cons_zero, List.getElem_cons_succ, List.setIfInBounds_toArray, List.set_cons_zero, List.set_cons_succ]
        refine kr_one 6 (by kernel_rfl) rfl (by rfl) (fun K hK => ?_)
        go_simp
        refine hK.out _ _ ⟨.inr LA.out.pa.line, .inr KA.out.cells, trivial⟩ ?_
        clear hK K
        try simp only [Act.put, List.getElem_toArray, List.getElem_cons_zero, List.getElem_cons_succ, List.setIfInBounds_toArray, List.set_cons_zero, List.set_cons_succ]
        refine kr_one 7 (by kernel_rfl) rfl (by rfl) (fun K hK => ?_)
        refine wp_append_sl _ _ rfl st95 lv _ _ rfl LA.out.sl _ 1 [.int .u8 a, .int .u8 b, .int .u8 c, .int .u8 d] rfl (src1 (World.rangeAt_alloc w3.drew _ 45)) (by simp only [maxLen]; omega) (by omega) (Nat.zero_le _) ?_
        intro v7 w7 sl7 gr7 ob7 nil7
        obtain ⟨A7, cp7, rfl, hn7, hm7⟩ := sl7.form
        clear hn7 hm7
        have fr7 := fr_of_grown gr7
        have LB := Lib.hid (LA.out.pa.heap (gr7.block g (lt_of_block LA.out.pa.blk) (fun e => LA.out.lg e.symm)) (gr7.block m LA.out.pa.map.lt (fun e => LA.out.lm e.symm)))
        have KB7 := Lib.hid (KA.out.fr fr7 KN.out)
        have S7 := Lib.hid (And.intro sl7 (And.intro fr7 ob7))
        clear sl7 gr7 fr7 ob7 nil7
        refine hK.out _ _ ⟨.inl (by kernel_rfl), .inr KB7.out.cells, trivial⟩ ?_
        clear hK K
        try simp only [Act.put, List.getElem_toArray, List.getElem_cons_zero, List.getElem_cons_succ, List.setIfInBounds_toArray, List.set_cons_zero, List.set_cons_succ]
        refine kr_find 8 rfl (by kernel_rfl) (by kernel_rfl) (by kernel_rfl) (fun _ _ _ _ h => h) (by rfl) trivial ?_
        apply Exists.intro; apply And.intro
        · intro w' hS K hK
          clear hS
          go_light
          go_simp
          exact hK.out
        try simp only [Act.put, List.getElem_toArray, List.getElem_cons_zero, List.getElem_cons_succ, List.setIfInBounds_toArray, List.set_cons_zero, List.set_cons_succ]
        refine kr_find 9 rfl (by kernel_rfl) (by kernel_rfl) (by kernel_rfl) (fun _ _ _ _ h => h) (by rfl) trivial ?_
        apply Exists.intro; apply And.intro
        · intro w' hS K hK
          clear hS
          go_light
          go_simp
          exact hK.out
        try simp only [Act.put, List.getElem_toArray, List.getElem_cons_zero, List.getElem_cons_succ, List.setIfInBounds_toArray, List.set_cons_zero, List.set_cons_succ]
        refine kr_one 10 (by kernel_rfl) rfl (by rfl) (fun K hK => ?_)
        have hc1 := LB.out.line
        have hz1 := frozen_of_row w7 g 1 _ 97 LB.out.blk
        go_simp
        clear hc1 hz1
        refine hK.out _ _ ⟨.inl (by kernel_rfl), .inl (by kernel_rfl), trivial⟩ ?_
        clear hK K
        try simp only [Act.put, List.getElem_toArray, List.getElem_cons_zero, List.getElem_cons_succ, List.setIfInBounds_toArray, List.set_cons_zero, List.set_cons_succ]
        refine kr_done (by kernel_rfl) ?_ _
        go_wp2_with fail
        go_meet
        obtain ⟨sl7, fr7, ob7⟩ := S7.out
        have hg3 := lt_of_block LN3.out.pa.blk
        have hs3 : (w3.alloc (.cells #[.int .u8 a, .int .u8 b, .int .u8 c, .int .u8 d] 45)).drew.heap.size = w3.heap.size + 1 := by show (World.alloc _ _).heap.size = _; simp
        have hn7 : (Value.slice A7 (line.length + 1) cp7).ownBlock ≠ some g := by
          rcases ob7 with e | e
          · rw [e]; exact LN3.out.lg
          · rw [e]; intro h; injection h with h; omega
        have hm3 := LN3.out.pa.map.lt
        have hm7 : (Value.slice A7 (line.length + 1) cp7).ownBlock ≠ some m := by
          rcases ob7 with e | e
          · rw [e]; exact LN3.out.lm
          · rw [e]; intro h; injection h with h; omega
        refine ⟨.slice A7 (line.length + 1) cp7, ⟨LB.out.setLine LN3.out.gm _, ?_, LN3.out.gm, hn7, hm7, ?_⟩, KB7.out.fr (S := fun i => i = g) ((Fr.refl _ w7).setCell _ _ (fun _ => rfl)) KG.out, ?_, ?_⟩
        · have := sl7.fr (S := fun i => i = g) ((Fr.refl _ w7).setCell ⟨g, 1, none⟩ (.slice A7 (line.length + 1) cp7) (fun _ => rfl)) (fun k hk e => hn7 (by rw [hk, e]))
          simpa [I4.cells] using this
        · intro k hk'
          rcases List.mem_append.1 hk' with hk' | hk'
          · exact LN3.out.ok k hk'
          · simp at hk'; subst hk'; exact hk
        · have f0 : Fr (fun i => lv.ownBlock = some i) w (w3.alloc (.cells #[.int .u8 a, .int .u8 b, .int .u8 c, .int .u8 d] 45)).drew := (F3.out.alloc _).drew.mono (fun _ _ e => e.elim)
          have f1 : Fr (fun i => lv.ownBlock = some i) w w7 := f0.trans fr7 (fun i _ e => e)
          exact (f1.mono (fun _ _ e => .inr (.inr e))).setCell _ _ (fun _ => .inl rfl)
        · rcases ob7 with e | e
          · exact .inl e
          · exact .inr ⟨_, e, by have := F3.out.size; omega⟩
  case rest =>
    as_aux_lemma =>
      obtain ⟨lv1, ln5, kb5, f5, ob5⟩ := hcut
      obtain ⟨w5, hw5⟩ : ∃ x, x = wc := ⟨_, rfl⟩
      subst hw5
      have LN5 := Lib.hid ln5
      have KB5 := Lib.hid kb5
      have F5 := Lib.hid f5
      have OB5 := Lib.hid ob5
      clear ln5 kb5 f5 ob5 LN3 KB3 F3 hlv
      go_upto_region 6 with (fail)
      refine kr_start [(3, fun W => W.cell? ⟨g, 0, none⟩ = some (.map (some m))), (4, fun W => W.rangeAt kb 0 [.int .u8 a, .int .u8 b, .int .u8 c, .int .u8 d])] (by kernel_rfl) (by kernel_rfl) ?_
      refine kr_find 0 rfl (by kernel_rfl) (by kernel_rfl) (by kernel_rfl) (fun _ _ _ _ h => h) (by rfl) trivial ?_
      apply Exists.intro; apply And.intro
      · intro w' hS K hK
        clear hS
        go_light
        go_simp
        exact hK.out
      try simp only [Act.put, List.getElem_toArray, List.getElem_cons_zero, List.getElem_cons_succ, List.setIfInBounds_toArray, List.set_cons_zero, List.set_cons_succ]
      refine kr_find 1 rfl (by kernel_rfl) (by kernel_rfl) (by kernel_rfl) (fun _ _ _ _ h => h) (by rfl) trivial ?_
      apply Exists.intro; apply And.intro
      · intro w' hS K hK
        clear hS
        go_light
        go_simp
        exact hK.out
      try simp only [Act.put, List.getElem_toArray, List.getElem_cons_zero, List.getElem_cons_succ, List.setIfInBounds_toArray, List.set_cons_zero, List.set_cons_succ]
      refine kr_find 2 rfl (by kernel_rfl) (by kernel_rfl) (by kernel_rfl) (fun _ _ _ _ h => h) (by rfl) trivial ?_
      apply Exists.intro; apply And.intro
      · intro w' hS K hK
        clear hS
        go_light
        go_simp
        exact hK.out
      try simp only [Act.put, List.getElem_toArray, List.getElem_cons_zero, List.getElem_cons_succ, List.setIfInBounds_toArray, List.set_cons_zero, List.set_cons_succ]
      refine kr_find 3 rfl (by kernel_rfl) (by kernel_rfl) (by kernel_rfl) (fun _ _ _ _ h => h) (by rfl) (show _ from LN5.out.pa.mapc) ?_
      apply Exists.intro; apply And.intro
      · intro w' hS K hK
        have hS : w'.cell? ⟨g, 0, none⟩ = some (.map (some m)) := hS
        go_light
        go_simp
        exact hK.out
      try simp only [Act.put, List.getElem_toArray, List.getElem_cons_zero, List.getElem_cons_succ, List.setIfInBounds_toArray, List.set_cons_zero, List.set_cons_succ]
      refine kr_take 4 rfl (by kernel_rfl) (by kernel_rfl) (by kernel_rfl) (fun _ _ _ h => h) (yieldsIf_load_mid (by rfl) 45 _ rfl kb 0 rfl [.int .u8 a, .int .u8 b, .int .u8 c, .int .u8 d] _ (fun _ h => h) Try.underlying45 rfl (by kernel_rfl)) (show _ from KB5.out.cells) ?_
      try simp only [Act.put, List.getElem_toArray, List.getElem_cons_zero, List.getElem_cons_succ, List.setIfInBounds_toArray, List.set_cons_zero, List.set_cons_succ]
      refine kr_find 5 rfl (by kernel_rfl) (by kernel_rfl) (by kernel_rfl) (fun _ _ _ _ h => h) (by rfl) trivial ?_
      apply Exists.intro; apply And.intro
      · intro w' hS K hK
        clear hS
        go_light
        go_simp
        exact hK.out
      try simp only [Act.put, List.getElem_toArray, List.getElem_cons_zero, List.getElem_cons_succ, List.setIfInBounds_toArray, List.set_cons_zero, List.set_cons_succ]
      refine kr_one 6 (by kernel_rfl) rfl (by rfl) (fun K hK => ?_)
      refine wp_mapStore (M := M45) _ _ _ _ 94 rfl 3 Try.underlying94 m (tab L) rfl (LN5.out.pa.map.heap rfl) (by simp only [tab, List.length_map, maxLen]; omega) ⟨a, b, c, d⟩ hk rfl (.int .i64 mtu) rfl ?_
      intro w9 hm9 ht9
      rw [but_tabI, tab_snocI] at hm9
      have ft9 := fr_of_grown ht9.grown
      have LN9 := Lib.hid (LN5.out.turned hm9 ht9)
      have KB9 := Lib.hid (KB5.out.fr (S := fun i => some m = some i) ⟨ht9.grown.os, ht9.grown.tape, ht9.grown.output, ht9.grown.size, fun i hi hn => ht9.grown.block i hi (fun e => hn e.symm)⟩ (fun e => KM.out (by injection e with e; exact e.symm)))
      have F9 := Lib.hid (show Fr (fun i => i = g ∨ i = m ∨ lv0.ownBlock = some i) w w9 from F5.out.grown (b := w5) ⟨ht9.grown.os, ht9.grown.tape, ht9.grown.output, ht9.grown.size, ht9.grown.block⟩ (fun r e _ => by injection e with e; exact .inr (.inl e.symm)))
      clear hm9 ht9 ft9
      refine hK.out _ _ ⟨.inl (by kernel_rfl), .inl (by kernel_rfl), trivial⟩ ?_
      clear hK K
      try simp only [Act.put, List.getElem_toArray, List.getElem_cons_zero, List.getElem_cons_succ, List.setIfInBounds_toArray, List.set_cons_zero, List.set_cons_succ]
      refine kr_done (by kernel_rfl) ?_ _
      generalize hL1 : rmI L ⟨a, b, c, d⟩ ++ [(⟨a, b, c, d⟩, mtu)] = L1 at LN9 HNEW
      have HL1 := Lib.hid hL1
      clear hL1 LN5 KB5 F5
      obtain ⟨nl, hnl⟩ : ∃ nl, line1.length = nl := ⟨_, rfl⟩
      obtain ⟨A1, cp, hlv1, hcp1, hcp2⟩ := LN9.out.sl.form
      rw [hnl] at hlv1 hcp1
      subst hlv1
      have HNL := Lib.hid hnl
      have HCP := Lib.hid (And.intro hcp1 hcp2)
      clear hcp1 hcp2 hnl
      have hc1 := LN9.out.pa.line
      by_cases hlen : nl ≤ 8
      · as_aux_lemma =>
          have hn8 : (nl : Int) ≤ 8 := by omega
          have HF := Lib.hid (show R = (L1, line1) by
            have h0 := HNL.out
            rw [← HR.out, HNEW.out]
            rcases line1 with _ | ⟨h, t⟩
            · rfl
            · rw [lnFin, if_neg (by omega)])
          go_wp2_with fail
          go_ret
          refine ⟨rfl, .slice A1 nl cp, ?_, F9.out, OB5.out⟩
          rw [HF.out]
          exact LN9.out
      · as_aux_lemma =>
          rcases line1 with _ | ⟨h, t⟩
          · have h0 := HNL.out
            simp at h0
            omega
          have HF := Lib.hid (show R = (rmI L1 h, t) by
            have h0 := HNL.out
            rw [← HR.out, HNEW.out, lnFin, if_pos (by omega)])
          have hn8 : (8 : Int) < (nl : Int) := by omega
          obtain ⟨lb, off, cp', hv, hb1, hb2, hb3, hb4, hcl, hfz⟩ := LN9.out.sl.form1 (by rw [HNL.out]; omega)
          rw [HNL.out] at hv
          injection hv with hv1 _ hv2
          subst hv2
          subst hv1
          have HD := Lib.hid (show w9.rangeAt lb off [.int .u8 h.a, .int .u8 h.b, .int .u8 h.c, .int .u8 h.d] from fun j v hj => hcl j v (by
            rw [List.flatMap_cons]
            rw [List.getElem?_append_left (by
              have := (List.getElem?_eq_some_iff.1 hj).1
              simpa [I4.cells] using this)]
            exact hj))
          have hh := Lib.hid (LN9.out.ok h (by simp))
          obtain ⟨v', hrun, hsl, hob⟩ := LN9.out.sl.from st95 1 (by rw [HNL.out]; omega)
          rw [HNL.out] at hsl
          have HRUN := Lib.hid hrun
          have HSL := Lib.hid hsl
          have HOB := Lib.hid hob
          clear hrun hsl hob hb1 hb2 hb3 hb4 hcl hfz
          have hnl0 : (0 : Int) < (nl : Int) := by omega
          have hnl1 : 0 < nl := by omega
          go_upto_region 8 with (fail)
          clear hc1
          refine kr_start [(3, fun W => W.cell? ⟨g, 0, none⟩ = some (.map (some m))), (7, fun W => W.cell? ⟨g, 1, none⟩ = some (.slice (some ⟨lb, off, none⟩) nl cp)), (9, fun W => W.rangeAt lb off [.int .u8 h.a, .int .u8 h.b, .int .u8 h.c, .int .u8 h.d])] (by kernel_rfl) (by kernel_rfl) ?_
          refine kr_find 0 rfl (by kernel_rfl) (by kernel_rfl) (by kernel_rfl) (fun _ _ _ _ h => h) (by rfl) trivial ?_
          apply Exists.intro; apply And.intro
          · intro w' hS K hK
            clear hS
            go_light
            go_simp
            exact hK.out
          try simp only [Act.put, List.getElem_toArray, List.getElem_cons_zero, List.getElem_cons_succ, List.setIfInBounds_toArray, List.set_cons_zero, List.set_cons_succ]
          refine kr_find 1 rfl (by kernel_rfl) (by kernel_rfl) (by kernel_rfl) (fun _ _ _ _ h => h) (by rfl) trivial ?_
          apply Exists.intro; apply And.intro
          · intro w' hS K hK
            clear hS
            go_light
            go_simp
            exact hK.out
          try simp only [Act.put, List.getElem_toArray, List.getElem_cons_zero, List.getElem_cons_succ, List.setIfInBounds_toArray, List.set_cons_zero, List.set_cons_succ]
          refine kr_find 2 rfl (by kernel_rfl) (by kernel_rfl) (by kernel_rfl) (fun _ _ _ _ h => h) (by rfl) trivial ?_
          apply Exists.intro; apply And.intro
          · intro w' hS K hK
            clear hS
            go_light
            go_simp
            exact hK.out
          try simp only [Act.put, List.getElem_toArray, List.getElem_cons_zero, List.getElem_cons_succ, List.setIfInBounds_toArray, List.set_cons_zero, List.set_cons_succ]
          refine kr_find 3 rfl (by kernel_rfl) (by kernel_rfl) (by kernel_rfl) (fun _ _ _ _ h => h) (by rfl) (show _ from LN9.out.pa.mapc) ?_
          apply Exists.intro; apply And.intro
          · intro w' hS K hK
            have hS : w'.cell? ⟨g, 0, none⟩ = some (.map (some m)) := hS
            go_light
            go_simp
            exact hK.out
          try simp only [Act.put, List.getElem_toArray, List.getElem_cons_zero, List.getElem_cons_succ, List.setIfInBounds_toArray, List.set_cons_zero, List.set_cons_succ]
          refine kr_find 4 rfl (by kernel_rfl) (by kernel_rfl) (by kernel_rfl) (fun _ _ _ _ h => h) (by rfl) trivial ?_
          apply Exists.intro; apply And.intro
          · intro w' hS K hK
            clear hS
            go_light
            go_simp
            exact hK.out
          try simp only [Act.put, List.getElem_toArray, List.getElem_cons_zero, List.getElem_cons_succ, List.setIfInBounds_toArray, List.set_cons_zero, List.set_cons_succ]
          refine kr_find 5 rfl (by kernel_rfl) (by kernel_rfl) (by kernel_rfl) (fun _ _ _ _ h => h) (by rfl) trivial ?_
          apply Exists.intro; apply And.intro
          · intro w' hS K hK
            clear hS
            go_light
            go_simp
            exact hK.out
          try simp only [Act.put, List.getElem_toArray, List.getElem_cons_zero, List.getElem_cons_succ, List.setIfInBounds_toArray, List.set_cons_zero, List.set_cons_succ]
          refine kr_find 6 rfl (by kernel_rfl) (by kernel_rfl) (by kernel_rfl) (fun _ _ _ _ h => h) (by rfl) trivial ?_
          apply Exists.intro; apply And.intro
          · intro w' hS K hK
            clear hS
            go_light
            go_simp
            exact hK.out
          try simp only [Act.put, List.getElem_toArray, List.getElem_cons_zero, List.getElem_cons_succ, List.setIfInBounds_toArray, List.set_cons_zero, List.set_cons_succ]
          refine kr_find 7 rfl (by kernel_rfl) (by kernel_rfl) (by kernel_rfl) (fun _ _ _ _ h => h) (by rfl) (show _ from LN9.out.pa.line) ?_
          apply Exists.intro; apply And.intro
          · intro w' hS K hK
            have hS : w'.cell? ⟨g, 1, none⟩ = some (.slice (some ⟨lb, off, none⟩) nl cp) := hS
            go_light
            go_simp
            exact hK.out
          try simp only [Act.put, List.getElem_toArray, List.getElem_cons_zero, List.getElem_cons_succ, List.setIfInBounds_toArray, List.set_cons_zero, List.set_cons_succ]
          refine kr_find 8 rfl (by kernel_rfl) (by kernel_rfl) (by kernel_rfl) (fun _ _ _ _ h => h) (by rfl) trivial ?_
          apply Exists.intro; apply And.intro
          · intro w' hS K hK
            clear hS
            go_light
            go_simp
            exact hK.out
          try simp only [Act.put, List.getElem_toArray, List.getElem_cons_zero, List.getElem_cons_succ, List.setIfInBounds_toArray, List.set_cons_zero, List.set_cons_succ]
          refine kr_take 9 rfl (by kernel_rfl) (by kernel_rfl) (by kernel_rfl) (fun _ _ _ h => h) (yieldsIf_load_mid (by rfl) 45 _ rfl lb off rfl [.int .u8 h.a, .int .u8 h.b, .int .u8 h.c, .int .u8 h.d] _ (fun _ h => h) Try.underlying45 rfl (by kernel_rfl)) (show _ from HD.out) ?_
          try simp only [Act.put, List.getElem_toArray, List.getElem_cons_zero, List.getElem_cons_succ, List.setIfInBounds_toArray, List.set_cons_zero, List.set_cons_succ]
          refine kr_one 10 (by kernel_rfl) rfl (by rfl) (fun K hK => ?_)
          refine wp_mapDrop (M := M45) _ _ _ 94 rfl 3 Try.underlying94 m (tab L1) rfl (LN9.out.pa.map.heap rfl) ⟨h.a, h.b, h.c, h.d⟩ hh.out rfl ?_
          intro w11 hm11 ht11
          rw [but_tabI] at hm11
          have LN11 := Lib.hid (LN9.out.turned hm11 ht11)
          have F11 := Lib.hid (show Fr (fun i => i = g ∨ i = m ∨ lv0.ownBlock = some i) w w11 from F9.out.grown (b := w9) ⟨ht11.grown.os, ht11.grown.tape, ht11.grown.output, ht11.grown.size, ht11.grown.block⟩ (fun r e _ => by injection e with e; exact .inr (.inl e.symm)))
          have ht11' : ∀ k, v'.ownBlock = some k → w11.heap[k]? = w9.heap[k]? := fun k hk => ht11.grown.block k (LN9.out.sl.lt k (by rw [← HOB.out]; exact hk)).2 (fun e => LN9.out.lm (by rw [← HOB.out, hk]; exact e))
          clear hm11 ht11
          refine hK.out _ _ ⟨.inl (by kernel_rfl), .inl (by kernel_rfl), .inl (by kernel_rfl), trivial⟩ ?_
          clear hK K
          try simp only [Act.put, List.getElem_toArray, List.getElem_cons_zero, List.getElem_cons_succ, List.setIfInBounds_toArray, List.set_cons_zero, List.set_cons_succ]
          refine kr_done (by kernel_rfl) ?_ _
          go_upto_region 9 with (fail)
          have hc1 := LN11.out.pa.line
          have hz1 := frozen_of_row w11 g 1 _ 97 LN11.out.pa.blk
          obtain ⟨A7, cp7, hv7, hn7, hm7⟩ := HSL.out.form
          subst hv7
          clear hn7 hm7
          repeat (first | (refine wpList_slice rfl _ _ rfl rfl rfl HRUN.out ?_) | go_step)
          go_wp2_with fail
          clear hc1 hz1
          go_ret
          have hb := HOB.out
          have hlg := LN11.out.lg
          have hlm := LN11.out.lm
          rw [← hb] at hlg hlm
          refine ⟨rfl, .slice A7 (nl - 1) cp7, ?_, F11.out.setCell _ _ (fun _ => .inl rfl), by rw [hb]; exact OB5.out⟩
          rw [HF.out]
          have s11 := HSL.out.heap (w' := w11) (fun k hk => (ht11' k hk))
          refine ⟨LN11.out.pa.setLine LN11.out.gm _, ?_, LN11.out.gm, hlg, hlm, fun k hk => LN11.out.ok k (by simp [hk])⟩
          have := s11.fr (S := fun i => i = g) ((Fr.refl _ w11).setCell ⟨g, 1, none⟩ (.slice A7 (nl - 1) cp7) (fun _ => rfl)) (fun k hk e => hlg (by rw [hk, e]))
          have e1 : nl - 1 = t.length := by have := HNL.out; simp at this; omega
          rw [e1] at this ⊢
          simpa [I4.cells] using this
end Go.Proofs.Ytcfadmjihccimaa
