/- Paths of the reference: Find, Learn. No condition but lengths. -/
import Derived.Test.YtcfadmjihccimaaIcL
import Derived.Test.YtcfadmjihccimaaFlatEq
namespace Go.Proofs.Ytcfadmjihccimaa
set_option linter.unusedVariables false
set_option linter.unusedSimpArgs false
open Go.RowKit

def k4 : List (Option IntKind) := [some .u8, some .u8, some .u8, some .u8]
theorem flat45 : flatK Try.prog 9 45 = some k4 := by kernel_rfl
theorem fits45 {k : I4} (h : k.ok) : FitsL k4 [.int .u8 k.a, .int .u8 k.b, .int .u8 k.c, .int .u8 k.d] := ⟨⟨_, rfl, h.1⟩, ⟨_, rfl, h.2.1⟩, ⟨_, rfl, h.2.2.1⟩, ⟨_, rfl, h.2.2.2⟩, trivial⟩
theorem i4_iff (m k : I4) : decide (m = k) = true ↔ ([.int .u8 m.a, .int .u8 m.b, .int .u8 m.c, .int .u8 m.d] : List Value) = [.int .u8 k.a, .int .u8 k.b, .int .u8 k.c, .int .u8 k.d] := by
  rw [decide_eq_true_iff]
  constructor
  · intro e; rw [e]
  · intro e
    cases m; cases k
    simp only [List.cons.injEq, Value.int.injEq] at e
    simp_all
theorem eql45 {k k' : I4} (h : k.ok) (h' : k'.ok) (w : World) : (binOp .eql 45 (.agg #[.int .u8 k.a, .int .u8 k.b, .int .u8 k.c, .int .u8 k.d]) (.agg #[.int .u8 k'.a, .int .u8 k'.b, .int .u8 k'.c, .int .u8 k'.d])).run Try.prog w = .ok (.bool (decide (k = k'))) w :=
  run_eql_flat (P := Try.prog) flat45 (by kernel_rfl) (fits45 h) (fits45 h') (by kernel_rfl) (by kernel_rfl) _ (i4_iff k k') w

def pcells (p : I4 × Int) : List Value := [.int .u8 p.1.a, .int .u8 p.1.b, .int .u8 p.1.c, .int .u8 p.1.d, .int .i64 p.2]
theorem st39 : SlTy Try.prog 39 100 5 16 (.agg #[.int .u8 0, .int .u8 0, .int .u8 0, .int .u8 0, .int .i64 0]) := ⟨Try.underlying39, by kernel_rfl, rfl, by decide⟩
theorem bd100 : BdTy Try.prog 100 #[(0, 4), (4, 1)] (.agg #[.int .u8 0, .int .u8 0, .int .u8 0, .int .u8 0, .int .i64 0]) := ⟨⟨_, Try.underlying100, fun w => by kernel_rfl⟩, fun w => by kernel_rfl⟩
theorem src39 {w : World} {x : Nat} {a b c d n : Int} (h : w.rangeAt x 0 [.int .u8 a, .int .u8 b, .int .u8 c, .int .u8 d, .int .i64 n]) : Src Try.prog 5 39 (.slice (some ⟨x, 0, none⟩) 1 1) 1 [.int .u8 a, .int .u8 b, .int .u8 c, .int .u8 d, .int .i64 n] w :=
  Src.ofSlice (w := w) Try.underlying39 ⟨x, 0, none⟩ 1 1 _ rfl (fun j u hj => by rw [Addr.add_mid]; exact h j u hj) (by simp [Value.oneCell'])
/-- The reference's paths. -/
structure RfAt (w : World) (g : Nat) (R : List (I4 × Int)) (lv : Value) : Prop where
  blk : w.heap[g]? = some (.cells #[lv] 41)
  sl : Sl 0 100 5 w lv R.length (R.flatMap pcells)
  lg : lv.ownBlock ≠ some g
  ok : ∀ p ∈ R, p.1.ok
theorem RfAt.line {w : World} {g : Nat} {R : List (I4 × Int)} {lv : Value} (h : RfAt w g R lv) : w.cell? ⟨g, 0, none⟩ = some lv := cells_at w g [lv] 41 h.blk 0 _ rfl
theorem RfAt.heap {w w' : World} {g : Nat} {R : List (I4 × Int)} {lv : Value} (h : RfAt w g R lv) (hg : w'.heap[g]? = w.heap[g]?) (hl : ∀ k, lv.ownBlock = some k → w'.heap[k]? = w.heap[k]?) : RfAt w' g R lv :=
  ⟨hg.trans h.blk, h.sl.heap hl, h.lg, h.ok⟩
theorem RfAt.fr {w w' : World} {g : Nat} {R : List (I4 × Int)} {lv : Value} (h : RfAt w g R lv) (f : Fr (fun _ => False) w w') : RfAt w' g R lv :=
  h.heap (f.block g (lt_of_block h.blk) (fun e => e)) (fun k hk => f.block k (h.sl.lt k hk).2 (fun e => e))
theorem flat_at {R : List (I4 × Int)} {i : Nat} {q : I4 × Int} (hi : R[i]? = some q) {j : Nat} {v : Value} (hj : (pcells q)[j]? = some v) : (R.flatMap pcells)[i * 5 + j]? = some v := by
  induction R generalizing i with
  | nil => cases hi
  | cons p R ih =>
    rw [List.flatMap_cons]
    cases i with
    | zero =>
      cases hi
      rw [Nat.zero_mul, Nat.zero_add, List.getElem?_append_left (List.getElem?_eq_some_iff.1 hj).1]
      exact hj
    | succ i =>
      rw [List.getElem?_append_right (by simp [pcells]; omega)]
      have : (i + 1) * 5 + j - (pcells p).length = i * 5 + j := by simp [pcells]; omega
      rw [this]
      exact ih hi
/-- An element's cells. -/
theorem RfAt.at {w : World} {g n : Nat} {R : List (I4 × Int)} {lv : Value} (h : RfAt w g R lv) (hn : R.length = n) (h0 : 0 < n) : ∃ b off cap, lv = .slice (some ⟨b, off, none⟩) n cap ∧ n ≤ cap ∧ b < w.heap.size ∧
    (∀ i q, R[i]? = some q → ∀ j v, (pcells q)[j]? = some v → w.cell? ⟨b, off + i * 5 + j, none⟩ = some v) ∧ ∀ j, w.frozen? ⟨b, j, none⟩ = false := by
  subst hn
  obtain ⟨b, off, cap, hv, _, hb, hc, _, hcl, hf⟩ := h.sl.form1 h0
  exact ⟨b, off, cap, hv, hc, hb, fun i q hi j v hj => by rw [Nat.add_assoc]; exact hcl _ v (flat_at hi hj), hf⟩

theorem lki_at {R : List (I4 × Int)} {k : I4} {i : Nat} {q : I4 × Int} (hi : R[i]? = some q) (hq : q.1 = k) (h : ∀ (j : Nat) (q : I4 × Int), j < i → R[j]? = some q → q.1 ≠ k) : lki R k = some q.2 := by
  induction R generalizing i with
  | nil => cases hi
  | cons p R ih =>
    unfold lki
    rw [List.find?_cons]
    cases i with
    | zero => cases hi; simp [hq]
    | succ i =>
      have := h 0 p (by omega) rfl
      simp only [this, decide_false]
      exact ih hi (fun j q hj hq => h (j + 1) q (by omega) hq)
theorem lki_not {R : List (I4 × Int)} {k : I4} (h : ∀ (j : Nat) (q : I4 × Int), R[j]? = some q → q.1 ≠ k) : lki R k = none := by
  unfold lki
  rw [List.find?_eq_none.2 (fun p hp => by obtain ⟨j, hj⟩ := List.getElem?_of_mem hp; simpa using h j p hj)]
  rfl

set_option maxHeartbeats 8000000 in
set_option maxRecDepth 100000 in
theorem rfind21 (g : Nat) (R : List (I4 × Int)) (lv : Value) (a b c d : Int) (w : World) (hk : I4.ok ⟨a, b, c, d⟩) (hR : RfAt w g R lv) (hlen : R.length < 1000000) :
    Calls Try.prog 21 #[.pointer (some ⟨g, 0, none⟩), .agg #[.int .u8 a, .int .u8 b, .int .u8 c, .int .u8 d]] w fun e w' => e = .returned (.int .i64 ((lki R ⟨a, b, c, d⟩).getD 256)) ∧ Fr (fun _ => False) w w' := by
  obtain ⟨n, hn⟩ : ∃ n, R.length = n := ⟨_, rfl⟩
  obtain ⟨A, cap, hv, _, _⟩ := hR.sl.form
  rw [hn] at hv hlen
  have f1 := (Fr.refl (fun _ => False) w).alloc (.cells #[.int .u8 a, .int .u8 b, .int .u8 c, .int .u8 d] 45)
  have F1 := Lib.hid f1
  have HR1 := Lib.hid (hR.fr f1)
  have HK1 := Lib.hid (heap_alloc_new w (.cells #[.int .u8 a, .int .u8 b, .int .u8 c, .int .u8 d] 45))
  have Hn := Lib.hid hn
  obtain ⟨r0, hr0⟩ : ∃ r0, (lki R ⟨a, b, c, d⟩).getD 256 = r0 := ⟨_, rfl⟩
  rw [hr0]
  have HR0 := Lib.hid hr0
  clear hR hn f1 hr0
  subst hv
  go_enter Try.func21, Try.ntmps21
  go_upto_region 1 with (fail)
  generalize w.alloc (.cells #[.int .u8 a, .int .u8 b, .int .u8 c, .int .u8 d] 45) = w1 at HR1 HK1 F1 ⊢
  obtain ⟨Bk, hBk⟩ : ∃ b, w.heap.size = b := ⟨_, rfl⟩
  rw [hBk] at HK1 ⊢
  clear hBk
  go_wp2_with fail
  go_loopw [5] (fun v wr => ∃ i : Nat, v = .int .i64 i ∧ i ≤ n ∧ (∀ (j : Nat) (q : I4 × Int), j < i → R[j]? = some q → q.1 ≠ ⟨a, b, c, d⟩) ∧ Fr (fun _ => False) w1 wr) (fun v _ => n - (intOf v).toNat)
  case atStart => exact ⟨0, rfl, Nat.zero_le _, fun j q hj => absurd hj (Nat.not_lt_zero _), Fr.refl _ _⟩
  case round =>
    obtain ⟨i, rfl, hi, hno, hf⟩ := hrel
    have R1 := HR1.out.fr hf
    have cg := R1.line
    have hkb := cells_at wr Bk [.int .u8 a, .int .u8 b, .int .u8 c, .int .u8 d] 45 ((hf.block Bk (lt_of_block HK1.out) (fun e => e)).trans HK1.out)
    have k0 := hkb 0 _ rfl
    have k1 := hkb 1 _ rfl
    have k2 := hkb 2 _ rfl
    have k3 := hkb 3 _ rfl
    have Hno := Lib.hid hno
    have Hf := Lib.hid hf
    have HRr := Lib.hid R1
    clear hno hf R1 hkb
    by_cases hlt : i < n
    · obtain ⟨q, hq⟩ : ∃ q, R[i]? = some q := ⟨_, List.getElem?_eq_getElem (by rw [Hn.out]; exact hlt)⟩
      obtain ⟨b', off, cap', hv', hcap', hbl, hc, _⟩ := HRr.out.at Hn.out (by omega)
      injection hv' with hv1 _ hv2
      subst hv1; subst hv2
      have hqk : q.1.ok := HRr.out.ok q (List.mem_of_getElem? hq)
      have c0 := hc i q hq 0 _ rfl
      have c1 := hc i q hq 1 _ rfl
      have c2 := hc i q hq 2 _ rfl
      have c3 := hc i q hq 3 _ rfl
      have c4 := hc i q hq 4 _ rfl
      have heq := fun w => eql45 (w := w) hqk hk
      have Hq := Lib.hid hq
      clear hc hq hqk
      obtain ⟨⟨qa, qb, qc, qd⟩, qu⟩ := q
      simp only [Nat.add_zero] at c0
      have Hf2 := fun m => Lib.hid (Hf.out.drewN m)
      cases hk' : decide ((⟨qa, qb, qc, qd⟩ : I4) = ⟨a, b, c, d⟩)
      · simp only [hk'] at heq
        have Hk' := Lib.hid hk'
        clear hk'
        go_wp2_with fail
        go_quiet (fail)
        go_wp2_with fail
        go_roundw
        case rel =>
          refine ⟨i + 1, by go_num, by omega, fun j q hj hq => ?_, (Hf2 _).out⟩
          by_cases e : j = i
          · subst e
            rw [Hq.out] at hq
            injection hq with hq
            subst hq
            exact of_decide_eq_false Hk'.out
          · exact Hno.out j q (by omega) hq
        case measure => simp [intOf]; omega
      · simp only [hk'] at heq
        have Hk' := Lib.hid hk'
        have HQ := Lib.hid (lki_at Hq.out (of_decide_eq_true hk') Hno.out)
        clear hk'
        go_wp2_with fail
        go_quiet (fail)
        go_wp2_with fail
        go_ret
        refine ⟨?_, F1.out.then' (Hf2 _).out⟩
        rw [← HR0.out, HQ.out]; rfl
    · go_wp2_with fail
      go_ret
      refine ⟨?_, F1.out.then' Hf.out⟩
      rw [← HR0.out, lki_not (fun j q hj => Hno.out j q (by have := (List.getElem?_eq_some_iff.1 hj).1; rw [Hn.out] at this; omega) hj)]; rfl

def rfSet : List (I4 × Int) → I4 → Int → List (I4 × Int)
  | [], _, _ => []
  | p :: r, k, m => if p.1 = k then (k, m) :: r else p :: rfSet r k m
theorem rfSet_at {R : List (I4 × Int)} {k : I4} {m : Int} {i : Nat} {q : I4 × Int} (hi : R[i]? = some q) (hq : q.1 = k) (h : ∀ (j : Nat) (q : I4 × Int), j < i → R[j]? = some q → q.1 ≠ k) : rfSet R k m = R.set i (k, m) := by
  induction R generalizing i with
  | nil => cases hi
  | cons p R ih =>
    unfold rfSet
    cases i with
    | zero => cases hi; rw [if_pos hq]; rfl
    | succ i =>
      rw [if_neg (h 0 p (by omega) rfl), ih hi (fun j q hj hq => h (j + 1) q (by omega) hq)]; rfl
def rfCut (R : List (I4 × Int)) : List (I4 × Int) := if R.length > 8 then R.tail else R
def rfNew (R : List (I4 × Int)) (k : I4) (m : Int) : List (I4 × Int) := if (lki R k).isSome then rfSet R k m else rfCut (R ++ [(k, m)])
theorem flat_set {R : List (I4 × Int)} {i : Nat} {q : I4 × Int} (hi : R[i]? = some q) (m : Int) : (R.flatMap pcells).set (i * 5 + 4) (.int .i64 m) = (R.set i (q.1, m)).flatMap pcells := by
  induction R generalizing i with
  | nil => cases hi
  | cons p R ih =>
    cases i with
    | zero =>
      cases hi
      simp [pcells]
    | succ i =>
      rw [List.set_cons_succ, List.flatMap_cons, List.flatMap_cons, ← ih hi, List.set_append_right _ _ (by simp [pcells]; omega)]
      congr 2
      simp [pcells]; omega

set_option maxHeartbeats 8000000 in
set_option maxRecDepth 100000 in
theorem rlearn20_no (g : Nat) (R : List (I4 × Int)) (lv : Value) (a b c d mtu : Int) (w : World) (hk : I4.ok ⟨a, b, c, d⟩) (hR : RfAt w g R lv) (hlen : R.length < 1000000) (hno : learns R ⟨a, b, c, d⟩ mtu = false) :
    Calls Try.prog 20 #[.pointer (some ⟨g, 0, none⟩), .agg #[.int .u8 a, .int .u8 b, .int .u8 c, .int .u8 d], .int .i64 mtu] w fun e w' => e = .returned (.bool false) ∧ Fr (fun _ => False) w w' := by
  have HT := Lib.hid hR
  have HN := Lib.hid hno
  have HLEN := Lib.hid hlen
  have FA := Lib.hid (Fr.refl (fun _ => False) w)
  obtain ⟨x, hx⟩ : ∃ x, (lki R ⟨a, b, c, d⟩).getD 256 = x := ⟨_, rfl⟩
  have HX := Lib.hid hx
  clear hR hno hx hlen
  go_enter Try.func20, Try.ntmps20
  go_upto_region 1 with (fail)
  have g0 : KbAt (w.alloc (.cells #[.int .u8 a, .int .u8 b, .int .u8 c, .int .u8 d] 45)) w.heap.size a b c d := ⟨heap_alloc_new w _⟩
  have FB := Lib.hid (FA.out.alloc (.cells #[.int .u8 a, .int .u8 b, .int .u8 c, .int .u8 d] 45))
  generalize w.alloc (.cells #[.int .u8 a, .int .u8 b, .int .u8 c, .int .u8 d] 45) = w1 at g0 FB ⊢
  have c0 := g0.cells 0 _ rfl
  have c1 := g0.cells 1 _ rfl
  have c2 := g0.cells 2 _ rfl
  have c3 := g0.cells 3 _ rfl
  simp only [Nat.zero_add] at c0 c1 c2 c3
  clear g0
  by_cases h1 : mtu < 68
  · go_wp2_with fail
    go_ret
    exact ⟨rfl, FB.out⟩
  · have h2 : x ≤ mtu := by
      have := HN.out
      unfold learns at this
      rw [HX.out] at this
      simp at this
      have := this (by omega)
      omega
    go_wp2_with (go_at_call 21; refine (rfind21 g R lv a b c d w1 hk (HT.out.fr FB.out) HLEN.out).mono ?_; rw [HX.out]; rintro e w2 ⟨rfl, f2⟩)
    go_ret
    exact ⟨rfl, FB.out.trans f2 (fun _ _ e => e)⟩

def RfPost (g : Nat) (R' : List (I4 × Int)) (lv0 : Value) (w w' : World) : Prop := ∃ lv', RfAt w' g R' lv' ∧ Fr (fun i => i = g ∨ lv0.ownBlock = some i) w w' ∧ (lv'.ownBlock = lv0.ownBlock ∨ ∃ z, lv'.ownBlock = some z ∧ w.heap.size ≤ z)

set_option maxHeartbeats 16000000 in
set_option maxRecDepth 100000 in
theorem rlearn20_yes (g : Nat) (R : List (I4 × Int)) (lv0 : Value) (a b c d mtu : Int) (w : World) (hk : I4.ok ⟨a, b, c, d⟩) (hR : RfAt w g R lv0) (hlen : R.length ≤ 8) (hyes : learns R ⟨a, b, c, d⟩ mtu = true) :
    Calls Try.prog 20 #[.pointer (some ⟨g, 0, none⟩), .agg #[.int .u8 a, .int .u8 b, .int .u8 c, .int .u8 d], .int .i64 mtu] w fun e w' => e = .returned (.bool true) ∧ RfPost g (rfNew R ⟨a, b, c, d⟩ mtu) lv0 w w' := by
  have HT := Lib.hid hR
  have HLEN := Lib.hid hlen
  have FA := Lib.hid (Fr.refl (fun _ => False) w)
  obtain ⟨x, hx⟩ : ∃ x, (lki R ⟨a, b, c, d⟩).getD 256 = x := ⟨_, rfl⟩
  have HX := Lib.hid hx
  have h1 : ¬ mtu < 68 ∧ ¬ x ≤ mtu := by
    unfold learns at hyes
    rw [hx] at hyes
    simp at hyes
    omega
  obtain ⟨h1, h2⟩ := h1
  obtain ⟨R', hR'⟩ : ∃ R', rfNew R ⟨a, b, c, d⟩ mtu = R' := ⟨_, rfl⟩
  rw [hR']
  have HR' := Lib.hid hR'
  obtain ⟨n, hn⟩ : ∃ n, R.length = n := ⟨_, rfl⟩
  have Hn := Lib.hid hn
  have hn8 : n ≤ 8 := by omega
  obtain ⟨A, cap, hv, _, _⟩ := hR.sl.form
  rw [hn] at hv
  subst hv
  clear hR hyes hx hR' hlen hn
  go_enter Try.func20, Try.ntmps20
  go_upto_region 1 with (fail)
  have g0 : KbAt (w.alloc (.cells #[.int .u8 a, .int .u8 b, .int .u8 c, .int .u8 d] 45)) w.heap.size a b c d := ⟨heap_alloc_new w _⟩
  have FB := Lib.hid (FA.out.alloc (.cells #[.int .u8 a, .int .u8 b, .int .u8 c, .int .u8 d] 45))
  generalize w.alloc (.cells #[.int .u8 a, .int .u8 b, .int .u8 c, .int .u8 d] 45) = w1 at g0 FB ⊢
  obtain ⟨kb, hkb⟩ : ∃ kb, w.heap.size = kb := ⟨_, rfl⟩
  have KN := Lib.hid (show ¬ ((Value.slice A n cap).ownBlock = some kb) from fun e => by have := (HT.out.sl.lt kb e).2; omega)
  have KG := Lib.hid (show kb ≠ g from fun e => by have := lt_of_block HT.out.blk; omega)
  have HKB := Lib.hid hkb
  rw [hkb] at g0 ⊢
  clear hkb
  have KB1 := Lib.hid g0
  have c0 := g0.cells 0 _ rfl
  have c1 := g0.cells 1 _ rfl
  have c2 := g0.cells 2 _ rfl
  have c3 := g0.cells 3 _ rfl
  simp only [Nat.zero_add] at c0 c1 c2 c3
  clear g0
  go_upto_region 3 with (go_at_call 21; refine (rfind21 g R _ a b c d w1 hk (HT.out.fr FB.out) (by have := HLEN.out; omega)).mono ?_; rw [HX.out]; rintro e w2 ⟨rfl, f2⟩; have F2 := Lib.hid (FB.out.trans f2 (fun _ _ e => e)); have KB2 := Lib.hid (KB1.out.fr f2 (fun e => e)); clear f2)
  clear c0 c1 c2 c3
  have RF2 := Lib.hid (HT.out.fr F2.out)
  go_wp2_with fail
  go_loopw [7] (fun v wr => ∃ i : Nat, v = .int .i64 i ∧ i ≤ n ∧ (∀ (j : Nat) (q : I4 × Int), j < i → R[j]? = some q → q.1 ≠ ⟨a, b, c, d⟩) ∧ Fr (fun _ => False) w2 wr) (fun v _ => n - (intOf v).toNat)
  case atStart => exact ⟨0, rfl, Nat.zero_le _, fun j q hj => absurd hj (Nat.not_lt_zero _), Fr.refl _ _⟩
  case round =>
    obtain ⟨i, rfl, hi, hno, hf⟩ := hrel
    have RFr := Lib.hid (RF2.out.fr hf)
    have cg := RFr.out.line
    have KBr := Lib.hid (KB2.out.fr hf (fun e => e))
    have k0 := KBr.out.cells 0 _ rfl
    have k1 := KBr.out.cells 1 _ rfl
    have k2 := KBr.out.cells 2 _ rfl
    have k3 := KBr.out.cells 3 _ rfl
    simp only [Nat.zero_add] at k0 k1 k2 k3
    have Hno := Lib.hid hno
    have Hf := Lib.hid hf
    clear hno hf
    by_cases hlt : i < n
    · obtain ⟨q, hq⟩ : ∃ q, R[i]? = some q := ⟨_, List.getElem?_eq_getElem (by rw [Hn.out]; exact hlt)⟩
      obtain ⟨b', off, cap', hv', hcap', hbl, hc, hz⟩ := RFr.out.at Hn.out (by omega)
      injection hv' with hv1 _ hv2
      subst hv1; subst hv2
      have hqk : q.1.ok := RFr.out.ok q (List.mem_of_getElem? hq)
      have c0 := hc i q hq 0 _ rfl
      have c1 := hc i q hq 1 _ rfl
      have c2 := hc i q hq 2 _ rfl
      have c3 := hc i q hq 3 _ rfl
      have c4 := hc i q hq 4 _ rfl
      have heq := fun w => eql45 (w := w) hqk hk
      have Hq := Lib.hid hq
      have HZ := Lib.hid hz
      clear hc hq hqk hz
      obtain ⟨⟨qa, qb, qc, qd⟩, qu⟩ := q
      simp only [Nat.add_zero] at c0
      have Hf2 := fun m => Lib.hid (Hf.out.drewN m)
      cases hk' : decide ((⟨qa, qb, qc, qd⟩ : I4) = ⟨a, b, c, d⟩)
      · simp only [hk'] at heq
        have Hk' := Lib.hid hk'
        clear hk'
        go_wp2_with fail
        go_quiet (fail)
        go_wp2_with fail
        go_roundw
        case rel =>
          refine ⟨i + 1, by go_num, by omega, fun j q hj hq => ?_, (Hf2 _).out⟩
          by_cases e : j = i
          · subst e
            rw [Hq.out] at hq
            injection hq with hq
            subst hq
            exact of_decide_eq_false Hk'.out
          · exact Hno.out j q (by omega) hq
        case measure => simp [intOf]; omega
      · simp only [hk'] at heq
        have Hk' := Lib.hid (of_decide_eq_true hk')
        have HQ := Lib.hid (lki_at Hq.out (of_decide_eq_true hk') Hno.out)
        have HS := Lib.hid (rfSet_at (m := mtu) Hq.out (of_decide_eq_true hk') Hno.out)
        clear hk'
        go_wp2_with fail
        go_quiet (fail)
        clear cg k0 k1 k2 k3 c0 c1 c2 c3 c4 heq
        have RF3 := Lib.hid (RFr.out.fr ((Fr.refl (fun _ => False) wr).drewN nq))
        have F3 := Lib.hid (F2.out.then' (Hf2 nq).out)
        generalize wr.drewN nq = w3 at RF3 F3 ⊢
        have cg := RF3.out.line
        obtain ⟨b'', off'', cap'', hv', hcap', hbl, hc, hz⟩ := RF3.out.at Hn.out (by omega)
        injection hv' with hv1 _ hv2
        injection hv1 with hv1
        injection hv1 with hv3 hv4
        subst hv2; subst hv3; subst hv4
        have c4 := hc i _ Hq.out 4 _ rfl
        have z4 := hz (off + i * 5 + 4)
        clear hc hz
        go_wp2_with fail
        clear cg c4 z4
        go_ret
        have hil : i * 5 + 4 < n * 5 := by omega
        have hs := RF3.out.sl
        rw [Hn.out] at hs
        have hset := hs.set (i * 5 + 4) hil (.int .i64 mtu)
        rw [flat_set Hq.out, Hk'.out, ← HS.out, ← Nat.add_assoc] at hset
        have hne : b' ≠ g := fun e => RF3.out.lg (by rw [← e]; rfl)
        refine ⟨rfl, .slice (some ⟨b', off, none⟩) n cap, ⟨?_, ?_, RF3.out.lg, ?_⟩, F3.out.mono (fun _ _ e => e.elim) |>.setCell _ _ (fun _ => .inr rfl), .inl rfl⟩
        · rw [Below.heap_setCell _ _ _ _ (fun e => hne e.symm)]; exact RF3.out.blk
        · rw [← HR'.out, rfNew, HQ.out]
          simp only [Option.isSome_some, if_true]
          rw [HS.out, List.length_set, Hn.out, ← HS.out]
          exact hset
        · rw [← HR'.out, rfNew, HQ.out]
          simp only [Option.isSome_some, if_true]
          rw [HS.out]
          intro p hp
          rcases List.mem_or_eq_of_mem_set hp with hp | rfl
          · exact RF3.out.ok p hp
          · exact hk
    · have hnone := lki_not (R := R) (k := ⟨a, b, c, d⟩) (fun j q hj => Hno.out j q (by have := (List.getElem?_eq_some_iff.1 hj).1; rw [Hn.out] at this; omega) hj)
      have HNEW := Lib.hid (show R' = rfCut (R ++ [(⟨a, b, c, d⟩, mtu)]) by rw [← HR'.out, rfNew, hnone]; rfl)
      clear hnone
      have F3 := Lib.hid (F2.out.then' Hf.out)
      have RF3 := RFr
      have KB3 := KBr
      obtain ⟨w3, hw3⟩ : ∃ w3, w3 = wr := ⟨_, rfl⟩
      subst hw3
      as_aux_lemma =>
      have hRl : R.length ≤ 8 := HLEN.out
      go_upto_region 9 with (fail)
      clear cg k0 k1 k2 k3
      have LA := Lib.hid (RF3.out.fr ((Fr.refl _ w3).drew.alloc (.cells #[.int .u8 a, .int .u8 b, .int .u8 c, .int .u8 d, .int .i64 mtu] 100)))
      have KA := Lib.hid (KB3.out.fr ((Fr.refl (fun _ => False) w3).drew.alloc (.cells #[.int .u8 a, .int .u8 b, .int .u8 c, .int .u8 d, .int .i64 mtu] 100)) (fun e => e))
      refine kr_start [(4, fun W => W.cell? ⟨g, 0, none⟩ = some (.slice A n cap)), (5, fun W => W.rangeAt kb 0 [.int .u8 a, .int .u8 b, .int .u8 c, .int .u8 d])] (by kernel_rfl) (by kernel_rfl) ?_
      refine kr_find 0 rfl (by kernel_rfl) (by kernel_rfl) (by kernel_rfl) (fun _ _ _ _ h => h) (by rfl) trivial ?_
      apply Exists.intro; apply And.intro
      · intro w' hS K hK
        clear hS
        go_light
        go_simp
        exact hK.out
      try simp only [Act.put, List.getElem_toArray, List.getElem_cons_zero, List.getElem_cons_succ, List.setIfInBounds_toArray, List.set_cons_zero, List.set_cons_succ]
      refine kr_find 1 rfl (by kernel_rfl) (by kernel_rfl) (by kernel_rfl) (fun _ _ _ _ h => h) (by rfl) trivial ?_
      apply Exists.intro; apply And.intro
      · intro w' hS K hK
        clear hS
        go_light
        go_simp
        exact hK.out
      try simp only [Act.put, List.getElem_toArray, List.getElem_cons_zero, List.getElem_cons_succ, List.setIfInBounds_toArray, List.set_cons_zero, List.set_cons_succ]
      refine kr_find 2 rfl (by kernel_rfl) (by kernel_rfl) (by kernel_rfl) (fun _ _ _ _ h => h) (by rfl) trivial ?_
      apply Exists.intro; apply And.intro
      · intro w' hS K hK
        clear hS
        go_light
        go_simp
        exact hK.out
      try simp only [Act.put, List.getElem_toArray, List.getElem_cons_zero, List.getElem_cons_succ, List.setIfInBounds_toArray, List.set_cons_zero, List.set_cons_succ]
      refine kr_find 3 rfl (by kernel_rfl) (by kernel_rfl) (by kernel_rfl) (fun _ _ _ _ h => h) (by rfl) trivial ?_
      apply Exists.intro; apply And.intro
      · intro w' hS K hK
        clear hS
        go_light
        go_simp
        exact hK.out
      try simp only [Act.put, List.getElem_toArray, List.getElem_cons_zero, List.getElem_cons_succ, List.setIfInBounds_toArray, List.set_cons_zero, List.set_cons_succ]
      refine kr_find 4 rfl (by kernel_rfl) (by kernel_rfl) (by kernel_rfl) (fun _ _ _ _ h => h) (by rfl) (show _ from RF3.out.line) ?_
      apply Exists.intro; apply And.intro
      · intro w' hS K hK
        have hS : w'.cell? ⟨g, 0, none⟩ = some (.slice A n cap) := hS
        go_light
        go_simp
        exact hK.out
      try simp only [Act.put, List.getElem_toArray, List.getElem_cons_zero, List.getElem_cons_succ, List.setIfInBounds_toArray, List.set_cons_zero, List.set_cons_succ]
      refine kr_take 5 rfl (by kernel_rfl) (by kernel_rfl) (by kernel_rfl) (fun _ _ _ h => h) (yieldsIf_load_mid (by rfl) 45 _ rfl kb 0 rfl [.int .u8 a, .int .u8 b, .int .u8 c, .int .u8 d] _ (fun _ h => h) Try.underlying45 rfl (by kernel_rfl)) (show _ from KB3.out.cells) ?_
      try simp only [Act.put, List.getElem_toArray, List.getElem_cons_zero, List.getElem_cons_succ, List.setIfInBounds_toArray, List.set_cons_zero, List.set_cons_succ]
      refine kr_find 6 rfl (by kernel_rfl) (by kernel_rfl) (by kernel_rfl) (fun _ _ _ _ h => h) (by rfl) trivial ?_
      apply Exists.intro; apply And.intro
      · intro w' hS K hK
        clear hS
        go_light
        go_simp
        exact hK.out
      try simp only [Act.put, List.getElem_toArray, List.getElem_cons_zero, List.getElem_cons_succ, List.setIfInBounds_toArray, List.set_cons_zero, List.set_cons_succ]
      refine kr_take 7 rfl (by kernel_rfl) (by kernel_rfl) (by kernel_rfl) (fun _ _ _ h => h) (kr_build bd100 rfl rfl [(0, .agg #[.int .u8 a, .int .u8 b, .int .u8 c, .int .u8 d]), (1, .int .i64 mtu)] (by rfl) #[.int .u8 a, .int .u8 b, .int .u8 c, .int .u8 d, .int .i64 mtu] (by rfl)) trivial ?_
      try simp only [Act.put, List.getElem_toArray, List.getElem_cons_zero, List.getElem_cons_succ, List.setIfInBounds_toArray, List.set_cons_zero, List.set_cons_succ]
      refine kr_one 8 (by kernel_rfl) rfl (by rfl) (fun K hK => ?_)
      refine wp_buildSlice1 st39 rfl (by decide) #[.int .u8 a, .int .u8 b, .int .u8 c, .int .u8 d, .int .i64 mtu] (by rfl) rfl ?_
      refine hK.out _ _ ⟨.inr LA.out.line, .inr KA.out.cells, trivial⟩ ?_
      clear hK K
      try simp only [Act.put, List.getElem_toArray, List.getElem_cons_zero, List.getElem_cons_succ, List.setIfInBounds_toArray, List.set_cons_zero, List.set_cons_succ]
      refine kr_one 9 (by kernel_rfl) rfl (by rfl) (fun K hK => ?_)
      refine wp_append_sl _ _ rfl st39 (.slice A n cap) _ _ rfl LA.out.sl _ 1 [.int .u8 a, .int .u8 b, .int .u8 c, .int .u8 d, .int .i64 mtu] rfl (src39 (World.rangeAt_alloc w3.drew _ 100)) (by simp only [maxLen]; omega) (by omega) (Nat.zero_le _) ?_
      intro v7 w7 sl7 gr7 ob7 nil7
      obtain ⟨A7, cp7, rfl, hn7, hm7⟩ := sl7.form
      clear hn7 hm7
      have fr7 := fr_of_grown gr7
      have LB := Lib.hid ((gr7.block g (lt_of_block LA.out.blk) (fun e => LA.out.lg e.symm)).trans LA.out.blk)
      have KB7 := Lib.hid (KA.out.fr fr7 KN.out)
      have S7 := Lib.hid (And.intro sl7 (And.intro fr7 ob7))
      clear sl7 gr7 fr7 ob7 nil7
      refine hK.out _ _ ⟨.inl (by kernel_rfl), .inr KB7.out.cells, trivial⟩ ?_
      clear hK K
      try simp only [Act.put, List.getElem_toArray, List.getElem_cons_zero, List.getElem_cons_succ, List.setIfInBounds_toArray, List.set_cons_zero, List.set_cons_succ]
      refine kr_find 10 rfl (by kernel_rfl) (by kernel_rfl) (by kernel_rfl) (fun _ _ _ _ h => h) (by rfl) trivial ?_
      apply Exists.intro; apply And.intro
      · intro w' hS K hK
        clear hS
        go_light
        go_simp
        exact hK.out
      try simp only [Act.put, List.getElem_toArray, List.getElem_cons_zero, List.getElem_cons_succ, List.setIfInBounds_toArray, List.set_cons_zero, List.set_cons_succ]
      refine kr_find 11 rfl (by kernel_rfl) (by kernel_rfl) (by kernel_rfl) (fun _ _ _ _ h => h) (by rfl) trivial ?_
      apply Exists.intro; apply And.intro
      · intro w' hS K hK
        clear hS
        go_light
        go_simp
        exact hK.out
      try simp only [Act.put, List.getElem_toArray, List.getElem_cons_zero, List.getElem_cons_succ, List.setIfInBounds_toArray, List.set_cons_zero, List.set_cons_succ]
      refine kr_one 12 (by kernel_rfl) rfl (by rfl) (fun K hK => ?_)
      have hc1 := cells_at w7 g [.slice A n cap] 41 LB.out 0 _ rfl
      have hz1 := frozen_of_row w7 g 0 _ 41 LB.out
      go_simp
      clear hc1 hz1
      refine hK.out _ _ ⟨.inl (by kernel_rfl), .inl (by kernel_rfl), trivial⟩ ?_
      clear hK K
      try simp only [Act.put, List.getElem_toArray, List.getElem_cons_zero, List.getElem_cons_succ, List.setIfInBounds_toArray, List.set_cons_zero, List.set_cons_succ]
      refine kr_done (by kernel_rfl) ?_ _
      obtain ⟨sl7, fr7, ob7⟩ := S7.out
      have hg3 := lt_of_block RF3.out.blk
      have hs3 : (w3.drew.alloc (.cells #[.int .u8 a, .int .u8 b, .int .u8 c, .int .u8 d, .int .i64 mtu] 100)).heap.size = w3.heap.size + 1 := by simp
      have hn7 : (Value.slice A7 (R.length + 1) cp7).ownBlock ≠ some g := by
        rcases ob7 with e | e
        · rw [e]; exact RF3.out.lg
        · rw [e]; intro h; injection h with h; omega
      have hF0 : Fr (fun i => (Value.slice A n cap).ownBlock = some i) w (w3.drew.alloc (.cells #[.int .u8 a, .int .u8 b, .int .u8 c, .int .u8 d, .int .i64 mtu] 100)) := (F3.out.drew.alloc _).mono (fun _ _ e => e.elim)
      have hF1 : Fr (fun i => i = g ∨ (Value.slice A n cap).ownBlock = some i) w (w7.setCell ⟨g, 0, none⟩ (.slice A7 (R.length + 1) cp7)) := ((hF0.trans fr7 (fun i _ e => e)).mono (fun _ _ e => .inr e)).setCell _ _ (fun _ => .inl rfl)
      have hob : (Value.slice A7 (R.length + 1) cp7).ownBlock = (Value.slice A n cap).ownBlock ∨ ∃ z, (Value.slice A7 (R.length + 1) cp7).ownBlock = some z ∧ w.heap.size ≤ z := by
        rcases ob7 with e | e
        · exact .inl e
        · exact .inr ⟨_, e, by have := F3.out.size; omega⟩
      have hRF : RfAt (w7.setCell ⟨g, 0, none⟩ (.slice A7 (R.length + 1) cp7)) g (R ++ [(⟨a, b, c, d⟩, mtu)]) (.slice A7 (R.length + 1) cp7) := by
        refine ⟨by rw [heap_setCell_same w7 g 0 _ 41 _ LB.out]; rfl, ?_, hn7, ?_⟩
        · have := sl7.fr (S := fun i => i = g) ((Fr.refl _ w7).setCell ⟨g, 0, none⟩ (.slice A7 (R.length + 1) cp7) (fun _ => rfl)) (fun k hk e => hn7 (by rw [hk, e]))
          simpa [pcells] using this
        · intro p hp
          rcases List.mem_append.1 hp with hp | hp
          · exact RF3.out.ok p hp
          · simp at hp; subst hp; exact hk
      have RFS := Lib.hid hRF
      have FS := Lib.hid hF1
      have OBS := Lib.hid hob
      clear hRF hF1 hob hF0 hn7 hs3 hg3 sl7 fr7 ob7
      rw [Hn.out] at RFS FS OBS ⊢
      generalize w7.setCell ⟨g, 0, none⟩ (.slice A7 (n + 1) cp7) = w8 at RFS FS ⊢
      have hc1 := RFS.out.line
      by_cases h8 : n + 1 ≤ 8
      · as_aux_lemma =>
        have h8' : ((n + 1 : Nat) : Int) ≤ 8 := by omega
        have HF := Lib.hid (show R' = R ++ [(⟨a, b, c, d⟩, mtu)] by rw [HNEW.out, rfCut, if_neg (by rw [List.length_append, Hn.out]; simp; omega)])
        obtain ⟨n1, hn1⟩ : ∃ n1, n + 1 = n1 := ⟨_, rfl⟩
        rw [hn1] at h8' hc1 RFS OBS ⊢
        clear hn1 h8
        go_wp2_with fail
        go_ret
        refine ⟨rfl, _, ?_, FS.out, OBS.out⟩
        rw [HF.out]
        exact RFS.out
      · as_aux_lemma =>
        have h8' : (8 : Int) < ((n + 1 : Nat) : Int) := by omega
        have HF := Lib.hid (show R' = (R ++ [((⟨a, b, c, d⟩ : I4), mtu)]).tail by rw [HNEW.out, rfCut, if_pos (by rw [List.length_append, Hn.out]; simp; omega)])
        have HL1 := Lib.hid (show (R ++ [((⟨a, b, c, d⟩ : I4), mtu)]).length = n + 1 by rw [List.length_append, Hn.out]; rfl)
        obtain ⟨n1, hn1⟩ : ∃ n1, n + 1 = n1 := ⟨_, rfl⟩
        rw [hn1] at h8' hc1 RFS OBS HL1 ⊢
        clear hn1 h8
        obtain ⟨v', hrun, hsl, hob⟩ := RFS.out.sl.from st39 1 (by rw [HL1.out]; omega)
        rw [HL1.out] at hsl
        have HRUN := Lib.hid hrun
        have HSL := Lib.hid hsl
        have HOB := Lib.hid hob
        clear hrun hsl hob
        obtain ⟨A9, cp9, hv9, hn9, hm9⟩ := HSL.out.form
        subst hv9
        clear hn9 hm9
        have hz1 := frozen_of_row w8 g 0 _ 41 RFS.out.blk
        go_upto_region 11 with (fail)
        repeat (first | (refine wpList_slice rfl _ _ rfl rfl rfl HRUN.out ?_) | go_step)
        go_wp2_with fail
        clear hc1 hz1
        go_ret
        have hb := HOB.out
        have hlg := RFS.out.lg
        rw [← hb] at hlg
        refine ⟨rfl, .slice A9 (n1 - 1) cp9, ?_, FS.out.setCell _ _ (fun _ => .inl rfl), by rw [hb]; exact OBS.out⟩
        rw [HF.out]
        refine ⟨by rw [heap_setCell_same w8 g 0 _ 41 _ RFS.out.blk]; rfl, ?_, hlg, fun p hp => RFS.out.ok p (List.mem_of_mem_tail hp)⟩
        have := HSL.out.fr (S := fun i => i = g) ((Fr.refl _ w8).setCell ⟨g, 0, none⟩ (.slice A9 (n1 - 1) cp9) (fun _ => rfl)) (fun k hk e => hlg (by rw [hk, e]))
        have e1 : (R ++ [((⟨a, b, c, d⟩ : I4), mtu)]).tail.length = n1 - 1 := by rw [List.length_tail, HL1.out]
        rw [e1]
        obtain ⟨p, r, hpr⟩ := List.exists_cons_of_ne_nil (l := R ++ [((⟨a, b, c, d⟩ : I4), mtu)]) (by simp)
        rw [hpr] at this ⊢
        simpa [pcells] using this
end Go.Proofs.Ytcfadmjihccimaa
