/- The reference's table of law 10: at. No condition but lengths. -/
import Derived.Test.YtcfadmjihccimaaRtC
import Derived.Deep.DeepCutAuto
import Derived.Deep.DeepMust
namespace Go.Proofs.Ytcfadmjihccimaa
set_option linter.unusedVariables false
set_option linter.unusedSimpArgs false
open Go.RowKit
theorem eql45x {k k' : I4} (h : k.ok) (h' : k'.ok) (w : World) : (binOp .eql 45 (.agg #[.int .u8 k.a, .int .u8 k.b, .int .u8 k.c, .int .u8 k.d]) (.agg #[.int .u8 k'.a, .int .u8 k'.b, .int .u8 k'.c, .int .u8 k'.d])).run Try.prog w = .ok (.bool (decide (k = k'))) w := eql45 h h' w
theorem neq45x {k k' : I4} (h : k.ok) (h' : k'.ok) (w : World) : (binOp .neq 45 (.agg #[.int .u8 k.a, .int .u8 k.b, .int .u8 k.c, .int .u8 k.d]) (.agg #[.int .u8 k'.a, .int .u8 k'.b, .int .u8 k'.c, .int .u8 k'.d])).run Try.prog w = .ok (.bool (!decide (k = k'))) w := neq45 h h' w
theorem st65 : SlTy Try.prog 65 69 10 24 (.agg #[.int .u8 0, .int .u8 0, .int .u8 0, .int .u8 0, .int .i64 0, .int .u8 0, .int .u8 0, .int .u8 0, .int .u8 0, .bool false]) := ⟨Try.underlying65, by kernel_rfl, rfl, by decide⟩
theorem W10.cells_len (x : W10) : x.cells.length = 10 := rfl
theorem W10.cells_one (x : W10) : ∀ u ∈ x.cells, u.oneCell' = true := by
  intro u hu
  simp [W10.cells] at hu
  rcases hu with rfl | rfl | rfl | rfl | rfl | rfl | rfl | rfl | rfl | rfl <;> rfl
theorem src65 {w : World} {b : Nat} {x : W10} (h : w.rangeAt b 0 x.cells) : Src Try.prog 10 65 (.slice (some ⟨b, 0, none⟩) 1 1) 1 x.cells w :=
  Src.ofSlice (w := w) Try.underlying65 ⟨b, 0, none⟩ 1 1 _ rfl (fun j u hj => by rw [Addr.add_mid]; exact h j u hj) x.cells_one
def wfl (L : List W10) : List Value := L.flatMap W10.cells
theorem wfl_len : ∀ L : List W10, (wfl L).length = L.length * 10
  | [] => rfl
  | x :: L => by
    have := wfl_len L
    unfold wfl at *
    rw [List.flatMap_cons, List.length_append, this, W10.cells_len, List.length_cons]; omega
theorem wfl_at {L : List W10} {i : Nat} {q : W10} (hi : L[i]? = some q) {j : Nat} {v : Value} (hj : q.cells[j]? = some v) : (wfl L)[i * 10 + j]? = some v := by
  unfold wfl
  induction L generalizing i with
  | nil => cases hi
  | cons p L ih =>
    rw [List.flatMap_cons]
    cases i with
    | zero =>
      cases hi
      rw [Nat.zero_mul, Nat.zero_add, List.getElem?_append_left (List.getElem?_eq_some_iff.1 hj).1]
      exact hj
    | succ i =>
      rw [List.getElem?_append_right (by rw [W10.cells_len]; omega)]
      rw [show (i + 1) * 10 + j - p.cells.length = i * 10 + j by rw [W10.cells_len]; omega]
      exact ih hi
theorem wfl_one (L : List W10) : ∀ u ∈ wfl L, u.oneCell' = true := by
  intro u hu
  unfold wfl at hu
  obtain ⟨x, _, hx⟩ := List.mem_flatMap.1 hu
  exact x.cells_one u hx
theorem wfl_app (L M : List W10) : wfl (L ++ M) = wfl L ++ wfl M := List.flatMap_append
/-- The reference's table. -/
structure RrAt (N : Nat) (w : World) (g : Nat) (L : List W10) (lv : Value) : Prop where
  blk : w.heap[g]? = some (.cells #[lv] 67)
  sl : Sl N 69 10 w lv L.length (wfl L)
  lg : lv.ownBlock ≠ some g
  ok : ∀ p ∈ L, p.ok
theorem RrAt.line {N : Nat} {w : World} {g : Nat} {R : List W10} {lv : Value} (h : RrAt N w g R lv) : w.cell? ⟨g, 0, none⟩ = some lv := cells_at w g [lv] 67 h.blk 0 _ rfl
theorem RrAt.heap {N : Nat} {w w' : World} {g : Nat} {R : List W10} {lv : Value} (h : RrAt N w g R lv) (hg : w'.heap[g]? = w.heap[g]?) (hl : ∀ k, lv.ownBlock = some k → w'.heap[k]? = w.heap[k]?) : RrAt N w' g R lv :=
  ⟨hg.trans h.blk, h.sl.heap hl, h.lg, h.ok⟩
theorem RrAt.frS {N : Nat} {S : Nat → Prop} {w w' : World} {g : Nat} {R : List W10} {lv : Value} (h : RrAt N w g R lv) (f : Fr S w w') (h1 : ¬ S g) (h2 : ∀ k, lv.ownBlock = some k → ¬ S k) : RrAt N w' g R lv :=
  h.heap (f.block g (lt_of_block h.blk) h1) (fun k hk => f.block k (h.sl.lt k hk).2 (h2 k hk))
theorem RrAt.fr {N : Nat} {w w' : World} {g : Nat} {R : List W10} {lv : Value} (h : RrAt N w g R lv) (f : Fr (fun _ => False) w w') : RrAt N w' g R lv := h.frS f (fun e => e) (fun _ _ e => e)
/-- An element's cells. -/
theorem RrAt.at {N : Nat} {w : World} {g n : Nat} {R : List W10} {lv : Value} (h : RrAt N w g R lv) (hn : R.length = n) (h0 : 0 < n) : ∃ b off cap, lv = .slice (some ⟨b, off, none⟩) n cap ∧ n ≤ cap ∧ b < w.heap.size ∧
    (∀ i q, R[i]? = some q → ∀ j v, q.cells[j]? = some v → w.cell? ⟨b, off + i * 10 + j, none⟩ = some v) ∧ ∀ j, w.frozen? ⟨b, j, none⟩ = false := by
  subst hn
  obtain ⟨b, off, cap, hv, _, hb, hc, _, hcl, hf⟩ := h.sl.form1 h0
  exact ⟨b, off, cap, hv, hc, hb, fun i q hi j v hj => by rw [Nat.add_assoc]; exact hcl _ v (wfl_at hi hj), hf⟩
/-- Where a way stands. -/
def keyW (k : I4) (bits : Int) (x : W10) : Bool := decide (x.n = k) && (x.bits == bits)
def idxW (L : List W10) (k : I4) (bits : Int) : Int := match L.findIdx? (keyW k bits) with | some i => i | none => -1
theorem idxW_at {L : List W10} {k : I4} {bits : Int} {i : Nat} {q : W10} (hi : L[i]? = some q) (hq : keyW k bits q = true) (h : ∀ (j : Nat) (q : W10), j < i → L[j]? = some q → keyW k bits q = false) : idxW L k bits = i := by
  unfold idxW
  have : L.findIdx? (keyW k bits) = some i := by
    obtain ⟨hlt, e⟩ := List.getElem?_eq_some_iff.1 hi
    rw [List.findIdx?_eq_some_iff_getElem]
    refine ⟨hlt, by rw [e]; exact hq, fun j hj => ?_⟩
    have := h j L[j] hj (List.getElem?_eq_getElem (by omega))
    simp [this]
  rw [this]
theorem idxW_not {L : List W10} {k : I4} {bits : Int} (h : ∀ (j : Nat) (q : W10), L[j]? = some q → keyW k bits q = false) : idxW L k bits = -1 := by
  unfold idxW
  rw [List.findIdx?_eq_none_iff.2 (fun p hp => by obtain ⟨j, hj⟩ := List.getElem?_of_mem hp; exact h j p hj)]
set_option maxHeartbeats 8000000 in
set_option maxRecDepth 100000 in
theorem rat57 (N g : Nat) (R : List W10) (lv : Value) (key : I4) (bits : Int) (w : World) (hk : key.ok) (hR : RrAt N w g R lv) (hlen : R.length < 1000000) :
    Calls Try.prog 57 #[.pointer (some ⟨g, 0, none⟩), .agg #[.int .u8 key.a, .int .u8 key.b, .int .u8 key.c, .int .u8 key.d], .int .i64 bits] w fun e w' => e = .returned (.int .i64 (idxW R key bits)) ∧ Fr (fun _ => False) w w' := by
  obtain ⟨n, hn⟩ : ∃ n, R.length = n := ⟨_, rfl⟩
  obtain ⟨A, cap, hv, _, _⟩ := hR.sl.form
  rw [hn] at hv hlen
  have f1 := (Fr.refl (fun _ => False) w).alloc (.cells #[.int .u8 key.a, .int .u8 key.b, .int .u8 key.c, .int .u8 key.d] 45)
  have F1 := Lib.hid f1
  have HR1 := Lib.hid (hR.fr f1)
  have HK1 := Lib.hid (heap_alloc_new w (.cells #[.int .u8 key.a, .int .u8 key.b, .int .u8 key.c, .int .u8 key.d] 45))
  have Hn := Lib.hid hn
  obtain ⟨r0, hr0⟩ : ∃ r0, idxW R key bits = r0 := ⟨_, rfl⟩
  rw [hr0]
  have HR0 := Lib.hid hr0
  clear hR hn f1 hr0
  subst hv
  go_enter Try.func57, Try.ntmps57
  go_upto_region 1 with (fail)
  generalize w.alloc (.cells #[.int .u8 key.a, .int .u8 key.b, .int .u8 key.c, .int .u8 key.d] 45) = w1 at HR1 HK1 F1 ⊢
  obtain ⟨Bk, hBk⟩ : ∃ b, w.heap.size = b := ⟨_, rfl⟩
  rw [hBk] at HK1 ⊢
  clear hBk
  go_wp2_with fail
  go_loopw [7] (fun v wr => ∃ i : Nat, v = .int .i64 i ∧ i ≤ n ∧ (∀ (j : Nat) (q : W10), j < i → R[j]? = some q → keyW key bits q = false) ∧ Fr (fun _ => False) w1 wr) (fun v _ => n - (intOf v).toNat)
  case atStart => exact ⟨0, rfl, Nat.zero_le _, fun j q hj => absurd hj (Nat.not_lt_zero _), Fr.refl _ _⟩
  case round =>
    obtain ⟨i, rfl, hi, hno, hf⟩ := hrel
    have R1 := HR1.out.fr hf
    have cg := R1.line
    have hkb := cells_at wr Bk [.int .u8 key.a, .int .u8 key.b, .int .u8 key.c, .int .u8 key.d] 45 ((hf.block Bk (lt_of_block HK1.out) (fun e => e)).trans HK1.out)
    have k0 := hkb 0 _ rfl
    have k1 := hkb 1 _ rfl
    have k2 := hkb 2 _ rfl
    have k3 := hkb 3 _ rfl
    have Hno := Lib.hid hno
    have Hf := Lib.hid hf
    have HRr := Lib.hid R1
    clear hno hf R1 hkb
    by_cases hlt : i < n
    · obtain ⟨q, hq⟩ : ∃ q, R[i]? = some q := ⟨_, List.getElem?_eq_getElem (by rw [Hn.out]; exact hlt)⟩
      obtain ⟨b', off, cap', hv', hcap', hbl, hc, _⟩ := HRr.out.at Hn.out (by omega)
      injection hv' with hv1 _ hv2
      subst hv1; subst hv2
      have hqk : q.n.ok := (HRr.out.ok q (List.mem_of_getElem? hq)).n
      have c0 := hc i q hq 0 _ rfl
      have c1 := hc i q hq 1 _ rfl
      have c2 := hc i q hq 2 _ rfl
      have c3 := hc i q hq 3 _ rfl
      have c4 := hc i q hq 4 _ rfl
      simp only [Nat.add_zero] at c0
      have heq := fun w => eql45x (w := w) hqk hk
      have Hq := Lib.hid hq
      clear hc hq hqk
      have Hf2 := fun m => Lib.hid (Hf.out.drewN m)
      obtain ⟨e1, he1⟩ : ∃ e1, decide (q.n = key) = e1 := ⟨_, rfl⟩
      obtain ⟨e2, he2⟩ : ∃ e2, (q.bits == bits) = e2 := ⟨_, rfl⟩
      have HE := Lib.hid (show keyW key bits q = (e1 && e2) by unfold keyW; rw [he1, he2])
      rw [he1] at heq
      clear he1
      cases e1
      · clear he2
        go_wp2_with fail
        go_quiet (fail)
        go_wp2_with fail
        go_roundw
        case rel =>
          refine ⟨i + 1, by go_num, by omega, fun j q hj hq => ?_, (Hf2 _).out⟩
          by_cases e : j = i
          · subst e
            rw [Hq.out] at hq
            injection hq with hq
            subst hq
            rw [HE.out]; rfl
          · exact Hno.out j q (by omega) hq
        case measure => simp [intOf]; omega
      · cases e2
        · go_wp2_with fail
          go_quiet (fail)
          go_wp2_with fail
          go_roundw
          case rel =>
            refine ⟨i + 1, by go_num, by omega, fun j q hj hq => ?_, (Hf2 _).out⟩
            by_cases e : j = i
            · subst e
              rw [Hq.out] at hq
              injection hq with hq
              subst hq
              rw [HE.out]; rfl
            · exact Hno.out j q (by omega) hq
          case measure => simp [intOf]; omega
        · have HQ := Lib.hid (idxW_at Hq.out (by rw [HE.out]; rfl) Hno.out)
          go_wp2_with fail
          go_quiet (fail)
          go_wp2_with fail
          go_ret
          refine ⟨?_, F1.out.then' (Hf2 _).out⟩
          rw [← HR0.out, HQ.out]
          try rfl
    · go_wp2_with fail
      go_ret
      refine ⟨?_, F1.out.then' Hf.out⟩
      rw [← HR0.out, idxW_not (fun j q hj => Hno.out j q (by have := (List.getElem?_eq_some_iff.1 hj).1; rw [Hn.out] at this; omega) hj)]
      try rfl
end Go.Proofs.Ytcfadmjihccimaa
