/- The reference's table (packhorseref19.Table): a slice of entries behind a pointer; contracts of at, May, Rests. No condition. -/
import Derived.Test.YtcgghjjchfafiaaRestD
import Derived.Test.YtcgghjjchfafiaaFlatEq
import Derived.Deep.DeepCutAuto
namespace Go.Proofs.Ytcgghjjchfafiaa
open Go.RowKit Go.Maps

/-- An entry's cells. -/
def ec (q : K4 × Int) : List Value := [.int .i64 q.1.p, .int .u8 q.1.a, .int .u8 q.1.b, .int .u8 q.1.c, .int .u8 q.1.d, .int .i64 q.1.t, .bool (isOpen q.2), .int .i64 (if isOpen q.2 then 0 else q.2)]
def ecs (L : List (K4 × Int)) : List Value := L.flatMap ec
theorem ec_len (q : K4 × Int) : (ec q).length = 8 := rfl
theorem ecs_get : ∀ (L : List (K4 × Int)) (i : Nat) (q : K4 × Int), L[i]? = some q → ∀ j, j < 8 → (ecs L)[i * 8 + j]? = (ec q)[j]?
  | [], i, q, h, _, _ => by simp at h
  | p :: L, 0, q, h, j, hj => by
    simp at h; subst h
    unfold ecs
    rw [List.flatMap_cons, Nat.zero_mul, Nat.zero_add, List.getElem?_append_left (by rw [ec_len]; exact hj)]
  | p :: L, i + 1, q, h, j, hj => by
    have ih := ecs_get L i q (by simpa using h) j hj
    unfold ecs at *
    rw [List.flatMap_cons, List.getElem?_append_right (by rw [ec_len]; omega), ec_len, show (i + 1) * 8 + j - 8 = i * 8 + j by omega]
    exact ih
theorem ecs_len (L : List (K4 × Int)) : (ecs L).length = L.length * 8 := by
  unfold ecs
  induction L with
  | nil => rfl
  | cons p L ih => rw [List.flatMap_cons, List.length_append, ih, ec_len, List.length_cons]; omega
theorem ecs_one (L : List (K4 × Int)) : ∀ u ∈ ecs L, u.oneCell' = true := by
  intro u hu
  unfold ecs at hu
  obtain ⟨q, _, hq⟩ := List.mem_flatMap.1 hu
  simp [ec] at hq
  rcases hq with rfl | rfl | rfl | rfl | rfl | rfl | rfl | rfl <;> rfl

/-- The reference's table lies in block g, its slice v owns the entries. -/
structure RefAt (w : World) (g B : Nat) (v : Value) (L : List (K4 × Int)) : Prop where
  blk : w.heap[g]? = some (.cells #[v] 29 (0, 0))
  row : w.ownsRow B 43 8 v L.length (ecs L)
  ok : ∀ p ∈ L, p.1.ok

theorem ownsRow_block {w : World} {B : Nat} {E : TypeId} {sz n : Nat} {v : Value} {xs : List Value} (h : w.ownsRow B E sz v n xs) {i : Nat} (hi : v.ownBlock = some i) : ∃ cs, w.heap[i]? = some (.cells cs E (0, 0)) ∧ B ≤ i := by
  rcases h.2 with ⟨rfl, _⟩ | ⟨g', cap, cur, rfl, h1, h2, _⟩
  · simp [Value.ownBlock] at hi
  · simp [Value.ownBlock] at hi
    subst hi
    exact ⟨_, h2, h1⟩
theorem RefAt.ne_cells {w : World} {g B : Nat} {v : Value} {L : List (K4 × Int)} (h : RefAt w g B v L) {i : Nat} {cs : Array Value} {T : TypeId} {fr : Nat × Nat} (hi : w.heap[i]? = some (.cells cs T fr)) (hT : T ≠ 43) : v.ownBlock ≠ some i := by
  intro e
  obtain ⟨cs', h1, _⟩ := ownsRow_block h.row e
  rw [hi] at h1
  injection h1 with h1
  injection h1 with _ h2
  exact hT h2
theorem RefAt.ne_map {w : World} {g B : Nat} {v : Value} {L : List (K4 × Int)} (h : RefAt w g B v L) {m : Nat} {es : Array MapEntry} {cl : Nat} (hi : w.heap[m]? = some (.map es cl)) : v.ownBlock ≠ some m := by
  intro e
  obtain ⟨cs', h1, _⟩ := ownsRow_block h.row e
  rw [hi] at h1
  cases h1
theorem RefAt.fr {w w' : World} {g B : Nat} {v : Value} {L : List (K4 × Int)} {S : Nat → Prop} (h : RefAt w g B v L) (f : Fr S w w') (hg : ¬ S g) (hS : ∀ i, v.ownBlock = some i → ¬ S i) : RefAt w' g B v L := by
  refine ⟨(f.block g (lt_of_block h.blk) hg).trans h.blk, ?_, h.ok⟩
  rcases h.row with ⟨h1, h2⟩
  refine ⟨h1, ?_⟩
  rcases h2 with h2 | ⟨g', cap, cur, rfl, h3, h4, h5⟩
  · exact .inl h2
  · exact .inr ⟨g', cap, cur, rfl, h3, (f.block g' (lt_of_block h4) (hS g' rfl)).trans h4, h5⟩
theorem RefAt.fr0 {w w' : World} {g B : Nat} {v : Value} {L : List (K4 × Int)} (h : RefAt w g B v L) (f : Fr (fun _ => False) w w') : RefAt w' g B v L := h.fr f (fun e => e) (fun _ _ e => e)
theorem RefAt.slice {w : World} {g B : Nat} {v : Value} {L : List (K4 × Int)} (h : RefAt w g B v L) : ∃ A cap, v = .slice A L.length cap := by
  rcases h.row.2 with ⟨rfl, h2⟩ | ⟨g', cap, cur, rfl, _⟩
  · have : L.length = 0 := h2
    exact ⟨none, 0, by rw [this]⟩
  · exact ⟨_, _, rfl⟩
theorem RefAt.cells {w : World} {g B : Nat} {A : Option Addr} {cap : Nat} {L : List (K4 × Int)} (h : RefAt w g B (.slice A L.length cap) L) {i : Nat} {q : K4 × Int} (hi : L[i]? = some q) :
    ∃ r, A = some ⟨r, 0, none⟩ ∧ (Value.slice A L.length cap).ownBlock = some r ∧ ∀ j u, (ec q)[j]? = some u → w.cell? ⟨r, i * 8 + j, none⟩ = some u := by
  have hlt : i < L.length := (List.getElem?_eq_some_iff.1 hi).1
  rcases h.row.2 with ⟨h1, h2⟩ | ⟨r, cap', cur, h1, _⟩
  · injection h1 with _ h1 _
    omega
  · injection h1 with h1 _ _
    subst h1
    refine ⟨r, rfl, rfl, fun j u hj => ?_⟩
    have hj8 : j < 8 := (List.getElem?_eq_some_iff.1 hj).1
    have := h.row.cellAt (i * 8 + j) (by omega)
    rw [this, ecs_get L i q hi j hj8]
    exact hj

/-- '==' of two keys. -/
theorem flat33 : flatK Try.prog 9 33 = some [some .i64, some .u8, some .u8, some .u8, some .u8, some .i64] := by kernel_rfl
theorem fits33 {k : K4} (h : k.ok) : FitsL [some .i64, some .u8, some .u8, some .u8, some .u8, some .i64] [.int .i64 k.p, .int .u8 k.a, .int .u8 k.b, .int .u8 k.c, .int .u8 k.d, .int .i64 k.t] :=
  ⟨⟨_, rfl, h.1⟩, ⟨_, rfl, h.2.1⟩, ⟨_, rfl, h.2.2.1⟩, ⟨_, rfl, h.2.2.2.1⟩, ⟨_, rfl, h.2.2.2.2.1⟩, ⟨_, rfl, h.2.2.2.2.2⟩, trivial⟩
theorem eql33 {k k' : K4} (h : k.ok) (h' : k'.ok) (w : World) : (binOp .eql 33 (.agg #[.int .i64 k.p, .int .u8 k.a, .int .u8 k.b, .int .u8 k.c, .int .u8 k.d, .int .i64 k.t]) (.agg #[.int .i64 k'.p, .int .u8 k'.a, .int .u8 k'.b, .int .u8 k'.c, .int .u8 k'.d, .int .i64 k'.t])).run Try.prog w = .ok (.bool (decide (k = k'))) w := by
  refine run_eql_flat (P := Try.prog) flat33 (by kernel_rfl) (fits33 h) (fits33 h') (formed33 _ _ _ _ _ _) (formed33 _ _ _ _ _ _) _ ?_ w
  rw [decide_eq_true_iff]
  constructor
  · intro e; rw [e]
  · intro e
    cases k; cases k'
    simp only [List.cons.injEq, Value.int.injEq] at e
    simp_all

def idxF (L : List (K4 × Int)) (k : K4) : Int := match L.findIdx? (fun p => p.1 = k) with | some i => i | none => -1
theorem idx_not {L : List (K4 × Int)} {k : K4} (h : ∀ (j : Nat) (q : K4 × Int), L[j]? = some q → q.1 ≠ k) : idxF L k = -1 := by
  unfold idxF
  rw [List.findIdx?_eq_none_iff.2 (fun p hp => by obtain ⟨j, hj⟩ := List.getElem?_of_mem hp; simpa using h j p hj)]
theorem idx_at {L : List (K4 × Int)} {k : K4} {i : Nat} {q : K4 × Int} (hi : L[i]? = some q) (hq : q.1 = k) (h : ∀ (j : Nat) (q : K4 × Int), j < i → L[j]? = some q → q.1 ≠ k) : idxF L k = i := by
  unfold idxF
  have : L.findIdx? (fun p => p.1 = k) = some i := by
    obtain ⟨hlt, e⟩ := List.getElem?_eq_some_iff.1 hi
    rw [List.findIdx?_eq_some_iff_getElem]
    refine ⟨hlt, by simpa [e] using hq, fun j hj => ?_⟩
    have := h j L[j] hj (List.getElem?_eq_getElem (by omega))
    simpa using this
  rw [this]
theorem idx_cases (L : List (K4 × Int)) (k : K4) : (idxF L k = -1 ∧ lki L k = none) ∨ ∃ (i : Nat) (u : Int), idxF L k = i ∧ L[i]? = some (k, u) ∧ lki L k = some u := by
  unfold idxF lki
  cases h : L.findIdx? (fun p => p.1 = k) with
  | none =>
    refine .inl ⟨rfl, ?_⟩
    rw [List.findIdx?_eq_none_iff] at h
    rw [List.find?_eq_none.2 (fun p hp => by have := h p hp; simpa using this)]
    rfl
  | some i =>
    rw [List.findIdx?_eq_some_iff_getElem] at h
    obtain ⟨hlt, h1, h2⟩ := h
    have h1 : L[i].1 = k := by simpa using h1
    refine .inr ⟨i, L[i].2, rfl, ?_, ?_⟩
    · rw [List.getElem?_eq_getElem hlt, ← h1]
    · have : L.find? (fun p => p.1 = k) = some L[i] := by
        rw [List.find?_eq_some_iff_getElem]
        exact ⟨by simpa using h1, i, hlt, rfl, fun j hj => by have := h2 j hj; simpa using this⟩
      rw [this]; rfl

set_option maxHeartbeats 800000 in
theorem at39 (g B : Nat) (v : Value) (L : List (K4 × Int)) (p a b c d t : Int) (w : World) (hk : K4.ok ⟨p, a, b, c, d, t⟩) (hR : RefAt w g B v L) (hlen : L.length < 1000000) :
    Calls Try.prog 39 #[.pointer (some ⟨g, 0, none⟩), .agg #[.int .i64 p, .int .u8 a, .int .u8 b, .int .u8 c, .int .u8 d, .int .i64 t]] w fun e w' => e = .returned (.int .i64 (idxF L ⟨p, a, b, c, d, t⟩)) ∧ Fr (fun _ => False) w w' := by
  obtain ⟨A, cap, rfl⟩ := hR.slice
  have f1 := (Fr.refl (fun _ => False) w).alloc (.cells #[.int .i64 p, .int .u8 a, .int .u8 b, .int .u8 c, .int .u8 d, .int .i64 t] 33)
  have R1 := hR.fr0 f1
  have K1 := heap_alloc_new w (.cells #[.int .i64 p, .int .u8 a, .int .u8 b, .int .u8 c, .int .u8 d, .int .i64 t] 33)
  obtain ⟨Bk, hBk⟩ : ∃ b, w.heap.size = b := ⟨_, rfl⟩
  rw [hBk] at K1
  have HBk := Lib.hid hBk
  clear hBk hR
  obtain ⟨n, hn⟩ : ∃ n, L.length = n := ⟨_, rfl⟩
  have Hn := Lib.hid hn
  rw [hn] at R1 hlen
  clear hn
  go_enter Try.func39, Try.ntmps39
  go_wp2_with fail
  rw [HBk.out]
  generalize w.alloc (.cells #[.int .i64 p, .int .u8 a, .int .u8 b, .int .u8 c, .int .u8 d, .int .i64 t] 33) = w1 at *
  have HR1 := Lib.hid R1
  have HK1 := Lib.hid K1
  clear R1 K1
  go_loopw [5] (fun v wr => ∃ i : Nat, v = .int .i64 i ∧ i ≤ n ∧ (∀ (j : Nat) (q : K4 × Int), j < i → L[j]? = some q → q.1 ≠ ⟨p, a, b, c, d, t⟩) ∧ Fr (fun _ => False) w1 wr) (fun v _ => n - (intOf v).toNat)
  case atStart => exact ⟨0, rfl, Nat.zero_le _, fun j q hj => absurd hj (Nat.not_lt_zero _), Fr.refl _ _⟩
  case round =>
    obtain ⟨i, rfl, hi, hno, hf⟩ := hrel
    have R := HR1.out.fr0 hf
    have cg := cell_of_one R.blk
    obtain ⟨k0, k1, k2, k3, k4, k5⟩ := six ((hf.block Bk (lt_of_block HK1.out) (fun e => e)).trans HK1.out)
    have Hno := Lib.hid hno
    have Hf := Lib.hid hf
    have HR := Lib.hid R
    clear hno hf R
    by_cases hlt : i < n
    · obtain ⟨q, hq⟩ : ∃ q, L[i]? = some q := ⟨_, List.getElem?_eq_getElem (by rw [Hn.out]; exact hlt)⟩
      obtain ⟨r, hA, -, hc⟩ := RefAt.cells (A := A) (cap := cap) (by rw [Hn.out]; exact HR.out) hq
      have hqk : q.1.ok := HR.out.ok q (List.mem_of_getElem? hq)
      have c0 := hc 0 _ rfl
      have c1 := hc 1 _ rfl
      have c2 := hc 2 _ rfl
      have c3 := hc 3 _ rfl
      have c4 := hc 4 _ rfl
      have c5 := hc 5 _ rfl
      have heq := fun w => eql33 (w := w) hqk hk
      have Hq := Lib.hid hq
      clear hc hq hqk
      subst hA
      obtain ⟨⟨qp, qa, qb, qc, qd, qt⟩, qu⟩ := q
      simp only [Nat.add_zero] at c0
      have Hf2 := fun m => Lib.hid (Hf.out.drewN m)
      cases hk' : decide ((⟨qp, qa, qb, qc, qd, qt⟩ : K4) = ⟨p, a, b, c, d, t⟩)
      · simp only [hk'] at heq
        have Hk' := Lib.hid hk'
        clear hk'
        go_wp2_with fail
        go_quiet (fail)
        go_wp2_with fail
        go_roundw
        case rel =>
          refine ⟨i + 1, by go_num, by omega, fun j q hj hq => ?_, (Hf2 _).out⟩
          by_cases e : j = i
          · subst e
            rw [Hq.out] at hq
            injection hq with hq
            subst hq
            exact of_decide_eq_false Hk'.out
          · exact Hno.out j q (by omega) hq
        case measure => simp [intOf]; omega
      · simp only [hk'] at heq
        have Hk' := Lib.hid hk'
        clear hk'
        go_wp2_with fail
        go_quiet (fail)
        go_wp2_with fail
        go_ret
        exact ⟨by rw [idx_at Hq.out (of_decide_eq_true Hk'.out) Hno.out]; rfl, f1.none (Hf2 _).out⟩
    · go_wp2_with fail
      go_ret
      exact ⟨by rw [idx_not (fun j q hj => Hno.out j q (by have := (List.getElem?_eq_some_iff.1 hj).1; rw [Hn.out] at this; omega) hj)]; rfl, f1.none Hf.out⟩
end Go.Proofs.Ytcgghjjchfafiaa
