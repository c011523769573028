/- ArpLearns: its walk. No condition. -/
import Derived.Test.YtfnphkijalkllaaArT
namespace Go.Proofs.Ytfnphkijalkllaa
set_option linter.unusedVariables false
set_option linter.unusedSimpArgs false
open Go.RowKit
def sw (l : List M6) : List Value := l.flatMap M6.cells
theorem M6.cells_len (m : M6) : m.cells.length = 6 := rfl
theorem sw_set : ∀ {R : List M6} {i : Nat} (x : M6), i < R.length → lset (sw R) (i * 6) x.cells = sw (R.set i x)
  | [], _, _, h => by simp at h
  | y :: R, 0, x, _ => by
    show lset (y.cells ++ sw R) 0 x.cells = x.cells ++ sw R
    exact lset_all _ _ _ rfl
  | y :: R, i + 1, x, h => by
    have e : (i + 1) * 6 = y.cells.length + i * 6 := by rw [M6.cells_len]; omega
    show lset (y.cells ++ sw R) ((i + 1) * 6) x.cells = y.cells ++ sw (R.set i x)
    rw [e, lset_pre, sw_set x (by simpa using h)]
theorem sw_len (R : List M6) : (sw R).length = R.length * 6 := by
  induction R with
  | nil => rfl
  | cons x R ih => show (x.cells ++ sw R).length = _; rw [List.length_append, ih, M6.cells_len, List.length_cons]; omega
theorem sw_at : ∀ {R : List M6} {i : Nat} {x : M6}, R[i]? = some x → ∀ j v, x.cells[j]? = some v → (sw R)[i * 6 + j]? = some v
  | [], _, _, h => by simp at h
  | y :: R, 0, x, h => fun j v hj => by
    cases h
    show (y.cells ++ sw R)[0 * 6 + j]? = some v
    have hl : j < y.cells.length := (List.getElem?_eq_some_iff.1 hj).1
    rw [Nat.zero_mul, Nat.zero_add, List.getElem?_append_left hl, hj]
  | y :: R, i + 1, x, h => fun j v hj => by
    show (y.cells ++ sw R)[(i + 1) * 6 + j]? = some v
    rw [List.getElem?_append_right (by rw [M6.cells_len]; omega), M6.cells_len, show (i + 1) * 6 + j - 6 = i * 6 + j by omega]
    exact sw_at (R := R) (by simpa using h) j v hj
theorem rq33 (an : Bool) (a b c d e f k : Int) (sm : M6) : Instr.fill ((#[(0, 1), (1, 6), (7, 4), (11, 6), (17, 4)] : Array (Nat × Nat))[·]?) (Value.agg #[.bool false, .int .u8 0, .int .u8 0, .int .u8 0, .int .u8 0, .int .u8 0, .int .u8 0, .int .u8 0, .int .u8 0, .int .u8 0, .int .u8 0, .int .u8 0, .int .u8 0, .int .u8 0, .int .u8 0, .int .u8 0, .int .u8 0, .int .u8 0, .int .u8 0, .int .u8 0, .int .u8 0]).cells [(0, .bool an), (1, .agg #[.int .u8 sm.a, .int .u8 sm.b, .int .u8 sm.c, .int .u8 sm.d, .int .u8 sm.e, .int .u8 sm.f]), (2, .agg #[.int .u8 10, .int .u8 0, .int .u8 0, .int .u8 k]), (3, .agg #[.int .u8 2, .int .u8 0, .int .u8 0, .int .u8 0, .int .u8 0, .int .u8 0]), (4, .agg #[.int .u8 10, .int .u8 0, .int .u8 0, .int .u8 1])] = some (Rq.cells ⟨an, sm, ⟨10, 0, 0, k⟩, m2, q1⟩).toArray := by kernel_rfl
theorem kr_cons {P : Program} {ops : Array Oper} {Q : Exit → Act → World → Prop} {A : List (List Nat)} {S : Facts} {fuel : Nat} {listed : Array Bool} {a : Act} {w : World} {i : Nat} {o : Oper} {rs : List Nat} (ho : ops[i]? = some o)
    (hw : Region.wanted o (yielded ops a.tmps) = true)
    (h : ∀ K' : Act → World → Prop, Shut (∀ a w, KHeld A i S w → KGo P ops Q A S fuel (listed.setIfInBounds i true) a w → K' a w) → Oper.wp P o a w K' Q)
    (hs : KAll P ops Q A S fuel listed a w rs) : KAll P ops Q A S fuel listed a w (i :: rs) :=
  KAll.cons ho (fun K' hK => by rw [if_pos hw]; exact h K' hK) hs
theorem setc_all {w : World} {b : Nat} {cs vs : List Value} {t : TypeId} (hl : cs.length = vs.length) (h : w.heap[b]? = some (.cells cs.toArray t)) : (w.setCells b 0 vs).heap[b]? = some (.cells vs.toArray t) := by
  have h1 := heap_setCells_same vs cs w b 0 t h
  have h2 := lset_all vs cs [] hl
  rw [List.append_nil, List.append_nil] at h2
  rw [h2] at h1
  exact h1
theorem rq_len (a : Rq) : a.cells.length = 21 := rfl
theorem rqset {w : World} {bo : Nat} (a : Rq) (h : w.heap[bo]? = some (.cells #[.bool false, .int .u8 0, .int .u8 0, .int .u8 0, .int .u8 0, .int .u8 0, .int .u8 0, .int .u8 0, .int .u8 0, .int .u8 0, .int .u8 0, .int .u8 0, .int .u8 0, .int .u8 0, .int .u8 0, .int .u8 0, .int .u8 0, .int .u8 0, .int .u8 0, .int .u8 0, .int .u8 0] 33)) : (w.setCells bo 0 a.cells).heap[bo]? = some (.cells a.cells.toArray 33) :=
  setc_all (cs := [.bool false, .int .u8 0, .int .u8 0, .int .u8 0, .int .u8 0, .int .u8 0, .int .u8 0, .int .u8 0, .int .u8 0, .int .u8 0, .int .u8 0, .int .u8 0, .int .u8 0, .int .u8 0, .int .u8 0, .int .u8 0, .int .u8 0, .int .u8 0, .int .u8 0, .int .u8 0, .int .u8 0]) (rq_len a).symm h
theorem wrap7 {k : Nat} (h : k < 7) : IntKind.u8.wrap (2 + (k : Int)) = 2 + (k : Int) :=
  (by decide : ∀ m : Fin 7, IntKind.u8.wrap (2 + ((m : Nat) : Int)) = 2 + ((m : Nat) : Int)) ⟨k, h⟩
theorem neqM {m : M6} (h : m.ok) (w : World) : (binOp .neq 27 (.agg #[.int .u8 m.a, .int .u8 m.b, .int .u8 m.c, .int .u8 m.d, .int .u8 m.e, .int .u8 m.f]) (.agg #[.int .u8 m.a, .int .u8 m.b, .int .u8 m.c, .int .u8 m.d, .int .u8 m.e, .int .u8 m.f])).run Try.prog w = .ok (.bool false) w := by
  have h1 := neq27 h h w
  rwa [decide_eq_true (rfl : m = m)] at h1
theorem neqI {m : I4} (h : m.ok) (w : World) : (binOp .neq 29 (.agg #[.int .u8 m.a, .int .u8 m.b, .int .u8 m.c, .int .u8 m.d]) (.agg #[.int .u8 m.a, .int .u8 m.b, .int .u8 m.c, .int .u8 m.d])).run Try.prog w = .ok (.bool false) w := by
  have h1 := neq29 h h w
  rwa [decide_eq_true (rfl : m = m)] at h1
theorem neq_m2 (w : World) : (binOp .neq 27 (.agg #[.int .u8 2, .int .u8 0, .int .u8 0, .int .u8 0, .int .u8 0, .int .u8 0]) (.agg #[.int .u8 2, .int .u8 0, .int .u8 0, .int .u8 0, .int .u8 0, .int .u8 0])).run Try.prog w = .ok (.bool false) w := neqM (m := m2) m2_ok w
theorem neq_q1 (w : World) : (binOp .neq 29 (.agg #[.int .u8 10, .int .u8 0, .int .u8 0, .int .u8 1]) (.agg #[.int .u8 10, .int .u8 0, .int .u8 0, .int .u8 1])).run Try.prog w = .ok (.bool false) w := neqI (m := q1) q1_ok w
theorem neq_ip {k : Nat} (hk : k < 7) (w : World) : (binOp .neq 29 (.agg #[.int .u8 10, .int .u8 0, .int .u8 0, .int .u8 (2 + (k : Int))]) (.agg #[.int .u8 10, .int .u8 0, .int .u8 0, .int .u8 (2 + (k : Int))])).run Try.prog w = .ok (.bool false) w := neqI (m := ipn k) (ipn_ok (by omega)) w
theorem En.cells_len (e : En) : e.cells.length = 15 := rfl
theorem ec_at : ∀ {R : List En} {i : Nat} {x : En}, R[i]? = some x → ∀ j v, x.cells[j]? = some v → (ec R)[i * 15 + j]? = some v
  | [], _, _, h => by simp at h
  | y :: R, 0, x, h => fun j v hj => by
    cases h
    show (y.cells ++ ec R)[0 * 15 + j]? = some v
    have hl : j < y.cells.length := (List.getElem?_eq_some_iff.1 hj).1
    rw [Nat.zero_mul, Nat.zero_add, List.getElem?_append_left hl, hj]
  | y :: R, i + 1, x, h => fun j v hj => by
    show (y.cells ++ ec R)[(i + 1) * 15 + j]? = some v
    rw [List.getElem?_append_right (by rw [En.cells_len]; omega), En.cells_len, show (i + 1) * 15 + j - 15 = i * 15 + j by omega]
    exact ec_at (R := R) (by simpa using h) j v hj
/-- What the loop keeps. -/
structure Lst (W : World) (N g bs : Nat) (wr : World) (L : List En) (lv : Value) (said : List M6) : Prop where
  at' : CAt N wr g m2 q1 L lv
  kn : ∀ e ∈ L, Kn said e
  len : said.length = 9
  blk : wr.heap[bs]? = some (.cells (sw said).toArray 31)
  fr : Fr (fun _ => False) W wr
  hN : N ≤ wr.heap.size
  hbs : W.heap.size ≤ bs
theorem Lst.fr0 {W : World} {N g bs : Nat} {w w' : World} {L : List En} {lv : Value} {said : List M6} (h : Lst W N g bs w L lv said) (f : Fr (fun _ => False) w w') : Lst W N g bs w' L lv said :=
  ⟨h.at'.fr f, h.kn, h.len, (f.block _ (lt_of_block h.blk) (fun e => e)).trans h.blk, h.fr.then' f, Nat.le_trans h.hN f.size, h.hbs⟩
set_option maxRecDepth 100000 in
set_option maxHeartbeats 16000000 in
theorem learns3 (A : Option Addr) (n cap : Nat) (os : List Ox) (W : World) (hA : OpsIn W A n os) (hcap : n ≤ cap) :
    Calls Try.prog 3 #[.slice A n cap] W fun e w' => e = .returned (.bool true) ∧ Fr (fun _ => False) W w' := by
  have FA := Lib.hid (Fr.refl (fun _ => False) W)
  have HA := Lib.hid hA
  have htop := hA.top
  clear hA
  go_enter Try.func3, Try.ntmps3
  go_upto_region 2 with (go_at_call 12; refine (awake12 _).mono ?_; rintro e w1 ⟨rfl, f1⟩; have F1 := Lib.hid f1; clear f1)
  go_upto_region 3 with (first
    | (go_at_call 14; refine (ip14 1 _).mono ?_; rintro e w2 ⟨rfl, f2⟩; have F2 := Lib.hid f2; clear f2)
    | (go_at_call 13; refine (aw_new _).mono ?_; rintro e w3 ⟨g, rfl, hc, f3⟩; have C3 := Lib.hid hc; have F3 := Lib.hid f3; clear hc f3))
  go_upto_region 6 with (fail)
  obtain ⟨hb4, hf4, hz4⟩ := one_new w3 #[.int .u8 0, .int .u8 0, .int .u8 0, .int .u8 0, .int .u8 0, .int .u8 0, .int .u8 0, .int .u8 0, .int .u8 0, .int .u8 0, .int .u8 0, .int .u8 0, .int .u8 0, .int .u8 0, .int .u8 0, .int .u8 0, .int .u8 0, .int .u8 0, .int .u8 0, .int .u8 0, .int .u8 0, .int .u8 0, .int .u8 0, .int .u8 0, .int .u8 0, .int .u8 0, .int .u8 0, .int .u8 0, .int .u8 0, .int .u8 0, .int .u8 0, .int .u8 0, .int .u8 0, .int .u8 0, .int .u8 0, .int .u8 0, .int .u8 0, .int .u8 0, .int .u8 0, .int .u8 0, .int .u8 0, .int .u8 0, .int .u8 0, .int .u8 0, .int .u8 0, .int .u8 0, .int .u8 0, .int .u8 0, .int .u8 0, .int .u8 0, .int .u8 0, .int .u8 0, .int .u8 0, .int .u8 0] 31
  generalize w3.alloc (.cells #[.int .u8 0, .int .u8 0, .int .u8 0, .int .u8 0, .int .u8 0, .int .u8 0, .int .u8 0, .int .u8 0, .int .u8 0, .int .u8 0, .int .u8 0, .int .u8 0, .int .u8 0, .int .u8 0, .int .u8 0, .int .u8 0, .int .u8 0, .int .u8 0, .int .u8 0, .int .u8 0, .int .u8 0, .int .u8 0, .int .u8 0, .int .u8 0, .int .u8 0, .int .u8 0, .int .u8 0, .int .u8 0, .int .u8 0, .int .u8 0, .int .u8 0, .int .u8 0, .int .u8 0, .int .u8 0, .int .u8 0, .int .u8 0, .int .u8 0, .int .u8 0, .int .u8 0, .int .u8 0, .int .u8 0, .int .u8 0, .int .u8 0, .int .u8 0, .int .u8 0, .int .u8 0, .int .u8 0, .int .u8 0, .int .u8 0, .int .u8 0, .int .u8 0, .int .u8 0, .int .u8 0, .int .u8 0] 31) = w4 at hb4 hf4 hz4 ⊢
  obtain ⟨bs, ebs⟩ : ∃ k, w3.heap.size = k := ⟨_, rfl⟩
  obtain ⟨N, hN⟩ : ∃ N, w2.heap.size = N := ⟨_, rfl⟩
  rw [ebs] at hb4 hz4 ⊢
  have HN := Lib.hid (show W.heap.size ≤ N from by have h1 := F1.out.size; have h2 := F2.out.size; omega)
  have L4 := Lib.hid (show Lst W N g bs w4 [] (.slice none 0 0) (List.replicate 9 M6.zero) from
    ⟨by have h := C3.out.fr hf4; rw [hN] at h; exact h, (fun e he => by cases he), rfl, hb4, FA.out.then' (F1.out.then' (F2.out.then' (F3.out.then' hf4))), by have h2 := F3.out.size; omega, by have h1 := F1.out.size; have h2 := F2.out.size; have h3 := F3.out.size; omega⟩)
  clear hb4 hf4 hz4 ebs hN C3
  go_wp2_with fail
  go_loopw [6] (fun v wr => ∃ (i : Nat) (L : List En) (lv : Value) (said : List M6), v = .int .i64 i ∧ i ≤ n ∧ Lst W N g bs wr L lv said) (fun v _ => n - (intOf v).toNat)
  case atStart => exact ⟨0, [], _, _, rfl, Nat.zero_le _, L4.out⟩
  case round =>
    obtain ⟨i, L, lv, said, rfl, hi, hl⟩ := hrel
    have HL := Lib.hid hl
    clear hl
    by_cases hlt : i < n
    · obtain ⟨x, hx⟩ : ∃ x, os[i]? = some x := ⟨_, List.getElem?_eq_getElem (by rw [HA.out.len]; exact hlt)⟩
      have HXO := Lib.hid (HA.out.ok x (List.mem_of_getElem? hx))
      obtain ⟨b, off, rfl, hb, hc⟩ := (HA.out.fr HL.out.fr).here (by omega)
      have hrx := hc i x hx
      have HRX := Lib.hid (fun (w' : World) (f : Fr (fun _ => False) wr w') => (range_block (f.block b hb (fun e => e)) hrx : w'.rangeAt b (off + i * 25) x.cells))
      have hic : i < cap := by omega
      have c1 : wr.cell? ⟨b, off + i * 25 + 1, none⟩ = some (.int .u8 x.ip) := hrx 1 _ rfl
      clear hc hx hb hrx
      go_upto_region 10 with (fail)
      obtain ⟨k, hk, hk7⟩ : ∃ k : Nat, x.ip.tmod 7 = (k : Int) ∧ k < 7 := by
        have h := u8_of HXO.out.ip
        refine ⟨(x.ip.tmod 7).toNat, ?_, ?_⟩ <;> (rw [Int.tmod_eq_emod_of_nonneg (by omega)]; omega)
      rw [hk]
      clear hk c1
      have hwr := wrap7 hk7
      have HX5 := Lib.hid (fun (w' : World) (f : Fr (fun _ => False) wr w') => (HRX.out w' f 3 _ rfl : w'.cell? ⟨b, off + i * 25 + 3, none⟩ = some (.bool x.a.ans)))
      have HX11 := Lib.hid (fun (w' : World) (f : Fr (fun _ => False) wr w') => (range_part (HRX.out w' f) 4 6 : w'.rangeAt b (off + i * 25 + 4) [.int .u8 x.a.sm.a, .int .u8 x.a.sm.b, .int .u8 x.a.sm.c, .int .u8 x.a.sm.d, .int .u8 x.a.sm.e, .int .u8 x.a.sm.f]))
      have Fd := Lib.hid ((Fr.refl (fun _ => False) wr).drew)
      go_cut [8] (fun v8 wc => ∃ bo, v8 = .pointer (some ⟨bo, 0, none⟩) ∧ wc.heap[bo]? = some (.cells (Rq.cells ⟨x.a.ans, x.a.sm, ⟨10, 0, 0, 2 + (k : Int)⟩, m2, q1⟩).toArray 33) ∧ Fr (fun _ => False) wr wc ∧ wr.heap.size ≤ bo)
      case first =>
        as_aux_lemma =>
        refine kr_start [(5, fun W => W.cell? ⟨b, off + i * 25 + 3, none⟩ = some (.bool x.a.ans)), (11, fun W => W.rangeAt b (off + i * 25 + 4) [.int .u8 x.a.sm.a, .int .u8 x.a.sm.b, .int .u8 x.a.sm.c, .int .u8 x.a.sm.d, .int .u8 x.a.sm.e, .int .u8 x.a.sm.f])] (by kernel_rfl) (by kernel_rfl) ?_
        generalize wr.drew = wd at Fd ⊢
        refine kr_find 0 rfl (by kernel_rfl) (by kernel_rfl) (by kernel_rfl) (fun _ _ _ _ h => h) (by rfl) trivial ?_
        apply Exists.intro; apply And.intro
        · intro w' hS K hK
          clear hS
          go_light
          go_simp
          exact hK.out
        try simp only [Act.put, List.getElem_toArray, List.getElem_cons_zero, List.getElem_cons_succ, List.setIfInBounds_toArray, List.set_cons_zero, List.set_cons_succ]
        refine kr_find 1 rfl (by kernel_rfl) (by kernel_rfl) (by kernel_rfl) (fun _ _ _ _ h => h) (by rfl) trivial ?_
        apply Exists.intro; apply And.intro
        · intro w' hS K hK
          clear hS
          go_light
          go_simp
          exact hK.out
        try simp only [Act.put, List.getElem_toArray, List.getElem_cons_zero, List.getElem_cons_succ, List.setIfInBounds_toArray, List.set_cons_zero, List.set_cons_succ]
        refine kr_find 2 rfl (by kernel_rfl) (by kernel_rfl) (by kernel_rfl) (fun _ _ _ _ h => h) (by rfl) trivial ?_
        apply Exists.intro; apply And.intro
        · intro w' hS K hK
          clear hS
          go_light
          go_simp
          exact hK.out
        try simp only [Act.put, List.getElem_toArray, List.getElem_cons_zero, List.getElem_cons_succ, List.setIfInBounds_toArray, List.set_cons_zero, List.set_cons_succ]
        refine kr_find 3 rfl (by kernel_rfl) (by kernel_rfl) (by kernel_rfl) (fun _ _ _ _ h => h) (by rfl) trivial ?_
        apply Exists.intro; apply And.intro
        · intro w' hS K hK
          clear hS
          go_light
          go_simp
          exact hK.out
        try simp only [Act.put, List.getElem_toArray, List.getElem_cons_zero, List.getElem_cons_succ, List.setIfInBounds_toArray, List.set_cons_zero, List.set_cons_succ]
        refine kr_find 4 rfl (by kernel_rfl) (by kernel_rfl) (by kernel_rfl) (fun _ _ _ _ h => h) (by rfl) trivial ?_
        apply Exists.intro; apply And.intro
        · intro w' hS K hK
          clear hS
          go_light
          go_simp
          exact hK.out
        try simp only [Act.put, List.getElem_toArray, List.getElem_cons_zero, List.getElem_cons_succ, List.setIfInBounds_toArray, List.set_cons_zero, List.set_cons_succ]
        refine kr_find 5 rfl (by kernel_rfl) (by kernel_rfl) (by kernel_rfl) (fun _ _ _ _ h => h) (by rfl) (show _ from HX5.out _ Fd.out) ?_
        apply Exists.intro; apply And.intro
        · intro w' hS K hK
          have hS : w'.cell? ⟨b, off + i * 25 + 3, none⟩ = some (.bool x.a.ans) := hS
          go_light
          go_simp
          exact hK.out
        try simp only [Act.put, List.getElem_toArray, List.getElem_cons_zero, List.getElem_cons_succ, List.setIfInBounds_toArray, List.set_cons_zero, List.set_cons_succ]
        refine kr_find 6 rfl (by kernel_rfl) (by kernel_rfl) (by kernel_rfl) (fun _ _ _ _ h => h) (by rfl) trivial ?_
        apply Exists.intro; apply And.intro
        · intro w' hS K hK
          clear hS
          go_light
          go_simp
          exact hK.out
        try simp only [Act.put, List.getElem_toArray, List.getElem_cons_zero, List.getElem_cons_succ, List.setIfInBounds_toArray, List.set_cons_zero, List.set_cons_succ]
        refine kr_find 7 rfl (by kernel_rfl) (by kernel_rfl) (by kernel_rfl) (fun _ _ _ _ h => h) (by rfl) trivial ?_
        apply Exists.intro; apply And.intro
        · intro w' hS K hK
          clear hS
          go_light
          go_simp
          exact hK.out
        try simp only [Act.put, List.getElem_toArray, List.getElem_cons_zero, List.getElem_cons_succ, List.setIfInBounds_toArray, List.set_cons_zero, List.set_cons_succ]
        refine kr_find 8 rfl (by kernel_rfl) (by kernel_rfl) (by kernel_rfl) (fun _ _ _ _ h => h) (by rfl) trivial ?_
        apply Exists.intro; apply And.intro
        · intro w' hS K hK
          clear hS
          go_light
          go_simp
          exact hK.out
        try simp only [Act.put, List.getElem_toArray, List.getElem_cons_zero, List.getElem_cons_succ, List.setIfInBounds_toArray, List.set_cons_zero, List.set_cons_succ]
        refine kr_find 9 rfl (by kernel_rfl) (by kernel_rfl) (by kernel_rfl) (fun _ _ _ _ h => h) (by rfl) trivial ?_
        apply Exists.intro; apply And.intro
        · intro w' hS K hK
          clear hS
          go_light
          go_simp
          exact hK.out
        try simp only [Act.put, List.getElem_toArray, List.getElem_cons_zero, List.getElem_cons_succ, List.setIfInBounds_toArray, List.set_cons_zero, List.set_cons_succ]
        refine kr_find 10 rfl (by kernel_rfl) (by kernel_rfl) (by kernel_rfl) (fun _ _ _ _ h => h) (by rfl) trivial ?_
        apply Exists.intro; apply And.intro
        · intro w' hS K hK
          clear hS
          go_light
          go_simp
          exact hK.out
        try simp only [Act.put, List.getElem_toArray, List.getElem_cons_zero, List.getElem_cons_succ, List.setIfInBounds_toArray, List.set_cons_zero, List.set_cons_succ]
        refine kr_take 11 rfl (by kernel_rfl) (by kernel_rfl) (by kernel_rfl) (fun _ _ _ h => h) (yieldsIf_load_mid (by rfl) 27 _ rfl (b) (off + i * 25 + 4) rfl ([.int .u8 x.a.sm.a, .int .u8 x.a.sm.b, .int .u8 x.a.sm.c, .int .u8 x.a.sm.d, .int .u8 x.a.sm.e, .int .u8 x.a.sm.f]) _ (fun _ h => h) Try.underlying27 rfl (by kernel_rfl)) (show _ from HX11.out _ Fd.out) ?_
        try simp only [Act.put, List.getElem_toArray, List.getElem_cons_zero, List.getElem_cons_succ, List.setIfInBounds_toArray, List.set_cons_zero, List.set_cons_succ]
        refine kr_find 12 rfl (by kernel_rfl) (by kernel_rfl) (by kernel_rfl) (fun _ _ _ _ h => h) (by rfl) trivial ?_
        apply Exists.intro; apply And.intro
        · intro w' hS K hK
          clear hS
          go_light
          go_simp
          exact hK.out
        try simp only [Act.put, List.getElem_toArray, List.getElem_cons_zero, List.getElem_cons_succ, List.setIfInBounds_toArray, List.set_cons_zero, List.set_cons_succ]
        refine kr_find 13 rfl (by kernel_rfl) (by kernel_rfl) (by kernel_rfl) (fun _ _ _ _ h => h) (by rfl) trivial ?_
        apply Exists.intro; apply And.intro
        · intro w' hS K hK
          clear hS
          go_light
          go_simp
          exact hK.out
        try simp only [Act.put, List.getElem_toArray, List.getElem_cons_zero, List.getElem_cons_succ, List.setIfInBounds_toArray, List.set_cons_zero, List.set_cons_succ]
        refine kr_find 15 rfl (by kernel_rfl) (by kernel_rfl) (by kernel_rfl) (fun _ _ _ _ h => h) (by rfl) trivial ?_
        apply Exists.intro; apply And.intro
        · intro w' hS K hK
          clear hS
          go_light
          go_simp
          exact hK.out
        try simp only [Act.put, List.getElem_toArray, List.getElem_cons_zero, List.getElem_cons_succ, List.setIfInBounds_toArray, List.set_cons_zero, List.set_cons_succ]
        refine kr_ready (rs := [14, 18]) (by kernel_rfl) (by simp) (kr_cons rfl (by rfl) (fun K hK => ?_) (kr_cons rfl (by rfl) (fun K hK => ?_) KAll.nil))
        · go_simp
          go_at_call 14
          refine (ip14 _ _).mono ?_
          rintro e wc1 ⟨rfl, fx⟩
          have FC1 := Lib.hid (Fd.out.then' fx)
          clear fx
          refine hK.out _ _ ⟨.inr (HX5.out _ FC1.out), .inr (HX11.out _ FC1.out), trivial⟩ ?_
          clear hK K
          try simp only [Act.put, List.getElem_toArray, List.getElem_cons_zero, List.getElem_cons_succ, List.setIfInBounds_toArray, List.set_cons_zero, List.set_cons_succ]
          refine kr_ready (rs := [16, 18]) (by kernel_rfl) (by simp) (kr_cons rfl (by rfl) (fun K hK => ?_) (kr_cons rfl (by rfl) (fun K hK => ?_) KAll.nil))
          · go_simp
            go_at_call 14
            refine (ip14 _ _).mono ?_
            rintro e wc2 ⟨rfl, fx⟩
            have FC2 := Lib.hid (FC1.out.then' fx)
            clear fx
            refine hK.out _ _ ⟨.inr (HX5.out _ FC2.out), .inr (HX11.out _ FC2.out), trivial⟩ ?_
            clear hK K
            try simp only [Act.put, List.getElem_toArray, List.getElem_cons_zero, List.getElem_cons_succ, List.setIfInBounds_toArray, List.set_cons_zero, List.set_cons_succ]
            refine kr_take 17 rfl (by kernel_rfl) (by kernel_rfl) (by kernel_rfl) (fun _ _ _ h => h) (kr_build bd33 rfl rfl [(0, .bool x.a.ans), (1, .agg #[.int .u8 x.a.sm.a, .int .u8 x.a.sm.b, .int .u8 x.a.sm.c, .int .u8 x.a.sm.d, .int .u8 x.a.sm.e, .int .u8 x.a.sm.f]), (2, .agg #[.int .u8 10, .int .u8 0, .int .u8 0, .int .u8 (2 + (k : Int))]), (3, .agg #[.int .u8 2, .int .u8 0, .int .u8 0, .int .u8 0, .int .u8 0, .int .u8 0]), (4, .agg #[.int .u8 10, .int .u8 0, .int .u8 0, .int .u8 1])] (by rfl) (Rq.cells ⟨x.a.ans, x.a.sm, ⟨10, 0, 0, 2 + (k : Int)⟩, m2, q1⟩).toArray (rq33 _ 0 0 0 0 0 0 _ _)) trivial ?_
            try simp only [Act.put, List.getElem_toArray, List.getElem_cons_zero, List.getElem_cons_succ, List.setIfInBounds_toArray, List.set_cons_zero, List.set_cons_succ]
            refine kr_one 18 (by kernel_rfl) rfl (by rfl) (fun K hK => ?_)
            go_simp
            obtain ⟨h1, h2, h3⟩ := one_new wc2 #[.bool false, .int .u8 0, .int .u8 0, .int .u8 0, .int .u8 0, .int .u8 0, .int .u8 0, .int .u8 0, .int .u8 0, .int .u8 0, .int .u8 0, .int .u8 0, .int .u8 0, .int .u8 0, .int .u8 0, .int .u8 0, .int .u8 0, .int .u8 0, .int .u8 0, .int .u8 0, .int .u8 0] 33
            generalize wc2.alloc (.cells #[.bool false, .int .u8 0, .int .u8 0, .int .u8 0, .int .u8 0, .int .u8 0, .int .u8 0, .int .u8 0, .int .u8 0, .int .u8 0, .int .u8 0, .int .u8 0, .int .u8 0, .int .u8 0, .int .u8 0, .int .u8 0, .int .u8 0, .int .u8 0, .int .u8 0, .int .u8 0, .int .u8 0] 33) = wc3 at h1 h2 h3 ⊢
            obtain ⟨bo, h4⟩ : ∃ k, wc2.heap.size = k := ⟨_, rfl⟩
            have ZB := Lib.hid (show wr.heap.size ≤ bo from by have h5 := FC2.out.size; omega)
            rw [h4] at h1 ⊢
            have FC3 := Lib.hid (FC2.out.then' h2)
            have Bwc3 := Lib.hid h1
            clear h1 h2 h3 h4
            refine hK.out _ _ ⟨.inr (HX5.out _ FC3.out), .inr (HX11.out _ FC3.out), trivial⟩ ?_
            clear hK K
            try simp only [Act.put, List.getElem_toArray, List.getElem_cons_zero, List.getElem_cons_succ, List.setIfInBounds_toArray, List.set_cons_zero, List.set_cons_succ]
            refine kr_one 19 (by kernel_rfl) rfl (by rfl) (fun K hK => ?_)
            refine wp_store_mid 33 _ _ rfl bo 0 (Rq.cells ⟨x.a.ans, x.a.sm, ⟨10, 0, 0, 2 + (k : Int)⟩, m2, q1⟩).toArray rfl rfl (there_at wc3 bo [.bool false, .int .u8 0, .int .u8 0, .int .u8 0, .int .u8 0, .int .u8 0, .int .u8 0, .int .u8 0, .int .u8 0, .int .u8 0, .int .u8 0, .int .u8 0, .int .u8 0, .int .u8 0, .int .u8 0, .int .u8 0, .int .u8 0, .int .u8 0, .int .u8 0, .int .u8 0, .int .u8 0] 33 Bwc3.out) (by kernel_rfl) (by simp [Rq.cells, Value.oneCell']) ?_
            refine hK.out _ _ ⟨.inl (by kernel_rfl), .inl (by kernel_rfl), trivial⟩ ?_
            clear hK K
            try simp only [Act.put, List.getElem_toArray, List.getElem_cons_zero, List.getElem_cons_succ, List.setIfInBounds_toArray, List.set_cons_zero, List.set_cons_succ]
            refine kr_done (by kernel_rfl) ?_ _
            go_wp2_with fail
            go_meet
            exact ⟨bo, rfl, rqset _ Bwc3.out, Fr.setCells bo (fun h => absurd h (by have := ZB.out; omega)) _ _ _ FC3.out, ZB.out⟩
          · go_simp
            obtain ⟨h1, h2, h3⟩ := one_new wc1 #[.bool false, .int .u8 0, .int .u8 0, .int .u8 0, .int .u8 0, .int .u8 0, .int .u8 0, .int .u8 0, .int .u8 0, .int .u8 0, .int .u8 0, .int .u8 0, .int .u8 0, .int .u8 0, .int .u8 0, .int .u8 0, .int .u8 0, .int .u8 0, .int .u8 0, .int .u8 0, .int .u8 0] 33
            generalize wc1.alloc (.cells #[.bool false, .int .u8 0, .int .u8 0, .int .u8 0, .int .u8 0, .int .u8 0, .int .u8 0, .int .u8 0, .int .u8 0, .int .u8 0, .int .u8 0, .int .u8 0, .int .u8 0, .int .u8 0, .int .u8 0, .int .u8 0, .int .u8 0, .int .u8 0, .int .u8 0, .int .u8 0, .int .u8 0] 33) = wc4 at h1 h2 h3 ⊢
            obtain ⟨bo, h4⟩ : ∃ k, wc1.heap.size = k := ⟨_, rfl⟩
            have ZB := Lib.hid (show wr.heap.size ≤ bo from by have h5 := FC1.out.size; omega)
            rw [h4] at h1 ⊢
            have FC4 := Lib.hid (FC1.out.then' h2)
            have Bwc4 := Lib.hid h1
            clear h1 h2 h3 h4
            refine hK.out _ _ ⟨.inr (HX5.out _ FC4.out), .inr (HX11.out _ FC4.out), trivial⟩ ?_
            clear hK K
            try simp only [Act.put, List.getElem_toArray, List.getElem_cons_zero, List.getElem_cons_succ, List.setIfInBounds_toArray, List.set_cons_zero, List.set_cons_succ]
            refine kr_one 16 (by kernel_rfl) rfl (by rfl) (fun K hK => ?_)
            go_simp
            go_at_call 14
            refine (ip14 _ _).mono ?_
            rintro e wc5 ⟨rfl, fx⟩
            have FC5 := Lib.hid (FC4.out.then' fx)
            have Bwc5 := Lib.hid ((fx.block bo (lt_of_block Bwc4.out) (fun e => e)).trans Bwc4.out)
            clear fx
            refine hK.out _ _ ⟨.inr (HX5.out _ FC5.out), .inr (HX11.out _ FC5.out), trivial⟩ ?_
            clear hK K
            try simp only [Act.put, List.getElem_toArray, List.getElem_cons_zero, List.getElem_cons_succ, List.setIfInBounds_toArray, List.set_cons_zero, List.set_cons_succ]
            refine kr_take 17 rfl (by kernel_rfl) (by kernel_rfl) (by kernel_rfl) (fun _ _ _ h => h) (kr_build bd33 rfl rfl [(0, .bool x.a.ans), (1, .agg #[.int .u8 x.a.sm.a, .int .u8 x.a.sm.b, .int .u8 x.a.sm.c, .int .u8 x.a.sm.d, .int .u8 x.a.sm.e, .int .u8 x.a.sm.f]), (2, .agg #[.int .u8 10, .int .u8 0, .int .u8 0, .int .u8 (2 + (k : Int))]), (3, .agg #[.int .u8 2, .int .u8 0, .int .u8 0, .int .u8 0, .int .u8 0, .int .u8 0]), (4, .agg #[.int .u8 10, .int .u8 0, .int .u8 0, .int .u8 1])] (by rfl) (Rq.cells ⟨x.a.ans, x.a.sm, ⟨10, 0, 0, 2 + (k : Int)⟩, m2, q1⟩).toArray (rq33 _ 0 0 0 0 0 0 _ _)) trivial ?_
            try simp only [Act.put, List.getElem_toArray, List.getElem_cons_zero, List.getElem_cons_succ, List.setIfInBounds_toArray, List.set_cons_zero, List.set_cons_succ]
            refine kr_one 19 (by kernel_rfl) rfl (by rfl) (fun K hK => ?_)
            refine wp_store_mid 33 _ _ rfl bo 0 (Rq.cells ⟨x.a.ans, x.a.sm, ⟨10, 0, 0, 2 + (k : Int)⟩, m2, q1⟩).toArray rfl rfl (there_at wc5 bo [.bool false, .int .u8 0, .int .u8 0, .int .u8 0, .int .u8 0, .int .u8 0, .int .u8 0, .int .u8 0, .int .u8 0, .int .u8 0, .int .u8 0, .int .u8 0, .int .u8 0, .int .u8 0, .int .u8 0, .int .u8 0, .int .u8 0, .int .u8 0, .int .u8 0, .int .u8 0, .int .u8 0] 33 Bwc5.out) (by kernel_rfl) (by simp [Rq.cells, Value.oneCell']) ?_
            refine hK.out _ _ ⟨.inl (by kernel_rfl), .inl (by kernel_rfl), trivial⟩ ?_
            clear hK K
            try simp only [Act.put, List.getElem_toArray, List.getElem_cons_zero, List.getElem_cons_succ, List.setIfInBounds_toArray, List.set_cons_zero, List.set_cons_succ]
            refine kr_done (by kernel_rfl) ?_ _
            go_wp2_with fail
            go_meet
            exact ⟨bo, rfl, rqset _ Bwc5.out, Fr.setCells bo (fun h => absurd h (by have := ZB.out; omega)) _ _ _ FC5.out, ZB.out⟩
        · go_simp
          obtain ⟨h1, h2, h3⟩ := one_new wd #[.bool false, .int .u8 0, .int .u8 0, .int .u8 0, .int .u8 0, .int .u8 0, .int .u8 0, .int .u8 0, .int .u8 0, .int .u8 0, .int .u8 0, .int .u8 0, .int .u8 0, .int .u8 0, .int .u8 0, .int .u8 0, .int .u8 0, .int .u8 0, .int .u8 0, .int .u8 0, .int .u8 0] 33
          generalize wd.alloc (.cells #[.bool false, .int .u8 0, .int .u8 0, .int .u8 0, .int .u8 0, .int .u8 0, .int .u8 0, .int .u8 0, .int .u8 0, .int .u8 0, .int .u8 0, .int .u8 0, .int .u8 0, .int .u8 0, .int .u8 0, .int .u8 0, .int .u8 0, .int .u8 0, .int .u8 0, .int .u8 0, .int .u8 0] 33) = wc6 at h1 h2 h3 ⊢
          obtain ⟨bo, h4⟩ : ∃ k, wd.heap.size = k := ⟨_, rfl⟩
          have ZB := Lib.hid (show wr.heap.size ≤ bo from by have h5 := Fd.out.size; omega)
          rw [h4] at h1 ⊢
          have FC6 := Lib.hid (Fd.out.then' h2)
          have Bwc6 := Lib.hid h1
          clear h1 h2 h3 h4
          refine hK.out _ _ ⟨.inr (HX5.out _ FC6.out), .inr (HX11.out _ FC6.out), trivial⟩ ?_
          clear hK K
          try simp only [Act.put, List.getElem_toArray, List.getElem_cons_zero, List.getElem_cons_succ, List.setIfInBounds_toArray, List.set_cons_zero, List.set_cons_succ]
          refine kr_one 14 (by kernel_rfl) rfl (by rfl) (fun K hK => ?_)
          go_simp
          go_at_call 14
          refine (ip14 _ _).mono ?_
          rintro e wc7 ⟨rfl, fx⟩
          have FC7 := Lib.hid (FC6.out.then' fx)
          have Bwc7 := Lib.hid ((fx.block bo (lt_of_block Bwc6.out) (fun e => e)).trans Bwc6.out)
          clear fx
          refine hK.out _ _ ⟨.inr (HX5.out _ FC7.out), .inr (HX11.out _ FC7.out), trivial⟩ ?_
          clear hK K
          try simp only [Act.put, List.getElem_toArray, List.getElem_cons_zero, List.getElem_cons_succ, List.setIfInBounds_toArray, List.set_cons_zero, List.set_cons_succ]
          refine kr_one 16 (by kernel_rfl) rfl (by rfl) (fun K hK => ?_)
          go_simp
          go_at_call 14
          refine (ip14 _ _).mono ?_
          rintro e wc8 ⟨rfl, fx⟩
          have FC8 := Lib.hid (FC7.out.then' fx)
          have Bwc8 := Lib.hid ((fx.block bo (lt_of_block Bwc7.out) (fun e => e)).trans Bwc7.out)
          clear fx
          refine hK.out _ _ ⟨.inr (HX5.out _ FC8.out), .inr (HX11.out _ FC8.out), trivial⟩ ?_
          clear hK K
          try simp only [Act.put, List.getElem_toArray, List.getElem_cons_zero, List.getElem_cons_succ, List.setIfInBounds_toArray, List.set_cons_zero, List.set_cons_succ]
          refine kr_take 17 rfl (by kernel_rfl) (by kernel_rfl) (by kernel_rfl) (fun _ _ _ h => h) (kr_build bd33 rfl rfl [(0, .bool x.a.ans), (1, .agg #[.int .u8 x.a.sm.a, .int .u8 x.a.sm.b, .int .u8 x.a.sm.c, .int .u8 x.a.sm.d, .int .u8 x.a.sm.e, .int .u8 x.a.sm.f]), (2, .agg #[.int .u8 10, .int .u8 0, .int .u8 0, .int .u8 (2 + (k : Int))]), (3, .agg #[.int .u8 2, .int .u8 0, .int .u8 0, .int .u8 0, .int .u8 0, .int .u8 0]), (4, .agg #[.int .u8 10, .int .u8 0, .int .u8 0, .int .u8 1])] (by rfl) (Rq.cells ⟨x.a.ans, x.a.sm, ⟨10, 0, 0, 2 + (k : Int)⟩, m2, q1⟩).toArray (rq33 _ 0 0 0 0 0 0 _ _)) trivial ?_
          try simp only [Act.put, List.getElem_toArray, List.getElem_cons_zero, List.getElem_cons_succ, List.setIfInBounds_toArray, List.set_cons_zero, List.set_cons_succ]
          refine kr_one 19 (by kernel_rfl) rfl (by rfl) (fun K hK => ?_)
          refine wp_store_mid 33 _ _ rfl bo 0 (Rq.cells ⟨x.a.ans, x.a.sm, ⟨10, 0, 0, 2 + (k : Int)⟩, m2, q1⟩).toArray rfl rfl (there_at wc8 bo [.bool false, .int .u8 0, .int .u8 0, .int .u8 0, .int .u8 0, .int .u8 0, .int .u8 0, .int .u8 0, .int .u8 0, .int .u8 0, .int .u8 0, .int .u8 0, .int .u8 0, .int .u8 0, .int .u8 0, .int .u8 0, .int .u8 0, .int .u8 0, .int .u8 0, .int .u8 0, .int .u8 0] 33 Bwc8.out) (by kernel_rfl) (by simp [Rq.cells, Value.oneCell']) ?_
          refine hK.out _ _ ⟨.inl (by kernel_rfl), .inl (by kernel_rfl), trivial⟩ ?_
          clear hK K
          try simp only [Act.put, List.getElem_toArray, List.getElem_cons_zero, List.getElem_cons_succ, List.setIfInBounds_toArray, List.set_cons_zero, List.set_cons_succ]
          refine kr_done (by kernel_rfl) ?_ _
          go_wp2_with fail
          go_meet
          exact ⟨bo, rfl, rqset _ Bwc8.out, Fr.setCells bo (fun h => absurd h (by have := ZB.out; omega)) _ _ _ FC8.out, ZB.out⟩
      case rest =>
      obtain ⟨bo, rfl, hbo, hfo, hzo⟩ := hcut
      have BO := Lib.hid hbo
      have FO := Lib.hid hfo
      have ZO := Lib.hid hzo
      have L5 := Lib.hid (HL.out.fr0 hfo)
      clear hbo hfo hzo HL HX5 HX11 Fd
      have RQ5 := Lib.hid (range_at wc bo _ 33 BO.out)
      iterate 60 (first
        | (have := MK1; clear this)
        | (refine wpList_load_mid rfl 33 _ rfl bo 0 rfl (Rq.cells ⟨x.a.ans, x.a.sm, ⟨10, 0, 0, 2 + (k : Int)⟩, m2, q1⟩) _ RQ5.out Try.underlying33 rfl (by kernel_rfl) ?_; have MK1 := Lib.hid True.intro)
        | go_step)
      go_upto_region 12 with (go_at_call 15; refine (hl15 (n := k) ⟨x.a.ans, x.a.sm, ipn k, m2, q1⟩ wc ⟨HXO.out.a.sm, ipn_ok (by omega), m2_ok, q1_ok⟩ hk7 L5.out.len L5.out.at' L5.out.kn rfl rfl ⟨by omega, by omega⟩ L5.out.hN).mono ?_; rintro e w6 ⟨vout, Am, cpm, toM, L', lv', i', e', rfl, hh, ha1, ha2, hf⟩; have H6 := Lib.hid hh; have HA1 := Lib.hid ha1; have HA2 := Lib.hid ha2; have F6 := Lib.hid hf; clear hh ha1 ha2 hf)
      have C5 := Lib.hid L5.out.at'
      have HRX6 := Lib.hid (show w6.heap[bo]? = _ from (F6.out.block bo (lt_of_block BO.out) (C5.out.tag BO.out (by decide) (by decide) (by decide) (by decide))).trans BO.out)
      have BS6 := Lib.hid (show w6.heap[bs]? = _ from (F6.out.block bs (lt_of_block L5.out.blk) (C5.out.tag L5.out.blk (by decide) (by decide) (by decide) (by decide))).trans L5.out.blk)
      have FW6 := Lib.hid (show Fr (fun _ => False) W w6 from L5.out.fr.trans F6.out (fun j hj h => by have h1 := (C5.out.lt h).1; have h2 := HN.out; omega))
      have F7 := Lib.hid ((Fr.refl (fun _ => False) w6).alloc (.cells #[.int .u8 toM.a, .int .u8 toM.b, .int .u8 toM.c, .int .u8 toM.d, .int .u8 toM.e, .int .u8 toM.f] 27))
      generalize w6.alloc (.cells #[.int .u8 toM.a, .int .u8 toM.b, .int .u8 toM.c, .int .u8 toM.d, .int .u8 toM.e, .int .u8 toM.f] 27) = w7 at F7 ⊢
      have BO7 := Lib.hid ((F7.out.block bo (lt_of_block HRX6.out) (fun e => e)).trans HRX6.out)
      have BS7 := Lib.hid ((F7.out.block bs (lt_of_block BS6.out) (fun e => e)).trans BS6.out)
      have SL9 := Lib.hid L5.out.len
      have RSM7 := Lib.hid (show w7.rangeAt bo 1 [.int .u8 x.a.sm.a, .int .u8 x.a.sm.b, .int .u8 x.a.sm.c, .int .u8 x.a.sm.d, .int .u8 x.a.sm.e, .int .u8 x.a.sm.f] from range_part (range_at w7 bo _ 33 BO7.out) 1 6)
      have TH7 := Lib.hid (show w7.there bs (k * 6) 6 from fun j hj => by
        have := there_at w7 bs _ 31 BS7.out (k * 6 + j) (by rw [sw_len, SL9.out]; omega)
        simpa using this)
      have hk9 : k < 9 := by omega
      iterate 60 (first
        | (have := MK2; clear this)
        | (refine wpList_load_mid rfl 27 _ rfl bo 1 rfl [.int .u8 x.a.sm.a, .int .u8 x.a.sm.b, .int .u8 x.a.sm.c, .int .u8 x.a.sm.d, .int .u8 x.a.sm.e, .int .u8 x.a.sm.f] _ RSM7.out Try.underlying27 rfl (by kernel_rfl) ?_)
        | (refine wpList_store_mid rfl 27 _ _ rfl bs (k * 6) x.a.sm.cells.toArray rfl rfl TH7.out (by kernel_rfl) (by simp [M6.cells, Value.oneCell']) ?_; have MK2 := Lib.hid True.intro)
        | go_step)
      change wpList Try.prog _ _ _ _ (w7.setCells bs (k * 6) x.a.sm.cells)
      have F8 := Lib.hid (Fr.setCells (S := fun b => b = bs) bs (fun _ => rfl) x.a.sm.cells (k * 6) w7 (Fr.refl _ w7))
      have BS8 := Lib.hid (show (w7.setCells bs (k * 6) x.a.sm.cells).heap[bs]? = some (.cells (sw (said.set k x.a.sm)).toArray 31) from by
        have h := heap_setCells_same x.a.sm.cells (sw said) w7 bs (k * 6) 31 BS7.out
        rwa [sw_set x.a.sm (by rw [SL9.out]; exact hk9)] at h)
      generalize w7.setCells bs (k * 6) x.a.sm.cells = w8 at F8 BS8 ⊢
      have NBO := Lib.hid (show bo ≠ bs from fun e => by
        have h1 := BO7.out
        rw [e, BS7.out] at h1
        exact absurd (tag_ne h1) (by decide))
      have BO8 := Lib.hid ((F8.out.block bo (lt_of_block BO7.out) NBO.out).trans BO7.out)
      have HL8 := Lib.hid (show Hl N g k L said x.a.sm (i : Int) lv wc w8 L' lv' i' e' from { H6.out with at' := (H6.out.at'.fr F7.out).frS F8.out (fun j hj e => (H6.out.at'.fr F7.out).tag BS7.out (by decide) (by decide) (by decide) (by decide) (e ▸ hj)) })
      have L8 := Lib.hid (show Lst W N g bs w8 L' lv' (said.set k x.a.sm) from ⟨HL8.out.at', HL8.out.kn, by rw [List.length_set]; exact SL9.out, BS8.out, (FW6.out.then' F7.out).trans F8.out (fun j hj h => by have h1 := L5.out.hbs; have h : j = bs := h; omega), Nat.le_trans L5.out.hN (Nat.le_trans F6.out.size (Nat.le_trans F7.out.size F8.out.size)), L5.out.hbs⟩)
      have HA2' := Lib.hid (show x.a.ans = false → Sl wc.heap.size 33 21 w8 vout 1 (ansCells m2 q1 ⟨x.a.ans, x.a.sm, ipn k, m2, q1⟩) from fun h => ((HA2.out h).fr0 F7.out).fr F8.out (fun j hj e => by
        obtain ⟨c, hc⟩ := ((HA2.out h).fr0 F7.out).tag hj
        have e : j = bs := e
        rw [e, BS7.out] at hc
        exact absurd (tag_ne hc) (by decide)))
      have HSMO := Lib.hid HXO.out.a.sm
      clear HRX6 BS6 FW6 BS7 SL9 RSM7 TH7 F6 F7 F8 BO7 NBO HA2 H6 C5 L5 BS8 RQ5
      go_upto_region 13 with (fail)
      try simp only [Act.put]
      go_cut [133] (fun v133 wd => v133 = .bool false ∧ Fr (fun _ => False) w8 wd)
      case first =>
        have HB8 := Lib.hid (fun (w' : World) (f : Fr (fun _ => False) w8 w') => (range_at w' bo _ 33 ((f.block bo (lt_of_block BO8.out) (fun e => e)).trans BO8.out) : w'.rangeAt bo 0 (Rq.cells ⟨x.a.ans, x.a.sm, ⟨10, 0, 0, 2 + (k : Int)⟩, m2, q1⟩)))
        obtain ⟨an, han⟩ : ∃ an, x.a.ans = an := ⟨_, rfl⟩
        rw [han] at HB8
        cases an with
        | true =>
          have hv := HA1.out han
          subst hv
          as_aux_lemma =>
          refine kr_start [(5, fun W => W.cell? ⟨bo, 0, none⟩ = some (.bool true)), (14, fun W => W.cell? ⟨bo, 0, none⟩ = some (.bool true))] (by kernel_rfl) (by kernel_rfl) ?_
          refine kr_find 0 rfl (by kernel_rfl) (by kernel_rfl) (by kernel_rfl) (fun _ _ _ _ h => h) (by rfl) trivial ?_
          apply Exists.intro; apply And.intro
          · intro w' hS K hK
            clear hS
            go_light
            go_simp
            exact hK.out
          try simp only [Act.put, List.getElem_toArray, List.getElem_cons_zero, List.getElem_cons_succ, List.setIfInBounds_toArray, List.set_cons_zero, List.set_cons_succ]
          refine kr_find 1 rfl (by kernel_rfl) (by kernel_rfl) (by kernel_rfl) (fun _ _ _ _ h => h) (by rfl) trivial ?_
          apply Exists.intro; apply And.intro
          · intro w' hS K hK
            clear hS
            go_light
            go_simp
            exact hK.out
          try simp only [Act.put, List.getElem_toArray, List.getElem_cons_zero, List.getElem_cons_succ, List.setIfInBounds_toArray, List.set_cons_zero, List.set_cons_succ]
          refine kr_find 2 rfl (by kernel_rfl) (by kernel_rfl) (by kernel_rfl) (fun _ _ _ _ h => h) (by rfl) trivial ?_
          apply Exists.intro; apply And.intro
          · intro w' hS K hK
            clear hS
            go_light
            go_simp
            exact hK.out
          try simp only [Act.put, List.getElem_toArray, List.getElem_cons_zero, List.getElem_cons_succ, List.setIfInBounds_toArray, List.set_cons_zero, List.set_cons_succ]
          refine kr_find 3 rfl (by kernel_rfl) (by kernel_rfl) (by kernel_rfl) (fun _ _ _ _ h => h) (by rfl) trivial ?_
          apply Exists.intro; apply And.intro
          · intro w' hS K hK
            clear hS
            go_light
            go_simp
            exact hK.out
          try simp only [Act.put, List.getElem_toArray, List.getElem_cons_zero, List.getElem_cons_succ, List.setIfInBounds_toArray, List.set_cons_zero, List.set_cons_succ]
          refine kr_find 4 rfl (by kernel_rfl) (by kernel_rfl) (by kernel_rfl) (fun _ _ _ _ h => h) (by rfl) trivial ?_
          apply Exists.intro; apply And.intro
          · intro w' hS K hK
            clear hS
            go_light
            go_simp
            exact hK.out
          try simp only [Act.put, List.getElem_toArray, List.getElem_cons_zero, List.getElem_cons_succ, List.setIfInBounds_toArray, List.set_cons_zero, List.set_cons_succ]
          refine kr_find 5 rfl (by kernel_rfl) (by kernel_rfl) (by kernel_rfl) (fun _ _ _ _ h => h) (by rfl) (show _ from HB8.out _ (Fr.refl _ w8).drew 0 _ rfl) ?_
          apply Exists.intro; apply And.intro
          · intro w' hS K hK
            have hS : w'.cell? ⟨bo, 0, none⟩ = some (.bool true) := hS
            go_light
            go_simp
            exact hK.out
          try simp only [Act.put, List.getElem_toArray, List.getElem_cons_zero, List.getElem_cons_succ, List.setIfInBounds_toArray, List.set_cons_zero, List.set_cons_succ]
          refine kr_find 6 rfl (by kernel_rfl) (by kernel_rfl) (by kernel_rfl) (fun _ _ _ _ h => h) (by rfl) trivial ?_
          apply Exists.intro; apply And.intro
          · intro w' hS K hK
            clear hS
            go_light
            go_simp
            exact hK.out
          try simp only [Act.put, List.getElem_toArray, List.getElem_cons_zero, List.getElem_cons_succ, List.setIfInBounds_toArray, List.set_cons_zero, List.set_cons_succ]
          refine kr_find 7 rfl (by kernel_rfl) (by kernel_rfl) (by kernel_rfl) (fun _ _ _ _ h => h) (by rfl) trivial ?_
          apply Exists.intro; apply And.intro
          · intro w' hS K hK
            clear hS
            go_light
            go_simp
            exact hK.out
          try simp only [Act.put, List.getElem_toArray, List.getElem_cons_zero, List.getElem_cons_succ, List.setIfInBounds_toArray, List.set_cons_zero, List.set_cons_succ]
          refine kr_find 8 rfl (by kernel_rfl) (by kernel_rfl) (by kernel_rfl) (fun _ _ _ _ h => h) (by rfl) trivial ?_
          apply Exists.intro; apply And.intro
          · intro w' hS K hK
            clear hS
            go_light
            go_simp
            exact hK.out
          try simp only [Act.put, List.getElem_toArray, List.getElem_cons_zero, List.getElem_cons_succ, List.setIfInBounds_toArray, List.set_cons_zero, List.set_cons_succ]
          refine kr_find 9 rfl (by kernel_rfl) (by kernel_rfl) (by kernel_rfl) (fun _ _ _ _ h => h) (by rfl) trivial ?_
          apply Exists.intro; apply And.intro
          · intro w' hS K hK
            clear hS
            go_light
            go_simp
            exact hK.out
          try simp only [Act.put, List.getElem_toArray, List.getElem_cons_zero, List.getElem_cons_succ, List.setIfInBounds_toArray, List.set_cons_zero, List.set_cons_succ]
          refine kr_find 10 rfl (by kernel_rfl) (by kernel_rfl) (by kernel_rfl) (fun _ _ _ _ h => h) (by rfl) trivial ?_
          apply Exists.intro; apply And.intro
          · intro w' hS K hK
            clear hS
            go_light
            go_simp
            exact hK.out
          try simp only [Act.put, List.getElem_toArray, List.getElem_cons_zero, List.getElem_cons_succ, List.setIfInBounds_toArray, List.set_cons_zero, List.set_cons_succ]
          refine kr_find 11 rfl (by kernel_rfl) (by kernel_rfl) (by kernel_rfl) (fun _ _ _ _ h => h) (by rfl) trivial ?_
          apply Exists.intro; apply And.intro
          · intro w' hS K hK
            clear hS
            go_light
            go_simp
            exact hK.out
          try simp only [Act.put, List.getElem_toArray, List.getElem_cons_zero, List.getElem_cons_succ, List.setIfInBounds_toArray, List.set_cons_zero, List.set_cons_succ]
          refine kr_find 12 rfl (by kernel_rfl) (by kernel_rfl) (by kernel_rfl) (fun _ _ _ _ h => h) (by rfl) trivial ?_
          apply Exists.intro; apply And.intro
          · intro w' hS K hK
            clear hS
            go_light
            go_simp
            exact hK.out
          try simp only [Act.put, List.getElem_toArray, List.getElem_cons_zero, List.getElem_cons_succ, List.setIfInBounds_toArray, List.set_cons_zero, List.set_cons_succ]
          refine kr_find 13 rfl (by kernel_rfl) (by kernel_rfl) (by kernel_rfl) (fun _ _ _ _ h => h) (by rfl) trivial ?_
          apply Exists.intro; apply And.intro
          · intro w' hS K hK
            clear hS
            go_light
            go_simp
            exact hK.out
          try simp only [Act.put, List.getElem_toArray, List.getElem_cons_zero, List.getElem_cons_succ, List.setIfInBounds_toArray, List.set_cons_zero, List.set_cons_succ]
          refine kr_find 14 rfl (by kernel_rfl) (by kernel_rfl) (by kernel_rfl) (fun _ _ _ _ h => h) (by rfl) (show _ from HB8.out _ (Fr.refl _ w8).drew 0 _ rfl) ?_
          apply Exists.intro; apply And.intro
          · intro w' hS K hK
            have hS : w'.cell? ⟨bo, 0, none⟩ = some (.bool true) := hS
            go_light
            go_simp
            exact hK.out
          try simp only [Act.put, List.getElem_toArray, List.getElem_cons_zero, List.getElem_cons_succ, List.setIfInBounds_toArray, List.set_cons_zero, List.set_cons_succ]
          refine kr_find 15 rfl (by kernel_rfl) (by kernel_rfl) (by kernel_rfl) (fun _ _ _ _ h => h) (by rfl) trivial ?_
          apply Exists.intro; apply And.intro
          · intro w' hS K hK
            clear hS
            go_light
            go_simp
            exact hK.out
          try simp only [Act.put, List.getElem_toArray, List.getElem_cons_zero, List.getElem_cons_succ, List.setIfInBounds_toArray, List.set_cons_zero, List.set_cons_succ]
          refine kr_find 16 rfl (by kernel_rfl) (by kernel_rfl) (by kernel_rfl) (fun _ _ _ _ h => h) (by rfl) trivial ?_
          apply Exists.intro; apply And.intro
          · intro w' hS K hK
            clear hS
            go_light
            go_simp
            exact hK.out
          try simp only [Act.put, List.getElem_toArray, List.getElem_cons_zero, List.getElem_cons_succ, List.setIfInBounds_toArray, List.set_cons_zero, List.set_cons_succ]
          refine kr_take 17 rfl (by kernel_rfl) (by kernel_rfl) (by kernel_rfl) (fun _ _ _ h => h) (kr_not (by rfl)) trivial ?_
          try simp only [Act.put, List.getElem_toArray, List.getElem_cons_zero, List.getElem_cons_succ, List.setIfInBounds_toArray, List.set_cons_zero, List.set_cons_succ]
          refine kr_take 18 rfl (by kernel_rfl) (by kernel_rfl) (by kernel_rfl) (fun _ _ _ h => h) (kr_not (by rfl)) trivial ?_
          try simp only [Act.put, List.getElem_toArray, List.getElem_cons_zero, List.getElem_cons_succ, List.setIfInBounds_toArray, List.set_cons_zero, List.set_cons_succ]
          refine kr_take 19 rfl (by kernel_rfl) (by kernel_rfl) (by kernel_rfl) (fun _ _ _ h => h) (kr_not (by rfl)) trivial ?_
          try simp only [Act.put, List.getElem_toArray, List.getElem_cons_zero, List.getElem_cons_succ, List.setIfInBounds_toArray, List.set_cons_zero, List.set_cons_succ]
          refine kr_take 20 rfl (by kernel_rfl) (by kernel_rfl) (by kernel_rfl) (fun _ _ _ h => h) (kr_not (by rfl)) trivial ?_
          try simp only [Act.put, List.getElem_toArray, List.getElem_cons_zero, List.getElem_cons_succ, List.setIfInBounds_toArray, List.set_cons_zero, List.set_cons_succ]
          refine kr_take 21 rfl (by kernel_rfl) (by kernel_rfl) (by kernel_rfl) (fun _ _ _ h => h) (kr_not (by rfl)) trivial ?_
          try simp only [Act.put, List.getElem_toArray, List.getElem_cons_zero, List.getElem_cons_succ, List.setIfInBounds_toArray, List.set_cons_zero, List.set_cons_succ]
          refine kr_take 22 rfl (by kernel_rfl) (by kernel_rfl) (by kernel_rfl) (fun _ _ _ h => h) (kr_not (by rfl)) trivial ?_
          try simp only [Act.put, List.getElem_toArray, List.getElem_cons_zero, List.getElem_cons_succ, List.setIfInBounds_toArray, List.set_cons_zero, List.set_cons_succ]
          refine kr_take 23 rfl (by kernel_rfl) (by kernel_rfl) (by kernel_rfl) (fun _ _ _ h => h) (kr_not (by rfl)) trivial ?_
          try simp only [Act.put, List.getElem_toArray, List.getElem_cons_zero, List.getElem_cons_succ, List.setIfInBounds_toArray, List.set_cons_zero, List.set_cons_succ]
          refine kr_take 24 rfl (by kernel_rfl) (by kernel_rfl) (by kernel_rfl) (fun _ _ _ h => h) (kr_not (by rfl)) trivial ?_
          try simp only [Act.put, List.getElem_toArray, List.getElem_cons_zero, List.getElem_cons_succ, List.setIfInBounds_toArray, List.set_cons_zero, List.set_cons_succ]
          refine kr_take 25 rfl (by kernel_rfl) (by kernel_rfl) (by kernel_rfl) (fun _ _ _ h => h) (kr_not (by rfl)) trivial ?_
          try simp only [Act.put, List.getElem_toArray, List.getElem_cons_zero, List.getElem_cons_succ, List.setIfInBounds_toArray, List.set_cons_zero, List.set_cons_succ]
          refine kr_take 26 rfl (by kernel_rfl) (by kernel_rfl) (by kernel_rfl) (fun _ _ _ h => h) (kr_not (by rfl)) trivial ?_
          try simp only [Act.put, List.getElem_toArray, List.getElem_cons_zero, List.getElem_cons_succ, List.setIfInBounds_toArray, List.set_cons_zero, List.set_cons_succ]
          refine kr_take 27 rfl (by kernel_rfl) (by kernel_rfl) (by kernel_rfl) (fun _ _ _ h => h) (kr_not (by rfl)) trivial ?_
          try simp only [Act.put, List.getElem_toArray, List.getElem_cons_zero, List.getElem_cons_succ, List.setIfInBounds_toArray, List.set_cons_zero, List.set_cons_succ]
          refine kr_take 28 rfl (by kernel_rfl) (by kernel_rfl) (by kernel_rfl) (fun _ _ _ h => h) (kr_not (by rfl)) trivial ?_
          try simp only [Act.put, List.getElem_toArray, List.getElem_cons_zero, List.getElem_cons_succ, List.setIfInBounds_toArray, List.set_cons_zero, List.set_cons_succ]
          refine kr_take 29 rfl (by kernel_rfl) (by kernel_rfl) (by kernel_rfl) (fun _ _ _ h => h) (kr_not (by rfl)) trivial ?_
          try simp only [Act.put, List.getElem_toArray, List.getElem_cons_zero, List.getElem_cons_succ, List.setIfInBounds_toArray, List.set_cons_zero, List.set_cons_succ]
          refine kr_take 30 rfl (by kernel_rfl) (by kernel_rfl) (by kernel_rfl) (fun _ _ _ h => h) (kr_not (by rfl)) trivial ?_
          try simp only [Act.put, List.getElem_toArray, List.getElem_cons_zero, List.getElem_cons_succ, List.setIfInBounds_toArray, List.set_cons_zero, List.set_cons_succ]
          refine kr_take 31 rfl (by kernel_rfl) (by kernel_rfl) (by kernel_rfl) (fun _ _ _ h => h) (kr_not (by rfl)) trivial ?_
          try simp only [Act.put, List.getElem_toArray, List.getElem_cons_zero, List.getElem_cons_succ, List.setIfInBounds_toArray, List.set_cons_zero, List.set_cons_succ]
          refine kr_take 32 rfl (by kernel_rfl) (by kernel_rfl) (by kernel_rfl) (fun _ _ _ h => h) (kr_not (by rfl)) trivial ?_
          try simp only [Act.put, List.getElem_toArray, List.getElem_cons_zero, List.getElem_cons_succ, List.setIfInBounds_toArray, List.set_cons_zero, List.set_cons_succ]
          refine kr_take 33 rfl (by kernel_rfl) (by kernel_rfl) (by kernel_rfl) (fun _ _ _ h => h) (kr_not (by rfl)) trivial ?_
          try simp only [Act.put, List.getElem_toArray, List.getElem_cons_zero, List.getElem_cons_succ, List.setIfInBounds_toArray, List.set_cons_zero, List.set_cons_succ]
          refine kr_take 34 rfl (by kernel_rfl) (by kernel_rfl) (by kernel_rfl) (fun _ _ _ h => h) (kr_not (by rfl)) trivial ?_
          try simp only [Act.put, List.getElem_toArray, List.getElem_cons_zero, List.getElem_cons_succ, List.setIfInBounds_toArray, List.set_cons_zero, List.set_cons_succ]
          refine kr_take 35 rfl (by kernel_rfl) (by kernel_rfl) (by kernel_rfl) (fun _ _ _ h => h) (kr_not (by rfl)) trivial ?_
          try simp only [Act.put, List.getElem_toArray, List.getElem_cons_zero, List.getElem_cons_succ, List.setIfInBounds_toArray, List.set_cons_zero, List.set_cons_succ]
          refine kr_take 36 rfl (by kernel_rfl) (by kernel_rfl) (by kernel_rfl) (fun _ _ _ h => h) (kr_not (by rfl)) trivial ?_
          try simp only [Act.put, List.getElem_toArray, List.getElem_cons_zero, List.getElem_cons_succ, List.setIfInBounds_toArray, List.set_cons_zero, List.set_cons_succ]
          refine kr_take 37 rfl (by kernel_rfl) (by kernel_rfl) (by kernel_rfl) (fun _ _ _ h => h) (kr_not (by rfl)) trivial ?_
          try simp only [Act.put, List.getElem_toArray, List.getElem_cons_zero, List.getElem_cons_succ, List.setIfInBounds_toArray, List.set_cons_zero, List.set_cons_succ]
          refine kr_take 38 rfl (by kernel_rfl) (by kernel_rfl) (by kernel_rfl) (fun _ _ _ h => h) (kr_not (by rfl)) trivial ?_
          try simp only [Act.put, List.getElem_toArray, List.getElem_cons_zero, List.getElem_cons_succ, List.setIfInBounds_toArray, List.set_cons_zero, List.set_cons_succ]
          refine kr_take 39 rfl (by kernel_rfl) (by kernel_rfl) (by kernel_rfl) (fun _ _ _ h => h) (kr_not (by rfl)) trivial ?_
          try simp only [Act.put, List.getElem_toArray, List.getElem_cons_zero, List.getElem_cons_succ, List.setIfInBounds_toArray, List.set_cons_zero, List.set_cons_succ]
          refine kr_take 40 rfl (by kernel_rfl) (by kernel_rfl) (by kernel_rfl) (fun _ _ _ h => h) (kr_not (by rfl)) trivial ?_
          try simp only [Act.put, List.getElem_toArray, List.getElem_cons_zero, List.getElem_cons_succ, List.setIfInBounds_toArray, List.set_cons_zero, List.set_cons_succ]
          refine kr_take 41 rfl (by kernel_rfl) (by kernel_rfl) (by kernel_rfl) (fun _ _ _ h => h) (kr_not (by rfl)) trivial ?_
          try simp only [Act.put, List.getElem_toArray, List.getElem_cons_zero, List.getElem_cons_succ, List.setIfInBounds_toArray, List.set_cons_zero, List.set_cons_succ]
          refine kr_take 42 rfl (by kernel_rfl) (by kernel_rfl) (by kernel_rfl) (fun _ _ _ h => h) (kr_not (by rfl)) trivial ?_
          try simp only [Act.put, List.getElem_toArray, List.getElem_cons_zero, List.getElem_cons_succ, List.setIfInBounds_toArray, List.set_cons_zero, List.set_cons_succ]
          refine kr_take 43 rfl (by kernel_rfl) (by kernel_rfl) (by kernel_rfl) (fun _ _ _ h => h) (kr_not (by rfl)) trivial ?_
          try simp only [Act.put, List.getElem_toArray, List.getElem_cons_zero, List.getElem_cons_succ, List.setIfInBounds_toArray, List.set_cons_zero, List.set_cons_succ]
          refine kr_take 44 rfl (by kernel_rfl) (by kernel_rfl) (by kernel_rfl) (fun _ _ _ h => h) (kr_not (by rfl)) trivial ?_
          try simp only [Act.put, List.getElem_toArray, List.getElem_cons_zero, List.getElem_cons_succ, List.setIfInBounds_toArray, List.set_cons_zero, List.set_cons_succ]
          refine kr_take 45 rfl (by kernel_rfl) (by kernel_rfl) (by kernel_rfl) (fun _ _ _ h => h) (kr_not (by rfl)) trivial ?_
          try simp only [Act.put, List.getElem_toArray, List.getElem_cons_zero, List.getElem_cons_succ, List.setIfInBounds_toArray, List.set_cons_zero, List.set_cons_succ]
          refine kr_take 46 rfl (by kernel_rfl) (by kernel_rfl) (by kernel_rfl) (fun _ _ _ h => h) (kr_not (by rfl)) trivial ?_
          try simp only [Act.put, List.getElem_toArray, List.getElem_cons_zero, List.getElem_cons_succ, List.setIfInBounds_toArray, List.set_cons_zero, List.set_cons_succ]
          refine kr_take 47 rfl (by kernel_rfl) (by kernel_rfl) (by kernel_rfl) (fun _ _ _ h => h) (kr_not (by rfl)) trivial ?_
          try simp only [Act.put, List.getElem_toArray, List.getElem_cons_zero, List.getElem_cons_succ, List.setIfInBounds_toArray, List.set_cons_zero, List.set_cons_succ]
          refine kr_take 48 rfl (by kernel_rfl) (by kernel_rfl) (by kernel_rfl) (fun _ _ _ h => h) (kr_not (by rfl)) trivial ?_
          try simp only [Act.put, List.getElem_toArray, List.getElem_cons_zero, List.getElem_cons_succ, List.setIfInBounds_toArray, List.set_cons_zero, List.set_cons_succ]
          refine kr_take 49 rfl (by kernel_rfl) (by kernel_rfl) (by kernel_rfl) (fun _ _ _ h => h) (kr_not (by rfl)) trivial ?_
          try simp only [Act.put, List.getElem_toArray, List.getElem_cons_zero, List.getElem_cons_succ, List.setIfInBounds_toArray, List.set_cons_zero, List.set_cons_succ]
          refine kr_take 50 rfl (by kernel_rfl) (by kernel_rfl) (by kernel_rfl) (fun _ _ _ h => h) (kr_not (by rfl)) trivial ?_
          try simp only [Act.put, List.getElem_toArray, List.getElem_cons_zero, List.getElem_cons_succ, List.setIfInBounds_toArray, List.set_cons_zero, List.set_cons_succ]
          refine kr_take 51 rfl (by kernel_rfl) (by kernel_rfl) (by kernel_rfl) (fun _ _ _ h => h) (kr_not (by rfl)) trivial ?_
          try simp only [Act.put, List.getElem_toArray, List.getElem_cons_zero, List.getElem_cons_succ, List.setIfInBounds_toArray, List.set_cons_zero, List.set_cons_succ]
          refine kr_take 52 rfl (by kernel_rfl) (by kernel_rfl) (by kernel_rfl) (fun _ _ _ h => h) (kr_not (by rfl)) trivial ?_
          try simp only [Act.put, List.getElem_toArray, List.getElem_cons_zero, List.getElem_cons_succ, List.setIfInBounds_toArray, List.set_cons_zero, List.set_cons_succ]
          refine kr_take 53 rfl (by kernel_rfl) (by kernel_rfl) (by kernel_rfl) (fun _ _ _ h => h) (kr_not (by rfl)) trivial ?_
          try simp only [Act.put, List.getElem_toArray, List.getElem_cons_zero, List.getElem_cons_succ, List.setIfInBounds_toArray, List.set_cons_zero, List.set_cons_succ]
          refine kr_take 54 rfl (by kernel_rfl) (by kernel_rfl) (by kernel_rfl) (fun _ _ _ h => h) (kr_not (by rfl)) trivial ?_
          try simp only [Act.put, List.getElem_toArray, List.getElem_cons_zero, List.getElem_cons_succ, List.setIfInBounds_toArray, List.set_cons_zero, List.set_cons_succ]
          refine kr_take 55 rfl (by kernel_rfl) (by kernel_rfl) (by kernel_rfl) (fun _ _ _ h => h) (kr_not (by rfl)) trivial ?_
          try simp only [Act.put, List.getElem_toArray, List.getElem_cons_zero, List.getElem_cons_succ, List.setIfInBounds_toArray, List.set_cons_zero, List.set_cons_succ]
          refine kr_take 56 rfl (by kernel_rfl) (by kernel_rfl) (by kernel_rfl) (fun _ _ _ h => h) (kr_not (by rfl)) trivial ?_
          try simp only [Act.put, List.getElem_toArray, List.getElem_cons_zero, List.getElem_cons_succ, List.setIfInBounds_toArray, List.set_cons_zero, List.set_cons_succ]
          refine kr_take 57 rfl (by kernel_rfl) (by kernel_rfl) (by kernel_rfl) (fun _ _ _ h => h) (kr_not (by rfl)) trivial ?_
          try simp only [Act.put, List.getElem_toArray, List.getElem_cons_zero, List.getElem_cons_succ, List.setIfInBounds_toArray, List.set_cons_zero, List.set_cons_succ]
          refine kr_take 58 rfl (by kernel_rfl) (by kernel_rfl) (by kernel_rfl) (fun _ _ _ h => h) (kr_not (by rfl)) trivial ?_
          try simp only [Act.put, List.getElem_toArray, List.getElem_cons_zero, List.getElem_cons_succ, List.setIfInBounds_toArray, List.set_cons_zero, List.set_cons_succ]
          refine kr_take 59 rfl (by kernel_rfl) (by kernel_rfl) (by kernel_rfl) (fun _ _ _ h => h) (kr_not (by rfl)) trivial ?_
          try simp only [Act.put, List.getElem_toArray, List.getElem_cons_zero, List.getElem_cons_succ, List.setIfInBounds_toArray, List.set_cons_zero, List.set_cons_succ]
          refine kr_take 60 rfl (by kernel_rfl) (by kernel_rfl) (by kernel_rfl) (fun _ _ _ h => h) (kr_not (by rfl)) trivial ?_
          try simp only [Act.put, List.getElem_toArray, List.getElem_cons_zero, List.getElem_cons_succ, List.setIfInBounds_toArray, List.set_cons_zero, List.set_cons_succ]
          refine kr_find 61 rfl (by kernel_rfl) (by kernel_rfl) (by kernel_rfl) (fun _ _ _ _ h => h) (by rfl) trivial ?_
          apply Exists.intro; apply And.intro
          · intro w' hS K hK
            clear hS
            go_light
            go_simp
            exact hK.out
          try simp only [Act.put, List.getElem_toArray, List.getElem_cons_zero, List.getElem_cons_succ, List.setIfInBounds_toArray, List.set_cons_zero, List.set_cons_succ]
          refine kr_find 62 rfl (by kernel_rfl) (by kernel_rfl) (by kernel_rfl) (fun _ _ _ _ h => h) (by rfl) trivial ?_
          apply Exists.intro; apply And.intro
          · intro w' hS K hK
            clear hS
            go_light
            go_simp
            exact hK.out
          try simp only [Act.put, List.getElem_toArray, List.getElem_cons_zero, List.getElem_cons_succ, List.setIfInBounds_toArray, List.set_cons_zero, List.set_cons_succ]
          refine kr_done (by kernel_rfl) ?_ _
          go_wp2_with fail
          go_meet
          exact ⟨rfl, (Fr.refl _ w8).drew⟩
        | false =>
          have hs := HA2'.out han
          have HV8a := Lib.hid hs
          obtain ⟨bv, ov, cv, hv, _, _, hcv, _, _, _⟩ := hs.form1 (by decide)
          subst hv
          have HV8 := Lib.hid (fun (w' : World) (f : Fr (fun _ => False) w8 w') => show w'.rangeAt bv ov (Rq.cells ⟨true, m2, q1, x.a.sm, ⟨10, 0, 0, 2 + (k : Int)⟩⟩) from by
            obtain ⟨b', o', c', hv', _, _, _, _, hc', _⟩ := (HV8a.out.fr0 f).form1 (by decide)
            injection hv' with e1 _ _
            injection e1 with e1
            injection e1 with e1 e2
            subst e1; subst e2
            exact fun j v hj => hc' j v hj)
          have HNM := Lib.hid (neqM HSMO.out)
          have HN2 := Lib.hid neq_m2
          have HNK := Lib.hid (neq_ip hk7)
          have HN1 := Lib.hid neq_q1
          clear hs
          as_aux_lemma =>
          refine kr_start [(5, fun W => W.cell? ⟨bo, 0, none⟩ = some (.bool false)), (14, fun W => W.cell? ⟨bo, 0, none⟩ = some (.bool false)), (24, fun W => W.cell? ⟨bv, ov, none⟩ = some (.bool true)), (31, fun W => W.rangeAt bv (ov + 11) [.int .u8 x.a.sm.a, .int .u8 x.a.sm.b, .int .u8 x.a.sm.c, .int .u8 x.a.sm.d, .int .u8 x.a.sm.e, .int .u8 x.a.sm.f]), (33, fun W => W.rangeAt bo 1 [.int .u8 x.a.sm.a, .int .u8 x.a.sm.b, .int .u8 x.a.sm.c, .int .u8 x.a.sm.d, .int .u8 x.a.sm.e, .int .u8 x.a.sm.f]), (40, fun W => W.rangeAt bv (ov + 17) [.int .u8 10, .int .u8 0, .int .u8 0, .int .u8 (2 + (k : Int))]), (42, fun W => W.rangeAt bo 7 [.int .u8 10, .int .u8 0, .int .u8 0, .int .u8 (2 + (k : Int))]), (49, fun W => W.rangeAt bv (ov + 1) [.int .u8 2, .int .u8 0, .int .u8 0, .int .u8 0, .int .u8 0, .int .u8 0]), (57, fun W => W.rangeAt bv (ov + 7) [.int .u8 10, .int .u8 0, .int .u8 0, .int .u8 1])] (by kernel_rfl) (by kernel_rfl) ?_
          refine kr_find 0 rfl (by kernel_rfl) (by kernel_rfl) (by kernel_rfl) (fun _ _ _ _ h => h) (by rfl) trivial ?_
          apply Exists.intro; apply And.intro
          · intro w' hS K hK
            clear hS
            go_light
            go_simp
            exact hK.out
          try simp only [Act.put, List.getElem_toArray, List.getElem_cons_zero, List.getElem_cons_succ, List.setIfInBounds_toArray, List.set_cons_zero, List.set_cons_succ]
          refine kr_find 1 rfl (by kernel_rfl) (by kernel_rfl) (by kernel_rfl) (fun _ _ _ _ h => h) (by rfl) trivial ?_
          apply Exists.intro; apply And.intro
          · intro w' hS K hK
            clear hS
            go_light
            go_simp
            exact hK.out
          try simp only [Act.put, List.getElem_toArray, List.getElem_cons_zero, List.getElem_cons_succ, List.setIfInBounds_toArray, List.set_cons_zero, List.set_cons_succ]
          refine kr_find 2 rfl (by kernel_rfl) (by kernel_rfl) (by kernel_rfl) (fun _ _ _ _ h => h) (by rfl) trivial ?_
          apply Exists.intro; apply And.intro
          · intro w' hS K hK
            clear hS
            go_light
            go_simp
            exact hK.out
          try simp only [Act.put, List.getElem_toArray, List.getElem_cons_zero, List.getElem_cons_succ, List.setIfInBounds_toArray, List.set_cons_zero, List.set_cons_succ]
          refine kr_find 3 rfl (by kernel_rfl) (by kernel_rfl) (by kernel_rfl) (fun _ _ _ _ h => h) (by rfl) trivial ?_
          apply Exists.intro; apply And.intro
          · intro w' hS K hK
            clear hS
            go_light
            go_simp
            exact hK.out
          try simp only [Act.put, List.getElem_toArray, List.getElem_cons_zero, List.getElem_cons_succ, List.setIfInBounds_toArray, List.set_cons_zero, List.set_cons_succ]
          refine kr_find 4 rfl (by kernel_rfl) (by kernel_rfl) (by kernel_rfl) (fun _ _ _ _ h => h) (by rfl) trivial ?_
          apply Exists.intro; apply And.intro
          · intro w' hS K hK
            clear hS
            go_light
            go_simp
            exact hK.out
          try simp only [Act.put, List.getElem_toArray, List.getElem_cons_zero, List.getElem_cons_succ, List.setIfInBounds_toArray, List.set_cons_zero, List.set_cons_succ]
          refine kr_find 5 rfl (by kernel_rfl) (by kernel_rfl) (by kernel_rfl) (fun _ _ _ _ h => h) (by rfl) (show _ from HB8.out _ (Fr.refl _ w8).drew 0 _ rfl) ?_
          apply Exists.intro; apply And.intro
          · intro w' hS K hK
            have hS : w'.cell? ⟨bo, 0, none⟩ = some (.bool false) := hS
            go_light
            go_simp
            exact hK.out
          try simp only [Act.put, List.getElem_toArray, List.getElem_cons_zero, List.getElem_cons_succ, List.setIfInBounds_toArray, List.set_cons_zero, List.set_cons_succ]
          refine kr_find 6 rfl (by kernel_rfl) (by kernel_rfl) (by kernel_rfl) (fun _ _ _ _ h => h) (by rfl) trivial ?_
          apply Exists.intro; apply And.intro
          · intro w' hS K hK
            clear hS
            go_light
            go_simp
            exact hK.out
          try simp only [Act.put, List.getElem_toArray, List.getElem_cons_zero, List.getElem_cons_succ, List.setIfInBounds_toArray, List.set_cons_zero, List.set_cons_succ]
          refine kr_take 7 rfl (by kernel_rfl) (by kernel_rfl) (by kernel_rfl) (fun _ _ _ h => h) (kr_not (by rfl)) trivial ?_
          try simp only [Act.put, List.getElem_toArray, List.getElem_cons_zero, List.getElem_cons_succ, List.setIfInBounds_toArray, List.set_cons_zero, List.set_cons_succ]
          refine kr_take 8 rfl (by kernel_rfl) (by kernel_rfl) (by kernel_rfl) (fun _ _ _ h => h) (kr_not (by rfl)) trivial ?_
          try simp only [Act.put, List.getElem_toArray, List.getElem_cons_zero, List.getElem_cons_succ, List.setIfInBounds_toArray, List.set_cons_zero, List.set_cons_succ]
          refine kr_take 9 rfl (by kernel_rfl) (by kernel_rfl) (by kernel_rfl) (fun _ _ _ h => h) (kr_not (by rfl)) trivial ?_
          try simp only [Act.put, List.getElem_toArray, List.getElem_cons_zero, List.getElem_cons_succ, List.setIfInBounds_toArray, List.set_cons_zero, List.set_cons_succ]
          refine kr_find 10 rfl (by kernel_rfl) (by kernel_rfl) (by kernel_rfl) (fun _ _ _ _ h => h) (by rfl) trivial ?_
          apply Exists.intro; apply And.intro
          · intro w' hS K hK
            clear hS
            go_light
            go_simp
            exact hK.out
          try simp only [Act.put, List.getElem_toArray, List.getElem_cons_zero, List.getElem_cons_succ, List.setIfInBounds_toArray, List.set_cons_zero, List.set_cons_succ]
          refine kr_find 11 rfl (by kernel_rfl) (by kernel_rfl) (by kernel_rfl) (fun _ _ _ _ h => h) (by rfl) trivial ?_
          apply Exists.intro; apply And.intro
          · intro w' hS K hK
            clear hS
            go_light
            go_simp
            exact hK.out
          try simp only [Act.put, List.getElem_toArray, List.getElem_cons_zero, List.getElem_cons_succ, List.setIfInBounds_toArray, List.set_cons_zero, List.set_cons_succ]
          refine kr_find 12 rfl (by kernel_rfl) (by kernel_rfl) (by kernel_rfl) (fun _ _ _ _ h => h) (by rfl) trivial ?_
          apply Exists.intro; apply And.intro
          · intro w' hS K hK
            clear hS
            go_light
            go_simp
            exact hK.out
          try simp only [Act.put, List.getElem_toArray, List.getElem_cons_zero, List.getElem_cons_succ, List.setIfInBounds_toArray, List.set_cons_zero, List.set_cons_succ]
          refine kr_find 13 rfl (by kernel_rfl) (by kernel_rfl) (by kernel_rfl) (fun _ _ _ _ h => h) (by rfl) trivial ?_
          apply Exists.intro; apply And.intro
          · intro w' hS K hK
            clear hS
            go_light
            go_simp
            exact hK.out
          try simp only [Act.put, List.getElem_toArray, List.getElem_cons_zero, List.getElem_cons_succ, List.setIfInBounds_toArray, List.set_cons_zero, List.set_cons_succ]
          refine kr_find 14 rfl (by kernel_rfl) (by kernel_rfl) (by kernel_rfl) (fun _ _ _ _ h => h) (by rfl) (show _ from HB8.out _ (Fr.refl _ w8).drew 0 _ rfl) ?_
          apply Exists.intro; apply And.intro
          · intro w' hS K hK
            have hS : w'.cell? ⟨bo, 0, none⟩ = some (.bool false) := hS
            go_light
            go_simp
            exact hK.out
          try simp only [Act.put, List.getElem_toArray, List.getElem_cons_zero, List.getElem_cons_succ, List.setIfInBounds_toArray, List.set_cons_zero, List.set_cons_succ]
          refine kr_find 15 rfl (by kernel_rfl) (by kernel_rfl) (by kernel_rfl) (fun _ _ _ _ h => h) (by rfl) trivial ?_
          apply Exists.intro; apply And.intro
          · intro w' hS K hK
            clear hS
            go_light
            go_simp
            exact hK.out
          try simp only [Act.put, List.getElem_toArray, List.getElem_cons_zero, List.getElem_cons_succ, List.setIfInBounds_toArray, List.set_cons_zero, List.set_cons_succ]
          refine kr_find 16 rfl (by kernel_rfl) (by kernel_rfl) (by kernel_rfl) (fun _ _ _ _ h => h) (by rfl) trivial ?_
          apply Exists.intro; apply And.intro
          · intro w' hS K hK
            clear hS
            go_light
            go_simp
            exact hK.out
          try simp only [Act.put, List.getElem_toArray, List.getElem_cons_zero, List.getElem_cons_succ, List.setIfInBounds_toArray, List.set_cons_zero, List.set_cons_succ]
          refine kr_find 17 rfl (by kernel_rfl) (by kernel_rfl) (by kernel_rfl) (fun _ _ _ _ h => h) (by rfl) trivial ?_
          apply Exists.intro; apply And.intro
          · intro w' hS K hK
            clear hS
            go_light
            go_simp
            exact hK.out
          try simp only [Act.put, List.getElem_toArray, List.getElem_cons_zero, List.getElem_cons_succ, List.setIfInBounds_toArray, List.set_cons_zero, List.set_cons_succ]
          refine kr_find 18 rfl (by kernel_rfl) (by kernel_rfl) (by kernel_rfl) (fun _ _ _ _ h => h) (by rfl) trivial ?_
          apply Exists.intro; apply And.intro
          · intro w' hS K hK
            clear hS
            go_light
            go_simp
            exact hK.out
          try simp only [Act.put, List.getElem_toArray, List.getElem_cons_zero, List.getElem_cons_succ, List.setIfInBounds_toArray, List.set_cons_zero, List.set_cons_succ]
          refine kr_find 19 rfl (by kernel_rfl) (by kernel_rfl) (by kernel_rfl) (fun _ _ _ _ h => h) (by rfl) trivial ?_
          apply Exists.intro; apply And.intro
          · intro w' hS K hK
            clear hS
            go_light
            go_simp
            exact hK.out
          try simp only [Act.put, List.getElem_toArray, List.getElem_cons_zero, List.getElem_cons_succ, List.setIfInBounds_toArray, List.set_cons_zero, List.set_cons_succ]
          refine kr_find 20 rfl (by kernel_rfl) (by kernel_rfl) (by kernel_rfl) (fun _ _ _ _ h => h) (by rfl) trivial ?_
          apply Exists.intro; apply And.intro
          · intro w' hS K hK
            clear hS
            go_light
            go_simp
            exact hK.out
          try simp only [Act.put, List.getElem_toArray, List.getElem_cons_zero, List.getElem_cons_succ, List.setIfInBounds_toArray, List.set_cons_zero, List.set_cons_succ]
          refine kr_find 21 rfl (by kernel_rfl) (by kernel_rfl) (by kernel_rfl) (fun _ _ _ _ h => h) (by rfl) trivial ?_
          apply Exists.intro; apply And.intro
          · intro w' hS K hK
            clear hS
            go_light
            go_simp
            exact hK.out
          try simp only [Act.put, List.getElem_toArray, List.getElem_cons_zero, List.getElem_cons_succ, List.setIfInBounds_toArray, List.set_cons_zero, List.set_cons_succ]
          refine kr_find 22 rfl (by kernel_rfl) (by kernel_rfl) (by kernel_rfl) (fun _ _ _ _ h => h) (by rfl) trivial ?_
          apply Exists.intro; apply And.intro
          · intro w' hS K hK
            clear hS
            go_light
            go_simp
            exact hK.out
          try simp only [Act.put, List.getElem_toArray, List.getElem_cons_zero, List.getElem_cons_succ, List.setIfInBounds_toArray, List.set_cons_zero, List.set_cons_succ]
          refine kr_find 23 rfl (by kernel_rfl) (by kernel_rfl) (by kernel_rfl) (fun _ _ _ _ h => h) (by rfl) trivial ?_
          apply Exists.intro; apply And.intro
          · intro w' hS K hK
            clear hS
            go_light
            go_simp
            exact hK.out
          try simp only [Act.put, List.getElem_toArray, List.getElem_cons_zero, List.getElem_cons_succ, List.setIfInBounds_toArray, List.set_cons_zero, List.set_cons_succ]
          refine kr_find 24 rfl (by kernel_rfl) (by kernel_rfl) (by kernel_rfl) (fun _ _ _ _ h => h) (by rfl) (show _ from HV8.out _ (Fr.refl _ w8).drew 0 _ rfl) ?_
          apply Exists.intro; apply And.intro
          · intro w' hS K hK
            have hS : w'.cell? ⟨bv, ov, none⟩ = some (.bool true) := hS
            go_light
            go_simp
            exact hK.out
          try simp only [Act.put, List.getElem_toArray, List.getElem_cons_zero, List.getElem_cons_succ, List.setIfInBounds_toArray, List.set_cons_zero, List.set_cons_succ]
          refine kr_find 25 rfl (by kernel_rfl) (by kernel_rfl) (by kernel_rfl) (fun _ _ _ _ h => h) (by rfl) trivial ?_
          apply Exists.intro; apply And.intro
          · intro w' hS K hK
            clear hS
            go_light
            go_simp
            exact hK.out
          try simp only [Act.put, List.getElem_toArray, List.getElem_cons_zero, List.getElem_cons_succ, List.setIfInBounds_toArray, List.set_cons_zero, List.set_cons_succ]
          refine kr_find 26 rfl (by kernel_rfl) (by kernel_rfl) (by kernel_rfl) (fun _ _ _ _ h => h) (by rfl) trivial ?_
          apply Exists.intro; apply And.intro
          · intro w' hS K hK
            clear hS
            go_light
            go_simp
            exact hK.out
          try simp only [Act.put, List.getElem_toArray, List.getElem_cons_zero, List.getElem_cons_succ, List.setIfInBounds_toArray, List.set_cons_zero, List.set_cons_succ]
          refine kr_find 27 rfl (by kernel_rfl) (by kernel_rfl) (by kernel_rfl) (fun _ _ _ _ h => h) (by rfl) trivial ?_
          apply Exists.intro; apply And.intro
          · intro w' hS K hK
            clear hS
            go_light
            go_simp
            exact hK.out
          try simp only [Act.put, List.getElem_toArray, List.getElem_cons_zero, List.getElem_cons_succ, List.setIfInBounds_toArray, List.set_cons_zero, List.set_cons_succ]
          refine kr_find 28 rfl (by kernel_rfl) (by kernel_rfl) (by kernel_rfl) (fun _ _ _ _ h => h) (by rfl) trivial ?_
          apply Exists.intro; apply And.intro
          · intro w' hS K hK
            clear hS
            go_light
            go_simp
            exact hK.out
          try simp only [Act.put, List.getElem_toArray, List.getElem_cons_zero, List.getElem_cons_succ, List.setIfInBounds_toArray, List.set_cons_zero, List.set_cons_succ]
          refine kr_find 29 rfl (by kernel_rfl) (by kernel_rfl) (by kernel_rfl) (fun _ _ _ _ h => h) (by rfl) trivial ?_
          apply Exists.intro; apply And.intro
          · intro w' hS K hK
            clear hS
            go_light
            go_simp
            exact hK.out
          try simp only [Act.put, List.getElem_toArray, List.getElem_cons_zero, List.getElem_cons_succ, List.setIfInBounds_toArray, List.set_cons_zero, List.set_cons_succ]
          refine kr_find 30 rfl (by kernel_rfl) (by kernel_rfl) (by kernel_rfl) (fun _ _ _ _ h => h) (by rfl) trivial ?_
          apply Exists.intro; apply And.intro
          · intro w' hS K hK
            clear hS
            go_light
            go_simp
            exact hK.out
          try simp only [Act.put, List.getElem_toArray, List.getElem_cons_zero, List.getElem_cons_succ, List.setIfInBounds_toArray, List.set_cons_zero, List.set_cons_succ]
          refine kr_take 31 rfl (by kernel_rfl) (by kernel_rfl) (by kernel_rfl) (fun _ _ _ h => h) (yieldsIf_load_mid (by rfl) 27 _ rfl (bv) (ov + 11) rfl ([.int .u8 x.a.sm.a, .int .u8 x.a.sm.b, .int .u8 x.a.sm.c, .int .u8 x.a.sm.d, .int .u8 x.a.sm.e, .int .u8 x.a.sm.f]) _ (fun _ h => h) Try.underlying27 rfl (by kernel_rfl)) (show _ from range_part (HV8.out _ (Fr.refl _ w8).drew) 11 6) ?_
          try simp only [Act.put, List.getElem_toArray, List.getElem_cons_zero, List.getElem_cons_succ, List.setIfInBounds_toArray, List.set_cons_zero, List.set_cons_succ]
          refine kr_find 32 rfl (by kernel_rfl) (by kernel_rfl) (by kernel_rfl) (fun _ _ _ _ h => h) (by rfl) trivial ?_
          apply Exists.intro; apply And.intro
          · intro w' hS K hK
            clear hS
            go_light
            go_simp
            exact hK.out
          try simp only [Act.put, List.getElem_toArray, List.getElem_cons_zero, List.getElem_cons_succ, List.setIfInBounds_toArray, List.set_cons_zero, List.set_cons_succ]
          refine kr_take 33 rfl (by kernel_rfl) (by kernel_rfl) (by kernel_rfl) (fun _ _ _ h => h) (yieldsIf_load_mid (by rfl) 27 _ rfl (bo) (1) rfl ([.int .u8 x.a.sm.a, .int .u8 x.a.sm.b, .int .u8 x.a.sm.c, .int .u8 x.a.sm.d, .int .u8 x.a.sm.e, .int .u8 x.a.sm.f]) _ (fun _ h => h) Try.underlying27 rfl (by kernel_rfl)) (show _ from range_part (HB8.out _ (Fr.refl _ w8).drew) 1 6) ?_
          try simp only [Act.put, List.getElem_toArray, List.getElem_cons_zero, List.getElem_cons_succ, List.setIfInBounds_toArray, List.set_cons_zero, List.set_cons_succ]
          refine kr_take 34 rfl (by kernel_rfl) (by kernel_rfl) (by kernel_rfl) (fun _ _ _ h => h) (kr_bin_agg (by rfl) .neq 27 27 _ _ rfl rfl rfl (by kernel_rfl) _ HNM.out) trivial ?_
          try simp only [Act.put, List.getElem_toArray, List.getElem_cons_zero, List.getElem_cons_succ, List.setIfInBounds_toArray, List.set_cons_zero, List.set_cons_succ]
          refine kr_find 35 rfl (by kernel_rfl) (by kernel_rfl) (by kernel_rfl) (fun _ _ _ _ h => h) (by rfl) trivial ?_
          apply Exists.intro; apply And.intro
          · intro w' hS K hK
            clear hS
            go_light
            go_simp
            exact hK.out
          try simp only [Act.put, List.getElem_toArray, List.getElem_cons_zero, List.getElem_cons_succ, List.setIfInBounds_toArray, List.set_cons_zero, List.set_cons_succ]
          refine kr_find 36 rfl (by kernel_rfl) (by kernel_rfl) (by kernel_rfl) (fun _ _ _ _ h => h) (by rfl) trivial ?_
          apply Exists.intro; apply And.intro
          · intro w' hS K hK
            clear hS
            go_light
            go_simp
            exact hK.out
          try simp only [Act.put, List.getElem_toArray, List.getElem_cons_zero, List.getElem_cons_succ, List.setIfInBounds_toArray, List.set_cons_zero, List.set_cons_succ]
          refine kr_find 37 rfl (by kernel_rfl) (by kernel_rfl) (by kernel_rfl) (fun _ _ _ _ h => h) (by rfl) trivial ?_
          apply Exists.intro; apply And.intro
          · intro w' hS K hK
            clear hS
            go_light
            go_simp
            exact hK.out
          try simp only [Act.put, List.getElem_toArray, List.getElem_cons_zero, List.getElem_cons_succ, List.setIfInBounds_toArray, List.set_cons_zero, List.set_cons_succ]
          refine kr_find 38 rfl (by kernel_rfl) (by kernel_rfl) (by kernel_rfl) (fun _ _ _ _ h => h) (by rfl) trivial ?_
          apply Exists.intro; apply And.intro
          · intro w' hS K hK
            clear hS
            go_light
            go_simp
            exact hK.out
          try simp only [Act.put, List.getElem_toArray, List.getElem_cons_zero, List.getElem_cons_succ, List.setIfInBounds_toArray, List.set_cons_zero, List.set_cons_succ]
          refine kr_find 39 rfl (by kernel_rfl) (by kernel_rfl) (by kernel_rfl) (fun _ _ _ _ h => h) (by rfl) trivial ?_
          apply Exists.intro; apply And.intro
          · intro w' hS K hK
            clear hS
            go_light
            go_simp
            exact hK.out
          try simp only [Act.put, List.getElem_toArray, List.getElem_cons_zero, List.getElem_cons_succ, List.setIfInBounds_toArray, List.set_cons_zero, List.set_cons_succ]
          refine kr_take 40 rfl (by kernel_rfl) (by kernel_rfl) (by kernel_rfl) (fun _ _ _ h => h) (yieldsIf_load_mid (by rfl) 29 _ rfl (bv) (ov + 17) rfl ([.int .u8 10, .int .u8 0, .int .u8 0, .int .u8 (2 + (k : Int))]) _ (fun _ h => h) Try.underlying29 rfl (by kernel_rfl)) (show _ from range_part (HV8.out _ (Fr.refl _ w8).drew) 17 4) ?_
          try simp only [Act.put, List.getElem_toArray, List.getElem_cons_zero, List.getElem_cons_succ, List.setIfInBounds_toArray, List.set_cons_zero, List.set_cons_succ]
          refine kr_find 41 rfl (by kernel_rfl) (by kernel_rfl) (by kernel_rfl) (fun _ _ _ _ h => h) (by rfl) trivial ?_
          apply Exists.intro; apply And.intro
          · intro w' hS K hK
            clear hS
            go_light
            go_simp
            exact hK.out
          try simp only [Act.put, List.getElem_toArray, List.getElem_cons_zero, List.getElem_cons_succ, List.setIfInBounds_toArray, List.set_cons_zero, List.set_cons_succ]
          refine kr_take 42 rfl (by kernel_rfl) (by kernel_rfl) (by kernel_rfl) (fun _ _ _ h => h) (yieldsIf_load_mid (by rfl) 29 _ rfl (bo) (7) rfl ([.int .u8 10, .int .u8 0, .int .u8 0, .int .u8 (2 + (k : Int))]) _ (fun _ h => h) Try.underlying29 rfl (by kernel_rfl)) (show _ from range_part (HB8.out _ (Fr.refl _ w8).drew) 7 4) ?_
          try simp only [Act.put, List.getElem_toArray, List.getElem_cons_zero, List.getElem_cons_succ, List.setIfInBounds_toArray, List.set_cons_zero, List.set_cons_succ]
          refine kr_take 43 rfl (by kernel_rfl) (by kernel_rfl) (by kernel_rfl) (fun _ _ _ h => h) (kr_bin_agg (by rfl) .neq 29 29 _ _ rfl rfl rfl (by kernel_rfl) _ HNK.out) trivial ?_
          try simp only [Act.put, List.getElem_toArray, List.getElem_cons_zero, List.getElem_cons_succ, List.setIfInBounds_toArray, List.set_cons_zero, List.set_cons_succ]
          refine kr_find 44 rfl (by kernel_rfl) (by kernel_rfl) (by kernel_rfl) (fun _ _ _ _ h => h) (by rfl) trivial ?_
          apply Exists.intro; apply And.intro
          · intro w' hS K hK
            clear hS
            go_light
            go_simp
            exact hK.out
          try simp only [Act.put, List.getElem_toArray, List.getElem_cons_zero, List.getElem_cons_succ, List.setIfInBounds_toArray, List.set_cons_zero, List.set_cons_succ]
          refine kr_find 45 rfl (by kernel_rfl) (by kernel_rfl) (by kernel_rfl) (fun _ _ _ _ h => h) (by rfl) trivial ?_
          apply Exists.intro; apply And.intro
          · intro w' hS K hK
            clear hS
            go_light
            go_simp
            exact hK.out
          try simp only [Act.put, List.getElem_toArray, List.getElem_cons_zero, List.getElem_cons_succ, List.setIfInBounds_toArray, List.set_cons_zero, List.set_cons_succ]
          refine kr_find 46 rfl (by kernel_rfl) (by kernel_rfl) (by kernel_rfl) (fun _ _ _ _ h => h) (by rfl) trivial ?_
          apply Exists.intro; apply And.intro
          · intro w' hS K hK
            clear hS
            go_light
            go_simp
            exact hK.out
          try simp only [Act.put, List.getElem_toArray, List.getElem_cons_zero, List.getElem_cons_succ, List.setIfInBounds_toArray, List.set_cons_zero, List.set_cons_succ]
          refine kr_find 47 rfl (by kernel_rfl) (by kernel_rfl) (by kernel_rfl) (fun _ _ _ _ h => h) (by rfl) trivial ?_
          apply Exists.intro; apply And.intro
          · intro w' hS K hK
            clear hS
            go_light
            go_simp
            exact hK.out
          try simp only [Act.put, List.getElem_toArray, List.getElem_cons_zero, List.getElem_cons_succ, List.setIfInBounds_toArray, List.set_cons_zero, List.set_cons_succ]
          refine kr_find 48 rfl (by kernel_rfl) (by kernel_rfl) (by kernel_rfl) (fun _ _ _ _ h => h) (by rfl) trivial ?_
          apply Exists.intro; apply And.intro
          · intro w' hS K hK
            clear hS
            go_light
            go_simp
            exact hK.out
          try simp only [Act.put, List.getElem_toArray, List.getElem_cons_zero, List.getElem_cons_succ, List.setIfInBounds_toArray, List.set_cons_zero, List.set_cons_succ]
          refine kr_take 49 rfl (by kernel_rfl) (by kernel_rfl) (by kernel_rfl) (fun _ _ _ h => h) (yieldsIf_load_mid (by rfl) 27 _ rfl (bv) (ov + 1) rfl ([.int .u8 2, .int .u8 0, .int .u8 0, .int .u8 0, .int .u8 0, .int .u8 0]) _ (fun _ h => h) Try.underlying27 rfl (by kernel_rfl)) (show _ from range_part (HV8.out _ (Fr.refl _ w8).drew) 1 6) ?_
          try simp only [Act.put, List.getElem_toArray, List.getElem_cons_zero, List.getElem_cons_succ, List.setIfInBounds_toArray, List.set_cons_zero, List.set_cons_succ]
          refine kr_find 50 rfl (by kernel_rfl) (by kernel_rfl) (by kernel_rfl) (fun _ _ _ _ h => h) (by rfl) trivial ?_
          apply Exists.intro; apply And.intro
          · intro w' hS K hK
            clear hS
            go_light
            go_simp
            exact hK.out
          try simp only [Act.put, List.getElem_toArray, List.getElem_cons_zero, List.getElem_cons_succ, List.setIfInBounds_toArray, List.set_cons_zero, List.set_cons_succ]
          refine kr_take 51 rfl (by kernel_rfl) (by kernel_rfl) (by kernel_rfl) (fun _ _ _ h => h) (kr_bin_agg (by rfl) .neq 27 27 _ _ rfl rfl rfl (by kernel_rfl) _ HN2.out) trivial ?_
          try simp only [Act.put, List.getElem_toArray, List.getElem_cons_zero, List.getElem_cons_succ, List.setIfInBounds_toArray, List.set_cons_zero, List.set_cons_succ]
          refine kr_find 52 rfl (by kernel_rfl) (by kernel_rfl) (by kernel_rfl) (fun _ _ _ _ h => h) (by rfl) trivial ?_
          apply Exists.intro; apply And.intro
          · intro w' hS K hK
            clear hS
            go_light
            go_simp
            exact hK.out
          try simp only [Act.put, List.getElem_toArray, List.getElem_cons_zero, List.getElem_cons_succ, List.setIfInBounds_toArray, List.set_cons_zero, List.set_cons_succ]
          refine kr_find 53 rfl (by kernel_rfl) (by kernel_rfl) (by kernel_rfl) (fun _ _ _ _ h => h) (by rfl) trivial ?_
          apply Exists.intro; apply And.intro
          · intro w' hS K hK
            clear hS
            go_light
            go_simp
            exact hK.out
          try simp only [Act.put, List.getElem_toArray, List.getElem_cons_zero, List.getElem_cons_succ, List.setIfInBounds_toArray, List.set_cons_zero, List.set_cons_succ]
          refine kr_find 54 rfl (by kernel_rfl) (by kernel_rfl) (by kernel_rfl) (fun _ _ _ _ h => h) (by rfl) trivial ?_
          apply Exists.intro; apply And.intro
          · intro w' hS K hK
            clear hS
            go_light
            go_simp
            exact hK.out
          try simp only [Act.put, List.getElem_toArray, List.getElem_cons_zero, List.getElem_cons_succ, List.setIfInBounds_toArray, List.set_cons_zero, List.set_cons_succ]
          refine kr_find 55 rfl (by kernel_rfl) (by kernel_rfl) (by kernel_rfl) (fun _ _ _ _ h => h) (by rfl) trivial ?_
          apply Exists.intro; apply And.intro
          · intro w' hS K hK
            clear hS
            go_light
            go_simp
            exact hK.out
          try simp only [Act.put, List.getElem_toArray, List.getElem_cons_zero, List.getElem_cons_succ, List.setIfInBounds_toArray, List.set_cons_zero, List.set_cons_succ]
          refine kr_find 56 rfl (by kernel_rfl) (by kernel_rfl) (by kernel_rfl) (fun _ _ _ _ h => h) (by rfl) trivial ?_
          apply Exists.intro; apply And.intro
          · intro w' hS K hK
            clear hS
            go_light
            go_simp
            exact hK.out
          try simp only [Act.put, List.getElem_toArray, List.getElem_cons_zero, List.getElem_cons_succ, List.setIfInBounds_toArray, List.set_cons_zero, List.set_cons_succ]
          refine kr_take 57 rfl (by kernel_rfl) (by kernel_rfl) (by kernel_rfl) (fun _ _ _ h => h) (yieldsIf_load_mid (by rfl) 29 _ rfl (bv) (ov + 7) rfl ([.int .u8 10, .int .u8 0, .int .u8 0, .int .u8 1]) _ (fun _ h => h) Try.underlying29 rfl (by kernel_rfl)) (show _ from range_part (HV8.out _ (Fr.refl _ w8).drew) 7 4) ?_
          try simp only [Act.put, List.getElem_toArray, List.getElem_cons_zero, List.getElem_cons_succ, List.setIfInBounds_toArray, List.set_cons_zero, List.set_cons_succ]
          refine kr_one 58 (by kernel_rfl) rfl (by rfl) (fun K hK => ?_)
          go_simp
          go_at_call 14
          refine (ip14 1 _).mono ?_
          rintro e w9 ⟨rfl, f9⟩
          have F9 := Lib.hid ((Fr.refl (fun _ => False) w8).drew.then' f9)
          clear f9
          refine hK.out _ _ ⟨.inl (by kernel_rfl), .inl (by kernel_rfl), .inl (by kernel_rfl), .inl (by kernel_rfl), .inl (by kernel_rfl), .inl (by kernel_rfl), .inl (by kernel_rfl), .inl (by kernel_rfl), .inr (range_part (HV8.out _ F9.out) 7 4), trivial⟩ ?_
          clear hK K
          try simp only [Act.put, List.getElem_toArray, List.getElem_cons_zero, List.getElem_cons_succ, List.setIfInBounds_toArray, List.set_cons_zero, List.set_cons_succ]
          refine kr_take 59 rfl (by kernel_rfl) (by kernel_rfl) (by kernel_rfl) (fun _ _ _ h => h) (kr_bin_agg (by rfl) .neq 29 29 _ _ rfl rfl rfl (by kernel_rfl) _ HN1.out) trivial ?_
          try simp only [Act.put, List.getElem_toArray, List.getElem_cons_zero, List.getElem_cons_succ, List.setIfInBounds_toArray, List.set_cons_zero, List.set_cons_succ]
          refine kr_find 60 rfl (by kernel_rfl) (by kernel_rfl) (by kernel_rfl) (fun _ _ _ _ h => h) (by rfl) trivial ?_
          apply Exists.intro; apply And.intro
          · intro w' hS K hK
            clear hS
            go_light
            go_simp
            exact hK.out
          try simp only [Act.put, List.getElem_toArray, List.getElem_cons_zero, List.getElem_cons_succ, List.setIfInBounds_toArray, List.set_cons_zero, List.set_cons_succ]
          refine kr_find 61 rfl (by kernel_rfl) (by kernel_rfl) (by kernel_rfl) (fun _ _ _ _ h => h) (by rfl) trivial ?_
          apply Exists.intro; apply And.intro
          · intro w' hS K hK
            clear hS
            go_light
            go_simp
            exact hK.out
          try simp only [Act.put, List.getElem_toArray, List.getElem_cons_zero, List.getElem_cons_succ, List.setIfInBounds_toArray, List.set_cons_zero, List.set_cons_succ]
          refine kr_find 62 rfl (by kernel_rfl) (by kernel_rfl) (by kernel_rfl) (fun _ _ _ _ h => h) (by rfl) trivial ?_
          apply Exists.intro; apply And.intro
          · intro w' hS K hK
            clear hS
            go_light
            go_simp
            exact hK.out
          try simp only [Act.put, List.getElem_toArray, List.getElem_cons_zero, List.getElem_cons_succ, List.setIfInBounds_toArray, List.set_cons_zero, List.set_cons_succ]
          refine kr_done (by kernel_rfl) ?_ _
          go_wp2_with fail
          go_meet
          exact ⟨rfl, F9.out⟩
      case rest =>
      obtain ⟨rfl, hfd⟩ := hcut
      have FD := Lib.hid hfd
      clear hfd HA1 HA2'
      have L9 := Lib.hid (L8.out.fr0 FD.out)
      have H9 := Lib.hid (HL8.out.to FD.out)
      have BO9 := Lib.hid ((FD.out.block bo (lt_of_block BO8.out) (fun e => e)).trans BO8.out)
      clear L8 HL8 BO8
      as_aux_lemma =>
      go_upto_region 16 with (first
        | (go_at_call 14; refine (ip14 _ _).mono ?_; rintro e w10 ⟨rfl, f10⟩; have F10 := Lib.hid f10; clear f10)
        | (go_at_call 16; refine (fl16 5 hk7 (H9.out.to F10.out) ⟨by omega, by omega⟩ (Nat.le_trans L9.out.hN F10.out.size)).mono ?_; rintro e w11 ⟨rfl, hc, hf⟩; have C11 := Lib.hid hc; have F11 := Lib.hid hf; clear hc hf))
      have E10 := Lib.hid ((H9.out.to F10.out).at'.ent e' (List.mem_of_getElem? H9.out.hi))
      have BO11 := Lib.hid (show w11.heap[bo]? = _ from (F11.out.block bo (lt_of_block ((F10.out.block bo (lt_of_block BO9.out) (fun e => e)).trans BO9.out)) (fun e => by
        have h1 := (F10.out.block bo (lt_of_block BO9.out) (fun e => e)).trans BO9.out
        have e : bo = e'.p := e
        rw [e, E10.out.blk] at h1
        exact absurd (tag_ne h1) (by decide))).trans ((F10.out.block bo (lt_of_block BO9.out) (fun e => e)).trans BO9.out))
      have L10 := Lib.hid (L9.out.fr0 F10.out)
      have BS11 := Lib.hid (show w11.heap[bs]? = _ from (F11.out.block bs (lt_of_block L10.out.blk) (fun e => by
        have h1 := L10.out.blk
        have e : bs = e'.p := e
        rw [e, E10.out.blk] at h1
        exact absurd (tag_ne h1) (by decide))).trans L10.out.blk)
      have L11 := Lib.hid (show Lst W N g bs w11 L' lv' (said.set k x.a.sm) from ⟨C11.out, L10.out.kn, L10.out.len, BS11.out, L10.out.fr.trans F11.out (fun j hj h => by have h : j = e'.p := h; have h1 := E10.out.hp; have h2 := HN.out; omega), Nat.le_trans L10.out.hN F11.out.size, L10.out.hbs⟩)
      clear L9 L10 H9 BO9 BS11 E10 C11 F10
      obtain ⟨hbm, hfm, _⟩ := one_new w11 #[.int .u8 x.a.sm.a, .int .u8 x.a.sm.b, .int .u8 x.a.sm.c, .int .u8 x.a.sm.d, .int .u8 x.a.sm.e, .int .u8 x.a.sm.f] 27
      generalize w11.alloc (.cells #[.int .u8 x.a.sm.a, .int .u8 x.a.sm.b, .int .u8 x.a.sm.c, .int .u8 x.a.sm.d, .int .u8 x.a.sm.e, .int .u8 x.a.sm.f] 27) = w12 at hbm hfm ⊢
      obtain ⟨bm, ebm⟩ : ∃ k, w11.heap.size = k := ⟨_, rfl⟩
      rw [ebm] at hbm ⊢
      have RM := Lib.hid (show w12.rangeAt bm 0 [.int .u8 x.a.sm.a, .int .u8 x.a.sm.b, .int .u8 x.a.sm.c, .int .u8 x.a.sm.d, .int .u8 x.a.sm.e, .int .u8 x.a.sm.f] from range_at w12 bm _ 27 hbm)
      have RB := Lib.hid (show w12.rangeAt bo 1 [.int .u8 x.a.sm.a, .int .u8 x.a.sm.b, .int .u8 x.a.sm.c, .int .u8 x.a.sm.d, .int .u8 x.a.sm.e, .int .u8 x.a.sm.f] from range_part (range_at w12 bo _ 33 ((hfm.block bo (lt_of_block BO11.out) (fun e => e)).trans BO11.out)) 1 6)
      have L12 := Lib.hid (L11.out.fr0 hfm)
      have HNM := Lib.hid (neqM HSMO.out w12)
      clear hbm hfm ebm L11 BO11
      iterate 200 (first
        | (have := MK3; clear this)
        | (refine wpList_load_when (by rfl) 27 _ rfl bm 0 rfl [.int .u8 x.a.sm.a, .int .u8 x.a.sm.b, .int .u8 x.a.sm.c, .int .u8 x.a.sm.d, .int .u8 x.a.sm.e, .int .u8 x.a.sm.f] _ RM.out Try.underlying27 rfl (by kernel_rfl) ?_)
        | (refine wpList_load_when (by rfl) 27 _ rfl bo 1 rfl [.int .u8 x.a.sm.a, .int .u8 x.a.sm.b, .int .u8 x.a.sm.c, .int .u8 x.a.sm.d, .int .u8 x.a.sm.e, .int .u8 x.a.sm.f] _ RB.out Try.underlying27 rfl (by kernel_rfl) ?_)
        | (refine wpList_bin_agg (by rfl) .neq 27 27 _ _ rfl rfl rfl (by kernel_rfl) _ HNM.out ?_; have MK3 := Lib.hid True.intro)
        | go_step)
      go_wp2_with fail
      refine ⟨⟨i + 1, L', lv', said.set k x.a.sm, by go_num, by omega, L12.out⟩, by simp [intOf]; omega⟩
    · obtain ⟨w4, hw4⟩ : ∃ y, y = wr := ⟨_, rfl⟩
      subst hw4
      obtain ⟨m, hm⟩ : ∃ m, L.length = m := ⟨_, rfl⟩
      have hm7 : m ≤ 7 := by rw [← hm]; exact kn_len HL.out.at'.ipn HL.out.kn
      go_upto_region 19 with (go_at_call 17; refine (all17 w4 HL.out.at').mono ?_; rintro e w5 ⟨v, M, rfl, hM, hs, hf⟩; obtain ⟨A5, c5, hv5, hc5, _⟩ := hs.form; subst hv5; have HM := Lib.hid hM; have S5 := Lib.hid hs; have F5 := Lib.hid hf; clear hM hs hf)
      have hml : M.length = m := by
        have h := congrArg List.length HM.out
        rw [List.length_map, List.length_map, hm] at h
        exact h
      rw [hml] at S5 hc5 ⊢
      have HML := Lib.hid hml
      have L5 := Lib.hid (HL.out.fr0 F5.out)
      have HLM := Lib.hid hm
      clear hml hm HL hlt hi
      have hm7I : (m : Int) ≤ 7 := by omega
      go_wp2_with fail
      go_loopw [17] (fun v w2 => ∃ k : Nat, v = .int .i64 k ∧ k ≤ m ∧ Fr (fun _ => False) w5 w2) (fun v _ => m - (intOf v).toNat)
      case atStart => exact ⟨0, rfl, Nat.zero_le _, Fr.refl _ _⟩
      case round =>
        obtain ⟨k, rfl, hk, hf2⟩ := hrel
        have F2 := Lib.hid hf2
        clear hf2
        by_cases hlt : k < m
        · obtain ⟨q, hq⟩ : ∃ q, M[k]? = some q := ⟨_, List.getElem?_eq_getElem (by rw [HML.out]; exact hlt)⟩
          have hkn : Kn said q := by
            have h := congrArg (fun l => l[k]?) HM.out
            simp only [List.getElem?_map, hq, Option.map_some] at h
            obtain ⟨e, he, hnb⟩ := Option.map_eq_some_iff.1 h.symm
            obtain ⟨j, h1, h2, h3, h4, h5⟩ := L5.out.kn e (List.mem_of_getElem? he)
            rw [hnb] at h2 h3 h4 h5
            exact ⟨j, h1, h2, h3, h4, h5⟩
          have hqm : q.nb.mac.ok := by
            have h := congrArg (fun l => l[k]?) HM.out
            simp only [List.getElem?_map, hq, Option.map_some] at h
            obtain ⟨e, he, hnb⟩ := Option.map_eq_some_iff.1 h.symm
            rw [← hnb]
            exact (L5.out.at'.ent e (List.mem_of_getElem? he)).ok.mac
          obtain ⟨j, hj7, hip, hsj, hst, _⟩ := hkn
          obtain ⟨b5, off5, cp5, hv5, _, _, _, _, _, _⟩ := S5.out.form1 (by omega)
          injection hv5 with e1 _ e2
          subst e1; subst e2
          have HS := Lib.hid (fun (w' : World) (f : Fr (fun _ => False) w5 w') => show w'.rangeAt b5 (off5 + k * 15) q.cells from by
            obtain ⟨b', o', c', hv', _, _, _, _, hc', _⟩ := (S5.out.fr0 f).form1 (by omega)
            injection hv' with e1 _ _
            injection e1 with e1
            injection e1 with e1 e2
            subst e1; subst e2
            intro i v hi
            rw [Nat.add_assoc]
            exact hc' _ v (ec_at hq i v hi))
          have HB := Lib.hid (fun (w' : World) (f : Fr (fun _ => False) w5 w') => show w'.rangeAt bs (j * 6) q.nb.mac.cells from by
            have h := (f.block bs (lt_of_block L5.out.blk) (fun e => e)).trans L5.out.blk
            intro i v hi
            exact cells_at w' bs _ 31 h _ _ (sw_at hsj i v hi))
          have c3 : wr.cell? ⟨b5, off5 + k * 15 + 3, none⟩ = some (.int .u8 (2 + (j : Int))) := by
            have h := HS.out wr F2.out 3 (.int .u8 q.nb.ip.d) rfl
            rw [hip] at h
            exact h
          have hsub : (2 : Int) + (j : Int) - 2 = (j : Int) := by omega
          have hj9 : j < 9 := by omega
          have hj9I : (j : Int) < 9 := by omega
          have hj0 : ¬ ((j : Int) < 0) := by omega
          have hj6 : ¬ (6 < (j : Int)) := by omega
          have C4 := Lib.hid (show wr.drew.cell? ⟨b5, off5 + k * 15 + 4, none⟩ = some (.int .i64 2) from by
            have h := HS.out wr.drew (F2.out.then' (Fr.refl _ wr).drew) 4 (.int .i64 q.nb.st) rfl
            rwa [hst] at h)
          have HNQ := Lib.hid (neqM hqm)
          clear hq hip hsj hst hqm
          have hkc : k < c5 := by omega
          have hkI : (k : Int) < (m : Int) := by omega
          as_aux_lemma =>
          go_upto_region 23 with (fail)
          refine kr_start [(11, fun W => W.rangeAt b5 (off5 + k * 15 + 5) [.int .u8 q.nb.mac.a, .int .u8 q.nb.mac.b, .int .u8 q.nb.mac.c, .int .u8 q.nb.mac.d, .int .u8 q.nb.mac.e, .int .u8 q.nb.mac.f]), (14, fun W => W.rangeAt bs (j * 6) [.int .u8 q.nb.mac.a, .int .u8 q.nb.mac.b, .int .u8 q.nb.mac.c, .int .u8 q.nb.mac.d, .int .u8 q.nb.mac.e, .int .u8 q.nb.mac.f]), (22, fun W => W.cell? ⟨b5, off5 + k * 15 + 4, none⟩ = some (.int .i64 2))] (by kernel_rfl) (by kernel_rfl) ?_
          refine kr_find 0 rfl (by kernel_rfl) (by kernel_rfl) (by kernel_rfl) (fun _ _ _ _ h => h) (by rfl) trivial ?_
          apply Exists.intro; apply And.intro
          · intro w' hS K hK
            clear hS
            go_light
            go_simp
            exact hK.out
          try simp only [Act.put, List.getElem_toArray, List.getElem_cons_zero, List.getElem_cons_succ, List.setIfInBounds_toArray, List.set_cons_zero, List.set_cons_succ]
          refine kr_find 1 rfl (by kernel_rfl) (by kernel_rfl) (by kernel_rfl) (fun _ _ _ _ h => h) (by rfl) trivial ?_
          apply Exists.intro; apply And.intro
          · intro w' hS K hK
            clear hS
            go_light
            go_simp
            exact hK.out
          try simp only [Act.put, List.getElem_toArray, List.getElem_cons_zero, List.getElem_cons_succ, List.setIfInBounds_toArray, List.set_cons_zero, List.set_cons_succ]
          refine kr_find 2 rfl (by kernel_rfl) (by kernel_rfl) (by kernel_rfl) (fun _ _ _ _ h => h) (by rfl) trivial ?_
          apply Exists.intro; apply And.intro
          · intro w' hS K hK
            clear hS
            go_light
            go_simp
            exact hK.out
          try simp only [Act.put, List.getElem_toArray, List.getElem_cons_zero, List.getElem_cons_succ, List.setIfInBounds_toArray, List.set_cons_zero, List.set_cons_succ]
          refine kr_find 3 rfl (by kernel_rfl) (by kernel_rfl) (by kernel_rfl) (fun _ _ _ _ h => h) (by rfl) trivial ?_
          apply Exists.intro; apply And.intro
          · intro w' hS K hK
            clear hS
            go_light
            go_simp
            exact hK.out
          try simp only [Act.put, List.getElem_toArray, List.getElem_cons_zero, List.getElem_cons_succ, List.setIfInBounds_toArray, List.set_cons_zero, List.set_cons_succ]
          refine kr_find 4 rfl (by kernel_rfl) (by kernel_rfl) (by kernel_rfl) (fun _ _ _ _ h => h) (by rfl) trivial ?_
          apply Exists.intro; apply And.intro
          · intro w' hS K hK
            clear hS
            go_light
            go_simp
            exact hK.out
          try simp only [Act.put, List.getElem_toArray, List.getElem_cons_zero, List.getElem_cons_succ, List.setIfInBounds_toArray, List.set_cons_zero, List.set_cons_succ]
          refine kr_find 5 rfl (by kernel_rfl) (by kernel_rfl) (by kernel_rfl) (fun _ _ _ _ h => h) (by rfl) trivial ?_
          apply Exists.intro; apply And.intro
          · intro w' hS K hK
            clear hS
            go_light
            go_simp
            exact hK.out
          try simp only [Act.put, List.getElem_toArray, List.getElem_cons_zero, List.getElem_cons_succ, List.setIfInBounds_toArray, List.set_cons_zero, List.set_cons_succ]
          refine kr_find 6 rfl (by kernel_rfl) (by kernel_rfl) (by kernel_rfl) (fun _ _ _ _ h => h) (by rfl) trivial ?_
          apply Exists.intro; apply And.intro
          · intro w' hS K hK
            clear hS
            go_light
            go_simp
            exact hK.out
          try simp only [Act.put, List.getElem_toArray, List.getElem_cons_zero, List.getElem_cons_succ, List.setIfInBounds_toArray, List.set_cons_zero, List.set_cons_succ]
          refine kr_find 7 rfl (by kernel_rfl) (by kernel_rfl) (by kernel_rfl) (fun _ _ _ _ h => h) (by rfl) trivial ?_
          apply Exists.intro; apply And.intro
          · intro w' hS K hK
            clear hS
            go_light
            go_simp
            exact hK.out
          try simp only [Act.put, List.getElem_toArray, List.getElem_cons_zero, List.getElem_cons_succ, List.setIfInBounds_toArray, List.set_cons_zero, List.set_cons_succ]
          refine kr_find 8 rfl (by kernel_rfl) (by kernel_rfl) (by kernel_rfl) (fun _ _ _ _ h => h) (by rfl) trivial ?_
          apply Exists.intro; apply And.intro
          · intro w' hS K hK
            clear hS
            go_light
            go_simp
            exact hK.out
          try simp only [Act.put, List.getElem_toArray, List.getElem_cons_zero, List.getElem_cons_succ, List.setIfInBounds_toArray, List.set_cons_zero, List.set_cons_succ]
          refine kr_find 9 rfl (by kernel_rfl) (by kernel_rfl) (by kernel_rfl) (fun _ _ _ _ h => h) (by rfl) trivial ?_
          apply Exists.intro; apply And.intro
          · intro w' hS K hK
            clear hS
            go_light
            go_simp
            exact hK.out
          try simp only [Act.put, List.getElem_toArray, List.getElem_cons_zero, List.getElem_cons_succ, List.setIfInBounds_toArray, List.set_cons_zero, List.set_cons_succ]
          refine kr_find 10 rfl (by kernel_rfl) (by kernel_rfl) (by kernel_rfl) (fun _ _ _ _ h => h) (by rfl) trivial ?_
          apply Exists.intro; apply And.intro
          · intro w' hS K hK
            clear hS
            go_light
            go_simp
            exact hK.out
          try simp only [Act.put, List.getElem_toArray, List.getElem_cons_zero, List.getElem_cons_succ, List.setIfInBounds_toArray, List.set_cons_zero, List.set_cons_succ]
          refine kr_take 11 rfl (by kernel_rfl) (by kernel_rfl) (by kernel_rfl) (fun _ _ _ h => h) (yieldsIf_load_mid (by rfl) 27 _ rfl (b5) (off5 + k * 15 + 5) rfl ([.int .u8 q.nb.mac.a, .int .u8 q.nb.mac.b, .int .u8 q.nb.mac.c, .int .u8 q.nb.mac.d, .int .u8 q.nb.mac.e, .int .u8 q.nb.mac.f]) _ (fun _ h => h) Try.underlying27 rfl (by kernel_rfl)) (show _ from range_part (HS.out _ (F2.out.then' (Fr.refl _ wr).drew)) 5 6) ?_
          try simp only [Act.put, List.getElem_toArray, List.getElem_cons_zero, List.getElem_cons_succ, List.setIfInBounds_toArray, List.set_cons_zero, List.set_cons_succ]
          refine kr_find 12 rfl (by kernel_rfl) (by kernel_rfl) (by kernel_rfl) (fun _ _ _ _ h => h) (by rfl) trivial ?_
          apply Exists.intro; apply And.intro
          · intro w' hS K hK
            clear hS
            go_light
            go_simp
            exact hK.out
          try simp only [Act.put, List.getElem_toArray, List.getElem_cons_zero, List.getElem_cons_succ, List.setIfInBounds_toArray, List.set_cons_zero, List.set_cons_succ]
          refine kr_find 13 rfl (by kernel_rfl) (by kernel_rfl) (by kernel_rfl) (fun _ _ _ _ h => h) (by rfl) trivial ?_
          apply Exists.intro; apply And.intro
          · intro w' hS K hK
            clear hS
            go_light
            go_simp
            exact hK.out
          try simp only [Act.put, List.getElem_toArray, List.getElem_cons_zero, List.getElem_cons_succ, List.setIfInBounds_toArray, List.set_cons_zero, List.set_cons_succ]
          refine kr_take 14 rfl (by kernel_rfl) (by kernel_rfl) (by kernel_rfl) (fun _ _ _ h => h) (yieldsIf_load_mid (by rfl) 27 _ rfl (bs) (j * 6) rfl ([.int .u8 q.nb.mac.a, .int .u8 q.nb.mac.b, .int .u8 q.nb.mac.c, .int .u8 q.nb.mac.d, .int .u8 q.nb.mac.e, .int .u8 q.nb.mac.f]) _ (fun _ h => h) Try.underlying27 rfl (by kernel_rfl)) (show _ from HB.out _ (F2.out.then' (Fr.refl _ wr).drew)) ?_
          try simp only [Act.put, List.getElem_toArray, List.getElem_cons_zero, List.getElem_cons_succ, List.setIfInBounds_toArray, List.set_cons_zero, List.set_cons_succ]
          refine kr_take 15 rfl (by kernel_rfl) (by kernel_rfl) (by kernel_rfl) (fun _ _ _ h => h) (kr_bin_agg (by rfl) .neq 27 27 _ _ rfl rfl rfl (by kernel_rfl) _ HNQ.out) trivial ?_
          try simp only [Act.put, List.getElem_toArray, List.getElem_cons_zero, List.getElem_cons_succ, List.setIfInBounds_toArray, List.set_cons_zero, List.set_cons_succ]
          refine kr_find 16 rfl (by kernel_rfl) (by kernel_rfl) (by kernel_rfl) (fun _ _ _ _ h => h) (by rfl) trivial ?_
          apply Exists.intro; apply And.intro
          · intro w' hS K hK
            clear hS
            go_light
            go_simp
            exact hK.out
          try simp only [Act.put, List.getElem_toArray, List.getElem_cons_zero, List.getElem_cons_succ, List.setIfInBounds_toArray, List.set_cons_zero, List.set_cons_succ]
          refine kr_find 17 rfl (by kernel_rfl) (by kernel_rfl) (by kernel_rfl) (fun _ _ _ _ h => h) (by rfl) trivial ?_
          apply Exists.intro; apply And.intro
          · intro w' hS K hK
            clear hS
            go_light
            go_simp
            exact hK.out
          try simp only [Act.put, List.getElem_toArray, List.getElem_cons_zero, List.getElem_cons_succ, List.setIfInBounds_toArray, List.set_cons_zero, List.set_cons_succ]
          refine kr_find 18 rfl (by kernel_rfl) (by kernel_rfl) (by kernel_rfl) (fun _ _ _ _ h => h) (by rfl) trivial ?_
          apply Exists.intro; apply And.intro
          · intro w' hS K hK
            clear hS
            go_light
            go_simp
            exact hK.out
          try simp only [Act.put, List.getElem_toArray, List.getElem_cons_zero, List.getElem_cons_succ, List.setIfInBounds_toArray, List.set_cons_zero, List.set_cons_succ]
          refine kr_find 19 rfl (by kernel_rfl) (by kernel_rfl) (by kernel_rfl) (fun _ _ _ _ h => h) (by rfl) trivial ?_
          apply Exists.intro; apply And.intro
          · intro w' hS K hK
            clear hS
            go_light
            go_simp
            exact hK.out
          try simp only [Act.put, List.getElem_toArray, List.getElem_cons_zero, List.getElem_cons_succ, List.setIfInBounds_toArray, List.set_cons_zero, List.set_cons_succ]
          refine kr_find 20 rfl (by kernel_rfl) (by kernel_rfl) (by kernel_rfl) (fun _ _ _ _ h => h) (by rfl) trivial ?_
          apply Exists.intro; apply And.intro
          · intro w' hS K hK
            clear hS
            go_light
            go_simp
            exact hK.out
          try simp only [Act.put, List.getElem_toArray, List.getElem_cons_zero, List.getElem_cons_succ, List.setIfInBounds_toArray, List.set_cons_zero, List.set_cons_succ]
          refine kr_find 21 rfl (by kernel_rfl) (by kernel_rfl) (by kernel_rfl) (fun _ _ _ _ h => h) (by rfl) trivial ?_
          apply Exists.intro; apply And.intro
          · intro w' hS K hK
            clear hS
            go_light
            go_simp
            exact hK.out
          try simp only [Act.put, List.getElem_toArray, List.getElem_cons_zero, List.getElem_cons_succ, List.setIfInBounds_toArray, List.set_cons_zero, List.set_cons_succ]
          refine kr_find 22 rfl (by kernel_rfl) (by kernel_rfl) (by kernel_rfl) (fun _ _ _ _ h => h) (by rfl) (show _ from C4.out) ?_
          apply Exists.intro; apply And.intro
          · intro w' hS K hK
            have hS : w'.cell? ⟨b5, off5 + k * 15 + 4, none⟩ = some (.int .i64 2) := hS
            go_light
            go_simp
            exact hK.out
          try simp only [Act.put, List.getElem_toArray, List.getElem_cons_zero, List.getElem_cons_succ, List.setIfInBounds_toArray, List.set_cons_zero, List.set_cons_succ]
          refine kr_find 23 rfl (by kernel_rfl) (by kernel_rfl) (by kernel_rfl) (fun _ _ _ _ h => h) (by rfl) trivial ?_
          apply Exists.intro; apply And.intro
          · intro w' hS K hK
            clear hS
            go_light
            go_simp
            exact hK.out
          try simp only [Act.put, List.getElem_toArray, List.getElem_cons_zero, List.getElem_cons_succ, List.setIfInBounds_toArray, List.set_cons_zero, List.set_cons_succ]
          refine kr_find 24 rfl (by kernel_rfl) (by kernel_rfl) (by kernel_rfl) (fun _ _ _ _ h => h) (by rfl) trivial ?_
          apply Exists.intro; apply And.intro
          · intro w' hS K hK
            clear hS
            go_light
            go_simp
            exact hK.out
          try simp only [Act.put, List.getElem_toArray, List.getElem_cons_zero, List.getElem_cons_succ, List.setIfInBounds_toArray, List.set_cons_zero, List.set_cons_succ]
          refine kr_done (by kernel_rfl) ?_ _
          go_wp2_with fail
          refine ⟨⟨k + 1, by go_num, by omega, F2.out.then' (Fr.refl _ wr).drew⟩, by simp [intOf]; omega⟩
        · go_wp2_with fail
          go_ret
          exact ⟨rfl, L5.out.fr.then' F2.out⟩
end Go.Proofs.Ytfnphkijalkllaa
