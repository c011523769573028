/- Law 8: Encode. No condition. -/
import Derived.Test.YtfnphkijalkllaaEtC
import Derived.Test.YtfnphkijalkllaaArR
namespace Go.Proofs.Ytfnphkijalkllaa
set_option linter.unusedVariables false
set_option linter.unusedSimpArgs false
open Go.RowKit
def mb (m : M6) : List Int := [m.a, m.b, m.c, m.d, m.e, m.f]
def ib (m : I4) : List Int := [m.a, m.b, m.c, m.d]
def opb (x : Bool) : Int := if x = true then 2 else 1
def ab (a : Rq) : List Int := [0, 1, 8, 0, 6, 4, 0, opb a.ans] ++ (mb a.sm ++ (ib a.si ++ (mb a.dm ++ ib a.di)))
theorem ab_len (a : Rq) : (ab a).length = 28 := rfl
theorem wraps_u8 (n : Int) (h₀ : 0 ≤ n) (h₁ : n < 2 ^ 8) : IntKind.u8.wrap n = n := by
  unfold IntKind.wrap
  simp [IntKind.signed, IntKind.bits]
  omega
theorem and_one {n : Int} (h : (Lit.int .u8 n).wf = true) : bits .and .u8 n 1 = n % 2 := by
  have h1 := u8_of h
  exact bits_mask .u8 8 (by decide) wraps_u8 1 (by decide) n h1.1 (by omega)
theorem rem_two {n : Int} (h : (Lit.int .u8 n).wf = true) : n.tmod 2 = n % 2 := by
  have h1 := u8_of h
  rw [Int.tmod_eq_emod_of_nonneg h1.1]
theorem results_cell44 (tmps : Array Value) (w : World) (b : Nat) (v : Value) (hp : tmps.getD 0 undef = .pointer (some ⟨b, 0, none⟩)) (hl : (loadVar 26 ⟨b, 0, none⟩).run Try.prog w = .ok v w) :
    (results Try.f44 tmps).run Try.prog w = .ok v w := by
  have ha : (asAddr (.pointer (some ⟨b, 0, none⟩))).run Try.prog w = .ok ⟨b, 0, none⟩ w := by rfl
  rw [Array.getD_eq_getD_getElem?] at *
  simp [results, Try.results44, hp, hl, ha, Sem.run_bind]
set_option maxRecDepth 100000 in
theorem head44 (w : World) : Calls Try.prog 44 #[] w fun e w' => e = .returned (.agg #[.int .u8 0, .int .u8 1, .int .u8 8, .int .u8 0, .int .u8 6, .int .u8 4]) ∧ Fr (fun _ => False) w w' := by
  have FA := Lib.hid (Fr.refl (fun _ => False) w)
  have RS := Lib.hid (fun (w' : World) (b : Nat) (h : w'.heap[b]? = some (.cells #[.int .u8 0, .int .u8 1, .int .u8 8, .int .u8 0, .int .u8 6, .int .u8 4] 26)) (tmps : Array Value) hp => results_cell44 tmps w' b _ hp (run_loadVar_mid w' b 0 26 [.int .u8 0, .int .u8 1, .int .u8 8, .int .u8 0, .int .u8 6, .int .u8 4] _ (range_at w' b _ 26 h) Try.underlying26 rfl (by kernel_rfl)))
  have B1 := Lib.hid (heap_alloc_new w (.cells #[.int .u8 0, .int .u8 1, .int .u8 8, .int .u8 0, .int .u8 6, .int .u8 4] 26))
  go_enter Try.func44, Try.ntmps44
  go_wp2_with fail
  exact bodyPost_ret (RS.out _ _ B1.out _ rfl) rfl ⟨rfl, FA.out.alloc _⟩
theorem box_bytes {w : World} {b : Nat} {cs : List Value} {t : TypeId} (h : w.heap[b]? = some (.cells cs.toArray t)) (o : Nat) (l : List Int) (hl : ∀ j x, l[j]? = some x → cs[o + j]? = some (.int .u8 x)) {N : Nat} (hN : b < N) : BytesIn N w (some ⟨b, o, none⟩) l :=
  fun _ => ⟨b, o, rfl, hN, fun j x hj => cells_at w b cs t h (o + j) _ (hl j x hj)⟩
theorem six_at {m : M6} {j : Nat} {x : Int} (h : (mb m)[j]? = some x) : m.cells[j]? = some (.int .u8 x) := by
  have : m.cells = (mb m).map (.int .u8 ·) := rfl
  rw [this, List.getElem?_map, h]; rfl
theorem four_at {m : I4} {j : Nat} {x : Int} (h : (ib m)[j]? = some x) : m.cells[j]? = some (.int .u8 x) := by
  have : m.cells = (ib m).map (.int .u8 ·) := rfl
  rw [this, List.getElem?_map, h]; rfl
theorem rq_split (a : Rq) : a.cells = [.bool a.ans] ++ (a.sm.cells ++ (a.si.cells ++ (a.dm.cells ++ a.di.cells))) := rfl
theorem rq_sm {a : Rq} {j : Nat} {v : Value} (h : a.sm.cells[j]? = some v) : a.cells[1 + j]? = some v := by
  have hl := (List.getElem?_eq_some_iff.1 h).1
  have h6 : a.sm.cells.length = 6 := rfl
  rw [rq_split, List.getElem?_append_right (by simp), List.getElem?_append_left (by simp; omega)]
  simpa using h
theorem rq_si {a : Rq} {j : Nat} {v : Value} (h : a.si.cells[j]? = some v) : a.cells[7 + j]? = some v := by
  have hl := (List.getElem?_eq_some_iff.1 h).1
  have h6 : a.sm.cells.length = 6 := rfl
  have h4 : a.si.cells.length = 4 := rfl
  rw [rq_split, List.getElem?_append_right (by simp; omega), List.getElem?_append_right (by simp; omega), List.getElem?_append_left (by simp; omega)]
  rw [← h]; congr 1; simp; omega
theorem rq_dm {a : Rq} {j : Nat} {v : Value} (h : a.dm.cells[j]? = some v) : a.cells[11 + j]? = some v := by
  have hl := (List.getElem?_eq_some_iff.1 h).1
  have h6 : a.sm.cells.length = 6 := rfl
  have h4 : a.si.cells.length = 4 := rfl
  have h62 : a.dm.cells.length = 6 := rfl
  rw [rq_split, List.getElem?_append_right (by simp; omega), List.getElem?_append_right (by simp; omega), List.getElem?_append_right (by simp; omega), List.getElem?_append_left (by simp; omega)]
  rw [← h]; congr 1; simp; omega
theorem rq_di {a : Rq} {j : Nat} {v : Value} (h : a.di.cells[j]? = some v) : a.cells[17 + j]? = some v := by
  have h6 : a.sm.cells.length = 6 := rfl
  have h4 : a.si.cells.length = 4 := rfl
  have h62 : a.dm.cells.length = 6 := rfl
  rw [rq_split, List.getElem?_append_right (by simp; omega), List.getElem?_append_right (by simp; omega), List.getElem?_append_right (by simp; omega), List.getElem?_append_right (by simp; omega)]
  rw [← h]; congr 1; simp; omega
theorem parts_enc {w3 w4 w5 : World} {b1 b5 g4 c4 : Nat} (a : Rq) (h1 : w3.heap[b1]? = some (.cells a.cells.toArray 33)) (h5 : w5.heap[b5]? = some (.cells #[.slice (some ⟨g4, 0, none⟩) 8 c4, .slice (some ⟨b1, 1, none⟩) 6 6, .slice (some ⟨b1, 7, none⟩) 4 4, .slice (some ⟨b1, 11, none⟩) 6 6, .slice (some ⟨b1, 17, none⟩) 4 4] 55)) (o4 : OwnB w3.heap.size w4 (.slice (some ⟨g4, 0, none⟩) 8 c4) ([0, 1, 8, 0, 6, 4] ++ by16 (opb a.ans)))
    (f4 : Fr (fun _ => False) w3 w4) (f5 : Fr (fun _ => False) w4 w5) : PartsIn w5.heap.size w5 (some ⟨b5, 0, none⟩) [[0, 1, 8, 0, 6, 4] ++ by16 (opb a.ans), mb a.sm, ib a.si, mb a.dm, ib a.di] := by
  have hb1 := ((f4.then' f5).block b1 (lt_of_block h1) (fun e => e)).trans h1
  have l1 := lt_of_block hb1
  refine ⟨b5, 0, rfl, lt_of_block h5, fun i p hp => ?_⟩
  have cl := fun j v hj => cells_at w5 b5 [.slice (some ⟨g4, 0, none⟩) 8 c4, .slice (some ⟨b1, 1, none⟩) 6 6, .slice (some ⟨b1, 7, none⟩) 4 4, .slice (some ⟨b1, 11, none⟩) 6 6, .slice (some ⟨b1, 17, none⟩) 4 4] 55 h5 (0 + j) v hj
  match i, hp with
  | 0, hp =>
    cases hp
    refine ⟨_, _, cl 0 _ rfl, fun _ => ⟨g4, 0, rfl, ?_, fun j x hj => ?_⟩⟩
    · obtain ⟨g, c, hv, _, hg⟩ := (o4.fr0 f5).form (n := 8) rfl (by decide)
      cases hv; exact hg
    · have := ((o4.fr0 f5).cell hj).1
      rwa [Nat.zero_add]
  | 1, hp => cases hp; exact ⟨_, _, cl 1 _ rfl, box_bytes hb1 1 _ (fun j x hj => rq_sm (six_at hj)) l1⟩
  | 2, hp => cases hp; exact ⟨_, _, cl 2 _ rfl, box_bytes hb1 7 _ (fun j x hj => rq_si (four_at hj)) l1⟩
  | 3, hp => cases hp; exact ⟨_, _, cl 3 _ rfl, box_bytes hb1 11 _ (fun j x hj => rq_dm (six_at hj)) l1⟩
  | 4, hp => cases hp; exact ⟨_, _, cl 4 _ rfl, box_bytes hb1 17 _ (fun j x hj => rq_di (four_at hj)) l1⟩
theorem opb_le (x : Bool) : 0 ≤ opb x ∧ opb x ≤ 2 := by cases x <;> decide
theorem ab_flat (a : Rq) : ([[0, 1, 8, 0, 6, 4] ++ by16 (opb a.ans), mb a.sm, ib a.si, mb a.dm, ib a.di] : List (List Int)).flatten = ab a := by
  have h : by16 (opb a.ans) = [0, opb a.ans] := by unfold opb; cases a.ans <;> decide
  rw [h]
  simp [ab]
set_option maxRecDepth 100000 in
set_option maxHeartbeats 4000000 in
theorem enc20_bad (a : Rq) (ha : a.ok) (hb : a.sm.a % 2 = 1) (w : World) : Calls Try.prog 20 #[.agg a.cells.toArray] w fun e w' => e = .returned (.tuple #[.slice none 0 0, .int .i64 1]) ∧ Fr (fun _ => False) w w' := by
  have FA := Lib.hid (Fr.refl (fun _ => False) w)
  have hand : bits .and .u8 a.sm.a 1 = 1 := by rw [and_one ha.sm.1, hb]
  go_enter Try.func20, Try.ntmps20
  go_upto_region 1 with (fail)
  have hc := cells_at _ w.heap.size a.cells 33 (heap_alloc_new w (.cells a.cells.toArray 33)) 1 (.int .u8 a.sm.a) rfl
  go_wp2_with fail
  exact bodyPost_ret (v := .tuple #[.slice none 0 0, .int .i64 1]) (by simp [results, Try.results20, go_sem]) rfl ⟨rfl, FA.out.alloc _⟩
set_option maxRecDepth 100000 in
set_option maxHeartbeats 8000000 in
theorem enc20_ok (a : Rq) (ha : a.ok) (hb : ¬ a.sm.a % 2 = 1) (w : World) : Calls Try.prog 20 #[.agg a.cells.toArray] w fun e w' => ∃ v, e = .returned (.tuple #[v, .int .i64 0]) ∧ OwnB w.heap.size w' v (ab a) ∧ Fr (fun _ => False) w w' := by
  have FA := Lib.hid (Fr.refl (fun _ => False) w)
  have hand : bits .and .u8 a.sm.a 1 = a.sm.a % 2 := and_one ha.sm.1
  have hnb : ¬ (a.sm.a % 2 = 1) := hb
  go_enter Try.func20, Try.ntmps20
  go_upto_region 1 with (fail)
  obtain ⟨h1, h2, h3⟩ := one_new w a.cells.toArray 33
  have hc := cells_at _ w.heap.size a.cells 33 h1 1 (.int .u8 a.sm.a) rfl
  have hc0 := cells_at _ w.heap.size a.cells 33 h1 0 (.bool a.ans) rfl
  generalize w.alloc (.cells a.cells.toArray 33) = w1 at h1 h2 h3 hc hc0 ⊢
  obtain ⟨b1, eb1⟩ : ∃ k, w.heap.size = k := ⟨_, rfl⟩
  have ZB := Lib.hid (show w.heap.size ≤ w1.heap.size from h2.size)
  rw [eb1] at h1 hc hc0 ⊢
  have B0 := Lib.hid h1
  have F1 := Lib.hid h2
  clear h1 h2 h3 eb1
  go_upto_region 4 with (fail)
  go_upto_if 12 with (fail)
  go_cut [4] (fun v4 wc => v4 = .int .i64 (opb a.ans) ∧ wc = w1)
  case first =>
    obtain ⟨an, han⟩ : ∃ an, a.ans = an := ⟨_, rfl⟩
    rw [han]
    cases an <;> (go_wp2_with fail; go_meet; first | exact ⟨rfl, rfl⟩ | exact ⟨by rw [han]; rfl, rfl⟩)
  case rest =>
  obtain ⟨rfl, hwc⟩ := hcut
  subst hwc
  clear hc hc0 hand hnb
  go_upto_region 7 with (go_at_call 44; refine (head44 _).mono ?_; rintro e w2 ⟨rfl, f2⟩; have F2 := Lib.hid f2; clear f2)
  obtain ⟨h1, h2, h3⟩ := one_new w2 #[.int .u8 0, .int .u8 1, .int .u8 8, .int .u8 0, .int .u8 6, .int .u8 4] 26
  generalize w2.alloc (.cells #[.int .u8 0, .int .u8 1, .int .u8 8, .int .u8 0, .int .u8 6, .int .u8 4] 26) = w3 at h1 h2 h3 ⊢
  obtain ⟨b2, eb2⟩ : ∃ k, w2.heap.size = k := ⟨_, rfl⟩
  rw [eb2] at h1 ⊢
  have B2 := Lib.hid h1
  have F3 := Lib.hid (F1.out.then' (F2.out.then' (h2.then' (Fr.refl _ w3).drew)))
  have B1 := Lib.hid (show w3.drew.heap[b1]? = some (.cells a.cells.toArray 33) from ((F2.out.then' h2).block b1 (lt_of_block B0.out) (fun e => e)).trans B0.out)
  have HPT := Lib.hid (put32 (some ⟨b2, 0, none⟩) 6 w3.drew.heap.size [0, 1, 8, 0, 6, 4] (opb a.ans) w3.drew (fun _ => ⟨b2, 0, rfl, lt_of_block B2.out, fun j x hj => by
    have h : ([.int .u8 0, .int .u8 1, .int .u8 8, .int .u8 0, .int .u8 6, .int .u8 4] : List Value)[0 + j]? = some (.int .u8 x) := by
      have : ([.int .u8 0, .int .u8 1, .int .u8 8, .int .u8 0, .int .u8 6, .int .u8 4] : List Value) = ([0, 1, 8, 0, 6, 4] : List Int).map (.int .u8 ·) := rfl
      rw [this, List.getElem?_map, Nat.zero_add, hj]; rfl
    exact cells_at w3.drew b2 _ 26 B2.out (0 + j) _ h⟩) (by decide) (Nat.le_refl _))
  clear h1 h2 h3 eb2 F1 F2 B0
  refine kr_start [] (by kernel_rfl) (by kernel_rfl) ?_
  refine kr_find 0 rfl (by kernel_rfl) (by kernel_rfl) (by kernel_rfl) (fun _ _ _ _ h => h) (by rfl) trivial ?_
  apply Exists.intro; apply And.intro
  · intro w' hS K hK
    clear hS
    go_light
    go_simp
    exact hK.out
  try simp only [Act.put, List.getElem_toArray, List.getElem_cons_zero, List.getElem_cons_succ, List.setIfInBounds_toArray, List.set_cons_zero, List.set_cons_succ]
  refine kr_find 1 rfl (by kernel_rfl) (by kernel_rfl) (by kernel_rfl) (fun _ _ _ _ h => h) (by rfl) trivial ?_
  apply Exists.intro; apply And.intro
  · intro w' hS K hK
    clear hS
    go_light
    go_simp
    exact hK.out
  try simp only [Act.put, List.getElem_toArray, List.getElem_cons_zero, List.getElem_cons_succ, List.setIfInBounds_toArray, List.set_cons_zero, List.set_cons_succ]
  refine kr_find 3 rfl (by kernel_rfl) (by kernel_rfl) (by kernel_rfl) (fun _ _ _ _ h => h) (by rfl) trivial ?_
  apply Exists.intro; apply And.intro
  · intro w' hS K hK
    clear hS
    go_light
    go_simp
    exact hK.out
  try simp only [Act.put, List.getElem_toArray, List.getElem_cons_zero, List.getElem_cons_succ, List.setIfInBounds_toArray, List.set_cons_zero, List.set_cons_succ]
  refine kr_find 4 rfl (by kernel_rfl) (by kernel_rfl) (by kernel_rfl) (fun _ _ _ _ h => h) (by rfl) trivial ?_
  apply Exists.intro; apply And.intro
  · intro w' hS K hK
    clear hS
    go_light
    go_simp
    exact hK.out
  try simp only [Act.put, List.getElem_toArray, List.getElem_cons_zero, List.getElem_cons_succ, List.setIfInBounds_toArray, List.set_cons_zero, List.set_cons_succ]
  refine kr_find 5 rfl (by kernel_rfl) (by kernel_rfl) (by kernel_rfl) (fun _ _ _ _ h => h) (by rfl) trivial ?_
  apply Exists.intro; apply And.intro
  · intro w' hS K hK
    clear hS
    go_light
    go_simp
    exact hK.out
  try simp only [Act.put, List.getElem_toArray, List.getElem_cons_zero, List.getElem_cons_succ, List.setIfInBounds_toArray, List.set_cons_zero, List.set_cons_succ]
  refine kr_find 6 rfl (by kernel_rfl) (by kernel_rfl) (by kernel_rfl) (fun _ _ _ _ h => h) (by rfl) trivial ?_
  apply Exists.intro; apply And.intro
  · intro w' hS K hK
    clear hS
    go_light
    go_simp
    exact hK.out
  try simp only [Act.put, List.getElem_toArray, List.getElem_cons_zero, List.getElem_cons_succ, List.setIfInBounds_toArray, List.set_cons_zero, List.set_cons_succ]
  refine kr_find 7 rfl (by kernel_rfl) (by kernel_rfl) (by kernel_rfl) (fun _ _ _ _ h => h) (by rfl) trivial ?_
  apply Exists.intro; apply And.intro
  · intro w' hS K hK
    clear hS
    go_light
    go_simp
    exact hK.out
  try simp only [Act.put, List.getElem_toArray, List.getElem_cons_zero, List.getElem_cons_succ, List.setIfInBounds_toArray, List.set_cons_zero, List.set_cons_succ]
  refine kr_find 8 rfl (by kernel_rfl) (by kernel_rfl) (by kernel_rfl) (fun _ _ _ _ h => h) (by rfl) trivial ?_
  apply Exists.intro; apply And.intro
  · intro w' hS K hK
    clear hS
    go_light
    go_simp
    exact hK.out
  try simp only [Act.put, List.getElem_toArray, List.getElem_cons_zero, List.getElem_cons_succ, List.setIfInBounds_toArray, List.set_cons_zero, List.set_cons_succ]
  refine kr_find 9 rfl (by kernel_rfl) (by kernel_rfl) (by kernel_rfl) (fun _ _ _ _ h => h) (by rfl) trivial ?_
  apply Exists.intro; apply And.intro
  · intro w' hS K hK
    clear hS
    go_light
    go_simp
    exact hK.out
  try simp only [Act.put, List.getElem_toArray, List.getElem_cons_zero, List.getElem_cons_succ, List.setIfInBounds_toArray, List.set_cons_zero, List.set_cons_succ]
  refine kr_find 10 rfl (by kernel_rfl) (by kernel_rfl) (by kernel_rfl) (fun _ _ _ _ h => h) (by rfl) trivial ?_
  apply Exists.intro; apply And.intro
  · intro w' hS K hK
    clear hS
    go_light
    go_simp
    exact hK.out
  try simp only [Act.put, List.getElem_toArray, List.getElem_cons_zero, List.getElem_cons_succ, List.setIfInBounds_toArray, List.set_cons_zero, List.set_cons_succ]
  refine kr_one 2 (by kernel_rfl) rfl (by rfl) (fun K hK => ?_)
  go_simp
  go_at_call 46
  refine HPT.out.mono ?_
  rintro e w4 ⟨v4, rfl, o4, f4⟩
  obtain ⟨g4, c4, rfl, _, _⟩ := o4.form (n := 8) rfl (by decide)
  have O4 := Lib.hid o4
  have F4 := Lib.hid f4
  clear o4 f4
  refine hK.out _ _ trivial ?_
  clear hK K
  try simp only [Act.put, List.getElem_toArray, List.getElem_cons_zero, List.getElem_cons_succ, List.setIfInBounds_toArray, List.set_cons_zero, List.set_cons_succ]
  refine kr_one 11 (by kernel_rfl) rfl (by rfl) (fun K hK => ?_)
  go_simp
  obtain ⟨h1, h2, h3⟩ := one_new w4 #[.slice (some ⟨g4, 0, none⟩) 8 c4, .slice (some ⟨b1, 1, none⟩) 6 6, .slice (some ⟨b1, 7, none⟩) 4 4, .slice (some ⟨b1, 11, none⟩) 6 6, .slice (some ⟨b1, 17, none⟩) 4 4] 55
  generalize w4.alloc (.cells #[.slice (some ⟨g4, 0, none⟩) 8 c4, .slice (some ⟨b1, 1, none⟩) 6 6, .slice (some ⟨b1, 7, none⟩) 4 4, .slice (some ⟨b1, 11, none⟩) 6 6, .slice (some ⟨b1, 17, none⟩) 4 4] 55) = w5 at h1 h2 h3 ⊢
  obtain ⟨b5, h4⟩ : ∃ k, w4.heap.size = k := ⟨_, rfl⟩
  rw [h4] at h1 ⊢
  have B5 := Lib.hid h1
  have F5 := Lib.hid h2
  clear h1 h2 h3 h4
  refine hK.out _ _ trivial ?_
  clear hK K
  try simp only [Act.put, List.getElem_toArray, List.getElem_cons_zero, List.getElem_cons_succ, List.setIfInBounds_toArray, List.set_cons_zero, List.set_cons_succ]
  refine kr_one 12 (by kernel_rfl) rfl (by rfl) (fun K hK => ?_)
  go_simp
  go_at_call 45
  refine (concat33 (some ⟨b5, 0, none⟩) 5 5 [[0, 1, 8, 0, 6, 4] ++ by16 (opb a.ans), mb a.sm, ib a.si, mb a.dm, ib a.di] rfl (by decide) (by show 28 ≤ 140737488355328; decide) w5 (parts_enc a B1.out B5.out O4.out F4.out F5.out)).mono ?_
  rintro e w6 ⟨v6, rfl, o6, f6⟩
  have O6 := Lib.hid o6
  have F6 := Lib.hid f6
  clear o6 f6
  refine hK.out _ _ trivial ?_
  clear hK K
  try simp only [Act.put, List.getElem_toArray, List.getElem_cons_zero, List.getElem_cons_succ, List.setIfInBounds_toArray, List.set_cons_zero, List.set_cons_succ]
  refine kr_find 13 rfl (by kernel_rfl) (by kernel_rfl) (by kernel_rfl) (fun _ _ _ _ h => h) (by rfl) trivial ?_
  apply Exists.intro; apply And.intro
  · intro w' hS K hK
    clear hS
    go_light
    go_simp
    exact hK.out
  try simp only [Act.put, List.getElem_toArray, List.getElem_cons_zero, List.getElem_cons_succ, List.setIfInBounds_toArray, List.set_cons_zero, List.set_cons_succ]
  refine kr_find 14 rfl (by kernel_rfl) (by kernel_rfl) (by kernel_rfl) (fun _ _ _ _ h => h) (by rfl) trivial ?_
  apply Exists.intro; apply And.intro
  · intro w' hS K hK
    clear hS
    go_light
    go_simp
    exact hK.out
  try simp only [Act.put, List.getElem_toArray, List.getElem_cons_zero, List.getElem_cons_succ, List.setIfInBounds_toArray, List.set_cons_zero, List.set_cons_succ]
  refine kr_done (by kernel_rfl) ?_ _
  go_wp2_with fail
  refine bodyPost_ret (v := .tuple #[v6, .int .i64 0]) (by simp [results, Try.results20, go_sem]) rfl ⟨v6, rfl, ?_, F3.out.then' (F4.out.then' (F5.out.then' F6.out))⟩
  have h := O6.out
  rw [ab_flat] at h
  exact h.base (by have h1 := F3.out.size; have h2 := F4.out.size; have h3 := F5.out.size; omega)
end Go.Proofs.Ytfnphkijalkllaa
