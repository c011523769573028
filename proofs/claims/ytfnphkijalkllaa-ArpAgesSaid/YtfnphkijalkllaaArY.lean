/- ArpAges: its plain law and its walk. No condition. -/
import Derived.Test.YtfnphkijalkllaaArX
namespace Go.Proofs.Ytfnphkijalkllaa
set_option linter.unusedVariables false
set_option linter.unusedSimpArgs false
open Go.RowKit
/-- Where it stands behind j of the last ten ticks. -/
def AInv (later : Nat) (ans : Bool) (j : Nat) (o : Option Nb) (a : Nat) : Prop :=
  (∃ nb, o = some nb ∧ nb.st = 2 ∧ nb.ip = q2 ∧ nb.pend = [] ∧ a ≤ 1 ∧ (later < 64 ∨ (ans = true ∧ 1 ≤ j))) ∨
  (64 ≤ later ∧ ¬ (ans = true ∧ 1 ≤ j) ∧ ((j ≤ 5 ∧ ∃ nb, o = some nb ∧ nb.st = 3 ∧ nb.ip = q2 ∧ nb.pend = [] ∧ nb.tries = ((1 + j / 2 : Nat) : Int) ∧ nb.asked = ((later + 2 * (j / 2) : Nat) : Int) ∧ a = 1 + j / 2) ∨ (6 ≤ j ∧ o = none ∧ a = 3)))
theorem AInv.small {later : Nat} {ans : Bool} {j : Nat} {o : Option Nb} {a : Nat} (h : AInv later ans j o a) : a ≤ 3 ∧ ∀ nb, o = some nb → nb.ip = q2 ∧ nb.pend = [] := by
  rcases h with ⟨nb, rfl, h1, h2, h3, h4, _⟩ | ⟨_, _, ⟨h5, nb, rfl, h1, h2, h3, _, _, h4⟩ | ⟨_, rfl, h4⟩⟩
  · exact ⟨by omega, fun n e => by cases e; exact ⟨h2, h3⟩⟩
  · exact ⟨by omega, fun n e => by cases e; exact ⟨h2, h3⟩⟩
  · exact ⟨by omega, fun n e => by cases e⟩
theorem AInv.next {later : Nat} {ans : Bool} {j : Nat} {o : Option Nb} {a : Nat} (h : AInv later ans j o a) (hn : ¬ (ans = true ∧ j = 0)) : AInv later ans (j + 1) (tkL ((later : Int) + 1 + (j : Int)) o).1 (a + (tkL ((later : Int) + 1 + (j : Int)) o).2) := by
  rcases h with ⟨nb, rfl, h1, h2, h3, h4, h5⟩ | ⟨hl, hna, ⟨h5, nb, rfl, h1, h2, h3, h6, h7, h4⟩ | ⟨h5, rfl, h4⟩⟩
  · rw [tkL_some, if_pos h1]
    exact .inl ⟨nb, rfl, h1, h2, h3, h4, h5.imp id (fun h => ⟨h.1, by omega⟩)⟩
  · have hna' : ¬ (ans = true ∧ 1 ≤ j + 1) := fun h => by
      by_cases h0 : j = 0
      · exact hn ⟨h.1, h0⟩
      · exact hna ⟨h.1, by omega⟩
    rw [tkL_some, if_neg (by omega)]
    rcases Nat.mod_two_eq_zero_or_one j with hj | hj
    · have ht : tkOf nb ((later : Int) + 1 + (j : Int)) = .wait := by
        unfold tkOf; rw [if_pos (by omega)]
      rw [ht]
      refine .inr ⟨hl, hna', .inl ⟨by omega, nb, rfl, h1, h2, h3, ?_, ?_, ?_⟩⟩
      · rw [h6]; congr 2; omega
      · rw [h7]; congr 3; omega
      · show a + 0 = _; omega
    · by_cases h55 : j = 5
      · have ht : tkOf nb ((later : Int) + 1 + (j : Int)) = .gone := by
          unfold tkOf; rw [if_neg (by omega), if_pos (by omega)]
        rw [ht]
        exact .inr ⟨hl, hna', .inr ⟨by omega, rfl, by show a + 0 = 3; omega⟩⟩
      · have ht : tkOf nb ((later : Int) + 1 + (j : Int)) = .ask := by
          unfold tkOf; rw [if_neg (by omega), if_neg (by omega)]
        rw [ht]
        refine .inr ⟨hl, hna', .inl ⟨by omega, _, rfl, h1, h2, h3, ?_, ?_, ?_⟩⟩
        · show nb.tries + 1 = _; omega
        · show (later : Int) + 1 + (j : Int) = _; omega
        · show a + 1 = _; omega
  · exact .inr ⟨hl, fun h => by
      by_cases h0 : j = 0
      · exact hn ⟨h.1, h0⟩
      · exact hna ⟨h.1, by omega⟩, .inr ⟨by omega, rfl, by show a + 0 = 3; omega⟩⟩
theorem AInv.heard {later : Nat} {o : Option Nb} {a : Nat} (h : AInv later true 0 o a) : ∃ nb, tkL ((later : Int) + 1 + ((0 : Nat) : Int)) o = (some nb, 0) ∧ nb.ip = q2 ∧ nb.pend = [] ∧ ∀ (sm : M6) (t : Int), AInv later true 1 (some (heardNb nb sm t)) (a + 0) := by
  rcases h with ⟨nb, rfl, h1, h2, h3, h4, h5⟩ | ⟨hl, hna, ⟨h5, nb, rfl, h1, h2, h3, h6, h7, h4⟩ | ⟨h5, rfl, h4⟩⟩
  · rw [tkL_some, if_pos h1]
    exact ⟨nb, rfl, h2, h3, fun sm t => .inl ⟨_, rfl, rfl, h2, rfl, h4, .inr ⟨rfl, by omega⟩⟩⟩
  · rw [tkL_some, if_neg (by omega)]
    have ht : tkOf nb ((later : Int) + 1 + ((0 : Nat) : Int)) = .wait := by
      unfold tkOf; rw [if_pos (by omega)]
    rw [ht]
    exact ⟨nb, rfl, h2, h3, fun sm t => .inl ⟨_, rfl, rfl, h2, rfl, by omega, .inr ⟨rfl, by omega⟩⟩⟩
  · omega
theorem AInv.first {later : Nat} {ans : Bool} {sm : M6} : AInv later ans 0 (some (findNb (newK q2 sm 0) later)) (if 64 ≤ later then 1 else 0) := by
  by_cases h : 64 ≤ later
  · have ho : old64 (newK q2 sm 0) later = true := by
      unfold old64 newK
      simp
      omega
    rw [if_pos h]
    refine .inr ⟨h, fun e => by omega, .inl ⟨by omega, _, rfl, ?_, ?_, ?_, ?_, ?_, rfl⟩⟩ <;> (unfold findNb; rw [ho]; rfl)
  · have ho : old64 (newK q2 sm 0) later = false := by
      unfold old64 newK
      simp
      omega
    rw [if_neg h]
    refine .inl ⟨_, rfl, ?_, ?_, ?_, by omega, .inl (by omega)⟩ <;> (unfold findNb; rw [ho]; rfl)
theorem AInv.last {later : Nat} {ans : Bool} {o : Option Nb} {a : Nat} (h : AInv later ans 10 o a) : (later < 64 ∨ ans = true → ∃ nb, o = some nb ∧ nb.st = 2 ∧ nb.ip = q2 ∧ nb.pend = [] ∧ a ≤ 1) ∧ (¬ (later < 64 ∨ ans = true) → o = none ∧ a = 3) := by
  rcases h with ⟨nb, rfl, h1, h2, h3, h4, h5⟩ | ⟨hl, hna, ⟨h5, _⟩ | ⟨h5, rfl, h4⟩⟩
  · exact ⟨fun _ => ⟨nb, rfl, h1, h2, h3, h4⟩, fun h => absurd (h5.imp id (·.1)) h⟩
  · omega
  · exact ⟨fun h => by
      rcases h with h | h
      · omega
      · exact absurd ⟨h, by omega⟩ hna, fun _ => ⟨rfl, h4⟩⟩
theorem aq33 (sm : M6) : Instr.fill ((#[(0, 1), (1, 6), (7, 4), (11, 6), (17, 4)] : Array (Nat × Nat))[·]?) (Value.agg #[.bool false, .int .u8 0, .int .u8 0, .int .u8 0, .int .u8 0, .int .u8 0, .int .u8 0, .int .u8 0, .int .u8 0, .int .u8 0, .int .u8 0, .int .u8 0, .int .u8 0, .int .u8 0, .int .u8 0, .int .u8 0, .int .u8 0, .int .u8 0, .int .u8 0, .int .u8 0, .int .u8 0]).cells [(0, .bool true), (1, .agg #[.int .u8 sm.a, .int .u8 sm.b, .int .u8 sm.c, .int .u8 sm.d, .int .u8 sm.e, .int .u8 sm.f]), (2, .agg #[.int .u8 10, .int .u8 0, .int .u8 0, .int .u8 2]), (4, .agg #[.int .u8 10, .int .u8 0, .int .u8 0, .int .u8 1])] = some #[.bool true, .int .u8 sm.a, .int .u8 sm.b, .int .u8 sm.c, .int .u8 sm.d, .int .u8 sm.e, .int .u8 sm.f, .int .u8 10, .int .u8 0, .int .u8 0, .int .u8 2, .int .u8 0, .int .u8 0, .int .u8 0, .int .u8 0, .int .u8 0, .int .u8 0, .int .u8 10, .int .u8 0, .int .u8 0, .int .u8 1] := by kernel_rfl
theorem neqM' {m : M6} (h : m.ok) (w : World) : (binOp .neq 27 (.agg #[.int .u8 m.a, .int .u8 m.b, .int .u8 m.c, .int .u8 m.d, .int .u8 m.e, .int .u8 m.f]) (.agg #[.int .u8 m.a, .int .u8 m.b, .int .u8 m.c, .int .u8 m.d, .int .u8 m.e, .int .u8 m.f])).run Try.prog w = .ok (.bool false) w := by
  have h1 := neq27 h h w
  rwa [decide_eq_true (rfl : m = m)] at h1
theorem rblk {w w' : World} {b o : Nat} {cs : List Value} (h : w'.heap[b]? = w.heap[b]?) (r : w.rangeAt b o cs) : w'.rangeAt b o cs := fun j v hj => (World.cell?_of_block h).trans (r j v hj)
theorem box_keep {N b : Nat} {w w' : World} {cs : Array Value} {t : TypeId} (h : w.heap[b]? = some (.cells cs t)) (hb : b < N) (f : Fr (fun i => N ≤ i) w w') : w'.heap[b]? = some (.cells cs t) :=
  (f.block b (lt_of_block h) (by omega)).trans h
set_option maxRecDepth 100000 in
set_option maxHeartbeats 16000000 in
theorem ages5 (mac : M6) (hm : mac.ok) (later : Int) (ans : Bool) (W : World) :
    Calls Try.prog 5 #[.agg #[.int .u8 mac.a, .int .u8 mac.b, .int .u8 mac.c, .int .u8 mac.d, .int .u8 mac.e, .int .u8 mac.f], .int .i64 later, .bool ans] W fun e w' => e = .returned (.bool true) ∧ Fr (fun _ => False) W w' := by
  have FA := Lib.hid (Fr.refl (fun _ => False) W)
  have HM := Lib.hid hm
  clear hm
  go_enter Try.func5, Try.ntmps5
  go_upto_region 1 with (fail)
  obtain ⟨hb0, hf0, hz0⟩ := one_new W #[.int .u8 mac.a, .int .u8 mac.b, .int .u8 mac.c, .int .u8 mac.d, .int .u8 mac.e, .int .u8 mac.f] 27
  generalize W.alloc (.cells #[.int .u8 mac.a, .int .u8 mac.b, .int .u8 mac.c, .int .u8 mac.d, .int .u8 mac.e, .int .u8 mac.f] 27) = w0 at hb0 hf0 hz0 ⊢
  obtain ⟨b3, eb3⟩ : ∃ k, W.heap.size = k := ⟨_, rfl⟩
  rw [eb3] at hb0 ⊢
  have B3 := Lib.hid hb0
  have F0 := Lib.hid hf0
  clear hb0 hf0 hz0 eb3
  go_upto_region 2 with (go_at_call 12; refine (awake12 _).mono ?_; rintro e w1 ⟨rfl, f1⟩; have F1 := Lib.hid f1; clear f1)
  go_upto_region 3 with (first
    | (go_at_call 14; refine (ip14 1 _).mono ?_; rintro e w2 ⟨rfl, f2⟩; have F2 := Lib.hid f2; clear f2)
    | (go_at_call 13; refine (aw_new _).mono ?_; rintro e w3 ⟨g, rfl, hc, f3⟩; have C3 := Lib.hid hc; have F3 := Lib.hid f3; clear hc f3))
  obtain ⟨N, hN⟩ : ∃ N, w2.heap.size = N := ⟨_, rfl⟩
  have HN := Lib.hid (show W.heap.size ≤ N ∧ b3 < N from by
    have h0 := F0.out.size
    have h1 := F1.out.size
    have h2 := F2.out.size
    have h3 := lt_of_block B3.out
    omega)
  have O3 := Lib.hid (show One N w3 g none from ⟨[], _, by have h := C3.out; rw [hN] at h; exact h, rfl⟩)
  have N3 := Lib.hid (show N ≤ w3.heap.size from by have := F3.out.size; omega)
  have B33 := Lib.hid (show w3.heap[b3]? = _ from ((F1.out.then' (F2.out.then' F3.out)).block b3 (lt_of_block B3.out) (fun e => e)).trans B3.out)
  have FW3 := Lib.hid (F0.out.then' (F1.out.then' (F2.out.then' F3.out)))
  clear hN C3 F0 F1 F2 F3 FA B3
  by_cases hl0 : later < 0
  · go_wp2_with fail
    go_ret
    exact ⟨rfl, FW3.out⟩
  by_cases hl1 : 1000 < later
  · go_wp2_with fail
    go_ret
    exact ⟨rfl, FW3.out⟩
  obtain ⟨k, rfl⟩ : ∃ k : Nat, later = (k : Int) := ⟨later.toNat, by omega⟩
  have hk1000 : k ≤ 1000 := by omega
  go_upto_region 5 with (fail)
  clear hl0 hl1
  have D3 := Lib.hid ((Fr.refl (fun _ => False) w3).drew)
  have R3 := Lib.hid (show w3.drew.rangeAt b3 0 [.int .u8 mac.a, .int .u8 mac.b, .int .u8 mac.c, .int .u8 mac.d, .int .u8 mac.e, .int .u8 mac.f] from range_at w3.drew b3 _ 27 B33.out)
  refine kr_start [(1, fun W => W.rangeAt b3 0 [.int .u8 mac.a, .int .u8 mac.b, .int .u8 mac.c, .int .u8 mac.d, .int .u8 mac.e, .int .u8 mac.f])] (by kernel_rfl) (by kernel_rfl) ?_
  refine kr_find 0 rfl (by kernel_rfl) (by kernel_rfl) (by kernel_rfl) (fun _ _ _ _ h => h) (by rfl) trivial ?_
  apply Exists.intro; apply And.intro
  · intro w' hS K hK
    clear hS
    go_light
    go_simp
    exact hK.out
  try simp only [Act.put, List.getElem_toArray, List.getElem_cons_zero, List.getElem_cons_succ, List.setIfInBounds_toArray, List.set_cons_zero, List.set_cons_succ]
  refine kr_take 1 rfl (by kernel_rfl) (by kernel_rfl) (by kernel_rfl) (fun _ _ _ h => h) (yieldsIf_load_mid (by rfl) 27 _ rfl (b3) (0) rfl ([.int .u8 mac.a, .int .u8 mac.b, .int .u8 mac.c, .int .u8 mac.d, .int .u8 mac.e, .int .u8 mac.f]) _ (fun _ h => h) Try.underlying27 rfl (by kernel_rfl)) (show _ from R3.out) ?_
  try simp only [Act.put, List.getElem_toArray, List.getElem_cons_zero, List.getElem_cons_succ, List.setIfInBounds_toArray, List.set_cons_zero, List.set_cons_succ]
  refine kr_one 2 (by kernel_rfl) rfl (by rfl) (fun K hK => ?_)
  go_simp
  go_at_call 14
  refine (ip14 2 _).mono ?_
  rintro e w4 ⟨rfl, fx⟩
  have Fw4 := Lib.hid (D3.out.then' fx)
  clear fx
  refine hK.out _ _ ⟨.inr (rblk (Fw4.out.block b3 (lt_of_block B33.out) (fun e => e)) (range_at w3 b3 _ 27 B33.out)), trivial⟩ ?_
  clear hK K
  try simp only [Act.put, List.getElem_toArray, List.getElem_cons_zero, List.getElem_cons_succ, List.setIfInBounds_toArray, List.set_cons_zero, List.set_cons_succ]
  refine kr_one 3 (by kernel_rfl) rfl (by rfl) (fun K hK => ?_)
  go_simp
  go_at_call 14
  refine (ip14 1 _).mono ?_
  rintro e w5 ⟨rfl, fx⟩
  have FC6 := Lib.hid (Fw4.out.then' fx)
  clear fx
  refine hK.out _ _ ⟨.inr (rblk (FC6.out.block b3 (lt_of_block B33.out) (fun e => e)) (range_at w3 b3 _ 27 B33.out)), trivial⟩ ?_
  clear hK K
  try simp only [Act.put, List.getElem_toArray, List.getElem_cons_zero, List.getElem_cons_succ, List.setIfInBounds_toArray, List.set_cons_zero, List.set_cons_succ]
  refine kr_take 4 rfl (by kernel_rfl) (by kernel_rfl) (by kernel_rfl) (fun _ _ _ h => h) (kr_build bd33 rfl rfl [(0, .bool true), (1, .agg #[.int .u8 mac.a, .int .u8 mac.b, .int .u8 mac.c, .int .u8 mac.d, .int .u8 mac.e, .int .u8 mac.f]), (2, .agg #[.int .u8 10, .int .u8 0, .int .u8 0, .int .u8 2]), (4, .agg #[.int .u8 10, .int .u8 0, .int .u8 0, .int .u8 1])] (by rfl) #[.bool true, .int .u8 mac.a, .int .u8 mac.b, .int .u8 mac.c, .int .u8 mac.d, .int .u8 mac.e, .int .u8 mac.f, .int .u8 10, .int .u8 0, .int .u8 0, .int .u8 2, .int .u8 0, .int .u8 0, .int .u8 0, .int .u8 0, .int .u8 0, .int .u8 0, .int .u8 10, .int .u8 0, .int .u8 0, .int .u8 1] (aq33 mac)) trivial ?_
  try simp only [Act.put, List.getElem_toArray, List.getElem_cons_zero, List.getElem_cons_succ, List.setIfInBounds_toArray, List.set_cons_zero, List.set_cons_succ]
  refine kr_one 5 (by kernel_rfl) rfl (by rfl) (fun K hK => ?_)
  go_simp
  go_at_call 15
  refine (heard1 mac HM.out 0 (O3.out.fr FC6.out) (fun nb e => by cases e) (by omega) (Nat.le_trans N3.out FC6.out.size)).mono ?_
  rintro e w6 ⟨⟨v, rfl⟩, ho, hn, hf⟩
  have O6 := Lib.hid ho
  have N6 := Lib.hid hn
  have F6 := Lib.hid hf
  clear ho hn hf
  refine hK.out _ _ ⟨.inl (by kernel_rfl), trivial⟩ ?_
  clear hK K
  try simp only [Act.put, List.getElem_toArray, List.getElem_cons_zero, List.getElem_cons_succ, List.setIfInBounds_toArray, List.set_cons_zero, List.set_cons_succ]
  refine kr_done (by kernel_rfl) ?_ _
  obtain ⟨nb0, hnb0⟩ : ∃ nb0, newK q2 mac 0 = nb0 := ⟨_, rfl⟩
  have HNB := Lib.hid (show nb0.st = 2 ∧ nb0.ip = q2 ∧ nb0.pend = [] ∧ nb0.mac = mac from by subst hnb0; exact ⟨rfl, rfl, rfl, rfl⟩)
  have HNK := Lib.hid hnb0
  have O6' := Lib.hid (show One N w6 g (some nb0) from by have h := O6.out; rw [← hnb0]; exact h)
  have B36 := Lib.hid (show w6.heap[b3]? = _ from box_keep ((FC6.out.block b3 (lt_of_block B33.out) (fun e => e)).trans B33.out) HN.out.2 F6.out)
  have FW6 := Lib.hid (show Fr (fun _ => False) W w6 from (FW3.out.then' FC6.out).trans F6.out (fun i hi h => by have h : N ≤ i := h; have := HN.out.1; omega))
  clear hnb0 O6 FW3 B33 O3 N3 R3 D3 F6 FC6
  go_wp2_with fail
  go_loopw [9] (fun v wr => ∃ j : Nat, v = .int .i64 (1 + (j : Int)) ∧ j ≤ k ∧ One N wr g (some nb0) ∧ N ≤ wr.heap.size ∧ wr.heap[b3]? = some (.cells #[.int .u8 mac.a, .int .u8 mac.b, .int .u8 mac.c, .int .u8 mac.d, .int .u8 mac.e, .int .u8 mac.f] 27) ∧ Fr (fun _ => False) W wr) (fun v _ => k + 1 - (intOf v).toNat)
  case atStart => exact ⟨0, rfl, Nat.zero_le _, O6'.out, N6.out, B36.out, FW6.out⟩
  case round =>
    obtain ⟨j, rfl, hj, ho, hn, hb, hf⟩ := hrel
    have O7 := Lib.hid ho
    have N7 := Lib.hid hn
    have B7 := Lib.hid hb
    have FW7 := Lib.hid hf
    clear ho hn hb hf O6' N6 B36 FW6
    by_cases hlt : j < k
    · have hle : (1 : Int) + (j : Int) ≤ (k : Int) := by omega
      have hlt2 : ¬ (k : Int) < 1 + (j : Int) := by omega
      go_upto_region 10 with (go_at_call 18; refine (tick2 (1 + (j : Int)) O7.out HNB.out.1 HNB.out.2.2.1 (by omega) N7.out).mono ?_; rintro e w8 ⟨A8, c8, A9, c9, rfl, ho, hn, hf⟩; have O8 := Lib.hid ho; have N8 := Lib.hid hn; have F8 := Lib.hid hf; clear ho hn hf)
      have B8 := Lib.hid (box_keep B7.out HN.out.2 F8.out)
      have FW8 := Lib.hid (FW7.out.trans F8.out (fun i hi h => by have h : N ≤ i := h; have := HN.out.1; omega))
      go_wp2_with fail
      refine ⟨⟨j + 1, by go_num, by omega, O8.out, N8.out, B8.out, FW8.out⟩, by simp [intOf]; omega⟩
    · obtain ⟨w8, hw8⟩ : ∃ y, y = wr := ⟨_, rfl⟩
      subst hw8
      have hej : (j : Int) = (k : Int) := by omega
      have hgt : ¬ (1 : Int) + (j : Int) ≤ (k : Int) := by omega
      have hgt2 : (k : Int) < 1 + (j : Int) := by omega
      go_upto_region 12 with (fail)
      clear hlt hej hgt hgt2 hj
      obtain ⟨a0, ha0⟩ : ∃ a0, (if old64 nb0 (k : Int) = true then 1 else 0) = a0 := ⟨_, rfl⟩
      have HA0 := Lib.hid (show a0 = (if 64 ≤ k then 1 else 0) from by
        rw [← ha0, ← HNK.out]
        unfold old64 newK
        by_cases h : 64 ≤ k
        · rw [if_pos h, if_pos (by simp; omega)]
        · rw [if_neg h, if_neg (by simp; omega)])
      go_upto_region 13 with (first
        | (go_at_call 14; refine (ip14 2 _).mono ?_; rintro e w9 ⟨rfl, f9⟩; have F9 := Lib.hid f9; clear f9)
        | (go_at_call 16; refine (find1 5 (k : Int) (O7.out.fr F9.out) HNB.out.2.2.2 HNB.out.2.1 (by rw [HNB.out.1]; decide) (by omega) (Nat.le_trans N7.out F9.out.size)).mono ?_; rw [ha0]; rintro e w10 ⟨A10, c10, rfl, ho, hn, hf⟩; have O10 := Lib.hid ho; have N10 := Lib.hid hn; have F10 := Lib.hid hf; clear ho hn hf))
      clear ha0
      obtain ⟨hbm, hfm, _⟩ := one_new w10 #[.int .u8 mac.a, .int .u8 mac.b, .int .u8 mac.c, .int .u8 mac.d, .int .u8 mac.e, .int .u8 mac.f] 27
      generalize w10.alloc (.cells #[.int .u8 mac.a, .int .u8 mac.b, .int .u8 mac.c, .int .u8 mac.d, .int .u8 mac.e, .int .u8 mac.f] 27) = w11 at hbm hfm ⊢
      obtain ⟨bm, ebm⟩ : ∃ k, w10.heap.size = k := ⟨_, rfl⟩
      rw [ebm] at hbm ⊢
      have B9 := Lib.hid (show w10.heap[b3]? = _ from box_keep ((F9.out.block b3 (lt_of_block B7.out) (fun e => e)).trans B7.out) HN.out.2 F10.out)
      have B11 := Lib.hid (show w11.heap[b3]? = _ from (hfm.block b3 (lt_of_block B9.out) (fun e => e)).trans B9.out)
      have FW11 := Lib.hid (((FW7.out.then' F9.out).trans F10.out (fun i hi h => by have h : N ≤ i := h; have := HN.out.1; omega)).then' hfm)
      have O11 := Lib.hid (O10.out.fr hfm)
      have N11 := Lib.hid (Nat.le_trans N10.out hfm.size)
      have RM := Lib.hid (range_at w11 bm [.int .u8 mac.a, .int .u8 mac.b, .int .u8 mac.c, .int .u8 mac.d, .int .u8 mac.e, .int .u8 mac.f] 27 hbm)
      have RB := Lib.hid (range_at w11 b3 [.int .u8 mac.a, .int .u8 mac.b, .int .u8 mac.c, .int .u8 mac.d, .int .u8 mac.e, .int .u8 mac.f] 27 B11.out)
      have HNM := Lib.hid (neqM' HM.out w11)
      clear hbm hfm ebm O7 N7 B7 FW7 F9 F10 O10 N10 B9
      go_cut [95] (fun v95 wc => v95 = .bool false ∧ wc = w11)
      case first =>
        iterate 200 (first
          | (have := MK3; clear this)
          | (refine wpList_load_when (by rfl) 27 _ rfl bm 0 rfl [.int .u8 mac.a, .int .u8 mac.b, .int .u8 mac.c, .int .u8 mac.d, .int .u8 mac.e, .int .u8 mac.f] _ RM.out Try.underlying27 rfl (by kernel_rfl) ?_)
          | (refine wpList_load_when (by rfl) 27 _ rfl b3 0 rfl [.int .u8 mac.a, .int .u8 mac.b, .int .u8 mac.c, .int .u8 mac.d, .int .u8 mac.e, .int .u8 mac.f] _ RB.out Try.underlying27 rfl (by kernel_rfl) ?_)
          | (refine wpList_bin_agg (by rfl) .neq 27 27 _ _ rfl rfl rfl (by kernel_rfl) _ HNM.out ?_; have MK3 := Lib.hid True.intro)
          | go_step)
        by_cases h64 : 64 ≤ k
        · have ha : a0 = 1 := by rw [HA0.out, if_pos h64]
          subst ha
          have h64I : (64 : Int) ≤ (k : Int) := by omega
          go_wp2_with fail
          go_meet
          exact ⟨rfl, rfl⟩
        · have ha : a0 = 0 := by rw [HA0.out, if_neg h64]
          subst ha
          have h64I : ¬ (64 : Int) ≤ (k : Int) := by omega
          have h64J : (k : Int) < 64 := by omega
          go_wp2_with fail
          go_meet
          exact ⟨rfl, rfl⟩
      case rest =>
      obtain ⟨rfl, hwc⟩ := hcut
      subst hwc
      have HI0 := Lib.hid (show AInv k ans 0 (some (findNb nb0 (k : Int))) a0 from by rw [HA0.out, ← HNK.out]; exact AInv.first)
      clear HA0 RM RB HNM
      obtain ⟨o0, ho0⟩ : ∃ o0, some (findNb nb0 (k : Int)) = o0 := ⟨_, rfl⟩
      rw [ho0] at HI0 O11
      clear ho0 HNB HNK
      as_aux_lemma =>
      go_wp2_with fail
      go_loopw [16, 17] (fun v16 v17 wr => ∃ (j : Nat) (o : Option Nb) (a : Nat), v16 = .int .i64 (a : Int) ∧ v17 = .int .i64 ((k : Int) + 1 + (j : Int)) ∧ j ≤ 10 ∧ AInv k ans j o a ∧ One N wr g o ∧ N ≤ wr.heap.size ∧ wr.heap[b3]? = some (.cells #[.int .u8 mac.a, .int .u8 mac.b, .int .u8 mac.c, .int .u8 mac.d, .int .u8 mac.e, .int .u8 mac.f] 27) ∧ Fr (fun _ => False) W wr) (fun v16 v17 _ => k + 12 - (intOf v17).toNat)
      case atStart => exact ⟨0, o0, a0, rfl, by go_num, by omega, HI0.out, O11.out, N11.out, B11.out, FW11.out⟩
      case round =>
        obtain ⟨j, o, a, rfl, rfl, hj, hi, ho, hn, hb, hf⟩ := hrel
        have HI := Lib.hid hi
        have O7 := Lib.hid ho
        have N7 := Lib.hid hn
        have B7 := Lib.hid hb
        have FW7 := Lib.hid hf
        have ha3 : a ≤ 3 := hi.small.1
        clear hi ho hn hb hf HI0 O11 N11 B11 FW11
        by_cases hlt : j < 10
        · obtain ⟨o', n', htk⟩ : ∃ o' n', tkL ((k : Int) + 1 + (j : Int)) o = (o', n') := ⟨_, _, rfl⟩
          have hn1 : n' ≤ 1 := by have h := tkL_le ((k : Int) + 1 + (j : Int)) o; rw [htk] at h; exact h
          have HTK := Lib.hid htk
          have HT1 := Lib.hid (tick1 ((k : Int) + 1 + (j : Int)) O7.out (fun nb e => (HI.out.small.2 nb e).2) (by omega) N7.out)
          simp only [htk] at HT1
          clear htk
          have hle : (k : Int) + 1 + (j : Int) ≤ (k : Int) + 10 := by omega
          have hnle : ¬ (k : Int) + 10 < (k : Int) + 1 + (j : Int) := by omega
          go_upto_region 20 with (go_at_call 18; refine HT1.out.mono ?_; rintro e w8 ⟨A8, c8, A9, c9, rfl, ho, hn, hf⟩; have O8 := Lib.hid ho; have N8 := Lib.hid hn; have F8 := Lib.hid hf; clear ho hn hf HT1)
          have B8 := Lib.hid (box_keep B7.out HN.out.2 F8.out)
          have FW8 := Lib.hid (FW7.out.trans F8.out (fun i hi h => by have h : N ≤ i := h; have := HN.out.1; omega))
          clear O7 N7 B7 FW7 F8 hle hnle
          go_upto_region 23 with (fail)
          cases ans with
          | false =>
            go_wp2_with fail
            refine ⟨⟨j + 1, o', a + n', by go_num, by go_num, by omega, ?_, O8.out, N8.out, B8.out, FW8.out⟩, by simp [intOf]; omega⟩
            have h := HI.out.next (fun h => by cases h.1)
            rw [HTK.out] at h
            exact h
          | true =>
            by_cases hj0 : j = 0
            · have htest : ((k : Int) + 1 + (j : Int) == (k : Int) + 1) = true := by rw [hj0]; simp
              have HJ0 := Lib.hid hj0
              clear hj0
              obtain ⟨nb, htk0, hip, _, hAI⟩ := AInv.heard (later := k) (o := o) (a := a) (by have h := HI.out; rw [HJ0.out] at h; exact h)
              have hoo : o' = some nb ∧ n' = 0 := by
                have h := HTK.out
                rw [HJ0.out, htk0] at h
                cases h
                exact ⟨rfl, rfl⟩
              have HOO := Lib.hid hoo
              have HAI := Lib.hid hAI
              have HIP := Lib.hid hip
              have O8s := Lib.hid (show One N w8 g (some nb) from by have h := O8.out; rw [hoo.1] at h; exact h)
              clear hoo hAI hip htk0
              go_upto_region 24 with (fail)
              have D8 := Lib.hid ((Fr.refl (fun _ => False) w8).drew)
              have R8 := Lib.hid (show w8.drew.rangeAt b3 0 [.int .u8 mac.a, .int .u8 mac.b, .int .u8 mac.c, .int .u8 mac.d, .int .u8 mac.e, .int .u8 mac.f] from range_at w8.drew b3 _ 27 B8.out)
              refine kr_start [(1, fun W => W.rangeAt b3 0 [.int .u8 mac.a, .int .u8 mac.b, .int .u8 mac.c, .int .u8 mac.d, .int .u8 mac.e, .int .u8 mac.f])] (by kernel_rfl) (by kernel_rfl) ?_
              refine kr_find 0 rfl (by kernel_rfl) (by kernel_rfl) (by kernel_rfl) (fun _ _ _ _ h => h) (by rfl) trivial ?_
              apply Exists.intro; apply And.intro
              · intro w' hS K hK
                clear hS
                go_light
                go_simp
                exact hK.out
              try simp only [Act.put, List.getElem_toArray, List.getElem_cons_zero, List.getElem_cons_succ, List.setIfInBounds_toArray, List.set_cons_zero, List.set_cons_succ]
              refine kr_take 1 rfl (by kernel_rfl) (by kernel_rfl) (by kernel_rfl) (fun _ _ _ h => h) (yieldsIf_load_mid (by rfl) 27 _ rfl (b3) (0) rfl ([.int .u8 mac.a, .int .u8 mac.b, .int .u8 mac.c, .int .u8 mac.d, .int .u8 mac.e, .int .u8 mac.f]) _ (fun _ h => h) Try.underlying27 rfl (by kernel_rfl)) (show _ from R8.out) ?_
              try simp only [Act.put, List.getElem_toArray, List.getElem_cons_zero, List.getElem_cons_succ, List.setIfInBounds_toArray, List.set_cons_zero, List.set_cons_succ]
              refine kr_find 5 rfl (by kernel_rfl) (by kernel_rfl) (by kernel_rfl) (fun _ _ _ _ h => h) (by rfl) trivial ?_
              apply Exists.intro; apply And.intro
              · intro w' hS K hK
                clear hS
                go_light
                go_simp
                exact hK.out
              try simp only [Act.put, List.getElem_toArray, List.getElem_cons_zero, List.getElem_cons_succ, List.setIfInBounds_toArray, List.set_cons_zero, List.set_cons_succ]
              refine kr_one 2 (by kernel_rfl) rfl (by rfl) (fun K hK => ?_)
              go_simp
              go_at_call 14
              refine (ip14 2 _).mono ?_
              rintro e w20 ⟨rfl, fx⟩
              have Fw20 := Lib.hid (D8.out.then' fx)
              clear fx
              refine hK.out _ _ ⟨.inr (rblk (Fw20.out.block b3 (lt_of_block B8.out) (fun e => e)) (range_at w8 b3 _ 27 B8.out)), trivial⟩ ?_
              clear hK K
              try simp only [Act.put, List.getElem_toArray, List.getElem_cons_zero, List.getElem_cons_succ, List.setIfInBounds_toArray, List.set_cons_zero, List.set_cons_succ]
              refine kr_one 3 (by kernel_rfl) rfl (by rfl) (fun K hK => ?_)
              go_simp
              go_at_call 14
              refine (ip14 1 _).mono ?_
              rintro e w21 ⟨rfl, fx⟩
              have FC22 := Lib.hid (Fw20.out.then' fx)
              clear fx
              refine hK.out _ _ ⟨.inr (rblk (FC22.out.block b3 (lt_of_block B8.out) (fun e => e)) (range_at w8 b3 _ 27 B8.out)), trivial⟩ ?_
              clear hK K
              try simp only [Act.put, List.getElem_toArray, List.getElem_cons_zero, List.getElem_cons_succ, List.setIfInBounds_toArray, List.set_cons_zero, List.set_cons_succ]
              refine kr_take 4 rfl (by kernel_rfl) (by kernel_rfl) (by kernel_rfl) (fun _ _ _ h => h) (kr_build bd33 rfl rfl [(0, .bool true), (1, .agg #[.int .u8 mac.a, .int .u8 mac.b, .int .u8 mac.c, .int .u8 mac.d, .int .u8 mac.e, .int .u8 mac.f]), (2, .agg #[.int .u8 10, .int .u8 0, .int .u8 0, .int .u8 2]), (4, .agg #[.int .u8 10, .int .u8 0, .int .u8 0, .int .u8 1])] (by rfl) #[.bool true, .int .u8 mac.a, .int .u8 mac.b, .int .u8 mac.c, .int .u8 mac.d, .int .u8 mac.e, .int .u8 mac.f, .int .u8 10, .int .u8 0, .int .u8 0, .int .u8 2, .int .u8 0, .int .u8 0, .int .u8 0, .int .u8 0, .int .u8 0, .int .u8 0, .int .u8 10, .int .u8 0, .int .u8 0, .int .u8 1] (aq33 mac)) trivial ?_
              try simp only [Act.put, List.getElem_toArray, List.getElem_cons_zero, List.getElem_cons_succ, List.setIfInBounds_toArray, List.set_cons_zero, List.set_cons_succ]
              refine kr_one 6 (by kernel_rfl) rfl (by rfl) (fun K hK => ?_)
              go_simp
              go_at_call 15
              refine (heard1 mac HM.out ((k : Int) + 1 + (j : Int)) (O8s.out.fr FC22.out) (fun nb e => by cases e; exact HIP.out) (by omega) (Nat.le_trans N8.out FC22.out.size)).mono ?_
              rintro e w22 ⟨⟨v, rfl⟩, ho, hn, hf⟩
              have O22 := Lib.hid ho
              have N22 := Lib.hid hn
              have F22 := Lib.hid hf
              clear ho hn hf
              refine hK.out _ _ ⟨.inl (by kernel_rfl), trivial⟩ ?_
              clear hK K
              try simp only [Act.put, List.getElem_toArray, List.getElem_cons_zero, List.getElem_cons_succ, List.setIfInBounds_toArray, List.set_cons_zero, List.set_cons_succ]
              refine kr_done (by kernel_rfl) ?_ _
              go_wp2_with fail
              refine ⟨⟨j + 1, _, a + n', by go_num, by go_num, by omega, ?_, O22.out, N22.out, box_keep ((FC22.out.block b3 (lt_of_block B8.out) (fun e => e)).trans B8.out) HN.out.2 F22.out, (FW8.out.then' FC22.out).trans F22.out (fun i hi h => by have h : N ≤ i := h; have := HN.out.1; omega)⟩, by simp [intOf]; omega⟩
              have h := HAI.out mac ((k : Int) + 1 + (j : Int))
              rw [HJ0.out, HOO.out.2]
              rw [HJ0.out] at h
              exact h
            · have htest : ((k : Int) + 1 + (j : Int) == (k : Int) + 1) = false := by simp; omega
              go_wp2_with fail
              refine ⟨⟨j + 1, o', a + n', by go_num, by go_num, by omega, ?_, O8.out, N8.out, B8.out, FW8.out⟩, by simp [intOf]; omega⟩
              have h := HI.out.next (fun h => hj0 h.2)
              rw [HTK.out] at h
              exact h
        · obtain ⟨w8, hw8⟩ : ∃ y, y = wr := ⟨_, rfl⟩
          subst hw8
          have hj10 : j = 10 := by omega
          have HJ := Lib.hid hj10
          have hgt : ¬ (k : Int) + 1 + (j : Int) ≤ (k : Int) + 10 := by omega
          have hgt2 : (k : Int) + 10 < (k : Int) + 1 + (j : Int) := by omega
          clear hj10 hlt
          go_upto_region 25 with (fail)
          clear hgt hgt2
          have HL := Lib.hid (AInv.last (later := k) (ans := ans) (o := o) (a := a) (by have h := HI.out; rw [HJ.out] at h; exact h))
          by_cases hk : k < 64 ∨ ans = true
          · obtain ⟨nb, hoe, hst, hip, _, ha1⟩ := HL.out.1 hk
            subst hoe
            have HF := Lib.hid (And.intro hst hip)
            clear hst hip
            have ha1I : (a : Int) ≤ 1 := by omega
            have ha1J : ¬ 1 < (a : Int) := by omega
            obtain ⟨y1, hy1⟩ : ∃ y, (if old64 nb ((k : Int) + 10) = true then 1 else 0) = y := ⟨_, rfl⟩
            go_upto_region 26 with (first
              | (go_at_call 14; refine (ip14 2 _).mono ?_; rintro e w9 ⟨rfl, f9⟩; have F9 := Lib.hid f9; clear f9)
              | (go_at_call 16; refine (find1 6 ((k : Int) + 10) (O7.out.fr F9.out) rfl HF.out.2 (by rw [HF.out.1]; decide) (by omega) (Nat.le_trans N7.out F9.out.size)).mono ?_; rw [hy1]; rintro e w10 ⟨A10, c10, rfl, ho, hn, hf⟩; have F10 := Lib.hid hf; clear ho hn hf))
            clear hy1
            have FW10 := Lib.hid ((FW7.out.then' F9.out).trans F10.out (fun i hi h => by have h : N ≤ i := h; have := HN.out.1; omega))
            have FWx := Lib.hid (FW10.out.alloc (.cells #[.int .u8 nb.mac.a, .int .u8 nb.mac.b, .int .u8 nb.mac.c, .int .u8 nb.mac.d, .int .u8 nb.mac.e, .int .u8 nb.mac.f] 27))
            generalize w10.alloc (.cells #[.int .u8 nb.mac.a, .int .u8 nb.mac.b, .int .u8 nb.mac.c, .int .u8 nb.mac.d, .int .u8 nb.mac.e, .int .u8 nb.mac.f] 27) = w11 at FWx ⊢
            by_cases h64 : k < 64
            · have h64I : (k : Int) < 64 := by omega
              go_wp2_with fail
              go_ret
              exact ⟨rfl, FWx.out⟩
            · have hat : ans = true := hk.resolve_left h64
              subst hat
              have h64I : ¬ (k : Int) < 64 := by omega
              go_wp2_with fail
              go_ret
              exact ⟨rfl, FWx.out⟩
          · obtain ⟨hoe, ha⟩ := HL.out.2 hk
            subst hoe
            subst ha
            have h64I : ¬ (k : Int) < 64 := by omega
            have haf : ans = false := by
              cases ans with
              | false => rfl
              | true => exact absurd (.inr rfl) hk
            subst haf
            go_upto_region 26 with (first
              | (go_at_call 14; refine (ip14 2 _).mono ?_; rintro e w9 ⟨rfl, f9⟩; have F9 := Lib.hid f9; clear f9)
              | (go_at_call 16; refine (find0 6 ((k : Int) + 10) (O7.out.fr F9.out) (by omega) (Nat.le_trans N7.out F9.out.size)).mono ?_; rintro e w10 ⟨A10, c10, rfl, ho, hn, hf⟩; have O10 := Lib.hid ho; have F10 := Lib.hid hf; clear ho hn hf))
            have FW10 := Lib.hid ((FW7.out.then' F9.out).trans F10.out (fun i hi h => by have h : N ≤ i := h; have := HN.out.1; omega))
            have FX := Lib.hid ((Fr.refl (fun _ => False) w10).alloc (.cells #[.int .u8 0, .int .u8 0, .int .u8 0, .int .u8 0, .int .u8 0, .int .u8 0] 27))
            generalize w10.alloc (.cells #[.int .u8 0, .int .u8 0, .int .u8 0, .int .u8 0, .int .u8 0, .int .u8 0] 27) = w11 at FX ⊢
            have O11 := Lib.hid (O10.out.fr FX.out)
            have hp1 : (nbNew q2 ((k : Int) + 10) 6).pend.length = 1 := rfl
            have HP := Lib.hid (pend1 O11.out)
            rw [hp1] at HP
            clear hp1
            go_wp2_with (go_at_call 19; refine HP.out.mono ?_; rintro e w12 ⟨A12, c12, rfl, hf⟩; have F12 := Lib.hid hf; clear hf HP)
            go_ret
            exact ⟨rfl, FW10.out.then' (FX.out.then' F12.out)⟩
end Go.Proofs.Ytfnphkijalkllaa
