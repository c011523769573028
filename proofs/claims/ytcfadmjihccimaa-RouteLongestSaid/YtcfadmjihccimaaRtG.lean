/- The reference's table of law 10: Find. No condition but lengths. -/
import Derived.Test.YtcfadmjihccimaaRtF
namespace Go.Proofs.Ytcfadmjihccimaa
set_option linter.unusedVariables false
set_option linter.unusedSimpArgs false
open Go.RowKit
theorem results_cell35 (tmps : Array Value) (w : World) (b : Nat) (cs : List Value) (hp : tmps.getD 4 undef = .pointer (some ⟨b, 0, none⟩)) (hl : (loadVar 45 ⟨b, 0, none⟩).run Try.prog w = .ok (.agg cs.toArray) w) :
    (results Try.f35 tmps).run Try.prog w = .ok (.tuple #[.agg cs.toArray, tmps.getD 5 undef]) w := by
  have ha : (asAddr (.pointer (some ⟨b, 0, none⟩))).run Try.prog w = .ok ⟨b, 0, none⟩ w := by rfl
  rw [Array.getD_eq_getD_getElem?] at *
  simp [results, Try.results35, hp, hl, ha, Sem.run_bind]
theorem results_set35 (tmps : Array Value) (w : World) (b : Nat) (k : I4) (hp : tmps.getD 4 undef = .pointer (some ⟨b, 0, none⟩)) (ht : w.there b 0 4) :
    (results Try.f35 tmps).run Try.prog (w.setCells b 0 k.cells) = .ok (.tuple #[.agg k.cells.toArray, tmps.getD 5 undef]) (w.setCells b 0 k.cells) :=
  results_cell35 tmps _ b k.cells hp (run_loadVar_mid _ b 0 45 k.cells _ (World.rangeAt_setCells_same w b 0 k.cells ht) Try.underlying45 rfl (by kernel_rfl))
/-- The best way so far. -/
def betterW (ip : I4) (x : W10) (acc : Option (Nat × W10)) : Bool := begB x.n ip x.bits.toNat && (match acc with | none => true | some p => decide (p.2.bits < x.bits))
def bst (ip : I4) : List W10 → Nat → Option (Nat × W10) → Option (Nat × W10)
  | [], _, acc => acc
  | x :: r, i, acc => bst ip r (i + 1) (if betterW ip x acc = true then some (i, x) else acc)
def accI (acc : Option (Nat × W10)) : Int := match acc with | none => -1 | some p => p.1
def findA (R : List W10) (ip : I4) : I4 := match bst ip R 0 none with | none => I4.zero | some p => if p.2.via then p.2.g else ip
def findE (R : List W10) (ip : I4) : Int := match bst ip R 0 none with | none => 100 | some p => 0
theorem mayW_bits {x : W10} (h : mayW x = true) : 0 ≤ x.bits ∧ x.bits ≤ 32 := by
  unfold mayW at h
  simp only [Bool.and_eq_true, decide_eq_true_eq] at h
  exact ⟨h.1, h.2.1⟩
theorem range_q {w : World} {b o : Nat} {q : W10} (h : ∀ j v, q.cells[j]? = some v → w.cell? ⟨b, o + j, none⟩ = some v) : w.rangeAt b o q.n.cells := fun j v hj => by
  match j, hj with
  | 0, hj => exact h 0 v hj
  | 1, hj => exact h 1 v hj
  | 2, hj => exact h 2 v hj
  | 3, hj => exact h 3 v hj
  | j + 4, hj => simp [I4.cells] at hj
theorem range_g {w : World} {b o : Nat} {q : W10} (h : ∀ j v, q.cells[j]? = some v → w.cell? ⟨b, o + j, none⟩ = some v) : w.rangeAt b (o + 5) q.g.cells := fun j v hj => by
  match j, hj with
  | 0, hj => exact h 5 v hj
  | 1, hj => exact h 6 v hj
  | 2, hj => exact h 7 v hj
  | 3, hj => exact h 8 v hj
  | j + 4, hj => simp [I4.cells] at hj
theorem bits_q {w : World} {b o nb : Nat} {q : W10} (h : ∀ j v, q.cells[j]? = some v → w.cell? ⟨b, o + j, none⟩ = some v) (hn : q.bits = nb) : w.cell? ⟨b, o + 4, none⟩ = some (.int .i64 nb) := by
  rw [← hn]; exact h 4 _ rfl
set_option maxHeartbeats 16000000 in
set_option maxRecDepth 100000 in
theorem rfind35 (N g : Nat) (R : List W10) (lv : Value) (key : I4) (w : World) (hk : key.ok) (hR : RrAt N w g R lv) (hlen : R.length ≤ 8) (hmay : ∀ p ∈ R, mayW p = true) :
    Calls Try.prog 35 #[.pointer (some ⟨g, 0, none⟩), .agg #[.int .u8 key.a, .int .u8 key.b, .int .u8 key.c, .int .u8 key.d]] w fun e w' => e = .returned (.tuple #[.agg (findA R key).cells.toArray, .int .i64 (findE R key)]) ∧ Fr (fun _ => False) w w' := by
  have FA := Lib.hid (Fr.refl (fun _ => False) w)
  have HX := Lib.hid hk
  have HR := Lib.hid hR
  have HM := Lib.hid hmay
  obtain ⟨n, hn⟩ : ∃ n, R.length = n := ⟨_, rfl⟩
  have Hn := Lib.hid hn
  obtain ⟨A, cap, hv, _, _⟩ := hR.sl.form
  rw [hn] at hv hlen
  subst hv
  obtain ⟨ra, hra⟩ : ∃ ra, findA R key = ra := ⟨_, rfl⟩
  obtain ⟨re, hre⟩ : ∃ re, findE R key = re := ⟨_, rfl⟩
  rw [hra, hre]
  have HR0 := Lib.hid (And.intro hra hre)
  clear hk hR hra hre hn hmay
  go_enter Try.func35, Try.ntmps35
  go_upto_region 1 with (fail)
  obtain ⟨w1, hw1⟩ : ∃ w1, (w.alloc (.cells #[.int .u8 key.a, .int .u8 key.b, .int .u8 key.c, .int .u8 key.d] 45)).alloc (.cells #[.int .u8 0, .int .u8 0, .int .u8 0, .int .u8 0] 45) = w1 := ⟨_, rfl⟩
  have g0 : w1.heap[w.heap.size]? = some (.cells #[.int .u8 key.a, .int .u8 key.b, .int .u8 key.c, .int .u8 key.d] 45) := by
    rw [← hw1, Below.heap_alloc _ _ _ (by simp)]; exact heap_alloc_new w _
  have g1 : w1.heap[w.heap.size + 1]? = some (.cells #[.int .u8 0, .int .u8 0, .int .u8 0, .int .u8 0] 45) := by
    rw [← hw1]; have := heap_alloc_new (w.alloc (.cells #[.int .u8 key.a, .int .u8 key.b, .int .u8 key.c, .int .u8 key.d] 45)) (.cells #[.int .u8 0, .int .u8 0, .int .u8 0, .int .u8 0] 45); simpa using this
  have F1 := Lib.hid (show Fr (fun _ => False) w w1 from hw1 ▸ (FA.out.alloc _).alloc _)
  rw [hw1]
  clear hw1
  obtain ⟨b0, hb0⟩ : ∃ b0, w.heap.size = b0 := ⟨_, rfl⟩
  have HB0 := Lib.hid hb0
  rw [hb0] at g0 g1 ⊢
  clear hb0
  have HBX := Lib.hid (fun (w' : World) (f : Fr (fun _ => False) w1 w') => range_at w' b0 key.cells 45 ((f.block _ (lt_of_block g0) (fun e => e)).trans g0))
  have HT := Lib.hid (fun (w' : World) (f : Fr (fun _ => False) w1 w') => show w'.there (b0 + 1) 0 4 from there_at w' (b0 + 1) [.int .u8 0, .int .u8 0, .int .u8 0, .int .u8 0] 45 ((f.block _ (lt_of_block g1) (fun e => e)).trans g1))
  have H1 := Lib.hid (fun (w' : World) (f : Fr (fun _ => False) w1 w') => HR.out.fr (F1.out.then' f))
  clear g0 g1
  go_wp2_with fail
  go_loopw [6, 7] (fun v6 v7 wr => ∃ (i : Nat) (acc : Option (Nat × W10)), v7 = .int .i64 i ∧ i ≤ n ∧ v6 = .int .i64 (accI acc) ∧ (∀ p, acc = some p → R[p.1]? = some p.2) ∧ bst key (R.drop i) i acc = bst key R 0 none ∧ Fr (fun _ => False) w1 wr) (fun _ v _ => n - (intOf v).toNat)
  case atStart => exact ⟨0, none, rfl, Nat.zero_le _, rfl, (fun p h => by cases h), rfl, Fr.refl _ _⟩
  case round =>
    obtain ⟨i, acc, rfl, hi, rfl, hacc, hbst, hf⟩ := hrel
    have Hacc := Lib.hid hacc
    have Hbst := Lib.hid hbst
    have Hf := Lib.hid hf
    clear hacc hbst hf
    have HRr := Lib.hid (H1.out wr Hf.out)
    have cg := HRr.out.line
    by_cases hlt : i < n
    · obtain ⟨q, hq⟩ : ∃ q, R[i]? = some q := ⟨_, List.getElem?_eq_getElem (by rw [Hn.out]; exact hlt)⟩
      have Hq := Lib.hid hq
      have hqb := mayW_bits (HM.out q (List.mem_of_getElem? hq))
      have HQO := Lib.hid (HR.out.ok q (List.mem_of_getElem? hq))
      obtain ⟨nb, hnb⟩ : ∃ nb : Nat, q.bits = nb := ⟨q.bits.toNat, by omega⟩
      have HNB := Lib.hid hnb
      have hnb32 : nb ≤ 32 := by omega
      obtain ⟨bg, hbg⟩ : ∃ bg, begB q.n key nb = bg := ⟨_, rfl⟩
      have HBG := Lib.hid hbg
      have HDR := Lib.hid (show R.drop i = q :: R.drop (i + 1) from by
        obtain ⟨hl, e⟩ := List.getElem?_eq_some_iff.1 hq
        rw [← List.getElem_cons_drop hl, e])
      clear hqb hnb hbg hq
      go_upto_region 5 with (fail)
      obtain ⟨b, off, cap', hv', hcap', _, _, _⟩ := HRr.out.at Hn.out (by omega)
      injection hv' with hv1 _ hv2
      subst hv1; subst hv2
      have HC := Lib.hid (fun (w' : World) (f : Fr (fun _ => False) w1 w') => show (∀ i q, R[i]? = some q → ∀ j v, q.cells[j]? = some v → w'.cell? ⟨b, off + i * 10 + j, none⟩ = some v) from by
        obtain ⟨b', off', cap', hv', _, _, hc, _⟩ := (H1.out w' f).at Hn.out (by omega)
        injection hv' with hv1 _ hv2
        injection hv1 with hv1
        injection hv1 with hv3 hv4
        subst hv3; subst hv4
        exact hc)
      have hiI : (i : Int) < (n : Int) := by omega
      clear cg
      refine kr_start [(3, fun W => W.cell? ⟨g, 0, none⟩ = some (.slice (some ⟨b, off, none⟩) n cap)), (7, fun W => W.rangeAt b (off + i * 10) q.n.cells), (8, fun W => W.rangeAt b0 0 key.cells), (12, fun W => W.cell? ⟨g, 0, none⟩ = some (.slice (some ⟨b, off, none⟩) n cap)), (16, fun W => W.cell? ⟨b, off + i * 10 + 4, none⟩ = some (.int .i64 nb))] (by kernel_rfl) (by kernel_rfl) ?_
      refine kr_find 0 rfl (by kernel_rfl) (by kernel_rfl) (by kernel_rfl) (fun _ _ _ _ h => h) (by rfl) trivial ?_
      apply Exists.intro; apply And.intro
      · intro w' hS K hK
        clear hS
        go_light
        go_simp
        exact hK.out
      try simp only [Act.put, List.getElem_toArray, List.getElem_cons_zero, List.getElem_cons_succ, List.setIfInBounds_toArray, List.set_cons_zero, List.set_cons_succ]
      refine kr_find 1 rfl (by kernel_rfl) (by kernel_rfl) (by kernel_rfl) (fun _ _ _ _ h => h) (by rfl) trivial ?_
      apply Exists.intro; apply And.intro
      · intro w' hS K hK
        clear hS
        go_light
        go_simp
        exact hK.out
      try simp only [Act.put, List.getElem_toArray, List.getElem_cons_zero, List.getElem_cons_succ, List.setIfInBounds_toArray, List.set_cons_zero, List.set_cons_succ]
      refine kr_find 2 rfl (by kernel_rfl) (by kernel_rfl) (by kernel_rfl) (fun _ _ _ _ h => h) (by rfl) trivial ?_
      apply Exists.intro; apply And.intro
      · intro w' hS K hK
        clear hS
        go_light
        go_simp
        exact hK.out
      try simp only [Act.put, List.getElem_toArray, List.getElem_cons_zero, List.getElem_cons_succ, List.setIfInBounds_toArray, List.set_cons_zero, List.set_cons_succ]
      refine kr_find 3 rfl (by kernel_rfl) (by kernel_rfl) (by kernel_rfl) (fun _ _ _ _ h => h) (by rfl) (show _ from (H1.out _ Hf.out.drew).line) ?_
      apply Exists.intro; apply And.intro
      · intro w' hS K hK
        have hS : w'.cell? ⟨g, 0, none⟩ = some (.slice (some ⟨b, off, none⟩) n cap) := hS
        go_light
        go_simp
        exact hK.out
      try simp only [Act.put, List.getElem_toArray, List.getElem_cons_zero, List.getElem_cons_succ, List.setIfInBounds_toArray, List.set_cons_zero, List.set_cons_succ]
      refine kr_find 4 rfl (by kernel_rfl) (by kernel_rfl) (by kernel_rfl) (fun _ _ _ _ h => h) (by rfl) trivial ?_
      apply Exists.intro; apply And.intro
      · intro w' hS K hK
        clear hS
        go_light
        go_simp
        exact hK.out
      try simp only [Act.put, List.getElem_toArray, List.getElem_cons_zero, List.getElem_cons_succ, List.setIfInBounds_toArray, List.set_cons_zero, List.set_cons_succ]
      refine kr_find 5 rfl (by kernel_rfl) (by kernel_rfl) (by kernel_rfl) (fun _ _ _ _ h => h) (by rfl) trivial ?_
      apply Exists.intro; apply And.intro
      · intro w' hS K hK
        clear hS
        go_light
        go_simp
        exact hK.out
      try simp only [Act.put, List.getElem_toArray, List.getElem_cons_zero, List.getElem_cons_succ, List.setIfInBounds_toArray, List.set_cons_zero, List.set_cons_succ]
      refine kr_find 6 rfl (by kernel_rfl) (by kernel_rfl) (by kernel_rfl) (fun _ _ _ _ h => h) (by rfl) trivial ?_
      apply Exists.intro; apply And.intro
      · intro w' hS K hK
        clear hS
        go_light
        go_simp
        exact hK.out
      try simp only [Act.put, List.getElem_toArray, List.getElem_cons_zero, List.getElem_cons_succ, List.setIfInBounds_toArray, List.set_cons_zero, List.set_cons_succ]
      refine kr_take 7 rfl (by kernel_rfl) (by kernel_rfl) (by kernel_rfl) (fun _ _ _ h => h) (yieldsIf_load_mid (by rfl) 45 _ rfl (b) (off + i * 10) rfl (q.n.cells) _ (fun _ h => h) Try.underlying45 rfl (by kernel_rfl)) (show _ from (range_q (HC.out _ Hf.out.drew i q Hq.out))) ?_
      try simp only [Act.put, List.getElem_toArray, List.getElem_cons_zero, List.getElem_cons_succ, List.setIfInBounds_toArray, List.set_cons_zero, List.set_cons_succ]
      refine kr_take 8 rfl (by kernel_rfl) (by kernel_rfl) (by kernel_rfl) (fun _ _ _ h => h) (yieldsIf_load_mid (by rfl) 45 _ rfl (b0) (0) rfl (key.cells) _ (fun _ h => h) Try.underlying45 rfl (by kernel_rfl)) (show _ from HBX.out _ Hf.out.drew) ?_
      try simp only [Act.put, List.getElem_toArray, List.getElem_cons_zero, List.getElem_cons_succ, List.setIfInBounds_toArray, List.set_cons_zero, List.set_cons_succ]
      refine kr_find 9 rfl (by kernel_rfl) (by kernel_rfl) (by kernel_rfl) (fun _ _ _ _ h => h) (by rfl) trivial ?_
      apply Exists.intro; apply And.intro
      · intro w' hS K hK
        clear hS
        go_light
        go_simp
        exact hK.out
      try simp only [Act.put, List.getElem_toArray, List.getElem_cons_zero, List.getElem_cons_succ, List.setIfInBounds_toArray, List.set_cons_zero, List.set_cons_succ]
      refine kr_find 10 rfl (by kernel_rfl) (by kernel_rfl) (by kernel_rfl) (fun _ _ _ _ h => h) (by rfl) trivial ?_
      apply Exists.intro; apply And.intro
      · intro w' hS K hK
        clear hS
        go_light
        go_simp
        exact hK.out
      try simp only [Act.put, List.getElem_toArray, List.getElem_cons_zero, List.getElem_cons_succ, List.setIfInBounds_toArray, List.set_cons_zero, List.set_cons_succ]
      refine kr_find 11 rfl (by kernel_rfl) (by kernel_rfl) (by kernel_rfl) (fun _ _ _ _ h => h) (by rfl) trivial ?_
      apply Exists.intro; apply And.intro
      · intro w' hS K hK
        clear hS
        go_light
        go_simp
        exact hK.out
      try simp only [Act.put, List.getElem_toArray, List.getElem_cons_zero, List.getElem_cons_succ, List.setIfInBounds_toArray, List.set_cons_zero, List.set_cons_succ]
      refine kr_find 12 rfl (by kernel_rfl) (by kernel_rfl) (by kernel_rfl) (fun _ _ _ _ h => h) (by rfl) (show _ from (H1.out _ Hf.out.drew).line) ?_
      apply Exists.intro; apply And.intro
      · intro w' hS K hK
        have hS : w'.cell? ⟨g, 0, none⟩ = some (.slice (some ⟨b, off, none⟩) n cap) := hS
        go_light
        go_simp
        exact hK.out
      try simp only [Act.put, List.getElem_toArray, List.getElem_cons_zero, List.getElem_cons_succ, List.setIfInBounds_toArray, List.set_cons_zero, List.set_cons_succ]
      refine kr_find 13 rfl (by kernel_rfl) (by kernel_rfl) (by kernel_rfl) (fun _ _ _ _ h => h) (by rfl) trivial ?_
      apply Exists.intro; apply And.intro
      · intro w' hS K hK
        clear hS
        go_light
        go_simp
        exact hK.out
      try simp only [Act.put, List.getElem_toArray, List.getElem_cons_zero, List.getElem_cons_succ, List.setIfInBounds_toArray, List.set_cons_zero, List.set_cons_succ]
      refine kr_find 14 rfl (by kernel_rfl) (by kernel_rfl) (by kernel_rfl) (fun _ _ _ _ h => h) (by rfl) trivial ?_
      apply Exists.intro; apply And.intro
      · intro w' hS K hK
        clear hS
        go_light
        go_simp
        exact hK.out
      try simp only [Act.put, List.getElem_toArray, List.getElem_cons_zero, List.getElem_cons_succ, List.setIfInBounds_toArray, List.set_cons_zero, List.set_cons_succ]
      refine kr_find 15 rfl (by kernel_rfl) (by kernel_rfl) (by kernel_rfl) (fun _ _ _ _ h => h) (by rfl) trivial ?_
      apply Exists.intro; apply And.intro
      · intro w' hS K hK
        clear hS
        go_light
        go_simp
        exact hK.out
      try simp only [Act.put, List.getElem_toArray, List.getElem_cons_zero, List.getElem_cons_succ, List.setIfInBounds_toArray, List.set_cons_zero, List.set_cons_succ]
      refine kr_find 16 rfl (by kernel_rfl) (by kernel_rfl) (by kernel_rfl) (fun _ _ _ _ h => h) (by rfl) (show _ from (bits_q (HC.out _ Hf.out.drew i q Hq.out) HNB.out)) ?_
      apply Exists.intro; apply And.intro
      · intro w' hS K hK
        have hS : w'.cell? ⟨b, off + i * 10 + 4, none⟩ = some (.int .i64 nb) := hS
        go_light
        go_simp
        exact hK.out
      try simp only [Act.put, List.getElem_toArray, List.getElem_cons_zero, List.getElem_cons_succ, List.setIfInBounds_toArray, List.set_cons_zero, List.set_cons_succ]
      refine kr_one 17 (by kernel_rfl) rfl (by rfl) (fun K hK => ?_)
      go_simp
      go_at_call 61
      refine (begins61 q.n key nb _ HQO.out.n HX.out hnb32).mono ?_
      rw [HBG.out]
      rintro e w3 ⟨rfl, f3⟩
      have F3 := Lib.hid (Hf.out.drew.then' f3)
      clear f3
      refine hK.out _ _ ⟨.inl (by kernel_rfl), .inl (by kernel_rfl), .inl (by kernel_rfl), .inl (by kernel_rfl), .inl (by kernel_rfl), trivial⟩ ?_
      clear hK K
      try simp only [Act.put, List.getElem_toArray, List.getElem_cons_zero, List.getElem_cons_succ, List.setIfInBounds_toArray, List.set_cons_zero, List.set_cons_succ]
      refine kr_find 18 rfl (by kernel_rfl) (by kernel_rfl) (by kernel_rfl) (fun _ _ _ _ h => h) (by rfl) trivial ?_
      apply Exists.intro; apply And.intro
      · intro w' hS K hK
        clear hS
        go_light
        go_simp
        exact hK.out
      try simp only [Act.put, List.getElem_toArray, List.getElem_cons_zero, List.getElem_cons_succ, List.setIfInBounds_toArray, List.set_cons_zero, List.set_cons_succ]
      refine kr_done (by kernel_rfl) ?_ _
      have Hf2 := fun m => Lib.hid (F3.out.drewN m)
      have cg := (H1.out w3 F3.out).line
      have c4 := bits_q (HC.out w3 F3.out i q Hq.out) HNB.out
      have HaccE := Hacc
      cases bg
      · have HBT := Lib.hid (show betterW key q acc = false from by unfold betterW; rw [HNB.out, Int.toNat_natCast, HBG.out]; rfl)
        go_wp2_with fail
        go_quiet (fail)
        go_wp2_with fail
        go_roundw
        case rel =>
          refine ⟨i + 1, acc, by go_num, by omega, rfl, HaccE.out, ?_, (Hf2 _).out⟩
          rw [← Hbst.out, HDR.out, bst, if_neg (by rw [HBT.out]; simp)]
        case measure => simp [intOf]; omega
      · cases acc with
        | none =>
          have HBT := Lib.hid (show betterW key q none = true from by unfold betterW; rw [HNB.out, Int.toNat_natCast, HBG.out]; rfl)
          unfold accI
          go_wp2_with fail
          go_quiet (fail)
          go_wp2_with fail
          go_roundw
          case rel =>
            refine ⟨i + 1, some (i, q), by go_num, by omega, rfl, (fun p h => by cases h; exact Hq.out), ?_, (Hf2 _).out⟩
            rw [← Hbst.out, HDR.out, bst, if_pos HBT.out]
          case measure => simp [intOf]; omega
        | some p =>
          obtain ⟨j, y⟩ := p
          have hy := Hacc.out (j, y) rfl
          have hj : j < n := by rw [← Hn.out]; exact (List.getElem?_eq_some_iff.1 hy).1
          have d4 := HC.out w3 F3.out j y hy 4 _ rfl
          have hjI : (j : Int) < (n : Int) := by omega
          have hj0 : ¬ (j : Int) < 0 := by omega
          by_cases hcmp : y.bits < (nb : Int)
          · have HBT := Lib.hid (show betterW key q (some (j, y)) = true from by unfold betterW; rw [HNB.out, Int.toNat_natCast, HBG.out]; simp [hcmp])
            unfold accI
            go_wp2_with fail
            go_quiet (fail)
            go_wp2_with fail
            go_roundw
            case rel =>
              refine ⟨i + 1, some (i, q), by go_num, by omega, rfl, (fun p h => by cases h; exact Hq.out), ?_, (Hf2 _).out⟩
              rw [← Hbst.out, HDR.out, bst, if_pos HBT.out]
            case measure => simp [intOf]; omega
          · have HBT := Lib.hid (show betterW key q (some (j, y)) = false from by unfold betterW; rw [HNB.out, Int.toNat_natCast, HBG.out]; simp; omega)
            unfold accI
            go_wp2_with fail
            go_quiet (fail)
            go_wp2_with fail
            go_roundw
            case rel =>
              refine ⟨i + 1, some (j, y), by go_num, by omega, rfl, HaccE.out, ?_, (Hf2 _).out⟩
              rw [← Hbst.out, HDR.out, bst, if_neg (by rw [HBT.out]; simp)]
            case measure => simp [intOf]; omega
    · obtain rfl : i = n := by omega
      have HB := Lib.hid (show bst key R 0 none = acc from by rw [← Hbst.out, List.drop_eq_nil_of_le (by rw [Hn.out]; omega)]; rfl)
      cases acc with
      | none =>
        have HE := Lib.hid (show ra = I4.zero ∧ re = 100 from ⟨by rw [← HR0.out.1]; unfold findA; rw [HB.out], by rw [← HR0.out.2]; unfold findE; rw [HB.out]⟩)
        unfold accI
        as_aux_lemma =>
        iterate 200 (first
          | (have := MK9; clear this)
          | (refine wpList_store_mid rfl 45 _ _ rfl (b0 + 1) 0 (I4.zero.cells).toArray rfl rfl (HT.out wr Hf.out) (by kernel_rfl) (by simp [I4.cells, Value.oneCell']) ?_; have MK9 := Lib.hid True.intro)
          | go_step)
        clear cg
        have F9 := Lib.hid (Fr.setCells (S := fun _ => False) (b0 + 1) (fun h => absurd h (by have := HB0.out; omega)) (I4.zero).cells 0 wr (F1.out.then' Hf.out))
        have RS := Lib.hid (fun tmps hp => results_set35 tmps wr (b0 + 1) (I4.zero) hp (HT.out wr Hf.out))
        change wpList Try.prog _ _ _ _ (wr.setCells (b0 + 1) 0 (I4.zero).cells)
        generalize wr.setCells (b0 + 1) 0 (I4.zero).cells = w9 at F9 RS ⊢
        go_wp2_with fail
        exact bodyPost_ret (v := .tuple #[.agg (I4.zero).cells.toArray, .int .i64 100]) (RS.out _ rfl) rfl ⟨by rw [HE.out.1, HE.out.2], F9.out⟩
      | some p =>
        obtain ⟨j, y⟩ := p
        have hy := Hacc.out (j, y) rfl
        have hj : j < i := by rw [← Hn.out]; exact (List.getElem?_eq_some_iff.1 hy).1
        obtain ⟨b, off, cap', hv', hcap', _, hc, _⟩ := HRr.out.at Hn.out (by omega)
        injection hv' with hv1 _ hv2
        subst hv1; subst hv2
        have d9 := hc j y hy 9 _ rfl
        have RG := Lib.hid (range_g (hc j y hy))
        have hjI : (j : Int) < (i : Int) := by omega
        have hj0 : ¬ (j : Int) < 0 := by omega
        clear hc
        unfold accI
        cases hv : y.via with
        | true =>
          have HE := Lib.hid (show ra = y.g ∧ re = 0 from ⟨by rw [← HR0.out.1]; unfold findA; rw [HB.out]; simp [hv], by rw [← HR0.out.2]; unfold findE; rw [HB.out]⟩)
          rw [hv] at d9
          clear hv
          as_aux_lemma =>
          iterate 200 (first
            | (have := MK9; clear this)
            | (refine wpList_load_mid rfl 45 _ rfl b (off + j * 10 + 5) rfl y.g.cells _ RG.out Try.underlying45 rfl (by kernel_rfl) ?_)
            | (refine wpList_store_mid rfl 45 _ _ rfl (b0 + 1) 0 (y.g.cells).toArray rfl rfl (HT.out wr Hf.out) (by kernel_rfl) (by simp [I4.cells, Value.oneCell']) ?_; have MK9 := Lib.hid True.intro)
            | go_step)
          clear cg
          have F9 := Lib.hid (Fr.setCells (S := fun _ => False) (b0 + 1) (fun h => absurd h (by have := HB0.out; omega)) (y.g).cells 0 wr (F1.out.then' Hf.out))
          have RS := Lib.hid (fun tmps hp => results_set35 tmps wr (b0 + 1) (y.g) hp (HT.out wr Hf.out))
          change wpList Try.prog _ _ _ _ (wr.setCells (b0 + 1) 0 (y.g).cells)
          generalize wr.setCells (b0 + 1) 0 (y.g).cells = w9 at F9 RS ⊢
          go_wp2_with fail
          exact bodyPost_ret (v := .tuple #[.agg (y.g).cells.toArray, .int .i64 0]) (RS.out _ rfl) rfl ⟨by rw [HE.out.1, HE.out.2], F9.out⟩
        | false =>
          have HE := Lib.hid (show ra = key ∧ re = 0 from ⟨by rw [← HR0.out.1]; unfold findA; rw [HB.out]; simp [hv], by rw [← HR0.out.2]; unfold findE; rw [HB.out]⟩)
          rw [hv] at d9
          clear hv
          as_aux_lemma =>
          iterate 200 (first
            | (have := MK9; clear this)
            | (refine wpList_load_mid rfl 45 _ rfl b0 0 rfl key.cells _ (HBX.out wr Hf.out) Try.underlying45 rfl (by kernel_rfl) ?_)
            | (refine wpList_store_mid rfl 45 _ _ rfl (b0 + 1) 0 (key.cells).toArray rfl rfl (HT.out wr Hf.out) (by kernel_rfl) (by simp [I4.cells, Value.oneCell']) ?_; have MK9 := Lib.hid True.intro)
            | go_step)
          clear cg
          have F9 := Lib.hid (Fr.setCells (S := fun _ => False) (b0 + 1) (fun h => absurd h (by have := HB0.out; omega)) (key).cells 0 wr (F1.out.then' Hf.out))
          have RS := Lib.hid (fun tmps hp => results_set35 tmps wr (b0 + 1) (key) hp (HT.out wr Hf.out))
          change wpList Try.prog _ _ _ _ (wr.setCells (b0 + 1) 0 (key).cells)
          generalize wr.setCells (b0 + 1) 0 (key).cells = w9 at F9 RS ⊢
          go_wp2_with fail
          exact bodyPost_ret (v := .tuple #[.agg (key).cells.toArray, .int .i64 0]) (RS.out _ rfl) rfl ⟨by rw [HE.out.1, HE.out.2], F9.out⟩
end Go.Proofs.Ytcfadmjihccimaa
