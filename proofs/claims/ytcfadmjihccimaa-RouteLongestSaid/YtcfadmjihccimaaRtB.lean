/- The reference of law 10: bit, begins, may. No condition but the bits' bounds. -/
import Derived.Test.YtcfadmjihccimaaRtA
namespace Go.Proofs.Ytcfadmjihccimaa
set_option linter.unusedVariables false
set_option linter.unusedSimpArgs false
open Go.RowKit
def I4.nth (k : I4) (j : Nat) : Int := match j with | 0 => k.a | 1 => k.b | 2 => k.c | _ => k.d
def btB (x : Int) (j : Nat) : Int := x / 2 ^ (7 - j) % 2
def btI (k : I4) (n : Nat) : Int := btB (k.nth (n / 8)) (n % 8)
theorem I4.ok.nth {k : I4} (h : k.ok) (j : Nat) : 0 ≤ k.nth j ∧ k.nth j ≤ 255 := by
  obtain ⟨h1, h2, h3, h4⟩ := h
  simp [Lit.wf, IntKind.min, IntKind.max, IntKind.signed, IntKind.bits] at h1 h2 h3 h4
  unfold I4.nth
  split <;> omega
set_option maxHeartbeats 8000000 in
set_option maxRecDepth 100000 in
theorem bit70 (k : I4) (n : Nat) (w : World) (hk : k.ok) (hn : n < 32) :
    Calls Try.prog 70 #[.agg #[.int .u8 k.a, .int .u8 k.b, .int .u8 k.c, .int .u8 k.d], .int .i64 n] w fun e w' => e = .returned (.int .i64 (btI k n)) ∧ Fr (fun _ => False) w w' := by
  have FA := Lib.hid (Fr.refl (fun _ => False) w)
  obtain ⟨y, hy⟩ : ∃ y, k.nth (n / 8) = y := ⟨_, rfl⟩
  have hyb := hk.nth (n / 8)
  rw [hy] at hyb
  have HY := Lib.hid hy
  obtain ⟨r, hr⟩ : ∃ r, n % 8 = r := ⟨_, rfl⟩
  have HR := Lib.hid hr
  have hr7 : r ≤ 7 := by omega
  obtain ⟨q, hq⟩ : ∃ q, n / 8 = q := ⟨_, rfl⟩
  have hq4 : q < 4 := by omega
  have hq1 : (n : Int).tdiv 8 = (q : Int) := by rw [Int.tdiv_eq_ediv_of_nonneg (by omega)]; omega
  have hr1 : (n : Int) % 8 = (r : Int) := by omega
  have hw : IntKind.i64.wrap y = y := IntWalk.i64_in _ (by omega)
  have HQ := Lib.hid hq
  clear hk hr hq
  go_enter Try.func70, Try.ntmps70
  go_upto_region 1 with (fail)
  have g0 := heap_alloc_new w (.cells #[.int .u8 k.a, .int .u8 k.b, .int .u8 k.c, .int .u8 k.d] 45)
  have F1 := Lib.hid (FA.out.alloc (.cells #[.int .u8 k.a, .int .u8 k.b, .int .u8 k.c, .int .u8 k.d] 45))
  generalize w.alloc (.cells #[.int .u8 k.a, .int .u8 k.b, .int .u8 k.c, .int .u8 k.d] 45) = w1 at g0 F1 ⊢
  have xq : w1.cell? ⟨w.heap.size, q, none⟩ = some (.int .u8 y) := by
    refine cells_at4 _ _ [.int .u8 k.a, .int .u8 k.b, .int .u8 k.c, .int .u8 k.d] _ g0 q _ ?_
    rw [← hy, HQ.out]
    match q, hq4 with
    | 0, _ => rfl
    | 1, _ => rfl
    | 2, _ => rfl
    | 3, _ => rfl
  clear g0 hy
  go_upto_region 2 with (fail)
  clear xq hq1 hw
  go_wp2_with fail
  go_loopw [5, 6] (fun v5 v6 wr => ∃ i : Nat, v6 = .int .i64 i ∧ r ≤ i ∧ i ≤ 7 ∧ v5 = .int .i64 (y / 2 ^ (i - r)) ∧ wr = w1) (fun _ v6 _ => 7 - (intOf v6).toNat)
  case atStart => exact ⟨r, by rw [hr1], Nat.le_refl _, hr7, by simp, rfl⟩
  case round =>
    obtain ⟨i, rfl, hi0, hi7, rfl, hwr⟩ := hrel
    have hwr := hwr.symm
    subst hwr
    have HX := Lib.hid (show y / 2 ^ (i + 1 - r) = y / 2 ^ (i - r) / 2 by
      rw [show i + 1 - r = (i - r) + 1 by omega, Int.pow_succ, ← Int.ediv_ediv_of_nonneg (Int.le_of_lt (Int.pow_pos (by omega)))])
    have hx0 : 0 ≤ y / 2 ^ (i - r) := Int.ediv_nonneg hyb.1 (Int.le_of_lt (Int.pow_pos (by omega)))
    have hx1 : y / 2 ^ (i - r) ≤ 255 := Int.le_trans (Int.ediv_le_self _ hyb.1) hyb.2
    have HE := Lib.hid (show i = 7 → btI k n = y / 2 ^ (i - r) % 2 from fun e => by unfold btI btB; rw [HY.out, HR.out, e])
    generalize y / 2 ^ (i - r) = x at HX hx0 hx1 HE ⊢
    by_cases hlt : i < 7
    · have hltI : (i : Int) < 7 := by omega
      go_wp2_with fail
      refine ⟨⟨i + 1, by go_num, by omega, by omega, ?_, trivial⟩, by simp [intOf]; omega⟩
      rw [HX.out]
      try go_num
    · have hltI : ¬ (i : Int) < 7 := by omega
      go_wp2_with fail
      go_ret
      refine ⟨?_, F1.out⟩
      rw [HE.out (by omega)]
      try rfl
/-- The first n bits are the same. -/
def begB (a b : I4) (n : Nat) : Bool := (List.range n).all fun i => btI a i == btI b i
set_option maxHeartbeats 8000000 in
set_option maxRecDepth 100000 in
theorem begins61 (a b : I4) (n : Nat) (w : World) (ha : a.ok) (hb : b.ok) (hn : n ≤ 32) :
    Calls Try.prog 61 #[.agg #[.int .u8 a.a, .int .u8 a.b, .int .u8 a.c, .int .u8 a.d], .agg #[.int .u8 b.a, .int .u8 b.b, .int .u8 b.c, .int .u8 b.d], .int .i64 n] w fun e w' => e = .returned (.bool (begB a b n)) ∧ Fr (fun _ => False) w w' := by
  have FA := Lib.hid (Fr.refl (fun _ => False) w)
  go_enter Try.func61, Try.ntmps61
  go_upto_region 1 with (fail)
  obtain ⟨w1, hw1⟩ : ∃ w1, (w.alloc (.cells #[.int .u8 a.a, .int .u8 a.b, .int .u8 a.c, .int .u8 a.d] 45)).alloc (.cells #[.int .u8 b.a, .int .u8 b.b, .int .u8 b.c, .int .u8 b.d] 45) = w1 := ⟨_, rfl⟩
  have g0 : w1.heap[w.heap.size]? = some (.cells #[.int .u8 a.a, .int .u8 a.b, .int .u8 a.c, .int .u8 a.d] 45) := by
    rw [← hw1, Below.heap_alloc _ _ _ (by simp)]; exact heap_alloc_new w _
  have g1 : w1.heap[w.heap.size + 1]? = some (.cells #[.int .u8 b.a, .int .u8 b.b, .int .u8 b.c, .int .u8 b.d] 45) := by
    rw [← hw1]; have := heap_alloc_new (w.alloc (.cells #[.int .u8 a.a, .int .u8 a.b, .int .u8 a.c, .int .u8 a.d] 45)) (.cells #[.int .u8 b.a, .int .u8 b.b, .int .u8 b.c, .int .u8 b.d] 45); simpa using this
  have F1 := Lib.hid (show Fr (fun _ => False) w w1 from hw1 ▸ (FA.out.alloc _).alloc _)
  rw [hw1]
  clear hw1
  obtain ⟨b0, hb0⟩ : ∃ b0, w.heap.size = b0 := ⟨_, rfl⟩
  rw [hb0] at g0 g1 ⊢
  clear hb0
  have HK := Lib.hid (fun (w' : World) (f : Fr (fun _ => False) w1 w') => show w'.rangeAt b0 0 [.int .u8 a.a, .int .u8 a.b, .int .u8 a.c, .int .u8 a.d] ∧ w'.rangeAt (b0 + 1) 0 [.int .u8 b.a, .int .u8 b.b, .int .u8 b.c, .int .u8 b.d] from
    ⟨fun j v hj => by rw [Nat.zero_add]; exact cells_at w' b0 [.int .u8 a.a, .int .u8 a.b, .int .u8 a.c, .int .u8 a.d] 45 ((f.block _ (lt_of_block g0) (fun e => e)).trans g0) j v hj,
     fun j v hj => by rw [Nat.zero_add]; exact cells_at w' (b0 + 1) [.int .u8 b.a, .int .u8 b.b, .int .u8 b.c, .int .u8 b.d] 45 ((f.block _ (lt_of_block g1) (fun e => e)).trans g1) j v hj⟩)
  clear g0 g1
  have HA := Lib.hid (And.intro ha hb)
  clear ha hb
  go_wp2_with fail
  go_loopw [7] (fun v wr => ∃ i : Nat, v = .int .i64 i ∧ i ≤ n ∧ (List.range i).all (fun i => btI a i == btI b i) = true ∧ Fr (fun _ => False) w1 wr) (fun v _ => n - (intOf v).toNat)
  case atStart => exact ⟨0, rfl, Nat.zero_le _, rfl, Fr.refl _ _⟩
  case round =>
    obtain ⟨i, rfl, hi, hall, hf⟩ := hrel
    have HALL := Lib.hid hall
    have HF := Lib.hid hf
    clear hall hf
    by_cases hlt : i < n
    · have HI := Lib.hid (show i < 32 by omega)
      have HL := Lib.hid hlt
      obtain ⟨x, hx⟩ : ∃ x, btI a i = x := ⟨_, rfl⟩
      obtain ⟨y, hy⟩ : ∃ y, btI b i = y := ⟨_, rfl⟩
      have HXY := Lib.hid (And.intro hx hy)
      clear hx hy
      go_upto_region 4 with (fail)
      refine kr_start [(0, fun W => W.rangeAt b0 0 [.int .u8 a.a, .int .u8 a.b, .int .u8 a.c, .int .u8 a.d]), (3, fun W => W.rangeAt (b0 + 1) 0 [.int .u8 b.a, .int .u8 b.b, .int .u8 b.c, .int .u8 b.d])] (by kernel_rfl) (by kernel_rfl) ?_
      refine kr_take 0 rfl (by kernel_rfl) (by kernel_rfl) (by kernel_rfl) (fun _ _ _ h => h) (yieldsIf_load_mid (by rfl) 45 _ rfl (b0) 0 rfl [.int .u8 a.a, .int .u8 a.b, .int .u8 a.c, .int .u8 a.d] _ (fun _ h => h) Try.underlying45 rfl (by kernel_rfl)) (show _ from (HK.out _ HF.out.drew).1) ?_
      try simp only [Act.put, List.getElem_toArray, List.getElem_cons_zero, List.getElem_cons_succ, List.setIfInBounds_toArray, List.set_cons_zero, List.set_cons_succ]
      refine kr_find 1 rfl (by kernel_rfl) (by kernel_rfl) (by kernel_rfl) (fun _ _ _ _ h => h) (by rfl) trivial ?_
      apply Exists.intro; apply And.intro
      · intro w' hS K hK
        clear hS
        go_light
        go_simp
        exact hK.out
      try simp only [Act.put, List.getElem_toArray, List.getElem_cons_zero, List.getElem_cons_succ, List.setIfInBounds_toArray, List.set_cons_zero, List.set_cons_succ]
      refine kr_take 3 rfl (by kernel_rfl) (by kernel_rfl) (by kernel_rfl) (fun _ _ _ h => h) (yieldsIf_load_mid (by rfl) 45 _ rfl (b0 + 1) 0 rfl [.int .u8 b.a, .int .u8 b.b, .int .u8 b.c, .int .u8 b.d] _ (fun _ h => h) Try.underlying45 rfl (by kernel_rfl)) (show _ from (HK.out _ HF.out.drew).2) ?_
      try simp only [Act.put, List.getElem_toArray, List.getElem_cons_zero, List.getElem_cons_succ, List.setIfInBounds_toArray, List.set_cons_zero, List.set_cons_succ]
      refine kr_find 4 rfl (by kernel_rfl) (by kernel_rfl) (by kernel_rfl) (fun _ _ _ _ h => h) (by rfl) trivial ?_
      apply Exists.intro; apply And.intro
      · intro w' hS K hK
        clear hS
        go_light
        go_simp
        exact hK.out
      try simp only [Act.put, List.getElem_toArray, List.getElem_cons_zero, List.getElem_cons_succ, List.setIfInBounds_toArray, List.set_cons_zero, List.set_cons_succ]
      refine kr_one 2 (by kernel_rfl) rfl (by rfl) (fun K hK => ?_)
      go_simp
      go_at_call 70
      refine (bit70 a i _ HA.out.1 HI.out).mono ?_
      rintro e w4 ⟨rfl, f4⟩
      rw [HXY.out.1]
      have F4 := Lib.hid (HF.out.drew.then' f4)
      clear f4
      refine hK.out _ _ ⟨.inl (by kernel_rfl), .inr (HK.out _ F4.out).2, trivial⟩ ?_
      clear hK K
      try simp only [Act.put, List.getElem_toArray, List.getElem_cons_zero, List.getElem_cons_succ, List.setIfInBounds_toArray, List.set_cons_zero, List.set_cons_succ]
      refine kr_one 5 (by kernel_rfl) rfl (by rfl) (fun K hK => ?_)
      go_simp
      go_at_call 70
      refine (bit70 b i _ HA.out.2 HI.out).mono ?_
      rintro e w5 ⟨rfl, f5⟩
      rw [HXY.out.2]
      have F5 := Lib.hid (F4.out.then' f5)
      clear f5
      refine hK.out _ _ ⟨.inl (by kernel_rfl), .inl (by kernel_rfl), trivial⟩ ?_
      clear hK K
      try simp only [Act.put, List.getElem_toArray, List.getElem_cons_zero, List.getElem_cons_succ, List.setIfInBounds_toArray, List.set_cons_zero, List.set_cons_succ]
      refine kr_find 6 rfl (by kernel_rfl) (by kernel_rfl) (by kernel_rfl) (fun _ _ _ _ h => h) (by rfl) trivial ?_
      apply Exists.intro; apply And.intro
      · intro w' hS K hK
        clear hS
        go_light
        go_simp
        exact hK.out
      try simp only [Act.put, List.getElem_toArray, List.getElem_cons_zero, List.getElem_cons_succ, List.setIfInBounds_toArray, List.set_cons_zero, List.set_cons_succ]
      refine kr_done (by kernel_rfl) ?_ _
      by_cases he : x = y
      · have hb : (x == y) = true := by simpa using he
        have HE := Lib.hid he
        clear he
        go_wp2_with fail
        refine ⟨⟨i + 1, by go_num, HL.out, ?_, F5.out⟩, by simp [intOf]; have := HL.out; omega⟩
        rw [List.range_succ, List.all_append, HALL.out]
        simp [HXY.out.1, HXY.out.2, HE.out]
      · have hb : (x == y) = false := by simpa using he
        have HE := Lib.hid he
        clear he
        go_wp2_with fail
        go_ret
        refine ⟨?_, F1.out.then' F5.out⟩
        have : begB a b n = false := by
          unfold begB
          rw [List.all_eq_false]
          exact ⟨i, List.mem_range.2 HL.out, by rw [HXY.out.1, HXY.out.2]; simpa using HE.out⟩
        rw [this]
        rfl
    · obtain rfl : i = n := by omega
      go_wp2_with fail
      go_ret
      refine ⟨?_, F1.out.then' HF.out⟩
      unfold begB
      rw [HALL.out]
      rfl
end Go.Proofs.Ytcfadmjihccimaa
