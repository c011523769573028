/- The table of law 10: the ways sorted. No condition but lengths. -/
import Derived.Test.YtcfadmjihccimaaRtF
import Derived.Test.YtcfadmjihccimaaRtG
namespace Go.Proofs.Ytcfadmjihccimaa
set_option linter.unusedVariables false
set_option linter.unusedSimpArgs false
open Go.RowKit
set_option maxHeartbeats 8000000 in
set_option maxRecDepth 100000 in
theorem closure54 (x y : W10) (w : World) (hx : 0 ≤ x.bits ∧ x.bits ≤ 32) (hy : 0 ≤ y.bits ∧ y.bits ≤ 32) :
    Calls Try.prog 54 #[.agg x.cells.toArray, .agg y.cells.toArray] w fun e w' => e = .returned (.int .i64 (y.bits - x.bits)) ∧ Fr (fun _ => False) w w' := by
  have FA := Lib.hid (Fr.refl (fun _ => False) w)
  have hw : wrap64 (y.bits - x.bits) = y.bits - x.bits := IntWalk.wrap64_in _ (by omega)
  have F1 := Lib.hid ((FA.out.alloc (.cells x.cells.toArray 69)).alloc (.cells y.cells.toArray 69))
  have B0 := Lib.hid (show ((w.alloc (.cells x.cells.toArray 69)).alloc (.cells y.cells.toArray 69)).heap[w.heap.size]? = some (.cells x.cells.toArray 69) from by
    rw [Below.heap_alloc _ _ _ (by simp)]; exact heap_alloc_new w _)
  have B1 := Lib.hid (show ((w.alloc (.cells x.cells.toArray 69)).alloc (.cells y.cells.toArray 69)).heap[w.heap.size + 1]? = some (.cells y.cells.toArray 69) from by
    have := heap_alloc_new (w.alloc (.cells x.cells.toArray 69)) (.cells y.cells.toArray 69); simpa using this)
  unfold W10.cells at *
  go_enter Try.func54, Try.ntmps54
  go_upto_region 1 with (fail)
  generalize (w.alloc (.cells #[.int .u8 x.n.a, .int .u8 x.n.b, .int .u8 x.n.c, .int .u8 x.n.d, .int .i64 x.bits, .int .u8 x.g.a, .int .u8 x.g.b, .int .u8 x.g.c, .int .u8 x.g.d, .bool x.via] 69)).alloc (.cells #[.int .u8 y.n.a, .int .u8 y.n.b, .int .u8 y.n.c, .int .u8 y.n.d, .int .i64 y.bits, .int .u8 y.g.a, .int .u8 y.g.b, .int .u8 y.g.c, .int .u8 y.g.d, .bool y.via] 69) = w1 at F1 B0 B1 ⊢
  have c0 := cells_at w1 w.heap.size x.cells 69 B0.out 4 _ rfl
  have c1 := cells_at w1 (w.heap.size + 1) y.cells 69 B1.out 4 _ rfl
  go_wp2_with fail
  go_ret
  exact ⟨rfl, F1.out⟩
/-- The first n are by falling bits. -/
def Desc (L : List W10) (n : Nat) : Prop := ∀ p q x y, p < q → q < n → L[p]? = some x → L[q]? = some y → y.bits ≤ x.bits
/-- So but for the one at j, which is no less than those behind it. -/
def DescBut (L : List W10) (n j : Nat) : Prop := (∀ p q x y, p < q → q < n → p ≠ j → q ≠ j → L[p]? = some x → L[q]? = some y → y.bits ≤ x.bits) ∧ (∀ q x y, j < q → q < n → L[j]? = some x → L[q]? = some y → y.bits ≤ x.bits)
theorem DescBut.start {L : List W10} {i : Nat} (h : Desc L i) : DescBut L (i + 1) i :=
  ⟨fun p q x y hpq hq hp hqi hx hy => h p q x y hpq (by omega) hx hy, fun q x y h1 h2 => by omega⟩
theorem DescBut.stop0 {L : List W10} {n : Nat} (h : DescBut L n 0) : Desc L n := fun p q x y hpq hq hx hy => by
  by_cases hp : p = 0
  · subst hp; exact h.2 q x y hpq hq hx hy
  · exact h.1 p q x y hpq hq hp (by omega) hx hy
theorem DescBut.stop {L : List W10} {n j : Nat} {a b : W10} (h : DescBut L n (j + 1)) (hj : j + 1 < n) (ha : L[j]? = some a) (hb : L[j + 1]? = some b) (hab : b.bits ≤ a.bits) : Desc L n := fun p q x y hpq hq hx hy => by
  by_cases hp : p = j + 1
  · subst hp; exact h.2 q x y hpq hq hx hy
  · by_cases hq' : q = j + 1
    · subst hq'
      rw [hb] at hy; cases hy
      by_cases hpj : p = j
      · subst hpj; rw [ha] at hx; cases hx; exact hab
      · have := h.1 p j x a (by omega) (by omega) hp (by omega) hx ha
        omega
    · exact h.1 p q x y hpq hq hp hq' hx hy
theorem DescBut.step {L : List W10} {n j : Nat} {a b : W10} (h : DescBut L n (j + 1)) (hj : j + 1 < n) (hn : n ≤ L.length) (ha : L[j]? = some a) (hb : L[j + 1]? = some b) (hab : a.bits < b.bits) : DescBut ((L.set (j + 1) a).set j b) n j := by
  have get : ∀ p, ((L.set (j + 1) a).set j b)[p]? = if p = j then some b else if p = j + 1 then some a else L[p]? := fun p => by
    by_cases h1 : p = j
    · subst h1; rw [if_pos rfl, List.getElem?_set_self (by rw [List.length_set]; omega)]
    · rw [if_neg h1, List.getElem?_set_ne (fun e => h1 e.symm)]
      by_cases h2 : p = j + 1
      · subst h2; rw [if_pos rfl, List.getElem?_set_self (by omega)]
      · rw [if_neg h2, List.getElem?_set_ne (fun e => h2 e.symm)]
  refine ⟨fun p q x y hpq hq hp hqj hx hy => ?_, fun q x y hjq hq hx hy => ?_⟩
  · rw [get, if_neg hp] at hx
    rw [get, if_neg hqj] at hy
    by_cases hp1 : p = j + 1
    · rw [if_pos hp1] at hx; cases hx
      rw [if_neg (by omega)] at hy
      exact h.1 j q a y (by omega) hq (by omega) (by omega) ha hy
    · rw [if_neg hp1] at hx
      by_cases hq1 : q = j + 1
      · rw [if_pos hq1] at hy; cases hy
        exact h.1 p j x a (by omega) (by omega) hp1 (by omega) hx ha
      · rw [if_neg hq1] at hy
        exact h.1 p q x y hpq hq hp1 hq1 hx hy
  · rw [get, if_pos rfl] at hx; cases hx
    rw [get, if_neg (by omega)] at hy
    by_cases hq1 : q = j + 1
    · rw [if_pos hq1] at hy; cases hy; omega
    · rw [if_neg hq1] at hy
      exact h.2 q b y (by omega) hq hb hy
theorem swap_perm {L : List W10} {j : Nat} {a b : W10} (ha : L[j]? = some a) (hb : L[j + 1]? = some b) : ((L.set (j + 1) a).set j b).Perm L := by
  induction L generalizing j with
  | nil => cases ha
  | cons p L ih =>
    cases j with
    | zero =>
      cases ha
      cases L with
      | nil => cases hb
      | cons q L => cases hb; exact List.Perm.swap _ _ _
    | succ j => exact List.Perm.cons _ (ih ha hb)
theorem Sl.ways {N n : Nat} {w : World} {b off cap : Nat} {L : List W10} (h : Sl N 69 10 w (.slice (some ⟨b, off, none⟩) n cap) n (wfl L)) {i : Nat} {q : W10} (hi : L[i]? = some q) : w.rangeAt b (off + i * 10) q.cells := by
  have hl := h.len
  rw [wfl_len] at hl
  have hlt := (List.getElem?_eq_some_iff.1 hi).1
  obtain ⟨b', off', cap', hv, _, _, _, _, hc, _⟩ := h.form1 (by omega)
  injection hv with hv1 _ hv2
  injection hv1 with hv1
  injection hv1 with hv3 hv4
  subst hv3; subst hv4
  intro j v hj
  rw [Nat.add_assoc]
  exact hc _ v (wfl_at hi hj)
def InPost (N n cap : Nat) (A : Option Addr) (L : List W10) (w : World) (e : Ending) (w' : World) : Prop :=
  e = .returned (.tuple #[]) ∧ ∃ L' : List W10, L'.Perm L ∧ Desc L' n ∧ Sl N 69 10 w' (.slice A n cap) n (wfl L') ∧ Fr (fun i => (Value.slice A n cap).ownBlock = some i) w w'
set_option maxHeartbeats 16000000 in
set_option maxRecDepth 100000 in
theorem insertion74 (N n cap : Nat) (A : Option Addr) (L : List W10) (w : World) (hS : Sl N 69 10 w (.slice A n cap) n (wfl L)) (hn : L.length = n) (hlen : n ≤ 8) (hbits : ∀ p ∈ L, 0 ≤ p.bits ∧ p.bits ≤ 32) :
    Calls Try.prog 74 #[.slice A n cap, .int .i64 0, .int .i64 n, .func (.func 54) #[] #[]] w (InPost N n cap A L w) := by
  have HS := Lib.hid hS
  have Hn := Lib.hid hn
  have HBI := Lib.hid hbits
  obtain ⟨A9, c9, hv9, hcap, hcm⟩ := hS.form
  cases hv9
  clear hS hn hbits
  go_enter Try.func74, Try.ntmps74
  go_wp2_with fail
  go_loopw [8] (fun v wr => ∃ (i : Nat) (M : List W10), v = .int .i64 i ∧ 1 ≤ i ∧ (i ≤ n ∨ i = 1) ∧ M.Perm L ∧ Desc M i ∧ Sl N 69 10 wr (.slice A n cap) n (wfl M) ∧ Fr (fun i => (Value.slice A n cap).ownBlock = some i) w wr) (fun v _ => n - (intOf v).toNat)
  case atStart => exact ⟨1, L, rfl, Nat.le_refl _, .inr rfl, List.Perm.refl _, (fun p q x y h1 h2 => by omega), HS.out, Fr.refl _ _⟩
  case round =>
    obtain ⟨i, M, rfl, hi1, hin, hperm, hdesc, hsl, hfr⟩ := hrel
    have HP := Lib.hid hperm
    have HD := Lib.hid hdesc
    have HSM := Lib.hid hsl
    have HF := Lib.hid hfr
    clear hperm hdesc hsl hfr
    by_cases hlt : i < n
    · obtain ⟨b, off, cap', hv', _, _, _, _, _, _⟩ := HSM.out.form1 (by omega)
      injection hv' with hv1 _ hv2
      subst hv1; subst hv2
      go_wp2_with fail
      go_loopw [9] (fun v wr2 => ∃ (j : Nat) (M2 : List W10), v = .int .i64 j ∧ j ≤ i ∧ M2.Perm L ∧ DescBut M2 (i + 1) j ∧ Sl N 69 10 wr2 (.slice (some ⟨b, off, none⟩) n cap) n (wfl M2) ∧ Fr (fun i => (Value.slice (some ⟨b, off, none⟩) n cap).ownBlock = some i) w wr2) (fun v _ => (intOf v).toNat)
      case atStart => exact ⟨i, M, rfl, Nat.le_refl _, HP.out, DescBut.start HD.out, HSM.out, HF.out⟩
      case round =>
        obtain ⟨j, M2, rfl, hji, hperm2, hdb, hsl2, hfr2⟩ := hrel
        have HP2 := Lib.hid hperm2
        have HDB := Lib.hid hdb
        have HS2 := Lib.hid hsl2
        have HF2 := Lib.hid hfr2
        have HL2 := Lib.hid (show M2.length = n from by rw [hperm2.length_eq, Hn.out])
        have HB2 := Lib.hid (fun (p : W10) (hp : p ∈ M2) => HBI.out p (hperm2.mem_iff.1 hp))
        clear hperm2 hdb hsl2 hfr2
        match j, hji with
        | 0, _ =>
          have hff := fun m => Lib.hid (HF2.out.drewN m)
          have hss := fun m => Lib.hid (HS2.out.fr0 ((Fr.refl (fun _ => False) wr).drewN m))
          go_wp2_with fail
          go_quiet (fail)
          go_wp2_with fail
          go_roundw
          case rel => exact ⟨i + 1, M2, by go_num, by omega, .inl (by omega), HP2.out, HDB.out.stop0, (hss _).out, (hff _).out⟩
          case measure => simp [intOf]; omega
        | j + 1, hji =>
          obtain ⟨x, hx⟩ : ∃ x, M2[j]? = some x := ⟨_, List.getElem?_eq_getElem (by rw [HL2.out]; omega)⟩
          obtain ⟨y, hy⟩ : ∃ y, M2[j + 1]? = some y := ⟨_, List.getElem?_eq_getElem (by rw [HL2.out]; omega)⟩
          have HXY := Lib.hid (And.intro hx hy)
          have HBX := Lib.hid (HB2.out x (List.mem_of_getElem? hx))
          have HBY := Lib.hid (HB2.out y (List.mem_of_getElem? hy))
          have HRX := Lib.hid (fun (w' : World) (f : Fr (fun _ => False) wr w') => (HS2.out.fr0 f).ways hx)
          have HRY := Lib.hid (fun (w' : World) (f : Fr (fun _ => False) wr w') => (HS2.out.fr0 f).ways hy)
          clear hx hy
          have hj1 : ((j + 1 : Nat) : Int) = (j : Int) + 1 := by omega
          have hjI : (j : Int) + 1 < (n : Int) := by omega
          have hjI2 : (j : Int) < (n : Int) := by omega
          have hj0 : 0 < (j : Int) + 1 := by omega
          have hjc : j + 1 < cap := by omega
          have hjc2 : j < cap := by omega
          have hwj : IntKind.i64.wrap (j : Int) = (j : Int) := IntWalk.i64_in _ (by omega)
          have hj00 : 0 ≤ (j : Int) := by omega
          have hj01 : 0 ≤ (j : Int) + 1 := by omega
          have htn : ((j : Int) + 1).toNat = j + 1 := by omega
          rw [hj1]
          go_upto_region 4 with (fail)
          refine kr_start [(8, fun W => W.rangeAt b (off + (j + 1) * 10) y.cells), (13, fun W => W.rangeAt b (off + j * 10) x.cells)] (by kernel_rfl) (by kernel_rfl) ?_
          refine kr_find 0 rfl (by kernel_rfl) (by kernel_rfl) (by kernel_rfl) (fun _ _ _ _ h => h) (by rfl) trivial ?_
          apply Exists.intro; apply And.intro
          · intro w' hS K hK
            clear hS
            go_light
            go_simp
            exact hK.out
          try simp only [Act.put, List.getElem_toArray, List.getElem_cons_zero, List.getElem_cons_succ, List.setIfInBounds_toArray, List.set_cons_zero, List.set_cons_succ]
          refine kr_find 1 rfl (by kernel_rfl) (by kernel_rfl) (by kernel_rfl) (fun _ _ _ _ h => h) (by rfl) trivial ?_
          apply Exists.intro; apply And.intro
          · intro w' hS K hK
            clear hS
            go_light
            go_simp
            exact hK.out
          try simp only [Act.put, List.getElem_toArray, List.getElem_cons_zero, List.getElem_cons_succ, List.setIfInBounds_toArray, List.set_cons_zero, List.set_cons_succ]
          refine kr_find 2 rfl (by kernel_rfl) (by kernel_rfl) (by kernel_rfl) (fun _ _ _ _ h => h) (by rfl) trivial ?_
          apply Exists.intro; apply And.intro
          · intro w' hS K hK
            clear hS
            go_light
            go_simp
            exact hK.out
          try simp only [Act.put, List.getElem_toArray, List.getElem_cons_zero, List.getElem_cons_succ, List.setIfInBounds_toArray, List.set_cons_zero, List.set_cons_succ]
          refine kr_find 3 rfl (by kernel_rfl) (by kernel_rfl) (by kernel_rfl) (fun _ _ _ _ h => h) (by rfl) trivial ?_
          apply Exists.intro; apply And.intro
          · intro w' hS K hK
            clear hS
            go_light
            go_simp
            exact hK.out
          try simp only [Act.put, List.getElem_toArray, List.getElem_cons_zero, List.getElem_cons_succ, List.setIfInBounds_toArray, List.set_cons_zero, List.set_cons_succ]
          refine kr_find 4 rfl (by kernel_rfl) (by kernel_rfl) (by kernel_rfl) (fun _ _ _ _ h => h) (by rfl) trivial ?_
          apply Exists.intro; apply And.intro
          · intro w' hS K hK
            clear hS
            go_light
            go_simp
            exact hK.out
          try simp only [Act.put, List.getElem_toArray, List.getElem_cons_zero, List.getElem_cons_succ, List.setIfInBounds_toArray, List.set_cons_zero, List.set_cons_succ]
          refine kr_find 5 rfl (by kernel_rfl) (by kernel_rfl) (by kernel_rfl) (fun _ _ _ _ h => h) (by rfl) trivial ?_
          apply Exists.intro; apply And.intro
          · intro w' hS K hK
            clear hS
            go_light
            go_simp
            exact hK.out
          try simp only [Act.put, List.getElem_toArray, List.getElem_cons_zero, List.getElem_cons_succ, List.setIfInBounds_toArray, List.set_cons_zero, List.set_cons_succ]
          refine kr_find 6 rfl (by kernel_rfl) (by kernel_rfl) (by kernel_rfl) (fun _ _ _ _ h => h) (by rfl) trivial ?_
          apply Exists.intro; apply And.intro
          · intro w' hS K hK
            clear hS
            go_light
            go_simp
            exact hK.out
          try simp only [Act.put, List.getElem_toArray, List.getElem_cons_zero, List.getElem_cons_succ, List.setIfInBounds_toArray, List.set_cons_zero, List.set_cons_succ]
          refine kr_find 7 rfl (by kernel_rfl) (by kernel_rfl) (by kernel_rfl) (fun _ _ _ _ h => h) (by rfl) trivial ?_
          apply Exists.intro; apply And.intro
          · intro w' hS K hK
            clear hS
            go_light
            go_simp
            exact hK.out
          try simp only [Act.put, List.getElem_toArray, List.getElem_cons_zero, List.getElem_cons_succ, List.setIfInBounds_toArray, List.set_cons_zero, List.set_cons_succ]
          refine kr_take 8 rfl (by kernel_rfl) (by kernel_rfl) (by kernel_rfl) (fun _ _ _ h => h) (yieldsIf_load_mid (by rfl) 69 _ rfl (b) (off + (j + 1) * 10) rfl (y.cells) _ (fun _ h => h) Try.underlying69 rfl (by kernel_rfl)) (show _ from HRY.out _ (Fr.refl _ wr).drew) ?_
          try simp only [Act.put, List.getElem_toArray, List.getElem_cons_zero, List.getElem_cons_succ, List.setIfInBounds_toArray, List.set_cons_zero, List.set_cons_succ]
          refine kr_find 9 rfl (by kernel_rfl) (by kernel_rfl) (by kernel_rfl) (fun _ _ _ _ h => h) (by rfl) trivial ?_
          apply Exists.intro; apply And.intro
          · intro w' hS K hK
            clear hS
            go_light
            go_simp
            exact hK.out
          try simp only [Act.put, List.getElem_toArray, List.getElem_cons_zero, List.getElem_cons_succ, List.setIfInBounds_toArray, List.set_cons_zero, List.set_cons_succ]
          refine kr_find 10 rfl (by kernel_rfl) (by kernel_rfl) (by kernel_rfl) (fun _ _ _ _ h => h) (by rfl) trivial ?_
          apply Exists.intro; apply And.intro
          · intro w' hS K hK
            clear hS
            go_light
            go_simp
            exact hK.out
          try simp only [Act.put, List.getElem_toArray, List.getElem_cons_zero, List.getElem_cons_succ, List.setIfInBounds_toArray, List.set_cons_zero, List.set_cons_succ]
          refine kr_find 11 rfl (by kernel_rfl) (by kernel_rfl) (by kernel_rfl) (fun _ _ _ _ h => h) (by rfl) trivial ?_
          apply Exists.intro; apply And.intro
          · intro w' hS K hK
            clear hS
            go_light
            go_simp
            exact hK.out
          try simp only [Act.put, List.getElem_toArray, List.getElem_cons_zero, List.getElem_cons_succ, List.setIfInBounds_toArray, List.set_cons_zero, List.set_cons_succ]
          refine kr_find 12 rfl (by kernel_rfl) (by kernel_rfl) (by kernel_rfl) (fun _ _ _ _ h => h) (by rfl) trivial ?_
          apply Exists.intro; apply And.intro
          · intro w' hS K hK
            clear hS
            go_light
            go_simp
            exact hK.out
          try simp only [Act.put, List.getElem_toArray, List.getElem_cons_zero, List.getElem_cons_succ, List.setIfInBounds_toArray, List.set_cons_zero, List.set_cons_succ]
          refine kr_take 13 rfl (by kernel_rfl) (by kernel_rfl) (by kernel_rfl) (fun _ _ _ h => h) (yieldsIf_load_mid (by rfl) 69 _ rfl (b) (off + j * 10) rfl (x.cells) _ (fun _ h => h) Try.underlying69 rfl (by kernel_rfl)) (show _ from HRX.out _ (Fr.refl _ wr).drew) ?_
          try simp only [Act.put, List.getElem_toArray, List.getElem_cons_zero, List.getElem_cons_succ, List.setIfInBounds_toArray, List.set_cons_zero, List.set_cons_succ]
          refine kr_one 14 (by kernel_rfl) rfl (by rfl) (fun K hK => ?_)
          go_simp
          go_at_call 54
          refine (closure54 y x _ HBY.out HBX.out).mono ?_
          rintro e w4 ⟨rfl, f4⟩
          have F4 := Lib.hid ((Fr.refl (fun _ => False) wr).drew.then' f4)
          clear f4
          refine hK.out _ _ ⟨.inl (by kernel_rfl), .inl (by kernel_rfl), trivial⟩ ?_
          clear hK K
          try simp only [Act.put, List.getElem_toArray, List.getElem_cons_zero, List.getElem_cons_succ, List.setIfInBounds_toArray, List.set_cons_zero, List.set_cons_succ]
          refine kr_find 15 rfl (by kernel_rfl) (by kernel_rfl) (by kernel_rfl) (fun _ _ _ _ h => h) (by rfl) trivial ?_
          apply Exists.intro; apply And.intro
          · intro w' hS K hK
            clear hS
            go_light
            go_simp
            exact hK.out
          try simp only [Act.put, List.getElem_toArray, List.getElem_cons_zero, List.getElem_cons_succ, List.setIfInBounds_toArray, List.set_cons_zero, List.set_cons_succ]
          refine kr_find 16 rfl (by kernel_rfl) (by kernel_rfl) (by kernel_rfl) (fun _ _ _ _ h => h) (by rfl) trivial ?_
          apply Exists.intro; apply And.intro
          · intro w' hS K hK
            clear hS
            go_light
            go_simp
            exact hK.out
          try simp only [Act.put, List.getElem_toArray, List.getElem_cons_zero, List.getElem_cons_succ, List.setIfInBounds_toArray, List.set_cons_zero, List.set_cons_succ]
          refine kr_done (by kernel_rfl) ?_ _
          have HS4 := Lib.hid (HS2.out.fr0 (F4.out.drew))
          have HF4 := Lib.hid (HF2.out.trans F4.out.drew (fun _ _ e => e.elim))
          by_cases hcmp : x.bits < y.bits
          · have hc1 : x.bits - y.bits < 0 := by omega
            have HC := Lib.hid hcmp
            clear hcmp
            go_upto_region 6 with (fail)
            clear hc1
            have HS5 := Lib.hid (show Sl N 69 10 (w4.drew.setCells b (off + (j + 1) * 10) x.cells) (.slice (some ⟨b, off, none⟩) n cap) n (wfl (M2.set (j + 1) x)) from by
              have h := HS4.out.setCells x.cells (wfl M2) w4.drew ((j + 1) * 10) (by rw [W10.cells_len]; omega)
              rw [wfl_set x (by rw [HL2.out]; omega)] at h
              exact h)
            have HF5 := Lib.hid (Fr.setCells (S := fun i => (Value.slice (some ⟨b, off, none⟩) n cap).ownBlock = some i) b (fun _ => rfl) x.cells (off + (j + 1) * 10) _ HF4.out)
            refine kr_start [(9, fun W => W.rangeAt b (off + j * 10) x.cells), (13, fun W => W.rangeAt b (off + (j + 1) * 10) y.cells)] (by kernel_rfl) (by kernel_rfl) ?_
            refine kr_find 0 rfl (by kernel_rfl) (by kernel_rfl) (by kernel_rfl) (fun _ _ _ _ h => h) (by rfl) trivial ?_
            apply Exists.intro; apply And.intro
            · intro w' hS K hK
              clear hS
              go_light
              go_simp
              exact hK.out
            try simp only [Act.put, List.getElem_toArray, List.getElem_cons_zero, List.getElem_cons_succ, List.setIfInBounds_toArray, List.set_cons_zero, List.set_cons_succ]
            refine kr_find 1 rfl (by kernel_rfl) (by kernel_rfl) (by kernel_rfl) (fun _ _ _ _ h => h) (by rfl) trivial ?_
            apply Exists.intro; apply And.intro
            · intro w' hS K hK
              clear hS
              go_light
              go_simp
              exact hK.out
            try simp only [Act.put, List.getElem_toArray, List.getElem_cons_zero, List.getElem_cons_succ, List.setIfInBounds_toArray, List.set_cons_zero, List.set_cons_succ]
            refine kr_find 2 rfl (by kernel_rfl) (by kernel_rfl) (by kernel_rfl) (fun _ _ _ _ h => h) (by rfl) trivial ?_
            apply Exists.intro; apply And.intro
            · intro w' hS K hK
              clear hS
              go_light
              go_simp
              exact hK.out
            try simp only [Act.put, List.getElem_toArray, List.getElem_cons_zero, List.getElem_cons_succ, List.setIfInBounds_toArray, List.set_cons_zero, List.set_cons_succ]
            refine kr_find 3 rfl (by kernel_rfl) (by kernel_rfl) (by kernel_rfl) (fun _ _ _ _ h => h) (by rfl) trivial ?_
            apply Exists.intro; apply And.intro
            · intro w' hS K hK
              clear hS
              go_light
              go_simp
              exact hK.out
            try simp only [Act.put, List.getElem_toArray, List.getElem_cons_zero, List.getElem_cons_succ, List.setIfInBounds_toArray, List.set_cons_zero, List.set_cons_succ]
            refine kr_find 4 rfl (by kernel_rfl) (by kernel_rfl) (by kernel_rfl) (fun _ _ _ _ h => h) (by rfl) trivial ?_
            apply Exists.intro; apply And.intro
            · intro w' hS K hK
              clear hS
              go_light
              go_simp
              exact hK.out
            try simp only [Act.put, List.getElem_toArray, List.getElem_cons_zero, List.getElem_cons_succ, List.setIfInBounds_toArray, List.set_cons_zero, List.set_cons_succ]
            refine kr_find 5 rfl (by kernel_rfl) (by kernel_rfl) (by kernel_rfl) (fun _ _ _ _ h => h) (by rfl) trivial ?_
            apply Exists.intro; apply And.intro
            · intro w' hS K hK
              clear hS
              go_light
              go_simp
              exact hK.out
            try simp only [Act.put, List.getElem_toArray, List.getElem_cons_zero, List.getElem_cons_succ, List.setIfInBounds_toArray, List.set_cons_zero, List.set_cons_succ]
            refine kr_find 6 rfl (by kernel_rfl) (by kernel_rfl) (by kernel_rfl) (fun _ _ _ _ h => h) (by rfl) trivial ?_
            apply Exists.intro; apply And.intro
            · intro w' hS K hK
              clear hS
              go_light
              go_simp
              exact hK.out
            try simp only [Act.put, List.getElem_toArray, List.getElem_cons_zero, List.getElem_cons_succ, List.setIfInBounds_toArray, List.set_cons_zero, List.set_cons_succ]
            refine kr_find 7 rfl (by kernel_rfl) (by kernel_rfl) (by kernel_rfl) (fun _ _ _ _ h => h) (by rfl) trivial ?_
            apply Exists.intro; apply And.intro
            · intro w' hS K hK
              clear hS
              go_light
              go_simp
              exact hK.out
            try simp only [Act.put, List.getElem_toArray, List.getElem_cons_zero, List.getElem_cons_succ, List.setIfInBounds_toArray, List.set_cons_zero, List.set_cons_succ]
            refine kr_find 8 rfl (by kernel_rfl) (by kernel_rfl) (by kernel_rfl) (fun _ _ _ _ h => h) (by rfl) trivial ?_
            apply Exists.intro; apply And.intro
            · intro w' hS K hK
              clear hS
              go_light
              go_simp
              exact hK.out
            try simp only [Act.put, List.getElem_toArray, List.getElem_cons_zero, List.getElem_cons_succ, List.setIfInBounds_toArray, List.set_cons_zero, List.set_cons_succ]
            refine kr_take 9 rfl (by kernel_rfl) (by kernel_rfl) (by kernel_rfl) (fun _ _ _ h => h) (yieldsIf_load_mid (by rfl) 69 _ rfl (b) (off + j * 10) rfl (x.cells) _ (fun _ h => h) Try.underlying69 rfl (by kernel_rfl)) (show _ from HRX.out _ (F4.out.then' (Fr.refl _ w4).drew)) ?_
            try simp only [Act.put, List.getElem_toArray, List.getElem_cons_zero, List.getElem_cons_succ, List.setIfInBounds_toArray, List.set_cons_zero, List.set_cons_succ]
            refine kr_find 10 rfl (by kernel_rfl) (by kernel_rfl) (by kernel_rfl) (fun _ _ _ _ h => h) (by rfl) trivial ?_
            apply Exists.intro; apply And.intro
            · intro w' hS K hK
              clear hS
              go_light
              go_simp
              exact hK.out
            try simp only [Act.put, List.getElem_toArray, List.getElem_cons_zero, List.getElem_cons_succ, List.setIfInBounds_toArray, List.set_cons_zero, List.set_cons_succ]
            refine kr_find 11 rfl (by kernel_rfl) (by kernel_rfl) (by kernel_rfl) (fun _ _ _ _ h => h) (by rfl) trivial ?_
            apply Exists.intro; apply And.intro
            · intro w' hS K hK
              clear hS
              go_light
              go_simp
              exact hK.out
            try simp only [Act.put, List.getElem_toArray, List.getElem_cons_zero, List.getElem_cons_succ, List.setIfInBounds_toArray, List.set_cons_zero, List.set_cons_succ]
            refine kr_find 12 rfl (by kernel_rfl) (by kernel_rfl) (by kernel_rfl) (fun _ _ _ _ h => h) (by rfl) trivial ?_
            apply Exists.intro; apply And.intro
            · intro w' hS K hK
              clear hS
              go_light
              go_simp
              exact hK.out
            try simp only [Act.put, List.getElem_toArray, List.getElem_cons_zero, List.getElem_cons_succ, List.setIfInBounds_toArray, List.set_cons_zero, List.set_cons_succ]
            refine kr_take 13 rfl (by kernel_rfl) (by kernel_rfl) (by kernel_rfl) (fun _ _ _ h => h) (yieldsIf_load_mid (by rfl) 69 _ rfl (b) (off + (j + 1) * 10) rfl (y.cells) _ (fun _ h => h) Try.underlying69 rfl (by kernel_rfl)) (show _ from HRY.out _ (F4.out.then' (Fr.refl _ w4).drew)) ?_
            try simp only [Act.put, List.getElem_toArray, List.getElem_cons_zero, List.getElem_cons_succ, List.setIfInBounds_toArray, List.set_cons_zero, List.set_cons_succ]
            refine kr_find 14 rfl (by kernel_rfl) (by kernel_rfl) (by kernel_rfl) (fun _ _ _ _ h => h) (by rfl) trivial ?_
            apply Exists.intro; apply And.intro
            · intro w' hS K hK
              clear hS
              go_light
              go_simp
              exact hK.out
            try simp only [Act.put, List.getElem_toArray, List.getElem_cons_zero, List.getElem_cons_succ, List.setIfInBounds_toArray, List.set_cons_zero, List.set_cons_succ]
            refine kr_one 15 (by kernel_rfl) rfl (by rfl) (fun K hK => ?_)
            refine wp_store_mid 69 _ _ rfl b (off + (j + 1) * 10) x.cells.toArray rfl rfl (HS4.out.there ((j + 1) * 10) 10 (by omega)) (by kernel_rfl) (by simp [W10.cells, Value.oneCell']) ?_
            refine hK.out _ _ ⟨.inl (by kernel_rfl), .inl (by kernel_rfl), trivial⟩ ?_
            change KGo _ _ _ _ _ _ _ _ (w4.drew.setCells b (off + (j + 1) * 10) x.cells)
            generalize w4.drew.setCells b (off + (j + 1) * 10) x.cells = w5 at HS5 HF5 ⊢
            clear hK K
            try simp only [Act.put, List.getElem_toArray, List.getElem_cons_zero, List.getElem_cons_succ, List.setIfInBounds_toArray, List.set_cons_zero, List.set_cons_succ]
            refine kr_find 16 rfl (by kernel_rfl) (by kernel_rfl) (by kernel_rfl) (fun _ _ _ _ h => h) (by rfl) trivial ?_
            apply Exists.intro; apply And.intro
            · intro w' hS K hK
              clear hS
              go_light
              go_simp
              exact hK.out
            try simp only [Act.put, List.getElem_toArray, List.getElem_cons_zero, List.getElem_cons_succ, List.setIfInBounds_toArray, List.set_cons_zero, List.set_cons_succ]
            refine kr_one 17 (by kernel_rfl) rfl (by rfl) (fun K hK => ?_)
            refine wp_store_mid 69 _ _ rfl b (off + j * 10) y.cells.toArray rfl rfl (HS5.out.there (j * 10) 10 (by omega)) (by kernel_rfl) (by simp [W10.cells, Value.oneCell']) ?_
            refine hK.out _ _ ⟨.inl (by kernel_rfl), .inl (by kernel_rfl), trivial⟩ ?_
            have HS6 := Lib.hid (show Sl N 69 10 (w5.setCells b (off + j * 10) y.cells) (.slice (some ⟨b, off, none⟩) n cap) n (wfl ((M2.set (j + 1) x).set j y)) from by
              have h := HS5.out.setCells y.cells (wfl (M2.set (j + 1) x)) _ (j * 10) (by rw [W10.cells_len]; omega)
              rw [wfl_set y (by rw [List.length_set, HL2.out]; omega)] at h
              exact h)
            have HF6 := Lib.hid (Fr.setCells (S := fun i => (Value.slice (some ⟨b, off, none⟩) n cap).ownBlock = some i) b (fun _ => rfl) y.cells (off + j * 10) _ HF5.out)
            change KGo _ _ _ _ _ _ _ _ (w5.setCells b (off + j * 10) y.cells)
            generalize w5.setCells b (off + j * 10) y.cells = w6 at HS6 HF6 ⊢
            clear hK K
            try simp only [Act.put, List.getElem_toArray, List.getElem_cons_zero, List.getElem_cons_succ, List.setIfInBounds_toArray, List.set_cons_zero, List.set_cons_succ]
            refine kr_done (by kernel_rfl) ?_ _
            go_wp2_with fail
            go_roundw
            case rel => exact ⟨j, (M2.set (j + 1) x).set j y, by first | rfl | go_num | (congr 1; omega), by omega, (swap_perm HXY.out.1 HXY.out.2).trans HP2.out, HDB.out.step (by omega) (by rw [HL2.out]; omega) HXY.out.1 HXY.out.2 HC.out, HS6.out, HF6.out⟩
            case measure => simp [intOf]
          · have hc1 : ¬ x.bits - y.bits < 0 := by omega
            have HC := Lib.hid (show y.bits ≤ x.bits by omega)
            have HS4' := Lib.hid (HS2.out.fr0 F4.out)
            have HF4' := Lib.hid (HF2.out.trans F4.out (fun _ _ e => e.elim))
            clear hcmp
            go_wp2_with fail
            go_roundw
            case rel => exact ⟨i + 1, M2, by go_num, by omega, .inl (by omega), HP2.out, HDB.out.stop (by omega) HXY.out.1 HXY.out.2 HC.out, HS4'.out, HF4'.out⟩
            case measure => simp [intOf]; omega
    · have HFIN := Lib.hid (show Desc M n from by
        rcases hin with h | h
        · obtain rfl : i = n := by omega
          exact HD.out
        · intro p q x y h1 h2; omega)
      go_wp2_with fail
      exact bodyPost_ret (v := .tuple #[]) (by simp [results, Try.results74, go_sem]) rfl ⟨rfl, M, HP.out, HFIN.out, HSM.out, HF.out⟩
end Go.Proofs.Ytcfadmjihccimaa
