/- The reference of law 12: Decode. No condition but lengths. -/
import Derived.Test.YtcfadmjihccimaaIcX
import Derived.Test.YtcfadmjihccimaaIcY0
namespace Go.Proofs.Ytcfadmjihccimaa
set_option linter.unusedVariables false
set_option linter.unusedSimpArgs false
open Go.RowKit

theorem results_cell15 (tmps : Array Value) (w : World) (b : Nat) (cs : List Value) (hp : tmps.getD 2 undef = .pointer (some ⟨b, 0, none⟩)) (hl : (loadVar 24 ⟨b, 0, none⟩).run Try.prog w = .ok (.agg cs.toArray) w) :
    (results Try.f15 tmps).run Try.prog w = .ok (.tuple #[.agg cs.toArray, tmps.getD 3 undef]) w := by
  have ha : (asAddr (.pointer (some ⟨b, 0, none⟩))).run Try.prog w = .ok ⟨b, 0, none⟩ w := by rfl
  rw [Array.getD_eq_getD_getElem?] at *
  simp [results, Try.results15, hp, hl, ha, Sem.run_bind]
theorem results_set15 (tmps : Array Value) (w : World) (b : Nat) (cs : List Value) (hn : cs.length = 6) (hp : tmps.getD 2 undef = .pointer (some ⟨b, 0, none⟩)) (ht : w.there b 0 6) :
    (results Try.f15 tmps).run Try.prog (w.setCells b 0 cs) = .ok (.tuple #[.agg cs.toArray, tmps.getD 3 undef]) (w.setCells b 0 cs) :=
  results_cell15 tmps _ b cs hp (run_loadVar_mid _ b 0 24 cs _ (World.rangeAt_setCells_same w b 0 cs (by rw [hn]; exact ht)) Try.underlying24 rfl (by rw [hn]; kernel_rfl))

set_option maxHeartbeats 8000000 in
set_option maxRecDepth 100000 in
theorem rdecode15_short (A : Option Addr) (n c : Nat) (w : World) (hn : n < 8) :
    Calls Try.prog 15 #[.slice A n c] w fun e w' => e = .returned (.tuple #[.agg #[.int .i64 0, .int .i64 0, .int .i64 0, .int .i64 0, .int .i64 0, .slice none 0 0], .int .i64 3]) ∧ Fr (fun _ => False) w w' := by
  have FA := Lib.hid (Fr.refl (fun _ => False) w)
  go_enter Try.func15, Try.ntmps15
  go_wp2_with fail
  exact bodyPost_ret (v := .tuple #[.agg #[.int .i64 0, .int .i64 0, .int .i64 0, .int .i64 0, .int .i64 0, .slice none 0 0], .int .i64 3]) (by simp [results, Try.results15, go_sem]) rfl ⟨rfl, FA.out.alloc _⟩
set_option maxHeartbeats 8000000 in
set_option maxRecDepth 100000 in
theorem rdecode15_long (A : Option Addr) (n c : Nat) (w : World) (hn : 1024 < n) :
    Calls Try.prog 15 #[.slice A n c] w fun e w' => e = .returned (.tuple #[.agg #[.int .i64 0, .int .i64 0, .int .i64 0, .int .i64 0, .int .i64 0, .slice none 0 0], .int .i64 2]) ∧ Fr (fun _ => False) w w' := by
  have FA := Lib.hid (Fr.refl (fun _ => False) w)
  have h8 : ¬ n < 8 := by omega
  go_enter Try.func15, Try.ntmps15
  go_wp2_with fail
  exact bodyPost_ret (v := .tuple #[.agg #[.int .i64 0, .int .i64 0, .int .i64 0, .int .i64 0, .int .i64 0, .slice none 0 0], .int .i64 2]) (by simp [results, Try.results15, go_sem]) rfl ⟨rfl, FA.out.alloc _⟩
set_option maxHeartbeats 8000000 in
set_option maxRecDepth 100000 in
theorem rdecode15_sum (A : Option Addr) (n c : Nat) (l : List Int) (w : World) (hn : 8 ≤ n) (hn2 : n ≤ 1024) (P : Pc w A n l) (hs : ck l ≠ 0) :
    Calls Try.prog 15 #[.slice A n c] w fun e w' => e = .returned (.tuple #[.agg #[.int .i64 0, .int .i64 0, .int .i64 0, .int .i64 0, .int .i64 0, .slice none 0 0], .int .i64 5]) ∧ Fr (fun _ => False) w w' := by
  have FA := Lib.hid (Fr.refl (fun _ => False) w)
  have HP := Lib.hid P
  obtain ⟨s, hse⟩ : ∃ s, ck l = s := ⟨_, rfl⟩
  have HS := Lib.hid hse
  rw [hse] at hs
  have hsb : (s == 0) = false := by simpa using hs
  clear P hse
  go_enter Try.func15, Try.ntmps15
  go_wp2_with (go_at_call 45; refine (rsum29 (HP.out.fr ((Fr.refl (fun _ => False) w).alloc (.cells #[.int .i64 0, .int .i64 0, .int .i64 0, .int .i64 0, .int .i64 0, .slice none 0 0] 24))) c).mono ?_; rw [HS.out]; rintro e w2 ⟨rfl, hw⟩; have hw := hw.symm; subst hw)
  exact bodyPost_ret (v := .tuple #[.agg #[.int .i64 0, .int .i64 0, .int .i64 0, .int .i64 0, .int .i64 0, .slice none 0 0], .int .i64 5]) (by simp [results, Try.results15, go_sem]) rfl ⟨rfl, FA.out.alloc _⟩

def RDPost (w : World) (m : Im) (g : Bool) (n : Nat) (dl : List Int) (e : Ending) (w' : World) : Prop := Fr (fun _ => False) w w' ∧
      ((m.may && g) = true → ∃ A9 c9, e = .returned (.tuple #[.agg #[.int .i64 m.ty, .int .i64 m.code, .int .i64 m.id, .int .i64 m.seq, .int .i64 m.mtu, .slice A9 (n - 8) c9], .int .i64 0]) ∧ Pc w' A9 (n - 8) dl) ∧
      ((m.may && g) = false → e = .returned (.tuple #[.agg #[.int .i64 0, .int .i64 0, .int .i64 0, .int .i64 0, .int .i64 0, .slice none 0 0], .int .i64 4]))
theorem RDPost.good {w w' : World} {m : Im} {g : Bool} {n : Nat} {dl : List Int} {A9 : Option Addr} {c9 : Nat} (hm : m.may = true) (hg : g = true) (f : Fr (fun _ => False) w w') (P : Pc w' A9 (n - 8) dl) :
    RDPost w m g n dl (.returned (.tuple #[.agg #[.int .i64 m.ty, .int .i64 m.code, .int .i64 m.id, .int .i64 m.seq, .int .i64 m.mtu, .slice A9 (n - 8) c9], .int .i64 0])) w' :=
  ⟨f, (fun _ => ⟨A9, c9, rfl, P⟩), (fun h => by rw [hm, hg] at h; cases h)⟩
theorem RDPost.bad {w w' : World} {m : Im} {g : Bool} {n : Nat} {dl : List Int} (h : (m.may && g) = false) (f : Fr (fun _ => False) w w') :
    RDPost w m g n dl (.returned (.tuple #[.agg #[.int .i64 0, .int .i64 0, .int .i64 0, .int .i64 0, .int .i64 0, .slice none 0 0], .int .i64 4])) w' :=
  ⟨f, (fun h' => by rw [h] at h'; cases h'), fun _ => rfl⟩
theorem at_be {l : List Int} {n : Nat} (hn : l.length = n) {f k : Nat} (h : f + k ≤ n) : be ((l.drop f).take k) = atV l f k := by
  unfold atV
  rw [if_neg (by omega)]; rfl

set_option maxHeartbeats 16000000 in
set_option maxRecDepth 100000 in
theorem rdecode15_rest (A : Option Addr) (n c : Nat) (l : List Int) (w : World) (hn : 8 ≤ n) (hn2 : n ≤ 1024) (hcp : n ≤ c) (P : Pc w A n l) (hs : ck l = 0) (m : Im) (hm : dI l = m) (b : Bool) (hb : ec m.ty = b) (hbb : m.id = cond b (atV l 4 2) 0) (hbs : m.seq = cond b (atV l 6 2) 0) (hbm : m.mtu = cond b 0 (atV l 6 2)) (hty : dX l 0 = m.ty) (hco : dX l 1 = m.code) :
    Calls Try.prog 15 #[.slice A n c] w fun e w' => RDPost w m (b || (atV l 4 2 == 0)) n (l.drop 8) e w' := by
  obtain ⟨i1, hi1⟩ : ∃ s, atV l 4 2 = s := ⟨_, rfl⟩
  obtain ⟨i2, hi2⟩ : ∃ s, atV l 6 2 = s := ⟨_, rfl⟩
  rw [hi1] at hbb ⊢
  rw [hi2] at hbs hbm
  have FA := Lib.hid (Fr.refl (fun _ => False) w)
  have HP := Lib.hid P
  have HS := Lib.hid hs
  have HM := Lib.hid hm
  have HEB := Lib.hid hb
  have HI := Lib.hid (And.intro hbb (And.intro hbs hbm))
  have HI1 := Lib.hid (show be ((l.drop 4).take 2) = i1 by rw [at_be P.len (by omega)]; exact hi1)
  have HI2 := Lib.hid (show be ((l.drop 6).take 2) = i2 by rw [at_be P.len (by omega)]; exact hi2)
  obtain ⟨KL, hKL⟩ : ∃ K, m.lay (be ((l.drop 2).take 2)) (l.drop 8) = K := ⟨_, rfl⟩
  have HKiff := Lib.hid (show KL = l ↔ (b || (i1 == 0)) = true by
    have h := lay_back P.ok (by rw [P.len]; omega : 8 ≤ l.length)
    rw [hm, hKL, hty, hb, hi1] at h
    exact h)
  obtain ⟨i3, hi3⟩ : ∃ i3, be ((l.drop 2).take 2) = i3 := ⟨_, rfl⟩
  have HI3 := Lib.hid hi3
  have HI3b := Lib.hid (show 0 ≤ i3 ∧ i3 ≤ 65535 by
    rw [← hi3]
    have h2 := P.ok _ (List.mem_of_getElem? (dX_get (l := l) (i := 2) (by rw [P.len]; omega)))
    have h3 := P.ok _ (List.mem_of_getElem? (dX_get (l := l) (i := 3) (by rw [P.len]; omega)))
    have e : (l.drop 2).take 2 = [dX l 2, dX l 3] := by
      have hl := P.len
      match l, hl with
      | x0 :: x1 :: x2 :: x3 :: r, _ => rfl
      | [], h => simp at h; omega
      | [x0], h => simp at h; omega
      | [x0, x1], h => simp at h; omega
      | [x0, x1, x2], h => simp at h; omega
    rw [e]
    simp [be]; omega)
  rw [hi3] at hKL
  have HKE := Lib.hid hKL
  have HKL := Lib.hid (show KL.length = n by rw [← hKL, lay_len, List.length_drop, P.len]; omega)
  have HKB := Lib.hid (fun (h : m.may = true) => show isB KL by rw [← hKL]; exact isB_lay h _ (fun x hx => P.ok x (List.mem_of_mem_drop hx)))
  clear hKL hi3
  have hec : ((m.ty == 0) || (m.ty == 8)) = b := hb
  obtain ⟨e0, he0⟩ : ∃ e0, (m.ty == 0) = e0 := ⟨_, rfl⟩
  obtain ⟨e8, he8⟩ : ∃ e8, (m.ty == 8) = e8 := ⟨_, rfl⟩
  rw [he0, he8] at hec
  have HEC := Lib.hid hec
  obtain ⟨bb, off, rfl, hbl, hcell⟩ := P.here (by rw [P.len]; omega)
  have x0 := hcell 0 (dX l 0) (dX_get (by rw [P.len]; omega))
  have x1 := hcell 1 (dX l 1) (dX_get (by rw [P.len]; omega))
  rw [hty] at x0
  rw [hco] at x1
  have t0 := P.ok _ (List.mem_of_getElem? (dX_get (l := l) (i := 0) (by rw [P.len]; omega)))
  have t1 := P.ok _ (List.mem_of_getElem? (dX_get (l := l) (i := 1) (by rw [P.len]; omega)))
  rw [hty] at t0
  rw [hco] at t1
  rw [Nat.add_zero] at x0
  have HX := Lib.hid (And.intro x0 x1)
  have hw0 : IntKind.i64.wrap m.ty = m.ty := IntWalk.i64_in _ (by omega)
  have hw1 : IntKind.i64.wrap m.code = m.code := IntWalk.i64_in _ (by omega)
  obtain ⟨A9, hA9, hB9⟩ : ∃ A9, (A9 = if c ≤ 8 then some ⟨bb, off, none⟩ else some ⟨bb, off + 8, none⟩) ∧ BytesIn w.heap.size w A9 (l.drop 8) := by
    have h0 : (l.drop 8).length = n - 8 := by rw [List.length_drop, P.len]
    by_cases h8 : c ≤ 8
    · exact ⟨_, by rw [if_pos h8], fun h => by omega⟩
    · exact ⟨_, by rw [if_neg h8], P.here.drop 8⟩
  have HA9 := Lib.hid hA9
  have PB9 := Lib.hid (show Pc w A9 (n - 8) (l.drop 8) from ⟨by rw [List.length_drop, P.len], fun x hx => P.ok x (List.mem_of_mem_drop hx), by omega, hB9⟩)
  clear P hs hm hb hbb hbs hbm hty hco x0 x1 hcell hi1 hi2 hA9 hB9 hec
  go_enter Try.func15, Try.ntmps15
  go_upto_region 5 with (fail)
  have g0 := heap_alloc_new w (.cells #[.int .i64 0, .int .i64 0, .int .i64 0, .int .i64 0, .int .i64 0, .slice none 0 0] 24)
  have FB := Lib.hid (FA.out.alloc (.cells #[.int .i64 0, .int .i64 0, .int .i64 0, .int .i64 0, .int .i64 0, .slice none 0 0] 24))
  have hz : w.heap.size < (w.alloc (.cells #[.int .i64 0, .int .i64 0, .int .i64 0, .int .i64 0, .int .i64 0, .slice none 0 0] 24)).heap.size := by simp
  generalize w.alloc (.cells #[.int .i64 0, .int .i64 0, .int .i64 0, .int .i64 0, .int .i64 0, .slice none 0 0] 24) = w2 at g0 FB hz ⊢
  have P2 := Lib.hid (HP.out.fr FB.out)
  have HG := Lib.hid (And.intro g0 hz)
  clear g0 hz
  go_upto_region 7 with (go_at_call 45; refine (rsum29 P2.out c).mono ?_; rw [HS.out]; rintro e w3 ⟨rfl, hw⟩; have hw := hw.symm; subst hw)
  have HK0 := Lib.hid (fun (w' : World) (k : Fr (fun _ => False) w2 w') => show w'.cell? ⟨bb, off, none⟩ = some (.int .u8 m.ty) ∧ w'.cell? ⟨bb, off + 1, none⟩ = some (.int .u8 m.code) from ⟨(World.cell?_of_block ((FB.out.then' k).block bb hbl (fun e => e))).trans HX.out.1, (World.cell?_of_block ((FB.out.then' k).block bb hbl (fun e => e))).trans HX.out.2⟩)
  have e0' : 0 < n := by omega
  have e1' : 1 < n := by omega
  have e2' : (0 : Int) < (n : Int) := by omega
  have e3' : (1 : Int) < (n : Int) := by omega
  have e4' : 8 ≤ c := by omega
  go_cut [4] (fun v4 wc => ∃ g8 : Nat, v4 = .pointer (some ⟨g8, 0, none⟩) ∧ w2.heap.size ≤ g8 ∧ g8 < wc.heap.size ∧ wc.rangeAt g8 0 [.int .i64 m.ty, .int .i64 m.code, .int .i64 0, .int .i64 0, .int .i64 0, .slice A9 (n - 8) (c - 8)] ∧ wc.there g8 0 6 ∧ Fr (fun _ => False) w2 wc)
  case first =>
    have HXc := Lib.hid (HK0.out _ (Fr.refl _ w2).drew)
    have HXa := Lib.hid (HK0.out _ ((Fr.refl _ w2).drew.alloc (.cells #[.int .i64 0, .int .i64 0, .int .i64 0, .int .i64 0, .int .i64 0, .slice none 0 0] 24)))
    have HTH := Lib.hid (show (w2.drew.alloc (.cells #[.int .i64 0, .int .i64 0, .int .i64 0, .int .i64 0, .int .i64 0, .slice none 0 0] 24)).there w2.heap.size 0 6 from there_new (heap_alloc_new w2.drew _) rfl)
    refine kr_start [(2, fun W => W.cell? ⟨bb, off, none⟩ = some (.int .u8 m.ty)), (6, fun W => W.cell? ⟨bb, off + 1, none⟩ = some (.int .u8 m.code))] (by kernel_rfl) (by kernel_rfl) ?_
    refine kr_find 0 rfl (by kernel_rfl) (by kernel_rfl) (by kernel_rfl) (fun _ _ _ _ h => h) (by rfl) trivial ?_
    apply Exists.intro; apply And.intro
    · intro w' hS K hK
      clear hS
      go_light
      go_simp
      exact hK.out
    try simp only [Act.put, List.getElem_toArray, List.getElem_cons_zero, List.getElem_cons_succ, List.setIfInBounds_toArray, List.set_cons_zero, List.set_cons_succ]
    refine kr_find 1 rfl (by kernel_rfl) (by kernel_rfl) (by kernel_rfl) (fun _ _ _ _ h => h) (by rfl) trivial ?_
    apply Exists.intro; apply And.intro
    · intro w' hS K hK
      clear hS
      go_light
      go_simp
      exact hK.out
    try simp only [Act.put, List.getElem_toArray, List.getElem_cons_zero, List.getElem_cons_succ, List.setIfInBounds_toArray, List.set_cons_zero, List.set_cons_succ]
    refine kr_find 2 rfl (by kernel_rfl) (by kernel_rfl) (by kernel_rfl) (fun _ _ _ _ h => h) (by rfl) (show _ from HXc.out.1) ?_
    apply Exists.intro; apply And.intro
    · intro w' hS K hK
      have hS : w'.cell? ⟨bb, off, none⟩ = some (.int .u8 m.ty) := hS
      go_light
      go_simp
      exact hK.out
    try simp only [Act.put, List.getElem_toArray, List.getElem_cons_zero, List.getElem_cons_succ, List.setIfInBounds_toArray, List.set_cons_zero, List.set_cons_succ]
    refine kr_find 3 rfl (by kernel_rfl) (by kernel_rfl) (by kernel_rfl) (fun _ _ _ _ h => h) (by rfl) trivial ?_
    apply Exists.intro; apply And.intro
    · intro w' hS K hK
      clear hS
      go_light
      go_simp
      exact hK.out
    try simp only [Act.put, List.getElem_toArray, List.getElem_cons_zero, List.getElem_cons_succ, List.setIfInBounds_toArray, List.set_cons_zero, List.set_cons_succ]
    refine kr_find 4 rfl (by kernel_rfl) (by kernel_rfl) (by kernel_rfl) (fun _ _ _ _ h => h) (by rfl) trivial ?_
    apply Exists.intro; apply And.intro
    · intro w' hS K hK
      clear hS
      go_light
      go_simp
      exact hK.out
    try simp only [Act.put, List.getElem_toArray, List.getElem_cons_zero, List.getElem_cons_succ, List.setIfInBounds_toArray, List.set_cons_zero, List.set_cons_succ]
    refine kr_find 5 rfl (by kernel_rfl) (by kernel_rfl) (by kernel_rfl) (fun _ _ _ _ h => h) (by rfl) trivial ?_
    apply Exists.intro; apply And.intro
    · intro w' hS K hK
      clear hS
      go_light
      go_simp
      exact hK.out
    try simp only [Act.put, List.getElem_toArray, List.getElem_cons_zero, List.getElem_cons_succ, List.setIfInBounds_toArray, List.set_cons_zero, List.set_cons_succ]
    refine kr_find 6 rfl (by kernel_rfl) (by kernel_rfl) (by kernel_rfl) (fun _ _ _ _ h => h) (by rfl) (show _ from HXc.out.2) ?_
    apply Exists.intro; apply And.intro
    · intro w' hS K hK
      have hS : w'.cell? ⟨bb, off + 1, none⟩ = some (.int .u8 m.code) := hS
      go_light
      go_simp
      exact hK.out
    try simp only [Act.put, List.getElem_toArray, List.getElem_cons_zero, List.getElem_cons_succ, List.setIfInBounds_toArray, List.set_cons_zero, List.set_cons_succ]
    refine kr_find 7 rfl (by kernel_rfl) (by kernel_rfl) (by kernel_rfl) (fun _ _ _ _ h => h) (by rfl) trivial ?_
    apply Exists.intro; apply And.intro
    · intro w' hS K hK
      clear hS
      go_light
      go_simp
      exact hK.out
    try simp only [Act.put, List.getElem_toArray, List.getElem_cons_zero, List.getElem_cons_succ, List.setIfInBounds_toArray, List.set_cons_zero, List.set_cons_succ]
    refine kr_find 8 rfl (by kernel_rfl) (by kernel_rfl) (by kernel_rfl) (fun _ _ _ _ h => h) (by rfl) trivial ?_
    apply Exists.intro; apply And.intro
    · intro w' hS K hK
      clear hS
      go_light
      go_simp
      exact hK.out
    try simp only [Act.put, List.getElem_toArray, List.getElem_cons_zero, List.getElem_cons_succ, List.setIfInBounds_toArray, List.set_cons_zero, List.set_cons_succ]
    refine kr_take 9 rfl (by kernel_rfl) (by kernel_rfl) (by kernel_rfl) (fun _ _ _ h => h) (kr_run (v := .slice A9 (n - 8) (c - 8)) rfl (fun w' _ => by (have hA := HA9.out; by_cases h8 : c ≤ 8; (have h8' : c = 8 := by omega); (have hn8 : n = 8 := by omega); (subst h8'; subst hn8; simp at hA; subst hA; go_simp); (rw [if_neg h8] at hA; subst hA; have e5 : ¬ c - 8 = 0 := by omega); (have e6 : ¬ c = 8 := by omega); go_simp))) trivial ?_
    try simp only [Act.put, List.getElem_toArray, List.getElem_cons_zero, List.getElem_cons_succ, List.setIfInBounds_toArray, List.set_cons_zero, List.set_cons_succ]
    refine kr_find 10 rfl (by kernel_rfl) (by kernel_rfl) (by kernel_rfl) (fun _ _ _ _ h => h) (by rfl) trivial ?_
    apply Exists.intro; apply And.intro
    · intro w' hS K hK
      clear hS
      go_light
      go_simp
      exact hK.out
    try simp only [Act.put, List.getElem_toArray, List.getElem_cons_zero, List.getElem_cons_succ, List.setIfInBounds_toArray, List.set_cons_zero, List.set_cons_succ]
    refine kr_one 11 (by kernel_rfl) rfl (by rfl) (fun K hK => ?_)
    go_simp
    refine hK.out _ _ ⟨.inr HXa.out.1, .inr HXa.out.2, trivial⟩ ?_
    clear hK K
    try simp only [Act.put, List.getElem_toArray, List.getElem_cons_zero, List.getElem_cons_succ, List.setIfInBounds_toArray, List.set_cons_zero, List.set_cons_succ]
    refine kr_one 12 (by kernel_rfl) rfl (by rfl) (fun K hK => ?_)
    refine wp_store_mid 24 _ _ rfl w2.heap.size 0 #[.int .i64 m.ty, .int .i64 m.code, .int .i64 0, .int .i64 0, .int .i64 0, .slice A9 (n - 8) (c - 8)] rfl rfl HTH.out (by kernel_rfl) (by kernel_rfl) ?_
    refine hK.out _ _ ⟨.inl (by kernel_rfl), .inl (by kernel_rfl), trivial⟩ ?_
    clear hK K
    try simp only [Act.put, List.getElem_toArray, List.getElem_cons_zero, List.getElem_cons_succ, List.setIfInBounds_toArray, List.set_cons_zero, List.set_cons_succ]
    refine kr_done (by kernel_rfl) ?_ _
    go_wp2_with fail
    go_meet
    have r5 := World.rangeAt_setCells_same (w2.drew.alloc (.cells #[.int .i64 0, .int .i64 0, .int .i64 0, .int .i64 0, .int .i64 0, .slice none 0 0] 24)) w2.heap.size 0 [.int .i64 m.ty, .int .i64 m.code, .int .i64 0, .int .i64 0, .int .i64 0, .slice A9 (n - 8) (c - 8)] HTH.out
    exact ⟨w2.heap.size, rfl, Nat.le_refl _, lt_of_block2 r5 rfl, r5, World.there_setCells HTH.out _ _ _, Fr.setCells w2.heap.size (fun h => absurd h (Nat.lt_irrefl _)) _ 0 _ ((Fr.refl (fun _ => False) w2).drew.alloc _)⟩
  case rest =>
    as_aux_lemma =>
    obtain ⟨g8, rfl, hg0, hg1, hr8, ht8, hf8⟩ := hcut
    obtain ⟨wx, hwx⟩ : ∃ x, x = wc := ⟨_, rfl⟩
    subst hwx
    have hsz2 : w.heap.size < w2.heap.size := HG.out.2
    have q0 := hr8 0 _ rfl
    simp only [Nat.zero_add] at q0
    have HR8 := Lib.hid hr8
    have HT8 := Lib.hid ht8
    have HF8 := Lib.hid hf8
    have y2 := (ht8 2 (by omega)).2
    have y3 := (ht8 3 (by omega)).2
    have y4 := (ht8 4 (by omega)).2
    have x2 := hr8 2 _ rfl
    have x3 := hr8 3 _ rfl
    have x4 := hr8 4 _ rfl
    simp only [Nat.zero_add] at y2 y3 y4 x2 x3 x4
    clear hr8 ht8 hf8 e0' e1' e2' e3' e4' hw0 hw1
    have PX := Lib.hid (P2.out.fr HF8.out)
    have T1 := Lib.hid True.intro
    have hne : (b = false ∧ e0 = false ∧ e8 = false) ∨ (b = true ∧ e0 = true) ∨ (b = true ∧ e0 = false ∧ e8 = true) := by
      have h := HEC.out
      subst h
      cases e0 <;> cases e8 <;> simp
    go_upto_region 8 with (fail)
    go_cut [36] (fun v36 wd => v36 = .bool b ∧ wd = wx)
    case first =>
      rcases hne with ⟨rfl, rfl, rfl⟩ | ⟨rfl, rfl⟩ | ⟨rfl, rfl, rfl⟩
      all_goals go_wp2_with fail
      all_goals go_meet
      all_goals exact ⟨rfl, rfl⟩
    case rest =>
      obtain ⟨rfl, hwc⟩ := hcut
      subst hwc
      clear hne
      obtain ⟨wy, hwy⟩ : ∃ x, x = wc := ⟨_, rfl⟩
      subst hwy
      go_upto_if 36 with (fail)
      go_cut [] (fun wd => MsgAt wd g8 m (.slice A9 (n - 8) (c - 8)) ∧ wd.there g8 0 6 ∧ Fr (fun i => i = g8) wy wd)
      case first =>
        have hq := HI.out
        cases b
        · simp only [cond_false] at hq
          have HQ := Lib.hid hq
          clear hq HI
          go_wp2_with (go_at_call 49; refine (rat38_ok _ n c l 6 2 wy PX.out (by omega) (by decide) (by decide)).mono ?_; rw [HI2.out]; rintro e w6 ⟨rfl, hw6⟩; have hw6 := hw6.symm; subst hw6)
          go_meet
          refine ⟨?_, there_set HT8.out _ _, (Fr.refl (fun i => i = g8) wy).setCell _ _ (fun _ => rfl)⟩
          unfold MsgAt
          rw [HQ.out.1, HQ.out.2.1, HQ.out.2.2]
          exact rangeAt_set HR8.out 4 (.int .i64 i2) (by simp)
        · simp only [cond_true] at hq
          have HQ := Lib.hid hq
          clear hq HI
          go_upto_region 10 with (go_at_call 49; refine (rat38_ok _ n c l 4 2 wy PX.out (by omega) (by decide) (by decide)).mono ?_; rw [HI1.out]; rintro e w6 ⟨rfl, hw6⟩; have hw6 := hw6.symm; subst hw6)
          have f6 : Fr (fun i => i = g8) wy (wy.setCell ⟨g8, 2, none⟩ (.int .i64 i1)) := (Fr.refl (fun i => i = g8) wy).setCell _ _ (fun _ => rfl)
          have P6 := Lib.hid (show Pc (wy.setCell ⟨g8, 2, none⟩ (.int .i64 i1)) (some ⟨bb, off, none⟩) n l from HP.out.fr ((FB.out.then' HF8.out).trans f6 (fun i hi e => by omega)))
          have RS6 := Lib.hid (rangeAt_set HR8.out 2 (.int .i64 i1) (by simp))
          have TS6 := Lib.hid (there_set HT8.out ⟨g8, 2, none⟩ (.int .i64 i1))
          have F6 := Lib.hid f6
          clear q0 x2 x3 x4 y2 y3 y4 f6
          generalize wy.setCell ⟨g8, 2, none⟩ (.int .i64 i1) = w6 at P6 RS6 TS6 F6 ⊢
          have x3 := RS6.out 3 _ rfl
          have y3 := (TS6.out 3 (by omega)).2
          simp only [Nat.zero_add] at x3 y3
          go_wp2_with (go_at_call 49; refine (rat38_ok _ n c l 6 2 w6 P6.out (by omega) (by decide) (by decide)).mono ?_; rw [HI2.out]; rintro e w7 ⟨rfl, hw7⟩; have hw7 := hw7.symm; subst hw7)
          go_meet
          refine ⟨?_, there_set TS6.out _ _, F6.out.setCell _ _ (fun _ => rfl)⟩
          unfold MsgAt
          rw [HQ.out.1, HQ.out.2.1, HQ.out.2.2]
          exact rangeAt_set RS6.out 3 (.int .i64 i2) (by simp)
      case rest =>
        as_aux_lemma =>
        obtain ⟨rm, rt, rf⟩ := hcut
        have F2d : Fr (fun _ => False) w2 wc := HF8.out.trans rf (fun i hi e => by omega)
        have FWd := Lib.hid (FB.out.then' F2d)
        have HW := Lib.hid (fun (w' : World) (k : Fr (fun _ => False) wc w') => show MsgAt w' g8 m (.slice A9 (n - 8) (c - 8)) ∧ w'.heap[w.heap.size]? = some (.cells #[.int .i64 0, .int .i64 0, .int .i64 0, .int .i64 0, .int .i64 0, .slice none 0 0] 24) from
          ⟨fun j v hj => (World.cell?_of_block (k.block g8 (by have := rf.size; omega) (fun e => e))).trans (rm j v hj), ((F2d.then' k).block w.heap.size HG.out.2 (fun e => e)).trans HG.out.1⟩)
        have q0 := rm 0 _ rfl
        have q1 := rm 1 _ rfl
        have q2 := rm 2 _ rfl
        have q3 := rm 3 _ rfl
        have q4 := rm 4 _ rfl
        have q5 := rm 5 _ rfl
        simp only [Nat.zero_add] at q0 q1 q2 q3 q4 q5
        clear rm rt rf F2d
        clear x2 x3 x4 y2 y3 y4 HT8 HR8 HF8 PX HG P2 FB HX HK0
        obtain ⟨mv, hmv⟩ : ∃ mv, m.may = mv := ⟨_, rfl⟩
        have HMV := Lib.hid hmv
        clear hmv
        cases mv
        · as_aux_lemma =>
            go_upto_region 13 with (go_at_call 43; refine (rmay43 m.ty m.code m.id m.seq m.mtu _ _).mono ?_; rw [show Im.may ⟨m.ty, m.code, m.id, m.seq, m.mtu⟩ = _ from HMV.out]; rintro e w5 ⟨rfl, f5⟩; have F5 := Lib.hid f5; clear f5)
            clear q0 q1 q2 q3 q4 q5
            have FW5 := Lib.hid (FWd.out.then' F5.out)
            have P5 := Lib.hid (HP.out.fr FW5.out)
            have PB5 := Lib.hid (PB9.out.fr FW5.out)
            have HRM := Lib.hid (fun (w' : World) (k : Fr (fun _ => False) w5 w') => (HW.out w' (F5.out.then' k)).1)
            have HROW := Lib.hid (fun (w' : World) (k : Fr (fun _ => False) w5 w') => (HW.out w' (F5.out.then' k)).2)
            refine kr_start [] (by kernel_rfl) (by kernel_rfl) ?_
            refine kr_find 0 rfl (by kernel_rfl) (by kernel_rfl) (by kernel_rfl) (fun _ _ _ _ h => h) (by rfl) trivial ?_
            apply Exists.intro; apply And.intro
            · intro w' hS K hK
              clear hS
              go_light
              go_simp
              exact hK.out
            try simp only [Act.put, List.getElem_toArray, List.getElem_cons_zero, List.getElem_cons_succ, List.setIfInBounds_toArray, List.set_cons_zero, List.set_cons_succ]
            refine kr_find 1 rfl (by kernel_rfl) (by kernel_rfl) (by kernel_rfl) (fun _ _ _ _ h => h) (by rfl) trivial ?_
            apply Exists.intro; apply And.intro
            · intro w' hS K hK
              clear hS
              go_light
              go_simp
              exact hK.out
            try simp only [Act.put, List.getElem_toArray, List.getElem_cons_zero, List.getElem_cons_succ, List.setIfInBounds_toArray, List.set_cons_zero, List.set_cons_succ]
            refine kr_find 2 rfl (by kernel_rfl) (by kernel_rfl) (by kernel_rfl) (fun _ _ _ _ h => h) (by rfl) trivial ?_
            apply Exists.intro; apply And.intro
            · intro w' hS K hK
              clear hS
              go_light
              go_simp
              exact hK.out
            try simp only [Act.put, List.getElem_toArray, List.getElem_cons_zero, List.getElem_cons_succ, List.setIfInBounds_toArray, List.set_cons_zero, List.set_cons_succ]
            refine kr_take 3 rfl (by kernel_rfl) (by kernel_rfl) (by kernel_rfl) (fun _ _ _ h => h) (kr_not (by rfl)) trivial ?_
            try simp only [Act.put, List.getElem_toArray, List.getElem_cons_zero, List.getElem_cons_succ, List.setIfInBounds_toArray, List.set_cons_zero, List.set_cons_succ]
            refine kr_take 4 rfl (by kernel_rfl) (by kernel_rfl) (by kernel_rfl) (fun _ _ _ h => h) (kr_not (by rfl)) trivial ?_
            try simp only [Act.put, List.getElem_toArray, List.getElem_cons_zero, List.getElem_cons_succ, List.setIfInBounds_toArray, List.set_cons_zero, List.set_cons_succ]
            refine kr_take 5 rfl (by kernel_rfl) (by kernel_rfl) (by kernel_rfl) (fun _ _ _ h => h) (kr_not (by rfl)) trivial ?_
            try simp only [Act.put, List.getElem_toArray, List.getElem_cons_zero, List.getElem_cons_succ, List.setIfInBounds_toArray, List.set_cons_zero, List.set_cons_succ]
            refine kr_take 6 rfl (by kernel_rfl) (by kernel_rfl) (by kernel_rfl) (fun _ _ _ h => h) (kr_not (by rfl)) trivial ?_
            try simp only [Act.put, List.getElem_toArray, List.getElem_cons_zero, List.getElem_cons_succ, List.setIfInBounds_toArray, List.set_cons_zero, List.set_cons_succ]
            refine kr_take 7 rfl (by kernel_rfl) (by kernel_rfl) (by kernel_rfl) (fun _ _ _ h => h) (kr_not (by rfl)) trivial ?_
            try simp only [Act.put, List.getElem_toArray, List.getElem_cons_zero, List.getElem_cons_succ, List.setIfInBounds_toArray, List.set_cons_zero, List.set_cons_succ]
            refine kr_take 8 rfl (by kernel_rfl) (by kernel_rfl) (by kernel_rfl) (fun _ _ _ h => h) (kr_not (by rfl)) trivial ?_
            try simp only [Act.put, List.getElem_toArray, List.getElem_cons_zero, List.getElem_cons_succ, List.setIfInBounds_toArray, List.set_cons_zero, List.set_cons_succ]
            refine kr_take 9 rfl (by kernel_rfl) (by kernel_rfl) (by kernel_rfl) (fun _ _ _ h => h) (kr_not (by rfl)) trivial ?_
            try simp only [Act.put, List.getElem_toArray, List.getElem_cons_zero, List.getElem_cons_succ, List.setIfInBounds_toArray, List.set_cons_zero, List.set_cons_succ]
            refine kr_take 10 rfl (by kernel_rfl) (by kernel_rfl) (by kernel_rfl) (fun _ _ _ h => h) (kr_not (by rfl)) trivial ?_
            try simp only [Act.put, List.getElem_toArray, List.getElem_cons_zero, List.getElem_cons_succ, List.setIfInBounds_toArray, List.set_cons_zero, List.set_cons_succ]
            refine kr_find 11 rfl (by kernel_rfl) (by kernel_rfl) (by kernel_rfl) (fun _ _ _ _ h => h) (by rfl) trivial ?_
            apply Exists.intro; apply And.intro
            · intro w' hS K hK
              clear hS
              go_light
              go_simp
              exact hK.out
            try simp only [Act.put, List.getElem_toArray, List.getElem_cons_zero, List.getElem_cons_succ, List.setIfInBounds_toArray, List.set_cons_zero, List.set_cons_succ]
            refine kr_done (by kernel_rfl) ?_ _
            have HD := Lib.hid (rfl : (0 : Nat) = 0)
            have F58 := Lib.hid (Fr.refl (fun _ => False) w5).drew
            go_upto_region 14 with (fail)
            generalize w5.drew = w8 at F58 ⊢
            have HT := Lib.hid (there_new (w := w8) (b := w.heap.size) (HROW.out w8 F58.out) rfl)
            have R8 := Lib.hid (HRM.out w8 F58.out)
            have FW8 := Lib.hid (FW5.out.then' F58.out)
            go_step
            refine wpList_plain rfl fun K hK => ?_
            go_simp
            refine hK _ _ ?_
            refine wpList_store24 rfl _ _ rfl w.heap.size [.int .i64 0, .int .i64 0, .int .i64 0, .int .i64 0, .int .i64 0, .slice none 0 0] rfl rfl HT.out rfl (by kernel_rfl) ?_
            have F7 := Lib.hid (Fr.setCells (S := fun _ => False) w.heap.size (fun h => absurd h (Nat.lt_irrefl _)) [.int .i64 0, .int .i64 0, .int .i64 0, .int .i64 0, .int .i64 0, .slice none 0 0] 0 w8 FW8.out)
            have RS := Lib.hid (fun tmps hp => results_set15 tmps w8 w.heap.size [.int .i64 0, .int .i64 0, .int .i64 0, .int .i64 0, .int .i64 0, .slice none 0 0] rfl hp HT.out)
            generalize w8.setCells w.heap.size 0 [.int .i64 0, .int .i64 0, .int .i64 0, .int .i64 0, .int .i64 0, .slice none 0 0] = w9 at F7 RS ⊢
            go_wp2_with fail
            exact bodyPost_ret (v := .tuple #[.agg #[.int .i64 0, .int .i64 0, .int .i64 0, .int .i64 0, .int .i64 0, .slice none 0 0], .int .i64 4]) (RS.out _ rfl) rfl (RDPost.bad (by rw [HMV.out, Bool.false_and]) F7.out)
        · as_aux_lemma =>
            go_upto_region 13 with (go_at_call 43; refine (rmay43 m.ty m.code m.id m.seq m.mtu _ _).mono ?_; rw [show Im.may ⟨m.ty, m.code, m.id, m.seq, m.mtu⟩ = _ from HMV.out]; rintro e w5 ⟨rfl, f5⟩; have F5 := Lib.hid f5; clear f5)
            clear q0 q1 q2 q3 q4 q5
            have FW5 := Lib.hid (FWd.out.then' F5.out)
            have P5 := Lib.hid (HP.out.fr FW5.out)
            have PB5 := Lib.hid (PB9.out.fr FW5.out)
            have HRM := Lib.hid (fun (w' : World) (k : Fr (fun _ => False) w5 w') => (HW.out w' (F5.out.then' k)).1)
            have HROW := Lib.hid (fun (w' : World) (k : Fr (fun _ => False) w5 w') => (HW.out w' (F5.out.then' k)).2)
            have hKI := HKiff.out
            have HKBm := Lib.hid (HKB.out HMV.out)
            by_cases hkl : KL = l
            · have HD := Lib.hid (show (b || (i1 == 0)) = true from hKI.1 hkl)
              have heq : ((strOfNums KL).toList == (strOfNums l).toList) = true := by rw [hkl]; simp
              have HKB := HKBm
              clear hKI hkl
              refine kr_start [(3, fun W => W.rangeAt g8 0 [.int .i64 m.ty, .int .i64 m.code, .int .i64 m.id, .int .i64 m.seq, .int .i64 m.mtu, .slice A9 (n - 8) (c - 8)]), (9, fun W => (convert 22 9 (.slice (some ⟨bb, off, none⟩) n c)).run Try.prog W = .ok (.string (strOfNums l)) W)] (by kernel_rfl) (by kernel_rfl) ?_
              refine kr_find 0 rfl (by kernel_rfl) (by kernel_rfl) (by kernel_rfl) (fun _ _ _ _ h => h) (by rfl) trivial ?_
              apply Exists.intro; apply And.intro
              · intro w' hS K hK
                clear hS
                go_light
                go_simp
                exact hK.out
              try simp only [Act.put, List.getElem_toArray, List.getElem_cons_zero, List.getElem_cons_succ, List.setIfInBounds_toArray, List.set_cons_zero, List.set_cons_succ]
              refine kr_find 1 rfl (by kernel_rfl) (by kernel_rfl) (by kernel_rfl) (fun _ _ _ _ h => h) (by rfl) trivial ?_
              apply Exists.intro; apply And.intro
              · intro w' hS K hK
                clear hS
                go_light
                go_simp
                exact hK.out
              try simp only [Act.put, List.getElem_toArray, List.getElem_cons_zero, List.getElem_cons_succ, List.setIfInBounds_toArray, List.set_cons_zero, List.set_cons_succ]
              refine kr_find 2 rfl (by kernel_rfl) (by kernel_rfl) (by kernel_rfl) (fun _ _ _ _ h => h) (by rfl) trivial ?_
              apply Exists.intro; apply And.intro
              · intro w' hS K hK
                clear hS
                go_light
                go_simp
                exact hK.out
              try simp only [Act.put, List.getElem_toArray, List.getElem_cons_zero, List.getElem_cons_succ, List.setIfInBounds_toArray, List.set_cons_zero, List.set_cons_succ]
              refine kr_take 3 rfl (by kernel_rfl) (by kernel_rfl) (by kernel_rfl) (fun _ _ _ h => h) (yieldsIf_load_mid (by rfl) 24 _ rfl g8 0 rfl [.int .i64 m.ty, .int .i64 m.code, .int .i64 m.id, .int .i64 m.seq, .int .i64 m.mtu, .slice A9 (n - 8) (c - 8)] _ (fun _ h => h) Try.underlying24 rfl (by kernel_rfl)) (show _ from HRM.out _ (Fr.refl _ w5).drew) ?_
              try simp only [Act.put, List.getElem_toArray, List.getElem_cons_zero, List.getElem_cons_succ, List.setIfInBounds_toArray, List.set_cons_zero, List.set_cons_succ]
              refine kr_find 4 rfl (by kernel_rfl) (by kernel_rfl) (by kernel_rfl) (fun _ _ _ _ h => h) (by rfl) trivial ?_
              apply Exists.intro; apply And.intro
              · intro w' hS K hK
                clear hS
                go_light
                go_simp
                exact hK.out
              try simp only [Act.put, List.getElem_toArray, List.getElem_cons_zero, List.getElem_cons_succ, List.setIfInBounds_toArray, List.set_cons_zero, List.set_cons_succ]
              refine kr_find 8 rfl (by kernel_rfl) (by kernel_rfl) (by kernel_rfl) (fun _ _ _ _ h => h) (by rfl) trivial ?_
              apply Exists.intro; apply And.intro
              · intro w' hS K hK
                clear hS
                go_light
                go_simp
                exact hK.out
              try simp only [Act.put, List.getElem_toArray, List.getElem_cons_zero, List.getElem_cons_succ, List.setIfInBounds_toArray, List.set_cons_zero, List.set_cons_succ]
              refine kr_find 9 rfl (by kernel_rfl) (by kernel_rfl) (by kernel_rfl) (fun _ _ _ _ h => h) (by rfl) (show _ from pc_str (P5.out.fr (Fr.refl _ w5).drew)) ?_
              apply Exists.intro; apply And.intro
              · intro w' hS K hK
                have hS : (convert 22 9 (.slice (some ⟨bb, off, none⟩) n c)).run Try.prog w' = .ok (.string (strOfNums l)) w' := hS
                go_light
                go_simp
                exact hK.out
              try simp only [Act.put, List.getElem_toArray, List.getElem_cons_zero, List.getElem_cons_succ, List.setIfInBounds_toArray, List.set_cons_zero, List.set_cons_succ]
              refine kr_one 5 (by kernel_rfl) rfl (by rfl) (fun K hK => ?_)
              go_simp
              go_at_call 49
              refine (rat38_ok _ n c l 2 2 _ (P5.out.fr (Fr.refl _ w5).drew) (by omega) (by decide) (by decide)).mono ?_
              rw [HI3.out]
              rintro e w6 ⟨rfl, hw6⟩
              have hw6 := hw6.symm
              subst hw6
              refine hK.out _ _ ⟨.inr (HRM.out _ (Fr.refl _ w5).drew), .inr (pc_str (P5.out.fr (Fr.refl _ w5).drew)), trivial⟩ ?_
              clear hK K
              try simp only [Act.put, List.getElem_toArray, List.getElem_cons_zero, List.getElem_cons_succ, List.setIfInBounds_toArray, List.set_cons_zero, List.set_cons_succ]
              refine kr_one 6 (by kernel_rfl) rfl (by rfl) (fun K hK => ?_)
              go_simp
              go_at_call 44
              refine (rlaid44 m A9 (n - 8) (c - 8) (l.drop 8) i3 _ HMV.out (PB5.out.fr (Fr.refl _ w5).drew) (by omega) HI3b.out.1 HI3b.out.2).mono ?_
              rintro e w7 ⟨v7, rfl, o7, f7⟩
              have hk7 := o7
              rw [HKE.out] at hk7
              obtain ⟨A7, c7, rfl, _, _, _⟩ := hk7.cap (n := n) HKL.out
              have PK7 := Lib.hid (OwnB.pc hk7 HKL.out HKB.out (by omega)).1
              have F7 := Lib.hid (((Fr.refl (fun _ => False) w5).drew).then' f7)
              clear o7 f7 hk7
              refine hK.out _ _ ⟨.inl (by kernel_rfl), .inr (pc_str (P5.out.fr F7.out)), trivial⟩ ?_
              clear hK K
              try simp only [Act.put, List.getElem_toArray, List.getElem_cons_zero, List.getElem_cons_succ, List.setIfInBounds_toArray, List.set_cons_zero, List.set_cons_succ]
              refine kr_one 7 (by kernel_rfl) rfl (by rfl) (fun K hK => ?_)
              have hcv := pc_str (c := c7) PK7.out
              go_simp
              clear hcv
              refine hK.out _ _ ⟨.inl (by kernel_rfl), .inr (pc_str (P5.out.fr F7.out)), trivial⟩ ?_
              clear hK K
              try simp only [Act.put, List.getElem_toArray, List.getElem_cons_zero, List.getElem_cons_succ, List.setIfInBounds_toArray, List.set_cons_zero, List.set_cons_succ]
              refine kr_find 10 rfl (by kernel_rfl) (by kernel_rfl) (by kernel_rfl) (fun _ _ _ _ h => h) (by rfl) trivial ?_
              apply Exists.intro; apply And.intro
              · intro w' hS K hK
                clear hS
                go_light
                go_simp
                exact hK.out
              try simp only [Act.put, List.getElem_toArray, List.getElem_cons_zero, List.getElem_cons_succ, List.setIfInBounds_toArray, List.set_cons_zero, List.set_cons_succ]
              refine kr_find 11 rfl (by kernel_rfl) (by kernel_rfl) (by kernel_rfl) (fun _ _ _ _ h => h) (by rfl) trivial ?_
              apply Exists.intro; apply And.intro
              · intro w' hS K hK
                clear hS
                go_light
                go_simp
                exact hK.out
              try simp only [Act.put, List.getElem_toArray, List.getElem_cons_zero, List.getElem_cons_succ, List.setIfInBounds_toArray, List.set_cons_zero, List.set_cons_succ]
              refine kr_done (by kernel_rfl) ?_ _
              have F58 := F7
              obtain ⟨w8, hw8⟩ : ∃ x, x = w7 := ⟨_, rfl⟩
              subst hw8
              go_upto_region 15 with (fail)
              have HT := Lib.hid (there_new (w := w8) (b := w.heap.size) (HROW.out w8 F58.out) rfl)
              have R8 := Lib.hid (HRM.out w8 F58.out)
              have FW8 := Lib.hid (FW5.out.then' F58.out)

              go_step
              refine wpList_load24 rfl _ rfl g8 rfl [.int .i64 m.ty, .int .i64 m.code, .int .i64 m.id, .int .i64 m.seq, .int .i64 m.mtu, .slice A9 (n - 8) (c - 8)] R8.out rfl ?_
              refine wpList_store24 rfl _ _ rfl w.heap.size [.int .i64 m.ty, .int .i64 m.code, .int .i64 m.id, .int .i64 m.seq, .int .i64 m.mtu, .slice A9 (n - 8) (c - 8)] rfl rfl HT.out rfl (by kernel_rfl) ?_
              have F7 := Lib.hid (Fr.setCells (S := fun _ => False) w.heap.size (fun h => absurd h (Nat.lt_irrefl _)) [.int .i64 m.ty, .int .i64 m.code, .int .i64 m.id, .int .i64 m.seq, .int .i64 m.mtu, .slice A9 (n - 8) (c - 8)] 0 w8 FW8.out)
              have RS := Lib.hid (fun tmps hp => results_set15 tmps w8 w.heap.size [.int .i64 m.ty, .int .i64 m.code, .int .i64 m.id, .int .i64 m.seq, .int .i64 m.mtu, .slice A9 (n - 8) (c - 8)] rfl hp HT.out)
              generalize w8.setCells w.heap.size 0 [.int .i64 m.ty, .int .i64 m.code, .int .i64 m.id, .int .i64 m.seq, .int .i64 m.mtu, .slice A9 (n - 8) (c - 8)] = w9 at F7 RS ⊢
              go_wp2_with fail
              exact bodyPost_ret (v := .tuple #[.agg #[.int .i64 m.ty, .int .i64 m.code, .int .i64 m.id, .int .i64 m.seq, .int .i64 m.mtu, .slice A9 (n - 8) (c - 8)], .int .i64 0]) (RS.out _ rfl) rfl (RDPost.good HMV.out HD.out F7.out (PB9.out.fr F7.out))
            · have HD := Lib.hid (show (b || (i1 == 0)) = false by
                cases hh : (b || (i1 == 0)) with
                | false => rfl
                | true => exact absurd (hKI.2 hh) hkl)
              have heq : ((strOfNums KL).toList == (strOfNums l).toList) = false := str_ne HKBm.out HP.out.ok hkl
              have HKB := HKBm
              clear hKI hkl
              refine kr_start [(3, fun W => W.rangeAt g8 0 [.int .i64 m.ty, .int .i64 m.code, .int .i64 m.id, .int .i64 m.seq, .int .i64 m.mtu, .slice A9 (n - 8) (c - 8)]), (9, fun W => (convert 22 9 (.slice (some ⟨bb, off, none⟩) n c)).run Try.prog W = .ok (.string (strOfNums l)) W)] (by kernel_rfl) (by kernel_rfl) ?_
              refine kr_find 0 rfl (by kernel_rfl) (by kernel_rfl) (by kernel_rfl) (fun _ _ _ _ h => h) (by rfl) trivial ?_
              apply Exists.intro; apply And.intro
              · intro w' hS K hK
                clear hS
                go_light
                go_simp
                exact hK.out
              try simp only [Act.put, List.getElem_toArray, List.getElem_cons_zero, List.getElem_cons_succ, List.setIfInBounds_toArray, List.set_cons_zero, List.set_cons_succ]
              refine kr_find 1 rfl (by kernel_rfl) (by kernel_rfl) (by kernel_rfl) (fun _ _ _ _ h => h) (by rfl) trivial ?_
              apply Exists.intro; apply And.intro
              · intro w' hS K hK
                clear hS
                go_light
                go_simp
                exact hK.out
              try simp only [Act.put, List.getElem_toArray, List.getElem_cons_zero, List.getElem_cons_succ, List.setIfInBounds_toArray, List.set_cons_zero, List.set_cons_succ]
              refine kr_find 2 rfl (by kernel_rfl) (by kernel_rfl) (by kernel_rfl) (fun _ _ _ _ h => h) (by rfl) trivial ?_
              apply Exists.intro; apply And.intro
              · intro w' hS K hK
                clear hS
                go_light
                go_simp
                exact hK.out
              try simp only [Act.put, List.getElem_toArray, List.getElem_cons_zero, List.getElem_cons_succ, List.setIfInBounds_toArray, List.set_cons_zero, List.set_cons_succ]
              refine kr_take 3 rfl (by kernel_rfl) (by kernel_rfl) (by kernel_rfl) (fun _ _ _ h => h) (yieldsIf_load_mid (by rfl) 24 _ rfl g8 0 rfl [.int .i64 m.ty, .int .i64 m.code, .int .i64 m.id, .int .i64 m.seq, .int .i64 m.mtu, .slice A9 (n - 8) (c - 8)] _ (fun _ h => h) Try.underlying24 rfl (by kernel_rfl)) (show _ from HRM.out _ (Fr.refl _ w5).drew) ?_
              try simp only [Act.put, List.getElem_toArray, List.getElem_cons_zero, List.getElem_cons_succ, List.setIfInBounds_toArray, List.set_cons_zero, List.set_cons_succ]
              refine kr_find 4 rfl (by kernel_rfl) (by kernel_rfl) (by kernel_rfl) (fun _ _ _ _ h => h) (by rfl) trivial ?_
              apply Exists.intro; apply And.intro
              · intro w' hS K hK
                clear hS
                go_light
                go_simp
                exact hK.out
              try simp only [Act.put, List.getElem_toArray, List.getElem_cons_zero, List.getElem_cons_succ, List.setIfInBounds_toArray, List.set_cons_zero, List.set_cons_succ]
              refine kr_find 8 rfl (by kernel_rfl) (by kernel_rfl) (by kernel_rfl) (fun _ _ _ _ h => h) (by rfl) trivial ?_
              apply Exists.intro; apply And.intro
              · intro w' hS K hK
                clear hS
                go_light
                go_simp
                exact hK.out
              try simp only [Act.put, List.getElem_toArray, List.getElem_cons_zero, List.getElem_cons_succ, List.setIfInBounds_toArray, List.set_cons_zero, List.set_cons_succ]
              refine kr_find 9 rfl (by kernel_rfl) (by kernel_rfl) (by kernel_rfl) (fun _ _ _ _ h => h) (by rfl) (show _ from pc_str (P5.out.fr (Fr.refl _ w5).drew)) ?_
              apply Exists.intro; apply And.intro
              · intro w' hS K hK
                have hS : (convert 22 9 (.slice (some ⟨bb, off, none⟩) n c)).run Try.prog w' = .ok (.string (strOfNums l)) w' := hS
                go_light
                go_simp
                exact hK.out
              try simp only [Act.put, List.getElem_toArray, List.getElem_cons_zero, List.getElem_cons_succ, List.setIfInBounds_toArray, List.set_cons_zero, List.set_cons_succ]
              refine kr_one 5 (by kernel_rfl) rfl (by rfl) (fun K hK => ?_)
              go_simp
              go_at_call 49
              refine (rat38_ok _ n c l 2 2 _ (P5.out.fr (Fr.refl _ w5).drew) (by omega) (by decide) (by decide)).mono ?_
              rw [HI3.out]
              rintro e w6 ⟨rfl, hw6⟩
              have hw6 := hw6.symm
              subst hw6
              refine hK.out _ _ ⟨.inr (HRM.out _ (Fr.refl _ w5).drew), .inr (pc_str (P5.out.fr (Fr.refl _ w5).drew)), trivial⟩ ?_
              clear hK K
              try simp only [Act.put, List.getElem_toArray, List.getElem_cons_zero, List.getElem_cons_succ, List.setIfInBounds_toArray, List.set_cons_zero, List.set_cons_succ]
              refine kr_one 6 (by kernel_rfl) rfl (by rfl) (fun K hK => ?_)
              go_simp
              go_at_call 44
              refine (rlaid44 m A9 (n - 8) (c - 8) (l.drop 8) i3 _ HMV.out (PB5.out.fr (Fr.refl _ w5).drew) (by omega) HI3b.out.1 HI3b.out.2).mono ?_
              rintro e w7 ⟨v7, rfl, o7, f7⟩
              have hk7 := o7
              rw [HKE.out] at hk7
              obtain ⟨A7, c7, rfl, _, _, _⟩ := hk7.cap (n := n) HKL.out
              have PK7 := Lib.hid (OwnB.pc hk7 HKL.out HKB.out (by omega)).1
              have F7 := Lib.hid (((Fr.refl (fun _ => False) w5).drew).then' f7)
              clear o7 f7 hk7
              refine hK.out _ _ ⟨.inl (by kernel_rfl), .inr (pc_str (P5.out.fr F7.out)), trivial⟩ ?_
              clear hK K
              try simp only [Act.put, List.getElem_toArray, List.getElem_cons_zero, List.getElem_cons_succ, List.setIfInBounds_toArray, List.set_cons_zero, List.set_cons_succ]
              refine kr_one 7 (by kernel_rfl) rfl (by rfl) (fun K hK => ?_)
              have hcv := pc_str (c := c7) PK7.out
              go_simp
              clear hcv
              refine hK.out _ _ ⟨.inl (by kernel_rfl), .inr (pc_str (P5.out.fr F7.out)), trivial⟩ ?_
              clear hK K
              try simp only [Act.put, List.getElem_toArray, List.getElem_cons_zero, List.getElem_cons_succ, List.setIfInBounds_toArray, List.set_cons_zero, List.set_cons_succ]
              refine kr_find 10 rfl (by kernel_rfl) (by kernel_rfl) (by kernel_rfl) (fun _ _ _ _ h => h) (by rfl) trivial ?_
              apply Exists.intro; apply And.intro
              · intro w' hS K hK
                clear hS
                go_light
                go_simp
                exact hK.out
              try simp only [Act.put, List.getElem_toArray, List.getElem_cons_zero, List.getElem_cons_succ, List.setIfInBounds_toArray, List.set_cons_zero, List.set_cons_succ]
              refine kr_find 11 rfl (by kernel_rfl) (by kernel_rfl) (by kernel_rfl) (fun _ _ _ _ h => h) (by rfl) trivial ?_
              apply Exists.intro; apply And.intro
              · intro w' hS K hK
                clear hS
                go_light
                go_simp
                exact hK.out
              try simp only [Act.put, List.getElem_toArray, List.getElem_cons_zero, List.getElem_cons_succ, List.setIfInBounds_toArray, List.set_cons_zero, List.set_cons_succ]
              refine kr_done (by kernel_rfl) ?_ _
              have F58 := F7
              obtain ⟨w8, hw8⟩ : ∃ x, x = w7 := ⟨_, rfl⟩
              subst hw8
              go_upto_region 14 with (fail)
              have HT := Lib.hid (there_new (w := w8) (b := w.heap.size) (HROW.out w8 F58.out) rfl)
              have R8 := Lib.hid (HRM.out w8 F58.out)
              have FW8 := Lib.hid (FW5.out.then' F58.out)

              go_step
              refine wpList_plain rfl fun K hK => ?_
              go_simp
              refine hK _ _ ?_
              refine wpList_store24 rfl _ _ rfl w.heap.size [.int .i64 0, .int .i64 0, .int .i64 0, .int .i64 0, .int .i64 0, .slice none 0 0] rfl rfl HT.out rfl (by kernel_rfl) ?_
              have F7 := Lib.hid (Fr.setCells (S := fun _ => False) w.heap.size (fun h => absurd h (Nat.lt_irrefl _)) [.int .i64 0, .int .i64 0, .int .i64 0, .int .i64 0, .int .i64 0, .slice none 0 0] 0 w8 FW8.out)
              have RS := Lib.hid (fun tmps hp => results_set15 tmps w8 w.heap.size [.int .i64 0, .int .i64 0, .int .i64 0, .int .i64 0, .int .i64 0, .slice none 0 0] rfl hp HT.out)
              generalize w8.setCells w.heap.size 0 [.int .i64 0, .int .i64 0, .int .i64 0, .int .i64 0, .int .i64 0, .slice none 0 0] = w9 at F7 RS ⊢
              go_wp2_with fail
              exact bodyPost_ret (v := .tuple #[.agg #[.int .i64 0, .int .i64 0, .int .i64 0, .int .i64 0, .int .i64 0, .slice none 0 0], .int .i64 4]) (RS.out _ rfl) rfl (RDPost.bad (by rw [HD.out, Bool.and_false]) F7.out)
end Go.Proofs.Ytcfadmjihccimaa
