/- The reference of law 09: Encode. No condition but lengths. -/
import Derived.Test.YtcfadmjihccimaaIcBb
namespace Go.Proofs.Ytcfadmjihccimaa
set_option linter.unusedVariables false
set_option linter.unusedSimpArgs false
open Go.RowKit
/-- What Encode says: a refusal, or the bytes. -/
def ReqPost (p : Ph) (no : Nat) (o : List Int) (nb : Nat) (b : List Int) (w : World) (e : Ending) (w' : World) : Prop :=
  Fr (fun _ => False) w w' ∧ ((∃ A n c r, e = .returned (.tuple #[.slice A n c, .int .i64 r]) ∧ (r == 0) = false) ∨
    (∃ A n c s, e = .returned (.tuple #[.slice A n c, .int .i64 0]) ∧ OwnB w.heap.size w' (.slice A n c) (p.lay (20 + no + nb) s o ++ b) ∧ 0 ≤ s ∧ s ≤ 65535 ∧ n = 20 + no + nb ∧ p.ok ∧ no ≤ 40 ∧ no % 4 = 0 ∧ n ≤ 65535))
structure Ph.wf (p : Ph) : Prop where
  src : isB [p.s0, p.s1, p.s2, p.s3]
  dst : isB [p.d0, p.d1, p.d2, p.d3]
  off : -9223372036854775808 ≤ p.off ∧ p.off ≤ 9223372036854775807
def Ph.good (p : Ph) : Prop := (0 ≤ p.proto ∧ p.proto ≤ 255) ∧ (0 ≤ p.tos ∧ p.tos ≤ 255) ∧ (0 ≤ p.id ∧ p.id ≤ 65535) ∧ (1 ≤ p.ttl ∧ p.ttl ≤ 255) ∧ (0 ≤ p.off ∧ p.off ≤ 65528) ∧ p.off % 8 = 0
theorem Ph.good.ok {p : Ph} (h : p.good) (w : p.wf) : p.ok := ⟨w.src, w.dst, h.1, h.2.1, h.2.2.1, h.2.2.2.1, h.2.2.2.2.1⟩
theorem lay_isB {p : Ph} (h : p.ok) (size sum : Int) {o : List Int} (ho : isB o) (hl : o.length ≤ 40) : isB (p.lay size sum o) := by
  unfold Ph.lay
  have h1 : isB [64 + (20 + (o.length : Int)) / 4, p.tos] := by intro x hx; have := h.tos; simp at hx; rcases hx with rfl | rfl <;> omega
  have h2 : isB [p.ttl, p.proto] := by intro x hx; have := h.ttl; have := h.proto; simp at hx; rcases hx with rfl | rfl <;> omega
  exact ((((((((h1.app (by16_ok _)).app (by16_ok _)).app (by16_ok _)).app h2).app (by16_ok _)).app h.src).app h.dst).app ho)
theorem lay_length (p : Ph) (size sum : Int) (o : List Int) : (p.lay size sum o).length = 20 + o.length := by
  unfold Ph.lay; simp [by16]; omega
set_option maxHeartbeats 16000000 in
set_option maxRecDepth 100000 in
theorem rencode27 (p : Ph) (A : Option Addr) (no co : Nat) (o : List Int) (B : Option Addr) (nb cb : Nat) (b : List Int) (w : World) (hp : p.wf) (P : Pc w A no o) (hco : no ≤ co) (hcm : co ≤ maxLen) (PB : Pc w B nb b) :
    Calls Try.prog 27 #[.agg #[.int .u8 p.s0, .int .u8 p.s1, .int .u8 p.s2, .int .u8 p.s3, .int .u8 p.d0, .int .u8 p.d1, .int .u8 p.d2, .int .u8 p.d3, .int .i64 p.proto, .int .i64 p.ttl, .int .i64 p.id, .int .i64 p.tos, .bool p.whole, .bool p.more, .int .i64 p.off, .slice A no co], .slice B nb cb] w (ReqPost p no o nb b w) := by
  have HP := Lib.hid P
  have HPB := Lib.hid PB
  have HK := Lib.hid hp
  have HC := Lib.hid (And.intro hco hcm)
  have hto := P.top
  have htb := PB.top
  have htm : p.off.tmod 8 = 0 ↔ p.off % 8 = 0 := by
    rw [Int.tmod_eq_emod]
    split <;> omega
  clear P PB hp hco hcm
  have FA := Lib.hid (Fr.refl (fun _ => False) w)
  go_enter Try.func27, Try.ntmps27
  go_upto_region 1 with (fail)
  have g0 := heap_alloc_new w (.cells #[.int .u8 p.s0, .int .u8 p.s1, .int .u8 p.s2, .int .u8 p.s3, .int .u8 p.d0, .int .u8 p.d1, .int .u8 p.d2, .int .u8 p.d3, .int .i64 p.proto, .int .i64 p.ttl, .int .i64 p.id, .int .i64 p.tos, .bool p.whole, .bool p.more, .int .i64 p.off, .slice A no co] 58)
  have FB := Lib.hid (FA.out.alloc (.cells #[.int .u8 p.s0, .int .u8 p.s1, .int .u8 p.s2, .int .u8 p.s3, .int .u8 p.d0, .int .u8 p.d1, .int .u8 p.d2, .int .u8 p.d3, .int .i64 p.proto, .int .i64 p.ttl, .int .i64 p.id, .int .i64 p.tos, .bool p.whole, .bool p.more, .int .i64 p.off, .slice A no co] 58))
  have hz : w.heap.size < (w.alloc (.cells #[.int .u8 p.s0, .int .u8 p.s1, .int .u8 p.s2, .int .u8 p.s3, .int .u8 p.d0, .int .u8 p.d1, .int .u8 p.d2, .int .u8 p.d3, .int .i64 p.proto, .int .i64 p.ttl, .int .i64 p.id, .int .i64 p.tos, .bool p.whole, .bool p.more, .int .i64 p.off, .slice A no co] 58)).heap.size := by simp
  generalize w.alloc (.cells #[.int .u8 p.s0, .int .u8 p.s1, .int .u8 p.s2, .int .u8 p.s3, .int .u8 p.d0, .int .u8 p.d1, .int .u8 p.d2, .int .u8 p.d3, .int .i64 p.proto, .int .i64 p.ttl, .int .i64 p.id, .int .i64 p.tos, .bool p.whole, .bool p.more, .int .i64 p.off, .slice A no co] 58) = w1 at g0 FB hz ⊢
  have HCC := Lib.hid (fun (w' : World) (k : Fr (fun _ => False) w1 w') => cells_at w' w.heap.size [.int .u8 p.s0, .int .u8 p.s1, .int .u8 p.s2, .int .u8 p.s3, .int .u8 p.d0, .int .u8 p.d1, .int .u8 p.d2, .int .u8 p.d3, .int .i64 p.proto, .int .i64 p.ttl, .int .i64 p.id, .int .i64 p.tos, .bool p.whole, .bool p.more, .int .i64 p.off, .slice A no co] 58 ((k.block _ hz (fun e => e)).trans g0))
  have HZ := Lib.hid hz
  clear g0 hz
  have q8 := HCC.out w1 (Fr.refl _ _) 8 _ rfl
  have q9 := HCC.out w1 (Fr.refl _ _) 9 _ rfl
  have q10 := HCC.out w1 (Fr.refl _ _) 10 _ rfl
  have q11 := HCC.out w1 (Fr.refl _ _) 11 _ rfl
  have q14 := HCC.out w1 (Fr.refl _ _) 14 _ rfl
  by_cases hg : p.good
  · have HFB1 := Lib.hid FB.out
    have HG := Lib.hid hg
    obtain ⟨⟨a0, a1⟩, ⟨b0, b1⟩, ⟨c0, c1⟩, ⟨d0, d1⟩, ⟨e0, e1⟩, f0⟩ := hg
    have h0 : ¬ p.proto < 0 := by omega
    have h1 : ¬ 255 < p.proto := by omega
    have h2 : ¬ p.tos < 0 := by omega
    have h3 : ¬ 255 < p.tos := by omega
    have h4 : ¬ p.id < 0 := by omega
    have h5 : ¬ 65535 < p.id := by omega
    have h6 : ¬ p.ttl < 1 := by omega
    have h7 : ¬ 255 < p.ttl := by omega
    have h8 : ¬ p.off < 0 := by omega
    have h9 : ¬ 65528 < p.off := by omega
    have ht8 : (p.off % 8 != 0) = false := by simp [f0]
    clear a0 a1 b0 b1 c0 c1 d0 d1 e0 e1 f0 htm
    go_upto_region 3 with (fail)
    clear h0 h1 h2 h3 h4 h5 h6 h7 h8 h9 ht8 q8 q9 q10 q11 q14
    have q15 := HCC.out w1 (Fr.refl _ _) 15 _ rfl
    have P1 := Lib.hid (HP.out.fr FB.out)
    go_upto_region 4 with (go_at_call 52; refine (right52 A no co o w1 P1.out HC.out.1 HC.out.2).mono ?_; rintro e w2 ⟨⟨br, rfl⟩, hw2⟩; have hw2 := hw2.symm; subst hw2)
    cases br
    · as_aux_lemma =>
      go_wp2_with fail
      go_ret2
      exact ⟨HFB1.out, .inl ⟨_, _, _, _, rfl, by decide⟩⟩
    by_cases hno : 40 < no
    · as_aux_lemma =>
      go_wp2_with fail
      go_ret2
      exact ⟨HFB1.out, .inl ⟨_, _, _, _, rfl, by decide⟩⟩
    by_cases hn4 : no % 4 = 0
    · have ht4 : ((no : Int) % 4 != 0) = false := by simp; omega
      go_upto_region 7 with (fail)
      clear ht4
      by_cases hsz : (65535 : Int) < 20 + (no : Int) + (nb : Int)
      · as_aux_lemma =>
        go_wp2_with fail
        go_ret2
        exact ⟨HFB1.out, .inl ⟨_, _, _, _, rfl, by decide⟩⟩
      have HSZ := Lib.hid (show (0 : Int) ≤ 20 + (no : Int) + (nb : Int) ∧ 20 + (no : Int) + (nb : Int) ≤ 65535 by omega)
      have HPK := Lib.hid (HG.out.ok HK.out)
      have HNO := Lib.hid (show no ≤ 40 by omega)
      have HN4 := Lib.hid hn4
      have HBX := Lib.hid (fun (w' : World) (k : Fr (fun _ => False) w1 w') => show w'.rangeAt w.heap.size 0 [.int .u8 p.s0, .int .u8 p.s1, .int .u8 p.s2, .int .u8 p.s3, .int .u8 p.d0, .int .u8 p.d1, .int .u8 p.d2, .int .u8 p.d3, .int .i64 p.proto, .int .i64 p.ttl, .int .i64 p.id, .int .i64 p.tos, .bool p.whole, .bool p.more, .int .i64 p.off, .slice A no co] from fun j v hj => by rw [Nat.zero_add]; exact HCC.out w' k j v hj)
      obtain ⟨sz, hsz⟩ : ∃ sz : Int, 20 + (no : Int) + (nb : Int) = sz := ⟨_, rfl⟩
      have HSE := Lib.hid hsz
      rw [hsz] at HSZ hsz
      clear hn4 hno q15
      go_upto_region 9 with (fail)
      rw [HSE.out]
      clear hsz
      iterate 20 (first
        | (have := MK1; clear this)
        | (refine wpList_load_mid rfl 58 _ rfl w.heap.size 0 rfl [.int .u8 p.s0, .int .u8 p.s1, .int .u8 p.s2, .int .u8 p.s3, .int .u8 p.d0, .int .u8 p.d1, .int .u8 p.d2, .int .u8 p.d3, .int .i64 p.proto, .int .i64 p.ttl, .int .i64 p.id, .int .i64 p.tos, .bool p.whole, .bool p.more, .int .i64 p.off, .slice A no co] _ (HBX.out w1 (Fr.refl _ _)) Try.underlying58 rfl (by kernel_rfl) ?_; have MK1 := Lib.hid True.intro)
        | go_step)
      go_upto_region 10 with (go_at_call 53; refine (head53 p A no co o sz 0 w1 HPK.out P1.out HNO.out HSZ.out.1 HSZ.out.2 (by decide) (by decide)).mono ?_; rintro e w2 ⟨v2, rfl, o2, f2⟩; have O2 := Lib.hid o2; have F2 := Lib.hid f2; clear o2 f2)
      obtain ⟨A2, cp2, rfl, hb, hc, hm⟩ := O2.out.cap (n := 20 + no) (by rw [lay_length, HP.out.len])
      have P2 := Lib.hid (O2.out.pc (n := 20 + no) (by rw [lay_length, HP.out.len]) (lay_isB HPK.out _ _ HP.out.ok (by rw [HP.out.len]; exact HNO.out)) (by have := HNO.out; omega)).1
      clear hb hc hm
      have HCK := Lib.hid (show 0 ≤ ck (p.lay sz 0 o) ∧ ck (p.lay sz 0 o) ≤ 65535 from ck_bd P2.out.ok)
      refine kr_start [(0, fun W => W.rangeAt w.heap.size 0 [.int .u8 p.s0, .int .u8 p.s1, .int .u8 p.s2, .int .u8 p.s3, .int .u8 p.d0, .int .u8 p.d1, .int .u8 p.d2, .int .u8 p.d3, .int .i64 p.proto, .int .i64 p.ttl, .int .i64 p.id, .int .i64 p.tos, .bool p.whole, .bool p.more, .int .i64 p.off, .slice A no co])] (by kernel_rfl) (by kernel_rfl) ?_
      refine kr_take 0 rfl (by kernel_rfl) (by kernel_rfl) (by kernel_rfl) (fun _ _ _ h => h) (yieldsIf_load_mid (by rfl) 58 _ rfl w.heap.size 0 rfl [.int .u8 p.s0, .int .u8 p.s1, .int .u8 p.s2, .int .u8 p.s3, .int .u8 p.d0, .int .u8 p.d1, .int .u8 p.d2, .int .u8 p.d3, .int .i64 p.proto, .int .i64 p.ttl, .int .i64 p.id, .int .i64 p.tos, .bool p.whole, .bool p.more, .int .i64 p.off, .slice A no co] _ (fun _ h => h) Try.underlying58 rfl (by kernel_rfl)) (show _ from HBX.out _ (F2.out.then' (Fr.refl _ _).drew)) ?_
      try simp only [Act.put, List.getElem_toArray, List.getElem_cons_zero, List.getElem_cons_succ, List.setIfInBounds_toArray, List.set_cons_zero, List.set_cons_succ]
      refine kr_find 1 rfl (by kernel_rfl) (by kernel_rfl) (by kernel_rfl) (fun _ _ _ _ h => h) (by rfl) trivial ?_
      apply Exists.intro; apply And.intro
      · intro w' hS K hK
        clear hS
        go_light
        go_simp
        exact hK.out
      try simp only [Act.put, List.getElem_toArray, List.getElem_cons_zero, List.getElem_cons_succ, List.setIfInBounds_toArray, List.set_cons_zero, List.set_cons_succ]
      refine kr_find 2 rfl (by kernel_rfl) (by kernel_rfl) (by kernel_rfl) (fun _ _ _ _ h => h) (by rfl) trivial ?_
      apply Exists.intro; apply And.intro
      · intro w' hS K hK
        clear hS
        go_light
        go_simp
        exact hK.out
      try simp only [Act.put, List.getElem_toArray, List.getElem_cons_zero, List.getElem_cons_succ, List.setIfInBounds_toArray, List.set_cons_zero, List.set_cons_succ]
      refine kr_one 3 (by kernel_rfl) rfl (by rfl) (fun K hK => ?_)
      go_simp
      go_at_call 45
      refine (rsum29 (P2.out.fr (Fr.refl _ _).drew) _).mono ?_
      rintro e w5 ⟨rfl, hw⟩
      have hw := hw.symm
      subst hw
      refine hK.out _ _ ⟨.inr (HBX.out _ (F2.out.then' (Fr.refl _ _).drew)), trivial⟩ ?_
      clear hK K
      try simp only [Act.put, List.getElem_toArray, List.getElem_cons_zero, List.getElem_cons_succ, List.setIfInBounds_toArray, List.set_cons_zero, List.set_cons_succ]
      refine kr_one 4 (by kernel_rfl) rfl (by rfl) (fun K hK => ?_)
      go_simp
      go_at_call 53
      refine (head53 p A no co o sz (ck (p.lay sz 0 o)) _ HPK.out (P1.out.fr (F2.out.then' (Fr.refl _ _).drew)) HNO.out HSZ.out.1 HSZ.out.2 HCK.out.1 HCK.out.2).mono ?_
      rintro e w4 ⟨v4, rfl, o4, f4⟩
      have O4 := Lib.hid o4
      have E4 := Lib.hid f4
      have F4 := Lib.hid (((Fr.refl (fun _ => False) w2).drew).then' f4)
      clear o4 f4
      refine hK.out _ _ ⟨.inl (by kernel_rfl), trivial⟩ ?_
      clear hK K
      try simp only [Act.put, List.getElem_toArray, List.getElem_cons_zero, List.getElem_cons_succ, List.setIfInBounds_toArray, List.set_cons_zero, List.set_cons_succ]
      refine kr_find 5 rfl (by kernel_rfl) (by kernel_rfl) (by kernel_rfl) (fun _ _ _ _ h => h) (by rfl) trivial ?_
      apply Exists.intro; apply And.intro
      · intro w' hS K hK
        clear hS
        go_light
        go_simp
        exact hK.out
      try simp only [Act.put, List.getElem_toArray, List.getElem_cons_zero, List.getElem_cons_succ, List.setIfInBounds_toArray, List.set_cons_zero, List.set_cons_succ]
      refine kr_done (by kernel_rfl) ?_ _
      have hfr := F4.out
      have PB4 := Lib.hid (HPB.out.fr (FB.out.then' (F2.out.then' F4.out)))
      clear hfr
      obtain ⟨A4, cp4, rfl, hb, hc, hm⟩ := O4.out.cap (n := 20 + no) (by rw [lay_length, HP.out.len])
      clear hb hc hm
      have Z4 := Lib.hid (show w2.drew.heap.size ≤ w4.heap.size from (F4.out.size))
      have HLN := Lib.hid (show (p.lay sz (ck (p.lay sz 0 o)) o).length = 20 + no by rw [lay_length, HP.out.len])
      have hsl := HSE.out
      have hsb := HSZ.out.2
      have HQ := Lib.hid (show 20 + no + nb ≤ 65535 by omega)
      clear hsl hsb
      go_wp2_with (at_builtin; refine wpList_appN _ rfl _ _ rfl w2.drew.heap.size _ _ (by exact rfl) O4.out w4.heap.size B nb cb b PB4.out.len (by exact rfl) PB4.out.here (by rw [HLN.out]; have := HQ.out; omega) Z4.out ?_; intro v9 w9 o9 f9; have G9 := Lib.hid (O4.out.turn E4.out (Nat.le_refl _) f9); have O9 := Lib.hid o9; clear o9 f9)
      obtain ⟨A9, cp9, rfl, hb, hc, hm⟩ := O9.out.cap (n := 20 + no + nb) (by rw [List.length_append, HLN.out, HPB.out.len])
      go_ret2
      have h1 := FB.out.size
      have h2 := F2.out.size
      have h3 : w2.drew.heap.size = w2.heap.size := rfl
      refine ⟨?_, .inr ⟨_, _, _, _, rfl, ?_, HCK.out.1, HCK.out.2, rfl, HPK.out, HNO.out, HN4.out, HQ.out⟩⟩
      · exact (FB.out.then' F2.out).then' (((Fr.refl (fun _ => False) w2).drew).then' G9.out)
      · rw [HSE.out]
        exact O9.out.base (by omega)
    · have ht4 : ((no : Int) % 4 != 0) = true := by simp; omega
      as_aux_lemma =>
      go_wp2_with fail
      go_ret2
      exact ⟨HFB1.out, .inl ⟨_, _, _, _, rfl, by decide⟩⟩
  · have HFB1 := Lib.hid FB.out
    have hsp : p.proto < 0 ∨ (¬ p.proto < 0 ∧ (255 < p.proto ∨ (¬ 255 < p.proto ∧ (p.tos < 0 ∨ (¬ p.tos < 0 ∧ (255 < p.tos ∨ (¬ 255 < p.tos ∧ (p.id < 0 ∨ (¬ p.id < 0 ∧ (65535 < p.id ∨ (¬ 65535 < p.id ∧ (p.ttl < 1 ∨ (¬ p.ttl < 1 ∧ (255 < p.ttl ∨ (¬ 255 < p.ttl ∧ (p.off < 0 ∨ (¬ p.off < 0 ∧ (65528 < p.off ∨ (¬ 65528 < p.off ∧ (p.off % 8 ≠ 0)))))))))))))))))))) := by
      unfold Ph.good at hg
      omega
    rcases hsp with h0 | ⟨h0, hsp⟩
    · as_aux_lemma =>
      go_wp2_with fail
      go_ret2
      exact ⟨HFB1.out, .inl ⟨_, _, _, _, rfl, by decide⟩⟩
    ·
     rcases hsp with h1 | ⟨h1, hsp⟩
     · as_aux_lemma =>
       go_wp2_with fail
       go_ret2
       exact ⟨HFB1.out, .inl ⟨_, _, _, _, rfl, by decide⟩⟩
     ·
      rcases hsp with h2 | ⟨h2, hsp⟩
      · as_aux_lemma =>
        go_wp2_with fail
        go_ret2
        exact ⟨HFB1.out, .inl ⟨_, _, _, _, rfl, by decide⟩⟩
      ·
       rcases hsp with h3 | ⟨h3, hsp⟩
       · as_aux_lemma =>
         go_wp2_with fail
         go_ret2
         exact ⟨HFB1.out, .inl ⟨_, _, _, _, rfl, by decide⟩⟩
       ·
        rcases hsp with h4 | ⟨h4, hsp⟩
        · as_aux_lemma =>
          go_wp2_with fail
          go_ret2
          exact ⟨HFB1.out, .inl ⟨_, _, _, _, rfl, by decide⟩⟩
        ·
         rcases hsp with h5 | ⟨h5, hsp⟩
         · as_aux_lemma =>
           go_wp2_with fail
           go_ret2
           exact ⟨HFB1.out, .inl ⟨_, _, _, _, rfl, by decide⟩⟩
         ·
          rcases hsp with h6 | ⟨h6, hsp⟩
          · as_aux_lemma =>
            go_wp2_with fail
            go_ret2
            exact ⟨HFB1.out, .inl ⟨_, _, _, _, rfl, by decide⟩⟩
          ·
           rcases hsp with h7 | ⟨h7, hsp⟩
           · as_aux_lemma =>
             go_wp2_with fail
             go_ret2
             exact ⟨HFB1.out, .inl ⟨_, _, _, _, rfl, by decide⟩⟩
           ·
            rcases hsp with h8 | ⟨h8, hsp⟩
            · as_aux_lemma =>
              go_wp2_with fail
              go_ret2
              exact ⟨HFB1.out, .inl ⟨_, _, _, _, rfl, by decide⟩⟩
            ·
             rcases hsp with h9 | ⟨h9, hsp⟩
             · as_aux_lemma =>
               go_wp2_with fail
               go_ret2
               exact ⟨HFB1.out, .inl ⟨_, _, _, _, rfl, by decide⟩⟩
             ·
              have ht8 : (p.off % 8 != 0) = true := by simpa using hsp
              have h8 := HK.out.off
              clear hsp htm
              as_aux_lemma =>
              go_wp2_with fail
              go_ret2
              exact ⟨HFB1.out, .inl ⟨_, _, _, _, rfl, by decide⟩⟩
end Go.Proofs.Ytcfadmjihccimaa
