/- IcmpQuoteBack: its walk. No condition but the form's sizes. -/
import Derived.Test.YtcfadmjihccimaaIcBd
import Derived.Test.YtcfadmjihccimaaKx
namespace Go.Proofs.Ytcfadmjihccimaa
set_option linter.unusedVariables false
set_option linter.unusedSimpArgs false
open Go.RowKit
set_option maxHeartbeats 16000000 in
set_option maxRecDepth 100000 in
theorem quoteBack7 (p : Ph) (A : Option Addr) (no co : Nat) (o : List Int) (fr tt seq : Int) (B : Option Addr) (nb cb : Nat) (b : List Int) (w : World) (hp : p.wf) (P : Pc w A no o) (hco : no ≤ co) (hcm : co ≤ maxLen) (PB : Pc w B nb b) (hnb : nb + 8 ≤ 140737488355328)
    (hfr : -9223372036854775808 ≤ fr ∧ fr ≤ 9223372036854775807) (hto : -9223372036854775808 ≤ tt ∧ tt ≤ 9223372036854775807) (hseq : 0 ≤ seq ∧ seq ≤ 4294967295) :
    Calls Try.prog 7 #[.agg #[.int .u8 p.s0, .int .u8 p.s1, .int .u8 p.s2, .int .u8 p.s3, .int .u8 p.d0, .int .u8 p.d1, .int .u8 p.d2, .int .u8 p.d3, .int .i64 p.proto, .int .i64 p.ttl, .int .i64 p.id, .int .i64 p.tos, .bool p.whole, .bool p.more, .int .i64 p.off, .slice A no co], .int .i64 fr, .int .i64 tt, .int .u32 seq, .slice B nb cb] w fun e w' => e = .returned (.bool true) ∧ Fr (fun _ => False) w w' := by
  have HP := Lib.hid P
  have HPB := Lib.hid PB
  have HK := Lib.hid hp
  have HC := Lib.hid (And.intro hco hcm)
  have htop := P.top
  have htb := PB.top
  clear P PB hp hco hcm
  have FA := Lib.hid (Fr.refl (fun _ => False) w)
  go_enter Try.func7, Try.ntmps7
  go_upto_region 1 with (fail)
  have g0 := heap_alloc_new w (.cells #[.int .u8 p.s0, .int .u8 p.s1, .int .u8 p.s2, .int .u8 p.s3, .int .u8 p.d0, .int .u8 p.d1, .int .u8 p.d2, .int .u8 p.d3, .int .i64 p.proto, .int .i64 p.ttl, .int .i64 p.id, .int .i64 p.tos, .bool p.whole, .bool p.more, .int .i64 p.off, .slice A no co] 58)
  have FB := Lib.hid (FA.out.alloc (.cells #[.int .u8 p.s0, .int .u8 p.s1, .int .u8 p.s2, .int .u8 p.s3, .int .u8 p.d0, .int .u8 p.d1, .int .u8 p.d2, .int .u8 p.d3, .int .i64 p.proto, .int .i64 p.ttl, .int .i64 p.id, .int .i64 p.tos, .bool p.whole, .bool p.more, .int .i64 p.off, .slice A no co] 58))
  have hz : w.heap.size < (w.alloc (.cells #[.int .u8 p.s0, .int .u8 p.s1, .int .u8 p.s2, .int .u8 p.s3, .int .u8 p.d0, .int .u8 p.d1, .int .u8 p.d2, .int .u8 p.d3, .int .i64 p.proto, .int .i64 p.ttl, .int .i64 p.id, .int .i64 p.tos, .bool p.whole, .bool p.more, .int .i64 p.off, .slice A no co] 58)).heap.size := by simp
  generalize w.alloc (.cells #[.int .u8 p.s0, .int .u8 p.s1, .int .u8 p.s2, .int .u8 p.s3, .int .u8 p.d0, .int .u8 p.d1, .int .u8 p.d2, .int .u8 p.d3, .int .i64 p.proto, .int .i64 p.ttl, .int .i64 p.id, .int .i64 p.tos, .bool p.whole, .bool p.more, .int .i64 p.off, .slice A no co] 58) = w1 at g0 FB hz ⊢
  have HCC := Lib.hid (fun (w' : World) (k : Fr (fun _ => False) w1 w') => cells_at w' w.heap.size [.int .u8 p.s0, .int .u8 p.s1, .int .u8 p.s2, .int .u8 p.s3, .int .u8 p.d0, .int .u8 p.d1, .int .u8 p.d2, .int .u8 p.d3, .int .i64 p.proto, .int .i64 p.ttl, .int .i64 p.id, .int .i64 p.tos, .bool p.whole, .bool p.more, .int .i64 p.off, .slice A no co] 58 ((k.block _ hz (fun e => e)).trans g0))
  have HZ := Lib.hid hz
  have HBX := Lib.hid (fun (w' : World) (k : Fr (fun _ => False) w1 w') => show w'.rangeAt w.heap.size 0 [.int .u8 p.s0, .int .u8 p.s1, .int .u8 p.s2, .int .u8 p.s3, .int .u8 p.d0, .int .u8 p.d1, .int .u8 p.d2, .int .u8 p.d3, .int .i64 p.proto, .int .i64 p.ttl, .int .i64 p.id, .int .i64 p.tos, .bool p.whole, .bool p.more, .int .i64 p.off, .slice A no co] from fun j v hj => by rw [Nat.zero_add]; exact HCC.out w' k j v hj)
  clear g0 hz
  go_upto_region 2 with (go_at_call 11; refine (awake11 w1).mono ?_; rintro e w2 ⟨rfl, f2⟩; have F2 := Lib.hid f2; clear f2)
  have O3 := Lib.hid (show OwnB w2.heap.size (w2.alloc (.cells #[.int .u8 (fr.tdiv 256 % 256), .int .u8 (fr % 256), .int .u8 (tt.tdiv 256 % 256), .int .u8 (tt % 256), .int .u8 (seq / 16777216), .int .u8 (seq / 65536 % 256), .int .u8 (seq / 256 % 256), .int .u8 (seq % 256)] 5)) (.slice (some ⟨w2.heap.size, 0, none⟩) 8 8) (hB fr tt seq) from own_made w2 (hB fr tt seq) 8 rfl (by decide))
  have F3 := Lib.hid (F2.out.alloc (.cells #[.int .u8 (fr.tdiv 256 % 256), .int .u8 (fr % 256), .int .u8 (tt.tdiv 256 % 256), .int .u8 (tt % 256), .int .u8 (seq / 16777216), .int .u8 (seq / 65536 % 256), .int .u8 (seq / 256 % 256), .int .u8 (seq % 256)] 5))
  have G3 := Lib.hid ((Fr.refl (fun _ => False) w2).alloc (.cells #[.int .u8 (fr.tdiv 256 % 256), .int .u8 (fr % 256), .int .u8 (tt.tdiv 256 % 256), .int .u8 (tt % 256), .int .u8 (seq / 16777216), .int .u8 (seq / 65536 % 256), .int .u8 (seq / 256 % 256), .int .u8 (seq % 256)] 5))
  go_upto_region 3 with (fail)
  generalize w2.alloc (.cells #[.int .u8 (fr.tdiv 256 % 256), .int .u8 (fr % 256), .int .u8 (tt.tdiv 256 % 256), .int .u8 (tt % 256), .int .u8 (seq / 16777216), .int .u8 (seq / 65536 % 256), .int .u8 (seq / 256 % 256), .int .u8 (seq % 256)] 5) = w3 at O3 F3 G3 ⊢
  have P3 := Lib.hid (HP.out.fr (FB.out.then' F3.out))
  have PB3 := Lib.hid (HPB.out.fr (FB.out.then' F3.out))
  have HNB := Lib.hid hnb
  have HSQ := Lib.hid hseq
  clear hnb
  refine kr_start [(0, fun W => W.rangeAt w.heap.size 0 [.int .u8 p.s0, .int .u8 p.s1, .int .u8 p.s2, .int .u8 p.s3, .int .u8 p.d0, .int .u8 p.d1, .int .u8 p.d2, .int .u8 p.d3, .int .i64 p.proto, .int .i64 p.ttl, .int .i64 p.id, .int .i64 p.tos, .bool p.whole, .bool p.more, .int .i64 p.off, .slice A no co])] (by kernel_rfl) (by kernel_rfl) ?_
  refine kr_take 0 rfl (by kernel_rfl) (by kernel_rfl) (by kernel_rfl) (fun _ _ _ h => h) (yieldsIf_load_mid (by rfl) 58 _ rfl w.heap.size 0 rfl [.int .u8 p.s0, .int .u8 p.s1, .int .u8 p.s2, .int .u8 p.s3, .int .u8 p.d0, .int .u8 p.d1, .int .u8 p.d2, .int .u8 p.d3, .int .i64 p.proto, .int .i64 p.ttl, .int .i64 p.id, .int .i64 p.tos, .bool p.whole, .bool p.more, .int .i64 p.off, .slice A no co] _ (fun _ h => h) Try.underlying58 rfl (by kernel_rfl)) (show _ from HBX.out _ F3.out.drew) ?_
  try simp only [Act.put, List.getElem_toArray, List.getElem_cons_zero, List.getElem_cons_succ, List.setIfInBounds_toArray, List.set_cons_zero, List.set_cons_succ]
  refine kr_find 1 rfl (by kernel_rfl) (by kernel_rfl) (by kernel_rfl) (fun _ _ _ _ h => h) (by rfl) trivial ?_
  apply Exists.intro; apply And.intro
  · intro w' hS K hK
    clear hS
    go_light
    go_simp
    exact hK.out
  try simp only [Act.put, List.getElem_toArray, List.getElem_cons_zero, List.getElem_cons_succ, List.setIfInBounds_toArray, List.set_cons_zero, List.set_cons_succ]
  refine kr_find 2 rfl (by kernel_rfl) (by kernel_rfl) (by kernel_rfl) (fun _ _ _ _ h => h) (by rfl) trivial ?_
  apply Exists.intro; apply And.intro
  · intro w' hS K hK
    clear hS
    go_light
    go_simp
    exact hK.out
  try simp only [Act.put, List.getElem_toArray, List.getElem_cons_zero, List.getElem_cons_succ, List.setIfInBounds_toArray, List.set_cons_zero, List.set_cons_succ]
  refine kr_one 3 (by kernel_rfl) rfl (by rfl) (fun K hK => ?_)
  refine wp_appN _ _ _ rfl w2.heap.size _ _ rfl (O3.out.fr0 (Fr.refl _ _).drew) w3.drew.heap.size B nb cb b (PB3.out.fr (Fr.refl _ _).drew).len rfl (PB3.out.fr (Fr.refl _ _).drew).here (by show 8 + nb ≤ _; have := HNB.out; omega) (by have := G3.out.size; exact this) ?_
  intro v4 w4 o4 f4
  have O4 := Lib.hid o4
  have F4 := Lib.hid (O3.out.turn G3.out (Nat.le_refl _) ((Fr.refl (fun i => (Value.slice (some ⟨w2.heap.size, 0, none⟩) 8 8).ownBlock = some i) w3).drew.trans f4 (fun _ _ e => e)))
  clear o4 f4
  obtain ⟨A4, cp4, rfl, hb, hc, hm⟩ := O4.out.cap (n := 8 + nb) (by rw [List.length_append, HPB.out.len]; rfl)
  have P4 := Lib.hid (O4.out.pc (n := 8 + nb) (by rw [List.length_append, HPB.out.len]; rfl) ((hB_isB fr tt seq HSQ.out).app HPB.out.ok) (by have := HNB.out; omega)).1
  clear hb hc hm
  refine hK.out _ _ ⟨.inr (HBX.out _ (F2.out.then' F4.out)), trivial⟩ ?_
  clear hK K
  try simp only [Act.put, List.getElem_toArray, List.getElem_cons_zero, List.getElem_cons_succ, List.setIfInBounds_toArray, List.set_cons_zero, List.set_cons_succ]
  refine kr_one 4 (by kernel_rfl) rfl (by rfl) (fun K hK => ?_)
  go_simp
  go_at_call 27
  refine (rencode27 p A no co o A4 (8 + nb) cp4 (hB fr tt seq ++ b) w4 HK.out (HP.out.fr (FB.out.then' (F2.out.then' F4.out))) HC.out.1 HC.out.2 P4.out).mono ?_
  rintro e w5 ⟨f5, hpo⟩
  have F5 := Lib.hid f5
  clear f5
  rcases hpo with ⟨A5, n5, c5, r5, rfl, hr5⟩ | ⟨A5, n5, c5, s5, rfl, o5, hs0, hs1, hn5, hpk, hno, hn4, hn6⟩
  · have HR5 := Lib.hid hr5
    clear hr5
    refine hK.out _ _ ⟨.inl (by kernel_rfl), trivial⟩ ?_
    clear hK K
    try simp only [Act.put, List.getElem_toArray, List.getElem_cons_zero, List.getElem_cons_succ, List.setIfInBounds_toArray, List.set_cons_zero, List.set_cons_succ]
    refine kr_find 5 rfl (by kernel_rfl) (by kernel_rfl) (by kernel_rfl) (fun _ _ _ _ h => h) (by rfl) trivial ?_
    apply Exists.intro; apply And.intro
    · intro w' hS K hK
      clear hS
      go_light
      go_simp
      exact hK.out
    try simp only [Act.put, List.getElem_toArray, List.getElem_cons_zero, List.getElem_cons_succ, List.setIfInBounds_toArray, List.set_cons_zero, List.set_cons_succ]
    refine kr_find 6 rfl (by kernel_rfl) (by kernel_rfl) (by kernel_rfl) (fun _ _ _ _ h => h) (by rfl) trivial ?_
    apply Exists.intro; apply And.intro
    · intro w' hS K hK
      clear hS
      go_light
      go_simp
      exact hK.out
    try simp only [Act.put, List.getElem_toArray, List.getElem_cons_zero, List.getElem_cons_succ, List.setIfInBounds_toArray, List.set_cons_zero, List.set_cons_succ]
    refine kr_find 7 rfl (by kernel_rfl) (by kernel_rfl) (by kernel_rfl) (fun _ _ _ _ h => h) (by rfl) trivial ?_
    apply Exists.intro; apply And.intro
    · intro w' hS K hK
      clear hS
      go_light
      go_simp
      exact hK.out
    try simp only [Act.put, List.getElem_toArray, List.getElem_cons_zero, List.getElem_cons_succ, List.setIfInBounds_toArray, List.set_cons_zero, List.set_cons_succ]
    refine kr_find 8 rfl (by kernel_rfl) (by kernel_rfl) (by kernel_rfl) (fun _ _ _ _ h => h) (by rfl) trivial ?_
    apply Exists.intro; apply And.intro
    · intro w' hS K hK
      clear hS
      go_light
      go_simp
      exact hK.out
    try simp only [Act.put, List.getElem_toArray, List.getElem_cons_zero, List.getElem_cons_succ, List.setIfInBounds_toArray, List.set_cons_zero, List.set_cons_succ]
    refine kr_find 9 rfl (by kernel_rfl) (by kernel_rfl) (by kernel_rfl) (fun _ _ _ _ h => h) (by rfl) trivial ?_
    apply Exists.intro; apply And.intro
    · intro w' hS K hK
      clear hS
      go_light
      go_simp
      exact hK.out
    try simp only [Act.put, List.getElem_toArray, List.getElem_cons_zero, List.getElem_cons_succ, List.setIfInBounds_toArray, List.set_cons_zero, List.set_cons_succ]
    refine kr_done (by kernel_rfl) ?_ _
    have hr5 : (r5 != 0) = true := by have h := HR5.out; simpa using h
    as_aux_lemma =>
    go_wp2_with fail
    go_ret
    exact ⟨rfl, FB.out.then' ((F2.out.then' F4.out).then' F5.out)⟩
  · have O5 := Lib.hid o5
    have HS5 := Lib.hid (And.intro hs0 hs1)
    have HPK := Lib.hid hpk
    have HNO := Lib.hid (And.intro hno hn4)
    have HN5 := Lib.hid (And.intro hn5 hn6)
    clear o5 hs0 hs1 hpk hno hn4 hn5 hn6
    refine hK.out _ _ ⟨.inl (by kernel_rfl), trivial⟩ ?_
    clear hK K
    try simp only [Act.put, List.getElem_toArray, List.getElem_cons_zero, List.getElem_cons_succ, List.setIfInBounds_toArray, List.set_cons_zero, List.set_cons_succ]
    refine kr_find 5 rfl (by kernel_rfl) (by kernel_rfl) (by kernel_rfl) (fun _ _ _ _ h => h) (by rfl) trivial ?_
    apply Exists.intro; apply And.intro
    · intro w' hS K hK
      clear hS
      go_light
      go_simp
      exact hK.out
    try simp only [Act.put, List.getElem_toArray, List.getElem_cons_zero, List.getElem_cons_succ, List.setIfInBounds_toArray, List.set_cons_zero, List.set_cons_succ]
    refine kr_find 6 rfl (by kernel_rfl) (by kernel_rfl) (by kernel_rfl) (fun _ _ _ _ h => h) (by rfl) trivial ?_
    apply Exists.intro; apply And.intro
    · intro w' hS K hK
      clear hS
      go_light
      go_simp
      exact hK.out
    try simp only [Act.put, List.getElem_toArray, List.getElem_cons_zero, List.getElem_cons_succ, List.setIfInBounds_toArray, List.set_cons_zero, List.set_cons_succ]
    refine kr_find 7 rfl (by kernel_rfl) (by kernel_rfl) (by kernel_rfl) (fun _ _ _ _ h => h) (by rfl) trivial ?_
    apply Exists.intro; apply And.intro
    · intro w' hS K hK
      clear hS
      go_light
      go_simp
      exact hK.out
    try simp only [Act.put, List.getElem_toArray, List.getElem_cons_zero, List.getElem_cons_succ, List.setIfInBounds_toArray, List.set_cons_zero, List.set_cons_succ]
    refine kr_find 8 rfl (by kernel_rfl) (by kernel_rfl) (by kernel_rfl) (fun _ _ _ _ h => h) (by rfl) trivial ?_
    apply Exists.intro; apply And.intro
    · intro w' hS K hK
      clear hS
      go_light
      go_simp
      exact hK.out
    try simp only [Act.put, List.getElem_toArray, List.getElem_cons_zero, List.getElem_cons_succ, List.setIfInBounds_toArray, List.set_cons_zero, List.set_cons_succ]
    refine kr_find 9 rfl (by kernel_rfl) (by kernel_rfl) (by kernel_rfl) (fun _ _ _ _ h => h) (by rfl) trivial ?_
    apply Exists.intro; apply And.intro
    · intro w' hS K hK
      clear hS
      go_light
      go_simp
      exact hK.out
    try simp only [Act.put, List.getElem_toArray, List.getElem_cons_zero, List.getElem_cons_succ, List.setIfInBounds_toArray, List.set_cons_zero, List.set_cons_succ]
    refine kr_done (by kernel_rfl) ?_ _
    have HLO := HP.out.len
    by_cases hrg : 0 ≤ fr ∧ fr ≤ 65535 ∧ 0 ≤ tt ∧ tt ≤ 65535
    · have HRG := Lib.hid hrg
      have hg1 : ¬ fr < 0 := by omega
      have hg2 : ¬ 65535 < fr := by omega
      have hg3 : ¬ tt < 0 := by omega
      have hg4 : ¬ 65535 < tt := by omega
      clear hrg
      obtain ⟨k, hk⟩ : ∃ k, 28 + no = k := ⟨_, rfl⟩
      have HKE := Lib.hid hk
      have hk68 : k ≤ 68 := by have := HNO.out.1; omega
      have hn5 : k ≤ n5 := by have := HN5.out.1; omega
      obtain ⟨L, hL⟩ : ∃ L, p.lay (20 + no + (8 + nb : Nat)) s5 o ++ hB fr tt seq = L := ⟨_, rfl⟩
      have HLE := Lib.hid hL
      have HO4 := Lib.hid (show o.length % 4 = 0 ∧ o.length ≤ 40 from ⟨by rw [HLO]; exact HNO.out.2, by rw [HLO]; exact HNO.out.1⟩)
      have HBH := Lib.hid (hB_isB fr tt seq HSQ.out)
      have HLB := Lib.hid (show isB L from by rw [← hL]; exact (lay_isB HPK.out _ _ HP.out.ok HO4.out.2).app HBH.out)
      have HLL := Lib.hid (show L.length = k from by rw [← hL, ← hk, List.length_append, lay_length, HLO]; show 20 + no + 8 = _; omega)
      have HTK := Lib.hid (show (p.lay (20 + no + (8 + nb : Nat)) s5 o ++ (hB fr tt seq ++ b)).take (qn (p.lay (20 + no + (8 + nb : Nat)) s5 o ++ (hB fr tt seq ++ b)) n5) = L from by
        have e1 := lay_qn p (20 + no + (8 + nb : Nat)) s5 HO4.out.1 HO4.out.2 (hB fr tt seq ++ b) n5 (by rw [HLO]; omega)
        rw [e1, lay_take _ _ _ _ _ _ rfl, hL])
      obtain ⟨raw, hraw⟩ : ∃ raw, p.lay (20 + no + (8 + nb : Nat)) s5 o ++ (hB fr tt seq ++ b) = raw := ⟨_, rfl⟩
      have HRB := Lib.hid (show isB raw from by rw [← hraw]; exact (lay_isB HPK.out _ _ HP.out.ok HO4.out.2).app (HBH.out.app HPB.out.ok))
      have HRL := Lib.hid (show raw.length = n5 from by rw [← hraw, List.length_append, lay_length, HLO, List.length_append, HPB.out.len, HN5.out.1]; show 20 + no + (8 + nb) = _; omega)
      rw [hraw] at O5 HTK
      have PR := Lib.hid (OwnB.pc O5.out HRL.out HRB.out (by have := HN5.out.2; omega))
      obtain ⟨_, _, hv5, _, hn5c, hm5c⟩ := O5.out.cap HRL.out
      cases hv5
      have HC5 := Lib.hid (And.intro hn5c hm5c)
      clear hL hraw hn5c hm5c hk
      obtain ⟨qa, hqa⟩ : ∃ x, (quH p (hB fr tt seq)).a = x := ⟨_, rfl⟩
      obtain ⟨qb, hqb⟩ : ∃ x, (quH p (hB fr tt seq)).b = x := ⟨_, rfl⟩
      obtain ⟨qq, hqq⟩ : ∃ x, (quH p (hB fr tt seq)).q = x := ⟨_, rfl⟩
      have HQ := Lib.hid (And.intro hqa (And.intro hqb hqq))
      obtain ⟨M, hM⟩ : ∃ M, encL m33 k L = M := ⟨_, rfl⟩
      have HE := Lib.hid (enc33 HLB.out HLL.out (by omega))
      have HEB := Lib.hid (enc33_B HLB.out HLL.out (by omega))
      rw [hM] at HE HEB
      have HM := Lib.hid hM
      clear hqa hqb hqq hM
      have hk1 : k ≤ 140737488355328 := by omega
      have HK68 := Lib.hid hk68
      clear hk68
      as_aux_lemma =>
      go_upto_region 6 with (fail)
      clear hg1 hg2 hg3 hg4
      go_upto_region 7 with (first
        | (go_at_call 25; refine (quoted_lay HPK.out _ s5 HO4.out.1 HO4.out.2 (hB fr tt seq) rfl A6 k c6 w6 HC6.out.1 (by rw [HLE.out]; exact P6.out)).mono ?_; rw [HQ.out.1, HQ.out.2.1, HQ.out.2.2]; rintro e w7 ⟨rfl, f7⟩; have F7 := Lib.hid f7; clear f7)
        | (go_at_call 23; refine (quoting23 A5 n5 c5 raw w5 PR.out.1 HC5.out.1 HC5.out.2).mono ?_; rw [HTK.out]; rintro e w6 ⟨v6, rfl, o6, f6⟩; obtain ⟨A6, c6, rfl, hb6, hn6, hm6⟩ := o6.cap HLL.out; have F6 := Lib.hid f6; have HC6 := Lib.hid (And.intro hn6 hm6); have P6 := Lib.hid (OwnB.pc o6 HLL.out HLB.out (by omega)).1; clear o6 f6 hb6 hn6 hm6))
      have QB := Lib.hid (heap_alloc_new w7 (.cells #[.int .u8 p.s0, .int .u8 p.s1, .int .u8 p.s2, .int .u8 p.s3, .int .u8 p.d0, .int .u8 p.d1, .int .u8 p.d2, .int .u8 p.d3, .int .i64 p.proto, .int .i64 qa, .int .i64 qb, .int .u32 qq] 53))
      have F8 := Lib.hid ((Fr.refl (fun _ => False) w7).alloc (.cells #[.int .u8 p.s0, .int .u8 p.s1, .int .u8 p.s2, .int .u8 p.s3, .int .u8 p.d0, .int .u8 p.d1, .int .u8 p.d2, .int .u8 p.d3, .int .i64 p.proto, .int .i64 qa, .int .i64 qb, .int .u32 qq] 53))
      generalize w7.alloc (.cells #[.int .u8 p.s0, .int .u8 p.s1, .int .u8 p.s2, .int .u8 p.s3, .int .u8 p.d0, .int .u8 p.d1, .int .u8 p.d2, .int .u8 p.d3, .int .i64 p.proto, .int .i64 qa, .int .i64 qb, .int .u32 qq] 53) = w8 at QB F8 ⊢
      obtain ⟨qi, hqi⟩ : ∃ qi, w7.heap.size = qi := ⟨_, rfl⟩
      rw [hqi] at QB ⊢
      clear hqi
      have F58 := Lib.hid (F6.out.then' (F7.out.then' F8.out))
      have PR8 := Lib.hid (PR.out.1.fr F58.out)
      iterate 30 (first
        | (have := MK1; clear this)
        | (refine wpList_build bd24 rfl rfl [(0, .int .i64 3), (1, .int .i64 3), (5, .slice A9 k c9)] (by rfl) #[.int .i64 3, .int .i64 3, .int .i64 0, .int .i64 0, .int .i64 0, .slice A9 k c9] (by rfl) ?_; have MK1 := Lib.hid True.intro)
        | (go_simp; go_at_call 23; refine (quoting23 A5 n5 c5 raw w8 PR8.out HC5.out.1 HC5.out.2).mono ?_; rw [HTK.out]; rintro e w9 ⟨v9, rfl, o9, f9⟩; obtain ⟨A9, c9, rfl, hb9, hn9, hm9⟩ := o9.cap HLL.out; have F9 := Lib.hid f9; have P9 := Lib.hid (OwnB.pc o9 HLL.out HLB.out (by omega)).1; clear o9 f9 hb9 hn9 hm9; dsimp only)
        | go_step)
      go_upto_region 8 with (go_at_call 12; refine (encode_any m33 A9 k c9 L w9 P9.out).mono ?_; rintro e w10 ⟨A10, c10, hr, o10, f10⟩; rw [HM.out, HE.out.1, HEB.out.2] at hr; rw [HM.out, HEB.out.2] at o10; subst hr; have O10 := Lib.hid o10; have F10 := Lib.hid f10; clear o10 f10)
      have P10 := Lib.hid (OwnB.pc O10.out HEB.out.2 HEB.out.1 (by have := HK68.out; omega))
      go_upto_region 9 with (go_at_call 14; refine (decode_any A10 (8 + k) c10 M w10 P10.out.2 P10.out.1).mono ?_; rintro e w11 ⟨A11, c11, hr, o11, p11, f11⟩; rw [HE.out.2.1, HE.out.2.2.1, HE.out.2.2.2, HLL.out] at hr; rw [HE.out.2.2.2, HLL.out] at p11; subst hr; have P11 := Lib.hid p11; have F11 := Lib.hid f11; clear o11 p11 f11)
      have XB := Lib.hid (heap_alloc_new w11 (.cells #[.int .i64 m33.ty, .int .i64 m33.code, .int .i64 m33.id, .int .i64 m33.seq, .int .i64 m33.mtu, .slice A11 k c11] 24))
      have F12 := Lib.hid ((Fr.refl (fun _ => False) w11).alloc (.cells #[.int .i64 m33.ty, .int .i64 m33.code, .int .i64 m33.id, .int .i64 m33.seq, .int .i64 m33.mtu, .slice A11 k c11] 24))
      generalize w11.alloc (.cells #[.int .i64 m33.ty, .int .i64 m33.code, .int .i64 m33.id, .int .i64 m33.seq, .int .i64 m33.mtu, .slice A11 k c11] 24) = w12 at XB F12 ⊢
      obtain ⟨xi, hxi⟩ : ∃ xi, w11.heap.size = xi := ⟨_, rfl⟩
      rw [hxi] at XB ⊢
      clear hxi
      have F812 := Lib.hid (F9.out.then' (F10.out.then' (F11.out.then' F12.out)))
      have QC := Lib.hid (fun (w' : World) (f : Fr (fun _ => False) w12 w') => cells_at w' qi [.int .u8 p.s0, .int .u8 p.s1, .int .u8 p.s2, .int .u8 p.s3, .int .u8 p.d0, .int .u8 p.d1, .int .u8 p.d2, .int .u8 p.d3, .int .i64 p.proto, .int .i64 qa, .int .i64 qb, .int .u32 qq] 53 (((F812.out.then' f).block qi (lt_of_block QB.out) (fun e => e)).trans QB.out))
      have XC := Lib.hid (fun (w' : World) (f : Fr (fun _ => False) w12 w') => cells_at w' xi [.int .i64 m33.ty, .int .i64 m33.code, .int .i64 m33.id, .int .i64 m33.seq, .int .i64 m33.mtu, .slice A11 k c11] 24 ((f.block xi (lt_of_block XB.out) (fun e => e)).trans XB.out))
      have FW12 := Lib.hid (FB.out.then' ((F2.out.then' F4.out).then' (F5.out.then' (F58.out.then' F812.out))))
      have PC12 := Lib.hid (fun (w' : World) (f : Fr (fun _ => False) w12 w') => HCC.out w' ((F2.out.then' F4.out).then' (F5.out.then' (F58.out.then' (F812.out.then' f)))))
      have X5 := Lib.hid (fun (w' : World) (f : Fr (fun _ => False) w12 w') => show w'.cell? ⟨xi, 5, none⟩ = some (.slice A11 k c11) from XC.out w' f 5 _ rfl)
      have P12 := Lib.hid (P11.out.fr F12.out)
      have PR12 := Lib.hid (PR8.out.fr F812.out)
      have RQ := Lib.hid (fun (w' : World) (f : Fr (fun _ => False) w12 w') => show w'.rangeAt qi 0 [.int .u8 p.s0, .int .u8 p.s1, .int .u8 p.s2, .int .u8 p.s3] ∧ w'.rangeAt qi 4 [.int .u8 p.d0, .int .u8 p.d1, .int .u8 p.d2, .int .u8 p.d3] ∧ w'.rangeAt w.heap.size 0 [.int .u8 p.s0, .int .u8 p.s1, .int .u8 p.s2, .int .u8 p.s3] ∧ w'.rangeAt w.heap.size 4 [.int .u8 p.d0, .int .u8 p.d1, .int .u8 p.d2, .int .u8 p.d3] from
        ⟨range4 (QC.out w' f 0 _ rfl) (QC.out w' f 1 _ rfl) (QC.out w' f 2 _ rfl) (QC.out w' f 3 _ rfl), range4 (QC.out w' f 4 _ rfl) (QC.out w' f 5 _ rfl) (QC.out w' f 6 _ rfl) (QC.out w' f 7 _ rfl),
          range4 (PC12.out w' f 0 _ rfl) (PC12.out w' f 1 _ rfl) (PC12.out w' f 2 _ rfl) (PC12.out w' f 3 _ rfl), range4 (PC12.out w' f 4 _ rfl) (PC12.out w' f 5 _ rfl) (PC12.out w' f 6 _ rfl) (PC12.out w' f 7 _ rfl)⟩)
      have RP := Lib.hid (fun (w' : World) (f : Fr (fun _ => False) w12 w') => show w'.cell? ⟨qi, 8, none⟩ = some (.int .i64 p.proto) ∧ w'.cell? ⟨w.heap.size, 8, none⟩ = some (.int .i64 p.proto) from ⟨QC.out w' f 8 _ rfl, PC12.out w' f 8 _ rfl⟩)
      refine kr_start [(12, fun W => W.cell? ⟨xi, 5, none⟩ = some (.slice A11 k c11)), (13, fun W => Pc W A11 k L), (21, fun W => W.rangeAt qi 0 [.int .u8 p.s0, .int .u8 p.s1, .int .u8 p.s2, .int .u8 p.s3]), (23, fun W => W.rangeAt w.heap.size 0 [.int .u8 p.s0, .int .u8 p.s1, .int .u8 p.s2, .int .u8 p.s3]), (28, fun W => W.rangeAt qi 4 [.int .u8 p.d0, .int .u8 p.d1, .int .u8 p.d2, .int .u8 p.d3]), (30, fun W => W.rangeAt w.heap.size 4 [.int .u8 p.d0, .int .u8 p.d1, .int .u8 p.d2, .int .u8 p.d3]), (35, fun W => W.cell? ⟨qi, 8, none⟩ = some (.int .i64 p.proto)), (37, fun W => W.cell? ⟨w.heap.size, 8, none⟩ = some (.int .i64 p.proto))] (by kernel_rfl) (by kernel_rfl) ?_
      refine kr_find 0 rfl (by kernel_rfl) (by kernel_rfl) (by kernel_rfl) (fun _ _ _ _ h => h) (by rfl) trivial ?_
      apply Exists.intro; apply And.intro
      · intro w' hS K hK
        clear hS
        go_light
        go_simp
        exact hK.out
      try simp only [Act.put, List.getElem_toArray, List.getElem_cons_zero, List.getElem_cons_succ, List.setIfInBounds_toArray, List.set_cons_zero, List.set_cons_succ]
      refine kr_find 1 rfl (by kernel_rfl) (by kernel_rfl) (by kernel_rfl) (fun _ _ _ _ h => h) (by rfl) trivial ?_
      apply Exists.intro; apply And.intro
      · intro w' hS K hK
        clear hS
        go_light
        go_simp
        exact hK.out
      try simp only [Act.put, List.getElem_toArray, List.getElem_cons_zero, List.getElem_cons_succ, List.setIfInBounds_toArray, List.set_cons_zero, List.set_cons_succ]
      refine kr_find 2 rfl (by kernel_rfl) (by kernel_rfl) (by kernel_rfl) (fun _ _ _ _ h => h) (by rfl) trivial ?_
      apply Exists.intro; apply And.intro
      · intro w' hS K hK
        clear hS
        go_light
        go_simp
        exact hK.out
      try simp only [Act.put, List.getElem_toArray, List.getElem_cons_zero, List.getElem_cons_succ, List.setIfInBounds_toArray, List.set_cons_zero, List.set_cons_succ]
      refine kr_find 3 rfl (by kernel_rfl) (by kernel_rfl) (by kernel_rfl) (fun _ _ _ _ h => h) (by rfl) trivial ?_
      apply Exists.intro; apply And.intro
      · intro w' hS K hK
        clear hS
        go_light
        go_simp
        exact hK.out
      try simp only [Act.put, List.getElem_toArray, List.getElem_cons_zero, List.getElem_cons_succ, List.setIfInBounds_toArray, List.set_cons_zero, List.set_cons_succ]
      refine kr_find 4 rfl (by kernel_rfl) (by kernel_rfl) (by kernel_rfl) (fun _ _ _ _ h => h) (by rfl) trivial ?_
      apply Exists.intro; apply And.intro
      · intro w' hS K hK
        clear hS
        go_light
        go_simp
        exact hK.out
      try simp only [Act.put, List.getElem_toArray, List.getElem_cons_zero, List.getElem_cons_succ, List.setIfInBounds_toArray, List.set_cons_zero, List.set_cons_succ]
      refine kr_find 5 rfl (by kernel_rfl) (by kernel_rfl) (by kernel_rfl) (fun _ _ _ _ h => h) (by rfl) trivial ?_
      apply Exists.intro; apply And.intro
      · intro w' hS K hK
        clear hS
        go_light
        go_simp
        exact hK.out
      try simp only [Act.put, List.getElem_toArray, List.getElem_cons_zero, List.getElem_cons_succ, List.setIfInBounds_toArray, List.set_cons_zero, List.set_cons_succ]
      refine kr_find 6 rfl (by kernel_rfl) (by kernel_rfl) (by kernel_rfl) (fun _ _ _ _ h => h) (by rfl) trivial ?_
      apply Exists.intro; apply And.intro
      · intro w' hS K hK
        clear hS
        go_light
        go_simp
        exact hK.out
      try simp only [Act.put, List.getElem_toArray, List.getElem_cons_zero, List.getElem_cons_succ, List.setIfInBounds_toArray, List.set_cons_zero, List.set_cons_succ]
      refine kr_find 7 rfl (by kernel_rfl) (by kernel_rfl) (by kernel_rfl) (fun _ _ _ _ h => h) (by rfl) trivial ?_
      apply Exists.intro; apply And.intro
      · intro w' hS K hK
        clear hS
        go_light
        go_simp
        exact hK.out
      try simp only [Act.put, List.getElem_toArray, List.getElem_cons_zero, List.getElem_cons_succ, List.setIfInBounds_toArray, List.set_cons_zero, List.set_cons_succ]
      refine kr_find 8 rfl (by kernel_rfl) (by kernel_rfl) (by kernel_rfl) (fun _ _ _ _ h => h) (by rfl) trivial ?_
      apply Exists.intro; apply And.intro
      · intro w' hS K hK
        clear hS
        go_light
        go_simp
        exact hK.out
      try simp only [Act.put, List.getElem_toArray, List.getElem_cons_zero, List.getElem_cons_succ, List.setIfInBounds_toArray, List.set_cons_zero, List.set_cons_succ]
      refine kr_find 9 rfl (by kernel_rfl) (by kernel_rfl) (by kernel_rfl) (fun _ _ _ _ h => h) (by rfl) trivial ?_
      apply Exists.intro; apply And.intro
      · intro w' hS K hK
        clear hS
        go_light
        go_simp
        exact hK.out
      try simp only [Act.put, List.getElem_toArray, List.getElem_cons_zero, List.getElem_cons_succ, List.setIfInBounds_toArray, List.set_cons_zero, List.set_cons_succ]
      refine kr_find 10 rfl (by kernel_rfl) (by kernel_rfl) (by kernel_rfl) (fun _ _ _ _ h => h) (by rfl) trivial ?_
      apply Exists.intro; apply And.intro
      · intro w' hS K hK
        clear hS
        go_light
        go_simp
        exact hK.out
      try simp only [Act.put, List.getElem_toArray, List.getElem_cons_zero, List.getElem_cons_succ, List.setIfInBounds_toArray, List.set_cons_zero, List.set_cons_succ]
      refine kr_find 11 rfl (by kernel_rfl) (by kernel_rfl) (by kernel_rfl) (fun _ _ _ _ h => h) (by rfl) trivial ?_
      apply Exists.intro; apply And.intro
      · intro w' hS K hK
        clear hS
        go_light
        go_simp
        exact hK.out
      try simp only [Act.put, List.getElem_toArray, List.getElem_cons_zero, List.getElem_cons_succ, List.setIfInBounds_toArray, List.set_cons_zero, List.set_cons_succ]
      refine kr_find 12 rfl (by kernel_rfl) (by kernel_rfl) (by kernel_rfl) (fun _ _ _ _ h => h) (by rfl) (show _ from X5.out _ (Fr.refl _ w12).drew) ?_
      apply Exists.intro; apply And.intro
      · intro w' hS K hK
        have hS : w'.cell? ⟨xi, 5, none⟩ = some (.slice A11 k c11) := hS
        go_light
        go_simp
        exact hK.out
      try simp only [Act.put, List.getElem_toArray, List.getElem_cons_zero, List.getElem_cons_succ, List.setIfInBounds_toArray, List.set_cons_zero, List.set_cons_succ]
      refine kr_find 13 rfl (by kernel_rfl) (by kernel_rfl) (by kernel_rfl) (fun _ _ _ _ h => h) (by rfl) (show _ from P12.out.fr (Fr.refl _ w12).drew) ?_
      apply Exists.intro; apply And.intro
      · intro w' hS K hK
        have hS : Pc w' A11 k L := hS
        have hk1 := pc_str (c := c11) hS
        go_light
        go_simp
        exact hK.out
      try simp only [Act.put, List.getElem_toArray, List.getElem_cons_zero, List.getElem_cons_succ, List.setIfInBounds_toArray, List.set_cons_zero, List.set_cons_succ]
      refine kr_find 14 rfl (by kernel_rfl) (by kernel_rfl) (by kernel_rfl) (fun _ _ _ _ h => h) (by rfl) trivial ?_
      apply Exists.intro; apply And.intro
      · intro w' hS K hK
        clear hS
        go_light
        go_simp
        exact hK.out
      try simp only [Act.put, List.getElem_toArray, List.getElem_cons_zero, List.getElem_cons_succ, List.setIfInBounds_toArray, List.set_cons_zero, List.set_cons_succ]
      refine kr_one 15 (by kernel_rfl) rfl (by rfl) (fun K hK => ?_)
      go_simp
      go_at_call 23
      refine (quoting23 A5 n5 c5 raw _ (PR12.out.fr (Fr.refl _ w12).drew) HC5.out.1 HC5.out.2).mono ?_
      rw [HTK.out]
      rintro e w15 ⟨v15, rfl, o15, f15⟩
      obtain ⟨A15, c15, rfl, hb15, hn15, hm15⟩ := o15.cap HLL.out
      have F15 := Lib.hid f15
      have P15 := Lib.hid (OwnB.pc o15 HLL.out HLB.out (by omega)).1
      clear o15 f15 hb15 hn15 hm15
      refine hK.out _ _ ⟨.inr (X5.out _ ((Fr.refl _ w12).drew.then' F15.out)), .inr (P12.out.fr ((Fr.refl _ w12).drew.then' F15.out)), .inl (by kernel_rfl), .inl (by kernel_rfl), .inl (by kernel_rfl), .inl (by kernel_rfl), .inl (by kernel_rfl), .inl (by kernel_rfl), trivial⟩ ?_
      clear hK K
      try simp only [Act.put, List.getElem_toArray, List.getElem_cons_zero, List.getElem_cons_succ, List.setIfInBounds_toArray, List.set_cons_zero, List.set_cons_succ]
      refine kr_one 16 (by kernel_rfl) rfl (by rfl) (fun K hK => ?_)
      have k16 := pc_str (c := c15) P15.out
      go_simp
      clear k16
      refine hK.out _ _ ⟨.inr (X5.out _ ((Fr.refl _ w12).drew.then' F15.out)), .inr (P12.out.fr ((Fr.refl _ w12).drew.then' F15.out)), .inl (by kernel_rfl), .inl (by kernel_rfl), .inl (by kernel_rfl), .inl (by kernel_rfl), .inl (by kernel_rfl), .inl (by kernel_rfl), trivial⟩ ?_
      clear hK K
      try simp only [Act.put, List.getElem_toArray, List.getElem_cons_zero, List.getElem_cons_succ, List.setIfInBounds_toArray, List.set_cons_zero, List.set_cons_succ]
      refine kr_find 17 rfl (by kernel_rfl) (by kernel_rfl) (by kernel_rfl) (fun _ _ _ _ h => h) (by rfl) trivial ?_
      apply Exists.intro; apply And.intro
      · intro w' hS K hK
        clear hS
        go_light
        go_simp
        exact hK.out
      try simp only [Act.put, List.getElem_toArray, List.getElem_cons_zero, List.getElem_cons_succ, List.setIfInBounds_toArray, List.set_cons_zero, List.set_cons_succ]
      refine kr_find 18 rfl (by kernel_rfl) (by kernel_rfl) (by kernel_rfl) (fun _ _ _ _ h => h) (by rfl) trivial ?_
      apply Exists.intro; apply And.intro
      · intro w' hS K hK
        clear hS
        go_light
        go_simp
        exact hK.out
      try simp only [Act.put, List.getElem_toArray, List.getElem_cons_zero, List.getElem_cons_succ, List.setIfInBounds_toArray, List.set_cons_zero, List.set_cons_succ]
      refine kr_find 19 rfl (by kernel_rfl) (by kernel_rfl) (by kernel_rfl) (fun _ _ _ _ h => h) (by rfl) trivial ?_
      apply Exists.intro; apply And.intro
      · intro w' hS K hK
        clear hS
        go_light
        go_simp
        exact hK.out
      try simp only [Act.put, List.getElem_toArray, List.getElem_cons_zero, List.getElem_cons_succ, List.setIfInBounds_toArray, List.set_cons_zero, List.set_cons_succ]
      refine kr_find 20 rfl (by kernel_rfl) (by kernel_rfl) (by kernel_rfl) (fun _ _ _ _ h => h) (by rfl) trivial ?_
      apply Exists.intro; apply And.intro
      · intro w' hS K hK
        clear hS
        go_light
        go_simp
        exact hK.out
      try simp only [Act.put, List.getElem_toArray, List.getElem_cons_zero, List.getElem_cons_succ, List.setIfInBounds_toArray, List.set_cons_zero, List.set_cons_succ]
      refine kr_take 21 rfl (by kernel_rfl) (by kernel_rfl) (by kernel_rfl) (fun _ _ _ h => h) (yieldsIf_load_mid (by rfl) 45 _ rfl qi 0 rfl [.int .u8 p.s0, .int .u8 p.s1, .int .u8 p.s2, .int .u8 p.s3] _ (fun _ h => h) Try.underlying45 rfl (by kernel_rfl)) (show _ from (RQ.out _ ((Fr.refl _ w12).drew.then' F15.out)).1) ?_
      try simp only [Act.put, List.getElem_toArray, List.getElem_cons_zero, List.getElem_cons_succ, List.setIfInBounds_toArray, List.set_cons_zero, List.set_cons_succ]
      refine kr_find 22 rfl (by kernel_rfl) (by kernel_rfl) (by kernel_rfl) (fun _ _ _ _ h => h) (by rfl) trivial ?_
      apply Exists.intro; apply And.intro
      · intro w' hS K hK
        clear hS
        go_light
        go_simp
        exact hK.out
      try simp only [Act.put, List.getElem_toArray, List.getElem_cons_zero, List.getElem_cons_succ, List.setIfInBounds_toArray, List.set_cons_zero, List.set_cons_succ]
      refine kr_take 23 rfl (by kernel_rfl) (by kernel_rfl) (by kernel_rfl) (fun _ _ _ h => h) (yieldsIf_load_mid (by rfl) 45 _ rfl w.heap.size 0 rfl [.int .u8 p.s0, .int .u8 p.s1, .int .u8 p.s2, .int .u8 p.s3] _ (fun _ h => h) Try.underlying45 rfl (by kernel_rfl)) (show _ from (RQ.out _ ((Fr.refl _ w12).drew.then' F15.out)).2.2.1) ?_
      try simp only [Act.put, List.getElem_toArray, List.getElem_cons_zero, List.getElem_cons_succ, List.setIfInBounds_toArray, List.set_cons_zero, List.set_cons_succ]
      refine kr_take 24 rfl (by kernel_rfl) (by kernel_rfl) (by kernel_rfl) (fun _ _ _ h => h) (kr_bin_agg (by rfl) .neq 45 45 _ _ rfl rfl rfl (by kernel_rfl) (.bool false) (fun w => neq_src HPK.out w)) trivial ?_
      try simp only [Act.put, List.getElem_toArray, List.getElem_cons_zero, List.getElem_cons_succ, List.setIfInBounds_toArray, List.set_cons_zero, List.set_cons_succ]
      refine kr_find 25 rfl (by kernel_rfl) (by kernel_rfl) (by kernel_rfl) (fun _ _ _ _ h => h) (by rfl) trivial ?_
      apply Exists.intro; apply And.intro
      · intro w' hS K hK
        clear hS
        go_light
        go_simp
        exact hK.out
      try simp only [Act.put, List.getElem_toArray, List.getElem_cons_zero, List.getElem_cons_succ, List.setIfInBounds_toArray, List.set_cons_zero, List.set_cons_succ]
      refine kr_find 26 rfl (by kernel_rfl) (by kernel_rfl) (by kernel_rfl) (fun _ _ _ _ h => h) (by rfl) trivial ?_
      apply Exists.intro; apply And.intro
      · intro w' hS K hK
        clear hS
        go_light
        go_simp
        exact hK.out
      try simp only [Act.put, List.getElem_toArray, List.getElem_cons_zero, List.getElem_cons_succ, List.setIfInBounds_toArray, List.set_cons_zero, List.set_cons_succ]
      refine kr_find 27 rfl (by kernel_rfl) (by kernel_rfl) (by kernel_rfl) (fun _ _ _ _ h => h) (by rfl) trivial ?_
      apply Exists.intro; apply And.intro
      · intro w' hS K hK
        clear hS
        go_light
        go_simp
        exact hK.out
      try simp only [Act.put, List.getElem_toArray, List.getElem_cons_zero, List.getElem_cons_succ, List.setIfInBounds_toArray, List.set_cons_zero, List.set_cons_succ]
      refine kr_take 28 rfl (by kernel_rfl) (by kernel_rfl) (by kernel_rfl) (fun _ _ _ h => h) (yieldsIf_load_mid (by rfl) 45 _ rfl qi 4 rfl [.int .u8 p.d0, .int .u8 p.d1, .int .u8 p.d2, .int .u8 p.d3] _ (fun _ h => h) Try.underlying45 rfl (by kernel_rfl)) (show _ from (RQ.out _ ((Fr.refl _ w12).drew.then' F15.out)).2.1) ?_
      try simp only [Act.put, List.getElem_toArray, List.getElem_cons_zero, List.getElem_cons_succ, List.setIfInBounds_toArray, List.set_cons_zero, List.set_cons_succ]
      refine kr_find 29 rfl (by kernel_rfl) (by kernel_rfl) (by kernel_rfl) (fun _ _ _ _ h => h) (by rfl) trivial ?_
      apply Exists.intro; apply And.intro
      · intro w' hS K hK
        clear hS
        go_light
        go_simp
        exact hK.out
      try simp only [Act.put, List.getElem_toArray, List.getElem_cons_zero, List.getElem_cons_succ, List.setIfInBounds_toArray, List.set_cons_zero, List.set_cons_succ]
      refine kr_take 30 rfl (by kernel_rfl) (by kernel_rfl) (by kernel_rfl) (fun _ _ _ h => h) (yieldsIf_load_mid (by rfl) 45 _ rfl w.heap.size 4 rfl [.int .u8 p.d0, .int .u8 p.d1, .int .u8 p.d2, .int .u8 p.d3] _ (fun _ h => h) Try.underlying45 rfl (by kernel_rfl)) (show _ from (RQ.out _ ((Fr.refl _ w12).drew.then' F15.out)).2.2.2) ?_
      try simp only [Act.put, List.getElem_toArray, List.getElem_cons_zero, List.getElem_cons_succ, List.setIfInBounds_toArray, List.set_cons_zero, List.set_cons_succ]
      refine kr_take 31 rfl (by kernel_rfl) (by kernel_rfl) (by kernel_rfl) (fun _ _ _ h => h) (kr_bin_agg (by rfl) .neq 45 45 _ _ rfl rfl rfl (by kernel_rfl) (.bool false) (fun w => neq_dst HPK.out w)) trivial ?_
      try simp only [Act.put, List.getElem_toArray, List.getElem_cons_zero, List.getElem_cons_succ, List.setIfInBounds_toArray, List.set_cons_zero, List.set_cons_succ]
      refine kr_find 32 rfl (by kernel_rfl) (by kernel_rfl) (by kernel_rfl) (fun _ _ _ _ h => h) (by rfl) trivial ?_
      apply Exists.intro; apply And.intro
      · intro w' hS K hK
        clear hS
        go_light
        go_simp
        exact hK.out
      try simp only [Act.put, List.getElem_toArray, List.getElem_cons_zero, List.getElem_cons_succ, List.setIfInBounds_toArray, List.set_cons_zero, List.set_cons_succ]
      refine kr_find 33 rfl (by kernel_rfl) (by kernel_rfl) (by kernel_rfl) (fun _ _ _ _ h => h) (by rfl) trivial ?_
      apply Exists.intro; apply And.intro
      · intro w' hS K hK
        clear hS
        go_light
        go_simp
        exact hK.out
      try simp only [Act.put, List.getElem_toArray, List.getElem_cons_zero, List.getElem_cons_succ, List.setIfInBounds_toArray, List.set_cons_zero, List.set_cons_succ]
      refine kr_find 34 rfl (by kernel_rfl) (by kernel_rfl) (by kernel_rfl) (fun _ _ _ _ h => h) (by rfl) trivial ?_
      apply Exists.intro; apply And.intro
      · intro w' hS K hK
        clear hS
        go_light
        go_simp
        exact hK.out
      try simp only [Act.put, List.getElem_toArray, List.getElem_cons_zero, List.getElem_cons_succ, List.setIfInBounds_toArray, List.set_cons_zero, List.set_cons_succ]
      refine kr_find 35 rfl (by kernel_rfl) (by kernel_rfl) (by kernel_rfl) (fun _ _ _ _ h => h) (by rfl) (show _ from (RP.out _ ((Fr.refl _ w12).drew.then' F15.out)).1) ?_
      apply Exists.intro; apply And.intro
      · intro w' hS K hK
        have hS : w'.cell? ⟨qi, 8, none⟩ = some (.int .i64 p.proto) := hS
        go_light
        go_simp
        exact hK.out
      try simp only [Act.put, List.getElem_toArray, List.getElem_cons_zero, List.getElem_cons_succ, List.setIfInBounds_toArray, List.set_cons_zero, List.set_cons_succ]
      refine kr_find 36 rfl (by kernel_rfl) (by kernel_rfl) (by kernel_rfl) (fun _ _ _ _ h => h) (by rfl) trivial ?_
      apply Exists.intro; apply And.intro
      · intro w' hS K hK
        clear hS
        go_light
        go_simp
        exact hK.out
      try simp only [Act.put, List.getElem_toArray, List.getElem_cons_zero, List.getElem_cons_succ, List.setIfInBounds_toArray, List.set_cons_zero, List.set_cons_succ]
      refine kr_find 37 rfl (by kernel_rfl) (by kernel_rfl) (by kernel_rfl) (fun _ _ _ _ h => h) (by rfl) (show _ from (RP.out _ ((Fr.refl _ w12).drew.then' F15.out)).2) ?_
      apply Exists.intro; apply And.intro
      · intro w' hS K hK
        have hS : w'.cell? ⟨w.heap.size, 8, none⟩ = some (.int .i64 p.proto) := hS
        go_light
        go_simp
        exact hK.out
      try simp only [Act.put, List.getElem_toArray, List.getElem_cons_zero, List.getElem_cons_succ, List.setIfInBounds_toArray, List.set_cons_zero, List.set_cons_succ]
      refine kr_find 38 rfl (by kernel_rfl) (by kernel_rfl) (by kernel_rfl) (fun _ _ _ _ h => h) (by rfl) trivial ?_
      apply Exists.intro; apply And.intro
      · intro w' hS K hK
        clear hS
        go_light
        go_simp
        exact hK.out
      try simp only [Act.put, List.getElem_toArray, List.getElem_cons_zero, List.getElem_cons_succ, List.setIfInBounds_toArray, List.set_cons_zero, List.set_cons_succ]
      refine kr_find 39 rfl (by kernel_rfl) (by kernel_rfl) (by kernel_rfl) (fun _ _ _ _ h => h) (by rfl) trivial ?_
      apply Exists.intro; apply And.intro
      · intro w' hS K hK
        clear hS
        go_light
        go_simp
        exact hK.out
      try simp only [Act.put, List.getElem_toArray, List.getElem_cons_zero, List.getElem_cons_succ, List.setIfInBounds_toArray, List.set_cons_zero, List.set_cons_succ]
      refine kr_done (by kernel_rfl) ?_ _
      have q9 := QC.out w15 ((Fr.refl _ w12).drew.then' F15.out) 9 _ rfl
      have q10 := QC.out w15 ((Fr.refl _ w12).drew.then' F15.out) 10 _ rfl
      have q11 := QC.out w15 ((Fr.refl _ w12).drew.then' F15.out) 11 _ rfl
      have qp := (RP.out w15 ((Fr.refl _ w12).drew.then' F15.out)).2
      have HFW := Lib.hid (FW12.out.then' ((Fr.refl _ w12).drew.then' F15.out))
      rcases (by omega : p.proto = 6 ∨ (p.proto ≠ 6 ∧ p.proto = 17) ∨ (p.proto ≠ 6 ∧ p.proto ≠ 17 ∧ p.proto = 1) ∨ (p.proto ≠ 6 ∧ p.proto ≠ 17 ∧ p.proto ≠ 1)) with h6 | ⟨h6, h17⟩ | ⟨h6, h17, h1⟩ | ⟨h6, h17, h1⟩
      · have hlw := quH_6 ⟨HRG.out.1, HRG.out.2.1⟩ ⟨HRG.out.2.2.1, HRG.out.2.2.2⟩ HSQ.out h6
        rw [HQ.out.1, HQ.out.2.1, HQ.out.2.2] at hlw
        obtain ⟨hq1, hq2, hq3⟩ := hlw
        rw [hq1] at q9
        rw [hq2] at q10
        rw [hq3] at q11
        have hp6 : (p.proto == 6) = true := by simp [h6]
        clear h6
        clear hq1 hq2 hq3
        as_aux_lemma =>
        go_wp2_with fail
        go_ret
        exact ⟨rfl, HFW.out⟩
      · have hlw := quH_17 ⟨HRG.out.1, HRG.out.2.1⟩ ⟨HRG.out.2.2.1, HRG.out.2.2.2⟩ HSQ.out h17
        rw [HQ.out.1, HQ.out.2.1, HQ.out.2.2] at hlw
        obtain ⟨hq1, hq2, hq3⟩ := hlw
        rw [hq1] at q9
        rw [hq2] at q10
        rw [hq3] at q11
        have hp6 : (p.proto == 6) = false := by simp [h6]
        have hp17 : (p.proto == 17) = true := by simp [h17]
        clear h6 h17
        clear hq1 hq2 hq3
        as_aux_lemma =>
        go_wp2_with fail
        go_ret
        exact ⟨rfl, HFW.out⟩
      · have hlw := quH_1 ⟨HRG.out.1, HRG.out.2.1⟩ ⟨HRG.out.2.2.1, HRG.out.2.2.2⟩ HSQ.out h1
        rw [HQ.out.1, HQ.out.2.1, HQ.out.2.2] at hlw
        obtain ⟨hq1, hq2, hq3⟩ := hlw
        rw [hq1] at q9
        rw [hq2] at q10
        rw [hq3] at q11
        have hp6 : (p.proto == 6) = false := by simp [h6]
        have hp17 : (p.proto == 17) = false := by simp [h17]
        have hp1 : (p.proto == 1) = true := by simp [h1]
        clear h6 h17 h1
        clear hq1 hq2 hq3
        as_aux_lemma =>
        go_wp2_with fail
        go_ret
        exact ⟨rfl, HFW.out⟩
      · have hlw := quH_no (p := p) (h := hB fr tt seq) h6 h17 h1
        rw [HQ.out.1, HQ.out.2.1, HQ.out.2.2] at hlw
        obtain ⟨hq1, hq2, hq3⟩ := hlw
        rw [hq1] at q9
        rw [hq2] at q10
        rw [hq3] at q11
        have hp6 : (p.proto == 6) = false := by simp [h6]
        have hp17 : (p.proto == 17) = false := by simp [h17]
        have hp1 : (p.proto == 1) = false := by simp [h1]
        clear h6 h17 h1
        clear hq1 hq2 hq3
        as_aux_lemma =>
        go_wp2_with fail
        go_ret
        exact ⟨rfl, HFW.out⟩
    · have hsp : fr < 0 ∨ (¬ fr < 0 ∧ (65535 < fr ∨ (¬ 65535 < fr ∧ (tt < 0 ∨ (¬ tt < 0 ∧ 65535 < tt))))) := by omega
      have HFF := Lib.hid (FB.out.then' ((F2.out.then' F4.out).then' F5.out))
      rcases hsp with h1 | ⟨h1, h2 | ⟨h2, h3 | ⟨h3, h4⟩⟩⟩
      all_goals
        as_aux_lemma =>
        go_wp2_with fail
        go_ret
        exact ⟨rfl, HFF.out⟩
end Go.Proofs.Ytcfadmjihccimaa
