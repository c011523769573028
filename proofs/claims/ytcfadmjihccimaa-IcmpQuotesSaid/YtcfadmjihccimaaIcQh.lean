/- IcmpQuotes: its walk. No condition but the form's sizes. -/
import Derived.Test.YtcfadmjihccimaaIcQg
import Derived.Test.YtcfadmjihccimaaKx
namespace Go.Proofs.Ytcfadmjihccimaa
set_option linter.unusedVariables false
set_option linter.unusedSimpArgs false
open Go.RowKit
theorem fr_nilq {w w' : World} (h : Fr (fun i => (Value.slice none 0 0).ownBlock = some i) w w') : Fr (fun _ => False) w w' := h.mono (fun i _ e => by cases e)
theorem isB_take {l : List Int} (h : isB l) (k : Nat) : isB (l.take k) := fun x hx => h x (List.mem_of_mem_take hx)
set_option maxHeartbeats 16000000 in
set_option maxRecDepth 100000 in
theorem quotes6 (A : Option Addr) (n c : Nat) (l : List Int) (B : Option Addr) (nb cb : Nat) (lb : List Int) (w : World) (P : Pc w A n l) (hnc : n ≤ c) (hcm : c ≤ maxLen) (PB : Pc w B nb lb) (hcb : nb ≤ cb) :
    Calls Try.prog 6 #[.slice A n c, .slice B nb cb] w fun e w' => e = .returned (.bool true) ∧ Fr (fun _ => False) w w' := by
  have HP := Lib.hid P
  have HPB := Lib.hid PB
  have HCB := Lib.hid hcb
  have HCA := Lib.hid (And.intro hnc hcm)
  have htd := P.top
  have htb := PB.top
  clear P PB hcb hnc hcm
  have FA := Lib.hid (Fr.refl (fun _ => False) w)
  go_enter Try.func6, Try.ntmps6
  go_upto_region 2 with (go_at_call 11; refine (awake11 w).mono ?_; rintro e w2 ⟨rfl, f2⟩; have F2 := Lib.hid f2; clear f2)
  have P2 := Lib.hid (HP.out.fr F2.out)
  go_upto_region 3 with (at_builtin; refine wpList_appN _ rfl _ _ rfl w2.heap.size _ [] (by exact rfl) (OwnB.nil _ _) w2.heap.size A n c l P2.out.len (by exact rfl) P2.out.here (by simp; omega) (Nat.le_refl _) ?_; intro v3 w3 o3 f3; have O3 := Lib.hid (show OwnB w2.heap.size w3 v3 l by simpa using o3); have F3 := Lib.hid (fr_nilq f3); clear o3 f3)
  obtain ⟨A3, c3, rfl, hb3, hn3, hm3⟩ := O3.out.cap HP.out.len
  have P3 := Lib.hid (OwnB.pc O3.out HP.out.len HP.out.ok htd).1
  have H3 := Lib.hid (And.intro hn3 hm3)
  clear hb3 hn3 hm3
  obtain ⟨k, hk⟩ : ∃ k, (l.take (qn l n)).length = k := ⟨_, rfl⟩
  have HK := Lib.hid hk
  have hkt : k ≤ 140737488355328 := by rw [← hk, List.length_take, HP.out.len]; omega
  clear hk
  obtain ⟨lx, hlx⟩ : ∃ lx, l.take (qn l n) = lx := ⟨_, rfl⟩
  have HLX := Lib.hid (show isB lx from hlx ▸ isB_take HP.out.ok _)
  have HEX := Lib.hid hlx
  rw [hlx] at HK
  clear hlx
  go_upto_region 4 with (go_at_call 23; refine (quoting23 A3 n c3 l w3 P3.out H3.out.1 H3.out.2).mono ?_; rw [HEX.out]; rintro e w4 ⟨v4, rfl, o4, f4⟩; have O4 := Lib.hid o4; have F4 := Lib.hid f4; clear o4 f4)
  obtain ⟨A4, c4, rfl, hb4, hn4, hm4⟩ := O4.out.cap HK.out
  clear hb4 hn4 hm4
  have P4 := Lib.hid (HP.out.fr (F2.out.then' (F3.out.then' F4.out)))
  go_upto_region 5 with (go_at_call 24; refine (rquoting24 A n c l w4 P4.out HCA.out.1 HCA.out.2).mono ?_; rw [HEX.out]; rintro e w5 ⟨A5, k5, c5, rfl, p5, _, _, hw5⟩; have hw5 := hw5.symm; subst hw5; have P5 := Lib.hid p5; clear p5)
  obtain rfl : k = k5 := by rw [← HK.out, P5.out.len]
  have k1 := pc_str (c := c4) (OwnB.pc O4.out HK.out HLX.out hkt).1
  have k2 := pc_str (c := c5) P5.out
  go_upto_region 6 with (fail)
  clear k1 k2
  as_aux_lemma =>
  go_wp2_with fail
  go_loopw [10] (fun v wr => ∃ i : Nat, v = .int .i64 i ∧ i ≤ k ∧ ∃ l' : List Int, l'.length = k ∧ OwnB w3.heap.size wr (.slice A4 k c4) l' ∧ Fr (fun i => (Value.slice A4 k c4).ownBlock = some i) w4 wr) (fun v _ => k - (intOf v).toNat)
  case atStart => exact ⟨0, rfl, Nat.zero_le _, lx, HK.out, O4.out, Fr.refl _ _⟩
  case round =>
    obtain ⟨i, rfl, hi, l', hl', ho', hf'⟩ := hrel
    by_cases hlt : i < k
    · as_aux_lemma =>
      obtain ⟨g, cc, hv, hg1, hg2⟩ := ho'.form hl' (by omega)
      injection hv with hv1 _ hv2
      subst hv1; subst hv2
      obtain ⟨x, hx⟩ : ∃ x, l'[i]? = some x := ⟨_, List.getElem?_eq_getElem (by omega)⟩
      obtain ⟨cx, fx⟩ := ho'.cell hx
      have HO := Lib.hid ho'
      have HF := Lib.hid hf'
      have HL := Lib.hid hl'
      clear ho' hf' hl' hx
      go_wp2_with fail
      go_roundw
      case rel => exact ⟨i + 1, by go_num, by omega, _, by rw [List.length_set]; exact HL.out, (HO.out.set i _).1, HF.out.setCell _ _ (fun _ => rfl)⟩
      case measure => simp [intOf]; omega
    · as_aux_lemma =>
      have hxl := fun k' (e : (Value.slice A4 k c4).ownBlock = some k') => World.ownsRow.lt O4.out k' e
      have z2 := F2.out.size
      have z3 := F3.out.size
      have FW := Lib.hid ((F2.out.then' (F3.out.then' F4.out)).trans hf' (fun i hi e => by have h1 := hxl _ e; omega))
      have O3r := Lib.hid ((O3.out.fr0 F4.out).fr hf' (fun k' hk' e => by have h1 := hxl k' e; have h2 := (World.ownsRow.lt O3.out k' hk').2; omega))
      obtain ⟨w6, hw6⟩ : ∃ x, x = wr := ⟨_, rfl⟩
      subst hw6
      clear hxl ho' hf' hl'
      have PB6 := Lib.hid (HPB.out.fr FW.out)
      have HQ := Lib.hid (quT_ok HPB.out.ok)
      obtain ⟨t, ht⟩ : ∃ t, quT lb = t := ⟨_, rfl⟩
      obtain ⟨qe, hqe⟩ : ∃ qe, quE lb = qe := ⟨_, rfl⟩
      have HT := Lib.hid (And.intro ht hqe)
      rw [ht] at HQ
      clear ht hqe
      go_upto_region 11 with (go_at_call 25; refine (quoted_any B nb cb lb w6 HCB.out PB6.out).mono ?_; unfold QuPost; rw [HT.out.1, HT.out.2]; rintro e w7 ⟨rfl, f7⟩; have F7 := Lib.hid f7; clear f7)
      have FB := heap_alloc_new w7 (.cells #[.int .u8 t.s0, .int .u8 t.s1, .int .u8 t.s2, .int .u8 t.s3, .int .u8 t.d0, .int .u8 t.d1, .int .u8 t.d2, .int .u8 t.d3, .int .i64 t.p, .int .i64 t.a, .int .i64 t.b, .int .u32 t.q] 53)
      have F8 := Lib.hid ((Fr.refl (fun _ => False) w7).alloc (.cells #[.int .u8 t.s0, .int .u8 t.s1, .int .u8 t.s2, .int .u8 t.s3, .int .u8 t.d0, .int .u8 t.d1, .int .u8 t.d2, .int .u8 t.d3, .int .i64 t.p, .int .i64 t.a, .int .i64 t.b, .int .u32 t.q] 53))
      have RA := Lib.hid FB
      clear FB
      generalize w7.alloc (.cells #[.int .u8 t.s0, .int .u8 t.s1, .int .u8 t.s2, .int .u8 t.s3, .int .u8 t.d0, .int .u8 t.d1, .int .u8 t.d2, .int .u8 t.d3, .int .i64 t.p, .int .i64 t.a, .int .i64 t.b, .int .u32 t.q] 53) = w8 at RA F8 ⊢
      have PB8 := Lib.hid (PB6.out.fr (F7.out.then' F8.out))
      go_upto_region 12 with (go_at_call 26; refine (rquoted_any B nb cb lb w8 HCB.out PB8.out).mono ?_; unfold QuPost; rw [HT.out.1, HT.out.2]; rintro e w9 ⟨rfl, f9⟩; have F9 := Lib.hid f9; clear f9)
      have FB := heap_alloc_new w9 (.cells #[.int .u8 t.s0, .int .u8 t.s1, .int .u8 t.s2, .int .u8 t.s3, .int .u8 t.d0, .int .u8 t.d1, .int .u8 t.d2, .int .u8 t.d3, .int .i64 t.p, .int .i64 t.a, .int .i64 t.b, .int .u32 t.q] 53)
      have F10 := Lib.hid ((Fr.refl (fun _ => False) w9).alloc (.cells #[.int .u8 t.s0, .int .u8 t.s1, .int .u8 t.s2, .int .u8 t.s3, .int .u8 t.d0, .int .u8 t.d1, .int .u8 t.d2, .int .u8 t.d3, .int .i64 t.p, .int .i64 t.a, .int .i64 t.b, .int .u32 t.q] 53))
      have RB := Lib.hid FB
      clear FB
      generalize w9.alloc (.cells #[.int .u8 t.s0, .int .u8 t.s1, .int .u8 t.s2, .int .u8 t.s3, .int .u8 t.d0, .int .u8 t.d1, .int .u8 t.d2, .int .u8 t.d3, .int .i64 t.p, .int .i64 t.a, .int .i64 t.b, .int .u32 t.q] 53) = w10 at RB F10 ⊢
      have F610 := Lib.hid ((F7.out.then' F8.out).then' (F9.out.then' F10.out))
      have k1 := pc_str (c := c3) (OwnB.pc (O3r.out.fr0 F610.out) HP.out.len HP.out.ok htd).1
      have k2 := pc_str (c := c) (HP.out.fr (FW.out.then' F610.out))
      have RX := Lib.hid (show w10.rangeAt w7.heap.size 0 [.int .u8 t.s0, .int .u8 t.s1, .int .u8 t.s2, .int .u8 t.s3, .int .u8 t.d0, .int .u8 t.d1, .int .u8 t.d2, .int .u8 t.d3, .int .i64 t.p, .int .i64 t.a, .int .i64 t.b, .int .u32 t.q] from fun j v hj => by rw [Nat.zero_add, cell_of_row _ _ j _ 53 (0, 0) (((F9.out.then' F10.out).block _ (lt_of_block RA.out) (fun e => e)).trans RA.out)]; simpa using hj)
      have RY := Lib.hid (show w10.rangeAt w9.heap.size 0 [.int .u8 t.s0, .int .u8 t.s1, .int .u8 t.s2, .int .u8 t.s3, .int .u8 t.d0, .int .u8 t.d1, .int .u8 t.d2, .int .u8 t.d3, .int .i64 t.p, .int .i64 t.a, .int .i64 t.b, .int .u32 t.q] from fun j v hj => by rw [Nat.zero_add, cell_of_row _ _ j _ 53 (0, 0) RB.out]; simpa using hj)
      have HFW := Lib.hid (FW.out.then' F610.out)
      iterate 60 (first
        | (have := M2; clear this)
        | (refine wpList_load_when (by rfl) 53 _ rfl w7.heap.size 0 rfl [.int .u8 t.s0, .int .u8 t.s1, .int .u8 t.s2, .int .u8 t.s3, .int .u8 t.d0, .int .u8 t.d1, .int .u8 t.d2, .int .u8 t.d3, .int .i64 t.p, .int .i64 t.a, .int .i64 t.b, .int .u32 t.q] _ RX.out Try.underlying53 rfl (by kernel_rfl) ?_; refine wpList_load_when (by rfl) 53 _ rfl w9.heap.size 0 rfl [.int .u8 t.s0, .int .u8 t.s1, .int .u8 t.s2, .int .u8 t.s3, .int .u8 t.d0, .int .u8 t.d1, .int .u8 t.d2, .int .u8 t.d3, .int .i64 t.p, .int .i64 t.a, .int .i64 t.b, .int .u32 t.q] _ RY.out Try.underlying53 rfl (by kernel_rfl) ?_; refine wpList_bin_agg (by rfl) .eql 53 _ _ _ rfl rfl rfl (by kernel_rfl) _ (eql53 HQ.out w10) ?_; have M2 := Lib.hid True.intro)
        | go_step)
      go_wp2_with fail
      go_ret
      exact ⟨rfl, HFW.out⟩
end Go.Proofs.Ytcfadmjihccimaa
