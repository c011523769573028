/- The walk of packhorselaw07.EtherBack. No condition but lengths. -/
import Derived.Test.YtmonaaappimphaaEtV
import Derived.BigQuiet
namespace Go.Proofs.Ytmonaaappimphaa
set_option linter.unusedVariables false
open Go.RowKit

theorem cut_row {w w' : World} {b : Nat} {vs : List Value} {t : TypeId} (h : w.heap[b]? = some (.cells vs.toArray t)) (k : Fr (fun _ => False) w w') (hb : b < w.heap.size) : w'.rangeAt b 0 vs := fun j v hj => by
  rw [Nat.zero_add]
  exact cells_at w' b vs t ((k.block b hb (fun e => e)).trans h) j v hj

theorem wpQuiet_load_mid {P : Program} {ops : Array Oper} {C : World → Prop} {Q : Act → Prop} {a : Act} {op : Oper} {rest : List Oper} (hw : Region.wanted op (yielded ops a.tmps) = true) (ty : TypeId) (x : Operand) (ho : op.op = .load ty x)
    (b o : Nat) (hx : a.eval x = .pointer (some ⟨b, o, none⟩)) (cs : List Value) (d : TypeDesc) (hS : ∀ w, C w → w.rangeAt b o cs)
    (hu : P.underlying ty = some d) (hd : d.isRow = true) (hi : (P.info? ty).map (·.size) = some cs.length) (h : wpQuiet P ops C Q rest (a.put op.dst (.agg cs.toArray))) : wpQuiet P ops C Q (op :: rest) a :=
  BigFrame.wpQuiet_want hw fun K hK => ⟨.agg cs.toArray, fun w hc => by
    unfold Oper.quietAt execOp
    simp only [ho, hx, Instr.loadAt, Instr.sureAddr, Sem.run_bind, Sem.run_pure, Result.andThen_ok, run_loadVar_mid w b o ty cs d (hS w hc) hu hd hi]
    exact ⟨rfl, rfl⟩, hK _ h⟩

set_option maxHeartbeats 8000000 in
set_option maxRecDepth 100000 in
theorem etherback5 (f : Fh) (A : Option Addr) (nb cap : Nat) (b : List Int) (A2 : Option Addr) (nr cr : Nat) (l : List Int) (w : World) (hf : f.ok) (P : Pc w A nb b) (hcp : nb ≤ cap) (hct : cap ≤ 140737488351232) (R : Pc w A2 nr l) (hcr : nr ≤ cr) (hrt : cr ≤ 140737488351232) :
    Calls Try.prog 5 #[.agg #[.int .u8 f.dst.a, .int .u8 f.dst.b, .int .u8 f.dst.c, .int .u8 f.dst.d, .int .u8 f.dst.e, .int .u8 f.dst.f, .int .u8 f.src.a, .int .u8 f.src.b, .int .u8 f.src.c, .int .u8 f.src.d, .int .u8 f.src.e, .int .u8 f.src.f, .bool f.tag, .int .i64 f.vlan, .int .i64 f.prio, .int .i64 f.ty], .slice A nb cap, .slice A2 nr cr] w fun e w' => e = .returned (.bool true) ∧ Fr (fun _ => False) w w' := by
  have HP := Lib.hid P
  have HR := Lib.hid R
  have HF := Lib.hid hf
  clear P R hf
  have FA := Lib.hid (Fr.refl (fun _ => False) w)
  go_enter Try.func5, Try.ntmps5
  go_upto_region 1 with (fail)
  have HG := Lib.hid (heap_alloc_new w (.cells #[.int .u8 f.dst.a, .int .u8 f.dst.b, .int .u8 f.dst.c, .int .u8 f.dst.d, .int .u8 f.dst.e, .int .u8 f.dst.f, .int .u8 f.src.a, .int .u8 f.src.b, .int .u8 f.src.c, .int .u8 f.src.d, .int .u8 f.src.e, .int .u8 f.src.f, .bool f.tag, .int .i64 f.vlan, .int .i64 f.prio, .int .i64 f.ty] 25))
  have FB := Lib.hid (FA.out.alloc (.cells #[.int .u8 f.dst.a, .int .u8 f.dst.b, .int .u8 f.dst.c, .int .u8 f.dst.d, .int .u8 f.dst.e, .int .u8 f.dst.f, .int .u8 f.src.a, .int .u8 f.src.b, .int .u8 f.src.c, .int .u8 f.src.d, .int .u8 f.src.e, .int .u8 f.src.f, .bool f.tag, .int .i64 f.vlan, .int .i64 f.prio, .int .i64 f.ty] 25))
  have HZ := Lib.hid (show w.heap.size < (w.alloc (.cells #[.int .u8 f.dst.a, .int .u8 f.dst.b, .int .u8 f.dst.c, .int .u8 f.dst.d, .int .u8 f.dst.e, .int .u8 f.dst.f, .int .u8 f.src.a, .int .u8 f.src.b, .int .u8 f.src.c, .int .u8 f.src.d, .int .u8 f.src.e, .int .u8 f.src.f, .bool f.tag, .int .i64 f.vlan, .int .i64 f.prio, .int .i64 f.ty] 25)).heap.size by simp)
  generalize w.alloc (.cells #[.int .u8 f.dst.a, .int .u8 f.dst.b, .int .u8 f.dst.c, .int .u8 f.dst.d, .int .u8 f.dst.e, .int .u8 f.dst.f, .int .u8 f.src.a, .int .u8 f.src.b, .int .u8 f.src.c, .int .u8 f.src.d, .int .u8 f.src.e, .int .u8 f.src.f, .bool f.tag, .int .i64 f.vlan, .int .i64 f.prio, .int .i64 f.ty] 25) = w1 at HG HZ FB ⊢
  go_upto_region 2 with (go_at_call 12; refine (awake12 _).mono ?_; rintro e w2 ⟨rfl, f2⟩; have F2 := Lib.hid f2; clear f2)
  have HL := Lib.hid (fun w' k => cut_row (w := w1) (w' := w') (vs := [.int .u8 f.dst.a, .int .u8 f.dst.b, .int .u8 f.dst.c, .int .u8 f.dst.d, .int .u8 f.dst.e, .int .u8 f.dst.f, .int .u8 f.src.a, .int .u8 f.src.b, .int .u8 f.src.c, .int .u8 f.src.d, .int .u8 f.src.e, .int .u8 f.src.f, .bool f.tag, .int .i64 f.vlan, .int .i64 f.prio, .int .i64 f.ty]) HG.out (F2.out.then k) HZ.out)
  have FW2 := Lib.hid (FB.out.then F2.out)
  have P2 := Lib.hid (HP.out.fr FW2.out)
  obtain ⟨k, hk⟩ : ∃ k, encK f b = k := ⟨_, rfl⟩
  have HK := Lib.hid hk
  clear hk
  go_step
  refine wpList_load_mid rfl 25 _ rfl w.heap.size 0 rfl [.int .u8 f.dst.a, .int .u8 f.dst.b, .int .u8 f.dst.c, .int .u8 f.dst.d, .int .u8 f.dst.e, .int .u8 f.dst.f, .int .u8 f.src.a, .int .u8 f.src.b, .int .u8 f.src.c, .int .u8 f.src.d, .int .u8 f.src.e, .int .u8 f.src.f, .bool f.tag, .int .i64 f.vlan, .int .i64 f.prio, .int .i64 f.ty] _ (HL.out _ (Fr.refl _ w2)) Try.underlying25 rfl (by kernel_rfl) ?_
  go_upto_if 27 with (go_at_call 13; refine (encode_any f A nb cap b _ P2.out).mono ?_; rw [HK.out]; rintro e w3 ⟨v, rfl, o3, f3⟩; have F3 := Lib.hid f3; have O3 := Lib.hid o3; clear o3 f3)
  go_cut [13] (fun v13 wc => Fr (fun _ => False) w wc)
  case first =>
    have FW3 := Lib.hid (FW2.out.then F3.out)
    by_cases hk0 : k = 0
    · subst hk0
      have hen := encK_zero HK.out
      obtain ⟨N, hN⟩ : ∃ N, (f.pad b).length = N := ⟨_, rfl⟩
      have hpl := pad_len f b
      have htl := tl_len f
      have hpb := HP.out.len
      have hN60 : 60 ≤ N ∧ N ≤ 300 := by omega
      have hM : nb + (14 + f.tl.length) ≤ N := by omega
      have o3 : OwnB w2.heap.size w3 v (f.pad b) := by have := O3.out; unfold encL at this; rwa [if_pos HK.out] at this
      obtain ⟨gx, cx, rfl, hx0, hx1⟩ := o3.form hN (by omega)
      have hNc : N ≤ cx := by
        obtain ⟨A', c', hv, _, h, _⟩ := o3.cap hN
        cases hv
        exact h
      have P3 : Pc w3 (some ⟨gx, 0, none⟩) N (f.pad b) := ⟨hN, isB_pad HF.out HP.out.ok, by omega, by
        obtain ⟨A', c', hv, h⟩ := o3.viewN hN
        cases hv
        exact h⟩
      have P3 := Lib.hid P3
      have HD := Lib.hid (dec_of_enc HK.out)
      have hML : (b ++ List.replicate (60 - (f.enc b).length) 0).length = N - (14 + f.tl.length) := by
        have := pad_drop f b
        rw [← this, List.length_drop, hN]
      obtain ⟨M, hMe⟩ : ∃ M, N - (14 + f.tl.length) = M := ⟨_, rfl⟩
      rw [hMe] at hML
      have hMn : nb ≤ M := by omega
      have hM0 : 0 < M ∧ M ≤ 300 := by omega
      have HML := Lib.hid hML
      clear hML hMe hM hpl htl hpb hen o3 O3 HK
      have HN := Lib.hid hN
      clear hN
      go_upto_region 5 with (go_at_call 15; refine (decode_any (some ⟨gx, 0, none⟩) N cx (f.pad b) _ hNc P3.out f HD.out.2.1).mono ?_; rw [HD.out.1, HD.out.2.2]; rintro e w4 ⟨v4, rfl, o4, f4⟩; obtain ⟨gy, cy, rfl, hy0, hy1⟩ := o4.form HML.out hM0.1; have O4 := Lib.hid o4; have F4 := Lib.hid f4; clear o4 f4)
      have FW5 := Lib.hid ((FW3.out.then F4.out).alloc (.cells #[.int .u8 f.dst.a, .int .u8 f.dst.b, .int .u8 f.dst.c, .int .u8 f.dst.d, .int .u8 f.dst.e, .int .u8 f.dst.f, .int .u8 f.src.a, .int .u8 f.src.b, .int .u8 f.src.c, .int .u8 f.src.d, .int .u8 f.src.e, .int .u8 f.src.f, .bool f.tag, .int .i64 f.vlan, .int .i64 f.prio, .int .i64 f.ty] 25))
      have q10 := heap_alloc_new w4 (.cells #[.int .u8 f.dst.a, .int .u8 f.dst.b, .int .u8 f.dst.c, .int .u8 f.dst.d, .int .u8 f.dst.e, .int .u8 f.dst.f, .int .u8 f.src.a, .int .u8 f.src.b, .int .u8 f.src.c, .int .u8 f.src.d, .int .u8 f.src.e, .int .u8 f.src.f, .bool f.tag, .int .i64 f.vlan, .int .i64 f.prio, .int .i64 f.ty] 25)
      have q10s : w4.heap.size < (w4.alloc (.cells #[.int .u8 f.dst.a, .int .u8 f.dst.b, .int .u8 f.dst.c, .int .u8 f.dst.d, .int .u8 f.dst.e, .int .u8 f.dst.f, .int .u8 f.src.a, .int .u8 f.src.b, .int .u8 f.src.c, .int .u8 f.src.d, .int .u8 f.src.e, .int .u8 f.src.f, .bool f.tag, .int .i64 f.vlan, .int .i64 f.prio, .int .i64 f.ty] 25)).heap.size := by simp
      have F45 := Lib.hid ((Fr.refl (fun _ => False) w4).alloc (.cells #[.int .u8 f.dst.a, .int .u8 f.dst.b, .int .u8 f.dst.c, .int .u8 f.dst.d, .int .u8 f.dst.e, .int .u8 f.dst.f, .int .u8 f.src.a, .int .u8 f.src.b, .int .u8 f.src.c, .int .u8 f.src.d, .int .u8 f.src.e, .int .u8 f.src.f, .bool f.tag, .int .i64 f.vlan, .int .i64 f.prio, .int .i64 f.ty] 25))
      generalize w4.alloc (.cells #[.int .u8 f.dst.a, .int .u8 f.dst.b, .int .u8 f.dst.c, .int .u8 f.dst.d, .int .u8 f.dst.e, .int .u8 f.dst.f, .int .u8 f.src.a, .int .u8 f.src.b, .int .u8 f.src.c, .int .u8 f.src.d, .int .u8 f.src.e, .int .u8 f.src.f, .bool f.tag, .int .i64 f.vlan, .int .i64 f.prio, .int .i64 f.ty] 25) = w5 at FW5 F45 q10 q10s ⊢
      have hl10 : ∀ n, (w5.drewN n).rangeAt w4.heap.size 0 [.int .u8 f.dst.a, .int .u8 f.dst.b, .int .u8 f.dst.c, .int .u8 f.dst.d, .int .u8 f.dst.e, .int .u8 f.dst.f, .int .u8 f.src.a, .int .u8 f.src.b, .int .u8 f.src.c, .int .u8 f.src.d, .int .u8 f.src.e, .int .u8 f.src.f, .bool f.tag, .int .i64 f.vlan, .int .i64 f.prio, .int .i64 f.ty] := fun n => cut_row (vs := [.int .u8 f.dst.a, .int .u8 f.dst.b, .int .u8 f.dst.c, .int .u8 f.dst.d, .int .u8 f.dst.e, .int .u8 f.dst.f, .int .u8 f.src.a, .int .u8 f.src.b, .int .u8 f.src.c, .int .u8 f.src.d, .int .u8 f.src.e, .int .u8 f.src.f, .bool f.tag, .int .i64 f.vlan, .int .i64 f.prio, .int .i64 f.ty]) q10 ((Fr.refl _ w5).drewN n) q10s
      have hl3 : ∀ n, (w5.drewN n).rangeAt w.heap.size 0 [.int .u8 f.dst.a, .int .u8 f.dst.b, .int .u8 f.dst.c, .int .u8 f.dst.d, .int .u8 f.dst.e, .int .u8 f.dst.f, .int .u8 f.src.a, .int .u8 f.src.b, .int .u8 f.src.c, .int .u8 f.src.d, .int .u8 f.src.e, .int .u8 f.src.f, .bool f.tag, .int .i64 f.vlan, .int .i64 f.prio, .int .i64 f.ty] := fun n => HL.out _ ((F3.out.then (F4.out.then F45.out)).drewN n)
      have HL10 := Lib.hid hl10
      have HL3 := Lib.hid hl3
      clear hl10 hl3
      have hne : ∀ w, (binOp .neq 25 (.agg #[.int .u8 f.dst.a, .int .u8 f.dst.b, .int .u8 f.dst.c, .int .u8 f.dst.d, .int .u8 f.dst.e, .int .u8 f.dst.f, .int .u8 f.src.a, .int .u8 f.src.b, .int .u8 f.src.c, .int .u8 f.src.d, .int .u8 f.src.e, .int .u8 f.src.f, .bool f.tag, .int .i64 f.vlan, .int .i64 f.prio, .int .i64 f.ty]) (.agg #[.int .u8 f.dst.a, .int .u8 f.dst.b, .int .u8 f.dst.c, .int .u8 f.dst.d, .int .u8 f.dst.e, .int .u8 f.dst.f, .int .u8 f.src.a, .int .u8 f.src.b, .int .u8 f.src.c, .int .u8 f.src.d, .int .u8 f.src.e, .int .u8 f.src.f, .bool f.tag, .int .i64 f.vlan, .int .i64 f.prio, .int .i64 f.ty])).run Try.prog w = .ok (.bool false) w := fun w => by
        have h := neq25 HF.out HF.out w
        rwa [decide_eq_true rfl] at h
      have O5 := Lib.hid (O4.out.fr0 F45.out)
      have P5 := Lib.hid (HP.out.fr FW5.out)
      have hcl := HP.out.len
      have hMc : M ≤ cy := by
        obtain ⟨A', c', hv, _, h, _⟩ := O5.out.cap HML.out
        cases hv
        exact h
      have bx : BytesIn w5.heap.size w5 (some ⟨gy, 0, none⟩) b := by
        obtain ⟨A', c', hv, h⟩ := O5.out.viewN HML.out
        cases hv
        exact h.left
      have kb : ∀ j, (convert 26 9 (.slice A nb cap)).run Try.prog (w5.drewN j) = .ok (.string (strOfNums b)) (w5.drewN j) := fun j => by
        have := str_bytes (n₀ := w5.heap.size) (w := w5.drewN j) cap (l := b) (A := A) (by exact P5.out.here)
        rw [hcl] at this; exact this
      have kx : ∀ j, (convert 26 9 (.slice (some ⟨gy, 0, none⟩) nb cy)).run Try.prog (w5.drewN j) = .ok (.string (strOfNums b)) (w5.drewN j) := fun j => by
        have := str_bytes (n₀ := w5.heap.size) (w := w5.drewN j) cy (l := b) (A := some ⟨gy, 0, none⟩) (by exact bx)
        rw [hcl] at this; exact this
      have hd : decide (M < nb) = false := decide_eq_false (by omega)
      clear bx q10 q10s hcl
      refine wp_region_quiet_lit (by kernel_rfl) (by kernel_rfl) ?_
      refine wpQuiet_load_mid (by rfl) 25 _ rfl w4.heap.size 0 rfl [.int .u8 f.dst.a, .int .u8 f.dst.b, .int .u8 f.dst.c, .int .u8 f.dst.d, .int .u8 f.dst.e, .int .u8 f.dst.f, .int .u8 f.src.a, .int .u8 f.src.b, .int .u8 f.src.c, .int .u8 f.src.d, .int .u8 f.src.e, .int .u8 f.src.f, .bool f.tag, .int .i64 f.vlan, .int .i64 f.prio, .int .i64 f.ty] _ (fun w' hc => by obtain ⟨n, rfl⟩ := hc; exact HL10.out n) Try.underlying25 rfl (by kernel_rfl) ?_
      refine wpQuiet_load_mid (by rfl) 25 _ rfl w.heap.size 0 rfl [.int .u8 f.dst.a, .int .u8 f.dst.b, .int .u8 f.dst.c, .int .u8 f.dst.d, .int .u8 f.dst.e, .int .u8 f.dst.f, .int .u8 f.src.a, .int .u8 f.src.b, .int .u8 f.src.c, .int .u8 f.src.d, .int .u8 f.src.e, .int .u8 f.src.f, .bool f.tag, .int .i64 f.vlan, .int .i64 f.prio, .int .i64 f.ty] _ (fun w' hc => by obtain ⟨n, rfl⟩ := hc; exact HL3.out n) Try.underlying25 rfl (by kernel_rfl) ?_
      simp only [Act.put, List.setIfInBounds_toArray, List.set_cons_zero, List.set_cons_succ]
      repeat (first | go_big_quiet_step (fail) | quiet_step (fail))
      refine wpQuiet_nil ?_
      intro _ hw'
      obtain ⟨nq, rfl⟩ := hw'
      clear kb kx hd hne HL10 HL3
      have FW6 := Lib.hid (FW5.out.drewN nq)
      have O6 := Lib.hid (O5.out.fr0 ((Fr.refl (fun _ => False) w5).drewN nq))
      generalize w5.drewN nq = w6 at FW6 O6 ⊢
      clear O4 O5 F45 FW5 P5 F3 F4 P3 HD
      have hbl := HP.out.len
      have HBL := Lib.hid hbl
      clear hbl
      go_wp2_with fail
      go_loopw [13] (fun v wr => ∃ i : Nat, v = .int .i64 i ∧ nb ≤ i ∧ i ≤ M ∧ wr = w6) (fun v _ => M - (intOf v).toNat)
      case atStart => exact ⟨nb, rfl, Nat.le_refl _, hMn, rfl⟩
      case round =>
        obtain ⟨i, rfl, hi0, hi, rfl⟩ := hrel
        rename World => w6
        by_cases hlt : i < M
        · have x1 : (b ++ List.replicate (60 - (f.enc b).length) 0)[i]? = some (0 : Int) := by
            have h1 := HML.out
            rw [List.length_append, List.length_replicate] at h1
            have h2 := HBL.out
            rw [List.getElem?_append_right (by omega), List.getElem?_replicate_of_lt (by omega)]
          have x2 := (O6.out.cell x1).1
          clear x1
          go_wp2_with fail
          go_roundw
          case rel => exact ⟨i + 1, by go_num, by omega, by omega, by trivial⟩
          case measure => simp [intOf]; omega
        · obtain rfl : i = M := by omega
          go_wp2_with fail
          go_meet
          exact FW6.out
    · go_wp2_with fail
      go_meet
      exact FW3.out
  case rest =>
    as_aux_lemma =>
      have FWc := Lib.hid hcut
      have Rc := Lib.hid (HR.out.fr hcut)
      clear hcut F3 O3 FW2 P2 HL HK HG HZ FB F2 HP HF
      obtain ⟨g, hg⟩ : ∃ g, decF l = g := ⟨_, rfl⟩
      obtain ⟨q, hq⟩ : ∃ q, decK l = q := ⟨_, rfl⟩
      have HG := Lib.hid hg
      have HQ := Lib.hid hq
      clear hg hq
      go_upto_region 13 with (go_at_call 15; refine (decode_any A2 nr cr l _ hcr Rc.out g HG.out).mono ?_; rw [HQ.out]; rintro e w4 ⟨v4, rfl, o4, f4⟩; have O4 := Lib.hid o4; have F4 := Lib.hid f4; clear o4 f4)
      have FW4 := Lib.hid (FWc.out.then F4.out)
      by_cases hq0 : q = 0
      · subst hq0
        have hen := enc_of_dec HQ.out HR.out.ok
        rw [HG.out] at hen
        have hz := decK_zero HQ.out
        have hlr := HR.out.len
        have hdl : decL l = l.drop (dT l + 2) := by unfold decL; rw [if_pos HQ.out]
        have hdt := dMo_two l
        obtain ⟨Ml, hMl⟩ : ∃ m, (decL l).length = m := ⟨_, rfl⟩
        have hMl0 : 0 < Ml ∧ Ml ≤ 256 := by
          refine ⟨?_, by have := hen.2.2.2; omega⟩
          rw [← hMl, hdl, List.length_drop]; omega
        have hdB : isB (decL l) := by rw [hdl]; exact fun x hx => HR.out.ok x (List.mem_of_mem_drop hx)
        obtain ⟨gy, cy, rfl, hy0, hy1⟩ := O4.out.form hMl hMl0.1
        have hbc : BytesIn w4.heap.size w4 (some ⟨gy, 0, none⟩) (decL l) := by
          obtain ⟨A', c', hv, h⟩ := O4.out.viewN hMl
          cases hv
          exact h
        have PC := Lib.hid (show Pc w4 (some ⟨gy, 0, none⟩) Ml (decL l) from ⟨hMl, hdB, by omega, hbc⟩)
        have HEN := Lib.hid hen
        have HLR := Lib.hid hlr
        have hn60 : 60 ≤ nr := by omega
        clear hen hz hlr hdl hdt hMl hdB hbc
        have q14 := heap_alloc_new w4 (.cells #[.int .u8 g.dst.a, .int .u8 g.dst.b, .int .u8 g.dst.c, .int .u8 g.dst.d, .int .u8 g.dst.e, .int .u8 g.dst.f, .int .u8 g.src.a, .int .u8 g.src.b, .int .u8 g.src.c, .int .u8 g.src.d, .int .u8 g.src.e, .int .u8 g.src.f, .bool g.tag, .int .i64 g.vlan, .int .i64 g.prio, .int .i64 g.ty] 25)
        have q14s : w4.heap.size < (w4.alloc (.cells #[.int .u8 g.dst.a, .int .u8 g.dst.b, .int .u8 g.dst.c, .int .u8 g.dst.d, .int .u8 g.dst.e, .int .u8 g.dst.f, .int .u8 g.src.a, .int .u8 g.src.b, .int .u8 g.src.c, .int .u8 g.src.d, .int .u8 g.src.e, .int .u8 g.src.f, .bool g.tag, .int .i64 g.vlan, .int .i64 g.prio, .int .i64 g.ty] 25)).heap.size := by simp
        have F45 := Lib.hid ((Fr.refl (fun _ => False) w4).alloc (.cells #[.int .u8 g.dst.a, .int .u8 g.dst.b, .int .u8 g.dst.c, .int .u8 g.dst.d, .int .u8 g.dst.e, .int .u8 g.dst.f, .int .u8 g.src.a, .int .u8 g.src.b, .int .u8 g.src.c, .int .u8 g.src.d, .int .u8 g.src.e, .int .u8 g.src.f, .bool g.tag, .int .i64 g.vlan, .int .i64 g.prio, .int .i64 g.ty] 25))
        generalize w4.alloc (.cells #[.int .u8 g.dst.a, .int .u8 g.dst.b, .int .u8 g.dst.c, .int .u8 g.dst.d, .int .u8 g.dst.e, .int .u8 g.dst.f, .int .u8 g.src.a, .int .u8 g.src.b, .int .u8 g.src.c, .int .u8 g.src.d, .int .u8 g.src.e, .int .u8 g.src.f, .bool g.tag, .int .i64 g.vlan, .int .i64 g.prio, .int .i64 g.ty] 25) = w5 at F45 q14 q14s ⊢
        have q14 := Lib.hid q14
        have q14s := Lib.hid q14s
        have P5 := Lib.hid (PC.out.fr F45.out)
        go_upto_region 14 with (fail)
        go_step
        refine wpList_load_mid rfl 25 _ rfl w4.heap.size 0 rfl [.int .u8 g.dst.a, .int .u8 g.dst.b, .int .u8 g.dst.c, .int .u8 g.dst.d, .int .u8 g.dst.e, .int .u8 g.dst.f, .int .u8 g.src.a, .int .u8 g.src.b, .int .u8 g.src.c, .int .u8 g.src.d, .int .u8 g.src.e, .int .u8 g.src.f, .bool g.tag, .int .i64 g.vlan, .int .i64 g.prio, .int .i64 g.ty] _ (cut_row (vs := [.int .u8 g.dst.a, .int .u8 g.dst.b, .int .u8 g.dst.c, .int .u8 g.dst.d, .int .u8 g.dst.e, .int .u8 g.dst.f, .int .u8 g.src.a, .int .u8 g.src.b, .int .u8 g.src.c, .int .u8 g.src.d, .int .u8 g.src.e, .int .u8 g.src.f, .bool g.tag, .int .i64 g.vlan, .int .i64 g.prio, .int .i64 g.ty]) q14.out (Fr.refl _ w5) q14s.out) Try.underlying25 rfl (by kernel_rfl) ?_
        go_upto_region 15 with (go_at_call 13; refine (encode_any g (some ⟨gy, 0, none⟩) Ml cy (decL l) _ P5.out).mono ?_; rw [HEN.out.1, HEN.out.2.1]; rintro e w6 ⟨v6, rfl, o6, f6⟩; have O6 := Lib.hid o6; have F6 := Lib.hid f6; clear o6 f6)
        have FW6 := Lib.hid (FW4.out.then (F45.out.then F6.out))
        have R6 := Lib.hid (HR.out.fr FW6.out)
        obtain ⟨gz, cz, rfl, hz0, hz1⟩ := O6.out.form HLR.out (by omega)
        have hlr := HLR.out
        have bx : BytesIn w6.heap.size w6 (some ⟨gz, 0, none⟩) l := by
          obtain ⟨A', c', hv, h⟩ := O6.out.viewN HLR.out
          cases hv
          exact h
        have kb : (convert 26 9 (.slice A2 nr cr)).run Try.prog w6 = .ok (.string (strOfNums l)) w6 := by
          have := str_bytes (n₀ := w6.heap.size) (w := w6) cr (l := l) (A := A2) R6.out.here
          rw [hlr] at this; exact this
        have kx : (convert 26 9 (.slice (some ⟨gz, 0, none⟩) nr cz)).run Try.prog w6 = .ok (.string (strOfNums l)) w6 := by
          have := str_bytes (n₀ := w6.heap.size) (w := w6) cz (l := l) (A := some ⟨gz, 0, none⟩) bx
          rw [hlr] at this; exact this
        clear bx hlr
        go_wp2_with fail
        go_ret
        exact ⟨rfl, FW6.out⟩
      · go_wp2_with fail
        go_ret
        exact ⟨rfl, FW4.out.alloc _⟩
end Go.Proofs.Ytmonaaappimphaa

