/- The walk of packhorselaw07.EtherForms. No condition but lengths. -/
import Derived.Test.YtmonaaappimphaaEtW
import Derived.Test.YtmonaaappimphaaEtY
import Derived.Test.YtmonaaappimphaaEtAb
namespace Go.Proofs.Ytmonaaappimphaa
set_option linter.unusedVariables false
open Go.RowKit

theorem wf8_of {n : Int} (h : 0 ≤ n ∧ n ≤ 255) : wf8 n := by
  unfold wf8
  simp [Lit.wf, IntKind.min, IntKind.max, IntKind.signed, IntKind.bits]
  omega
theorem wf64_of {n : Int} (h : -1000000 ≤ n ∧ n ≤ 1000000) : wf64 n := by
  unfold wf64
  simp [Lit.wf, IntKind.min, IntKind.max, IntKind.signed, IntKind.bits]
  omega
theorem dX_bd {l : List Int} (hB : isB l) (i : Nat) : 0 ≤ dX l i ∧ dX l i ≤ 255 := by
  by_cases h : i < l.length
  · exact hB _ (List.mem_of_getElem? (dX_get h))
  · unfold dX
    rw [List.getD_eq_getElem?_getD, List.getElem?_eq_none (by omega)]
    simp
theorem decF_ok {l : List Int} (hB : isB l) : (decF l).ok := by
  unfold decF
  split
  · have b := dX_bd hB
    refine ⟨⟨wf8_of (b 0), wf8_of (b 1), wf8_of (b 2), wf8_of (b 3), wf8_of (b 4), wf8_of (b 5)⟩, ⟨wf8_of (b 6), wf8_of (b 7), wf8_of (b 8), wf8_of (b 9), wf8_of (b 10), wf8_of (b 11)⟩, wf64_of ?_, wf64_of ?_, wf64_of ?_⟩
    · unfold dG
      cases dTg l
      · simp
      · have := b 14; have := b 15; simp only [cond_true]; omega
    · unfold dG
      have := b 14
      have := b 15
      cases dTg l
      · simp
      · cases ((dX l 14 * 256 + dX l 15) / 4096 % 2 == 1) <;> simp only [cond_true, cond_false] <;> omega
    · unfold dG
      have := b (dT l); have := b (dT l + 1)
      simp only; omega
  · exact ⟨⟨rfl, rfl, rfl, rfl, rfl, rfl⟩, ⟨rfl, rfl, rfl, rfl, rfl, rfl⟩, rfl, rfl, rfl⟩
theorem own_str {base n c : Nat} {w : World} {A : Option Addr} {l : List Int} (h : OwnB base w (.slice A n c) l) (hn : l.length = n) : (convert 26 9 (.slice A n c)).run Try.prog w = .ok (.string (strOfNums l)) w := by
  subst hn
  obtain ⟨A', c', hv, hb⟩ := h.view
  cases hv
  exact str_bytes c hb
theorem arg_str {n c : Nat} {w : World} {A : Option Addr} {l : List Int} (h : Pc w A n l) : (convert 26 9 (.slice A n c)).run Try.prog w = .ok (.string (strOfNums l)) w := by
  have := h.len
  subst this
  exact str_bytes c h.here
theorem own_pc {base n c : Nat} {w : World} {A : Option Addr} {l : List Int} (h : OwnB base w (.slice A n c) l) (hn : l.length = n) (hB : isB l) (ht : n ≤ 140737488355328) : Pc w A n l := ⟨hn, hB, ht, by
  subst hn
  obtain ⟨A', c', hv, hb⟩ := h.view
  cases hv
  exact hb⟩
theorem wpList_load_guard2 {ops : Array Oper} {rest : List Oper} {op : Oper} {a : Act} {w : World} {Q : Exit → Act → World → Prop} (ty : TypeId) (x : Operand) (ho : op.op = .load ty x)
    (b o : Nat) (hx : a.eval x = .pointer (some ⟨b, o, none⟩)) (cs : List Value) (d : TypeDesc) (hc : w.rangeAt b o cs)
    (hu : Try.prog.underlying ty = some d) (hd : d.isRow = true) (hi : (Try.prog.info? ty).map (·.size) = some cs.length) (hw : Region.wanted op (yielded ops a.tmps) = true)
    (h : wpList Try.prog ops Q rest (a.put op.dst (.agg cs.toArray)) w) : wpList Try.prog ops Q (op :: rest) a w :=
  wpList_load_guard hw ty x ho b o hx cs d hc hu hd hi h

set_option maxHeartbeats 16000000 in
set_option maxRecDepth 100000 in
theorem etherforms3 (f : Fh) (A : Option Addr) (nb cap : Nat) (b : List Int) (A2 : Option Addr) (nr cr : Nat) (l : List Int) (w : World) (hf : f.ok) (P : Pc w A nb b) (hcp : nb ≤ cap) (hct : cap ≤ 140737488351232) (R : Pc w A2 nr l) (hcr : nr ≤ cr) (hrt : cr ≤ 140737488351232) :
    Calls Try.prog 3 #[.agg #[.int .u8 f.dst.a, .int .u8 f.dst.b, .int .u8 f.dst.c, .int .u8 f.dst.d, .int .u8 f.dst.e, .int .u8 f.dst.f, .int .u8 f.src.a, .int .u8 f.src.b, .int .u8 f.src.c, .int .u8 f.src.d, .int .u8 f.src.e, .int .u8 f.src.f, .bool f.tag, .int .i64 f.vlan, .int .i64 f.prio, .int .i64 f.ty], .slice A nb cap, .slice A2 nr cr] w fun e w' => e = .returned (.bool true) ∧ Fr (fun _ => False) w w' := by
  have HP := Lib.hid P
  have HR := Lib.hid R
  have HF := Lib.hid hf
  clear P R hf
  have FA := Lib.hid (Fr.refl (fun _ => False) w)
  go_enter Try.func3, Try.ntmps3
  go_upto_region 1 with (fail)
  have HG := Lib.hid (heap_alloc_new w (.cells #[.int .u8 f.dst.a, .int .u8 f.dst.b, .int .u8 f.dst.c, .int .u8 f.dst.d, .int .u8 f.dst.e, .int .u8 f.dst.f, .int .u8 f.src.a, .int .u8 f.src.b, .int .u8 f.src.c, .int .u8 f.src.d, .int .u8 f.src.e, .int .u8 f.src.f, .bool f.tag, .int .i64 f.vlan, .int .i64 f.prio, .int .i64 f.ty] 25))
  have FB := Lib.hid (FA.out.alloc (.cells #[.int .u8 f.dst.a, .int .u8 f.dst.b, .int .u8 f.dst.c, .int .u8 f.dst.d, .int .u8 f.dst.e, .int .u8 f.dst.f, .int .u8 f.src.a, .int .u8 f.src.b, .int .u8 f.src.c, .int .u8 f.src.d, .int .u8 f.src.e, .int .u8 f.src.f, .bool f.tag, .int .i64 f.vlan, .int .i64 f.prio, .int .i64 f.ty] 25))
  have HZ := Lib.hid (show w.heap.size < (w.alloc (.cells #[.int .u8 f.dst.a, .int .u8 f.dst.b, .int .u8 f.dst.c, .int .u8 f.dst.d, .int .u8 f.dst.e, .int .u8 f.dst.f, .int .u8 f.src.a, .int .u8 f.src.b, .int .u8 f.src.c, .int .u8 f.src.d, .int .u8 f.src.e, .int .u8 f.src.f, .bool f.tag, .int .i64 f.vlan, .int .i64 f.prio, .int .i64 f.ty] 25)).heap.size by simp)
  generalize w.alloc (.cells #[.int .u8 f.dst.a, .int .u8 f.dst.b, .int .u8 f.dst.c, .int .u8 f.dst.d, .int .u8 f.dst.e, .int .u8 f.dst.f, .int .u8 f.src.a, .int .u8 f.src.b, .int .u8 f.src.c, .int .u8 f.src.d, .int .u8 f.src.e, .int .u8 f.src.f, .bool f.tag, .int .i64 f.vlan, .int .i64 f.prio, .int .i64 f.ty] 25) = w1 at HG HZ FB ⊢
  go_upto_region 2 with (go_at_call 12; refine (awake12 _).mono ?_; rintro e w2 ⟨rfl, f2⟩; have F2 := Lib.hid f2; clear f2)
  have HL := Lib.hid (fun w' k => cut_row (w := w1) (w' := w') (vs := [.int .u8 f.dst.a, .int .u8 f.dst.b, .int .u8 f.dst.c, .int .u8 f.dst.d, .int .u8 f.dst.e, .int .u8 f.dst.f, .int .u8 f.src.a, .int .u8 f.src.b, .int .u8 f.src.c, .int .u8 f.src.d, .int .u8 f.src.e, .int .u8 f.src.f, .bool f.tag, .int .i64 f.vlan, .int .i64 f.prio, .int .i64 f.ty]) HG.out (F2.out.then k) HZ.out)
  have FW2 := Lib.hid (FB.out.then F2.out)
  have P2 := Lib.hid (HP.out.fr FW2.out)
  clear FA FB HG HZ
  go_upto_region 3 with (at_builtin; refine wpList_appN _ rfl _ _ rfl w2.heap.size _ [] rfl (OwnB.nil _ _) w2.heap.size A nb cap b P2.out.len (by exact rfl) P2.out.here (by simp; omega) (Nat.le_refl _) ?_; intro v8 w3 o8 f8; have F3 := Lib.hid f8.fromNil; have O8 := Lib.hid (show OwnB w2.heap.size w3 v8 b by simpa using o8); clear o8 f8)
  obtain ⟨A8, c8, rfl, h8b, h8c, h8t⟩ := O8.out.cap HP.out.len
  have P3 := Lib.hid (own_pc O8.out HP.out.len HP.out.ok (by omega))
  clear h8b
  go_step
  refine wpList_load_mid rfl 25 _ rfl w.heap.size 0 rfl [.int .u8 f.dst.a, .int .u8 f.dst.b, .int .u8 f.dst.c, .int .u8 f.dst.d, .int .u8 f.dst.e, .int .u8 f.dst.f, .int .u8 f.src.a, .int .u8 f.src.b, .int .u8 f.src.c, .int .u8 f.src.d, .int .u8 f.src.e, .int .u8 f.src.f, .bool f.tag, .int .i64 f.vlan, .int .i64 f.prio, .int .i64 f.ty] _ (HL.out _ F3.out) Try.underlying25 rfl (by kernel_rfl) ?_
  obtain ⟨k, hk⟩ : ∃ k, encK f b = k := ⟨_, rfl⟩
  have HK := Lib.hid hk
  clear hk
  obtain ⟨x, hx⟩ : ∃ x, encL f b = x := ⟨_, rfl⟩
  have HX := Lib.hid hx
  clear hx
  obtain ⟨nx, hnx⟩ : ∃ n, x.length = n := ⟨_, rfl⟩
  have HNX := Lib.hid hnx
  clear hnx
  go_upto_region 4 with (go_at_call 13; refine (encode_any f A8 nb c8 b _ P3.out).mono ?_; rw [HK.out, HX.out]; rintro e w4 ⟨v9, rfl, o9, f9⟩; have F4 := Lib.hid f9; have O9 := Lib.hid o9; clear o9 f9)
  obtain ⟨A9, c9, rfl, h9b, h9c, h9t⟩ := O9.out.cap HNX.out
  clear h9b
  have F34 := Lib.hid (F3.out.then F4.out)
  have FW4 := Lib.hid (FW2.out.then F34.out)
  have P4 := Lib.hid (HP.out.fr FW4.out)
  go_step
  refine wpList_load_mid rfl 25 _ rfl w.heap.size 0 rfl [.int .u8 f.dst.a, .int .u8 f.dst.b, .int .u8 f.dst.c, .int .u8 f.dst.d, .int .u8 f.dst.e, .int .u8 f.dst.f, .int .u8 f.src.a, .int .u8 f.src.b, .int .u8 f.src.c, .int .u8 f.src.d, .int .u8 f.src.e, .int .u8 f.src.f, .bool f.tag, .int .i64 f.vlan, .int .i64 f.prio, .int .i64 f.ty] _ (HL.out _ F34.out) Try.underlying25 rfl (by kernel_rfl) ?_
  go_upto_region 5 with (go_at_call 14; refine (rencode_any f A nb cap b _ P4.out).mono ?_; rw [HK.out, HX.out]; rintro e w5 ⟨v11, rfl, o11, f11⟩; have F5 := Lib.hid f11; have O11 := Lib.hid o11; clear o11 f11)
  obtain ⟨A11, c11, rfl, h11b, h11c, h11t⟩ := O11.out.cap HNX.out
  clear h11b
  have FW5 := Lib.hid (FW4.out.then F5.out)
  have R5 := Lib.hid (HR.out.fr FW5.out)
  go_upto_region 6 with (at_builtin; refine wpList_appN _ rfl _ _ rfl w5.heap.size _ [] rfl (OwnB.nil _ _) w5.heap.size A2 nr cr l R5.out.len (by exact rfl) R5.out.here (by simp; omega) (Nat.le_refl _) ?_; intro v13 w6 o13 f13; have F6 := Lib.hid f13.fromNil; have O13 := Lib.hid (show OwnB w5.heap.size w6 v13 l by simpa using o13); clear o13 f13)
  obtain ⟨A13, c13, rfl, h13b, h13c, h13t⟩ := O13.out.cap HR.out.len
  clear h13b
  have R6 := Lib.hid (own_pc O13.out HR.out.len HR.out.ok (by omega))
  have FW6 := Lib.hid (FW5.out.then F6.out)
  obtain ⟨g, hg⟩ : ∃ g, decF l = g := ⟨_, rfl⟩
  have HGD := Lib.hid hg
  have hgok : g.ok := hg ▸ decF_ok HR.out.ok
  have HGK := Lib.hid hgok
  obtain ⟨q, hq⟩ : ∃ q, decK l = q := ⟨_, rfl⟩
  have HQ := Lib.hid hq
  obtain ⟨y, hy⟩ : ∃ y, decL l = y := ⟨_, rfl⟩
  have HY := Lib.hid hy
  obtain ⟨ny, hny⟩ : ∃ n, y.length = n := ⟨_, rfl⟩
  have HNY := Lib.hid hny
  clear hg hgok hq hy hny
  go_upto_region 7 with (go_at_call 15; refine (decode_any A13 nr c13 l _ h13c R6.out g HGD.out).mono ?_; rw [HQ.out, HY.out]; rintro e w7 ⟨v15, rfl, o15, f15⟩; have F7 := Lib.hid f15; have O15 := Lib.hid o15; clear o15 f15)
  obtain ⟨A15, c15, rfl, h15b, h15c, h15t⟩ := O15.out.cap HNY.out
  clear h15b
  have q14 := heap_alloc_new w7 (.cells #[.int .u8 g.dst.a, .int .u8 g.dst.b, .int .u8 g.dst.c, .int .u8 g.dst.d, .int .u8 g.dst.e, .int .u8 g.dst.f, .int .u8 g.src.a, .int .u8 g.src.b, .int .u8 g.src.c, .int .u8 g.src.d, .int .u8 g.src.e, .int .u8 g.src.f, .bool g.tag, .int .i64 g.vlan, .int .i64 g.prio, .int .i64 g.ty] 25)
  have q14s : w7.heap.size < (w7.alloc (.cells #[.int .u8 g.dst.a, .int .u8 g.dst.b, .int .u8 g.dst.c, .int .u8 g.dst.d, .int .u8 g.dst.e, .int .u8 g.dst.f, .int .u8 g.src.a, .int .u8 g.src.b, .int .u8 g.src.c, .int .u8 g.src.d, .int .u8 g.src.e, .int .u8 g.src.f, .bool g.tag, .int .i64 g.vlan, .int .i64 g.prio, .int .i64 g.ty] 25)).heap.size := by simp
  have F78 := Lib.hid ((Fr.refl (fun _ => False) w7).alloc (.cells #[.int .u8 g.dst.a, .int .u8 g.dst.b, .int .u8 g.dst.c, .int .u8 g.dst.d, .int .u8 g.dst.e, .int .u8 g.dst.f, .int .u8 g.src.a, .int .u8 g.src.b, .int .u8 g.src.c, .int .u8 g.src.d, .int .u8 g.src.e, .int .u8 g.src.f, .bool g.tag, .int .i64 g.vlan, .int .i64 g.prio, .int .i64 g.ty] 25))
  generalize w7.alloc (.cells #[.int .u8 g.dst.a, .int .u8 g.dst.b, .int .u8 g.dst.c, .int .u8 g.dst.d, .int .u8 g.dst.e, .int .u8 g.dst.f, .int .u8 g.src.a, .int .u8 g.src.b, .int .u8 g.src.c, .int .u8 g.src.d, .int .u8 g.src.e, .int .u8 g.src.f, .bool g.tag, .int .i64 g.vlan, .int .i64 g.prio, .int .i64 g.ty] 25) = w8 at F78 q14 q14s ⊢
  have Q14 := Lib.hid (And.intro q14 q14s)
  clear q14 q14s
  have FW8 := Lib.hid (FW6.out.then (F7.out.then F78.out))
  have R8 := Lib.hid (HR.out.fr FW8.out)
  go_upto_region 8 with (go_at_call 16; refine (rdecode_any A2 nr cr l _ hcr R8.out g HGD.out).mono ?_; rw [HQ.out, HY.out]; rintro e w9 ⟨A18, n18, c18, rfl, h18l, h18b, f18⟩; have F9 := Lib.hid f18; have B18 := Lib.hid h18b; have hn18 : n18 = ny := (h18l.symm.trans HNY.out); subst hn18; clear h18l h18b f18)
  have q17 := heap_alloc_new w9 (.cells #[.int .u8 g.dst.a, .int .u8 g.dst.b, .int .u8 g.dst.c, .int .u8 g.dst.d, .int .u8 g.dst.e, .int .u8 g.dst.f, .int .u8 g.src.a, .int .u8 g.src.b, .int .u8 g.src.c, .int .u8 g.src.d, .int .u8 g.src.e, .int .u8 g.src.f, .bool g.tag, .int .i64 g.vlan, .int .i64 g.prio, .int .i64 g.ty] 25)
  have q17s : w9.heap.size < (w9.alloc (.cells #[.int .u8 g.dst.a, .int .u8 g.dst.b, .int .u8 g.dst.c, .int .u8 g.dst.d, .int .u8 g.dst.e, .int .u8 g.dst.f, .int .u8 g.src.a, .int .u8 g.src.b, .int .u8 g.src.c, .int .u8 g.src.d, .int .u8 g.src.e, .int .u8 g.src.f, .bool g.tag, .int .i64 g.vlan, .int .i64 g.prio, .int .i64 g.ty] 25)).heap.size := by simp
  have F910 := Lib.hid ((Fr.refl (fun _ => False) w9).alloc (.cells #[.int .u8 g.dst.a, .int .u8 g.dst.b, .int .u8 g.dst.c, .int .u8 g.dst.d, .int .u8 g.dst.e, .int .u8 g.dst.f, .int .u8 g.src.a, .int .u8 g.src.b, .int .u8 g.src.c, .int .u8 g.src.d, .int .u8 g.src.e, .int .u8 g.src.f, .bool g.tag, .int .i64 g.vlan, .int .i64 g.prio, .int .i64 g.ty] 25))
  generalize w9.alloc (.cells #[.int .u8 g.dst.a, .int .u8 g.dst.b, .int .u8 g.dst.c, .int .u8 g.dst.d, .int .u8 g.dst.e, .int .u8 g.dst.f, .int .u8 g.src.a, .int .u8 g.src.b, .int .u8 g.src.c, .int .u8 g.src.d, .int .u8 g.src.e, .int .u8 g.src.f, .bool g.tag, .int .i64 g.vlan, .int .i64 g.prio, .int .i64 g.ty] 25) = w10 at F910 q17 q17s ⊢
  have Q17 := Lib.hid (And.intro q17 q17s)
  clear q17 q17s
  have F810 := Lib.hid (F9.out.then F910.out)
  have F710 := Lib.hid (F78.out.then F810.out)
  have F610 := Lib.hid (F7.out.then F710.out)
  have F510 := Lib.hid (F6.out.then F610.out)
  have F410 := Lib.hid (F5.out.then F510.out)
  have F310 := Lib.hid (F4.out.then F410.out)
  have FW10 := Lib.hid (FW8.out.then F810.out)
  have kx : (convert 26 9 (.slice A9 nx c9)).run Try.prog w10 = .ok (.string (strOfNums x)) w10 := own_str (O9.out.fr0 F410.out) HNX.out
  have ky : (convert 26 9 (.slice A11 nx c11)).run Try.prog w10 = .ok (.string (strOfNums x)) w10 := own_str (O11.out.fr0 F510.out) HNX.out
  have kc : (convert 26 9 (.slice A15 n18 c15)).run Try.prog w10 = .ok (.string (strOfNums y)) w10 := own_str (O15.out.fr0 F710.out) HNY.out
  have kd : (convert 26 9 (.slice A18 n18 c18)).run Try.prog w10 = .ok (.string (strOfNums y)) w10 := by
    have h := str_bytes (n₀ := w9.heap.size) (w := w10) c18 (l := y) (A := A18) (B18.out.fr F910.out (Nat.le_refl _) (fun _ _ e => e))
    rw [HNY.out] at h
    exact h
  have he : ∀ w, (binOp .eql 25 (.agg #[.int .u8 g.dst.a, .int .u8 g.dst.b, .int .u8 g.dst.c, .int .u8 g.dst.d, .int .u8 g.dst.e, .int .u8 g.dst.f, .int .u8 g.src.a, .int .u8 g.src.b, .int .u8 g.src.c, .int .u8 g.src.d, .int .u8 g.src.e, .int .u8 g.src.f, .bool g.tag, .int .i64 g.vlan, .int .i64 g.prio, .int .i64 g.ty]) (.agg #[.int .u8 g.dst.a, .int .u8 g.dst.b, .int .u8 g.dst.c, .int .u8 g.dst.d, .int .u8 g.dst.e, .int .u8 g.dst.f, .int .u8 g.src.a, .int .u8 g.src.b, .int .u8 g.src.c, .int .u8 g.src.d, .int .u8 g.src.e, .int .u8 g.src.f, .bool g.tag, .int .i64 g.vlan, .int .i64 g.prio, .int .i64 g.ty])).run Try.prog w = .ok (.bool true) w := fun w => by
    have h := eql25 HGK.out HGK.out w
    rwa [decide_eq_true rfl] at h
  have RA := Lib.hid (show w10.rangeAt w7.heap.size 0 [.int .u8 g.dst.a, .int .u8 g.dst.b, .int .u8 g.dst.c, .int .u8 g.dst.d, .int .u8 g.dst.e, .int .u8 g.dst.f, .int .u8 g.src.a, .int .u8 g.src.b, .int .u8 g.src.c, .int .u8 g.src.d, .int .u8 g.src.e, .int .u8 g.src.f, .bool g.tag, .int .i64 g.vlan, .int .i64 g.prio, .int .i64 g.ty] from cut_row (vs := [.int .u8 g.dst.a, .int .u8 g.dst.b, .int .u8 g.dst.c, .int .u8 g.dst.d, .int .u8 g.dst.e, .int .u8 g.dst.f, .int .u8 g.src.a, .int .u8 g.src.b, .int .u8 g.src.c, .int .u8 g.src.d, .int .u8 g.src.e, .int .u8 g.src.f, .bool g.tag, .int .i64 g.vlan, .int .i64 g.prio, .int .i64 g.ty]) Q14.out.1 F810.out Q14.out.2)
  have RB := Lib.hid (show w10.rangeAt w9.heap.size 0 [.int .u8 g.dst.a, .int .u8 g.dst.b, .int .u8 g.dst.c, .int .u8 g.dst.d, .int .u8 g.dst.e, .int .u8 g.dst.f, .int .u8 g.src.a, .int .u8 g.src.b, .int .u8 g.src.c, .int .u8 g.src.d, .int .u8 g.src.e, .int .u8 g.src.f, .bool g.tag, .int .i64 g.vlan, .int .i64 g.prio, .int .i64 g.ty] from cut_row (vs := [.int .u8 g.dst.a, .int .u8 g.dst.b, .int .u8 g.dst.c, .int .u8 g.dst.d, .int .u8 g.dst.e, .int .u8 g.dst.f, .int .u8 g.src.a, .int .u8 g.src.b, .int .u8 g.src.c, .int .u8 g.src.d, .int .u8 g.src.e, .int .u8 g.src.f, .bool g.tag, .int .i64 g.vlan, .int .i64 g.prio, .int .i64 g.ty]) Q17.out.1 (Fr.refl _ w10) Q17.out.2)
  iterate 60 (first
    | (have := M2; clear this)
    | (refine wpList_load_guard2 25 _ rfl w7.heap.size 0 rfl [.int .u8 g.dst.a, .int .u8 g.dst.b, .int .u8 g.dst.c, .int .u8 g.dst.d, .int .u8 g.dst.e, .int .u8 g.dst.f, .int .u8 g.src.a, .int .u8 g.src.b, .int .u8 g.src.c, .int .u8 g.src.d, .int .u8 g.src.e, .int .u8 g.src.f, .bool g.tag, .int .i64 g.vlan, .int .i64 g.prio, .int .i64 g.ty] _ RA.out Try.underlying25 rfl (by kernel_rfl) (by rfl) ?_; refine wpList_load_guard2 25 _ rfl w9.heap.size 0 rfl [.int .u8 g.dst.a, .int .u8 g.dst.b, .int .u8 g.dst.c, .int .u8 g.dst.d, .int .u8 g.dst.e, .int .u8 g.dst.f, .int .u8 g.src.a, .int .u8 g.src.b, .int .u8 g.src.c, .int .u8 g.src.d, .int .u8 g.src.e, .int .u8 g.src.f, .bool g.tag, .int .i64 g.vlan, .int .i64 g.prio, .int .i64 g.ty] _ RB.out Try.underlying25 rfl (by kernel_rfl) (by rfl) ?_; have M2 := Lib.hid True.intro)
    | go_step)
  clear RA RB
  go_upto_region 9 with (fail)
  clear kx ky kc kd he
  have z1 := F3.out.size
  have z2 := F4.out.size
  have z3 := F5.out.size
  have z4 := F6.out.size
  have z5 := FW2.out.size
  have hm1 : n18 ≤ 9223372036854775807 := by have := h15t; simp only [maxLen] at this; omega
  have hm2 : nx ≤ 9223372036854775807 := by have := h9t; simp only [maxLen] at this; omega
  go_wp2_with fail
  go_loopw [21] (fun v wr => ∃ (i : Nat) (y' : List Int), v = .int .i64 i ∧ i ≤ n18 ∧ y'.length = n18 ∧ OwnB w6.heap.size wr (.slice A15 n18 c15) y' ∧ Fr (fun k => w6.heap.size ≤ k) w10 wr) (fun v _ => n18 - (intOf v).toNat)
  case atStart => exact ⟨0, y, rfl, Nat.zero_le _, HNY.out, O15.out.fr0 F710.out, Fr.refl _ _⟩
  case round =>
    obtain ⟨i, y', rfl, hi, hll, hO, hG⟩ := hrel
    rename World => wr
    have HLL := Lib.hid hll
    have HO := Lib.hid hO
    have HGG := Lib.hid hG
    by_cases hlt : i < n18
    · obtain ⟨gy, cy, hv, hg0, hg1⟩ := hO.form hll (by omega)
      cases hv
      obtain ⟨yy, hyy⟩ : ∃ yy, y'[i]? = some yy := ⟨_, List.getElem?_eq_getElem (by omega)⟩
      obtain ⟨cc, fc⟩ := hO.cell hyy
      clear hll hO hG hyy
      go_wp2_with fail
      obtain ⟨s1, s2⟩ := HO.out.set i ((yy + 1) % 256)
      go_roundw
      case rel => exact ⟨i + 1, _, by go_num, by omega, by rw [List.length_set]; exact HLL.out, s1, HGG.out.trans (S' := fun k => k = gy) s2 (fun k hk e => by omega)⟩
      case measure => simp [intOf]; omega
    · obtain rfl : i = n18 := by omega
      have x10 : OwnB w3.heap.size wr (.slice A9 nx c9) x := (O9.out.fr0 F410.out).fr hG (fun k hk e => by have := (World.ownsRow.lt O9.out k hk).2; omega)
      have X10 := Lib.hid x10
      clear hll hO hG hlt hi HO HLL x10
      go_wp2_with fail
      go_loopw [22] (fun v wq => ∃ (j : Nat) (x' : List Int), v = .int .i64 j ∧ j ≤ nx ∧ x'.length = nx ∧ OwnB w3.heap.size wq (.slice A9 nx c9) x' ∧ Fr (fun k => w3.heap.size ≤ k ∧ k < w4.heap.size) wr wq) (fun v _ => nx - (intOf v).toNat)
      case atStart => exact ⟨0, x, rfl, Nat.zero_le _, HNX.out, X10.out, Fr.refl _ _⟩
      case round =>
        obtain ⟨j, x', rfl, hj, hll, hO, hG⟩ := hrel
        have HLL := Lib.hid hll
        have HO := Lib.hid hO
        have HG2 := Lib.hid hG
        by_cases hlt : j < nx
        · obtain ⟨gx, cx, hv, hg0, hg1⟩ := hO.form hll (by omega)
          cases hv
          have hgt := (World.ownsRow.lt O9.out gx rfl).2
          obtain ⟨yy, hyy⟩ : ∃ yy, x'[j]? = some yy := ⟨_, List.getElem?_eq_getElem (by omega)⟩
          obtain ⟨cc, fc⟩ := hO.cell hyy
          clear hll hO hG hyy
          go_wp2_with fail
          obtain ⟨s1, s2⟩ := HO.out.set j ((yy + 1) % 256)
          go_roundw
          case rel => exact ⟨j + 1, _, by go_num, by omega, by rw [List.length_set]; exact HLL.out, s1, HG2.out.trans (S' := fun k => k = gx) s2 (fun k hk e => by omega)⟩
          case measure => simp [intOf]; omega
        · obtain rfl : j = nx := by omega
          have z6 := FW6.out.size
          have z7 := F610.out.size
          have z8 := HGG.out.size
          have fq := (FW10.out.trans (S' := fun k => w6.heap.size ≤ k) HGG.out (fun i hi e => by omega)).trans (S' := fun k => w3.heap.size ≤ k ∧ k < w4.heap.size) hG (fun i hi e => by omega)
          have FQ := Lib.hid fq
          have k8 := own_str (((O8.out.fr0 F310.out).fr HGG.out (fun k hk e => by have := (World.ownsRow.lt O8.out k hk).2; omega)).fr hG (fun k hk e => by have := (World.ownsRow.lt O8.out k hk).2; omega)) HP.out.len
          have k13 := own_str (((O13.out.fr0 F610.out).fr HGG.out (fun k hk e => by have := (World.ownsRow.lt O13.out k hk).2; omega)).fr hG (fun k hk e => by have := (World.ownsRow.lt O13.out k hk).1; omega)) HR.out.len
          have kb := arg_str (c := cap) (HP.out.fr fq)
          have kr := arg_str (c := cr) (HR.out.fr fq)
          clear hll hO hG hlt hj HO HLL HG2 X10 HGG fq
          go_wp2_with fail
          go_ret
          exact ⟨rfl, FQ.out⟩
end Go.Proofs.Ytmonaaappimphaa

