/- The chapter's examples hold (awake of law 07): its walk. No condition. -/
import Derived.Test.YtmonaaappimphaaEtK
import Derived.Deep.MidRow
namespace Go.Proofs.Ytmonaaappimphaa
set_option linter.unusedVariables false
open Go.RowKit

def m2 : M6 := ⟨2, 0, 0, 0, 0, 0⟩
theorem mine_aw1 (w : World) : Calls Try.prog 17 #[.agg #[.int .u8 255, .int .u8 255, .int .u8 255, .int .u8 255, .int .u8 255, .int .u8 255, .int .u8 2, .int .u8 0, .int .u8 0, .int .u8 0, .int .u8 0, .int .u8 1, .bool false, .int .i64 0, .int .i64 0, .int .i64 2054], .agg #[.int .u8 2, .int .u8 0, .int .u8 0, .int .u8 0, .int .u8 0, .int .u8 0], .int .i64 (-1)] w fun e w' => e = .returned (.bool true) ∧ Fr (fun _ => False) w w' := by
  have h := mine17 f0 m2 (-1) w f0_ok ⟨rfl, rfl, rfl, rfl, rfl, rfl⟩
  rw [show mineB f0 m2 (-1) = true by decide] at h
  exact h
theorem mine_aw2 (w : World) : Calls Try.prog 17 #[.agg #[.int .u8 255, .int .u8 255, .int .u8 255, .int .u8 255, .int .u8 255, .int .u8 255, .int .u8 2, .int .u8 0, .int .u8 0, .int .u8 0, .int .u8 0, .int .u8 1, .bool false, .int .i64 0, .int .i64 0, .int .i64 2054], .agg #[.int .u8 2, .int .u8 0, .int .u8 0, .int .u8 0, .int .u8 0, .int .u8 0], .int .i64 5] w fun e w' => e = .returned (.bool false) ∧ Fr (fun _ => False) w w' := by
  have h := mine17 f0 m2 5 w f0_ok ⟨rfl, rfl, rfl, rfl, rfl, rfl⟩
  rw [show mineB f0 m2 5 = false by decide] at h
  exact h
theorem neq_aw (w : World) : (binOp .neq 23 (.agg #[.int .u8 255, .int .u8 255, .int .u8 255, .int .u8 255, .int .u8 255, .int .u8 255]) (.agg #[.int .u8 255, .int .u8 255, .int .u8 255, .int .u8 255, .int .u8 255, .int .u8 255])).run Try.prog w = .ok (.bool false) w := neq23 allM_ok allM_ok w
theorem eql_aw (w : World) : (binOp .eql 25 (.agg #[.int .u8 255, .int .u8 255, .int .u8 255, .int .u8 255, .int .u8 255, .int .u8 255, .int .u8 2, .int .u8 0, .int .u8 0, .int .u8 0, .int .u8 0, .int .u8 1, .bool false, .int .i64 0, .int .i64 0, .int .i64 2054]) (.agg #[.int .u8 255, .int .u8 255, .int .u8 255, .int .u8 255, .int .u8 255, .int .u8 255, .int .u8 2, .int .u8 0, .int .u8 0, .int .u8 0, .int .u8 0, .int .u8 1, .bool false, .int .i64 0, .int .i64 0, .int .i64 2054])).run Try.prog w = .ok (.bool true) w := eql25 f0_ok f0_ok w

theorem mine_aw1F (f : Fh) (w : World) (hf : f = f0) : Calls Try.prog 17 #[.agg #[.int .u8 f.dst.a, .int .u8 f.dst.b, .int .u8 f.dst.c, .int .u8 f.dst.d, .int .u8 f.dst.e, .int .u8 f.dst.f, .int .u8 f.src.a, .int .u8 f.src.b, .int .u8 f.src.c, .int .u8 f.src.d, .int .u8 f.src.e, .int .u8 f.src.f, .bool f.tag, .int .i64 f.vlan, .int .i64 f.prio, .int .i64 f.ty], .agg #[.int .u8 2, .int .u8 0, .int .u8 0, .int .u8 0, .int .u8 0, .int .u8 0], .int .i64 (-1)] w fun e w' => e = .returned (.bool true) ∧ Fr (fun _ => False) w w' := by
  subst hf; exact mine_aw1 w
theorem mine_aw2F (f : Fh) (w : World) (hf : f = f0) : Calls Try.prog 17 #[.agg #[.int .u8 f.dst.a, .int .u8 f.dst.b, .int .u8 f.dst.c, .int .u8 f.dst.d, .int .u8 f.dst.e, .int .u8 f.dst.f, .int .u8 f.src.a, .int .u8 f.src.b, .int .u8 f.src.c, .int .u8 f.src.d, .int .u8 f.src.e, .int .u8 f.src.f, .bool f.tag, .int .i64 f.vlan, .int .i64 f.prio, .int .i64 f.ty], .agg #[.int .u8 2, .int .u8 0, .int .u8 0, .int .u8 0, .int .u8 0, .int .u8 0], .int .i64 5] w fun e w' => e = .returned (.bool false) ∧ Fr (fun _ => False) w w' := by
  subst hf; exact mine_aw2 w
theorem eql_awF (f : Fh) (w : World) (hf : f = f0) : (binOp .eql 25 (.agg #[.int .u8 f.dst.a, .int .u8 f.dst.b, .int .u8 f.dst.c, .int .u8 f.dst.d, .int .u8 f.dst.e, .int .u8 f.dst.f, .int .u8 f.src.a, .int .u8 f.src.b, .int .u8 f.src.c, .int .u8 f.src.d, .int .u8 f.src.e, .int .u8 f.src.f, .bool f.tag, .int .i64 f.vlan, .int .i64 f.prio, .int .i64 f.ty]) (.agg #[.int .u8 f.dst.a, .int .u8 f.dst.b, .int .u8 f.dst.c, .int .u8 f.dst.d, .int .u8 f.dst.e, .int .u8 f.dst.f, .int .u8 f.src.a, .int .u8 f.src.b, .int .u8 f.src.c, .int .u8 f.src.d, .int .u8 f.src.e, .int .u8 f.src.f, .bool f.tag, .int .i64 f.vlan, .int .i64 f.prio, .int .i64 f.ty])).run Try.prog w = .ok (.bool true) w := by
  have h := eql25 (f := f) (g := f) (by rw [hf]; exact f0_ok) (by rw [hf]; exact f0_ok) w
  rwa [decide_eq_true rfl] at h

theorem range16 {w : World} {b : Nat} {v0 v1 v2 v3 v4 v5 v6 v7 v8 v9 v10 v11 v12 v13 v14 v15 : Value} (h : w.cell? ⟨b, 0, none⟩ = some v0 ∧ w.cell? ⟨b, 1, none⟩ = some v1 ∧ w.cell? ⟨b, 2, none⟩ = some v2 ∧ w.cell? ⟨b, 3, none⟩ = some v3 ∧ w.cell? ⟨b, 4, none⟩ = some v4 ∧ w.cell? ⟨b, 5, none⟩ = some v5 ∧ w.cell? ⟨b, 6, none⟩ = some v6 ∧ w.cell? ⟨b, 7, none⟩ = some v7 ∧ w.cell? ⟨b, 8, none⟩ = some v8 ∧ w.cell? ⟨b, 9, none⟩ = some v9 ∧ w.cell? ⟨b, 10, none⟩ = some v10 ∧ w.cell? ⟨b, 11, none⟩ = some v11 ∧ w.cell? ⟨b, 12, none⟩ = some v12 ∧ w.cell? ⟨b, 13, none⟩ = some v13 ∧ w.cell? ⟨b, 14, none⟩ = some v14 ∧ w.cell? ⟨b, 15, none⟩ = some v15) : w.rangeAt b 0 [v0, v1, v2, v3, v4, v5, v6, v7, v8, v9, v10, v11, v12, v13, v14, v15] := by
  obtain ⟨h0, h1, h2, h3, h4, h5, h6, h7, h8, h9, h10, h11, h12, h13, h14, h15⟩ := h
  intro j v hj
  rw [Nat.zero_add]
  match j, hj with
  | 0, hj => cases hj; exact h0
  | 1, hj => cases hj; exact h1
  | 2, hj => cases hj; exact h2
  | 3, hj => cases hj; exact h3
  | 4, hj => cases hj; exact h4
  | 5, hj => cases hj; exact h5
  | 6, hj => cases hj; exact h6
  | 7, hj => cases hj; exact h7
  | 8, hj => cases hj; exact h8
  | 9, hj => cases hj; exact h9
  | 10, hj => cases hj; exact h10
  | 11, hj => cases hj; exact h11
  | 12, hj => cases hj; exact h12
  | 13, hj => cases hj; exact h13
  | 14, hj => cases hj; exact h14
  | 15, hj => cases hj; exact h15
theorem wpList_load_guard {ops : Array Oper} {rest : List Oper} {op : Oper} {a : Act} {w : World} {Q : Exit → Act → World → Prop} (hw : Region.wanted op (yielded ops a.tmps) = true) (ty : TypeId) (x : Operand) (ho : op.op = .load ty x)
    (b o : Nat) (hx : a.eval x = .pointer (some ⟨b, o, none⟩)) (cs : List Value) (d : TypeDesc) (hc : w.rangeAt b o cs)
    (hu : Try.prog.underlying ty = some d) (hd : d.isRow = true) (hi : (Try.prog.info? ty).map (·.size) = some cs.length)
    (h : wpList Try.prog ops Q rest (a.put op.dst (.agg cs.toArray)) w) : wpList Try.prog ops Q (op :: rest) a w := by
  unfold wpList
  rw [if_pos hw]
  exact Or.inl (wp_load_mid ty x ho b o hx cs d hc hu hd hi h)

set_option maxHeartbeats 8000000 in
set_option maxRecDepth 100000 in
theorem awake12 (w : World) : Calls Try.prog 12 #[] w fun e w' => e = .returned (.bool true) ∧ Fr (fun _ => False) w w' := by
  have FA := Lib.hid (Fr.refl (fun _ => False) w)
  go_enter Try.func12, Try.ntmps12
  go_upto_region 3 with (go_at_call 19; refine (all19 _).mono ?_; rintro e w2 ⟨rfl, rfl⟩)
  obtain ⟨_, g1, g2, g3⟩ := three_alloc w (.cells #[.int .u8 255, .int .u8 255, .int .u8 255, .int .u8 255, .int .u8 255, .int .u8 255] 23) (.cells #[.int .u8 255, .int .u8 255, .int .u8 255, .int .u8 255, .int .u8 255, .int .u8 255] 23) (.cells #[.int .u8 255, .int .u8 255, .int .u8 255, .int .u8 255, .int .u8 255, .int .u8 255, .int .u8 2, .int .u8 0, .int .u8 0, .int .u8 0, .int .u8 0, .int .u8 1, .bool false, .int .i64 0, .int .i64 0, .int .i64 2054] 25)
  have F1 := Lib.hid (((FA.out.alloc (.cells #[.int .u8 255, .int .u8 255, .int .u8 255, .int .u8 255, .int .u8 255, .int .u8 255] 23)).alloc (.cells #[.int .u8 255, .int .u8 255, .int .u8 255, .int .u8 255, .int .u8 255, .int .u8 255] 23)).alloc (.cells #[.int .u8 255, .int .u8 255, .int .u8 255, .int .u8 255, .int .u8 255, .int .u8 255, .int .u8 2, .int .u8 0, .int .u8 0, .int .u8 0, .int .u8 0, .int .u8 1, .bool false, .int .i64 0, .int .i64 0, .int .i64 2054] 25))
  generalize (((w.alloc (.cells #[.int .u8 255, .int .u8 255, .int .u8 255, .int .u8 255, .int .u8 255, .int .u8 255] 23)).alloc (.cells #[.int .u8 255, .int .u8 255, .int .u8 255, .int .u8 255, .int .u8 255, .int .u8 255] 23)).alloc (.cells #[.int .u8 255, .int .u8 255, .int .u8 255, .int .u8 255, .int .u8 255, .int .u8 255, .int .u8 2, .int .u8 0, .int .u8 0, .int .u8 0, .int .u8 0, .int .u8 1, .bool false, .int .i64 0, .int .i64 0, .int .i64 2054] 25)) = w1 at g1 g2 g3 F1 ⊢
  have HC : ∀ w', Fr (fun _ => False) w1 w' → (w'.cell? ⟨w.heap.size + 1, 0, none⟩ = some (.int .u8 255) ∧ w'.cell? ⟨w.heap.size + 1, 1, none⟩ = some (.int .u8 255) ∧ w'.cell? ⟨w.heap.size + 1, 2, none⟩ = some (.int .u8 255) ∧ w'.cell? ⟨w.heap.size + 1, 3, none⟩ = some (.int .u8 255) ∧ w'.cell? ⟨w.heap.size + 1, 4, none⟩ = some (.int .u8 255) ∧ w'.cell? ⟨w.heap.size + 1, 5, none⟩ = some (.int .u8 255)) ∧ (w'.cell? ⟨w.heap.size + 1 + 1, 0, none⟩ = some (.int .u8 255) ∧ w'.cell? ⟨w.heap.size + 1 + 1, 1, none⟩ = some (.int .u8 255) ∧ w'.cell? ⟨w.heap.size + 1 + 1, 2, none⟩ = some (.int .u8 255) ∧ w'.cell? ⟨w.heap.size + 1 + 1, 3, none⟩ = some (.int .u8 255) ∧ w'.cell? ⟨w.heap.size + 1 + 1, 4, none⟩ = some (.int .u8 255) ∧ w'.cell? ⟨w.heap.size + 1 + 1, 5, none⟩ = some (.int .u8 255) ∧ w'.cell? ⟨w.heap.size + 1 + 1, 6, none⟩ = some (.int .u8 2) ∧ w'.cell? ⟨w.heap.size + 1 + 1, 7, none⟩ = some (.int .u8 0) ∧ w'.cell? ⟨w.heap.size + 1 + 1, 8, none⟩ = some (.int .u8 0) ∧ w'.cell? ⟨w.heap.size + 1 + 1, 9, none⟩ = some (.int .u8 0) ∧ w'.cell? ⟨w.heap.size + 1 + 1, 10, none⟩ = some (.int .u8 0) ∧ w'.cell? ⟨w.heap.size + 1 + 1, 11, none⟩ = some (.int .u8 1) ∧ w'.cell? ⟨w.heap.size + 1 + 1, 12, none⟩ = some (.bool false) ∧ w'.cell? ⟨w.heap.size + 1 + 1, 13, none⟩ = some (.int .i64 0) ∧ w'.cell? ⟨w.heap.size + 1 + 1, 14, none⟩ = some (.int .i64 0) ∧ w'.cell? ⟨w.heap.size + 1 + 1, 15, none⟩ = some (.int .i64 2054)) := fun w' k => by
    have h1 := cells_at w' (w.heap.size + 1) [.int .u8 255, .int .u8 255, .int .u8 255, .int .u8 255, .int .u8 255, .int .u8 255] 23 ((k.block _ (by omega) (fun e => e)).trans g1)
    have h2 := cells_at w' (w.heap.size + 1 + 1) [.int .u8 255, .int .u8 255, .int .u8 255, .int .u8 255, .int .u8 255, .int .u8 255, .int .u8 2, .int .u8 0, .int .u8 0, .int .u8 0, .int .u8 0, .int .u8 1, .bool false, .int .i64 0, .int .i64 0, .int .i64 2054] 25 ((k.block _ (by omega) (fun e => e)).trans g2)
    exact ⟨⟨h1 0 _ rfl, h1 1 _ rfl, h1 2 _ rfl, h1 3 _ rfl, h1 4 _ rfl, h1 5 _ rfl⟩, ⟨h2 0 _ rfl, h2 1 _ rfl, h2 2 _ rfl, h2 3 _ rfl, h2 4 _ rfl, h2 5 _ rfl, h2 6 _ rfl, h2 7 _ rfl, h2 8 _ rfl, h2 9 _ rfl, h2 10 _ rfl, h2 11 _ rfl, h2 12 _ rfl, h2 13 _ rfl, h2 14 _ rfl, h2 15 _ rfl⟩⟩
  have H0 := HC w1 (Fr.refl _ _)
  have HC := Lib.hid HC
  have hcv := fun (C : Array Value) (n c : Nat) => Lib.run_convert_bytes_const (P := Try.prog) w1 26 5 C n c Try.underlying26 Try.underlying5
  have H0 := H0.2
  have G3 := Lib.hid g3
  clear g1 g2 g3
  go_upto_region 4 with (go_at_call 13; refine (encode_aw w1).mono ?_; rintro e w2 ⟨g, c, rfl, o2, f2⟩; have O2 := Lib.hid o2; have F2 := Lib.hid f2; clear o2 f2)
  clear H0 hcv
  have H2 := HC.out w2 F2.out
  have d13 := (O2.out.cell (j := 13) (x := 6) rfl).1
  have d14 := (O2.out.cell (j := 14) (x := 97) rfl).1
  have hcc : 60 ≤ c := by
    obtain ⟨A', c', hv, _, h, _⟩ := O2.out.cap l0_len
    cases hv
    exact h
  have P2 := Lib.hid (show Pc w2 (some ⟨g, 0, none⟩) 60 l0 from ⟨l0_len, l0_ok, by decide, by
    obtain ⟨A', c', hv, h⟩ := O2.out.viewN l0_len
    cases hv
    exact h⟩)
  have hnq := fun w => neq_aw w
  have T1 := Lib.hid True.intro
  go_upto_region 8 with (first
    | (have TK := T1.out; go_at_call 15; refine (decode_aw g c w2 hcc P2.out).mono ?_; rintro e w3 ⟨A3, k3, rfl, f3⟩; have F3 := Lib.hid f3; clear T1 TK f3)
    | (go_at_call 15; refine (decode15_short (some ⟨g, 0, none⟩) 59 c _ (by decide)).mono ?_; rintro e w5 ⟨rfl, f5⟩; have F5 := Lib.hid f5; clear f5))
  clear H2 d13 d14 hnq
  have G5 := Lib.hid (F2.out.then (F3.out.then (((Fr.refl (fun _ => False) w3).alloc _).then F5.out)))
  have HT := Lib.hid ((F5.out.block w3.heap.size (by simp) (fun e => e)).trans (heap_alloc_new w3 _))
  have hz5 : w3.heap.size < w5.heap.size := by have := F5.out.size; simp at this; omega
  obtain ⟨f, hf⟩ : ∃ f : Fh, f = f0 := ⟨_, rfl⟩
  have HD : ∀ w', Fr (fun _ => False) w5 w' → (w'.cell? ⟨w3.heap.size, 0, none⟩ = some (.int .u8 f.dst.a) ∧ w'.cell? ⟨w3.heap.size, 1, none⟩ = some (.int .u8 f.dst.b) ∧ w'.cell? ⟨w3.heap.size, 2, none⟩ = some (.int .u8 f.dst.c) ∧ w'.cell? ⟨w3.heap.size, 3, none⟩ = some (.int .u8 f.dst.d) ∧ w'.cell? ⟨w3.heap.size, 4, none⟩ = some (.int .u8 f.dst.e) ∧ w'.cell? ⟨w3.heap.size, 5, none⟩ = some (.int .u8 f.dst.f) ∧ w'.cell? ⟨w3.heap.size, 6, none⟩ = some (.int .u8 f.src.a) ∧ w'.cell? ⟨w3.heap.size, 7, none⟩ = some (.int .u8 f.src.b) ∧ w'.cell? ⟨w3.heap.size, 8, none⟩ = some (.int .u8 f.src.c) ∧ w'.cell? ⟨w3.heap.size, 9, none⟩ = some (.int .u8 f.src.d) ∧ w'.cell? ⟨w3.heap.size, 10, none⟩ = some (.int .u8 f.src.e) ∧ w'.cell? ⟨w3.heap.size, 11, none⟩ = some (.int .u8 f.src.f) ∧ w'.cell? ⟨w3.heap.size, 12, none⟩ = some (.bool f.tag) ∧ w'.cell? ⟨w3.heap.size, 13, none⟩ = some (.int .i64 f.vlan) ∧ w'.cell? ⟨w3.heap.size, 14, none⟩ = some (.int .i64 f.prio) ∧ w'.cell? ⟨w3.heap.size, 15, none⟩ = some (.int .i64 f.ty)) ∧ (w'.cell? ⟨w.heap.size + 1 + 1, 0, none⟩ = some (.int .u8 f.dst.a) ∧ w'.cell? ⟨w.heap.size + 1 + 1, 1, none⟩ = some (.int .u8 f.dst.b) ∧ w'.cell? ⟨w.heap.size + 1 + 1, 2, none⟩ = some (.int .u8 f.dst.c) ∧ w'.cell? ⟨w.heap.size + 1 + 1, 3, none⟩ = some (.int .u8 f.dst.d) ∧ w'.cell? ⟨w.heap.size + 1 + 1, 4, none⟩ = some (.int .u8 f.dst.e) ∧ w'.cell? ⟨w.heap.size + 1 + 1, 5, none⟩ = some (.int .u8 f.dst.f) ∧ w'.cell? ⟨w.heap.size + 1 + 1, 6, none⟩ = some (.int .u8 f.src.a) ∧ w'.cell? ⟨w.heap.size + 1 + 1, 7, none⟩ = some (.int .u8 f.src.b) ∧ w'.cell? ⟨w.heap.size + 1 + 1, 8, none⟩ = some (.int .u8 f.src.c) ∧ w'.cell? ⟨w.heap.size + 1 + 1, 9, none⟩ = some (.int .u8 f.src.d) ∧ w'.cell? ⟨w.heap.size + 1 + 1, 10, none⟩ = some (.int .u8 f.src.e) ∧ w'.cell? ⟨w.heap.size + 1 + 1, 11, none⟩ = some (.int .u8 f.src.f) ∧ w'.cell? ⟨w.heap.size + 1 + 1, 12, none⟩ = some (.bool f.tag) ∧ w'.cell? ⟨w.heap.size + 1 + 1, 13, none⟩ = some (.int .i64 f.vlan) ∧ w'.cell? ⟨w.heap.size + 1 + 1, 14, none⟩ = some (.int .i64 f.prio) ∧ w'.cell? ⟨w.heap.size + 1 + 1, 15, none⟩ = some (.int .i64 f.ty)) := fun w' k => by
    subst hf
    have h5 := cells_at w' w3.heap.size [.int .u8 255, .int .u8 255, .int .u8 255, .int .u8 255, .int .u8 255, .int .u8 255, .int .u8 2, .int .u8 0, .int .u8 0, .int .u8 0, .int .u8 0, .int .u8 1, .bool false, .int .i64 0, .int .i64 0, .int .i64 2054] 25 ((k.block _ hz5 (fun e => e)).trans HT.out)
    exact ⟨⟨h5 0 _ rfl, h5 1 _ rfl, h5 2 _ rfl, h5 3 _ rfl, h5 4 _ rfl, h5 5 _ rfl, h5 6 _ rfl, h5 7 _ rfl, h5 8 _ rfl, h5 9 _ rfl, h5 10 _ rfl, h5 11 _ rfl, h5 12 _ rfl, h5 13 _ rfl, h5 14 _ rfl, h5 15 _ rfl⟩, (HC.out w' (G5.out.then k)).2⟩
  have HD := Lib.hid HD
  have heq := fun w => eql_awF f w hf
  have HF := Lib.hid hf
  clear hf
  have T2 := Lib.hid True.intro
  have RT : ∀ w', Fr (fun _ => False) w5 w' → w'.rangeAt w3.heap.size 0 [.int .u8 f.dst.a, .int .u8 f.dst.b, .int .u8 f.dst.c, .int .u8 f.dst.d, .int .u8 f.dst.e, .int .u8 f.dst.f, .int .u8 f.src.a, .int .u8 f.src.b, .int .u8 f.src.c, .int .u8 f.src.d, .int .u8 f.src.e, .int .u8 f.src.f, .bool f.tag, .int .i64 f.vlan, .int .i64 f.prio, .int .i64 f.ty] ∧ w'.rangeAt (w.heap.size + 1 + 1) 0 [.int .u8 f.dst.a, .int .u8 f.dst.b, .int .u8 f.dst.c, .int .u8 f.dst.d, .int .u8 f.dst.e, .int .u8 f.dst.f, .int .u8 f.src.a, .int .u8 f.src.b, .int .u8 f.src.c, .int .u8 f.src.d, .int .u8 f.src.e, .int .u8 f.src.f, .bool f.tag, .int .i64 f.vlan, .int .i64 f.prio, .int .i64 f.ty] := fun w' k => by
    obtain ⟨h5, h2⟩ := HD.out w' k
    exact ⟨range16 h5, range16 h2⟩
  have RT := Lib.hid RT
  go_step
  refine wpList_load_mid rfl 25 _ rfl w3.heap.size 0 rfl [.int .u8 f.dst.a, .int .u8 f.dst.b, .int .u8 f.dst.c, .int .u8 f.dst.d, .int .u8 f.dst.e, .int .u8 f.dst.f, .int .u8 f.src.a, .int .u8 f.src.b, .int .u8 f.src.c, .int .u8 f.src.d, .int .u8 f.src.e, .int .u8 f.src.f, .bool f.tag, .int .i64 f.vlan, .int .i64 f.prio, .int .i64 f.ty] _ (RT.out _ ((Fr.refl (fun _ => False) w5).alloc _)).1 Try.underlying25 rfl (by kernel_rfl) ?_
  refine wpList_load_mid rfl 25 _ rfl (w.heap.size + 1 + 1) 0 rfl [.int .u8 f.dst.a, .int .u8 f.dst.b, .int .u8 f.dst.c, .int .u8 f.dst.d, .int .u8 f.dst.e, .int .u8 f.dst.f, .int .u8 f.src.a, .int .u8 f.src.b, .int .u8 f.src.c, .int .u8 f.src.d, .int .u8 f.src.e, .int .u8 f.src.f, .bool f.tag, .int .i64 f.vlan, .int .i64 f.prio, .int .i64 f.ty] _ (RT.out _ ((Fr.refl (fun _ => False) w5).alloc _)).2 Try.underlying25 rfl (by kernel_rfl) ?_
  clear RT
  as_aux_lemma =>
    have H8 := HD.out (w5.alloc (.cells #[.int .u8 0, .int .u8 0, .int .u8 0, .int .u8 0, .int .u8 0, .int .u8 0, .int .u8 0, .int .u8 0, .int .u8 0, .int .u8 0, .int .u8 0, .int .u8 0, .bool false, .int .i64 0, .int .i64 0, .int .i64 0] 25)) ((Fr.refl (fun _ => False) w5).alloc _)
    go_wp2_with (fail)
    go_at_call 17
    refine (mine_aw1F f _ HF.out).mono ?_
    rintro e w6 ⟨rfl, f6⟩
    have F6 := Lib.hid (((Fr.refl (fun _ => False) w5).alloc _).then f6)
    clear H8 f6
    as_aux_lemma =>
      have H9 := HD.out w6 F6.out
      go_wp2_with (fail)
      go_at_call 17
      refine (mine_aw2F f _ HF.out).mono ?_
      rintro e w7 ⟨rfl, f7⟩
      have F7 := Lib.hid f7
      clear f7 H9
      go_wp2_with (fail)
      go_ret
      exact ⟨rfl, F1.out.then (G5.out.then (F6.out.then F7.out))⟩
end Go.Proofs.Ytmonaaappimphaa
