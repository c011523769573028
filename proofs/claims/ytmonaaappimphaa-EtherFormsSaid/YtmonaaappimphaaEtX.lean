/- The reference's Encode (function 14): it answers as Encode does. No condition but lengths. -/
import Derived.Test.YtmonaaappimphaaEtV
namespace Go.Proofs.Ytmonaaappimphaa
set_option linter.unusedVariables false
open Go.RowKit

def lenV : Value → Nat
  | .slice _ n _ => n
  | _ => 0

set_option maxHeartbeats 8000000 in
set_option maxRecDepth 100000 in
theorem rencode14_false (f : Fh) (A : Option Addr) (nb c : Nat) (b : List Int) (w : World) (hm : f.may = true) (htag : f.tag = false) (hn : nb ≤ 256) (P : Pc w A nb b) :
    Calls Try.prog 14 #[.agg #[.int .u8 f.dst.a, .int .u8 f.dst.b, .int .u8 f.dst.c, .int .u8 f.dst.d, .int .u8 f.dst.e, .int .u8 f.dst.f, .int .u8 f.src.a, .int .u8 f.src.b, .int .u8 f.src.c, .int .u8 f.src.d, .int .u8 f.src.e, .int .u8 f.src.f, .bool f.tag, .int .i64 f.vlan, .int .i64 f.prio, .int .i64 f.ty], .slice A nb c] w fun e w' => ∃ v, e = .returned (.tuple #[v, .int .i64 0]) ∧ OwnB w.heap.size w' v (f.pad b) ∧ Fr (fun _ => False) w w' := by
  have HP := Lib.hid P
  have HTG := Lib.hid htag
  obtain ⟨h1, h2, h3⟩ := may_ty hm
  obtain ⟨hv0, hp0⟩ := may_plain hm htag
  have HV := Lib.hid (And.intro hv0 hp0)
  have hTl : f.tl.length = 0 := tl_false htag
  have HTl := Lib.hid hTl
  rw [htag, hv0, hp0]
  clear P hm htag hTl hv0 hp0
  go_enter Try.func14, Try.ntmps14
  go_upto_region 1 with (fail)
  have g0 : (w.alloc (.cells #[.int .u8 f.dst.a, .int .u8 f.dst.b, .int .u8 f.dst.c, .int .u8 f.dst.d, .int .u8 f.dst.e, .int .u8 f.dst.f, .int .u8 f.src.a, .int .u8 f.src.b, .int .u8 f.src.c, .int .u8 f.src.d, .int .u8 f.src.e, .int .u8 f.src.f, .bool false, .int .i64 0, .int .i64 0, .int .i64 f.ty] 25)).heap[w.heap.size]? = some (.cells #[.int .u8 f.dst.a, .int .u8 f.dst.b, .int .u8 f.dst.c, .int .u8 f.dst.d, .int .u8 f.dst.e, .int .u8 f.dst.f, .int .u8 f.src.a, .int .u8 f.src.b, .int .u8 f.src.c, .int .u8 f.src.d, .int .u8 f.src.e, .int .u8 f.src.f, .bool f.tag, .int .i64 f.vlan, .int .i64 f.prio, .int .i64 f.ty] 25) := by rw [HTG.out, HV.out.1, HV.out.2]; exact heap_alloc_new w (.cells #[.int .u8 f.dst.a, .int .u8 f.dst.b, .int .u8 f.dst.c, .int .u8 f.dst.d, .int .u8 f.dst.e, .int .u8 f.dst.f, .int .u8 f.src.a, .int .u8 f.src.b, .int .u8 f.src.c, .int .u8 f.src.d, .int .u8 f.src.e, .int .u8 f.src.f, .bool false, .int .i64 0, .int .i64 0, .int .i64 f.ty] 25)
  have FB := Lib.hid ((Fr.refl (fun _ => False) w).alloc (.cells #[.int .u8 f.dst.a, .int .u8 f.dst.b, .int .u8 f.dst.c, .int .u8 f.dst.d, .int .u8 f.dst.e, .int .u8 f.dst.f, .int .u8 f.src.a, .int .u8 f.src.b, .int .u8 f.src.c, .int .u8 f.src.d, .int .u8 f.src.e, .int .u8 f.src.f, .bool false, .int .i64 0, .int .i64 0, .int .i64 f.ty] 25))
  have hz : (w.alloc (.cells #[.int .u8 f.dst.a, .int .u8 f.dst.b, .int .u8 f.dst.c, .int .u8 f.dst.d, .int .u8 f.dst.e, .int .u8 f.dst.f, .int .u8 f.src.a, .int .u8 f.src.b, .int .u8 f.src.c, .int .u8 f.src.d, .int .u8 f.src.e, .int .u8 f.src.f, .bool false, .int .i64 0, .int .i64 0, .int .i64 f.ty] 25)).heap.size = w.heap.size + 1 := by simp
  have cfc := fc_of g0
  unfold Fc at cfc
  rw [HTG.out, HV.out.1, HV.out.2] at cfc
  generalize w.alloc (.cells #[.int .u8 f.dst.a, .int .u8 f.dst.b, .int .u8 f.dst.c, .int .u8 f.dst.d, .int .u8 f.dst.e, .int .u8 f.dst.f, .int .u8 f.src.a, .int .u8 f.src.b, .int .u8 f.src.c, .int .u8 f.src.d, .int .u8 f.src.e, .int .u8 f.src.f, .bool false, .int .i64 0, .int .i64 0, .int .i64 f.ty] 25) = w1 at g0 FB hz cfc ⊢
  have HGz := Lib.hid hz
  have HC : ∀ w', Fr (fun _ => False) w1 w' → w'.cell? ⟨w.heap.size, 13, none⟩ = some (.int .i64 0) ∧ w'.cell? ⟨w.heap.size, 14, none⟩ = some (.int .i64 0) ∧ w'.cell? ⟨w.heap.size, 12, none⟩ = some (.bool false) ∧ w'.cell? ⟨w.heap.size, 15, none⟩ = some (.int .i64 f.ty) := fun w' k => by
    have hc := (fc_of g0).fr k (by omega)
    unfold Fc at hc
    rw [HTG.out, HV.out.1, HV.out.2] at hc
    obtain ⟨x0, x1, x2, x3, x4, x5, x6, x7, x8, x9, x10, x11, x12, x13, x14, x15⟩ := hc
    exact ⟨x13, x14, x12, x15⟩
  have HD : ∀ w', Fr (fun _ => False) w1 w' → ∀ (i : Nat) y, f.dst.l[i]? = some y → w'.cell? ⟨w.heap.size, i, none⟩ = some (.int .u8 y) := fun w' k i y hy => by
    have hB := ((fc_of g0).fr k (by omega)).dstB (n₀ := w'.heap.size) (by have := k.size; omega)
    obtain ⟨b', o', e, _, hc⟩ := hB (by have := (List.getElem?_eq_some_iff.1 hy).1; omega)
    cases e
    have := hc i y hy
    rwa [Nat.zero_add] at this
  have HS : ∀ w', Fr (fun _ => False) w1 w' → ∀ (i : Nat) y, f.src.l[i]? = some y → w'.cell? ⟨w.heap.size, 6 + i, none⟩ = some (.int .u8 y) := fun w' k i y hy => by
    have hB := ((fc_of g0).fr k (by omega)).srcB (n₀ := w'.heap.size) (by have := k.size; omega)
    obtain ⟨b', o', e, _, hc⟩ := hB (by have := (List.getElem?_eq_some_iff.1 hy).1; omega)
    cases e
    exact hc i y hy
  have HC := Lib.hid HC
  have HD := Lib.hid HD
  have HS := Lib.hid HS
  clear g0 hz
  have h3b : (f.ty == 33024) = false := by simpa using h3
  have k1 : ¬ f.ty < 1536 := by omega
  have k2 : ¬ 65535 < f.ty := by omega
  go_upto_region 7 with (fail)
  clear k1 k2 cfc
  go_wp2_with fail
  go_loopw [6, 7] (fun v6 v7 wr => ∃ i : Nat, v7 = .int .i64 i ∧ i ≤ 6 ∧ OwnB w1.heap.size wr v6 (f.dst.l.take i) ∧ Fr (fun _ => False) w1 wr) (fun _ v _ => 6 - (intOf v).toNat)
  case atStart => exact ⟨0, rfl, Nat.zero_le _, OwnB.nil _ _, Fr.refl _ _⟩
  case round =>
    obtain ⟨i, rfl, hi, hO, hG⟩ := hrel
    rename World => wr
    rename Value => v6
    have HO := Lib.hid hO
    have HG := Lib.hid hG
    have hgs := hG.size
    by_cases hlt : i < 6
    · clear hO hG
      obtain ⟨y, hy⟩ : ∃ y, f.dst.l[i]? = some y := ⟨_, List.getElem?_eq_getElem (by simpa [M6.l] using hlt)⟩
      have hcy := HD.out wr HG.out i y hy
      have htk : f.dst.l.take (i + 1) = f.dst.l.take i ++ [y] := by rw [List.take_add_one, hy]; rfl
      have HT := Lib.hid htk
      have htl : (f.dst.l.take i).length + 1 ≤ 140737488355328 := by rw [List.length_take]; omega
      have HTL := Lib.hid htl
      clear hy htk htl
      go_wp2_with (at_builtin; refine wpList_appN _ rfl _ _ rfl w1.heap.size _ (f.dst.l.take i) (by exact rfl) (HO.out.fr0 ((Fr.refl (fun _ => False) _).alloc _)) _ _ 1 1 [y] rfl (by exact rfl) (by exact bytes_lit _ [y]) HTL.out (by simp; omega) ?_; intro v3 w3 o3 f3)
      go_roundw
      case rel => first | exact ⟨i + 1, by go_num, by omega, by rw [HT.out]; exact o3, (HO.out.fr0 ((Fr.refl (fun _ => False) _).alloc _)).turn (HG.out.alloc _) (Nat.le_refl _) f3⟩ | ((repeat apply Exists.intro); exact ⟨⟨i + 1, by go_num, by omega, by rw [HT.out]; exact o3, (HO.out.fr0 ((Fr.refl (fun _ => False) _).alloc _)).turn (HG.out.alloc _) (Nat.le_refl _) f3⟩, rfl⟩)
      case measure => simp [intOf]; omega
    · obtain rfl : i = 6 := by omega
      clear hO hG hlt hi
      go_wp2_with fail
      go_loopw [6, 8] (fun v6 v8 wr => ∃ i : Nat, v8 = .int .i64 i ∧ i ≤ 6 ∧ OwnB w1.heap.size wr v6 (f.dst.l ++ f.src.l.take i) ∧ Fr (fun _ => False) w1 wr) (fun _ v _ => 6 - (intOf v).toNat)
      case atStart => exact ⟨0, rfl, Nat.zero_le _, by have := HO.out; rw [all_six] at this; simpa using this, HG.out⟩
      case round =>
        clear HO HG hgs
        obtain ⟨i, rfl, hi, hO, hG⟩ := hrel
        have HO := Lib.hid hO
        have HG := Lib.hid hG
        have hgs := hG.size
        by_cases hlt : i < 6
        · clear hO hG
          obtain ⟨y, hy⟩ : ∃ y, f.src.l[i]? = some y := ⟨_, List.getElem?_eq_getElem (by simpa [M6.l] using hlt)⟩
          have hcy := HS.out _ HG.out i y hy
          have htk : f.dst.l ++ f.src.l.take (i + 1) = (f.dst.l ++ f.src.l.take i) ++ [y] := by rw [List.take_add_one, hy]; simp
          have HT := Lib.hid htk
          have htl : (f.dst.l ++ f.src.l.take i).length + 1 ≤ 140737488355328 := by rw [List.length_append, List.length_take]; simp [M6.l]; omega
          have HTL := Lib.hid htl
          clear hy htk htl
          go_wp2_with (at_builtin; refine wpList_appN _ rfl _ _ rfl w1.heap.size _ (f.dst.l ++ f.src.l.take i) (by exact rfl) (HO.out.fr0 ((Fr.refl (fun _ => False) _).alloc _)) _ _ 1 1 [y] rfl (by exact rfl) (by exact bytes_lit _ [y]) HTL.out (by simp; omega) ?_; intro v3 w3 o3 f3)
          go_roundw
          case rel => first | exact ⟨i + 1, by go_num, by omega, by rw [HT.out]; exact o3, (HO.out.fr0 ((Fr.refl (fun _ => False) _).alloc _)).turn (HG.out.alloc _) (Nat.le_refl _) f3⟩ | ((repeat apply Exists.intro); exact ⟨⟨i + 1, by go_num, by omega, by rw [HT.out]; exact o3, (HO.out.fr0 ((Fr.refl (fun _ => False) _).alloc _)).turn (HG.out.alloc _) (Nat.le_refl _) f3⟩, rfl⟩)
          case measure => simp [intOf]; omega
        · obtain rfl : i = 6 := by omega
          clear hO hG hlt hi
          obtain ⟨cv, cp, ct, cy⟩ := HC.out _ HG.out
          have hv6 : f.dst.l ++ f.src.l.take 6 = f.dst.l ++ f.src.l := by rw [all_six]
          have O6 := Lib.hid (show OwnB w1.heap.size _ _ (f.dst.l ++ f.src.l) from hv6 ▸ HO.out)
          clear hv6 HO
          have q1 : Int.tmod f.ty 256 = f.ty % 256 := Int.tmod_eq_emod_of_nonneg (by omega)
          have q2 : Int.tdiv f.ty 256 = f.ty / 256 := Int.tdiv_eq_ediv_of_nonneg (by omega)
          go_upto_region 18 with (fail)
          have O7 := Lib.hid (show OwnB w1.heap.size _ _ (f.dst.l ++ (f.src.l ++ f.tl)) from by rw [List.length_eq_zero_iff.1 HTl.out, List.append_nil]; exact O6.out)
          have G7 := Lib.hid HG.out
          clear ct cv cp
          have hkt : pr f.ty = [f.ty / 256, f.ty % 256] := by unfold pr; rw [show f.ty / 256 % 256 = f.ty / 256 by omega]
          have HKT := Lib.hid hkt
          clear hkt
          have hl7 : (f.dst.l ++ (f.src.l ++ f.tl)).length ≤ 16 := by have := tl_len f; simp [M6.l]; omega
          have HL7 := Lib.hid hl7
          clear hl7
          go_upto_region 19 with (at_builtin; refine wpList_appN _ rfl _ _ rfl w1.heap.size _ (f.dst.l ++ (f.src.l ++ f.tl)) (by exact rfl) (O7.out.fr0 ((Fr.refl (fun _ => False) _).alloc _)) _ _ 2 2 [f.ty / 256, f.ty % 256] rfl (by exact rfl) (by exact bytes_lit _ [f.ty / 256, f.ty % 256]) (by have := HL7.out; omega) (by simp; omega) ?_; intro v8 w8 o8 f8; have G8 := Lib.hid ((O7.out.fr0 ((Fr.refl (fun _ => False) _).alloc _)).turn (G7.out.alloc _) (Nat.le_refl _) f8); have O8 := Lib.hid o8; clear o8 f8)
          have P8 := Lib.hid (HP.out.fr (FB.out.then G8.out))
          have g8s := G8.out.size
          clear q1 q2 cy
          go_wp2_with (at_builtin; refine wpList_appN _ rfl _ _ rfl w1.heap.size _ ((f.dst.l ++ (f.src.l ++ f.tl)) ++ [f.ty / 256, f.ty % 256]) (by exact rfl) (O8.out) w8.heap.size A nb c b P8.out.len (by exact rfl) P8.out.here (by have := HL7.out; rw [List.length_append]; simp only [List.length_cons, List.length_nil]; omega) (by omega) ?_; intro v9 w9 o9 f9; have G9 := Lib.hid (O8.out.turn G8.out (Nat.le_refl _) f9); have o9' : OwnB w1.heap.size w9 v9 (f.enc b) := (by unfold Fh.enc; rw [HKT.out]; simpa only [List.append_assoc] using o9); have O9 := Lib.hid o9'; clear o9 o9' f9)
          obtain ⟨L, hL⟩ : ∃ L, (f.enc b).length = L := ⟨_, rfl⟩
          have hLb : 14 ≤ L ∧ L ≤ 300 := by have := enc_len f b; have := tl_len f; have := HP.out.len; omega
          have HLL := Lib.hid hL
          clear hL
          go_loopw [6] (fun v6 wr => ∃ j : Nat, j ≤ 60 - L ∧ OwnB w1.heap.size wr v6 (f.enc b ++ List.replicate j 0) ∧ Fr (fun _ => False) w1 wr) (fun v _ => 60 - lenV v)
          case atStart => exact ⟨0, Nat.zero_le _, by simpa using O9.out, G9.out⟩
          case round =>
            clear HG G7 G8 G9 O9 O8 O7 hgs g8s
            obtain ⟨j, hj, hO, hG⟩ := hrel
            have hln : (f.enc b ++ List.replicate j (0 : Int)).length = L + j := by rw [List.length_append, List.length_replicate, HLL.out]
            obtain ⟨gx, cx, rfl, hx0, hx1⟩ := hO.form hln (by omega)
            have HO := Lib.hid hO
            have HG := Lib.hid hG
            have HLN := Lib.hid hln
            have hgs := hG.size
            clear hO hG hln
            by_cases hlt : L + j < 60
            · have hnc : (f.enc b ++ List.replicate (j + 1) (0 : Int)) = (f.enc b ++ List.replicate j (0 : Int)) ++ [0] := by rw [List.replicate_succ', List.append_assoc]
              have HNC := Lib.hid hnc
              clear hnc
              go_wp2_with (at_builtin; refine wpList_appN _ rfl _ _ rfl w1.heap.size _ (f.enc b ++ List.replicate j (0 : Int)) (by exact rfl) (HO.out.fr0 ((Fr.refl (fun _ => False) _).alloc _)) _ _ 1 1 [0] rfl (by exact rfl) (by exact bytes_lit _ [0]) (by rw [HLN.out]; omega) (by simp; omega) ?_; intro v3 w3 o3 f3)
              have o3' : OwnB w1.heap.size w3 v3 (f.enc b ++ List.replicate (j + 1) (0 : Int)) := by rw [HNC.out]; exact o3
              have g3 := (HO.out.fr0 ((Fr.refl (fun _ => False) _).alloc _)).turn (HG.out.alloc _) (Nat.le_refl _) f3
              obtain ⟨gz, cz, rfl, hz0, hz1⟩ := o3'.form (n := L + (j + 1)) (by rw [List.length_append, List.length_replicate, HLL.out]) (by omega)
              go_roundw
              case rel => first | exact ⟨j + 1, by omega, o3', g3⟩ | ((repeat apply Exists.intro); exact ⟨⟨j + 1, by omega, o3', g3⟩, rfl⟩)
              case measure => simp [lenV]; omega
            · have hj2 : j = 60 - L := by omega
              have hjL := Lib.hid hj2
              clear hj2
              go_wp2_with fail
              go_ret2
              refine ⟨_, rfl, ?_, FB.out.then HG.out⟩
              unfold Fh.pad
              rw [HLL.out, ← hjL.out]
              exact HO.out.base (by have := HGz.out; omega)

set_option maxHeartbeats 8000000 in
set_option maxRecDepth 100000 in
theorem rencode14_true (f : Fh) (A : Option Addr) (nb c : Nat) (b : List Int) (w : World) (hm : f.may = true) (htag : f.tag = true) (hn : nb ≤ 256) (P : Pc w A nb b) :
    Calls Try.prog 14 #[.agg #[.int .u8 f.dst.a, .int .u8 f.dst.b, .int .u8 f.dst.c, .int .u8 f.dst.d, .int .u8 f.dst.e, .int .u8 f.dst.f, .int .u8 f.src.a, .int .u8 f.src.b, .int .u8 f.src.c, .int .u8 f.src.d, .int .u8 f.src.e, .int .u8 f.src.f, .bool f.tag, .int .i64 f.vlan, .int .i64 f.prio, .int .i64 f.ty], .slice A nb c] w fun e w' => ∃ v, e = .returned (.tuple #[v, .int .i64 0]) ∧ OwnB w.heap.size w' v (f.pad b) ∧ Fr (fun _ => False) w w' := by
  have HP := Lib.hid P
  have HTG := Lib.hid htag
  obtain ⟨h1, h2, h3⟩ := may_ty hm
  obtain ⟨hv0, hv1, hp0, hp1⟩ := may_tag hm htag
  have hTl : f.tl.length = 4 := tl_true htag
  have HTl := Lib.hid hTl
  rw [htag]
  clear P hm htag hTl
  go_enter Try.func14, Try.ntmps14
  go_upto_region 1 with (fail)
  have g0 : (w.alloc (.cells #[.int .u8 f.dst.a, .int .u8 f.dst.b, .int .u8 f.dst.c, .int .u8 f.dst.d, .int .u8 f.dst.e, .int .u8 f.dst.f, .int .u8 f.src.a, .int .u8 f.src.b, .int .u8 f.src.c, .int .u8 f.src.d, .int .u8 f.src.e, .int .u8 f.src.f, .bool true, .int .i64 f.vlan, .int .i64 f.prio, .int .i64 f.ty] 25)).heap[w.heap.size]? = some (.cells #[.int .u8 f.dst.a, .int .u8 f.dst.b, .int .u8 f.dst.c, .int .u8 f.dst.d, .int .u8 f.dst.e, .int .u8 f.dst.f, .int .u8 f.src.a, .int .u8 f.src.b, .int .u8 f.src.c, .int .u8 f.src.d, .int .u8 f.src.e, .int .u8 f.src.f, .bool f.tag, .int .i64 f.vlan, .int .i64 f.prio, .int .i64 f.ty] 25) := by rw [HTG.out]; exact heap_alloc_new w (.cells #[.int .u8 f.dst.a, .int .u8 f.dst.b, .int .u8 f.dst.c, .int .u8 f.dst.d, .int .u8 f.dst.e, .int .u8 f.dst.f, .int .u8 f.src.a, .int .u8 f.src.b, .int .u8 f.src.c, .int .u8 f.src.d, .int .u8 f.src.e, .int .u8 f.src.f, .bool true, .int .i64 f.vlan, .int .i64 f.prio, .int .i64 f.ty] 25)
  have FB := Lib.hid ((Fr.refl (fun _ => False) w).alloc (.cells #[.int .u8 f.dst.a, .int .u8 f.dst.b, .int .u8 f.dst.c, .int .u8 f.dst.d, .int .u8 f.dst.e, .int .u8 f.dst.f, .int .u8 f.src.a, .int .u8 f.src.b, .int .u8 f.src.c, .int .u8 f.src.d, .int .u8 f.src.e, .int .u8 f.src.f, .bool true, .int .i64 f.vlan, .int .i64 f.prio, .int .i64 f.ty] 25))
  have hz : (w.alloc (.cells #[.int .u8 f.dst.a, .int .u8 f.dst.b, .int .u8 f.dst.c, .int .u8 f.dst.d, .int .u8 f.dst.e, .int .u8 f.dst.f, .int .u8 f.src.a, .int .u8 f.src.b, .int .u8 f.src.c, .int .u8 f.src.d, .int .u8 f.src.e, .int .u8 f.src.f, .bool true, .int .i64 f.vlan, .int .i64 f.prio, .int .i64 f.ty] 25)).heap.size = w.heap.size + 1 := by simp
  have cfc := fc_of g0
  unfold Fc at cfc
  rw [HTG.out] at cfc
  generalize w.alloc (.cells #[.int .u8 f.dst.a, .int .u8 f.dst.b, .int .u8 f.dst.c, .int .u8 f.dst.d, .int .u8 f.dst.e, .int .u8 f.dst.f, .int .u8 f.src.a, .int .u8 f.src.b, .int .u8 f.src.c, .int .u8 f.src.d, .int .u8 f.src.e, .int .u8 f.src.f, .bool true, .int .i64 f.vlan, .int .i64 f.prio, .int .i64 f.ty] 25) = w1 at g0 FB hz cfc ⊢
  have HGz := Lib.hid hz
  have HC : ∀ w', Fr (fun _ => False) w1 w' → w'.cell? ⟨w.heap.size, 13, none⟩ = some (.int .i64 f.vlan) ∧ w'.cell? ⟨w.heap.size, 14, none⟩ = some (.int .i64 f.prio) ∧ w'.cell? ⟨w.heap.size, 12, none⟩ = some (.bool true) ∧ w'.cell? ⟨w.heap.size, 15, none⟩ = some (.int .i64 f.ty) := fun w' k => by
    have hc := (fc_of g0).fr k (by omega)
    unfold Fc at hc
    rw [HTG.out] at hc
    obtain ⟨x0, x1, x2, x3, x4, x5, x6, x7, x8, x9, x10, x11, x12, x13, x14, x15⟩ := hc
    exact ⟨x13, x14, x12, x15⟩
  have HD : ∀ w', Fr (fun _ => False) w1 w' → ∀ (i : Nat) y, f.dst.l[i]? = some y → w'.cell? ⟨w.heap.size, i, none⟩ = some (.int .u8 y) := fun w' k i y hy => by
    have hB := ((fc_of g0).fr k (by omega)).dstB (n₀ := w'.heap.size) (by have := k.size; omega)
    obtain ⟨b', o', e, _, hc⟩ := hB (by have := (List.getElem?_eq_some_iff.1 hy).1; omega)
    cases e
    have := hc i y hy
    rwa [Nat.zero_add] at this
  have HS : ∀ w', Fr (fun _ => False) w1 w' → ∀ (i : Nat) y, f.src.l[i]? = some y → w'.cell? ⟨w.heap.size, 6 + i, none⟩ = some (.int .u8 y) := fun w' k i y hy => by
    have hB := ((fc_of g0).fr k (by omega)).srcB (n₀ := w'.heap.size) (by have := k.size; omega)
    obtain ⟨b', o', e, _, hc⟩ := hB (by have := (List.getElem?_eq_some_iff.1 hy).1; omega)
    cases e
    exact hc i y hy
  have HC := Lib.hid HC
  have HD := Lib.hid HD
  have HS := Lib.hid HS
  clear g0 hz
  have h3b : (f.ty == 33024) = false := by simpa using h3
  have k1 : ¬ f.ty < 1536 := by omega
  have k2 : ¬ 65535 < f.ty := by omega
  go_upto_region 7 with (fail)
  clear k1 k2 cfc
  go_wp2_with fail
  go_loopw [6, 7] (fun v6 v7 wr => ∃ i : Nat, v7 = .int .i64 i ∧ i ≤ 6 ∧ OwnB w1.heap.size wr v6 (f.dst.l.take i) ∧ Fr (fun _ => False) w1 wr) (fun _ v _ => 6 - (intOf v).toNat)
  case atStart => exact ⟨0, rfl, Nat.zero_le _, OwnB.nil _ _, Fr.refl _ _⟩
  case round =>
    obtain ⟨i, rfl, hi, hO, hG⟩ := hrel
    rename World => wr
    rename Value => v6
    have HO := Lib.hid hO
    have HG := Lib.hid hG
    have hgs := hG.size
    by_cases hlt : i < 6
    · clear hO hG
      obtain ⟨y, hy⟩ : ∃ y, f.dst.l[i]? = some y := ⟨_, List.getElem?_eq_getElem (by simpa [M6.l] using hlt)⟩
      have hcy := HD.out wr HG.out i y hy
      have htk : f.dst.l.take (i + 1) = f.dst.l.take i ++ [y] := by rw [List.take_add_one, hy]; rfl
      have HT := Lib.hid htk
      have htl : (f.dst.l.take i).length + 1 ≤ 140737488355328 := by rw [List.length_take]; omega
      have HTL := Lib.hid htl
      clear hy htk htl
      go_wp2_with (at_builtin; refine wpList_appN _ rfl _ _ rfl w1.heap.size _ (f.dst.l.take i) (by exact rfl) (HO.out.fr0 ((Fr.refl (fun _ => False) _).alloc _)) _ _ 1 1 [y] rfl (by exact rfl) (by exact bytes_lit _ [y]) HTL.out (by simp; omega) ?_; intro v3 w3 o3 f3)
      go_roundw
      case rel => first | exact ⟨i + 1, by go_num, by omega, by rw [HT.out]; exact o3, (HO.out.fr0 ((Fr.refl (fun _ => False) _).alloc _)).turn (HG.out.alloc _) (Nat.le_refl _) f3⟩ | ((repeat apply Exists.intro); exact ⟨⟨i + 1, by go_num, by omega, by rw [HT.out]; exact o3, (HO.out.fr0 ((Fr.refl (fun _ => False) _).alloc _)).turn (HG.out.alloc _) (Nat.le_refl _) f3⟩, rfl⟩)
      case measure => simp [intOf]; omega
    · obtain rfl : i = 6 := by omega
      clear hO hG hlt hi
      go_wp2_with fail
      go_loopw [6, 8] (fun v6 v8 wr => ∃ i : Nat, v8 = .int .i64 i ∧ i ≤ 6 ∧ OwnB w1.heap.size wr v6 (f.dst.l ++ f.src.l.take i) ∧ Fr (fun _ => False) w1 wr) (fun _ v _ => 6 - (intOf v).toNat)
      case atStart => exact ⟨0, rfl, Nat.zero_le _, by have := HO.out; rw [all_six] at this; simpa using this, HG.out⟩
      case round =>
        clear HO HG hgs
        obtain ⟨i, rfl, hi, hO, hG⟩ := hrel
        have HO := Lib.hid hO
        have HG := Lib.hid hG
        have hgs := hG.size
        by_cases hlt : i < 6
        · clear hO hG
          obtain ⟨y, hy⟩ : ∃ y, f.src.l[i]? = some y := ⟨_, List.getElem?_eq_getElem (by simpa [M6.l] using hlt)⟩
          have hcy := HS.out _ HG.out i y hy
          have htk : f.dst.l ++ f.src.l.take (i + 1) = (f.dst.l ++ f.src.l.take i) ++ [y] := by rw [List.take_add_one, hy]; simp
          have HT := Lib.hid htk
          have htl : (f.dst.l ++ f.src.l.take i).length + 1 ≤ 140737488355328 := by rw [List.length_append, List.length_take]; simp [M6.l]; omega
          have HTL := Lib.hid htl
          clear hy htk htl
          go_wp2_with (at_builtin; refine wpList_appN _ rfl _ _ rfl w1.heap.size _ (f.dst.l ++ f.src.l.take i) (by exact rfl) (HO.out.fr0 ((Fr.refl (fun _ => False) _).alloc _)) _ _ 1 1 [y] rfl (by exact rfl) (by exact bytes_lit _ [y]) HTL.out (by simp; omega) ?_; intro v3 w3 o3 f3)
          go_roundw
          case rel => first | exact ⟨i + 1, by go_num, by omega, by rw [HT.out]; exact o3, (HO.out.fr0 ((Fr.refl (fun _ => False) _).alloc _)).turn (HG.out.alloc _) (Nat.le_refl _) f3⟩ | ((repeat apply Exists.intro); exact ⟨⟨i + 1, by go_num, by omega, by rw [HT.out]; exact o3, (HO.out.fr0 ((Fr.refl (fun _ => False) _).alloc _)).turn (HG.out.alloc _) (Nat.le_refl _) f3⟩, rfl⟩)
          case measure => simp [intOf]; omega
        · obtain rfl : i = 6 := by omega
          clear hO hG hlt hi
          obtain ⟨cv, cp, ct, cy⟩ := HC.out _ HG.out
          have hv6 : f.dst.l ++ f.src.l.take 6 = f.dst.l ++ f.src.l := by rw [all_six]
          have O6 := Lib.hid (show OwnB w1.heap.size _ _ (f.dst.l ++ f.src.l) from hv6 ▸ HO.out)
          clear hv6 HO
          have q1 : Int.tmod f.ty 256 = f.ty % 256 := Int.tmod_eq_emod_of_nonneg (by omega)
          have q2 : Int.tdiv f.ty 256 = f.ty / 256 := Int.tdiv_eq_ediv_of_nonneg (by omega)
          have q3 : Int.tmod f.vlan 256 = f.vlan % 256 := Int.tmod_eq_emod_of_nonneg (by omega)
          have q4 : Int.tdiv f.vlan 256 = f.vlan / 256 := Int.tdiv_eq_ediv_of_nonneg (by omega)
          have htl : f.tl = [129, 0, f.prio * 32 + f.vlan / 256, f.vlan % 256] := by
            unfold Fh.tl pr
            rw [if_pos HTG.out, show (f.prio * 8192 + f.vlan) / 256 % 256 = f.prio * 32 + f.vlan / 256 by omega, show (f.prio * 8192 + f.vlan) % 256 = f.vlan % 256 by omega]; rfl
          have HTLL := Lib.hid htl
          clear htl
          go_upto_region 18 with (at_builtin; refine wpList_appN _ rfl _ _ rfl w1.heap.size _ (f.dst.l ++ f.src.l) (by exact rfl) (O6.out.fr0 ((Fr.refl (fun _ => False) _).alloc _)) _ _ 4 4 [129, 0, f.prio * 32 + f.vlan / 256, f.vlan % 256] rfl (by exact rfl) (by exact bytes_lit _ [129, 0, f.prio * 32 + f.vlan / 256, f.vlan % 256]) (by simp [M6.l]) (by simp; omega) ?_; intro v7 w7 o7 f7; have G7 := Lib.hid ((O6.out.fr0 ((Fr.refl (fun _ => False) _).alloc _)).turn (HG.out.alloc _) (Nat.le_refl _) f7); have o7' : OwnB w1.heap.size w7 v7 (f.dst.l ++ (f.src.l ++ f.tl)) := (by rw [HTLL.out, ← List.append_assoc]; exact o7); have O7 := Lib.hid o7'; clear o7 o7' f7)
          clear cy ct cv cp q3 q4
          obtain ⟨cv, cp, ct, cy⟩ := HC.out _ G7.out
          have hgs7 := G7.out.size
          clear ct cv cp
          have hkt : pr f.ty = [f.ty / 256, f.ty % 256] := by unfold pr; rw [show f.ty / 256 % 256 = f.ty / 256 by omega]
          have HKT := Lib.hid hkt
          clear hkt
          have hl7 : (f.dst.l ++ (f.src.l ++ f.tl)).length ≤ 16 := by have := tl_len f; simp [M6.l]; omega
          have HL7 := Lib.hid hl7
          clear hl7
          go_upto_region 19 with (at_builtin; refine wpList_appN _ rfl _ _ rfl w1.heap.size _ (f.dst.l ++ (f.src.l ++ f.tl)) (by exact rfl) (O7.out.fr0 ((Fr.refl (fun _ => False) _).alloc _)) _ _ 2 2 [f.ty / 256, f.ty % 256] rfl (by exact rfl) (by exact bytes_lit _ [f.ty / 256, f.ty % 256]) (by have := HL7.out; omega) (by simp; omega) ?_; intro v8 w8 o8 f8; have G8 := Lib.hid ((O7.out.fr0 ((Fr.refl (fun _ => False) _).alloc _)).turn (G7.out.alloc _) (Nat.le_refl _) f8); have O8 := Lib.hid o8; clear o8 f8)
          have P8 := Lib.hid (HP.out.fr (FB.out.then G8.out))
          have g8s := G8.out.size
          clear q1 q2 cy
          go_wp2_with (at_builtin; refine wpList_appN _ rfl _ _ rfl w1.heap.size _ ((f.dst.l ++ (f.src.l ++ f.tl)) ++ [f.ty / 256, f.ty % 256]) (by exact rfl) (O8.out) w8.heap.size A nb c b P8.out.len (by exact rfl) P8.out.here (by have := HL7.out; rw [List.length_append]; simp only [List.length_cons, List.length_nil]; omega) (by omega) ?_; intro v9 w9 o9 f9; have G9 := Lib.hid (O8.out.turn G8.out (Nat.le_refl _) f9); have o9' : OwnB w1.heap.size w9 v9 (f.enc b) := (by unfold Fh.enc; rw [HKT.out]; simpa only [List.append_assoc] using o9); have O9 := Lib.hid o9'; clear o9 o9' f9)
          obtain ⟨L, hL⟩ : ∃ L, (f.enc b).length = L := ⟨_, rfl⟩
          have hLb : 14 ≤ L ∧ L ≤ 300 := by have := enc_len f b; have := tl_len f; have := HP.out.len; omega
          have HLL := Lib.hid hL
          clear hL
          go_loopw [6] (fun v6 wr => ∃ j : Nat, j ≤ 60 - L ∧ OwnB w1.heap.size wr v6 (f.enc b ++ List.replicate j 0) ∧ Fr (fun _ => False) w1 wr) (fun v _ => 60 - lenV v)
          case atStart => exact ⟨0, Nat.zero_le _, by simpa using O9.out, G9.out⟩
          case round =>
            clear HG G7 G8 G9 O9 O8 O7 hgs g8s
            obtain ⟨j, hj, hO, hG⟩ := hrel
            have hln : (f.enc b ++ List.replicate j (0 : Int)).length = L + j := by rw [List.length_append, List.length_replicate, HLL.out]
            obtain ⟨gx, cx, rfl, hx0, hx1⟩ := hO.form hln (by omega)
            have HO := Lib.hid hO
            have HG := Lib.hid hG
            have HLN := Lib.hid hln
            have hgs := hG.size
            clear hO hG hln
            by_cases hlt : L + j < 60
            · have hnc : (f.enc b ++ List.replicate (j + 1) (0 : Int)) = (f.enc b ++ List.replicate j (0 : Int)) ++ [0] := by rw [List.replicate_succ', List.append_assoc]
              have HNC := Lib.hid hnc
              clear hnc
              go_wp2_with (at_builtin; refine wpList_appN _ rfl _ _ rfl w1.heap.size _ (f.enc b ++ List.replicate j (0 : Int)) (by exact rfl) (HO.out.fr0 ((Fr.refl (fun _ => False) _).alloc _)) _ _ 1 1 [0] rfl (by exact rfl) (by exact bytes_lit _ [0]) (by rw [HLN.out]; omega) (by simp; omega) ?_; intro v3 w3 o3 f3)
              have o3' : OwnB w1.heap.size w3 v3 (f.enc b ++ List.replicate (j + 1) (0 : Int)) := by rw [HNC.out]; exact o3
              have g3 := (HO.out.fr0 ((Fr.refl (fun _ => False) _).alloc _)).turn (HG.out.alloc _) (Nat.le_refl _) f3
              obtain ⟨gz, cz, rfl, hz0, hz1⟩ := o3'.form (n := L + (j + 1)) (by rw [List.length_append, List.length_replicate, HLL.out]) (by omega)
              go_roundw
              case rel => first | exact ⟨j + 1, by omega, o3', g3⟩ | ((repeat apply Exists.intro); exact ⟨⟨j + 1, by omega, o3', g3⟩, rfl⟩)
              case measure => simp [lenV]; omega
            · have hj2 : j = 60 - L := by omega
              have hjL := Lib.hid hj2
              clear hj2
              go_wp2_with fail
              go_ret2
              refine ⟨_, rfl, ?_, FB.out.then HG.out⟩
              unfold Fh.pad
              rw [HLL.out, ← hjL.out]
              exact HO.out.base (by have := HGz.out; omega)
end Go.Proofs.Ytmonaaappimphaa

