/- The reference's Mine. No condition. -/
import Derived.Test.YtmonaaappimphaaEtM
namespace Go.Proofs.Ytmonaaappimphaa
set_option linter.unusedVariables false
open Go.RowKit

/-- The bytes of an address. -/
def M6.l (m : M6) : List Int := [m.a, m.b, m.c, m.d, m.e, m.f]
theorem all255 (m : M6) : (m.l.all (fun x => x == 255)) = decide (m = allM) := by
  rw [Bool.eq_iff_iff]
  cases m
  simp [M6.l, allM]
theorem all_step (m : M6) (k : Nat) (x : Int) (hx : m.l[k]? = some x) : ((m.l.take (k + 1)).all (fun x => x == 255)) = (((m.l.take k).all (fun x => x == 255)) && (x == 255)) := by
  rw [List.take_add_one, hx]; simp
theorem all_six (m : M6) : m.l.take 6 = m.l := rfl
theorem mineB_eq (f : Fh) (m : M6) (v : Int) : mineB f m v = (if ((!decide (f.dst = m) && !decide (f.dst = allM)) || (decide (f.src = m) || decide (f.src.a % 2 = 1))) = true then false else if v < 0 then (!f.tag || decide (f.vlan = 0)) else (f.tag && decide (f.vlan = v))) := by
  unfold mineB
  by_cases h1 : f.dst = m <;> by_cases h2 : f.dst = allM <;> by_cases h3 : f.src = m <;> by_cases h4 : f.src.a % 2 = 1 <;> simp [h1, h2, h3, h4]
set_option maxHeartbeats 8000000 in
set_option maxRecDepth 100000 in
theorem rmine18 (f : Fh) (m : M6) (v : Int) (w : World) (hf : f.ok) (hm : m.ok) :
    Calls Try.prog 18 #[.agg #[.int .u8 f.dst.a, .int .u8 f.dst.b, .int .u8 f.dst.c, .int .u8 f.dst.d, .int .u8 f.dst.e, .int .u8 f.dst.f, .int .u8 f.src.a, .int .u8 f.src.b, .int .u8 f.src.c, .int .u8 f.src.d, .int .u8 f.src.e, .int .u8 f.src.f, .bool f.tag, .int .i64 f.vlan, .int .i64 f.prio, .int .i64 f.ty], .agg #[.int .u8 m.a, .int .u8 m.b, .int .u8 m.c, .int .u8 m.d, .int .u8 m.e, .int .u8 m.f], .int .i64 v] w fun e w' => e = .returned (.bool (mineB f m v)) ∧ Fr (fun _ => False) w w' := by
  obtain ⟨r, hr⟩ : ∃ r, mineB f m v = r := ⟨_, rfl⟩
  rw [hr]
  have HR := Lib.hid hr
  clear hr
  have FA := Lib.hid (Fr.refl (fun _ => False) w)
  have hs := wf8_bd hf.src.a
  have e1 := fun w => neq23 hf.dst hm w
  have e3 := fun w => eql23 hf.src hm w
  obtain ⟨b1, hb1⟩ : ∃ b, decide (f.dst = m) = b := ⟨_, rfl⟩
  obtain ⟨b3, hb3⟩ : ∃ b, decide (f.src = m) = b := ⟨_, rfl⟩
  rw [hb1] at e1
  rw [hb3] at e3
  have HB := Lib.hid (And.intro hb1 hb3)
  clear hb1 hb3
  go_enter Try.func18, Try.ntmps18
  go_upto_region 1 with (fail)
  have HS := Lib.hid (show Fm w.heap.size (w.heap.size + 1) f m ((w.alloc (.cells #[.int .u8 f.dst.a, .int .u8 f.dst.b, .int .u8 f.dst.c, .int .u8 f.dst.d, .int .u8 f.dst.e, .int .u8 f.dst.f, .int .u8 f.src.a, .int .u8 f.src.b, .int .u8 f.src.c, .int .u8 f.src.d, .int .u8 f.src.e, .int .u8 f.src.f, .bool f.tag, .int .i64 f.vlan, .int .i64 f.prio, .int .i64 f.ty] 25)).alloc (.cells #[.int .u8 m.a, .int .u8 m.b, .int .u8 m.c, .int .u8 m.d, .int .u8 m.e, .int .u8 m.f] 23)) from fm_of (two_alloc _ _ _).1 (two_alloc _ _ _).2.1)
  have FB := Lib.hid ((FA.out.alloc (.cells #[.int .u8 f.dst.a, .int .u8 f.dst.b, .int .u8 f.dst.c, .int .u8 f.dst.d, .int .u8 f.dst.e, .int .u8 f.dst.f, .int .u8 f.src.a, .int .u8 f.src.b, .int .u8 f.src.c, .int .u8 f.src.d, .int .u8 f.src.e, .int .u8 f.src.f, .bool f.tag, .int .i64 f.vlan, .int .i64 f.prio, .int .i64 f.ty] 25)).alloc (.cells #[.int .u8 m.a, .int .u8 m.b, .int .u8 m.c, .int .u8 m.d, .int .u8 m.e, .int .u8 m.f] 23))
  generalize ((w.alloc (.cells #[.int .u8 f.dst.a, .int .u8 f.dst.b, .int .u8 f.dst.c, .int .u8 f.dst.d, .int .u8 f.dst.e, .int .u8 f.dst.f, .int .u8 f.src.a, .int .u8 f.src.b, .int .u8 f.src.c, .int .u8 f.src.d, .int .u8 f.src.e, .int .u8 f.src.f, .bool f.tag, .int .i64 f.vlan, .int .i64 f.prio, .int .i64 f.ty] 25)).alloc (.cells #[.int .u8 m.a, .int .u8 m.b, .int .u8 m.c, .int .u8 m.d, .int .u8 m.e, .int .u8 m.f] 23)) = w1 at HS FB ⊢
  go_wp2_with fail
  go_loopw [7, 8] (fun v7 v8 wr => ∃ (i : Nat) (b : Bool), v8 = .int .i64 i ∧ v7 = .bool b ∧ i ≤ 6 ∧ b = ((f.dst.l.take i).all (fun x => x == 255)) ∧ wr = w1) (fun _ v _ => 6 - (intOf v).toNat)
  case atStart => exact ⟨0, true, rfl, rfl, by omega, rfl, rfl⟩
  case round =>
    obtain ⟨i, b, rfl, rfl, hi, hb, rfl⟩ := hrel
    rename World => w1
    have Hb := Lib.hid hb
    clear hb
    have hc := HS.out
    unfold Fm at hc
    by_cases hlt : i < 6
    · rcases (by omega : i = 0 ∨ i = 1 ∨ i = 2 ∨ i = 3 ∨ i = 4 ∨ i = 5) with rfl | rfl | rfl | rfl | rfl | rfl
      · clear hi hlt
        cases b
        all_goals go_wp2_with fail
        all_goals exact ⟨⟨1, _, rfl, rfl, by omega, by rw [all_step _ 0 _ rfl, ← Hb.out]; rfl, trivial⟩, by simp [intOf]⟩
      · clear hi hlt
        cases b
        all_goals go_wp2_with fail
        all_goals exact ⟨⟨2, _, rfl, rfl, by omega, by rw [all_step _ 1 _ rfl, ← Hb.out]; rfl, trivial⟩, by simp [intOf]⟩
      · clear hi hlt
        cases b
        all_goals go_wp2_with fail
        all_goals exact ⟨⟨3, _, rfl, rfl, by omega, by rw [all_step _ 2 _ rfl, ← Hb.out]; rfl, trivial⟩, by simp [intOf]⟩
      · clear hi hlt
        cases b
        all_goals go_wp2_with fail
        all_goals exact ⟨⟨4, _, rfl, rfl, by omega, by rw [all_step _ 3 _ rfl, ← Hb.out]; rfl, trivial⟩, by simp [intOf]⟩
      · clear hi hlt
        cases b
        all_goals go_wp2_with fail
        all_goals exact ⟨⟨5, _, rfl, rfl, by omega, by rw [all_step _ 4 _ rfl, ← Hb.out]; rfl, trivial⟩, by simp [intOf]⟩
      · clear hi hlt
        cases b
        all_goals go_wp2_with fail
        all_goals exact ⟨⟨6, _, rfl, rfl, by omega, by rw [all_step _ 5 _ rfl, ← Hb.out]; rfl, trivial⟩, by simp [intOf]⟩
    · obtain rfl : i = 6 := by omega
      have hb2 : b = decide (f.dst = allM) := by rw [← all255, ← all_six]; exact Hb.out
      have HB2 := Lib.hid hb2
      clear hb2 hi hlt
      have ht : f.src.a.tmod 2 = f.src.a % 2 := Int.tmod_eq_emod_of_nonneg hs.1
      have hbt := Int.emod_two_eq f.src.a
      have Hbt := Lib.hid hbt
      clear hbt
      cases b3
      case true =>
        clear ht
        cases b1
        · cases b
          all_goals (
            go_wp2_with fail
            go_ret
            refine ⟨?_, FB.out⟩
            rw [← HR.out, mineB_eq, HB.out.1, HB.out.2, ← HB2.out]
            clear hc e1 e3
            simp)
        · cases b
          all_goals (
            go_wp2_with fail
            go_ret
            refine ⟨?_, FB.out⟩
            rw [← HR.out, mineB_eq, HB.out.1, HB.out.2, ← HB2.out]
            clear hc e1 e3
            simp)
      case false =>
        rcases Hbt.out with hbit | hbit
        case inr =>
          rw [hbit] at ht
          have hbit := Lib.hid hbit
          cases b1
          · cases b
            all_goals (
              go_wp2_with fail
              go_ret
              refine ⟨?_, FB.out⟩
              rw [← HR.out, mineB_eq, HB.out.1, HB.out.2, ← HB2.out]
              clear hc e1 e3
              simp [hbit.out])
          · cases b
            all_goals (
              go_wp2_with fail
              go_ret
              refine ⟨?_, FB.out⟩
              rw [← HR.out, mineB_eq, HB.out.1, HB.out.2, ← HB2.out]
              clear hc e1 e3
              simp [hbit.out])
        case inl =>
          rw [hbit] at ht
          have hbit := Lib.hid hbit
          by_cases hv : v < 0
          all_goals cases htag : f.tag
          all_goals rw [htag] at hc
          all_goals have htag := Lib.hid htag
          all_goals cases b1
          all_goals cases b
          all_goals (
            go_wp2_with fail
            go_ret
            refine ⟨?_, FB.out⟩
            rw [← HR.out, mineB_eq, HB.out.1, HB.out.2, ← HB2.out]
            clear hc e1 e3
            rw [htag.out]
            simp [hbit.out, hv]
            try first | rfl | (rw [if_neg (by omega)]; rfl))
end Go.Proofs.Ytmonaaappimphaa
