/- The reference's Encode at heads that may not be, and at too many bytes; one contract. No condition but lengths. -/
import Derived.Test.YtmonaaappimphaaEtX
namespace Go.Proofs.Ytmonaaappimphaa
set_option linter.unusedVariables false
open Go.RowKit

set_option maxHeartbeats 8000000 in
set_option maxRecDepth 100000 in
theorem rencode14_badP (d0 d1 d2 d3 d4 d5 s0 s1 s2 s3 s4 s5 : Int) (tag : Bool) (vlan prio ty : Int) (A : Option Addr) (nb c : Nat) (w : World) (hm : mayB tag vlan prio ty = false) :
    Calls Try.prog 14 #[.agg #[.int .u8 d0, .int .u8 d1, .int .u8 d2, .int .u8 d3, .int .u8 d4, .int .u8 d5, .int .u8 s0, .int .u8 s1, .int .u8 s2, .int .u8 s3, .int .u8 s4, .int .u8 s5, .bool tag, .int .i64 vlan, .int .i64 prio, .int .i64 ty], .slice A nb c] w fun e w' => e = .returned (.tuple #[.slice none 0 0, .int .i64 1]) ∧ Fr (fun _ => False) w w' := by
  have FA := Lib.hid (Fr.refl (fun _ => False) w)
  by_cases h1 : ty < 1536
  · clear hm
    go_enter Try.func14, Try.ntmps14
    go_wp2_with fail
    go_ret2
    exact ⟨rfl, FA.out.alloc _⟩
  by_cases h2 : 65535 < ty
  · clear hm
    go_enter Try.func14, Try.ntmps14
    go_wp2_with fail
    go_ret2
    exact ⟨rfl, FA.out.alloc _⟩
  by_cases h3 : ty = 33024
  · subst h3
    clear hm
    go_enter Try.func14, Try.ntmps14
    go_wp2_with fail
    go_ret2
    exact ⟨rfl, FA.out.alloc _⟩
  have h3b : (ty == 33024) = false := by simpa using h3
  cases tag
  · by_cases h4 : vlan = 0
    · subst h4
      have h5 : ¬ prio = 0 := by
        intro e; subst e
        simp [mayB] at hm; omega
      have h5b : (prio == 0) = false := by simpa using h5
      clear hm
      go_enter Try.func14, Try.ntmps14
      go_wp2_with fail
      go_ret2
      exact ⟨rfl, FA.out.alloc _⟩
    · have h4b : (vlan == 0) = false := by simpa using h4
      clear hm
      go_enter Try.func14, Try.ntmps14
      go_wp2_with fail
      go_ret2
      exact ⟨rfl, FA.out.alloc _⟩
  · by_cases h4 : vlan < 0
    · clear hm
      go_enter Try.func14, Try.ntmps14
      go_wp2_with fail
      go_ret2
      exact ⟨rfl, FA.out.alloc _⟩
    by_cases h5 : 4095 < vlan
    · clear hm
      go_enter Try.func14, Try.ntmps14
      go_wp2_with fail
      go_ret2
      exact ⟨rfl, FA.out.alloc _⟩
    by_cases h6 : prio < 0
    · clear hm
      go_enter Try.func14, Try.ntmps14
      go_wp2_with fail
      go_ret2
      exact ⟨rfl, FA.out.alloc _⟩
    have h7 : 7 < prio := by
      simp [mayB] at hm; omega
    clear hm
    go_enter Try.func14, Try.ntmps14
    go_wp2_with fail
    go_ret2
    exact ⟨rfl, FA.out.alloc _⟩

theorem rencode14_bad (f : Fh) (A : Option Addr) (nb c : Nat) (w : World) (hm : f.may = false) :
    Calls Try.prog 14 #[.agg #[.int .u8 f.dst.a, .int .u8 f.dst.b, .int .u8 f.dst.c, .int .u8 f.dst.d, .int .u8 f.dst.e, .int .u8 f.dst.f, .int .u8 f.src.a, .int .u8 f.src.b, .int .u8 f.src.c, .int .u8 f.src.d, .int .u8 f.src.e, .int .u8 f.src.f, .bool f.tag, .int .i64 f.vlan, .int .i64 f.prio, .int .i64 f.ty], .slice A nb c] w fun e w' => e = .returned (.tuple #[.slice none 0 0, .int .i64 1]) ∧ Fr (fun _ => False) w w' :=
  rencode14_badP f.dst.a f.dst.b f.dst.c f.dst.d f.dst.e f.dst.f f.src.a f.src.b f.src.c f.src.d f.src.e f.src.f f.tag f.vlan f.prio f.ty A nb c w hm

set_option maxHeartbeats 8000000 in
set_option maxRecDepth 100000 in
theorem rencode14_longP (d0 d1 d2 d3 d4 d5 s0 s1 s2 s3 s4 s5 : Int) (tag : Bool) (vlan prio ty : Int) (A : Option Addr) (nb c : Nat) (w : World) (hm : mayB tag vlan prio ty = true) (hn : 256 < nb) :
    Calls Try.prog 14 #[.agg #[.int .u8 d0, .int .u8 d1, .int .u8 d2, .int .u8 d3, .int .u8 d4, .int .u8 d5, .int .u8 s0, .int .u8 s1, .int .u8 s2, .int .u8 s3, .int .u8 s4, .int .u8 s5, .bool tag, .int .i64 vlan, .int .i64 prio, .int .i64 ty], .slice A nb c] w fun e w' => e = .returned (.tuple #[.slice none 0 0, .int .i64 2]) ∧ Fr (fun _ => False) w w' := by
  have FA := Lib.hid (Fr.refl (fun _ => False) w)
  cases tag
  · simp [mayB] at hm
    obtain ⟨⟨h1, h2, h3⟩, h4, h5⟩ := hm
    subst h4 h5
    have h3b : (ty == 33024) = false := by simpa using h3
    go_enter Try.func14, Try.ntmps14
    go_wp2_with fail
    go_ret2
    exact ⟨rfl, FA.out.alloc _⟩
  · simp [mayB] at hm
    obtain ⟨⟨h1, h2, h3⟩, h4, h5, h6, h7⟩ := hm
    have h3b : (ty == 33024) = false := by simpa using h3
    go_enter Try.func14, Try.ntmps14
    go_wp2_with fail
    go_ret2
    exact ⟨rfl, FA.out.alloc _⟩
theorem rencode14_long (f : Fh) (A : Option Addr) (nb c : Nat) (w : World) (hm : f.may = true) (hn : 256 < nb) :
    Calls Try.prog 14 #[.agg #[.int .u8 f.dst.a, .int .u8 f.dst.b, .int .u8 f.dst.c, .int .u8 f.dst.d, .int .u8 f.dst.e, .int .u8 f.dst.f, .int .u8 f.src.a, .int .u8 f.src.b, .int .u8 f.src.c, .int .u8 f.src.d, .int .u8 f.src.e, .int .u8 f.src.f, .bool f.tag, .int .i64 f.vlan, .int .i64 f.prio, .int .i64 f.ty], .slice A nb c] w fun e w' => e = .returned (.tuple #[.slice none 0 0, .int .i64 2]) ∧ Fr (fun _ => False) w w' :=
  rencode14_longP f.dst.a f.dst.b f.dst.c f.dst.d f.dst.e f.dst.f f.src.a f.src.b f.src.c f.src.d f.src.e f.src.f f.tag f.vlan f.prio f.ty A nb c w hm hn

theorem rencode_any (f : Fh) (A : Option Addr) (nb c : Nat) (b : List Int) (w : World) (P : Pc w A nb b) :
    Calls Try.prog 14 #[.agg #[.int .u8 f.dst.a, .int .u8 f.dst.b, .int .u8 f.dst.c, .int .u8 f.dst.d, .int .u8 f.dst.e, .int .u8 f.dst.f, .int .u8 f.src.a, .int .u8 f.src.b, .int .u8 f.src.c, .int .u8 f.src.d, .int .u8 f.src.e, .int .u8 f.src.f, .bool f.tag, .int .i64 f.vlan, .int .i64 f.prio, .int .i64 f.ty], .slice A nb c] w fun e w' => ∃ v, e = .returned (.tuple #[v, .int .i64 (encK f b)]) ∧ OwnB w.heap.size w' v (encL f b) ∧ Fr (fun _ => False) w w' := by
  have hl := P.len
  cases hm : f.may
  · have k : encK f b = 1 := by unfold encK; rw [hm]; rfl
    unfold encL
    rw [k]
    refine (rencode14_bad f A nb c w hm).mono ?_
    rintro e w' ⟨h1, h2⟩
    exact ⟨_, h1, OwnB.nil _ _, h2⟩
  · by_cases hn : 256 < nb
    · have k : encK f b = 2 := by unfold encK; rw [if_pos hm, if_pos (by omega)]
      unfold encL
      rw [k]
      refine (rencode14_long f A nb c w hm hn).mono ?_
      rintro e w' ⟨h1, h2⟩
      exact ⟨_, h1, OwnB.nil _ _, h2⟩
    · have k : encK f b = 0 := by unfold encK; rw [if_pos hm, if_neg (by omega)]
      unfold encL
      rw [k]
      cases ht : f.tag
      · exact (ht ▸ rencode14_false f A nb c b w hm ht (by omega) P)
      · exact (ht ▸ rencode14_true f A nb c b w hm ht (by omega) P)
end Go.Proofs.Ytmonaaappimphaa

