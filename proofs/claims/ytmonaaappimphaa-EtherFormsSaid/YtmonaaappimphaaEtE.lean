/- Encode of package ether. No condition but lengths. -/
import Derived.Test.YtmonaaappimphaaEtN
import Derived.Test.YtmonaaappimphaaEtC
namespace Go.Proofs.Ytmonaaappimphaa
set_option linter.unusedVariables false
open Go.RowKit

theorem Fr.then {a b c : World} (h : Fr (fun _ => False) a b) (k : Fr (fun _ => False) b c) : Fr (fun _ => False) a c := h.trans k (fun _ _ e => e)
def Fh.may (f : Fh) : Bool := mayB f.tag f.vlan f.prio f.ty
/-- A number in two bytes. -/
def pr (n : Int) : List Int := [n / 256 % 256, n % 256]
def Fh.tl (f : Fh) : List Int := if f.tag then [129, 0] ++ pr (f.prio * 8192 + f.vlan) else []
def Fh.enc (f : Fh) (b : List Int) : List Int := f.dst.l ++ (f.src.l ++ (f.tl ++ (pr f.ty ++ b)))
def Fh.pad (f : Fh) (b : List Int) : List Int := f.enc b ++ List.replicate (60 - (f.enc b).length) 0
theorem may_tag {f : Fh} (h : f.may = true) (ht : f.tag = true) : 0 ≤ f.vlan ∧ f.vlan < 4096 ∧ 0 ≤ f.prio ∧ f.prio < 8 := by
  unfold Fh.may mayB at h
  simp [ht] at h
  omega
theorem may_ty {f : Fh} (h : f.may = true) : 1536 ≤ f.ty ∧ f.ty ≤ 65535 ∧ f.ty ≠ 33024 := by
  unfold Fh.may mayB at h
  simp at h
  omega
theorem may_plain {f : Fh} (h : f.may = true) (ht : f.tag = false) : f.vlan = 0 ∧ f.prio = 0 := by
  unfold Fh.may mayB at h
  simp [ht] at h
  omega
set_option maxHeartbeats 4000000 in
theorem may32F (f : Fh) (w : World) : Calls Try.prog 32 #[.agg #[.int .u8 f.dst.a, .int .u8 f.dst.b, .int .u8 f.dst.c, .int .u8 f.dst.d, .int .u8 f.dst.e, .int .u8 f.dst.f, .int .u8 f.src.a, .int .u8 f.src.b, .int .u8 f.src.c, .int .u8 f.src.d, .int .u8 f.src.e, .int .u8 f.src.f, .bool f.tag, .int .i64 f.vlan, .int .i64 f.prio, .int .i64 f.ty]] w fun e w' => e = .returned (.bool f.may) ∧ Fr (fun _ => False) w w' := may32 f.dst.a f.dst.b f.dst.c f.dst.d f.dst.e f.dst.f f.src.a f.src.b f.src.c f.src.d f.src.e f.src.f f.tag f.vlan f.prio f.ty w

set_option maxHeartbeats 4000000 in
set_option maxRecDepth 100000 in
theorem encode13_bad (f : Fh) (A : Option Addr) (nb c : Nat) (w : World) (hm : f.may = false) :
    Calls Try.prog 13 #[.agg #[.int .u8 f.dst.a, .int .u8 f.dst.b, .int .u8 f.dst.c, .int .u8 f.dst.d, .int .u8 f.dst.e, .int .u8 f.dst.f, .int .u8 f.src.a, .int .u8 f.src.b, .int .u8 f.src.c, .int .u8 f.src.d, .int .u8 f.src.e, .int .u8 f.src.f, .bool f.tag, .int .i64 f.vlan, .int .i64 f.prio, .int .i64 f.ty], .slice A nb c] w fun e w' => e = .returned (.tuple #[.slice none 0 0, .int .i64 1]) ∧ Fr (fun _ => False) w w' := by
  have FA := Lib.hid (Fr.refl (fun _ => False) w)
  have HM := Lib.hid hm
  clear hm
  go_enter Try.func13, Try.ntmps13
  go_wp2_with (go_at_call 32; refine (may32F f _).mono ?_; rw [HM.out]; rintro e w1 ⟨rfl, f1⟩)
  go_ret2
  exact ⟨rfl, (FA.out.alloc _).then f1⟩
set_option maxHeartbeats 4000000 in
set_option maxRecDepth 100000 in
theorem encode13_long (f : Fh) (A : Option Addr) (nb c : Nat) (w : World) (hm : f.may = true) (hn : 256 < nb) :
    Calls Try.prog 13 #[.agg #[.int .u8 f.dst.a, .int .u8 f.dst.b, .int .u8 f.dst.c, .int .u8 f.dst.d, .int .u8 f.dst.e, .int .u8 f.dst.f, .int .u8 f.src.a, .int .u8 f.src.b, .int .u8 f.src.c, .int .u8 f.src.d, .int .u8 f.src.e, .int .u8 f.src.f, .bool f.tag, .int .i64 f.vlan, .int .i64 f.prio, .int .i64 f.ty], .slice A nb c] w fun e w' => e = .returned (.tuple #[.slice none 0 0, .int .i64 2]) ∧ Fr (fun _ => False) w w' := by
  have FA := Lib.hid (Fr.refl (fun _ => False) w)
  have HM := Lib.hid hm
  clear hm
  go_enter Try.func13, Try.ntmps13
  go_wp2_with (go_at_call 32; refine (may32F f _).mono ?_; rw [HM.out]; rintro e w1 ⟨rfl, f1⟩)
  go_ret2
  exact ⟨rfl, (FA.out.alloc _).then f1⟩

/-- The head's cells stand in a block. -/
def Fc (b0 : Nat) (f : Fh) (w : World) : Prop := w.cell? ⟨b0, 0, none⟩ = some (.int .u8 f.dst.a) ∧ w.cell? ⟨b0, 1, none⟩ = some (.int .u8 f.dst.b) ∧ w.cell? ⟨b0, 2, none⟩ = some (.int .u8 f.dst.c) ∧ w.cell? ⟨b0, 3, none⟩ = some (.int .u8 f.dst.d) ∧ w.cell? ⟨b0, 4, none⟩ = some (.int .u8 f.dst.e) ∧ w.cell? ⟨b0, 5, none⟩ = some (.int .u8 f.dst.f) ∧ w.cell? ⟨b0, 6, none⟩ = some (.int .u8 f.src.a) ∧ w.cell? ⟨b0, 7, none⟩ = some (.int .u8 f.src.b) ∧ w.cell? ⟨b0, 8, none⟩ = some (.int .u8 f.src.c) ∧ w.cell? ⟨b0, 9, none⟩ = some (.int .u8 f.src.d) ∧ w.cell? ⟨b0, 10, none⟩ = some (.int .u8 f.src.e) ∧ w.cell? ⟨b0, 11, none⟩ = some (.int .u8 f.src.f) ∧ w.cell? ⟨b0, 12, none⟩ = some (.bool f.tag) ∧ w.cell? ⟨b0, 13, none⟩ = some (.int .i64 f.vlan) ∧ w.cell? ⟨b0, 14, none⟩ = some (.int .i64 f.prio) ∧ w.cell? ⟨b0, 15, none⟩ = some (.int .i64 f.ty)
theorem fc_of {w : World} {b0 : Nat} {f : Fh} (h0 : w.heap[b0]? = some (.cells #[.int .u8 f.dst.a, .int .u8 f.dst.b, .int .u8 f.dst.c, .int .u8 f.dst.d, .int .u8 f.dst.e, .int .u8 f.dst.f, .int .u8 f.src.a, .int .u8 f.src.b, .int .u8 f.src.c, .int .u8 f.src.d, .int .u8 f.src.e, .int .u8 f.src.f, .bool f.tag, .int .i64 f.vlan, .int .i64 f.prio, .int .i64 f.ty] 25)) : Fc b0 f w := by
  have c0 := cells_at w b0 [.int .u8 f.dst.a, .int .u8 f.dst.b, .int .u8 f.dst.c, .int .u8 f.dst.d, .int .u8 f.dst.e, .int .u8 f.dst.f, .int .u8 f.src.a, .int .u8 f.src.b, .int .u8 f.src.c, .int .u8 f.src.d, .int .u8 f.src.e, .int .u8 f.src.f, .bool f.tag, .int .i64 f.vlan, .int .i64 f.prio, .int .i64 f.ty] 25 h0
  exact ⟨c0 0 _ rfl, c0 1 _ rfl, c0 2 _ rfl, c0 3 _ rfl, c0 4 _ rfl, c0 5 _ rfl, c0 6 _ rfl, c0 7 _ rfl, c0 8 _ rfl, c0 9 _ rfl, c0 10 _ rfl, c0 11 _ rfl, c0 12 _ rfl, c0 13 _ rfl, c0 14 _ rfl, c0 15 _ rfl⟩
theorem Fc.fr {b0 : Nat} {f : Fh} {w w' : World} (h : Fc b0 f w) (k : Fr (fun _ => False) w w') (h0 : b0 < w.heap.size) : Fc b0 f w' := by
  have c0 : ∀ j, w'.cell? ⟨b0, j, none⟩ = w.cell? ⟨b0, j, none⟩ := fun j => World.cell?_of_block (k.block b0 h0 (fun e => e))
  unfold Fc at *
  simp only [c0]
  exact h

end Go.Proofs.Ytmonaaappimphaa
