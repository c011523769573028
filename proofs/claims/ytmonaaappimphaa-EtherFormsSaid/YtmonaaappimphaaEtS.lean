/- The walk of packhorselaw07.EtherPads. No condition but lengths. -/
import Derived.Test.YtmonaaappimphaaEtO
import Derived.Deep.MidRow
namespace Go.Proofs.Ytmonaaappimphaa
set_option linter.unusedVariables false
open Go.RowKit

set_option maxHeartbeats 8000000 in
set_option maxRecDepth 100000 in
theorem pads7_bad (f : Fh) (A : Option Addr) (nb cap : Nat) (k : Int) (w : World) (hk : k = 1 ∨ k = 2)
    (HE : ∀ w, Calls Try.prog 13 #[.agg #[.int .u8 f.dst.a, .int .u8 f.dst.b, .int .u8 f.dst.c, .int .u8 f.dst.d, .int .u8 f.dst.e, .int .u8 f.dst.f, .int .u8 f.src.a, .int .u8 f.src.b, .int .u8 f.src.c, .int .u8 f.src.d, .int .u8 f.src.e, .int .u8 f.src.f, .bool f.tag, .int .i64 f.vlan, .int .i64 f.prio, .int .i64 f.ty], .slice A nb cap] w fun e w' => e = .returned (.tuple #[.slice none 0 0, .int .i64 k]) ∧ Fr (fun _ => False) w w') :
    Calls Try.prog 7 #[.agg #[.int .u8 f.dst.a, .int .u8 f.dst.b, .int .u8 f.dst.c, .int .u8 f.dst.d, .int .u8 f.dst.e, .int .u8 f.dst.f, .int .u8 f.src.a, .int .u8 f.src.b, .int .u8 f.src.c, .int .u8 f.src.d, .int .u8 f.src.e, .int .u8 f.src.f, .bool f.tag, .int .i64 f.vlan, .int .i64 f.prio, .int .i64 f.ty], .slice A nb cap] w fun e w' => e = .returned (.bool true) ∧ Fr (fun _ => False) w w' := by
  have HE := Lib.hid HE
  have FA := Lib.hid (Fr.refl (fun _ => False) w)
  go_enter Try.func7, Try.ntmps7
  go_upto_region 1 with (fail)
  have g0 := heap_alloc_new w (.cells #[.int .u8 f.dst.a, .int .u8 f.dst.b, .int .u8 f.dst.c, .int .u8 f.dst.d, .int .u8 f.dst.e, .int .u8 f.dst.f, .int .u8 f.src.a, .int .u8 f.src.b, .int .u8 f.src.c, .int .u8 f.src.d, .int .u8 f.src.e, .int .u8 f.src.f, .bool f.tag, .int .i64 f.vlan, .int .i64 f.prio, .int .i64 f.ty] 25)
  have FB := Lib.hid (FA.out.alloc (.cells #[.int .u8 f.dst.a, .int .u8 f.dst.b, .int .u8 f.dst.c, .int .u8 f.dst.d, .int .u8 f.dst.e, .int .u8 f.dst.f, .int .u8 f.src.a, .int .u8 f.src.b, .int .u8 f.src.c, .int .u8 f.src.d, .int .u8 f.src.e, .int .u8 f.src.f, .bool f.tag, .int .i64 f.vlan, .int .i64 f.prio, .int .i64 f.ty] 25))
  have hz : w.heap.size < (w.alloc (.cells #[.int .u8 f.dst.a, .int .u8 f.dst.b, .int .u8 f.dst.c, .int .u8 f.dst.d, .int .u8 f.dst.e, .int .u8 f.dst.f, .int .u8 f.src.a, .int .u8 f.src.b, .int .u8 f.src.c, .int .u8 f.src.d, .int .u8 f.src.e, .int .u8 f.src.f, .bool f.tag, .int .i64 f.vlan, .int .i64 f.prio, .int .i64 f.ty] 25)).heap.size := by simp
  generalize w.alloc (.cells #[.int .u8 f.dst.a, .int .u8 f.dst.b, .int .u8 f.dst.c, .int .u8 f.dst.d, .int .u8 f.dst.e, .int .u8 f.dst.f, .int .u8 f.src.a, .int .u8 f.src.b, .int .u8 f.src.c, .int .u8 f.src.d, .int .u8 f.src.e, .int .u8 f.src.f, .bool f.tag, .int .i64 f.vlan, .int .i64 f.prio, .int .i64 f.ty] 25) = w1 at g0 hz FB ⊢
  have HG := Lib.hid (And.intro g0 hz)
  clear g0 hz
  go_upto_region 2 with (go_at_call 12; refine (awake12 _).mono ?_; rintro e w2 ⟨rfl, f2⟩; have F2 := Lib.hid f2; clear f2)
  have HA : ∀ w', Fr (fun _ => False) w2 w' → (w'.cell? ⟨w.heap.size, 0, none⟩ = some (.int .u8 f.dst.a) ∧ w'.cell? ⟨w.heap.size, 1, none⟩ = some (.int .u8 f.dst.b) ∧ w'.cell? ⟨w.heap.size, 2, none⟩ = some (.int .u8 f.dst.c) ∧ w'.cell? ⟨w.heap.size, 3, none⟩ = some (.int .u8 f.dst.d) ∧ w'.cell? ⟨w.heap.size, 4, none⟩ = some (.int .u8 f.dst.e) ∧ w'.cell? ⟨w.heap.size, 5, none⟩ = some (.int .u8 f.dst.f) ∧ w'.cell? ⟨w.heap.size, 6, none⟩ = some (.int .u8 f.src.a) ∧ w'.cell? ⟨w.heap.size, 7, none⟩ = some (.int .u8 f.src.b) ∧ w'.cell? ⟨w.heap.size, 8, none⟩ = some (.int .u8 f.src.c) ∧ w'.cell? ⟨w.heap.size, 9, none⟩ = some (.int .u8 f.src.d) ∧ w'.cell? ⟨w.heap.size, 10, none⟩ = some (.int .u8 f.src.e) ∧ w'.cell? ⟨w.heap.size, 11, none⟩ = some (.int .u8 f.src.f) ∧ w'.cell? ⟨w.heap.size, 12, none⟩ = some (.bool f.tag) ∧ w'.cell? ⟨w.heap.size, 13, none⟩ = some (.int .i64 f.vlan) ∧ w'.cell? ⟨w.heap.size, 14, none⟩ = some (.int .i64 f.prio) ∧ w'.cell? ⟨w.heap.size, 15, none⟩ = some (.int .i64 f.ty)) := fun w' k => by
    obtain ⟨g0, hz⟩ := HG.out
    have q0 := cells_at w' w.heap.size [.int .u8 f.dst.a, .int .u8 f.dst.b, .int .u8 f.dst.c, .int .u8 f.dst.d, .int .u8 f.dst.e, .int .u8 f.dst.f, .int .u8 f.src.a, .int .u8 f.src.b, .int .u8 f.src.c, .int .u8 f.src.d, .int .u8 f.src.e, .int .u8 f.src.f, .bool f.tag, .int .i64 f.vlan, .int .i64 f.prio, .int .i64 f.ty] 25 (((F2.out.then k).block _ hz (fun e => e)).trans g0)
    exact ⟨q0 0 _ rfl, q0 1 _ rfl, q0 2 _ rfl, q0 3 _ rfl, q0 4 _ rfl, q0 5 _ rfl, q0 6 _ rfl, q0 7 _ rfl, q0 8 _ rfl, q0 9 _ rfl, q0 10 _ rfl, q0 11 _ rfl, q0 12 _ rfl, q0 13 _ rfl, q0 14 _ rfl, q0 15 _ rfl⟩
  have HL : ∀ w', Fr (fun _ => False) w2 w' → w'.rangeAt w.heap.size 0 [.int .u8 f.dst.a, .int .u8 f.dst.b, .int .u8 f.dst.c, .int .u8 f.dst.d, .int .u8 f.dst.e, .int .u8 f.dst.f, .int .u8 f.src.a, .int .u8 f.src.b, .int .u8 f.src.c, .int .u8 f.src.d, .int .u8 f.src.e, .int .u8 f.src.f, .bool f.tag, .int .i64 f.vlan, .int .i64 f.prio, .int .i64 f.ty] := fun w' k => range16 (HA w' k)
  have HT : ∀ w', Fr (fun _ => False) w2 w' → w'.cell? ⟨w.heap.size, 12, none⟩ = some (.bool f.tag) := fun w' k => by
    obtain ⟨x0, x1, x2, x3, x4, x5, x6, x7, x8, x9, x10, x11, x12, x13, x14, x15⟩ := HA w' k
    exact x12
  have HL := Lib.hid HL
  have HT := Lib.hid HT
  clear HA
  go_step
  refine wpList_load_mid rfl 25 _ rfl w.heap.size 0 rfl [.int .u8 f.dst.a, .int .u8 f.dst.b, .int .u8 f.dst.c, .int .u8 f.dst.d, .int .u8 f.dst.e, .int .u8 f.dst.f, .int .u8 f.src.a, .int .u8 f.src.b, .int .u8 f.src.c, .int .u8 f.src.d, .int .u8 f.src.e, .int .u8 f.src.f, .bool f.tag, .int .i64 f.vlan, .int .i64 f.prio, .int .i64 f.ty] _ (HL.out _ (Fr.refl _ w2)) Try.underlying25 rfl (by kernel_rfl) ?_
  clear HT HL
  have hk0 : decide (k = 0) = false := decide_eq_false (by omega)
  have hk1 : ¬ k = 0 := by omega
  go_wp2_with (go_at_call 13; refine (HE.out _).mono ?_; rintro e w3 ⟨rfl, f3⟩; have F3 := Lib.hid f3; clear f3)
  go_ret
  exact ⟨rfl, FB.out.then (F2.out.then F3.out)⟩

theorem pad_get (f : Fh) (b : List Int) (i : Nat) (h0 : 14 + f.tl.length + b.length ≤ i) (h1 : i < (f.pad b).length) : (f.pad b)[i]? = some 0 := by
  unfold Fh.pad at h1 ⊢
  rw [List.length_append, List.length_replicate] at h1
  have := enc_len f b
  rw [List.getElem?_append_right (by omega), List.getElem?_replicate_of_lt (by omega)]
theorem pad_len (f : Fh) (b : List Int) : (f.pad b).length = max 60 (14 + f.tl.length + b.length) := by
  unfold Fh.pad
  rw [List.length_append, List.length_replicate, enc_len]; omega
theorem pad_mid (f : Fh) (b : List Int) : ∃ r, (f.pad b).drop (14 + f.tl.length) = b ++ r := by
  refine ⟨List.replicate (60 - (f.enc b).length) 0, ?_⟩
  unfold Fh.pad Fh.enc
  rw [show f.dst.l ++ (f.src.l ++ (f.tl ++ (pr f.ty ++ b))) = (f.dst.l ++ f.src.l ++ f.tl ++ pr f.ty) ++ b by simp only [List.append_assoc], List.append_assoc, List.drop_left' (by simp [M6.l, pr]; omega)]
theorem tl_true {f : Fh} (h : f.tag = true) : f.tl.length = 4 := by unfold Fh.tl; rw [h]; rfl
theorem tl_false {f : Fh} (h : f.tag = false) : f.tl.length = 0 := by unfold Fh.tl; rw [h]; rfl

set_option maxHeartbeats 8000000 in
set_option maxRecDepth 100000 in
theorem pads7_ok (f : Fh) (A : Option Addr) (nb cap : Nat) (b : List Int) (h N : Nat) (w : World) (hm : f.may = true) (hn : nb ≤ 256) (P : Pc w A nb b) (hcp : nb ≤ cap) (hct : cap ≤ 140737488351232)
    (ht : h = 14 + f.tl.length) (hN : N = max 60 (h + nb)) :
    Calls Try.prog 7 #[.agg #[.int .u8 f.dst.a, .int .u8 f.dst.b, .int .u8 f.dst.c, .int .u8 f.dst.d, .int .u8 f.dst.e, .int .u8 f.dst.f, .int .u8 f.src.a, .int .u8 f.src.b, .int .u8 f.src.c, .int .u8 f.src.d, .int .u8 f.src.e, .int .u8 f.src.f, .bool f.tag, .int .i64 f.vlan, .int .i64 f.prio, .int .i64 f.ty], .slice A nb cap] w fun e w' => e = .returned (.bool true) ∧ Fr (fun _ => False) w w' := by
  have HM := Lib.hid hm
  have HP := Lib.hid P
  have PN : (f.pad b).length = N := by rw [pad_len, hN, ht, P.len]
  have PN := Lib.hid PN
  have PM := Lib.hid (pad_mid f b)
  have PG := Lib.hid (pad_get f b)
  have HH := Lib.hid ht
  have HN := Lib.hid hN
  clear hm P hN ht
  have FA := Lib.hid (Fr.refl (fun _ => False) w)
  go_enter Try.func7, Try.ntmps7
  go_upto_region 1 with (fail)
  have g0 := heap_alloc_new w (.cells #[.int .u8 f.dst.a, .int .u8 f.dst.b, .int .u8 f.dst.c, .int .u8 f.dst.d, .int .u8 f.dst.e, .int .u8 f.dst.f, .int .u8 f.src.a, .int .u8 f.src.b, .int .u8 f.src.c, .int .u8 f.src.d, .int .u8 f.src.e, .int .u8 f.src.f, .bool f.tag, .int .i64 f.vlan, .int .i64 f.prio, .int .i64 f.ty] 25)
  have FB := Lib.hid (FA.out.alloc (.cells #[.int .u8 f.dst.a, .int .u8 f.dst.b, .int .u8 f.dst.c, .int .u8 f.dst.d, .int .u8 f.dst.e, .int .u8 f.dst.f, .int .u8 f.src.a, .int .u8 f.src.b, .int .u8 f.src.c, .int .u8 f.src.d, .int .u8 f.src.e, .int .u8 f.src.f, .bool f.tag, .int .i64 f.vlan, .int .i64 f.prio, .int .i64 f.ty] 25))
  have hz : w.heap.size < (w.alloc (.cells #[.int .u8 f.dst.a, .int .u8 f.dst.b, .int .u8 f.dst.c, .int .u8 f.dst.d, .int .u8 f.dst.e, .int .u8 f.dst.f, .int .u8 f.src.a, .int .u8 f.src.b, .int .u8 f.src.c, .int .u8 f.src.d, .int .u8 f.src.e, .int .u8 f.src.f, .bool f.tag, .int .i64 f.vlan, .int .i64 f.prio, .int .i64 f.ty] 25)).heap.size := by simp
  generalize w.alloc (.cells #[.int .u8 f.dst.a, .int .u8 f.dst.b, .int .u8 f.dst.c, .int .u8 f.dst.d, .int .u8 f.dst.e, .int .u8 f.dst.f, .int .u8 f.src.a, .int .u8 f.src.b, .int .u8 f.src.c, .int .u8 f.src.d, .int .u8 f.src.e, .int .u8 f.src.f, .bool f.tag, .int .i64 f.vlan, .int .i64 f.prio, .int .i64 f.ty] 25) = w1 at g0 hz FB ⊢
  have HG := Lib.hid (And.intro g0 hz)
  clear g0 hz
  go_upto_region 2 with (go_at_call 12; refine (awake12 _).mono ?_; rintro e w2 ⟨rfl, f2⟩; have F2 := Lib.hid f2; clear f2)
  have HA : ∀ w', Fr (fun _ => False) w2 w' → (w'.cell? ⟨w.heap.size, 0, none⟩ = some (.int .u8 f.dst.a) ∧ w'.cell? ⟨w.heap.size, 1, none⟩ = some (.int .u8 f.dst.b) ∧ w'.cell? ⟨w.heap.size, 2, none⟩ = some (.int .u8 f.dst.c) ∧ w'.cell? ⟨w.heap.size, 3, none⟩ = some (.int .u8 f.dst.d) ∧ w'.cell? ⟨w.heap.size, 4, none⟩ = some (.int .u8 f.dst.e) ∧ w'.cell? ⟨w.heap.size, 5, none⟩ = some (.int .u8 f.dst.f) ∧ w'.cell? ⟨w.heap.size, 6, none⟩ = some (.int .u8 f.src.a) ∧ w'.cell? ⟨w.heap.size, 7, none⟩ = some (.int .u8 f.src.b) ∧ w'.cell? ⟨w.heap.size, 8, none⟩ = some (.int .u8 f.src.c) ∧ w'.cell? ⟨w.heap.size, 9, none⟩ = some (.int .u8 f.src.d) ∧ w'.cell? ⟨w.heap.size, 10, none⟩ = some (.int .u8 f.src.e) ∧ w'.cell? ⟨w.heap.size, 11, none⟩ = some (.int .u8 f.src.f) ∧ w'.cell? ⟨w.heap.size, 12, none⟩ = some (.bool f.tag) ∧ w'.cell? ⟨w.heap.size, 13, none⟩ = some (.int .i64 f.vlan) ∧ w'.cell? ⟨w.heap.size, 14, none⟩ = some (.int .i64 f.prio) ∧ w'.cell? ⟨w.heap.size, 15, none⟩ = some (.int .i64 f.ty)) := fun w' k => by
    obtain ⟨g0, hz⟩ := HG.out
    have q0 := cells_at w' w.heap.size [.int .u8 f.dst.a, .int .u8 f.dst.b, .int .u8 f.dst.c, .int .u8 f.dst.d, .int .u8 f.dst.e, .int .u8 f.dst.f, .int .u8 f.src.a, .int .u8 f.src.b, .int .u8 f.src.c, .int .u8 f.src.d, .int .u8 f.src.e, .int .u8 f.src.f, .bool f.tag, .int .i64 f.vlan, .int .i64 f.prio, .int .i64 f.ty] 25 (((F2.out.then k).block _ hz (fun e => e)).trans g0)
    exact ⟨q0 0 _ rfl, q0 1 _ rfl, q0 2 _ rfl, q0 3 _ rfl, q0 4 _ rfl, q0 5 _ rfl, q0 6 _ rfl, q0 7 _ rfl, q0 8 _ rfl, q0 9 _ rfl, q0 10 _ rfl, q0 11 _ rfl, q0 12 _ rfl, q0 13 _ rfl, q0 14 _ rfl, q0 15 _ rfl⟩
  have HL : ∀ w', Fr (fun _ => False) w2 w' → w'.rangeAt w.heap.size 0 [.int .u8 f.dst.a, .int .u8 f.dst.b, .int .u8 f.dst.c, .int .u8 f.dst.d, .int .u8 f.dst.e, .int .u8 f.dst.f, .int .u8 f.src.a, .int .u8 f.src.b, .int .u8 f.src.c, .int .u8 f.src.d, .int .u8 f.src.e, .int .u8 f.src.f, .bool f.tag, .int .i64 f.vlan, .int .i64 f.prio, .int .i64 f.ty] := fun w' k => range16 (HA w' k)
  have HT : ∀ w', Fr (fun _ => False) w2 w' → w'.cell? ⟨w.heap.size, 12, none⟩ = some (.bool f.tag) := fun w' k => by
    obtain ⟨x0, x1, x2, x3, x4, x5, x6, x7, x8, x9, x10, x11, x12, x13, x14, x15⟩ := HA w' k
    exact x12
  have HL := Lib.hid HL
  have HT := Lib.hid HT
  clear HA
  go_step
  refine wpList_load_mid rfl 25 _ rfl w.heap.size 0 rfl [.int .u8 f.dst.a, .int .u8 f.dst.b, .int .u8 f.dst.c, .int .u8 f.dst.d, .int .u8 f.dst.e, .int .u8 f.dst.f, .int .u8 f.src.a, .int .u8 f.src.b, .int .u8 f.src.c, .int .u8 f.src.d, .int .u8 f.src.e, .int .u8 f.src.f, .bool f.tag, .int .i64 f.vlan, .int .i64 f.prio, .int .i64 f.ty] _ (HL.out _ (Fr.refl _ w2)) Try.underlying25 rfl (by kernel_rfl) ?_
  go_upto_region 3 with (go_at_call 13; refine (encode13_ok f A nb cap b _ HM.out hn (HP.out.fr (FB.out.then F2.out))).mono ?_; rintro e w3 ⟨v, rfl, o3, f3⟩; have F3 := Lib.hid f3; obtain ⟨g, c, rfl, hg0, hg1⟩ := o3.form PN.out (by have := HN.out; omega); have O3 := Lib.hid o3; clear o3 f3)
  have ht3 := HT.out _ F3.out
  have G3 := Lib.hid (FB.out.then (F2.out.then F3.out))
  have P3 := Lib.hid (HP.out.fr G3.out)
  have bx : BytesIn w3.heap.size w3 (some ⟨g, h, none⟩) b := by
    obtain ⟨A1, c1, e1, b1⟩ := O3.out.viewN PN.out
    cases e1
    obtain ⟨r, hr⟩ := PM.out
    have b2 := b1.drop (14 + f.tl.length)
    rw [hr, Nat.zero_add, ← HH.out] at b2
    exact b2.left
  have BX := Lib.hid bx
  have hNc : N ≤ c := by
    obtain ⟨A', c', hv, _, h, _⟩ := O3.out.cap PN.out
    cases hv
    exact h
  clear bx
  have hcl := HP.out.len
  have kb : ∀ j, (convert 26 9 (.slice A nb cap)).run Try.prog (w3.drewN j) = .ok (.string (strOfNums b)) (w3.drewN j) := fun j => by
    have := str_bytes (n₀ := w3.heap.size) (w := w3.drewN j) cap (l := b) (A := A) (by exact P3.out.here)
    rw [hcl] at this; exact this
  have kx : ∀ j, (convert 26 9 (.slice (some ⟨g, h, none⟩) nb (c - h))).run Try.prog (w3.drewN j) = .ok (.string (strOfNums b)) (w3.drewN j) := fun j => by
    have := str_bytes (n₀ := w3.heap.size) (w := w3.drewN j) (c - h) (l := b) (A := some ⟨g, h, none⟩) (by exact BX.out)
    rw [hcl] at this; exact this
  have KB := Lib.hid kb
  have KX := Lib.hid kx
  clear kb kx hcl
  cases htag : f.tag
  · rw [htag] at ht3
    obtain rfl : h = 14 := by rw [HH.out, tl_false htag]
    have HTL := Lib.hid (tl_false htag)
    clear htag
    go_upto_region 8 with (fail)
    by_cases hgt : 60 < 14 + nb
    · obtain rfl : N = 14 + nb := by have := HN.out; omega
      have kb := KB.out
      have kx := KX.out
      have q1 : decide (14 + (nb : Int) < 60) = false := decide_eq_false (by omega)
      have q2 : decide (274 < 14 + (nb : Int)) = false := decide_eq_false (by omega)
      have q3 : decide (60 < 14 + (nb : Int)) = true := decide_eq_true (by omega)
      have q4 : decide (14 + (nb : Int) ≤ 60) = false := decide_eq_false (by omega)
      go_quiet (fail)
      clear kb kx q1 q2 q3 q4
      have G4 := Lib.hid (G3.out.drewN nq)
      have O4 := Lib.hid (O3.out.fr0 ((Fr.refl (fun _ => False) w3).drewN nq))
      generalize w3.drewN nq = w4 at G4 O4 ⊢
      clear O3 P3 ht3 G3 HT HL BX KB KX F3
      go_wp2_with fail
      go_loopw [9] (fun v wr => ∃ i : Nat, v = .int .i64 i ∧ 14 + nb ≤ i ∧ i ≤ (14 + nb) ∧ wr = w4) (fun v _ => (14 + nb) - (intOf v).toNat)
      case atStart => exact ⟨14 + nb, by go_num, Nat.le_refl _, by omega, rfl⟩
      case round =>
        obtain ⟨i, rfl, hi0, hi, rfl⟩ := hrel
        rename World => w4
        by_cases hlt : i < (14 + nb)
        · exact absurd hlt (by omega)
        · obtain rfl : i = (14 + nb) := by omega
          go_wp2_with fail
          go_ret
          exact ⟨rfl, G4.out⟩
    · obtain rfl : N = 60 := by have := HN.out; omega
      have kb := KB.out
      have kx := KX.out
      have q3 : decide (60 < 14 + (nb : Int)) = false := decide_eq_false (by omega)
      have q4 : decide (14 + (nb : Int) ≤ 60) = true := decide_eq_true (by omega)
      go_quiet (fail)
      clear kb kx q3 q4
      have G4 := Lib.hid (G3.out.drewN nq)
      have O4 := Lib.hid (O3.out.fr0 ((Fr.refl (fun _ => False) w3).drewN nq))
      generalize w3.drewN nq = w4 at G4 O4 ⊢
      clear O3 P3 ht3 G3 HT HL BX KB KX F3
      go_wp2_with fail
      go_loopw [9] (fun v wr => ∃ i : Nat, v = .int .i64 i ∧ 14 + nb ≤ i ∧ i ≤ 60 ∧ wr = w4) (fun v _ => 60 - (intOf v).toNat)
      case atStart => exact ⟨14 + nb, by go_num, Nat.le_refl _, by omega, rfl⟩
      case round =>
        obtain ⟨i, rfl, hi0, hi, rfl⟩ := hrel
        rename World => w4
        by_cases hlt : i < 60
        · have x1 : (f.pad b)[i]? = some 0 := PG.out i (by rw [HTL.out, HP.out.len]; omega) (by rw [PN.out]; exact hlt)
          have x2 := (O4.out.cell x1).1
          clear x1
          go_wp2_with fail
          go_roundw
          case rel => exact ⟨i + 1, by go_num, by omega, by omega, by trivial⟩
          case measure => simp [intOf]; omega
        · obtain rfl : i = 60 := by omega
          go_wp2_with fail
          go_ret
          exact ⟨rfl, G4.out⟩
  · rw [htag] at ht3
    obtain rfl : h = 18 := by rw [HH.out, tl_true htag]
    have HTL := Lib.hid (tl_true htag)
    clear htag
    have hx18 : (14 : Int) + (nb : Int) + 4 = 18 + (nb : Int) := by omega
    go_upto_region 8 with (fail)
    by_cases hgt : 60 < 18 + nb
    · obtain rfl : N = 18 + nb := by have := HN.out; omega
      have kb := KB.out
      have kx := KX.out
      have q1 : decide (18 + (nb : Int) < 60) = false := decide_eq_false (by omega)
      have q2 : decide (274 < 18 + (nb : Int)) = false := decide_eq_false (by omega)
      have q3 : decide (60 < 18 + (nb : Int)) = true := decide_eq_true (by omega)
      have q4 : decide (18 + (nb : Int) ≤ 60) = false := decide_eq_false (by omega)
      go_quiet (fail)
      clear kb kx q1 q2 q3 q4
      have G4 := Lib.hid (G3.out.drewN nq)
      have O4 := Lib.hid (O3.out.fr0 ((Fr.refl (fun _ => False) w3).drewN nq))
      generalize w3.drewN nq = w4 at G4 O4 ⊢
      clear O3 P3 ht3 G3 HT HL BX KB KX F3
      go_wp2_with fail
      go_loopw [9] (fun v wr => ∃ i : Nat, v = .int .i64 i ∧ 18 + nb ≤ i ∧ i ≤ (18 + nb) ∧ wr = w4) (fun v _ => (18 + nb) - (intOf v).toNat)
      case atStart => exact ⟨18 + nb, by go_num, Nat.le_refl _, by omega, rfl⟩
      case round =>
        obtain ⟨i, rfl, hi0, hi, rfl⟩ := hrel
        rename World => w4
        by_cases hlt : i < (18 + nb)
        · exact absurd hlt (by omega)
        · obtain rfl : i = (18 + nb) := by omega
          go_wp2_with fail
          go_ret
          exact ⟨rfl, G4.out⟩
    · obtain rfl : N = 60 := by have := HN.out; omega
      have kb := KB.out
      have kx := KX.out
      have q3 : decide (60 < 18 + (nb : Int)) = false := decide_eq_false (by omega)
      have q4 : decide (18 + (nb : Int) ≤ 60) = true := decide_eq_true (by omega)
      go_quiet (fail)
      clear kb kx q3 q4
      have G4 := Lib.hid (G3.out.drewN nq)
      have O4 := Lib.hid (O3.out.fr0 ((Fr.refl (fun _ => False) w3).drewN nq))
      generalize w3.drewN nq = w4 at G4 O4 ⊢
      clear O3 P3 ht3 G3 HT HL BX KB KX F3
      go_wp2_with fail
      go_loopw [9] (fun v wr => ∃ i : Nat, v = .int .i64 i ∧ 18 + nb ≤ i ∧ i ≤ 60 ∧ wr = w4) (fun v _ => 60 - (intOf v).toNat)
      case atStart => exact ⟨18 + nb, by go_num, Nat.le_refl _, by omega, rfl⟩
      case round =>
        obtain ⟨i, rfl, hi0, hi, rfl⟩ := hrel
        rename World => w4
        by_cases hlt : i < 60
        · have x1 : (f.pad b)[i]? = some 0 := PG.out i (by rw [HTL.out, HP.out.len]; omega) (by rw [PN.out]; exact hlt)
          have x2 := (O4.out.cell x1).1
          clear x1
          go_wp2_with fail
          go_roundw
          case rel => exact ⟨i + 1, by go_num, by omega, by omega, by trivial⟩
          case measure => simp [intOf]; omega
        · obtain rfl : i = 60 := by omega
          go_wp2_with fail
          go_ret
          exact ⟨rfl, G4.out⟩
end Go.Proofs.Ytmonaaappimphaa

