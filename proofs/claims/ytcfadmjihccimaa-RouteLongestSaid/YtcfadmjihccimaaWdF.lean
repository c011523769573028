/- Put16, Put32, at, At16, At32 of package word. No condition but lengths. -/
import Derived.Test.YtcfadmjihccimaaProg
import Derived.Test.YtcfadmjihccimaaChecked
import Derived.Test.YtcfadmjihccimaaWdE
namespace Go.Proofs.Ytcfadmjihccimaa
set_option linter.unusedVariables false
open Go.RowKit

theorem bytes_lit (w : World) (l : List Int) : BytesIn (w.heap.size + 1) (w.alloc (.cells (l.map (Value.int .u8)).toArray 5)) (some ⟨w.heap.size, 0, none⟩) l := fun hl =>
  ⟨w.heap.size, 0, rfl, by omega, fun j x hj => by
    rw [cell_of_row _ w.heap.size (0 + j) _ 5 (0, 0) (heap_alloc_new w _)]
    simp [hj]⟩

def by16 (n : Int) : List Int := [n / 256 % 256, n % 256]
set_option maxHeartbeats 2000000 in
set_option maxRecDepth 100000 in
theorem put32 (A : Option Addr) (cap n₀ : Nat) (l : List Int) (n : Int) (w : World) (hb : BytesIn n₀ w A l) (hlen : l.length + 2 ≤ 140737488355328) (hn₀ : n₀ ≤ w.heap.size) :
    Calls Try.prog 63 #[.slice A l.length cap, .int .i64 n] w fun e w' => ∃ v', e = .returned v' ∧ OwnB w.heap.size w' v' (l ++ by16 n) ∧ Fr (fun _ => False) w w' := by
  go_enter Try.func63, Try.ntmps63
  go_wp2_with (first
    | (go_at_call 47; refine (clone44 A cap n₀ l _ hb (by omega) hn₀).mono ?_; rintro e w1 ⟨v1, rfl, own1, f1⟩)
    | (at_builtin; refine wpList_app _ rfl _ _ rfl w.heap.size v1 l rfl (by exact own1.fr0 ((Fr.refl (fun _ => False) w1).alloc _)) _ _ _ (by16 n) (by exact rfl) (by exact bytes_lit w1 (by16 n)) (by simpa [by16] using hlen) (by have := f1.size; simp; omega) ?_))
  intro v' w2 hown hgrow hnil hat
  go_wp2_with fail
  go_ret
  refine ⟨v', rfl, hown, ?_⟩
  refine (f1.alloc _).trans (fr_of_grown hgrow) ?_
  intro i hi e
  have := (World.ownsRow.lt own1 i e).1
  omega

def by32 (n : Int) : List Int := [n / 16777216 % 256, n / 65536 % 256, n / 256 % 256, n % 256]
/-- The number in bytes. -/
def be (l : List Int) : Int := l.foldl (fun n x => n * 256 + x) 0
theorem be_snoc (l : List Int) (x : Int) : be (l ++ [x]) = be l * 256 + x := by simp [be, List.foldl_append]
theorem be_bd : ∀ (n : Nat) (l : List Int), l.length = n → isB l → 0 ≤ be l ∧ be l < 256 ^ n := by
  intro n
  induction n with
  | zero => intro l hl _; obtain rfl := List.length_eq_zero_iff.1 hl; simp [be]
  | succ n ih =>
    intro l hl hB
    obtain ⟨l', x, rfl⟩ : ∃ l' x, l = l' ++ [x] := ⟨l.dropLast, l.getLast (by intro e; simp [e] at hl), (List.dropLast_concat_getLast _).symm⟩
    have := ih l' (by simpa using hl) hB.left
    have hx := hB.right x (by simp)
    rw [be_snoc, Int.pow_succ]
    omega
theorem pow_small {j : Nat} (h : j ≤ 3) : (256 : Int) ^ j ≤ 16777216 := by
  have : j = 0 ∨ j = 1 ∨ j = 2 ∨ j = 3 := by omega
  rcases this with rfl | rfl | rfl | rfl <;> decide
theorem or_byte32 {x y : Int} (h₀ : 0 ≤ x) (h₁ : x < 16777216) (h₂ : 0 ≤ y) (h₃ : y ≤ 255) : bits .or .u32 (x * 256) y = x * 256 + y :=
  bits_join .u32 32 (by decide) (fun n h0 h1 => by rw [IntKind.wrap_u32]; omega) 8 (x * 256) y (by omega) (by omega) (by omega) h₂ (by omega) (by omega)

set_option maxHeartbeats 2000000 in
set_option maxRecDepth 100000 in
theorem at45_ok (A : Option Addr) (cap n₀ : Nat) (l : List Int) (f size : Nat) (w : World) (hB : isB l) (hb : BytesIn n₀ w A l) (hcap : l.length ≤ cap) (hcap2 : cap ≤ 140737488355328) (hf : f + size ≤ l.length) (hs0 : 0 < size) (hs : size ≤ 4) :
    Calls Try.prog 68 #[.slice A l.length cap, .int .i64 f, .int .i64 size] w fun e w' => e = .returned (.tuple #[.int .u32 (be ((l.drop f).take size)), .int .i64 0]) ∧ w' = w := by
  obtain ⟨b, off, rfl, hb0, hc⟩ := hb (by omega)
  obtain ⟨d, hd⟩ : ∃ d, d = (l.drop f).take size := ⟨_, rfl⟩
  have hdl : d.length = size := by rw [hd, List.length_take, List.length_drop]; omega
  have hdB : isB d := fun x hx => hB x (List.mem_of_mem_drop (List.mem_of_mem_take (hd ▸ hx)))
  have hdc : ∀ j x, d[j]? = some x → w.cell? ⟨b, off + f + j, none⟩ = some (.int .u8 x) := by
    intro j x hj
    have hjl : j < size := by have := (List.getElem?_eq_some_iff.1 hj).1; omega
    rw [hd, List.getElem?_take_of_lt hjl, List.getElem?_drop] at hj
    rw [Nat.add_assoc]; exact hc _ _ hj
  rw [← hd]
  obtain ⟨len, hlen⟩ : ∃ n, n = l.length := ⟨_, rfl⟩
  rw [← hlen] at hf hcap ⊢
  clear hd hlen hc hb hB
  have HD := Lib.hid hdl
  clear hdl
  go_enter Try.func68, Try.ntmps68
  go_wp2_with fail
  go_loopw [8, 34] (fun v8 v34 wr => ∃ j : Nat, v34 = .int .i64 j ∧ j ≤ size ∧ v8 = .int .u32 (be (d.take j)) ∧ wr = w) (fun _ v _ => size - (intOf v).toNat)
  case atStart => exact ⟨0, rfl, Nat.zero_le _, rfl, rfl⟩
  case round =>
    obtain ⟨j, rfl, hj, rfl, rfl⟩ := hrel
    by_cases hlt : j < size
    · obtain ⟨x, hx⟩ : ∃ x, d[j]? = some x := ⟨_, List.getElem?_eq_getElem (by rw [HD.out]; exact hlt)⟩
      have cx := hdc j x hx
      have hxB := hdB x (List.mem_of_getElem? hx)
      have hbd := be_bd j (d.take j) (by rw [List.length_take, HD.out]; omega) (fun y hy => hdB y (List.mem_of_mem_take hy))
      have hp := pow_small (j := j) (by omega)
      have hsn : be (d.take (j + 1)) = be (d.take j) * 256 + x := by rw [take_snoc d j hx, be_snoc]
      obtain ⟨v, hv⟩ : ∃ v, be (d.take j) = v := ⟨_, rfl⟩
      rw [hv] at hbd hsn
      have hv0 : 0 ≤ v ∧ v < 16777216 := by omega
      have HS := Lib.hid hsn
      clear hsn hp hbd
      rw [hv]
      clear hv
      have hor := or_byte32 hv0.1 hv0.2 hxB.1 hxB.2
      go_wp2_with fail
      go_roundw
      case rel => exact ⟨j + 1, by go_num, by omega, by rw [HS.out], by trivial⟩
      case measure => simp [intOf]; omega
    · obtain rfl : j = size := by omega
      go_wp2_with fail
      go_ret2
      rw [List.take_of_length_le (Nat.le_of_eq HD.out)]
      exact ⟨rfl, rfl⟩

set_option maxHeartbeats 2000000 in
theorem at45_bad (A : Option Addr) (len cap : Nat) (f : Int) (size : Int) (w : World) (hf : f < 0 ∨ len < f ∨ len - f < size) (hlen : (len : Int) ≤ 140737488355328) (hs : 0 ≤ size) (hf63 : f < 9223372036854775808) :
    Calls Try.prog 68 #[.slice A len cap, .int .i64 f, .int .i64 size] w fun e w' => e = .returned (.tuple #[.int .u32 0, .int .i64 3]) ∧ w' = w := by
  by_cases h1 : f < 0
  · clear hf
    go_enter Try.func68, Try.ntmps68
    go_wp2_with fail
    go_ret2
    exact ⟨rfl, rfl⟩
  · by_cases h2 : (len : Int) < f
    · clear hf
      go_enter Try.func68, Try.ntmps68
      go_wp2_with fail
      go_ret2
      exact ⟨rfl, rfl⟩
    · have h3 : (len : Int) - f < size := by omega
      clear hf
      go_enter Try.func68, Try.ntmps68
      go_wp2_with fail
      go_ret2
      exact ⟨rfl, rfl⟩

/-- What At gives: the number and whether it stands there. -/
def atV (l : List Int) (f : Int) (size : Nat) : Int := if f < 0 ∨ (l.length : Int) < f ∨ (l.length : Int) - f < size then 0 else be ((l.drop f.toNat).take size)
def atE (l : List Int) (f : Int) (size : Nat) : Int := if f < 0 ∨ (l.length : Int) < f ∨ (l.length : Int) - f < size then 3 else 0
theorem at45 (A : Option Addr) (cap n₀ : Nat) (l : List Int) (f : Int) (size : Nat) (w : World) (hB : isB l) (hb : BytesIn n₀ w A l) (hcap : l.length ≤ cap) (hcap2 : cap ≤ 140737488355328) (hf63 : f < 9223372036854775808) (hs0 : 0 < size) (hs : size ≤ 4) :
    Calls Try.prog 68 #[.slice A l.length cap, .int .i64 f, .int .i64 size] w fun e w' => e = .returned (.tuple #[.int .u32 (atV l f size), .int .i64 (atE l f size)]) ∧ w' = w := by
  unfold atV atE
  by_cases h : f < 0 ∨ (l.length : Int) < f ∨ (l.length : Int) - f < size
  · rw [if_pos h, if_pos h]
    exact at45_bad A l.length cap f size w h (by omega) (by omega) hf63
  · rw [if_neg h, if_neg h]
    have := at45_ok A cap n₀ l f.toNat size w hB hb hcap hcap2 (by omega) hs0 hs
    rw [show ((f.toNat : Nat) : Int) = f by omega] at this
    exact this
theorem atV_bd (l : List Int) (hB : isB l) (f : Int) (size : Nat) (hs : size ≤ 4) : 0 ≤ atV l f size ∧ atV l f size < 4294967296 := by
  unfold atV
  split
  · omega
  · have h := be_bd ((l.drop f.toNat).take size).length _ rfl (fun x hx => hB x (List.mem_of_mem_drop (List.mem_of_mem_take hx)))
    have h2 : ((l.drop f.toNat).take size).length ≤ 4 := by rw [List.length_take]; omega
    have h3 : (256 : Int) ^ ((l.drop f.toNat).take size).length ≤ 4294967296 := by
      generalize ((l.drop f.toNat).take size).length = j at *
      have : j = 0 ∨ j = 1 ∨ j = 2 ∨ j = 3 ∨ j = 4 := by omega
      rcases this with rfl | rfl | rfl | rfl | rfl <;> decide
    omega

set_option maxHeartbeats 2000000 in
theorem at33 (A : Option Addr) (cap n₀ : Nat) (l : List Int) (f : Int) (w : World) (hB : isB l) (hb : BytesIn n₀ w A l) (hcap : l.length ≤ cap) (hcap2 : cap ≤ 140737488355328) (hf63 : f < 9223372036854775808) :
    Calls Try.prog 46 #[.slice A l.length cap, .int .i64 f] w fun e w' => e = .returned (.tuple #[.int .i64 (atV l f 2), .int .i64 (atE l f 2)]) ∧ w' = w := by
  have hbd := atV_bd l hB f 2 (by omega)
  have C := at45 A cap n₀ l f 2 w hB hb hcap hcap2 hf63 (by omega) (by omega)
  go_enter Try.func46, Try.ntmps46
  go_wp2_with (go_at_call 68; refine C.mono ?_; rintro e w1 ⟨rfl, rfl⟩)
  go_ret2
  exact ⟨rfl, rfl⟩
set_option maxHeartbeats 2000000 in
theorem at37 (A : Option Addr) (cap n₀ : Nat) (l : List Int) (f : Int) (w : World) (hB : isB l) (hb : BytesIn n₀ w A l) (hcap : l.length ≤ cap) (hcap2 : cap ≤ 140737488355328) (hf63 : f < 9223372036854775808) :
    Calls Try.prog 51 #[.slice A l.length cap, .int .i64 f] w fun e w' => e = .returned (.tuple #[.int .u32 (atV l f 4), .int .i64 (atE l f 4)]) ∧ w' = w := by
  have C := at45 A cap n₀ l f 4 w hB hb hcap hcap2 hf63 (by omega) (by omega)
  go_enter Try.func51, Try.ntmps51
  go_wp2_with (go_at_call 68; refine C.mono ?_; rintro e w1 ⟨rfl, rfl⟩)
  go_ret2
  exact ⟨rfl, rfl⟩
end Go.Proofs.Ytcfadmjihccimaa
