/- The walk of packhorselaw01.WordBack, at arguments of at most 2^20 bytes. -/
import Derived.BigQuiet
import Derived.Test.YtcfadmjihccimaaProg
import Derived.Test.YtcfadmjihccimaaChecked
import Derived.Test.YtcfadmjihccimaaWdN
namespace Go.Proofs.Ytcfadmjihccimaa
set_option linter.unusedVariables false
open Go.RowKit

theorem atV_mid (a b c : List Int) (k : Nat) (hk : b.length = k) (hk0 : 0 < k) : atV (a ++ (b ++ c)) (a.length : Int) k = be b ∧ atE (a ++ (b ++ c)) (a.length : Int) k = 0 := by
  have hc : ¬ ((a.length : Int) < 0 ∨ ((a ++ (b ++ c)).length : Int) < (a.length : Int) ∨ ((a ++ (b ++ c)).length : Int) - (a.length : Int) < (k : Nat)) := by
    rw [List.length_append, List.length_append]; omega
  unfold atV atE
  rw [if_neg hc, if_neg hc, show ((a.length : Int)).toNat = a.length by omega, List.drop_left, List.take_left' hk]
  exact ⟨rfl, rfl⟩
theorem be16 (n : Int) : be (by16 n) = n % 65536 := by simp [be, by16]; omega
theorem be32 {m : Int} (h : 0 ≤ m) (h1 : m < 4294967296) : be (by32 m) = m := by simp [be, by32]; omega
theorem by32_ok (n : Int) : isB (by32 n) := by intro x hx; simp [by32] at hx; omega
theorem atE_end (l : List Int) (h : 3 ≤ l.length) : atE l ((l.length : Int) - 3) 4 = 3 := by
  unfold atE; rw [if_pos (by omega)]
set_option maxHeartbeats 2000000 in
set_option maxRecDepth 100000 in
theorem at45_okb (A : Option Addr) (cap n₀ : Nat) (l : List Int) (f size : Nat) (w : World) (hB : isB l) (hb : BytesIn n₀ w A l) (hcap : l.length ≤ cap) (hcap2 : l.length ≤ 140737488355328) (hf : f + size ≤ l.length) (hs0 : 0 < size) (hs : size ≤ 4) :
    Calls Try.prog 68 #[.slice A l.length cap, .int .i64 f, .int .i64 size] w fun e w' => e = .returned (.tuple #[.int .u32 (be ((l.drop f).take size)), .int .i64 0]) ∧ w' = w := by
  obtain ⟨b, off, rfl, hb0, hc⟩ := hb (by omega)
  obtain ⟨d, hd⟩ : ∃ d, d = (l.drop f).take size := ⟨_, rfl⟩
  have hdl : d.length = size := by rw [hd, List.length_take, List.length_drop]; omega
  have hdB : isB d := fun x hx => hB x (List.mem_of_mem_drop (List.mem_of_mem_take (hd ▸ hx)))
  have hdc : ∀ j x, d[j]? = some x → w.cell? ⟨b, off + f + j, none⟩ = some (.int .u8 x) := by
    intro j x hj
    have hjl : j < size := by have := (List.getElem?_eq_some_iff.1 hj).1; omega
    rw [hd, List.getElem?_take_of_lt hjl, List.getElem?_drop] at hj
    rw [Nat.add_assoc]; exact hc _ _ hj
  rw [← hd]
  obtain ⟨len, hlen⟩ : ∃ n, n = l.length := ⟨_, rfl⟩
  rw [← hlen] at hf hcap hcap2 ⊢
  clear hd hlen hc hb hB
  have HD := Lib.hid hdl
  clear hdl
  go_enter Try.func68, Try.ntmps68
  go_wp2_with fail
  go_loopw [8, 34] (fun v8 v34 wr => ∃ j : Nat, v34 = .int .i64 j ∧ j ≤ size ∧ v8 = .int .u32 (be (d.take j)) ∧ wr = w) (fun _ v _ => size - (intOf v).toNat)
  case atStart => exact ⟨0, rfl, Nat.zero_le _, rfl, rfl⟩
  case round =>
    obtain ⟨j, rfl, hj, rfl, rfl⟩ := hrel
    by_cases hlt : j < size
    · obtain ⟨x, hx⟩ : ∃ x, d[j]? = some x := ⟨_, List.getElem?_eq_getElem (by rw [HD.out]; exact hlt)⟩
      have cx := hdc j x hx
      have hxB := hdB x (List.mem_of_getElem? hx)
      have hbd := be_bd j (d.take j) (by rw [List.length_take, HD.out]; omega) (fun y hy => hdB y (List.mem_of_mem_take hy))
      have hp := pow_small (j := j) (by omega)
      have hsn : be (d.take (j + 1)) = be (d.take j) * 256 + x := by rw [take_snoc d j hx, be_snoc]
      obtain ⟨v, hv⟩ : ∃ v, be (d.take j) = v := ⟨_, rfl⟩
      rw [hv] at hbd hsn
      have hv0 : 0 ≤ v ∧ v < 16777216 := by omega
      have HS := Lib.hid hsn
      clear hsn hp hbd
      rw [hv]
      clear hv
      have hor := or_byte32 hv0.1 hv0.2 hxB.1 hxB.2
      go_wp2_with fail
      go_roundw
      case rel => exact ⟨j + 1, by go_num, by omega, by rw [HS.out], by trivial⟩
      case measure => simp [intOf]; omega
    · obtain rfl : j = size := by omega
      go_wp2_with fail
      go_ret2
      rw [List.take_of_length_le (Nat.le_of_eq HD.out)]
      exact ⟨rfl, rfl⟩

theorem at45b (A : Option Addr) (cap n₀ : Nat) (l : List Int) (f : Int) (size : Nat) (w : World) (hB : isB l) (hb : BytesIn n₀ w A l) (hcap : l.length ≤ cap) (hcap2 : l.length ≤ 140737488355328) (hf63 : f < 9223372036854775808) (hs0 : 0 < size) (hs : size ≤ 4) :
    Calls Try.prog 68 #[.slice A l.length cap, .int .i64 f, .int .i64 size] w fun e w' => e = .returned (.tuple #[.int .u32 (atV l f size), .int .i64 (atE l f size)]) ∧ w' = w := by
  unfold atV atE
  by_cases h : f < 0 ∨ (l.length : Int) < f ∨ (l.length : Int) - f < size
  · rw [if_pos h, if_pos h]
    exact at45_bad A l.length cap f size w h (by omega) (by omega) hf63
  · rw [if_neg h, if_neg h]
    have := at45_okb A cap n₀ l f.toNat size w hB hb hcap hcap2 (by omega) hs0 hs
    rw [show ((f.toNat : Nat) : Int) = f by omega] at this
    exact this
set_option maxHeartbeats 2000000 in
theorem at33b (A : Option Addr) (cap n₀ : Nat) (l : List Int) (f : Int) (w : World) (hB : isB l) (hb : BytesIn n₀ w A l) (hcap : l.length ≤ cap) (hcap2 : l.length ≤ 140737488355328) (hf63 : f < 9223372036854775808) :
    Calls Try.prog 46 #[.slice A l.length cap, .int .i64 f] w fun e w' => e = .returned (.tuple #[.int .i64 (atV l f 2), .int .i64 (atE l f 2)]) ∧ w' = w := by
  have hbd := atV_bd l hB f 2 (by omega)
  have C := at45b A cap n₀ l f 2 w hB hb hcap hcap2 hf63 (by omega) (by omega)
  go_enter Try.func46, Try.ntmps46
  go_wp2_with (go_at_call 68; refine C.mono ?_; rintro e w1 ⟨rfl, rfl⟩)
  go_ret2
  exact ⟨rfl, rfl⟩
set_option maxHeartbeats 2000000 in
theorem at37b (A : Option Addr) (cap n₀ : Nat) (l : List Int) (f : Int) (w : World) (hB : isB l) (hb : BytesIn n₀ w A l) (hcap : l.length ≤ cap) (hcap2 : l.length ≤ 140737488355328) (hf63 : f < 9223372036854775808) :
    Calls Try.prog 51 #[.slice A l.length cap, .int .i64 f] w fun e w' => e = .returned (.tuple #[.int .u32 (atV l f 4), .int .i64 (atE l f 4)]) ∧ w' = w := by
  have C := at45b A cap n₀ l f 4 w hB hb hcap hcap2 hf63 (by omega) (by omega)
  go_enter Try.func51, Try.ntmps51
  go_wp2_with (go_at_call 68; refine C.mono ?_; rintro e w1 ⟨rfl, rfl⟩)
  go_ret2
  exact ⟨rfl, rfl⟩
theorem at37N {A : Option Addr} {n : Nat} (cap n₀ : Nat) (l : List Int) (f : Int) (w : World) (hn : l.length = n) (hB : isB l) (hb : BytesIn n₀ w A l) (hcap : n ≤ cap) (hcap2 : n ≤ 140737488355328) (hf63 : f < 9223372036854775808) :
    Calls Try.prog 51 #[.slice A n cap, .int .i64 f] w fun e w' => e = .returned (.tuple #[.int .u32 (atV l f 4), .int .i64 (atE l f 4)]) ∧ w' = w := by subst hn; exact at37b A cap n₀ l f w hB hb hcap hcap2 hf63
theorem at33M {A : Option Addr} {n : Nat} (cap n₀ : Nat) (l : List Int) (f : Int) (w : World) (hn : l.length = n) (hB : isB l) (hb : BytesIn n₀ w A l) (hcap : n ≤ cap) (hcap2 : n ≤ 140737488355328) (hf63 : f < 9223372036854775808) :
    Calls Try.prog 46 #[.slice A n cap, .int .i64 f] w fun e w' => e = .returned (.tuple #[.int .i64 (atV l f 2), .int .i64 (atE l f 2)]) ∧ w' = w := by subst hn; exact at33b A cap n₀ l f w hB hb hcap hcap2 hf63
/-- A row of one's own: its capacity holds it, and is no more than memory bears. -/
theorem OwnB.cap {base : Nat} {w : World} {v : Value} {l : List Int} {n : Nat} (h : OwnB base w v l) (hn : l.length = n) : ∃ A c, v = .slice A n c ∧ BytesIn w.heap.size w A l ∧ n ≤ c ∧ c ≤ maxLen := by
  subst hn
  rcases h.2 with ⟨rfl, h0⟩ | ⟨g, cap, cur, rfl, hb, hg, h1, h2, h3, h4⟩
  · exact ⟨none, 0, by rw [h0], fun hl => by omega, by omega, by simp⟩
  · obtain ⟨A, c, e, hb'⟩ := h.view
    cases e
    exact ⟨_, _, rfl, hb', h1, h2⟩

end Go.Proofs.Ytcfadmjihccimaa
