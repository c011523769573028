/- The reference's Put, Low and At (package packhorseref01). No condition but lengths. -/
import Derived.Test.YtcfadmjihccimaaProg
import Derived.Test.YtcfadmjihccimaaChecked
import Derived.Test.YtcfadmjihccimaaWdJ
namespace Go.Proofs.Ytcfadmjihccimaa
set_option linter.unusedVariables false
open Go.RowKit

/-- The digits of n in base 256, r of them, the highest first. -/
def dg (n : Int) : Nat → List Int
  | 0 => []
  | r + 1 => (n / 256 ^ r % 256) :: dg n r
theorem dg2 (n : Int) : dg n 2 = by16 n := by simp [dg, by16]
theorem dg4 (n : Int) : dg n 4 = by32 n := by simp [dg, by32]
theorem dg_len (n : Int) : ∀ r, (dg n r).length = r
  | 0 => rfl
  | r + 1 => by simp [dg, dg_len n r]

set_option maxHeartbeats 4000000 in
set_option maxRecDepth 100000 in
theorem rput35 (A : Option Addr) (na cap k : Nat) (lb : List Int) (n : Int) (w : World) (P : Pc w A na lb) (hn : na ≤ 140737488351232) (hk : k ≤ 4) (hk0 : 0 < k) (hn0 : 0 ≤ n) (hn1 : n < 4294967296) :
    Calls Try.prog 66 #[.slice A na cap, .int .i64 n, .int .i64 k] w fun e w' => ∃ v, e = .returned v ∧ OwnB w.heap.size w' v (lb ++ dg n k) ∧ Fr (fun _ => False) w w' := by
  have HP := Lib.hid P
  clear P
  go_enter Try.func66, Try.ntmps66
  go_wp2_with fail
  go_loopw [7, 8] (fun v7 v8 wr => ∃ (i : Nat) (d : Int), v8 = .int .i64 i ∧ v7 = .int .i64 d ∧ 0 < i ∧ i ≤ k ∧ d = 256 ^ (i - 1) ∧ wr = w) (fun _ v _ => k - (intOf v).toNat)
  case atStart => exact ⟨1, 1, rfl, rfl, by omega, by omega, rfl, rfl⟩
  case round =>
    obtain ⟨i, d, rfl, rfl, hi0, hi, hd, rfl⟩ := hrel
    rename World => w0
    have hp := pow_small (j := i - 1) (by omega)
    have hpp : 0 < (256 : Int) ^ (i - 1) := Int.pow_pos (by omega)
    have hd1 : 0 < d ∧ d ≤ 16777216 := by rw [hd]; exact ⟨hpp, hp⟩
    have HD := Lib.hid hd
    clear hd hp hpp
    by_cases hlt : i < k
    · go_wp2_with fail
      go_roundw
      case rel => exact ⟨i + 1, d * 256, by go_num, by first | rfl | go_num, by omega, by omega, by rw [HD.out, show i + 1 - 1 = (i - 1) + 1 by omega, Int.pow_succ], by trivial⟩
      case measure => simp [intOf]; omega
    · obtain rfl : i = k := by omega
      go_wp2_with (at_builtin; refine wpList_appN _ rfl _ _ rfl w0.heap.size _ [] rfl (OwnB.nil _ _) w0.heap.size A na cap lb HP.out.len (by exact rfl) HP.out.here (by simp; omega) (Nat.le_refl _) ?_; intro v1 w1 o1 f1; have f1 := f1.fromNil; (have o1 : OwnB w0.heap.size w1 v1 lb := by simpa using o1))
      go_loopw [7, 9] (fun v7 v9 w' => ∃ (r : Nat) (d : Int) (done : List Int), v7 = .int .i64 d ∧ (r = 0 → d = 0) ∧ (0 < r → d = 256 ^ (r - 1)) ∧ r ≤ i ∧ done.length + r = i ∧ done ++ dg n r = dg n i ∧ OwnB w0.heap.size w' v9 (lb ++ done) ∧ Fr (fun _ => False) w0 w') (fun v _ _ => (intOf v).toNat)
      case atStart => exact ⟨i, d, [], rfl, fun h => by omega, fun _ => HD.out, Nat.le_refl _, by simp, rfl, by simpa using o1, f1⟩
      case round =>
        obtain ⟨r, d2, done, rfl, hr0, hr1, hr, hdl, hdg, o2, g2⟩ := hrel
        cases r with
        | zero =>
          have h0 := hr0 rfl
          subst h0
          have hdg2 : done = dg n i := by simpa [dg] using hdg
          subst hdg2
          clear hdl hr0 hr1 hdg
          go_wp2_with fail
          go_ret
          exact ⟨_, rfl, o2, g2⟩
        | succ r =>
          have hd2 := hr1 (by omega)
          simp only [Nat.add_sub_cancel] at hd2
          have hp := pow_small (j := r) (by omega)
          have hpp : 0 < (256 : Int) ^ r := Int.pow_pos (by omega)
          have hb2 : 0 < d2 ∧ d2 ≤ 16777216 := by rw [hd2]; exact ⟨hpp, hp⟩
          have Hd2 := Lib.hid hd2
          have Hdg := Lib.hid hdg
          have hll : (lb ++ done).length + 1 ≤ 140737488355328 := by rw [List.length_append, HP.out.len]; omega
          have Hll := Lib.hid hll
          have Hdl := Lib.hid hdl
          have O2 := Lib.hid o2
          have hsz := g2.size
          clear hr0 hr1 hd2 hp hpp hdg hll hdl o2 HD
          have hq0 : 0 ≤ n / d2 := Int.ediv_nonneg hn0 (by omega)
          have ht := Int.tmod_eq_emod_of_nonneg (b := 256) hq0
          go_wp2_with (at_builtin; refine wpList_appN _ rfl _ _ rfl w0.heap.size _ (lb ++ done) (by exact rfl) (O2.out.fr0 ((Fr.refl (fun _ => False) _).alloc _)) _ _ 1 1 [n / d2 % 256] rfl (by exact rfl) (by exact bytes_lit _ [n / d2 % 256]) Hll.out (by simp; omega) ?_; intro v3 w3 o3 f3)
          refine ⟨⟨r, d2 / 256, done ++ [n / d2 % 256], rfl, fun h => ?_, fun h => ?_, by omega, by have := Hdl.out; simp; omega, ?_, by rw [← List.append_assoc]; exact o3, (O2.out.fr0 ((Fr.refl (fun _ => False) _).alloc _)).turn (g2.alloc _) (Nat.le_refl _) f3⟩, by simp [intOf]; omega⟩
          · rw [Hd2.out, h]; rfl
          · obtain ⟨r', rfl⟩ : ∃ r', r = r' + 1 := ⟨r - 1, by omega⟩
            rw [Hd2.out, Int.pow_succ, Nat.add_sub_cancel]; omega
          · rw [List.append_assoc, ← Hdg.out, Hd2.out]; rfl

set_option maxHeartbeats 2000000 in
set_option maxRecDepth 100000 in
theorem rat38_ok (A : Option Addr) (len cap : Nat) (l : List Int) (f size : Nat) (w : World) (P : Pc w A len l) (hf : f + size ≤ len) (hs0 : 0 < size) (hs : size ≤ 4) :
    Calls Try.prog 49 #[.slice A len cap, .int .i64 f, .int .i64 size] w fun e w' => e = .returned (.int .i64 (be ((l.drop f).take size))) ∧ w' = w := by
  have hlen := P.len
  have hB := P.ok
  have htop := P.top
  obtain ⟨b, off, rfl, hb0, hc⟩ := P.here (by omega)
  obtain ⟨d, hd⟩ : ∃ d, d = (l.drop f).take size := ⟨_, rfl⟩
  have hdl : d.length = size := by rw [hd, List.length_take, List.length_drop]; omega
  have hdB : isB d := fun x hx => hB x (List.mem_of_mem_drop (List.mem_of_mem_take (hd ▸ hx)))
  have hdc : ∀ j x, d[j]? = some x → w.cell? ⟨b, off + (f + j), none⟩ = some (.int .u8 x) := by
    intro j x hj
    have hjl : j < size := by have := (List.getElem?_eq_some_iff.1 hj).1; omega
    rw [hd, List.getElem?_take_of_lt hjl, List.getElem?_drop] at hj
    exact hc _ _ hj
  rw [← hd]
  clear hd hlen hc P hB
  have HD := Lib.hid hdl
  clear hdl
  go_enter Try.func49, Try.ntmps49
  go_wp2_with fail
  go_loopw [7, 8] (fun v7 v8 wr => ∃ j : Nat, v8 = .int .i64 j ∧ j ≤ size ∧ v7 = .int .i64 (be (d.take j)) ∧ wr = w) (fun _ v _ => size - (intOf v).toNat)
  case atStart => exact ⟨0, rfl, Nat.zero_le _, rfl, rfl⟩
  case round =>
    obtain ⟨j, rfl, hj, rfl, rfl⟩ := hrel
    by_cases hlt : j < size
    · obtain ⟨x, hx⟩ : ∃ x, d[j]? = some x := ⟨_, List.getElem?_eq_getElem (by rw [HD.out]; exact hlt)⟩
      have cx := hdc j x hx
      have hxB := hdB x (List.mem_of_getElem? hx)
      have hbd := be_bd j (d.take j) (by rw [List.length_take, HD.out]; omega) (fun y hy => hdB y (List.mem_of_mem_take hy))
      have hp := pow_small (j := j) (by omega)
      have hsn : be (d.take (j + 1)) = be (d.take j) * 256 + x := by rw [take_snoc d j hx, be_snoc]
      obtain ⟨v, hv⟩ : ∃ v, be (d.take j) = v := ⟨_, rfl⟩
      rw [hv] at hbd hsn
      have hv0 : 0 ≤ v ∧ v < 16777216 := by omega
      have HS := Lib.hid hsn
      clear hsn hp hbd
      rw [hv]
      clear hv hdc
      go_wp2_with fail
      go_roundw
      case rel => exact ⟨j + 1, by go_num, by omega, by rw [HS.out]; congr 1; omega, by trivial⟩
      case measure => simp [intOf]; omega
    · obtain rfl : j = size := by omega
      go_wp2_with fail
      go_ret
      rw [List.take_of_length_le (Nat.le_of_eq HD.out)]
      exact ⟨rfl, rfl⟩

set_option maxHeartbeats 2000000 in
theorem rat38_bad (A : Option Addr) (len cap : Nat) (f : Int) (size : Int) (w : World) (hf : f < 0 ∨ len < f ∨ len - f < size) (hlen : (len : Int) ≤ 140737488355328) (hs : 0 ≤ size) (hf63 : f < 9223372036854775808) :
    Calls Try.prog 49 #[.slice A len cap, .int .i64 f, .int .i64 size] w fun e w' => e = .returned (.int .i64 (-1)) ∧ w' = w := by
  by_cases h1 : f < 0
  · clear hf
    go_enter Try.func49, Try.ntmps49
    go_wp2_with fail
    go_ret
    exact ⟨rfl, rfl⟩
  · by_cases h2 : (len : Int) < f
    · clear hf
      go_enter Try.func49, Try.ntmps49
      go_wp2_with fail
      go_ret
      exact ⟨rfl, rfl⟩
    · have h3 : (len : Int) - f < size := by omega
      clear hf
      go_enter Try.func49, Try.ntmps49
      go_wp2_with fail
      go_ret
      exact ⟨rfl, rfl⟩
/-- What the reference's At gives. -/
def atR (l : List Int) (f : Int) (size : Nat) : Int := if f < 0 ∨ (l.length : Int) < f ∨ (l.length : Int) - f < size then -1 else be ((l.drop f.toNat).take size)
theorem rat38 (A : Option Addr) (len cap : Nat) (l : List Int) (f : Int) (size : Nat) (w : World) (P : Pc w A len l) (hs0 : 0 < size) (hs : size ≤ 4) (hf63 : f < 9223372036854775808) :
    Calls Try.prog 49 #[.slice A len cap, .int .i64 f, .int .i64 size] w fun e w' => e = .returned (.int .i64 (atR l f size)) ∧ w' = w := by
  unfold atR
  have hl := P.len
  have ht := P.top
  by_cases h : f < 0 ∨ (l.length : Int) < f ∨ (l.length : Int) - f < size
  · rw [if_pos h]
    rw [hl] at h
    exact rat38_bad A len cap f size w h (by omega) (by omega) hf63
  · rw [if_neg h]
    have := rat38_ok A len cap l f.toNat size w P (by omega) hs0 hs
    rw [show ((f.toNat : Nat) : Int) = f by omega] at this
    exact this
end Go.Proofs.Ytcfadmjihccimaa
