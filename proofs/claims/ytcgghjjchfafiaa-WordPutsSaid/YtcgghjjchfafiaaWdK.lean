/- The walk of packhorselaw01.WordBack, at arguments of at most 2^20 bytes. -/
import Derived.Test.YtcgghjjchfafiaaWdR
import Derived.Test.YtcgghjjchfafiaaWdJ
import Derived.BigQuiet
namespace Go.Proofs.Ytcgghjjchfafiaa
set_option linter.unusedVariables false
open Go.RowKit

theorem atV_mid (a b c : List Int) (k : Nat) (hk : b.length = k) (hk0 : 0 < k) : atV (a ++ (b ++ c)) (a.length : Int) k = be b ∧ atE (a ++ (b ++ c)) (a.length : Int) k = 0 := by
  have hc : ¬ ((a.length : Int) < 0 ∨ ((a ++ (b ++ c)).length : Int) < (a.length : Int) ∨ ((a ++ (b ++ c)).length : Int) - (a.length : Int) < (k : Nat)) := by
    rw [List.length_append, List.length_append]; omega
  unfold atV atE
  rw [if_neg hc, if_neg hc, show ((a.length : Int)).toNat = a.length by omega, List.drop_left, List.take_left' hk]
  exact ⟨rfl, rfl⟩
theorem be16 (n : Int) : be (by16 n) = n % 65536 := by simp [be, by16]; omega
theorem be32 {m : Int} (h : 0 ≤ m) (h1 : m < 4294967296) : be (by32 m) = m := by simp [be, by32]; omega
theorem by32_ok (n : Int) : isB (by32 n) := by intro x hx; simp [by32] at hx; omega
theorem atE_end (l : List Int) (h : 3 ≤ l.length) : atE l ((l.length : Int) - 3) 4 = 3 := by
  unfold atE; rw [if_pos (by omega)]
theorem put34N {A : Option Addr} {n : Nat} (cap n₀ : Nat) (l : List Int) (s : Int) (w : World) (hn : l.length = n) (hb : BytesIn n₀ w A l) (hlen : n + 4 ≤ 140737488355328) (hn₀ : n₀ ≤ w.heap.size) :
    Calls Try.prog 34 #[.slice A n cap, .int .u32 s] w fun e w' => ∃ v', e = .returned v' ∧ OwnB w.heap.size w' v' (l ++ by32 s) ∧ Fr (fun _ => False) w w' := by subst hn; exact put34 A cap n₀ l s w hb hlen hn₀
set_option maxHeartbeats 2000000 in
set_option maxRecDepth 100000 in
theorem at45_okb (A : Option Addr) (cap n₀ : Nat) (l : List Int) (f size : Nat) (w : World) (hB : isB l) (hb : BytesIn n₀ w A l) (hcap : l.length ≤ cap) (hcap2 : l.length ≤ 140737488355328) (hf : f + size ≤ l.length) (hs0 : 0 < size) (hs : size ≤ 4) :
    Calls Try.prog 45 #[.slice A l.length cap, .int .i64 f, .int .i64 size] w fun e w' => e = .returned (.tuple #[.int .u32 (be ((l.drop f).take size)), .int .i64 0]) ∧ w' = w := by
  obtain ⟨b, off, rfl, hb0, hc⟩ := hb (by omega)
  obtain ⟨d, hd⟩ : ∃ d, d = (l.drop f).take size := ⟨_, rfl⟩
  have hdl : d.length = size := by rw [hd, List.length_take, List.length_drop]; omega
  have hdB : isB d := fun x hx => hB x (List.mem_of_mem_drop (List.mem_of_mem_take (hd ▸ hx)))
  have hdc : ∀ j x, d[j]? = some x → w.cell? ⟨b, off + f + j, none⟩ = some (.int .u8 x) := by
    intro j x hj
    have hjl : j < size := by have := (List.getElem?_eq_some_iff.1 hj).1; omega
    rw [hd, List.getElem?_take_of_lt hjl, List.getElem?_drop] at hj
    rw [Nat.add_assoc]; exact hc _ _ hj
  rw [← hd]
  obtain ⟨len, hlen⟩ : ∃ n, n = l.length := ⟨_, rfl⟩
  rw [← hlen] at hf hcap hcap2 ⊢
  clear hd hlen hc hb hB
  have HD := Lib.hid hdl
  clear hdl
  go_enter Try.func45, Try.ntmps45
  go_wp2_with fail
  go_loopw [8, 34] (fun v8 v34 wr => ∃ j : Nat, v34 = .int .i64 j ∧ j ≤ size ∧ v8 = .int .u32 (be (d.take j)) ∧ wr = w) (fun _ v _ => size - (intOf v).toNat)
  case atStart => exact ⟨0, rfl, Nat.zero_le _, rfl, rfl⟩
  case round =>
    obtain ⟨j, rfl, hj, rfl, rfl⟩ := hrel
    by_cases hlt : j < size
    · obtain ⟨x, hx⟩ : ∃ x, d[j]? = some x := ⟨_, List.getElem?_eq_getElem (by rw [HD.out]; exact hlt)⟩
      have cx := hdc j x hx
      have hxB := hdB x (List.mem_of_getElem? hx)
      have hbd := be_bd j (d.take j) (by rw [List.length_take, HD.out]; omega) (fun y hy => hdB y (List.mem_of_mem_take hy))
      have hp := pow_small (j := j) (by omega)
      have hsn : be (d.take (j + 1)) = be (d.take j) * 256 + x := by rw [take_snoc d j hx, be_snoc]
      obtain ⟨v, hv⟩ : ∃ v, be (d.take j) = v := ⟨_, rfl⟩
      rw [hv] at hbd hsn
      have hv0 : 0 ≤ v ∧ v < 16777216 := by omega
      have HS := Lib.hid hsn
      clear hsn hp hbd
      rw [hv]
      clear hv
      have hor := or_byte32 hv0.1 hv0.2 hxB.1 hxB.2
      go_wp2_with fail
      go_roundw
      case rel => exact ⟨j + 1, by go_num, by omega, by rw [HS.out], by trivial⟩
      case measure => simp [intOf]; omega
    · obtain rfl : j = size := by omega
      go_wp2_with fail
      go_ret2
      rw [List.take_of_length_le (Nat.le_of_eq HD.out)]
      exact ⟨rfl, rfl⟩

theorem at45b (A : Option Addr) (cap n₀ : Nat) (l : List Int) (f : Int) (size : Nat) (w : World) (hB : isB l) (hb : BytesIn n₀ w A l) (hcap : l.length ≤ cap) (hcap2 : l.length ≤ 140737488355328) (hf63 : f < 9223372036854775808) (hs0 : 0 < size) (hs : size ≤ 4) :
    Calls Try.prog 45 #[.slice A l.length cap, .int .i64 f, .int .i64 size] w fun e w' => e = .returned (.tuple #[.int .u32 (atV l f size), .int .i64 (atE l f size)]) ∧ w' = w := by
  unfold atV atE
  by_cases h : f < 0 ∨ (l.length : Int) < f ∨ (l.length : Int) - f < size
  · rw [if_pos h, if_pos h]
    exact at45_bad A l.length cap f size w h (by omega) (by omega) hf63
  · rw [if_neg h, if_neg h]
    have := at45_okb A cap n₀ l f.toNat size w hB hb hcap hcap2 (by omega) hs0 hs
    rw [show ((f.toNat : Nat) : Int) = f by omega] at this
    exact this
set_option maxHeartbeats 2000000 in
theorem at33b (A : Option Addr) (cap n₀ : Nat) (l : List Int) (f : Int) (w : World) (hB : isB l) (hb : BytesIn n₀ w A l) (hcap : l.length ≤ cap) (hcap2 : l.length ≤ 140737488355328) (hf63 : f < 9223372036854775808) :
    Calls Try.prog 33 #[.slice A l.length cap, .int .i64 f] w fun e w' => e = .returned (.tuple #[.int .i64 (atV l f 2), .int .i64 (atE l f 2)]) ∧ w' = w := by
  have hbd := atV_bd l hB f 2 (by omega)
  have C := at45b A cap n₀ l f 2 w hB hb hcap hcap2 hf63 (by omega) (by omega)
  go_enter Try.func33, Try.ntmps33
  go_wp2_with (go_at_call 45; refine C.mono ?_; rintro e w1 ⟨rfl, rfl⟩)
  go_ret2
  exact ⟨rfl, rfl⟩
set_option maxHeartbeats 2000000 in
theorem at37b (A : Option Addr) (cap n₀ : Nat) (l : List Int) (f : Int) (w : World) (hB : isB l) (hb : BytesIn n₀ w A l) (hcap : l.length ≤ cap) (hcap2 : l.length ≤ 140737488355328) (hf63 : f < 9223372036854775808) :
    Calls Try.prog 37 #[.slice A l.length cap, .int .i64 f] w fun e w' => e = .returned (.tuple #[.int .u32 (atV l f 4), .int .i64 (atE l f 4)]) ∧ w' = w := by
  have C := at45b A cap n₀ l f 4 w hB hb hcap hcap2 hf63 (by omega) (by omega)
  go_enter Try.func37, Try.ntmps37
  go_wp2_with (go_at_call 45; refine C.mono ?_; rintro e w1 ⟨rfl, rfl⟩)
  go_ret2
  exact ⟨rfl, rfl⟩
theorem at37N {A : Option Addr} {n : Nat} (cap n₀ : Nat) (l : List Int) (f : Int) (w : World) (hn : l.length = n) (hB : isB l) (hb : BytesIn n₀ w A l) (hcap : n ≤ cap) (hcap2 : n ≤ 140737488355328) (hf63 : f < 9223372036854775808) :
    Calls Try.prog 37 #[.slice A n cap, .int .i64 f] w fun e w' => e = .returned (.tuple #[.int .u32 (atV l f 4), .int .i64 (atE l f 4)]) ∧ w' = w := by subst hn; exact at37b A cap n₀ l f w hB hb hcap hcap2 hf63
theorem at33M {A : Option Addr} {n : Nat} (cap n₀ : Nat) (l : List Int) (f : Int) (w : World) (hn : l.length = n) (hB : isB l) (hb : BytesIn n₀ w A l) (hcap : n ≤ cap) (hcap2 : n ≤ 140737488355328) (hf63 : f < 9223372036854775808) :
    Calls Try.prog 33 #[.slice A n cap, .int .i64 f] w fun e w' => e = .returned (.tuple #[.int .i64 (atV l f 2), .int .i64 (atE l f 2)]) ∧ w' = w := by subst hn; exact at33b A cap n₀ l f w hB hb hcap hcap2 hf63
/-- A row of one's own: its capacity holds it, and is no more than memory bears. -/
theorem OwnB.cap {base : Nat} {w : World} {v : Value} {l : List Int} {n : Nat} (h : OwnB base w v l) (hn : l.length = n) : ∃ A c, v = .slice A n c ∧ BytesIn w.heap.size w A l ∧ n ≤ c ∧ c ≤ maxLen := by
  subst hn
  rcases h.2 with ⟨rfl, h0⟩ | ⟨g, cap, cur, rfl, hb, hg, h1, h2, h3, h4⟩
  · exact ⟨none, 0, by rw [h0], fun hl => by omega, by omega, by simp⟩
  · obtain ⟨A, c, e, hb'⟩ := h.view
    cases e
    exact ⟨_, _, rfl, hb', h1, h2⟩

set_option maxHeartbeats 8000000 in
set_option maxRecDepth 100000 in
theorem back13 (A B : Option Addr) (cap capt : Nat) (lb lt : List Int) (n m : Int) (w : World) (hA : BArg w A cap lb) (hB : BArg w B capt lt) (hs1 : cap ≤ 1048576) (hs2 : capt ≤ 1048576) (hm0 : 0 ≤ m) (hm1 : m < 4294967296) :
    Calls Try.prog 13 #[.slice A lb.length cap, .int .i64 n, .int .u32 m, .slice B lt.length capt] w fun e w' => e = .returned (.bool true) ∧ Fr (fun _ => False) w w' := by
  obtain ⟨nb, hnb⟩ : ∃ n, n = lb.length := ⟨_, rfl⟩
  obtain ⟨nt, hnt⟩ : ∃ n, n = lt.length := ⟨_, rfl⟩
  have ha : nb ≤ 1048576 := by have := hA.le; omega
  have hb : nt ≤ 1048576 := by have := hB.le; omega
  have PA := Lib.hid (show Pc w A nb lb from ⟨hnb.symm, hA.ok, by omega, hA.here⟩)
  have PT := Lib.hid (show Pc w B nt lt from ⟨hnt.symm, hB.ok, by omega, hB.here⟩)
  rw [← hnb, ← hnt]
  have l1 : (lb ++ by16 n).length = nb + 2 := by rw [List.length_append, ← hnb]; rfl
  have l2 : ((lb ++ by16 n) ++ by32 m).length = nb + 6 := by rw [List.length_append, l1]; rfl
  have l3 : (((lb ++ by16 n) ++ by32 m) ++ lt).length = nb + 6 + nt := by rw [List.length_append, l2, ← hnt]
  obtain ⟨v1, e1⟩ := atV_mid lb (by16 n) (by32 m ++ lt) 2 rfl (by decide)
  obtain ⟨v2, e2⟩ := atV_mid (lb ++ by16 n) (by32 m) lt 4 rfl (by decide)
  have e3 := atE_end (((lb ++ by16 n) ++ by32 m) ++ lt) (by omega)
  rw [l3] at e3
  rw [l1, be32 hm0 hm1] at v2
  rw [l1] at e2
  rw [← hnb, be16] at v1
  rw [← hnb] at e1
  have hx : lb ++ (by16 n ++ (by32 m ++ lt)) = ((lb ++ by16 n) ++ by32 m) ++ lt := by simp [List.append_assoc]
  have hx2 : (lb ++ by16 n) ++ (by32 m ++ lt) = ((lb ++ by16 n) ++ by32 m) ++ lt := by simp [List.append_assoc]
  rw [hx] at v1 e1
  rw [hx2] at v2 e2
  have hXB : isB (((lb ++ by16 n) ++ by32 m) ++ lt) := ((hA.ok.app (by16_ok n)).app (by32_ok m)).app hB.ok
  have htk : (((lb ++ by16 n) ++ by32 m) ++ lt).take nb = lb := by rw [← hx, hnb, List.take_left]
  obtain ⟨X, hX⟩ : ∃ X, X = ((lb ++ by16 n) ++ by32 m) ++ lt := ⟨_, rfl⟩
  rw [← hX] at v1 e1 v2 e2 e3 hXB htk l3
  rw [show ((nb + 2 : Nat) : Int) = (nb : Int) + 2 by omega] at v2 e2
  have e3b := e3
  rw [show ((nb + 6 + nt : Nat) : Int) = (nb : Int) + 6 + (nt : Int) by omega] at e3b
  have E3b := Lib.hid e3b
  clear e3b
  have L1 := Lib.hid l1
  have L2 := Lib.hid l2
  have L3 := Lib.hid l3
  have V1 := Lib.hid v1
  have V2 := Lib.hid v2
  have E1 := Lib.hid e1
  have E2 := Lib.hid e2
  have E3 := Lib.hid e3
  have HX := Lib.hid hX
  have HXB := Lib.hid hXB
  have HTK := Lib.hid htk
  clear hnb hnt hA hB l1 l2 l3 v1 v2 e1 e2 e3 hX hXB htk hx hx2
  go_enter Try.func13, Try.ntmps13
  go_upto_region 3 with (first
    | (go_at_call 27; refine (awake27 _).mono ?_; rintro e w1 ⟨rfl, f1⟩)
    | (go_at_call 32; refine (put32N cap w.heap.size lb n _ PA.out.len (PA.out.here.fr f1 (Nat.le_refl _) (fun _ _ e => e)) (by omega) f1.size).mono ?_; rintro e w2 ⟨v2, rfl, o2, f2⟩; obtain ⟨A2, c2, rfl, b2⟩ := o2.viewN L1.out)
    | (go_at_call 34; refine (put34N c2 _ _ m _ L1.out b2 (by omega) (Nat.le_refl _)).mono ?_; rintro e w3 ⟨v3, rfl, o3, f3⟩))
  have G3 := (f1.then f2).then f3
  have hw2 : w.heap.size ≤ w2.heap.size := (f1.then f2).size
  have Q3 := Lib.hid (PT.out.here.fr G3 (Nat.le_refl _) (fun _ _ e => e))
  have K3 := Lib.hid (show ((lb ++ by16 n) ++ by32 m).length + nt ≤ 140737488355328 by rw [L2.out]; omega)
  go_upto_region 4 with (at_builtin; refine wpList_appN _ rfl _ _ rfl w2.heap.size _ ((lb ++ by16 n) ++ by32 m) (by exact rfl) o3 w.heap.size B nt capt lt PT.out.len (by exact rfl) Q3.out K3.out f3.size ?_; intro v4 w4 o4 f4)
  have G4 := Lib.hid (o3.turn G3 hw2 f4)
  rw [← HX.out] at o4
  obtain ⟨A4, c4, rfl, b4, hc1, hc2⟩ := o4.cap L3.out
  have B4 := Lib.hid b4
  have PA4 := Lib.hid (PA.out.fr G4.out)
  clear b4 o4 o3 o2 b2 f1 f2 f3 f4 G3 hw2 Q3 K3
  have hc3 : c4 ≤ 9223372036854775807 := hc2
  clear hc2
  go_upto_region 7 with (first
    | (go_at_call 33; refine (at33M c4 _ X _ _ L3.out HXB.out B4.out hc1 (by omega) (by omega)).mono ?_; rw [V1.out, E1.out]; clear V1; rintro e w5 ⟨rfl, hw5⟩; subst hw5)
    | (go_at_call 37; refine (at37N c4 _ X _ _ L3.out HXB.out B4.out hc1 (by omega) (by omega)).mono ?_; rw [V2.out, E2.out]; clear V2; rintro e w5 ⟨rfl, hw5⟩; subst hw5)
    | (go_at_call 37; refine (at37N c4 _ X _ _ L3.out HXB.out B4.out hc1 (by omega) (by omega)).mono ?_; (first | rw [E3.out] | rw [E3b.out]); clear E3; rintro e w5 ⟨rfl, hw5⟩; subst hw5))
  have h1 := Int.lt_tmod_of_pos n (b := 65536) (by omega)
  have h2 := Int.tmod_lt_of_pos n (b := 65536) (by omega)
  have h := low_val n
  obtain ⟨q, hq⟩ : ∃ q, n.tmod 65536 = q := ⟨_, rfl⟩
  rw [hq] at h1 h2 h
  obtain ⟨lo, hlo⟩ : ∃ q, n % 65536 = q := ⟨_, rfl⟩
  rw [hlo] at h
  go_upto_region 8 with (fail)
  have hq2 : q % 65536 = n % 65536 := by omega
  have hq3 : (q + 65536) % 65536 = n % 65536 := by omega
  first | rw [hq3] | rw [hq2] | rw [← hlo]
  clear h1 h2 h hq hlo hq2 hq3
  have hcn : nb ≤ c4 := by omega
  have bX : BytesIn w5.heap.size w5 A4 lb := by rw [← HTK.out]; exact B4.out.take nb
  have bA : BytesIn w5.heap.size w5 A lb := PA4.out.here
  have k1 : ∀ j, (convert 49 9 (.slice A4 nb c4)).run Try.prog (w5.drewN j) = .ok (.string (strOfNums lb)) (w5.drewN j) := fun j => by
    have := str_bytes (n₀ := w5.heap.size) (w := w5.drewN j) c4 (l := lb) (A := A4) (by exact bX)
    rw [PA.out.len] at this; exact this
  have k2 : ∀ j, (convert 49 9 (.slice A nb cap)).run Try.prog (w5.drewN j) = .ok (.string (strOfNums lb)) (w5.drewN j) := fun j => by
    have := str_bytes (n₀ := w5.heap.size) (w := w5.drewN j) cap (l := lb) (A := A) (by exact bA)
    rw [PA.out.len] at this; exact this
  clear bX bA
  go_quiet (fail)
  go_wp2_with fail
  go_ret
  have G5 := G4.out
  exact ⟨rfl, ⟨G5.os, G5.tape, G5.output, G5.size, G5.block⟩⟩
end Go.Proofs.Ytcgghjjchfafiaa
