/- The walk of packhorselaw19.RestFull: it returns true at every input and turns nothing that was there. No condition. -/
import Derived.Test.YtcgghjjchfafiaaRestD
import Derived.Deep.DeepCutAuto
namespace Go.Proofs.Ytcgghjjchfafiaa
open Go.RowKit Go.Maps

def kf (i : Nat) : K4 := ⟨i, 0, 0, 0, 0, 0⟩
theorem kf_inj (i j : Nat) (h : kf i = kf j) : i = j := by
  unfold kf at h; injection h with h; omega
theorem kf_ok (i : Nat) (h : i < 1000000) : K4.ok ⟨i, 0, 0, 0, 0, 0⟩ := by
  refine ⟨?_, ?_, ?_, ?_, ?_, ?_⟩
  · show (Lit.int .i64 (i : Int)).wf = true
    exact WalkArith.wf_i64 (by omega)
  · show (Lit.int .u8 0).wf = true
    decide
  · show (Lit.int .u8 0).wf = true
    decide
  · show (Lit.int .u8 0).wf = true
    decide
  · show (Lit.int .u8 0).wf = true
    decide
  · show (Lit.int .i64 0).wf = true
    decide

/-- The table when i have been opened (24 at most). -/
def Full1 (L : List (K4 × Int)) (i : Nat) : Prop :=
  L.length = min i 24 ∧ (∀ j : Nat, lki L (kf j) = if j < min i 24 then some (-4611686018427387904) else none) ∧ ∀ p ∈ L, ∃ j, j < 24 ∧ p.1 = kf j
theorem full1_start : Full1 [] 0 := ⟨rfl, fun j => by simp [lki_nil], by simp⟩
theorem full1_may {L : List (K4 × Int)} {i : Nat} (h : Full1 L i) : mayF L ⟨i, 0, 0, 0, 0, 0⟩ = if i < 24 then 0 else 190 := by
  have h1 := h.2.1 i
  rw [if_neg (by omega)] at h1
  unfold mayF
  rw [show (⟨(i : Int), 0, 0, 0, 0, 0⟩ : K4) = kf i from rfl, h1, h.1]
  by_cases hi : i < 24
  · rw [if_pos hi, if_neg (by simp), if_neg (by omega)]
  · rw [if_neg hi, if_neg (by simp), if_pos (by omega)]
theorem full1_next {L : List (K4 × Int)} {i : Nat} (h : Full1 L i) : Full1 (openL L ⟨i, 0, 0, 0, 0, 0⟩) (i + 1) := by
  have hm := full1_may h
  by_cases hi : i < 24
  · rw [if_pos hi] at hm
    refine ⟨?_, fun j => ?_, fun p hp => ?_⟩
    · rw [openL_new hm, List.length_append, h.1]; simp; omega
    · rw [lki_openL, h.2.1]
      by_cases e : j = i
      · subst e; rw [if_pos ⟨hm, rfl⟩, if_pos (by omega)]
      · rw [if_neg (fun hh => e (kf_inj _ _ hh.2))]
        by_cases hj : j < min i 24
        · rw [if_pos hj, if_pos (by omega)]
        · rw [if_neg hj, if_neg (by omega)]
    · rcases keys_openL hp with hp | hp
      · exact h.2.2 p hp
      · exact ⟨i, hi, hp⟩
  · rw [if_neg hi] at hm
    rw [openL_full (by rw [hm]; decide)]
    refine ⟨by rw [h.1]; omega, fun j => ?_, h.2.2⟩
    rw [h.2.1, show min i 24 = min (i + 1) 24 by omega]

/-- The table of n entries of which the first i are at rest. -/
def Full2 (L : List (K4 × Int)) (n i : Nat) : Prop :=
  L.length = n ∧ (∀ j : Nat, lki L (kf j) = if j < i then some 108 else if j < n then some (-4611686018427387904) else none) ∧ ∀ p ∈ L, ∃ j, j < 24 ∧ p.1 = kf j
theorem full2_start {L : List (K4 × Int)} {i : Nat} (h : Full1 L i) : Full2 L (min i 24) 0 := ⟨h.1, fun j => by rw [h.2.1]; simp, h.2.2⟩
theorem full2_close {L : List (K4 × Int)} {n i : Nat} (h : Full2 L n i) (hi : i < n) : closeF L ⟨i, 0, 0, 0, 0, 0⟩ = 0 := by
  rw [closeF_zero]
  have := h.2.1 i
  rw [if_neg (by omega), if_pos hi] at this
  exact this
theorem full2_again {L : List (K4 × Int)} {n i : Nat} (h : Full2 L n (i + 1)) : closeF L ⟨i, 0, 0, 0, 0, 0⟩ = 7 := by
  have := h.2.1 i
  rw [if_pos (by omega)] at this
  have e : lki L ⟨(i : Int), 0, 0, 0, 0, 0⟩ = some 108 := this
  unfold closeF
  rw [e]
  rfl
theorem full2_next {L : List (K4 × Int)} {n i : Nat} (h : Full2 L n i) (hi : i < n) (hn : (L.map (·.1)).Nodup) (h24 : n ≤ 24) : Full2 (closeL L ⟨i, 0, 0, 0, 0, 0⟩ 100) n (i + 1) := by
  have hc := full2_close h hi
  refine ⟨by rw [closeL_len hn, h.1], fun j => ?_, fun p hp => ?_⟩
  · rw [lki_closeL, h.2.1]
    by_cases e : j = i
    · subst e; rw [if_pos ⟨hc, rfl⟩, if_pos (by omega)]; rfl
    · rw [if_neg (fun hh => e (kf_inj _ _ hh.2))]
      by_cases hj : j < i
      · rw [if_pos hj, if_pos (by omega)]
      · rw [if_neg hj, if_neg (show ¬ j < i + 1 by omega)]
  · rcases keys_closeL hp with hp | hp
    · exact h.2.2 p hp
    · exact ⟨i, by omega, hp⟩
theorem full2_same {L : List (K4 × Int)} {n i : Nat} (h : Full2 L n (i + 1)) : closeL L ⟨i, 0, 0, 0, 0, 0⟩ 100 = L := by
  rw [closeL, if_neg (by rw [full2_again h]; decide)]
theorem full2_stays {L : List (K4 × Int)} {n i : Nat} (h : Full2 L n i) (hn : (L.map (·.1)).Nodup) : tickL L 107 = L := by
  unfold tickL
  rw [List.filter_eq_self]
  intro p hp
  obtain ⟨j, _, e⟩ := h.2.2 p hp
  have h1 := lki_of_mem hn (k := p.1) (u := p.2) hp
  rw [e, h.2.1] at h1
  split at h1
  · injection h1 with h1; rw [← h1]; rfl
  · split at h1
    · injection h1 with h1; rw [← h1]; rfl
    · cases h1
theorem between (n i : Nat) (hi : i ≤ n) : ∀ N : Nat, ((List.range N).filter fun j => decide (i ≤ j ∧ j < n)).length = min N n - min N i
  | 0 => by simp
  | N + 1 => by
    rw [List.range_succ, List.filter_append, List.length_append, between n i hi N]
    by_cases h : i ≤ N ∧ N < n
    · simp [h]; omega
    · simp [h]; omega
theorem full2_gone {L : List (K4 × Int)} {n i : Nat} (h : Full2 L n i) (hn : (L.map (·.1)).Nodup) (hi : i ≤ n) (h24 : n ≤ 24) :
    (tickL L 108).length = n - i ∧ ∀ p ∈ tickL L 108, p.1.p < 1000 := by
  have hn' : ((tickL L 108).map (·.1)).Nodup := (List.filter_sublist.map _).nodup hn
  refine ⟨?_, fun p hp => ?_⟩
  · rw [len_by hn' 24 kf kf_inj (fun p hp => h.2.2 p (keys_tickL hp))]
    have : ((List.range 24).filter fun j => (lki (tickL L 108) (kf j)).isSome) = (List.range 24).filter fun j => decide (i ≤ j ∧ j < n) := by
      refine List.filter_congr fun j hj => ?_
      rw [lki_tick hn, h.2.1]
      by_cases h1 : j < i
      · rw [if_pos h1]
        simp [stays, isOpen]; omega
      · by_cases h2 : j < n
        · rw [if_neg h1, if_pos h2]
          simp [stays, isOpen, h2]; omega
        · rw [if_neg h1, if_neg h2]
          simp [h2]
    rw [this, between n i hi]
    omega
  · obtain ⟨j, hj, e⟩ := h.2.2 p (keys_tickL hp)
    rw [e]; unfold kf; simp; omega

/-- The table when k more have been asked for. -/
def Full3 (L : List (K4 × Int)) (a k : Nat) : Prop := L.length = min 24 (a + k) ∧ ∀ p ∈ L, p.1.p < 1000 + k
theorem full3_none {L : List (K4 × Int)} {a k : Nat} (h : Full3 L a k) : lki L ⟨1000 + (k : Int), 0, 0, 0, 0, 0⟩ = none := by
  cases hl : lki L ⟨1000 + (k : Int), 0, 0, 0, 0, 0⟩ with
  | none => rfl
  | some u =>
    have := h.2 _ (lki_mem hl)
    simp at this
theorem full3_may {L : List (K4 × Int)} {a k : Nat} (h : Full3 L a k) : mayF L ⟨1000 + (k : Int), 0, 0, 0, 0, 0⟩ = if a + k < 24 then 0 else 190 := by
  unfold mayF
  rw [full3_none h, h.1]
  by_cases hk : a + k < 24
  · rw [if_pos hk, if_neg (by simp), if_neg (by omega)]
  · rw [if_neg hk, if_neg (by simp), if_pos (by omega)]
theorem full3_next {L : List (K4 × Int)} {a k : Nat} (h : Full3 L a k) : Full3 (openL L ⟨1000 + (k : Int), 0, 0, 0, 0, 0⟩) a (k + 1) := by
  have hm := full3_may h
  by_cases hk : a + k < 24
  · rw [if_pos hk] at hm
    rw [openL_new hm]
    refine ⟨by rw [List.length_append, h.1]; simp; omega, fun p hp => ?_⟩
    rcases List.mem_append.1 hp with hp | hp
    · have := h.2 p hp; omega
    · simp at hp; rw [hp]; simp; omega
  · rw [if_neg hk] at hm
    rw [openL_full (by rw [hm]; decide)]
    exact ⟨by rw [h.1]; omega, fun p hp => by have := h.2 p hp; omega⟩

set_option maxHeartbeats 1000000 in
set_option maxRecDepth 100000 in
theorem full5_out (many closed : Int) (hm : many < 0 ∨ 100 < many) (w : World) :
    Calls Try.prog 5 #[.int .i64 many, .int .i64 closed] w fun e w' => e = .returned (.bool true) ∧ Fr (fun _ => False) w w' := by
  rcases hm with hm | hm
  · go_enter Try.func5, Try.ntmps5
    go_wp2_with fail
    refine (awake14 _).mono ?_
    rintro e w1 ⟨rfl, f1⟩
    go_wp2_with fail
    refine (new15 _).mono ?_
    rintro e w2 ⟨g, m, rfl, T2, f2, hg, hm'⟩
    go_wp2_with fail
    go_ret
    exact ⟨rfl, f1.none f2⟩
  · have h0 : ¬ many < 0 := by omega
    go_enter Try.func5, Try.ntmps5
    go_wp2_with fail
    refine (awake14 _).mono ?_
    rintro e w1 ⟨rfl, f1⟩
    go_wp2_with fail
    refine (new15 _).mono ?_
    rintro e w2 ⟨g, m, rfl, T2, f2, hg, hm'⟩
    go_wp2_with fail
    go_ret
    exact ⟨rfl, f1.none f2⟩

set_option maxHeartbeats 2000000 in
set_option maxRecDepth 100000 in
theorem full5_in (many : Nat) (closed : Int) (hmany : many ≤ 100) (w : World) :
    Calls Try.prog 5 #[.int .i64 many, .int .i64 closed] w fun e w' => e = .returned (.bool true) ∧ Fr (fun _ => False) w w' := by
  go_enter Try.func5, Try.ntmps5
  go_wp2_with fail
  refine (awake14 _).mono ?_
  rintro e w1 ⟨rfl, f1⟩
  go_wp2_with fail
  refine (new15 _).mono ?_
  rintro e w2 ⟨g, m, rfl, T2, f2, hg, hm'⟩
  have f2 := f1.none f2
  have hm : w.heap.size ≤ m := by have := f1.size; omega
  clear f1 hg hm'
  go_wp2_with fail
  go_loopw [7] (fun v wr => ∃ (i : Nat) (L : List (K4 × Int)), v = .int .i64 i ∧ i ≤ many ∧ Full1 L i ∧ TabAt wr g m L ∧ Fr (fun _ => False) w wr) (fun v _ => many - (intOf v).toNat)
  case atStart => exact ⟨0, [], rfl, Nat.zero_le _, full1_start, T2, f2⟩
  case round =>
    clear T2 f2
    obtain ⟨i, L, rfl, hi, hL, hT, hf⟩ := hrel
    have HL := Lib.hid hL
    have HT := Lib.hid hT
    have Hf := Lib.hid hf
    clear hL hT hf
    have hlen : L.length < 1000000 := by rw [HL.out.1]; omega
    by_cases hlt : i < many
    · have hstep := fun w => (open16 g m L i 0 0 0 0 0 w (kf_ok i (by omega)) · hlen)
      have Hstep := Lib.hid hstep
      clear hstep hlen
      by_cases h24 : i < 24
      all_goals
        go_wp2_with fail
        refine (Hstep.out _ HT.out).mono ?_
        rintro e w3 ⟨rfl, T3, f3⟩
        rw [full1_may HL.out]
        have fin : ∃ (i' : Nat) (L : List (K4 × Int)), Value.int .i64 ((i : Int) + 1) = .int .i64 i' ∧ i' ≤ many ∧ Full1 L i' ∧ TabAt w3 g m L ∧ Fr (fun _ => False) w w3 := ⟨i + 1, _, by go_num, by omega, full1_next HL.out, T3, Hf.out.far f3 hm⟩
        have Fin := Lib.hid fin
        clear fin T3 f3
        first | rw [if_pos h24] | rw [if_neg h24]
        go_wp2_with fail
        go_roundw
        case rel => exact Fin.out
        case measure => simp [intOf]; omega
    · obtain rfl : i = many := by omega
      clear hlen hlt
      have H2 := Lib.hid (full2_start HL.out)
      clear hi
      go_upto_if 61 with (fail)
      go_cut [9] (fun v wc => v = .int .i64 ((min i 24 : Nat) : Int) ∧ wc = wr)
      case first =>
        by_cases h24 : i ≤ 24
        · have H := Lib.hid (show ((min i 24 : Nat) : Int) = i by omega)
          go_wp2_with fail
          go_meet
          exact ⟨by rw [H.out], rfl⟩
        · have H := Lib.hid (show ((min i 24 : Nat) : Int) = 24 by omega)
          go_wp2_with fail
          go_meet
          exact ⟨by rw [H.out], rfl⟩
      case rest =>
        obtain ⟨rfl, rfl⟩ := hcut
        have hn24 : min i 24 ≤ 24 := by omega
        generalize min i 24 = n at *
        clear HL
        go_wp2_with fail
        go_loopw [10, 11] (fun v10 v11 wr => ∃ (i : Nat) (L : List (K4 × Int)), v11 = .int .i64 i ∧ v10 = .int .i64 i ∧ i ≤ n ∧ Full2 L n i ∧ TabAt wr g m L ∧ Fr (fun _ => False) w wr) (fun _ v _ => n - (intOf v).toNat)
        case atStart => exact ⟨0, L, rfl, rfl, Nat.zero_le _, H2.out, HT.out, Hf.out⟩
        case round =>
          clear H2 HT Hf
          obtain ⟨i, L, rfl, rfl, hi, hL, hT, hf⟩ := hrel
          have HL := Lib.hid hL
          have HT := Lib.hid hT
          have Hf := Lib.hid hf
          have Hnd := Lib.hid hT.nodup
          clear hL hT hf
          have hlen : L.length < 1000000 := by rw [HL.out.1]; omega
          by_cases hgo : i < n ∧ (i : Int) < closed
          · obtain ⟨hlt, hcl⟩ := hgo
            have hs1 := fun w => (close18 g m L i 0 0 0 0 0 100 w (kf_ok i (by omega)) · hlen (by omega) (by omega))
            have L2 := Lib.hid (full2_next HL.out hlt Hnd.out hn24)
            have hs2 := fun w => (close18 g m (closeL L ⟨i, 0, 0, 0, 0, 0⟩ 100) i 0 0 0 0 0 100 w (kf_ok i (by omega)) · (by rw [L2.out.1]; omega) (by omega) (by omega))
            have Hs1 := Lib.hid hs1
            have Hs2 := Lib.hid hs2
            clear hs1 hs2 hlen
            go_wp2_with fail
            refine (Hs1.out _ HT.out).mono ?_
            rintro e w3 ⟨rfl, T3, f3⟩
            rw [full2_close HL.out hlt]
            have f3 := Hf.out.far f3 hm
            have HT3 := Lib.hid T3
            have Hf3 := Lib.hid f3
            clear T3 f3
            go_wp2_with fail
            refine (Hs2.out _ HT3.out).mono ?_
            rintro e w4 ⟨rfl, T4, f4⟩
            rw [full2_again L2.out]
            rw [full2_same L2.out] at T4
            have f4 := Hf3.out.far f4 hm
            have fin : ∃ (i' : Nat) (L : List (K4 × Int)), Value.int .i64 ((i : Int) + 1) = .int .i64 i' ∧ Value.int .i64 ((i : Int) + 1) = .int .i64 i' ∧ i' ≤ n ∧ Full2 L n i' ∧ TabAt w4 g m L ∧ Fr (fun _ => False) w w4 := ⟨i + 1, _, by go_num, by go_num, by omega, L2.out, T4, f4⟩
            have Fin := Lib.hid fin
            clear fin T4 f4
            go_wp2_with fail
            go_roundw
            case rel => exact Fin.out
            case measure => simp [intOf]; omega
          · have hout : ¬ i < n ∨ (i < n ∧ closed ≤ i) := by omega
            clear hgo hlen
            rcases hout with hout | ⟨hlt, hout⟩
            all_goals
              go_wp2_with fail
              refine (tick20 g m L 107 _ HT.out).mono ?_
              rintro e w3 ⟨rfl, T3, f3⟩
              rw [full2_stays HL.out Hnd.out] at T3
              have f3 := Hf.out.far f3 hm
              go_wp2_with fail
              refine (len26 g m L _ T3).mono ?_
              rintro e w4 ⟨rfl, rfl⟩
              rw [HL.out.1]
              have HT3 := Lib.hid T3
              have Hf3 := Lib.hid f3
              clear T3 f3
              go_wp2_with fail
              refine (tick20 g m L 108 _ HT3.out).mono ?_
              rintro e w4 ⟨rfl, T4, f4⟩
              have f4 := Hf3.out.far f4 hm
              have h3 := full2_gone HL.out Hnd.out hi hn24
              go_wp2_with fail
              refine (len26 g m _ _ T4).mono ?_
              rintro e w5 ⟨rfl, rfl⟩
              rw [h3.1]
              have F3 : Full3 (tickL L 108) (n - i) 0 := ⟨by rw [h3.1]; omega, by simpa using h3.2⟩
              have HF3 := Lib.hid F3
              have HT4 := Lib.hid T4
              have Hf4 := Lib.hid f4
              clear h3 F3 T4 f4
              rw [show ((n - i : Nat) : Int) = (n : Int) - i by omega]
              go_wp2_with fail
              clear HL HT Hf Hnd HT3 Hf3 hout
              generalize tickL L 108 = L4 at *
              obtain ⟨a, ha⟩ : ∃ a : Nat, a = n - i := ⟨_, rfl⟩
              have hia : ((n : Int) - i) = a ∧ i + a = n := by omega
              rw [← ha] at HF3
              have Hia := Lib.hid hia
              have hia2 : i + a ≤ 24 := by omega
              have hia3 : n ≤ i + a := by omega
              have hia4 : i + a ≤ n := by omega
              clear ha hia
              go_loopw [14] (fun v wr => ∃ (k : Nat) (L : List (K4 × Int)), v = .int .i64 k ∧ k ≤ 30 ∧ Full3 L a k ∧ TabAt wr g m L ∧ Fr (fun _ => False) w wr) (fun v _ => 30 - (intOf v).toNat)
              case atStart => exact ⟨0, L4, rfl, by omega, HF3.out, HT4.out, Hf4.out⟩
              case round =>
                clear HF3 HT4 Hf4
                obtain ⟨k, L, rfl, hk, hL, hT, hf⟩ := hrel
                have HL := Lib.hid hL
                have HT := Lib.hid hT
                have Hf := Lib.hid hf
                clear hL hT hf
                by_cases hk30 : k < 30
                · have hs1 := fun w => (open16 g m L (1000 + k) 0 0 0 0 0 w (kf_ok (1000 + k) (by omega)) · (by rw [HL.out.1]; omega))
                  have Hs1 := Lib.hid hs1
                  clear hs1
                  have hq : a + k < 24 ∧ decide ((k : Int) < 24 - n + i) = true ∨ ¬ a + k < 24 ∧ decide ((k : Int) < 24 - n + i) = false := by
                    by_cases h24 : a + k < 24
                    · exact .inl ⟨h24, by simp; omega⟩
                    · exact .inr ⟨h24, by simp; omega⟩
                  rcases hq with ⟨h24, hq⟩ | ⟨h24, hq⟩
                  all_goals
                    go_wp2_with fail
                    refine (Hs1.out _ HT.out).mono ?_
                    rintro e w5 ⟨rfl, T5, f5⟩
                    rw [full3_may HL.out]
                    first | rw [if_pos h24] | rw [if_neg h24]
                    have f5 := Hf.out.far f5 hm
                    have fin : ∃ (k' : Nat) (L : List (K4 × Int)), Value.int .i64 ((k : Int) + 1) = .int .i64 k' ∧ k' ≤ 30 ∧ Full3 L a k' ∧ TabAt w5 g m L ∧ Fr (fun _ => False) w w5 := ⟨k + 1, _, by go_num, by omega, full3_next HL.out, T5, f5⟩
                    have Fin := Lib.hid fin
                    clear fin T5 f5
                    go_wp2_with fail
                    go_roundw
                    case rel => exact Fin.out
                    case measure => simp [intOf]; omega
                · go_wp2_with fail
                  go_ret
                  exact ⟨rfl, Hf.out⟩
end Go.Proofs.Ytcgghjjchfafiaa
