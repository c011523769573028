/- The walk of packhorselaw01.WordWhole, and its plain law. No condition but lengths. -/
import Derived.Test.YtcgghjjchfafiaaWdG
namespace Go.Proofs.Ytcgghjjchfafiaa
set_option linter.unusedVariables false
open Go.RowKit

/-- A slice of bytes as it came. -/
structure BArg (w : World) (A : Option Addr) (cap : Nat) (l : List Int) : Prop where
  ok : isB l
  here : BytesIn w.heap.size w A l
  le : l.length ≤ cap
  top : cap ≤ 140737488351232
theorem BArg.fr {w w' : World} {A : Option Addr} {cap : Nat} {l : List Int} (h : BArg w A cap l) (f : Fr (fun _ => False) w w') : BArg w' A cap l :=
  ⟨h.ok, fun hl => by
    obtain ⟨b, off, e, hb, hc⟩ := h.here.fr f (Nat.le_refl _) (fun _ _ e => e) hl
    exact ⟨b, off, e, by have := f.size; omega, hc⟩, h.le, h.top⟩
theorem BytesIn.left {n₀ : Nat} {w : World} {A : Option Addr} {l r : List Int} (h : BytesIn n₀ w A (l ++ r)) : BytesIn n₀ w A l := fun hl => by
  obtain ⟨b, off, e, hb, hc⟩ := h (by simp; omega)
  exact ⟨b, off, e, hb, fun j x hj => hc j x (by rw [List.getElem?_append_left (List.getElem?_eq_some_iff.1 hj).1]; exact hj)⟩
theorem BytesIn.take {n₀ : Nat} {w : World} {A : Option Addr} {l : List Int} (h : BytesIn n₀ w A l) (m : Nat) : BytesIn n₀ w A (l.take m) := by
  have e : l.take m ++ l.drop m = l := List.take_append_drop _ _
  rw [← e] at h
  exact h.left
theorem BytesIn.drop {n₀ : Nat} {w : World} {b off : Nat} {l : List Int} (h : BytesIn n₀ w (some ⟨b, off, Option.none⟩) l) (m : Nat) : BytesIn n₀ w (some ⟨b, off + m, Option.none⟩) (l.drop m) := fun hl => by
  obtain ⟨b', off', e, hb, hc⟩ := h (by rw [List.length_drop] at hl; omega)
  cases e
  refine ⟨b, off + m, rfl, hb, fun j x hj => ?_⟩
  rw [List.getElem?_drop] at hj
  rw [Nat.add_assoc]; exact hc _ _ hj

theorem BytesIn.up {n₀ n₁ : Nat} {w : World} {A : Option Addr} {l : List Int} (h : BytesIn n₀ w A l) (hn : n₀ ≤ n₁) : BytesIn n₁ w A l := fun hl => by
  obtain ⟨b, off, e, hb, hc⟩ := h hl
  exact ⟨b, off, e, by omega, hc⟩
theorem Fr.fromNil {w w' : World} (h : Fr (fun i => (Value.slice none 0 0).ownBlock = some i) w w') : Fr (fun _ => False) w w' := ⟨h.os, h.tape, h.output, h.size, fun i hi _ => h.block i hi (fun e => by cases e)⟩

theorem BytesIn.dropAll {n₀ : Nat} {w : World} {A : Option Addr} {l : List Int} {m : Nat} (h : l.length ≤ m) : BytesIn n₀ w A (l.drop m) := fun hl => by rw [List.length_drop] at hl; omega
theorem BytesIn.dropO {n₀ : Nat} {w : World} {A : Option Addr} {l : List Int} (h : BytesIn n₀ w A l) (m : Nat) : BytesIn n₀ w (A.map fun x => x.add m) (l.drop m) := fun hl => by
  obtain ⟨b, off, e, hb, hc⟩ := h (by rw [List.length_drop] at hl; omega)
  subst e
  refine ⟨b, off + m, by rw [Option.map_some, Addr.add_lit], hb, fun j x hj => ?_⟩
  rw [List.getElem?_drop] at hj
  rw [Nat.add_assoc]; exact hc _ _ hj

theorem wt_app : ∀ (o : Bool) (a b : List Int), wt o (a ++ b) = wt o a + wt (if a.length % 2 = 0 then o else !o) b
  | o, [], b => by simp [wt]
  | false, x :: r, b => by
    have := wt_app true r b
    simp only [List.cons_append, wt, this, List.length_cons]
    rcases Nat.mod_two_eq_zero_or_one r.length with h | h <;> simp [h, Nat.add_mod] <;> omega
  | true, x :: r, b => by
    have := wt_app false r b
    simp only [List.cons_append, wt, this, List.length_cons]
    rcases Nat.mod_two_eq_zero_or_one r.length with h | h <;> simp [h, Nat.add_mod] <;> omega
theorem wt_even {a : List Int} (h : a.length % 2 = 0) (o : Bool) (b : List Int) : wt o (a ++ b) = wt o a + wt o b := by rw [wt_app, if_pos h]
theorem wt_by16 {s : Int} (h : 0 ≤ s) (h1 : s ≤ 65535) : wt false (by16 s) = s := by simp [by16, wt]; omega
theorem by16_ok (n : Int) : isB (by16 n) := by intro x hx; simp [by16] at hx; omega
theorem ck_bd {l : List Int} (h : isB l) : 0 ≤ ck l ∧ ck l ≤ 65535 := by
  have := nrm_bd (wt_nonneg false l h); unfold ck; omega
/-- With its checksum put in as one more word the checksum is 0. -/
theorem whole_law {l : List Int} (hB : isB l) (hl : l.length % 2 = 0) {m : Nat} (hm : m % 2 = 0) (hm2 : m ≤ l.length) : ck (l.take m ++ by16 (ck l) ++ l.drop m) = 0 := by
  have hc := ck_bd hB
  have h0 := wt_nonneg false l hB
  have hlt : (l.take m).length % 2 = 0 := by rw [List.length_take]; omega
  have e1 : wt false l = wt false (l.take m) + wt false (l.drop m) := by
    conv => lhs; rw [← List.take_append_drop m l]
    exact wt_even hlt _ _
  have e2 : wt false (l.take m ++ by16 (ck l) ++ l.drop m) = wt false l + ck l := by
    rw [List.append_assoc, wt_even hlt, wt_even (a := by16 (ck l)) (by simp [by16]), wt_by16 hc.1 hc.2, e1]; omega
  rw [ck, e2]
  unfold ck at *
  unfold nrm at *
  split <;> split at * <;> omega

theorem OwnB.viewN {base : Nat} {w : World} {v : Value} {l : List Int} {n : Nat} (h : OwnB base w v l) (hn : l.length = n) :
    ∃ A cap, v = .slice A n cap ∧ BytesIn w.heap.size w A l := by subst hn; exact h.view
theorem put32N {A : Option Addr} {n : Nat} (cap n₀ : Nat) (l : List Int) (s : Int) (w : World) (hn : l.length = n) (hb : BytesIn n₀ w A l) (hlen : n + 2 ≤ 140737488355328) (hn₀ : n₀ ≤ w.heap.size) :
    Calls Try.prog 32 #[.slice A n cap, .int .i64 s] w fun e w' => ∃ v', e = .returned v' ∧ OwnB w.heap.size w' v' (l ++ by16 s) ∧ Fr (fun _ => False) w w' := by subst hn; exact put32 A cap n₀ l s w hb hlen hn₀
theorem sum28_boxN {A : Option Addr} {n : Nat} (c : Nat) (l : List Int) (w : World) (hn : l.length = n) (hB : isB l) (hl : n ≤ 140737488355328) (hA : BytesIn w.heap.size w A l) (c' : Nat) :
    Calls Try.prog 28 #[.slice (some ⟨w.heap.size, 0, none⟩) 1 c'] (w.alloc (.cells #[.slice A n c] 49)) fun e w' => e = .returned (.int .i64 (ck l)) ∧ Fr (fun _ => False) w w' := by subst hn; exact sum28_box A c l w hB hl hA c'
theorem wpList_appN {ops : Array Oper} {rest : List Oper} {o : Oper} {a : Act} {Q : Exit → Act → World → Prop} (w : World) (hgd : o.guard = none) (s x : Operand)
    (ho : o.op = .call { callee := .builtin .append, args := #[s, x], argTypes := #[49, 49] })
    (base : Nat) (v : Value) (l : List Int) (hs : a.eval s = v) (hown : OwnB base w v l) (n₀ : Nat) (A : Option Addr) (n c : Nat) (k : List Int) (hn : k.length = n) (hx : a.eval x = .slice A n c) (hb : BytesIn n₀ w A k) (hlen : l.length + n ≤ 140737488355328) (hbase : base ≤ w.heap.size)
    (h : ∀ v' w', OwnB base w' v' (l ++ k) → Fr (fun i => v.ownBlock = some i) w w' → wpList Try.prog ops Q rest (a.put o.dst v') w') : wpList Try.prog ops Q (o :: rest) a w := by
  subst hn
  exact wpList_app w hgd s x ho base v l hs hown n₀ A c k hx hb hlen hbase (fun v' w' h1 h2 _ _ => h v' w' h1 (fr_of_grown h2))
/-- A turn of a row of one's own leaves what was. -/
theorem OwnB.turn {base : Nat} {w0 w w' : World} {v : Value} {l : List Int} (h : OwnB base w v l) (f0 : Fr (fun _ => False) w0 w) (hbase : w0.heap.size ≤ base) (f : Fr (fun i => v.ownBlock = some i) w w') : Fr (fun _ => False) w0 w' :=
  f0.trans f (fun i hi e => by have := (World.ownsRow.lt h i e).1; omega)
theorem OwnB.base {base base' : Nat} {w : World} {v : Value} {l : List Int} (h : OwnB base w v l) (hb : base' ≤ base) : OwnB base' w v l := World.ownsRow.mono h hb

set_option maxHeartbeats 4000000 in
set_option maxRecDepth 100000 in
theorem whole7 (A : Option Addr) (cap : Nat) (l : List Int) (at0 : Int) (w : World) (hL : BArg w A cap l) :
    Calls Try.prog 7 #[.slice A l.length cap, .int .i64 at0] w fun e w' => e = .returned (.bool true) ∧ Fr (fun _ => False) w w' := by
  have HL := Lib.hid hL
  obtain ⟨len, hlen⟩ : ∃ n, n = l.length := ⟨_, rfl⟩
  have hle : len ≤ cap := by rw [hlen]; exact hL.le
  have htop : cap ≤ 140737488351232 := hL.top
  rw [← hlen]
  have Hlen := Lib.hid hlen
  clear hlen hL
  go_enter Try.func7, Try.ntmps7
  go_upto_if 12 with (go_at_call 27; refine (awake27 _).mono ?_; rintro e w1 ⟨rfl, f1⟩)
  go_cut [0] (fun v0 wc => v0 = .slice A (len - len % 2) cap ∧ wc = w1)
  case first =>
    by_cases hodd : len % 2 = 1
    · have h1 : ((len : Int) % 2) = 1 := by omega
      go_wp2_with fail
      go_meet
      exact ⟨by rw [hodd], rfl⟩
    · have h1 : ¬ ((len : Int) % 2) = 1 := by omega
      have h2 : len % 2 = 0 := by omega
      go_wp2_with fail
      go_meet
      exact ⟨by rw [h2]; rfl, rfl⟩
  case rest =>
    obtain ⟨rfl, rfl⟩ := hcut
    obtain ⟨l2, hl2⟩ : ∃ l2, l2 = l.take (len - len % 2) := ⟨_, rfl⟩
    obtain ⟨len2, hlen2⟩ : ∃ n, n = len - len % 2 := ⟨_, rfl⟩
    have hev : len2 % 2 = 0 := by omega
    have hle2 : len2 ≤ cap := by omega
    have hl2n : l2.length = len2 := by rw [hl2, List.length_take, ← Hlen.out]; omega
    have hl2B : isB l2 := fun x hx => HL.out.ok x (List.mem_of_mem_take (hl2 ▸ hx))
    have hl2b : BytesIn w.heap.size wc A l2 := by rw [hl2]; exact (HL.out.here.fr f1 (Nat.le_refl _) (fun _ _ e => e)).take _
    rw [← hlen2]
    have HN := Lib.hid hl2n
    have Hb := Lib.hid hl2b
    clear hl2 hlen2 hl2n hl2b hle
    go_at_K
    go_step
    go_step
    go_cut [1] (fun v1 w' => ∃ m : Nat, v1 = .int .i64 m ∧ m ≤ len2 ∧ m % 2 = 0 ∧ w' = wc)
    case first =>
      by_cases h1 : at0 < 0
      · go_wp2_with fail
        go_meet
        exact ⟨len2, rfl, Nat.le_refl _, hev, rfl⟩
      · obtain ⟨m, rfl⟩ : ∃ m : Nat, at0 = m := ⟨at0.toNat, by omega⟩
        clear h1
        by_cases h2 : len2 < m
        · go_wp2_with fail
          go_meet
          exact ⟨len2, rfl, Nat.le_refl _, hev, rfl⟩
        · by_cases h3 : m % 2 = 1
          · have h4 : ((m : Int) % 2) = 1 := by omega
            go_wp2_with fail
            go_meet
            exact ⟨len2, rfl, Nat.le_refl _, hev, rfl⟩
          · have h4 : ((m : Int) % 2) = 0 := by omega
            go_wp2_with fail
            go_meet
            exact ⟨m, rfl, by omega, by omega, rfl⟩
    case rest =>
      obtain ⟨m, rfl, hm, hmev, rfl⟩ := hcut
      have hS := ck_bd hl2B
      have hw := whole_law hl2B (by rw [HN.out]; exact hev) hmev (by rw [HN.out]; exact hm)
      obtain ⟨S, hSS⟩ : ∃ S, S = ck l2 := ⟨_, rfl⟩
      rw [← hSS] at hS hw
      have HW := Lib.hid hw
      have HS := Lib.hid hSS
      have htk : (l2.take m).length = m := by rw [List.length_take, HN.out]; omega
      have hdk : (l2.drop m).length = len2 - m := by rw [List.length_drop, HN.out]
      have Htk := Lib.hid htk
      have Hdk := Lib.hid hdk
      obtain ⟨hS0, hS1⟩ := hS
      clear hw hSS htk hdk
      have hb1 : BytesIn wc.heap.size wc A l2 := Hb.out.up f1.size
      have HB1 := Lib.hid hb1
      clear hb1
      go_upto_region 7 with (go_at_call 28; refine (sum28_boxN cap l2 _ HN.out hl2B (by omega) HB1.out _).mono ?_; rw [← HS.out]; rintro e w2 ⟨rfl, f2⟩)
      go_upto_region 8 with (first
          | (at_builtin; refine wpList_appN _ rfl _ _ rfl w2.heap.size _ [] rfl (OwnB.nil _ _) w.heap.size A m cap (l2.take m) Htk.out (by exact rfl) (by exact (Hb.out.fr f2 f1.size (fun _ _ e => e)).take _) (by simp; omega) (Nat.le_refl _) ?_; intro v3 w3 o3 f3; have f3 := f3.fromNil; (have o3 : OwnB w2.heap.size w3 v3 (l2.take m) := by simpa using o3); obtain ⟨A3, c3, rfl, b3⟩ := o3.viewN Htk.out; clear o3)
          | (go_at_call 32; refine (put32N c3 _ _ S _ Htk.out b3 (by omega) (Nat.le_refl _)).mono ?_; rintro e w4 ⟨v4, rfl, o4, f4⟩))
      have g4 := ((f1.then f2).then f3).then f4
      have hb4 := Hb.out.fr ((f2.then f3).then f4) f1.size (fun _ _ e => e)
      have hs4 := f4.size
      have hw3 : w.heap.size ≤ w3.heap.size := by have := f1.size; have := f2.size; have := f3.size; omega
      clear f1 f2 f3 f4 b3
      have htl : (l2.take m ++ by16 S).length + (len2 - m) = len2 + 2 := by rw [List.length_append, Htk.out, show (by16 S).length = 2 from rfl]; omega
      have Htl := Lib.hid htl
      clear htl
      go_cut [7] (fun v7 w5 => OwnB w3.heap.size w5 v7 (l2.take m ++ by16 S ++ l2.drop m) ∧ Fr (fun _ => False) w w5)
      case first =>
        by_cases hcm : cap = m
        · have hd0 : l2.drop m = [] := List.drop_eq_nil_of_le (by rw [HN.out]; omega)
          have Hd0 := Lib.hid hd0
          have Htl2 : (l2.take m ++ by16 S).length + 0 ≤ 140737488355328 := by have := Htl.out; omega
          have HT2 := Lib.hid Htl2
          clear hd0 Htl2
          subst hcm
          go_wp2_with (at_builtin; refine wpList_appN _ rfl _ _ rfl w3.heap.size _ (l2.take cap ++ by16 S) (by exact rfl) o4 w.heap.size A 0 _ [] rfl (by exact rfl) (fun h => absurd h (by decide)) HT2.out hs4 ?_; intro v5 w5 o5 f5)
          go_meet
          exact ⟨by rw [Hd0.out]; exact o5, o4.turn g4 hw3 f5⟩
        · have hb5 := hb4.dropO m
          go_wp2_with (at_builtin; refine wpList_appN _ rfl _ _ rfl w3.heap.size _ (l2.take m ++ by16 S) (by exact rfl) o4 w.heap.size (A.map fun x => x.add m) (len2 - m) (cap - m) (l2.drop m) Hdk.out (by exact rfl) hb5 (by rw [Htl.out]; omega) hs4 ?_; intro v5 w5 o5 f5)
          go_meet
          exact ⟨o5, o4.turn g4 hw3 f5⟩
      case rest =>
        obtain ⟨o5, g5⟩ := hcut
        rename_i v5 w5 _
        have hfl : (l2.take m ++ by16 S ++ l2.drop m).length = len2 + 2 := by rw [List.length_append, List.length_append, Htk.out, Hdk.out, show (by16 S).length = 2 from rfl]; omega
        have hfB : isB (l2.take m ++ by16 S ++ l2.drop m) := ((show isB (l2.take m) from fun x hx => hl2B x (List.mem_of_mem_take hx)).app (by16_ok S)).app (fun x hx => hl2B x (List.mem_of_mem_drop hx))
        obtain ⟨A5, c5, hv5, b5⟩ := o5.viewN hfl
        subst hv5
        have B5 := Lib.hid b5
        have FL := Lib.hid hfl
        have FB := Lib.hid hfB
        clear b5 hfl hfB o5
        go_wp2_with (go_at_call 28; refine (sum28_boxN c5 _ _ FL.out FB.out (by omega) B5.out _).mono ?_; rw [HW.out]; rintro e w6 ⟨rfl, f6⟩)
        go_ret
        exact ⟨rfl, g5.then f6⟩
end Go.Proofs.Ytcgghjjchfafiaa
