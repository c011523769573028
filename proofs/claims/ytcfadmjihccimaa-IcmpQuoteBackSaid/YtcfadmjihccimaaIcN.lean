/- Encode and Decode of law 12, of the program and of the reference: one contract each, for any input. No condition but the form's sizes. -/
import Derived.Test.YtcfadmjihccimaaIcS
import Derived.Test.YtcfadmjihccimaaIcT
namespace Go.Proofs.Ytcfadmjihccimaa
set_option linter.unusedVariables false
set_option linter.unusedSimpArgs false
open Go.RowKit

def zIm : Im := ⟨0, 0, 0, 0, 0⟩
/-- What Encode says. -/
def encL (m : Im) (nd : Nat) (d : List Int) : List Int := if nd ≤ 1016 ∧ m.may = true then m.lay (ck (m.lay 0 d)) d else []
def encE (m : Im) (nd : Nat) : Int := if nd ≤ 1016 then (if m.may = true then 0 else 1) else 2
/-- What Decode says. -/
def decG (l : List Int) : Bool := (dI l).may && (ec (dI l).ty || (atV l 4 2 == 0))
def decE (l : List Int) : Int := if l.length < 8 then 3 else if 1024 < l.length then 2 else if ck l ≠ 0 then 5 else if decG l = true then 0 else 4
def decM (l : List Int) : Im := if decE l = 0 then dI l else zIm
def decL (l : List Int) : List Int := if decE l = 0 then l.drop 8 else []

def EncPost (m : Im) (nd : Nat) (d : List Int) (w : World) (e : Ending) (w' : World) : Prop := ∃ A c, e = .returned (.tuple #[.slice A (encL m nd d).length c, .int .i64 (encE m nd)]) ∧ OwnB w.heap.size w' (.slice A (encL m nd d).length c) (encL m nd d) ∧ Fr (fun _ => False) w w'
theorem encode_any (m : Im) (A : Option Addr) (nd cd : Nat) (d : List Int) (w : World) (P : Pc w A nd d) :
    Calls Try.prog 12 #[.agg #[.int .i64 m.ty, .int .i64 m.code, .int .i64 m.id, .int .i64 m.seq, .int .i64 m.mtu, .slice A nd cd]] w (EncPost m nd d w) := by
  unfold EncPost encL encE
  by_cases hn : nd ≤ 1016
  · cases hm : m.may with
    | true =>
      rw [if_pos ⟨hn, rfl⟩, if_pos hn, if_pos rfl]
      refine (encode12_ok m A nd cd d w hn hm P).mono ?_
      rintro e w' ⟨v, rfl, o, f⟩
      obtain ⟨A', c', rfl, _⟩ := o.view
      exact ⟨A', c', rfl, o, f⟩
    | false =>
      rw [if_neg (by simp), if_pos hn, if_neg (by simp)]
      exact (encode12_bad m A nd cd w hn hm).mono fun e w' h => ⟨none, 0, h.1, OwnB.nil _ _, h.2⟩
  · rw [if_neg (by omega), if_neg hn]
    exact (encode12_long m A nd cd w (by omega)).mono fun e w' h => ⟨none, 0, h.1, OwnB.nil _ _, h.2⟩
theorem rencode_any (m : Im) (A : Option Addr) (nd cd : Nat) (d : List Int) (w : World) (P : Pc w A nd d) :
    Calls Try.prog 13 #[.agg #[.int .i64 m.ty, .int .i64 m.code, .int .i64 m.id, .int .i64 m.seq, .int .i64 m.mtu, .slice A nd cd]] w (EncPost m nd d w) := by
  unfold EncPost encL encE
  by_cases hn : nd ≤ 1016
  · cases hm : m.may with
    | true =>
      rw [if_pos ⟨hn, rfl⟩, if_pos hn, if_pos rfl]
      refine (rencode13_ok m A nd cd d w hn hm P).mono ?_
      rintro e w' ⟨v, rfl, o, f⟩
      obtain ⟨A', c', rfl, _⟩ := o.view
      exact ⟨A', c', rfl, o, f⟩
    | false =>
      rw [if_neg (by simp), if_pos hn, if_neg (by simp)]
      exact (rencode13_bad m A nd cd w hn hm).mono fun e w' h => ⟨none, 0, h.1, OwnB.nil _ _, h.2⟩
  · rw [if_neg (by omega), if_neg hn]
    exact (rencode13_long m A nd cd w (by omega)).mono fun e w' h => ⟨none, 0, h.1, OwnB.nil _ _, h.2⟩

def DecPost (own : Bool) (l : List Int) (w : World) (e : Ending) (w' : World) : Prop := ∃ A c, e = .returned (.tuple #[.agg #[.int .i64 (decM l).ty, .int .i64 (decM l).code, .int .i64 (decM l).id, .int .i64 (decM l).seq, .int .i64 (decM l).mtu, .slice A (decL l).length c], .int .i64 (decE l)]) ∧
  (own = true → OwnB w.heap.size w' (.slice A (decL l).length c) (decL l)) ∧ Pc w' A (decL l).length (decL l) ∧ Fr (fun _ => False) w w'
theorem pc_nil (w : World) : Pc w none 0 [] := ⟨rfl, (fun _ h => by cases h), by decide, fun h => absurd h (by decide)⟩
theorem decPost_no {own : Bool} {l : List Int} {w w' : World} {r : Int} (hr : decE l = r) (h0 : r ≠ 0) (f : Fr (fun _ => False) w w') :
    DecPost own l w (.returned (.tuple #[.agg #[.int .i64 0, .int .i64 0, .int .i64 0, .int .i64 0, .int .i64 0, .slice none 0 0], .int .i64 r])) w' := by
  unfold DecPost decM decL
  rw [hr, if_neg h0, if_neg h0]
  exact ⟨none, 0, rfl, fun _ => OwnB.nil _ _, pc_nil _, f⟩
theorem decode_any (A : Option Addr) (n c : Nat) (l : List Int) (w : World) (hc : n ≤ c) (P : Pc w A n l) : Calls Try.prog 14 #[.slice A n c] w (DecPost true l w) := by
  have hl := P.len
  by_cases h8 : n < 8
  · have hr : decE l = 3 := by unfold decE; rw [if_pos (by omega)]
    exact (decode14_short A n c w h8).mono fun e w' h => by rw [h.1]; exact decPost_no hr (by decide) h.2
  by_cases h1 : 1024 < n
  · have hr : decE l = 2 := by unfold decE; rw [if_neg (by omega), if_pos (by omega)]
    exact (decode14_long A n c w h1).mono fun e w' h => by rw [h.1]; exact decPost_no hr (by decide) h.2
  by_cases hs : ck l = 0
  · refine (decode14_rest A n c l w (by omega) (by omega) hc P hs (dI l) rfl (ec (dI l).ty) rfl rfl rfl rfl rfl rfl).mono ?_
    rintro e w' ⟨f, hg, hb⟩
    cases h : decG l with
    | true =>
      have hr : decE l = 0 := by unfold decE; rw [if_neg (by omega), if_neg (by omega), if_neg (by simpa using hs), if_pos h]
      obtain ⟨v, rfl, o⟩ := hg h
      obtain ⟨A', c', rfl, _⟩ := o.view
      unfold DecPost decM decL
      rw [hr, if_pos rfl, if_pos rfl]
      exact ⟨A', c', rfl, fun _ => o, (o.pc rfl (fun x hx => P.ok x (List.mem_of_mem_drop hx)) (by have := P.top; rw [List.length_drop]; omega)).1, f⟩
    | false =>
      have hr : decE l = 4 := by unfold decE; rw [if_neg (by omega), if_neg (by omega), if_neg (by simpa using hs), if_neg (by rw [h]; simp)]
      rw [hb h]
      exact decPost_no hr (by decide) f
  · have hr : decE l = 5 := by unfold decE; rw [if_neg (by omega), if_neg (by omega), if_pos hs]
    exact (decode14_sum A n c l w (by omega) (by omega) P hs).mono fun e w' h => by rw [h.1]; exact decPost_no hr (by decide) h.2
theorem rdecode_any (A : Option Addr) (n c : Nat) (l : List Int) (w : World) (hc : n ≤ c) (P : Pc w A n l) : Calls Try.prog 15 #[.slice A n c] w (DecPost false l w) := by
  have hl := P.len
  by_cases h8 : n < 8
  · have hr : decE l = 3 := by unfold decE; rw [if_pos (by omega)]
    exact (rdecode15_short A n c w h8).mono fun e w' h => by rw [h.1]; exact decPost_no hr (by decide) h.2
  by_cases h1 : 1024 < n
  · have hr : decE l = 2 := by unfold decE; rw [if_neg (by omega), if_pos (by omega)]
    exact (rdecode15_long A n c w h1).mono fun e w' h => by rw [h.1]; exact decPost_no hr (by decide) h.2
  by_cases hs : ck l = 0
  · refine (rdecode15_rest A n c l w (by omega) (by omega) hc P hs (dI l) rfl (ec (dI l).ty) rfl rfl rfl rfl rfl rfl).mono ?_
    rintro e w' ⟨f, hg, hb⟩
    cases h : decG l with
    | true =>
      have hr : decE l = 0 := by unfold decE; rw [if_neg (by omega), if_neg (by omega), if_neg (by simpa using hs), if_pos h]
      obtain ⟨A', c', rfl, o⟩ := hg h
      unfold DecPost decM decL
      rw [hr, if_pos rfl, if_pos rfl, show (l.drop 8).length = n - 8 by rw [List.length_drop, hl]]
      exact ⟨A', c', rfl, (fun h => by cases h), o, f⟩
    | false =>
      have hr : decE l = 4 := by unfold decE; rw [if_neg (by omega), if_neg (by omega), if_neg (by simpa using hs), if_neg (by rw [h]; simp)]
      rw [hb h]
      exact decPost_no hr (by decide) f
  · have hr : decE l = 5 := by unfold decE; rw [if_neg (by omega), if_neg (by omega), if_pos hs]
    exact (rdecode15_sum A n c l w (by omega) (by omega) P hs).mono fun e w' h => by rw [h.1]; exact decPost_no hr (by decide) h.2

/-- What is written is read as it. -/
theorem dec_lay {m : Im} {d : List Int} {s : Int} (hm : m.may = true) (hs : 0 ≤ s ∧ s ≤ 65535) : dI (m.lay s d) = m ∧ atV (m.lay s d) 4 2 = (if ec m.ty = true then m.id else 0) := by
  obtain ⟨r1, r2⟩ := may_rng hm
  cases hb : ec m.ty
  · obtain ⟨a, b, c, e⟩ := r2 hb
    have hl : m.lay s d = m.ty :: m.code :: s / 256 % 256 :: s % 256 :: 0 :: 0 :: m.mtu / 256 % 256 :: m.mtu % 256 :: d := by
      unfold Im.lay Im.mid; rw [hb]; rfl
    have v4 : atV (m.lay s d) 4 2 = 0 := by
      rw [hl]; unfold atV; rw [if_neg (by simp only [List.length_cons]; omega)]; rfl
    have v6 : atV (m.lay s d) 6 2 = m.mtu := by
      rw [hl]; unfold atV; rw [if_neg (by simp only [List.length_cons]; omega)]
      simp [be]; omega
    have d0 : dX (m.lay s d) 0 = m.ty := by rw [hl]; rfl
    have d1 : dX (m.lay s d) 1 = m.code := by rw [hl]; rfl
    refine ⟨?_, by rw [v4]; rfl⟩
    unfold dI
    rw [d0, d1, hb, v4, v6]
    cases m; simp_all
  · obtain ⟨a, b, c, e, f⟩ := r1 hb
    have hl : m.lay s d = m.ty :: m.code :: s / 256 % 256 :: s % 256 :: m.id / 256 % 256 :: m.id % 256 :: m.seq / 256 % 256 :: m.seq % 256 :: d := by
      unfold Im.lay Im.mid; rw [hb]; rfl
    have v4 : atV (m.lay s d) 4 2 = m.id := by
      rw [hl]; unfold atV; rw [if_neg (by simp only [List.length_cons]; omega)]
      simp [be]; omega
    have v6 : atV (m.lay s d) 6 2 = m.seq := by
      rw [hl]; unfold atV; rw [if_neg (by simp only [List.length_cons]; omega)]
      simp [be]; omega
    have d0 : dX (m.lay s d) 0 = m.ty := by rw [hl]; rfl
    have d1 : dX (m.lay s d) 1 = m.code := by rw [hl]; rfl
    refine ⟨?_, by rw [v4]; rfl⟩
    unfold dI
    rw [d0, d1, hb, v4, v6]
    cases m; simp_all
theorem back_law {m : Im} {nd : Nat} {d : List Int} (hd : isB d) (hl : d.length = nd) (he : encE m nd = 0) : decE (encL m nd d) = 0 ∧ decM (encL m nd d) = m ∧ decL (encL m nd d) = d := by
  unfold encE at he
  split at he
  · rename_i hn
    split at he
    · rename_i hm
      have e : encL m nd d = m.lay (ck (m.lay 0 d)) d := by unfold encL; rw [if_pos ⟨hn, hm⟩]
      have h0 := nrm_bd (wt_nonneg false _ (isB_lay hm 0 hd))
      have hck : 0 ≤ ck (m.lay 0 d) ∧ ck (m.lay 0 d) ≤ 65535 := by unfold ck; omega
      obtain ⟨h1, h2⟩ := dec_lay (d := d) hm hck
      have hg : decG (m.lay (ck (m.lay 0 d)) d) = true := by
        unfold decG
        rw [h1, h2, hm]
        cases hb : ec m.ty <;> simp
      have hE : decE (m.lay (ck (m.lay 0 d)) d) = 0 := by
        unfold decE
        rw [lay_len, if_neg (by omega), if_neg (by omega), if_neg (by rw [lay_ck hm hd]; simp), if_pos hg]
      rw [e]
      refine ⟨hE, by unfold decM; rw [if_pos hE, h1], ?_⟩
      unfold decL
      rw [if_pos hE]
      unfold Im.lay Im.mid
      split <;> rfl
    · omega
  · omega
end Go.Proofs.Ytcfadmjihccimaa
