/- What Decode reads, as plain functions of the bytes; Encode and Decode undo one another. No condition but lengths. -/
import Derived.Test.YtmonaaappimphaaEtT
namespace Go.Proofs.Ytmonaaappimphaa
set_option linter.unusedVariables false
open Go.RowKit

def dX (l : List Int) (i : Nat) : Int := l.getD i 0
def dTg (l : List Int) : Bool := dX l 12 * 256 + dX l 13 == 33024
def dT (l : List Int) : Nat := cond (dTg l) 16 12
def dMo (l : List Int) : Int := cond (dTg l) 274 270
def dG (l : List Int) : Fh := ⟨⟨dX l 0, dX l 1, dX l 2, dX l 3, dX l 4, dX l 5⟩, ⟨dX l 6, dX l 7, dX l 8, dX l 9, dX l 10, dX l 11⟩, dTg l, cond (dTg l) ((dX l 14 * 256 + dX l 15) % 4096) 0, cond (dTg l) (cond ((dX l 14 * 256 + dX l 15) / 4096 % 2 == 1) (-1) ((dX l 14 * 256 + dX l 15) / 8192)) 0, dX l (dT l) * 256 + dX l (dT l + 1)⟩
theorem dX_get {l : List Int} {i : Nat} (h : i < l.length) : l[i]? = some (dX l i) := by
  unfold dX
  rw [List.getD_eq_getElem?_getD, List.getElem?_eq_getElem h]; rfl
theorem decode_N (A : Option Addr) (n c : Nat) (l : List Int) (w : World) (hn : 60 ≤ n) (hc : n ≤ c) (P : Pc w A n l) (g : Fh) (hg : dG l = g) :
    Calls Try.prog 15 #[.slice A n c] w fun e w' => Fr (fun _ => False) w w' ∧ (dMo l < n → e = .returned (.tuple #[.agg #[.int .u8 0, .int .u8 0, .int .u8 0, .int .u8 0, .int .u8 0, .int .u8 0, .int .u8 0, .int .u8 0, .int .u8 0, .int .u8 0, .int .u8 0, .int .u8 0, .bool false, .int .i64 0, .int .i64 0, .int .i64 0], .slice none 0 0, .int .i64 2])) ∧ (¬ dMo l < n → g.may = false → e = .returned (.tuple #[.agg #[.int .u8 0, .int .u8 0, .int .u8 0, .int .u8 0, .int .u8 0, .int .u8 0, .int .u8 0, .int .u8 0, .int .u8 0, .int .u8 0, .int .u8 0, .int .u8 0, .bool false, .int .i64 0, .int .i64 0, .int .i64 0], .slice none 0 0, .int .i64 4])) ∧ (¬ dMo l < n → g.may = true → ∃ v, e = .returned (.tuple #[.agg #[.int .u8 g.dst.a, .int .u8 g.dst.b, .int .u8 g.dst.c, .int .u8 g.dst.d, .int .u8 g.dst.e, .int .u8 g.dst.f, .int .u8 g.src.a, .int .u8 g.src.b, .int .u8 g.src.c, .int .u8 g.src.d, .int .u8 g.src.e, .int .u8 g.src.f, .bool g.tag, .int .i64 g.vlan, .int .i64 g.prio, .int .i64 g.ty], v, .int .i64 0]) ∧ OwnB w.heap.size w' v (l.drop (dT l + 2))) := by
  obtain ⟨b, off, rfl, _, _⟩ := P.here (by rw [P.len]; omega)
  exact decode15_all b off n c l (dX l) (dTg l) (dT l) (dMo l) g w hn hc P (fun i hi => dX_get (by rw [P.len]; omega)) rfl rfl rfl hg.symm
theorem decode_long (A : Option Addr) (n c : Nat) (l : List Int) (w : World) (hn : 60 ≤ n) (hc : n ≤ c) (P : Pc w A n l) (h : dMo l < n) :
    Calls Try.prog 15 #[.slice A n c] w fun e w' => e = .returned (.tuple #[.agg #[.int .u8 0, .int .u8 0, .int .u8 0, .int .u8 0, .int .u8 0, .int .u8 0, .int .u8 0, .int .u8 0, .int .u8 0, .int .u8 0, .int .u8 0, .int .u8 0, .bool false, .int .i64 0, .int .i64 0, .int .i64 0], .slice none 0 0, .int .i64 2]) ∧ Fr (fun _ => False) w w' :=
  (decode_N A n c l w hn hc P _ rfl).mono fun e w' k => ⟨k.2.1 h, k.1⟩
theorem decode_form (A : Option Addr) (n c : Nat) (l : List Int) (w : World) (hn : 60 ≤ n) (hc : n ≤ c) (P : Pc w A n l) (h : ¬ dMo l < n) (hm : (dG l).may = false) :
    Calls Try.prog 15 #[.slice A n c] w fun e w' => e = .returned (.tuple #[.agg #[.int .u8 0, .int .u8 0, .int .u8 0, .int .u8 0, .int .u8 0, .int .u8 0, .int .u8 0, .int .u8 0, .int .u8 0, .int .u8 0, .int .u8 0, .int .u8 0, .bool false, .int .i64 0, .int .i64 0, .int .i64 0], .slice none 0 0, .int .i64 4]) ∧ Fr (fun _ => False) w w' :=
  (decode_N A n c l w hn hc P _ rfl).mono fun e w' k => ⟨k.2.2.1 h hm, k.1⟩
theorem decode_ok (A : Option Addr) (n c : Nat) (l : List Int) (w : World) (hn : 60 ≤ n) (hc : n ≤ c) (P : Pc w A n l) (g : Fh) (hg : dG l = g) (h : ¬ dMo l < n) (hm : g.may = true) :
    Calls Try.prog 15 #[.slice A n c] w fun e w' => ∃ v, e = .returned (.tuple #[.agg #[.int .u8 g.dst.a, .int .u8 g.dst.b, .int .u8 g.dst.c, .int .u8 g.dst.d, .int .u8 g.dst.e, .int .u8 g.dst.f, .int .u8 g.src.a, .int .u8 g.src.b, .int .u8 g.src.c, .int .u8 g.src.d, .int .u8 g.src.e, .int .u8 g.src.f, .bool g.tag, .int .i64 g.vlan, .int .i64 g.prio, .int .i64 g.ty], v, .int .i64 0]) ∧ OwnB w.heap.size w' v (l.drop (dT l + 2)) ∧ Fr (fun _ => False) w w' :=
  (decode_N A n c l w hn hc P g hg).mono fun e w' k => by
    obtain ⟨v, h1, h2⟩ := k.2.2.2 h hm
    exact ⟨v, h1, h2, k.1⟩

theorem dG_pad (f : Fh) (b : List Int) (hm : f.may = true) : dG (f.pad b) = f ∧ dT (f.pad b) = 12 + f.tl.length ∧ dTg (f.pad b) = f.tag := by
  have ht := may_ty hm
  have hv := fun h => may_tag hm h
  have hp := fun h => may_plain hm h
  obtain ⟨⟨d0, d1, d2, d3, d4, d5⟩, ⟨s0, s1, s2, s3, s4, s5⟩, tag, vlan, prio, ty⟩ := f
  cases tag
  · have hp := hp rfl
    simp only at hp ht
    have e : (Fh.pad ⟨⟨d0, d1, d2, d3, d4, d5⟩, ⟨s0, s1, s2, s3, s4, s5⟩, false, vlan, prio, ty⟩ b) = [d0, d1, d2, d3, d4, d5, s0, s1, s2, s3, s4, s5, ty / 256 % 256, ty % 256] ++ (b ++ List.replicate (60 - (Fh.enc ⟨⟨d0, d1, d2, d3, d4, d5⟩, ⟨s0, s1, s2, s3, s4, s5⟩, false, vlan, prio, ty⟩ b).length) 0) := by
      simp [Fh.pad, Fh.enc, Fh.tl, M6.l, pr]
    rw [e]
    have k : dTg ([d0, d1, d2, d3, d4, d5, s0, s1, s2, s3, s4, s5, ty / 256 % 256, ty % 256] ++ (b ++ List.replicate (60 - (Fh.enc ⟨⟨d0, d1, d2, d3, d4, d5⟩, ⟨s0, s1, s2, s3, s4, s5⟩, false, vlan, prio, ty⟩ b).length) 0)) = false := by
      simp only [dTg, dX, List.cons_append, List.getD_cons_succ, List.getD_cons_zero]
      simp only [beq_eq_false_iff_ne, ne_eq]; omega
    refine ⟨?_, ?_, k⟩
    · unfold dG dT
      rw [k]
      simp only [dX, cond_false, List.cons_append, List.getD_cons_succ, List.getD_cons_zero, Fh.mk.injEq, true_and]
      exact ⟨hp.1.symm, hp.2.symm, by omega⟩
    · unfold dT; rw [k]; rfl
  · have hv := hv rfl
    simp only at hv ht
    have e : (Fh.pad ⟨⟨d0, d1, d2, d3, d4, d5⟩, ⟨s0, s1, s2, s3, s4, s5⟩, true, vlan, prio, ty⟩ b) = [d0, d1, d2, d3, d4, d5, s0, s1, s2, s3, s4, s5, 129, 0, (prio * 8192 + vlan) / 256 % 256, (prio * 8192 + vlan) % 256, ty / 256 % 256, ty % 256] ++ (b ++ List.replicate (60 - (Fh.enc ⟨⟨d0, d1, d2, d3, d4, d5⟩, ⟨s0, s1, s2, s3, s4, s5⟩, true, vlan, prio, ty⟩ b).length) 0) := by
      simp [Fh.pad, Fh.enc, Fh.tl, M6.l, pr]
    rw [e]
    have k : dTg ([d0, d1, d2, d3, d4, d5, s0, s1, s2, s3, s4, s5, 129, 0, (prio * 8192 + vlan) / 256 % 256, (prio * 8192 + vlan) % 256, ty / 256 % 256, ty % 256] ++ (b ++ List.replicate (60 - (Fh.enc ⟨⟨d0, d1, d2, d3, d4, d5⟩, ⟨s0, s1, s2, s3, s4, s5⟩, true, vlan, prio, ty⟩ b).length) 0)) = true := by
      simp [dTg, dX]
    refine ⟨?_, ?_, k⟩
    · unfold dG dT
      rw [k]
      simp only [dX, cond_true, List.cons_append, List.getD_cons_succ, List.getD_cons_zero, Fh.mk.injEq, true_and]
      have q : ((prio * 8192 + vlan) / 256 % 256 * 256 + (prio * 8192 + vlan) % 256) = prio * 8192 + vlan := by omega
      rw [q]
      have q2 : ((prio * 8192 + vlan) / 4096 % 2 == 1) = false := by simp only [beq_eq_false_iff_ne, ne_eq]; omega
      rw [q2, cond_false]
      exact ⟨by omega, by omega, by omega⟩
    · unfold dT; rw [k]; rfl

theorem eighteen {l : List Int} (h : 18 ≤ l.length) : l = [dX l 0, dX l 1, dX l 2, dX l 3, dX l 4, dX l 5, dX l 6, dX l 7, dX l 8, dX l 9, dX l 10, dX l 11, dX l 12, dX l 13, dX l 14, dX l 15, dX l 16, dX l 17] ++ l.drop 18 := by
  rcases l with _ | ⟨a0, _ | ⟨a1, _ | ⟨a2, _ | ⟨a3, _ | ⟨a4, _ | ⟨a5, _ | ⟨a6, _ | ⟨a7, _ | ⟨a8, _ | ⟨a9, _ | ⟨a10, _ | ⟨a11, _ | ⟨a12, _ | ⟨a13, _ | ⟨a14, _ | ⟨a15, _ | ⟨a16, _ | ⟨a17, l⟩⟩⟩⟩⟩⟩⟩⟩⟩⟩⟩⟩⟩⟩⟩⟩⟩⟩ <;> first | (simp [dX]; done) | (simp at h; done) | (simp at h; omega)
theorem pad_dG (l : List Int) (hB : isB l) (hl : 60 ≤ l.length) (hm : (dG l).may = true) : (dG l).pad (l.drop (dT l + 2)) = l := by
  have bd : ∀ i, i < l.length → 0 ≤ dX l i ∧ dX l i ≤ 255 := fun i hi => hB _ (List.mem_of_getElem? (dX_get hi))
  have b12 := bd 12 (by omega)
  have b13 := bd 13 (by omega)
  have b14 := bd 14 (by omega)
  have b15 := bd 15 (by omega)
  have b16 := bd 16 (by omega)
  have b17 := bd 17 (by omega)
  have h18 := eighteen (l := l) (by omega)
  have hE : (dG l).enc (l.drop (dT l + 2)) = l := by
    cases k : dTg l
    · have hd : l.drop 14 = [dX l 14, dX l 15, dX l 16, dX l 17] ++ l.drop 18 := by
        conv => lhs; rw [h18]
        rfl
      have hT : dT l = 12 := by unfold dT; rw [k]; rfl
      rw [hT, show 12 + 2 = 14 from rfl, hd]
      unfold Fh.enc Fh.tl dG pr M6.l
      rw [hT, k]
      simp only [if_false, Bool.false_eq_true, List.nil_append, List.cons_append, show 12 + 1 = 13 from rfl]
      rw [show (dX l 12 * 256 + dX l 13) / 256 % 256 = dX l 12 by omega, show (dX l 12 * 256 + dX l 13) % 256 = dX l 13 by omega]
      exact h18.symm
    · have hv := may_tag hm (show (dG l).tag = true from k)
      have hd : l.drop 18 = l.drop 18 := rfl
      have hT : dT l = 16 := by unfold dT; rw [k]; rfl
      have ht : dX l 12 * 256 + dX l 13 = 33024 := by simpa [dTg] using k
      rw [hT, show 16 + 2 = 18 from rfl]
      unfold dG at hv
      rw [k] at hv
      simp only [cond_true] at hv
      unfold Fh.enc Fh.tl dG pr M6.l
      rw [hT, k]
      simp only [if_true, List.nil_append, List.cons_append, show 16 + 1 = 17 from rfl, cond_true]
      rw [show (dX l 16 * 256 + dX l 17) / 256 % 256 = dX l 16 by omega, show (dX l 16 * 256 + dX l 17) % 256 = dX l 17 by omega]
      cases q : ((dX l 14 * 256 + dX l 15) / 4096 % 2 == 1)
      · have q2 : ¬ ((dX l 14 * 256 + dX l 15) / 4096 % 2 = 1) := by simpa using q
        simp only [cond_false]
        rw [show (dX l 14 * 256 + dX l 15) / 8192 * 8192 + (dX l 14 * 256 + dX l 15) % 4096 = dX l 14 * 256 + dX l 15 by omega, show (dX l 14 * 256 + dX l 15) / 256 % 256 = dX l 14 by omega, show (dX l 14 * 256 + dX l 15) % 256 = dX l 15 by omega]
        have e12 : dX l 12 = 129 := by omega
        have e13 : dX l 13 = 0 := by omega
        rw [e12, e13] at h18
        exact h18.symm
      · rw [q] at hv
        simp only [cond_true] at hv
        omega
  unfold Fh.pad
  rw [hE, show 60 - l.length = 0 by omega]
  simp
end Go.Proofs.Ytmonaaappimphaa

