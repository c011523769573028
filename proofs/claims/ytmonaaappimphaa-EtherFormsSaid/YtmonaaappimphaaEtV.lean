/- Encode and Decode, each in one contract: what they answer as plain functions. No condition but lengths. -/
import Derived.Test.YtmonaaappimphaaEtU
import Derived.Test.YtmonaaappimphaaEtS
namespace Go.Proofs.Ytmonaaappimphaa
set_option linter.unusedVariables false
open Go.RowKit

def z0 : Fh := ⟨⟨0, 0, 0, 0, 0, 0⟩, ⟨0, 0, 0, 0, 0, 0⟩, false, 0, 0, 0⟩
def decK (l : List Int) : Int := if l.length < 60 then 3 else if dMo l < (l.length : Int) then 2 else if (dG l).may = true then 0 else 4
def decF (l : List Int) : Fh := if decK l = 0 then dG l else z0
def decL (l : List Int) : List Int := if decK l = 0 then l.drop (dT l + 2) else []
def encK (f : Fh) (b : List Int) : Int := if f.may = true then (if 256 < b.length then 2 else 0) else 1
def encL (f : Fh) (b : List Int) : List Int := if encK f b = 0 then f.pad b else []

theorem encode_any (f : Fh) (A : Option Addr) (nb c : Nat) (b : List Int) (w : World) (P : Pc w A nb b) :
    Calls Try.prog 13 #[.agg #[.int .u8 f.dst.a, .int .u8 f.dst.b, .int .u8 f.dst.c, .int .u8 f.dst.d, .int .u8 f.dst.e, .int .u8 f.dst.f, .int .u8 f.src.a, .int .u8 f.src.b, .int .u8 f.src.c, .int .u8 f.src.d, .int .u8 f.src.e, .int .u8 f.src.f, .bool f.tag, .int .i64 f.vlan, .int .i64 f.prio, .int .i64 f.ty], .slice A nb c] w fun e w' => ∃ v, e = .returned (.tuple #[v, .int .i64 (encK f b)]) ∧ OwnB w.heap.size w' v (encL f b) ∧ Fr (fun _ => False) w w' := by
  have hl := P.len
  cases hm : f.may
  · have k : encK f b = 1 := by unfold encK; rw [hm]; rfl
    unfold encL
    rw [k]
    refine (encode13_bad f A nb c w hm).mono ?_
    rintro e w' ⟨h1, h2⟩
    exact ⟨_, h1, OwnB.nil _ _, h2⟩
  · by_cases hn : 256 < nb
    · have k : encK f b = 2 := by unfold encK; rw [if_pos hm, if_pos (by omega)]
      unfold encL
      rw [k]
      refine (encode13_long f A nb c w hm hn).mono ?_
      rintro e w' ⟨h1, h2⟩
      exact ⟨_, h1, OwnB.nil _ _, h2⟩
    · have k : encK f b = 0 := by unfold encK; rw [if_pos hm, if_neg (by omega)]
      unfold encL
      rw [k]
      exact encode13_ok f A nb c b w hm (by omega) P
theorem decode_any (A : Option Addr) (n c : Nat) (l : List Int) (w : World) (hc : n ≤ c) (P : Pc w A n l) (g : Fh) (hg : decF l = g) :
    Calls Try.prog 15 #[.slice A n c] w fun e w' => ∃ v, e = .returned (.tuple #[.agg #[.int .u8 g.dst.a, .int .u8 g.dst.b, .int .u8 g.dst.c, .int .u8 g.dst.d, .int .u8 g.dst.e, .int .u8 g.dst.f, .int .u8 g.src.a, .int .u8 g.src.b, .int .u8 g.src.c, .int .u8 g.src.d, .int .u8 g.src.e, .int .u8 g.src.f, .bool g.tag, .int .i64 g.vlan, .int .i64 g.prio, .int .i64 g.ty], v, .int .i64 (decK l)]) ∧ OwnB w.heap.size w' v (decL l) ∧ Fr (fun _ => False) w w' := by
  have hl := P.len
  by_cases h1 : n < 60
  · have k : decK l = 3 := by unfold decK; rw [if_pos (by omega)]
    unfold decL
    have hz : z0 = g := by rw [← hg]; unfold decF; rw [k]; rfl
    subst hz
    rw [k]
    refine (decode15_short A n c w h1).mono ?_
    rintro e w' ⟨h1, h2⟩
    exact ⟨_, h1, OwnB.nil _ _, h2⟩
  · by_cases h2 : dMo l < (n : Int)
    · have k : decK l = 2 := by unfold decK; rw [if_neg (by omega), if_pos (by omega)]
      unfold decL
      have hz : z0 = g := by rw [← hg]; unfold decF; rw [k]; rfl
      subst hz
      rw [k]
      refine (decode_long A n c l w (by omega) hc P h2).mono ?_
      rintro e w' ⟨h1, h2⟩
      exact ⟨_, h1, OwnB.nil _ _, h2⟩
    · cases hm : (dG l).may
      · have k : decK l = 4 := by unfold decK; rw [if_neg (by omega), if_neg (by omega), hm]; rfl
        unfold decL
        have hz : z0 = g := by rw [← hg]; unfold decF; rw [k]; rfl
        subst hz
        rw [k]
        refine (decode_form A n c l w (by omega) hc P h2 hm).mono ?_
        rintro e w' ⟨h1, h2⟩
        exact ⟨_, h1, OwnB.nil _ _, h2⟩
      · have k : decK l = 0 := by unfold decK; rw [if_neg (by omega), if_neg (by omega), if_pos hm]
        have hz : dG l = g := by rw [← hg]; unfold decF; rw [if_pos k]
        unfold decL
        rw [if_pos k, k]
        exact decode_ok A n c l w (by omega) hc P g hz h2 (by rw [← hz]; exact hm)

theorem isB_nil : isB [] := fun x h => absurd h (by simp)
theorem isB_cons {x : Int} {l : List Int} (h : 0 ≤ x ∧ x ≤ 255) (k : isB l) : isB (x :: l) := fun y hy => by
  rcases List.mem_cons.1 hy with rfl | h'
  · exact h
  · exact k y h'
theorem isB_m6 {m : M6} (h : m.ok) : isB m.l := by
  have f := fun {n : Int} (h : wf8 n) => wf8_bd h
  unfold M6.l
  refine isB_cons ?_ (isB_cons ?_ (isB_cons ?_ (isB_cons ?_ (isB_cons ?_ (isB_cons ?_ isB_nil)))))
  · have := f h.a; omega
  · have := f h.b; omega
  · have := f h.c; omega
  · have := f h.d; omega
  · have := f h.e; omega
  · have := f h.f; omega
theorem isB_pr (n : Int) : isB (pr n) := by
  unfold pr
  exact isB_cons (by omega) (isB_cons (by omega) isB_nil)
theorem isB_pad {f : Fh} (h : f.ok) {b : List Int} (hb : isB b) : isB (f.pad b) := by
  have ht : isB f.tl := by
    unfold Fh.tl
    split
    · exact (isB_cons (by omega) (isB_cons (by omega) isB_nil)).app (isB_pr _)
    · exact isB_nil
  unfold Fh.pad Fh.enc
  refine ((isB_m6 h.dst).app ((isB_m6 h.src).app (ht.app ((isB_pr _).app hb)))).app ?_
  intro x hx
  rw [List.eq_of_mem_replicate hx]; omega
theorem pad_drop (f : Fh) (b : List Int) : (f.pad b).drop (14 + f.tl.length) = b ++ List.replicate (60 - (f.enc b).length) 0 := by
  unfold Fh.pad Fh.enc
  rw [show f.dst.l ++ (f.src.l ++ (f.tl ++ (pr f.ty ++ b))) = (f.dst.l ++ f.src.l ++ f.tl ++ pr f.ty) ++ b by simp only [List.append_assoc], List.append_assoc, List.drop_left' (by simp [M6.l, pr]; omega)]
theorem encK_zero {f : Fh} {b : List Int} (h : encK f b = 0) : f.may = true ∧ b.length ≤ 256 := by
  unfold encK at h
  split at h
  · rename_i hm
    split at h
    · omega
    · exact ⟨hm, by omega⟩
  · omega
theorem encK_of {f : Fh} {b : List Int} (h : f.may = true) (k : b.length ≤ 256) : encK f b = 0 := by unfold encK; rw [if_pos h, if_neg (by omega)]
theorem decK_zero {l : List Int} (h : decK l = 0) : 60 ≤ l.length ∧ ¬ dMo l < (l.length : Int) ∧ (dG l).may = true := by
  unfold decK at h
  split at h
  · omega
  · split at h
    · omega
    · split at h
      · rename_i a b c; exact ⟨by omega, b, c⟩
      · omega
theorem dMo_two (l : List Int) : dTg l = true ∧ dMo l = 274 ∧ dT l = 16 ∨ dTg l = false ∧ dMo l = 270 ∧ dT l = 12 := by
  unfold dMo dT
  cases dTg l
  · exact .inr ⟨rfl, rfl, rfl⟩
  · exact .inl ⟨rfl, rfl, rfl⟩
/-- What was encoded is decoded. -/
theorem dec_of_enc {f : Fh} {b : List Int} (h : encK f b = 0) : decK (f.pad b) = 0 ∧ decF (f.pad b) = f ∧ decL (f.pad b) = b ++ List.replicate (60 - (f.enc b).length) 0 := by
  obtain ⟨hm, hb⟩ := encK_zero h
  obtain ⟨e1, e2, e3⟩ := dG_pad f b hm
  have hl := pad_len f b
  have hk : decK (f.pad b) = 0 := by
    unfold decK
    rw [if_neg (by omega), if_neg, if_pos (by rw [e1]; exact hm)]
    have := dMo_two (f.pad b)
    rw [e3] at this
    cases ht : f.tag
    · have := tl_false ht
      simp_all <;> omega
    · have := tl_true ht
      simp_all <;> omega
  refine ⟨hk, ?_, ?_⟩
  · unfold decF; rw [if_pos hk, e1]
  · unfold decL; rw [if_pos hk, e2, show 12 + f.tl.length + 2 = 14 + f.tl.length by omega]
    exact pad_drop f b
/-- What was decoded is encoded. -/
theorem enc_of_dec {l : List Int} (h : decK l = 0) (hB : isB l) : encK (decF l) (decL l) = 0 ∧ encL (decF l) (decL l) = l ∧ (decF l).may = true ∧ (decL l).length ≤ 256 := by
  obtain ⟨h1, h2, h3⟩ := decK_zero h
  have e1 : decF l = dG l := by unfold decF; rw [if_pos h]
  have e2 : decL l = l.drop (dT l + 2) := by unfold decL; rw [if_pos h]
  have e3 : (decL l).length ≤ 256 := by
    rw [e2, List.length_drop]
    have := dMo_two l
    omega
  have e4 : encK (decF l) (decL l) = 0 := encK_of (by rw [e1]; exact h3) e3
  refine ⟨e4, ?_, by rw [e1]; exact h3, e3⟩
  unfold encL
  rw [if_pos e4, e1, e2]
  exact pad_dG l hB h1 h3
end Go.Proofs.Ytmonaaappimphaa

