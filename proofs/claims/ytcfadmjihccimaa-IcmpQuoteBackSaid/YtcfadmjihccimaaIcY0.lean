/- Law 12: a message that is laid down again (plain); strings. No condition. -/
import Derived.Test.YtcfadmjihccimaaIcM
namespace Go.Proofs.Ytcfadmjihccimaa
set_option linter.unusedVariables false
set_option linter.unusedSimpArgs false
open Go.RowKit

theorem by16_be {x y : Int} (hx : 0 ≤ x ∧ x ≤ 255) (hy : 0 ≤ y ∧ y ≤ 255) : by16 (be [x, y]) = [x, y] := by
  simp [by16, be]; omega
theorem lay_back : ∀ {l : List Int}, isB l → 8 ≤ l.length → ((dI l).lay (be ((l.drop 2).take 2)) (l.drop 8) = l ↔ (ec (dX l 0) || (atV l 4 2 == 0)) = true)
  | x0 :: x1 :: x2 :: x3 :: x4 :: x5 :: x6 :: x7 :: r, hB, _ => by
    have h2 := hB x2 (by simp)
    have h3 := hB x3 (by simp)
    have h4 := hB x4 (by simp)
    have h5 := hB x5 (by simp)
    have h6 := hB x6 (by simp)
    have h7 := hB x7 (by simp)
    have v4 : atV (x0 :: x1 :: x2 :: x3 :: x4 :: x5 :: x6 :: x7 :: r) 4 2 = be [x4, x5] := by
      unfold atV; rw [if_neg (by simp only [List.length_cons]; omega)]; rfl
    have v6 : atV (x0 :: x1 :: x2 :: x3 :: x4 :: x5 :: x6 :: x7 :: r) 6 2 = be [x6, x7] := by
      unfold atV; rw [if_neg (by simp only [List.length_cons]; omega)]; rfl
    have d0 : dX (x0 :: x1 :: x2 :: x3 :: x4 :: x5 :: x6 :: x7 :: r) 0 = x0 := rfl
    have d1 : dX (x0 :: x1 :: x2 :: x3 :: x4 :: x5 :: x6 :: x7 :: r) 1 = x1 := rfl
    have e : (dI (x0 :: x1 :: x2 :: x3 :: x4 :: x5 :: x6 :: x7 :: r)).lay (be [x2, x3]) r = [x0, x1, x2, x3] ++ ((dI (x0 :: x1 :: x2 :: x3 :: x4 :: x5 :: x6 :: x7 :: r)).mid ++ r) := by
      unfold Im.lay
      rw [by16_be h2 h3]; rfl
    show (dI _).lay (be [x2, x3]) r = _ ↔ _
    rw [e, v4, d0]
    unfold Im.mid dI
    simp only [d0, d1, v4, v6]
    cases hb : ec x0
    · simp only [hb, cond_false, if_neg (by simp : ¬ (false = true)), Bool.false_or]
      rw [by16_be h6 h7]
      simp [by16, be]
      omega
    · simp only [hb, cond_true, if_true, Bool.true_or, iff_true]
      rw [by16_be h4 h5, by16_be h6 h7]; rfl
theorem strOfNums_inj : ∀ {a b : List Int}, isB a → isB b → strOfNums a = strOfNums b → a = b := by
  intro a b ha hb h
  have h1 : a.map (fun n => UInt8.ofNat n.toNat) = b.map (fun n => UInt8.ofNat n.toNat) := by
    have := congrArg (fun s : ByteArray => s.data.toList) h
    simpa [strOfNums] using this
  induction a generalizing b with
  | nil => cases b with
    | nil => rfl
    | cons y b => simp at h1
  | cons x a ih => cases b with
    | nil => simp at h1
    | cons y b =>
      simp only [List.map_cons, List.cons.injEq] at h1
      have hx := ha x (by simp)
      have hy := hb y (by simp)
      have h3 : x = y := by
        have := congrArg UInt8.toNat h1.1
        simp only [UInt8.toNat_ofNat'] at this
        omega
      rw [h3, ih (fun z hz => ha z (by simp [hz])) (fun z hz => hb z (by simp [hz])) (by simp [strOfNums, h1.2]) h1.2]
theorem str_ne {a b : List Int} (ha : isB a) (hb : isB b) (h : a ≠ b) : ((strOfNums a).toList == (strOfNums b).toList) = false := by
  rw [beq_eq_false_iff_ne]
  intro e
  rw [ByteArray.toList_eq, ByteArray.toList_eq] at e
  apply h
  apply strOfNums_inj ha hb
  exact Go.WideShapes.bytes_inj e
theorem pc_str {n c : Nat} {w : World} {A : Option Addr} {l : List Int} (h : Pc w A n l) : (convert 22 9 (.slice A n c)).run Try.prog w = .ok (.string (strOfNums l)) w := by
  have h1 := h.len
  subst h1
  exact str_bytes c h.here
end Go.Proofs.Ytcfadmjihccimaa
