/- The walk of packhorselaw01.WordJoins, at arguments of at most 2^20 bytes. -/
import Derived.Test.YtcgghjjchfafiaaWdN
namespace Go.Proofs.Ytcgghjjchfafiaa
set_option linter.unusedVariables false
open Go.RowKit

theorem OwnB.part {base : Nat} {w : World} {v : Value} {l : List Int} {n : Nat} (h : OwnB base w v l) (hn : l.length = n) (hB : isB l) (ht : n ≤ 140737488355328) : ∃ A c, v = .slice A n c ∧ Pc w A n l := by
  obtain ⟨A, c, e, hb⟩ := h.viewN hn
  exact ⟨A, c, e, hn, hB, ht, hb⟩
theorem put32_part (next : Int) (w : World) : Calls Try.prog 32 #[.slice none 0 0, .int .i64 next] w fun e w' => ∃ A c, e = .returned (.slice A 2 c) ∧ Pc w' A 2 (by16 next) ∧ Fr (fun _ => False) w w' := by
  refine (put32 none 0 0 [] next w (fun h => absurd h (by decide)) (by decide) (Nat.zero_le _)).mono ?_
  rintro e w1 ⟨v, rfl, o, f⟩
  rw [List.nil_append] at o
  obtain ⟨A, c, rfl, h⟩ := o.part (n := 2) rfl (by16_ok next) (by decide)
  exact ⟨A, c, rfl, h, f⟩

set_option maxHeartbeats 8000000 in
set_option maxRecDepth 100000 in
theorem joins11 (A B : Option Addr) (cap capb : Nat) (l lb : List Int) (w : World) (hL : BArg w A cap l) (hR : BArg w B capb lb) (hs1 : cap ≤ 1048576) (hs2 : capb ≤ 1048576) :
    Calls Try.prog 11 #[.slice A l.length cap, .slice B lb.length capb] w fun e w' => e = .returned (.bool true) ∧ Fr (fun _ => False) w w' := by
  obtain ⟨len, hlen⟩ : ∃ n, n = l.length := ⟨_, rfl⟩
  obtain ⟨nb, hnb⟩ : ∃ n, n = lb.length := ⟨_, rfl⟩
  have hle : len ≤ cap := by rw [hlen]; exact hL.le
  have hnbs : nb ≤ 1048576 := by have := hR.le; omega
  have PB0 : Pc w B nb lb := ⟨hnb.symm, hR.ok, by omega, hR.here⟩
  have HL := Lib.hid hL
  have PB := Lib.hid PB0
  rw [← hlen, ← hnb]
  have Hlen := Lib.hid hlen
  clear hlen hnb hL hR PB0
  go_enter Try.func11, Try.ntmps11
  go_upto_if 16 with (go_at_call 27; refine (awake27 _).mono ?_; rintro e w1 ⟨rfl, f1⟩)
  go_cut [0] (fun v0 wc => v0 = .slice A (len - len % 2) cap ∧ wc = w1)
  case first =>
    by_cases hodd : len % 2 = 1
    · have h1 : ((len : Int) % 2) = 1 := by omega
      go_wp2_with fail
      go_meet
      exact ⟨by rw [hodd], rfl⟩
    · have h1 : ((len : Int) % 2) = 0 := by omega
      have h2 : len % 2 = 0 := by omega
      go_wp2_with fail
      go_meet
      exact ⟨by rw [h2]; rfl, rfl⟩
  case rest =>
    obtain ⟨rfl, rfl⟩ := hcut
    obtain ⟨la, hla⟩ : ∃ l2, l2 = l.take (len - len % 2) := ⟨_, rfl⟩
    obtain ⟨na, hna⟩ : ∃ n, n = len - len % 2 := ⟨_, rfl⟩
    have hev : la.length % 2 = 0 := by rw [hla, List.length_take, ← Hlen.out]; omega
    have hnas : na ≤ 1048576 := by omega
    have PA0 : Pc w A na la := ⟨by rw [hla, List.length_take, ← Hlen.out]; omega, fun x hx => HL.out.ok x (List.mem_of_mem_take (hla ▸ hx)), by omega, by rw [hla]; exact HL.out.here.take _⟩
    have PA := Lib.hid PA0
    have Hev := Lib.hid hev
    rw [← hna]
    clear hla hna PA0 hev hle HL
    have F1 := Lib.hid f1
    have Q1 := Lib.hid (PA.out.here.fr f1 (Nat.le_refl _) (fun _ _ e => e))
    go_upto_region 5 with (first
      | (at_builtin; refine wpList_appN _ rfl _ _ rfl wc.heap.size _ [] rfl (OwnB.nil _ _) w.heap.size A na cap la PA.out.len (by exact rfl) Q1.out (by simp; omega) (Nat.le_refl _) ?_; clear Q1; intro v3 w3 o3 f3; have f3 := f3.fromNil; (have o3 : OwnB wc.heap.size w3 v3 la := by simpa using o3); have Q3 := Lib.hid (PB.out.here.fr (F1.out.then f3) (Nat.le_refl _) (fun _ _ e => e)); have L3 : la.length + nb ≤ 140737488355328 := (by rw [PA.out.len]; omega); have L3 := Lib.hid L3)
      | (at_builtin; refine wpList_appN _ rfl _ _ rfl wc.heap.size _ la (by exact rfl) o3 w.heap.size B nb capb lb PB.out.len (by exact rfl) Q3.out L3.out f3.size ?_; clear Q3; intro v4 w4 o4 f4))
    have G4 := Lib.hid (o3.turn (F1.out.then f3) F1.out.size f4)
    have hBl : isB (la ++ lb) := PA.out.ok.app PB.out.ok
    obtain ⟨A4, c4, rfl, PC0⟩ := o4.part (n := na + nb) (by rw [List.length_append, PA.out.len, PB.out.len]) hBl (by omega)
    have PC := Lib.hid PC0
    clear o3 o4 f3 f4 PC0 hBl f1 F1 L3
    -- Sum(a, b)
    have PA4 := Lib.hid (PA.out.fr G4.out)
    have PB4 := Lib.hid (PB.out.fr G4.out)
    obtain ⟨S, hS⟩ : ∃ S, S = ck (la ++ lb) := ⟨_, rfl⟩
    have HS := Lib.hid hS
    clear hS
    go_upto_region 6 with (go_at_call 28; refine (sum2 PA4.out PB4.out cap capb _).mono ?_; rw [← HS.out]; rintro e w5 ⟨rfl, f5⟩)
    have PA5 := Lib.hid (PA4.out.fr f5)
    have PB5 := Lib.hid (PB4.out.fr f5)
    have PC5 := Lib.hid (PC.out.fr f5)
    have G5 := Lib.hid (G4.out.then f5)
    clear PA4 PB4 PC G4 f5
    obtain ⟨sa, hsa⟩ : ∃ S, S = ck la := ⟨_, rfl⟩
    have Hsa := Lib.hid hsa
    clear hsa
    go_upto_region 7 with (first
      | (go_at_call 28; refine (sum1 PA5.out cap _).mono ?_; rw [← Hsa.out]; rintro e w6 ⟨rfl, f6⟩)
      | (go_at_call 32; refine (put32_part sa _).mono ?_; rintro e w7 ⟨A7, c7, rfl, PT, f7⟩))
    have f67 := f6.then f7
    have PA7 := Lib.hid (PA5.out.fr f67)
    have PB7 := Lib.hid (PB5.out.fr f67)
    have PC7 := Lib.hid (PC5.out.fr f67)
    have PT7 := Lib.hid PT
    have G7 := Lib.hid (G5.out.then f67)
    clear PA5 PB5 PC5 G5 f6 f7 f67 PT
    obtain ⟨sb, hsb⟩ : ∃ S, S = ck lb := ⟨_, rfl⟩
    have Hsb := Lib.hid hsb
    clear hsb
    go_upto_region 8 with (first
      | (go_at_call 28; refine (sum1 PB7.out capb _).mono ?_; rw [← Hsb.out]; rintro e w8 ⟨rfl, f8⟩)
      | (go_at_call 32; refine (put32_part sb _).mono ?_; rintro e w9 ⟨A9, c9, rfl, PU, f9⟩))
    have f89 := f8.then f9
    have PA9 := Lib.hid (PA7.out.fr f89)
    have PB9 := Lib.hid (PB7.out.fr f89)
    have PC9 := Lib.hid (PC7.out.fr f89)
    have PT9 := Lib.hid (PT7.out.fr f89)
    have PU9 := Lib.hid PU
    have G9 := Lib.hid (G7.out.then f89)
    clear PA7 PB7 PC7 PT7 G7 f8 f9 f89 PU
    obtain ⟨X, hX⟩ : ∃ S, S = ck (la ++ (by16 sa ++ lb)) := ⟨_, rfl⟩
    have HX := Lib.hid hX
    clear hX
    go_upto_region 9 with (go_at_call 28; refine (sum3 PA9.out PT9.out PB9.out cap c7 capb _).mono ?_; rw [← HX.out]; rintro e w10 ⟨rfl, f10⟩)
    have PA10 := Lib.hid (PA9.out.fr f10)
    have PB10 := Lib.hid (PB9.out.fr f10)
    have PC10 := Lib.hid (PC9.out.fr f10)
    have PT10 := Lib.hid (PT9.out.fr f10)
    have PU10 := Lib.hid (PU9.out.fr f10)
    have G10 := Lib.hid (G9.out.then f10)
    clear PA9 PB9 PC9 PT9 PU9 G9 f10
    go_upto_region 10 with (go_at_call 28; refine (sum1 PB10.out capb _).mono ?_; rw [← Hsb.out]; rintro e w11 ⟨rfl, f11⟩)
    have PA11 := Lib.hid (PA10.out.fr f11)
    have PB11 := Lib.hid (PB10.out.fr f11)
    have PC11 := Lib.hid (PC10.out.fr f11)
    have PT11 := Lib.hid (PT10.out.fr f11)
    have PU11 := Lib.hid (PU10.out.fr f11)
    have G11 := Lib.hid (G10.out.then f11)
    clear PA10 PB10 PC10 PT10 PU10 G10 f11
    by_cases hodd : nb % 2 = 1
    · have h1 : ((nb : Int) % 2) = 1 := by omega
      clear hodd
      go_wp2_with (go_at_call 28; refine (sum1 PC11.out c4 _).mono ?_; rw [← HS.out]; rintro e w12 ⟨rfl, f12⟩)
      go_ret
      exact ⟨rfl, G11.out.then f12⟩
    · have h1 : ((nb : Int) % 2) = 0 := by omega
      have hbe : lb.length % 2 = 0 := by rw [PB.out.len]; omega
      have HSW := Lib.hid ((join_swap Hev.out hbe).trans HS.out.symm)
      have hz := join_zero PA.out.ok PB.out.ok Hev.out hbe
      rw [← Hsa.out, ← Hsb.out] at hz
      have HZ := Lib.hid hz
      have hF := join_word PA.out.ok PB.out.ok Hev.out
      rw [← Hsa.out, ← HX.out, ← Hsb.out] at hF
      clear hz hodd hbe
      by_cases e1 : X = sb
      · have t1 : (X == sb) = true := by simpa using e1
        clear e1 hF
        go_wp2_with (first
          | (go_at_call 28; refine (sum1 PC11.out c4 _).mono ?_; clear PC11; rw [← HS.out]; rintro e w12 ⟨rfl, f12⟩; have PA12 := Lib.hid (PA11.out.fr f12); have PB12 := Lib.hid (PB11.out.fr f12); have PT12 := Lib.hid (PT11.out.fr f12); have PU12 := Lib.hid (PU11.out.fr f12))
          | (go_at_call 28; refine (sum2 PB12.out PA12.out capb cap _).mono ?_; rw [HSW.out]; rintro e w13 ⟨rfl, f13⟩; have PA13 := Lib.hid (PA12.out.fr f13); have PB13 := Lib.hid (PB12.out.fr f13); have PT13 := Lib.hid (PT12.out.fr f13); have PU13 := Lib.hid (PU12.out.fr f13); clear PA12 PB12)
          | (go_at_call 28; refine (sum4 PA13.out PT13.out PB13.out PU13.out cap c7 capb c9 _).mono ?_; rw [HZ.out]; rintro e w14 ⟨rfl, f14⟩))
        go_ret
        exact ⟨rfl, ((G11.out.then f12).then f13).then f14⟩
      · have t1 : (X == sb) = false := by simpa using e1
        have hF := hF.resolve_left e1
        have t2 : (X + sb == 65535) = true := by simpa using hF.1
        have hXb : 0 ≤ X ∧ X ≤ 65535 := by rw [HX.out]; exact ck_bd (PA.out.ok.app ((by16_ok _).app PB.out.ok))
        have hYb : 0 ≤ sb ∧ sb ≤ 65535 := by rw [Hsb.out]; exact ck_bd PB.out.ok
        by_cases e2 : X = 0
        · have t3 : (X == 0) = true := by simpa using e2
          clear e1 e2 hF
          go_wp2_with (first
            | (go_at_call 28; refine (sum1 PC11.out c4 _).mono ?_; clear PC11; rw [← HS.out]; rintro e w12 ⟨rfl, f12⟩; have PA12 := Lib.hid (PA11.out.fr f12); have PB12 := Lib.hid (PB11.out.fr f12); have PT12 := Lib.hid (PT11.out.fr f12); have PU12 := Lib.hid (PU11.out.fr f12))
            | (go_at_call 28; refine (sum2 PB12.out PA12.out capb cap _).mono ?_; rw [HSW.out]; rintro e w13 ⟨rfl, f13⟩; have PA13 := Lib.hid (PA12.out.fr f13); have PB13 := Lib.hid (PB12.out.fr f13); have PT13 := Lib.hid (PT12.out.fr f13); have PU13 := Lib.hid (PU12.out.fr f13); clear PA12 PB12)
            | (go_at_call 28; refine (sum4 PA13.out PT13.out PB13.out PU13.out cap c7 capb c9 _).mono ?_; rw [HZ.out]; rintro e w14 ⟨rfl, f14⟩))
          go_ret
          exact ⟨rfl, ((G11.out.then f12).then f13).then f14⟩
        · have t3 : (X == 0) = false := by simpa using e2
          have t4 : (sb == 0) = true := by simpa using hF.2.resolve_left e2
          clear e1 e2 hF
          go_wp2_with (first
            | (go_at_call 28; refine (sum1 PC11.out c4 _).mono ?_; clear PC11; rw [← HS.out]; rintro e w12 ⟨rfl, f12⟩; have PA12 := Lib.hid (PA11.out.fr f12); have PB12 := Lib.hid (PB11.out.fr f12); have PT12 := Lib.hid (PT11.out.fr f12); have PU12 := Lib.hid (PU11.out.fr f12))
            | (go_at_call 28; refine (sum2 PB12.out PA12.out capb cap _).mono ?_; rw [HSW.out]; rintro e w13 ⟨rfl, f13⟩; have PA13 := Lib.hid (PA12.out.fr f13); have PB13 := Lib.hid (PB12.out.fr f13); have PT13 := Lib.hid (PT12.out.fr f13); have PU13 := Lib.hid (PU12.out.fr f13); clear PA12 PB12)
            | (go_at_call 28; refine (sum4 PA13.out PT13.out PB13.out PU13.out cap c7 capb c9 _).mono ?_; rw [HZ.out]; rintro e w14 ⟨rfl, f14⟩))
          go_ret
          exact ⟨rfl, ((G11.out.then f12).then f13).then f14⟩
end Go.Proofs.Ytcgghjjchfafiaa
