/- Law 8: who has spoken is known (ArpLearns): its plain law, and one round's calls. No condition. -/
import Derived.Test.YtfnphkijalkllaaArR
import Derived.Test.YtfnphkijalkllaaArS
import Derived.Test.YtfnphkijalkllaaArM
namespace Go.Proofs.Ytfnphkijalkllaa
set_option linter.unusedVariables false
set_option linter.unusedSimpArgs false
open Go.RowKit
def ipn (n : Nat) : I4 := ⟨10, 0, 0, 2 + (n : Int)⟩
theorem ipn_inj {a b : Nat} (h : ipn a = ipn b) : a = b := by
  have := congrArg I4.d h
  simp only [ipn] at this
  omega
set_option maxRecDepth 10000 in
theorem ipn_ok {n : Nat} (h : n < 200) : (ipn n).ok :=
  have h4 : ∀ m : Fin 200, (Lit.int .u8 (2 + ((m : Nat) : Int))).wf = true := by decide
  ⟨(by decide : (Lit.int .u8 10).wf = true), (by decide : (Lit.int .u8 0).wf = true), (by decide : (Lit.int .u8 0).wf = true), h4 ⟨n, h⟩⟩
theorem nodup_lt : ∀ (n : Nat) (l : List Nat), l.Nodup → (∀ x ∈ l, x < n) → l.length ≤ n
  | 0, l, _, h => by
    cases l with
    | nil => simp
    | cons x r => exact absurd (h x List.mem_cons_self) (by omega)
  | n + 1, l, hd, h => by
    by_cases hm : n ∈ l
    · have h1 := nodup_lt n (l.erase n) (hd.erase n) (fun x hx => by
        have h2 := (hd.mem_erase_iff).1 hx
        have := h x h2.2
        omega)
      have := List.length_erase_of_mem hm
      omega
    · have := nodup_lt n l hd (fun x hx => by
        have := h x hx
        have : x ≠ n := fun e => hm (e ▸ hx)
        omega)
      omega
/-- One who is known by what he said last. -/
def Kn (said : List M6) (e : En) : Prop := ∃ n : Nat, n < 7 ∧ e.nb.ip = ipn n ∧ said[n]? = some e.nb.mac ∧ e.nb.st = 2 ∧ e.nb.pend = []
theorem kn_len {said : List M6} {L : List En} (hp : L.Pairwise fun a b => a.nb.ip ≠ b.nb.ip) (h : ∀ e ∈ L, Kn said e) : L.length ≤ 7 := by
  have h1 : (L.map fun e => (e.nb.ip.d - 2).toNat).Nodup := by
    rw [List.Nodup, List.pairwise_map]
    refine List.Pairwise.imp_of_mem (fun {a b} ha hb hab e1 => hab ?_) hp
    obtain ⟨n, _, hn, _⟩ := h a ha
    obtain ⟨m, _, hm, _⟩ := h b hb
    rw [hn, hm] at e1 ⊢
    have e2 : ((2 + (n : Int)) - 2).toNat = ((2 + (m : Int)) - 2).toNat := e1
    have : n = m := by omega
    rw [this]
  have h2 := nodup_lt 7 _ h1 (fun x hx => by
    obtain ⟨e, he, rfl⟩ := List.mem_map.1 hx
    obtain ⟨n, h7, hn, _⟩ := h e he
    rw [hn]
    show ((2 + (n : Int)) - 2).toNat < 7
    omega)
  rwa [List.length_map] at h2
theorem kn_set {said : List M6} {e : En} (h : Kn said e) {n : Nat} (hne : e.nb.ip ≠ ipn n) (sm : M6) : Kn (said.set n sm) e := by
  obtain ⟨k, h7, hk, hs, h2, hp⟩ := h
  refine ⟨k, h7, hk, ?_, h2, hp⟩
  rw [List.getElem?_set_ne (fun e1 => hne (by rw [hk, e1]))]
  exact hs
section
variable {N g n : Nat} {lv : Value} {w : World} {L : List En} {said : List M6} {sm : M6} {now : Int}
/-- What one round's hearing leaves. -/
structure Hl (N g n : Nat) (L : List En) (said : List M6) (sm : M6) (now : Int) (lv : Value) (w w' : World) (L' : List En) (lv' : Value) (i : Nat) (e : En) : Prop where
  at' : CAt N w' g m2 q1 L' lv'
  kn : ∀ a ∈ L', Kn (said.set n sm) a
  hi : L'[i]? = some e
  fp : fpt L' (ipn n) = some e
  mac : e.nb.mac = sm
  st : e.nb.st = 2
  si : e.nb.since = now
theorem Hl.to {w0 w1 w2 : World} {L' : List En} {lv' : Value} {i : Nat} {e : En} (h : Hl N g n L said sm now lv w0 w1 L' lv' i e) (f : Fr (fun _ => False) w1 w2) : Hl N g n L said sm now lv w0 w2 L' lv' i e := { h with at' := h.at'.fr f }
theorem learn_step {a : Rq} {vmay : Value} {toM : M6} {L' : List En} {lv' : Value} {w' : World} (h7 : n < 7) (hsl : said.length = 9) (hC : CAt N w g m2 q1 L lv) (hk : ∀ e ∈ L, Kn said e) (hsi : a.si = ipn n) (hsm : a.sm = sm) (h : HMid N g m2 q1 L lv a now w L' lv' vmay toM w') :
    ∃ i e A cap, Hl N g n L said sm now lv w w' L' lv' i e ∧ vmay = .slice A 0 cap := by
  subst hsm
  obtain ⟨hc, hw, hf⟩ := h
  rcases hw with ⟨i, e, he, hq, rfl, rfl, rfl, rfl, hs⟩ | ⟨hq, hlt, ⟨p, rfl, _⟩, rfl, rfl⟩ | ⟨hq, hl8, _⟩
  · obtain ⟨hem, hip⟩ := fpt_in hq
    have hlt := (List.getElem?_eq_some_iff.1 he).1
    have hself : (L.set i ⟨e.p, .slice none 0 0, heardNb e.nb a.sm now⟩)[i]? = some ⟨e.p, .slice none 0 0, heardNb e.nb a.sm now⟩ := by rw [List.getElem?_set_self hlt]
    obtain ⟨k, _, _, _, _, hpend⟩ := hk e hem
    rw [hpend] at hs
    obtain ⟨A, cap, hv, _⟩ := hs.form
    refine ⟨i, _, A, cap, ⟨hc, fun b hb => ?_, hself, fpt_some hc.ipn (List.mem_of_getElem? hself) (by show e.nb.ip = _; rw [hip, hsi]), rfl, rfl, rfl⟩, hv⟩
    obtain ⟨j, hj⟩ := List.mem_iff_getElem?.1 hb
    by_cases hji : j = i
    · subst hji
      rw [hself] at hj
      cases hj
      refine ⟨n, h7, by show e.nb.ip = _; rw [hip, hsi], ?_, rfl, rfl⟩
      rw [List.getElem?_set_self (by omega)]
      rfl
    · rw [List.getElem?_set_ne (fun e1 => hji e1.symm)] at hj
      refine kn_set (hk b (List.mem_of_getElem? hj)) ?_ _
      rw [← hsi, ← hip]
      rcases Nat.lt_or_gt_of_ne hji with h2 | h2
      · exact pairwise_at hC.ipn hj he h2
      · exact fun e1 => pairwise_at hC.ipn he hj h2 e1.symm
  · have hself : (L ++ [⟨p, .slice none 0 0, newK a.si a.sm now⟩])[L.length]? = some (⟨p, .slice none 0 0, newK a.si a.sm now⟩ : En) := by simp
    refine ⟨L.length, _, none, 0, ⟨hc, fun b hb => ?_, hself, fpt_some hc.ipn (List.mem_of_getElem? hself) (by show a.si = _; rw [hsi]), rfl, rfl, rfl⟩, rfl⟩
    rcases List.mem_append.1 hb with hb | hb
    · refine kn_set (hk b hb) ?_ _
      rw [← hsi]
      exact fpt_none_all hq b hb
    · cases List.mem_singleton.1 hb
      refine ⟨n, h7, hsi, ?_, rfl, rfl⟩
      rw [List.getElem?_set_self (by omega)]
      rfl
  · have := kn_len hC.ipn hk
    omega
theorem hl15 (a : Rq) (w : World) (ha : a.ok) (h7 : n < 7) (hsl : said.length = 9) (hC : CAt N w g m2 q1 L lv) (hk : ∀ e ∈ L, Kn said e) (hsi : a.si = ipn n) (hdi : a.di = q1) (hnow : 0 ≤ now ∧ now ≤ 4398046511104) (hN : N ≤ w.heap.size) :
    Calls Try.prog 15 #[.pointer (some ⟨g, 0, none⟩), .agg a.cells.toArray, .int .i64 now] w fun e w' => ∃ (vout : Value) (A : Option Addr) (cap : Nat) (toM : M6) (L' : List En) (lv' : Value) (i : Nat) (e' : En), e = .returned (.tuple #[vout, .slice A 0 cap, .agg #[.int .u8 toM.a, .int .u8 toM.b, .int .u8 toM.c, .int .u8 toM.d, .int .u8 toM.e, .int .u8 toM.f]]) ∧ Hl N g n L said a.sm now lv w w' L' lv' i e' ∧
      (a.ans = true → vout = .slice none 0 0) ∧ (a.ans = false → Sl w.heap.size 33 21 w' vout 1 (ansCells m2 q1 a)) ∧ Fr (Own g lv L) w w' := by
  refine (heard15 a now w ha hC (by rw [hsi]; intro e1; have := congrArg I4.d e1; simp only [ipn, q1] at this; omega) (by rw [hsi]; intro e1; have := congrArg I4.a e1; simp [ipn, I4.zero] at this) hdi hnow hN).mono ?_
  rintro e w' ⟨vout, vmay, toM, L', lv', rfl, hm, h1, h2⟩
  obtain ⟨i, e, A, cap, hl, rfl⟩ := learn_step h7 hsl hC hk hsi rfl hm
  exact ⟨vout, A, cap, toM, L', lv', i, e, rfl, hl, h1, h2, hm.fr⟩
theorem set_same {α : Type} : ∀ {L : List α} {i : Nat} {e : α}, L[i]? = some e → L.set i e = L := fun {L i e} h => by
  obtain ⟨hl, he⟩ := List.getElem?_eq_some_iff.1 h
  subst he
  exact List.set_getElem_self hl
theorem fl16 {L' : List En} {lv' : Value} {i : Nat} {e : En} {w0 : World} {w : World} (buf : Int) (h7 : n < 7) (H : Hl N g n L said sm now lv w0 w L' lv' i e) (hnow : 0 ≤ now ∧ now ≤ 4398046511104) (hN : N ≤ w.heap.size) :
    Calls Try.prog 16 #[.pointer (some ⟨g, 0, none⟩), .agg #[.int .u8 10, .int .u8 0, .int .u8 0, .int .u8 (2 + (n : Int))], .int .i64 buf, .int .i64 now] w fun en w' => en = .returned (.tuple #[.agg #[.int .u8 sm.a, .int .u8 sm.b, .int .u8 sm.c, .int .u8 sm.d, .int .u8 sm.e, .int .u8 sm.f], .slice none 0 0, .slice none 0 0, .int .i64 0]) ∧ CAt N w' g m2 q1 L' lv' ∧ Fr (fun b => b = e.p) w w' := by
  refine (find16_known (i := i) (e := e) (ipn n) buf now w (ipn_ok (by omega)) H.at' H.fp H.hi (by rw [H.st]; decide) hnow hN).mono ?_
  rintro en w' ⟨v, rfl, hc, h1, _, hf⟩
  have ho : old64 e.nb now = false := by
    unfold old64
    rw [H.si]
    simp
  have hv := h1 ho
  subst hv
  have hn : findNb e.nb now = e.nb := by unfold findNb; rw [ho]; simp
  rw [hn, show ({ e with nb := e.nb } : En) = e from rfl, set_same H.hi] at hc
  exact ⟨by rw [← H.mac]; rfl, hc, hf⟩
end
end Go.Proofs.Ytfnphkijalkllaa
