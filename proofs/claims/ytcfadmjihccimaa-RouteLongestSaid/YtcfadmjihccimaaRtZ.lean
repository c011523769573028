/- The address's own ways: plain law of RouteLongest. No condition. -/
import Derived.Test.YtcfadmjihccimaaRtQ
import Derived.Test.YtcfadmjihccimaaRtF
namespace Go.Proofs.Ytcfadmjihccimaa
set_option linter.unusedVariables false
open Go.RowKit
/-- A byte whose bits n to k (from the top) are nought. -/
def clr (x : Int) (n k : Nat) : Int := top x n * 2 ^ (8 - n) + x % 2 ^ (8 - k)
theorem clr_tab : ∀ n : Fin 9, ∀ k : Fin 8, ∀ x : Fin 256, n.val ≤ k.val → bits .andNot .u8 (clr (x.val : Int) n.val k.val) (128 / 2 ^ k.val) = clr (x.val : Int) n.val (k.val + 1) := by decide +kernel
theorem clr_step {x : Int} (hx : 0 ≤ x ∧ x ≤ 255) {n k : Nat} (hn : n ≤ k) (hk : k < 8) : bits .andNot .u8 (clr x n k) (128 / 2 ^ k) = clr x n (k + 1) := by
  have h := clr_tab ⟨n, by omega⟩ ⟨k, hk⟩ ⟨x.toNat, by omega⟩ hn
  simpa only [Int.toNat_of_nonneg hx.1] using h
theorem clr_same {x : Int} (n : Nat) : clr x n n = x := by
  unfold clr top
  have := Int.mul_ediv_add_emod x (2 ^ (8 - n))
  rw [Int.mul_comm]
  exact this
theorem clr_end {x : Int} (hx : 0 ≤ x ∧ x ≤ 255) (b o : Nat) : clr x (kq b o) 8 = mkB x b o := by
  rw [mkB_eq hx]
  unfold clr
  simp
/-- The address's bytes, bits n to k nought. -/
def cl4 (ip : I4) (n k : Nat) : I4 := ⟨clr ip.a (kq n 0) (kq k 0), clr ip.b (kq n 8) (kq k 8), clr ip.c (kq n 16) (kq k 16), clr ip.d (kq n 24) (kq k 24)⟩
theorem cl4_start (ip : I4) (n : Nat) : cl4 ip n n = ip := by
  unfold cl4
  simp only [clr_same]
theorem cl4_end {ip : I4} (h : ip.ok) (n : Nat) : cl4 ip n 32 = mkI ip n := by
  obtain ⟨h0, h1, h2, h3⟩ := h.bytes
  unfold cl4 mkI
  rw [show kq 32 0 = 8 by decide, show kq 32 8 = 8 by decide, show kq 32 16 = 8 by decide, show kq 32 24 = 8 by decide, clr_end h0, clr_end h1, clr_end h2, clr_end h3]
  rfl
/-- One bit more: the byte that it stands in. -/
theorem cl4_step {ip : I4} (h : ip.ok) {n k : Nat} (hn : n ≤ k) (hk : k < 32) : bits .andNot .u8 ((cl4 ip n k).nth (k / 8)) (128 / 2 ^ (k % 8)) = (cl4 ip n (k + 1)).nth (k / 8) ∧ (cl4 ip n k).cells.set (k / 8) (.int .u8 ((cl4 ip n (k + 1)).nth (k / 8))) = (cl4 ip n (k + 1)).cells := by
  obtain ⟨h0, h1, h2, h3⟩ := h.bytes
  have hq : k / 8 < 4 := by omega
  match hk8 : k / 8, hq with
  | 0, _ =>
    have e1 : kq k 0 = k % 8 := by unfold kq; omega
    have e2 : kq (k + 1) 0 = k % 8 + 1 := by unfold kq; omega
    have e3 : kq n 0 ≤ k % 8 := by unfold kq; omega
    have b1 : kq (k + 1) 8 = kq k 8 := by unfold kq; omega
    have b2 : kq (k + 1) 16 = kq k 16 := by unfold kq; omega
    have b3 : kq (k + 1) 24 = kq k 24 := by unfold kq; omega
    refine ⟨?_, ?_⟩
    · show bits .andNot .u8 (clr ip.a (kq n 0) (kq k 0)) _ = clr ip.a (kq n 0) (kq (k + 1) 0)
      rw [e1, e2]; exact clr_step h0 e3 (by omega)
    · simp only [cl4, I4.cells, I4.nth, b1, b2, b3, List.set]
  | 1, _ =>
    have e1 : kq k 8 = k % 8 := by unfold kq; omega
    have e2 : kq (k + 1) 8 = k % 8 + 1 := by unfold kq; omega
    have e3 : kq n 8 ≤ k % 8 := by unfold kq; omega
    have b1 : kq (k + 1) 0 = kq k 0 := by unfold kq; omega
    have b2 : kq (k + 1) 16 = kq k 16 := by unfold kq; omega
    have b3 : kq (k + 1) 24 = kq k 24 := by unfold kq; omega
    refine ⟨?_, ?_⟩
    · show bits .andNot .u8 (clr ip.b (kq n 8) (kq k 8)) _ = clr ip.b (kq n 8) (kq (k + 1) 8)
      rw [e1, e2]; exact clr_step h1 e3 (by omega)
    · simp only [cl4, I4.cells, I4.nth, b1, b2, b3, List.set]
  | 2, _ =>
    have e1 : kq k 16 = k % 8 := by unfold kq; omega
    have e2 : kq (k + 1) 16 = k % 8 + 1 := by unfold kq; omega
    have e3 : kq n 16 ≤ k % 8 := by unfold kq; omega
    have b1 : kq (k + 1) 0 = kq k 0 := by unfold kq; omega
    have b2 : kq (k + 1) 8 = kq k 8 := by unfold kq; omega
    have b3 : kq (k + 1) 24 = kq k 24 := by unfold kq; omega
    refine ⟨?_, ?_⟩
    · show bits .andNot .u8 (clr ip.c (kq n 16) (kq k 16)) _ = clr ip.c (kq n 16) (kq (k + 1) 16)
      rw [e1, e2]; exact clr_step h2 e3 (by omega)
    · simp only [cl4, I4.cells, I4.nth, b1, b2, b3, List.set]
  | 3, _ =>
    have e1 : kq k 24 = k % 8 := by unfold kq; omega
    have e2 : kq (k + 1) 24 = k % 8 + 1 := by unfold kq; omega
    have e3 : kq n 24 ≤ k % 8 := by unfold kq; omega
    have b1 : kq (k + 1) 0 = kq k 0 := by unfold kq; omega
    have b2 : kq (k + 1) 8 = kq k 8 := by unfold kq; omega
    have b3 : kq (k + 1) 16 = kq k 16 := by unfold kq; omega
    refine ⟨?_, ?_⟩
    · show bits .andNot .u8 (clr ip.d (kq n 24) (kq k 24)) _ = clr ip.d (kq n 24) (kq (k + 1) 24)
      rw [e1, e2]; exact clr_step h3 e3 (by omega)
    · simp only [cl4, I4.cells, I4.nth, b1, b2, b3, List.set]
/-- The way of n bits that holds the address. -/
def wy (ip : I4) (n : Nat) : W10 := ⟨mkI ip n, n, ⟨10, 0, 0, n⟩, true⟩
theorem wy_ok {ip : I4} (h : ip.ok) {n : Nat} (hn : n ≤ 32) : (wy ip n).ok :=
  ⟨mkI_ok h n, wfi64' (by show -9223372036854775808 ≤ (n : Int) ∧ (n : Int) ≤ 9223372036854775807; omega), ⟨(by decide : (Lit.int .u8 10).wf = true), (by decide : (Lit.int .u8 0).wf = true), (by decide : (Lit.int .u8 0).wf = true), wfu8 (by show 0 ≤ (n : Int) ∧ (n : Int) ≤ 255; omega)⟩⟩
theorem mkB_idem {x : Int} (hx : 0 ≤ x ∧ x ≤ 255) (b o : Nat) : mkB (mkB x b o) b o = mkB x b o := by
  rw [mkB_eq (mkB_ok hx b o), mkB_eq hx]
  have hp : (2 : Int) ^ (8 - kq b o) ≠ 0 := Int.ne_of_gt (Int.pow_pos (by omega))
  have e : top (top x (kq b o) * 2 ^ (8 - kq b o)) (kq b o) = top x (kq b o) := Int.mul_ediv_cancel _ hp
  rw [e]
theorem mkI_idem {ip : I4} (h : ip.ok) (n : Nat) : mkI (mkI ip n) n = mkI ip n := by
  obtain ⟨h0, h1, h2, h3⟩ := h.bytes
  have e0 := mkB_idem h0 n 0
  have e1 := mkB_idem h1 n 8
  have e2 := mkB_idem h2 n 16
  have e3 := mkB_idem h3 n 24
  simp only [Int.ofNat_zero] at e0
  show (⟨mkB (mkB ip.a n 0) n 0, mkB (mkB ip.b n 8) n 8, mkB (mkB ip.c n 16) n 16, mkB (mkB ip.d n 24) n 24⟩ : I4) = ⟨mkB ip.a n 0, mkB ip.b n 8, mkB ip.c n 16, mkB ip.d n 24⟩
  simp only [I4.mk.injEq]
  exact ⟨e0, e1, e2, e3⟩
theorem wy_may {ip : I4} (h : ip.ok) {n : Nat} (hn : n ≤ 32) : mayW (wy ip n) = true := by
  rw [← mayP_eq (wy_ok h hn)]
  unfold mayP
  have h2 : (n : Int) ≤ 32 := by omega
  have h3 : mkI (wy ip n).n (wy ip n).bits = (wy ip n).n := mkI_idem h n
  simp only [h3, decide_true, Bool.true_and, Bool.and_eq_true, decide_eq_true_eq]
  refine ⟨?_, ?_, ?_⟩
  · show (0 : Int) ≤ (n : Int); omega
  · exact h2
  · rfl
theorem wy_key (ip : I4) (n m : Nat) : keyW (mkI ip n) n (wy ip m) = decide (m = n) := by
  unfold keyW wy
  by_cases e : m = n
  · subst e; simp
  · have : ¬ (m : Int) = n := by omega
    simp [e, this]
theorem wy_find (ip : I4) (n : Nat) (ns : List Nat) : (ns.map (wy ip)).findIdx? (keyW (mkI ip n) n) = ns.findIdx? (fun m => decide (m = n)) := by
  induction ns with
  | nil => rfl
  | cons m r ih =>
    rw [List.map_cons, List.findIdx?_cons, List.findIdx?_cons, wy_key, ih]
theorem fi_some {n i : Nat} {ns : List Nat} (h : ns.findIdx? (fun m => decide (m = n)) = some i) : ns[i]? = some n ∧ n ∈ ns := by
  rw [List.findIdx?_eq_some_iff_getElem] at h
  obtain ⟨hi, h1, _⟩ := h
  have h1 := of_decide_eq_true h1
  exact ⟨by rw [List.getElem?_eq_getElem hi, h1], h1 ▸ List.getElem_mem hi⟩
theorem fi_none {n : Nat} {ns : List Nat} (h : ns.findIdx? (fun m => decide (m = n)) = none) : n ∉ ns := fun hm => by
  rw [List.findIdx?_eq_none_iff] at h
  have := h n hm
  simp at this
/-- What the law knows of its table: the bits of the ways, as they came. -/
structure Ns (ns : List Nat) : Prop where
  nd : ns.Nodup
  le : ∀ n ∈ ns, n ≤ 32
  len : ns.length ≤ 8
def addN (ns : List Nat) (n : Nat) : List Nat := if n ∈ ns then ns else if ns.length = 8 then ns else ns ++ [n]
theorem Ns.add {ns : List Nat} (h : Ns ns) {n : Nat} (hn : n ≤ 32) : Ns (addN ns n) := by
  unfold addN
  split
  · exact h
  · rename_i h1
    split
    · exact h
    · rename_i h2
      refine ⟨?_, fun m hm => ?_, by rw [List.length_append]; have := h.len; simp; omega⟩
      · rw [List.nodup_append]
        exact ⟨h.nd, by simp, fun a ha b hb => by rw [List.mem_singleton.1 hb]; exact fun e => h1 (e ▸ ha)⟩
      · rcases List.mem_append.1 hm with hm | hm
        · exact h.le m hm
        · rw [List.mem_singleton.1 hm]; exact hn
theorem wy_add {ip : I4} (h : ip.ok) {ns : List Nat} {n : Nat} (hn : n ≤ 32) :
    addE (ns.map (wy ip)) (wy ip n) = (if n ∈ ns then 0 else if ns.length = 8 then 6 else 0) ∧ addL (ns.map (wy ip)) (wy ip n) = (addN ns n).map (wy ip) := by
  unfold addE addL addN
  rw [if_pos (wy_may h hn), if_pos (wy_may h hn), show (wy ip n).n = mkI ip n from rfl, show (wy ip n).bits = (n : Int) from rfl, wy_find]
  cases hf : ns.findIdx? (fun m => decide (m = n)) with
  | some i =>
    obtain ⟨h1, h2⟩ := fi_some hf
    rw [if_pos h2, if_pos h2]
    refine ⟨rfl, ?_⟩
    apply List.ext_getElem?
    intro j
    rw [List.getElem?_set, List.getElem?_map]
    split
    · rename_i e
      subst e
      obtain ⟨hl, _⟩ := List.getElem?_eq_some_iff.1 h1
      rw [h1]
      simp [hl]
    · rfl
  | none =>
    have h1 := fi_none hf
    rw [if_neg h1, if_neg h1]
    simp only [List.length_map]
    refine ⟨trivial, ?_⟩
    split
    · rfl
    · rw [List.map_append]; rfl
/-- Those of fewer bits. -/
def upN (ns : List Nat) (c : Nat) : List Nat := ns.filter (fun m => decide (m < c))
theorem upN_mem {ns : List Nat} {c m : Nat} : m ∈ upN ns c ↔ m ∈ ns ∧ m < c := by
  unfold upN; rw [List.mem_filter]; simp
theorem upN_all {ns : List Nat} (h : Ns ns) : upN ns 33 = ns := by
  unfold upN
  rw [List.filter_eq_self]
  intro m hm
  have := h.le m hm
  simp; omega
theorem upN_none (ns : List Nat) : upN ns 0 = [] := by
  unfold upN
  rw [List.filter_eq_nil_iff]
  intro m _
  simp
theorem upN_not {ns : List Nat} {n : Nat} (h : n ∉ ns) : upN ns (n + 1) = upN ns n := by
  unfold upN
  apply List.filter_congr
  intro m hm
  have : m ≠ n := fun e => h (e ▸ hm)
  simp; omega
theorem upN_len (ns : List Nat) (h : Ns ns) (c : Nat) : (upN ns c).length ≤ 8 := Nat.le_trans (List.length_filter_le _ _) h.len
theorem upN_may {ip : I4} (hi : ip.ok) {ns : List Nat} (h : Ns ns) (c : Nat) : ∀ p ∈ (upN ns c).map (wy ip), mayW p = true := fun p hp => by
  obtain ⟨m, hm, rfl⟩ := List.mem_map.1 hp
  exact wy_may hi (h.le m (upN_mem.1 hm).1)
theorem wy_beg {ip : I4} (h : ip.ok) {n : Nat} (hn : n ≤ 32) : begB (wy ip n).n ip (wy ip n).bits.toNat = true := by
  have e := mkI_beg (mkI_ok h n) h hn (mkI_idem h n)
  show begB (mkI ip n) ip (n : Int).toNat = true
  rw [Int.toNat_natCast, ← e]
  simp
theorem wy_longest {ip : I4} (h : ip.ok) {ns : List Nat} (hns : Ns ns) {n : Nat} (hn : n ∈ ns) :
    findA ((upN ns (n + 1)).map (wy ip)) ip = ⟨10, 0, 0, n⟩ ∧ findE ((upN ns (n + 1)).map (wy ip)) ip = 0 := by
  have hm : wy ip n ∈ (upN ns (n + 1)).map (wy ip) := List.mem_map.2 ⟨n, upN_mem.2 ⟨hn, by omega⟩, rfl⟩
  have spec := bst_spec ip ((upN ns (n + 1)).map (wy ip)) 0 none
  have hb := wy_beg h (hns.le n hn)
  unfold findA findE
  cases hbst : bst ip ((upN ns (n + 1)).map (wy ip)) 0 none with
  | none =>
    have := (spec.1 hbst).2 _ hm
    rw [hb] at this
    cases this
  | some p =>
    obtain ⟨h1, h2, _⟩ := spec.2 p hbst
    rcases h1 with h1 | ⟨hpm, _⟩
    · cases h1
    obtain ⟨m, hmm, hpe⟩ := List.mem_map.1 hpm
    have h3 : (n : Int) ≤ p.2.bits := h2 _ hm hb
    rw [← hpe] at h3
    simp only
    rw [← hpe]
    have h4 : (n : Int) ≤ (m : Int) := h3
    have h5 := (upN_mem.1 hmm).2
    obtain rfl : m = n := by omega
    exact ⟨rfl, trivial⟩
theorem wy_out {ip : I4} {ns : List Nat} (hns : Ns ns) {n : Nat} (hn : n ∈ ns) :
    dropE ((upN ns (n + 1)).map (wy ip)) (mkI ip n) n = 0 ∧ dropL ((upN ns (n + 1)).map (wy ip)) (mkI ip n) n = (upN ns n).map (wy ip) := by
  unfold dropE dropL
  rw [wy_find]
  cases hf : (upN ns (n + 1)).findIdx? (fun m => decide (m = n)) with
  | none => exact absurd (upN_mem.2 ⟨hn, by omega⟩) (fi_none hf)
  | some i =>
    obtain ⟨h1, h2⟩ := fi_some hf
    refine ⟨rfl, ?_⟩
    simp only
    rw [← List.map_take, ← List.map_drop, ← List.map_append, ← List.eraseIdx_eq_take_drop_succ]
    congr 1
    have hnd : (upN ns (n + 1)).Nodup := hns.nd.filter _
    have e1 : (upN ns (n + 1)).eraseIdx i = (upN ns (n + 1)).erase n := by
      have h3 : (upN ns (n + 1)).eraseP (fun m => decide (m = n)) = (upN ns (n + 1)).eraseIdx i := by rw [List.eraseP_eq_eraseIdx, hf]
      rw [← h3, List.erase_eq_eraseP]
      congr 1
      funext m
      by_cases h : m = n
      · subst h; simp
      · simp [h]; exact fun e => h e.symm
    rw [e1, hnd.erase_eq_filter]
    unfold upN
    rw [List.filter_filter]
    apply List.filter_congr
    intro m _
    by_cases h : m = n
    · subst h; simp
    · have e : (m < n + 1) ↔ (m < n) := by omega
      simp [h, e]
end Go.Proofs.Ytcfadmjihccimaa
