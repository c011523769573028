/- RouteLongest: its walk. No condition but the form's sizes. -/
import Derived.Test.YtcfadmjihccimaaRtZ
import Derived.Test.YtcfadmjihccimaaRtUb
import Derived.Test.YtcfadmjihccimaaRtV
namespace Go.Proofs.Ytcfadmjihccimaa
set_option linter.unusedVariables false
set_option linter.unusedSimpArgs false
open Go.RowKit
/-- What came in: a slice of integers. -/
structure IntsIn (w : World) (A : Option Addr) (n : Nat) (bs : List Int) : Prop where
  len : bs.length = n
  ok : ∀ x ∈ bs, (Lit.int .i64 x).wf = true
  top : n ≤ 140737488355328
  here : 0 < n → ∃ b off, A = some ⟨b, off, none⟩ ∧ b < w.heap.size ∧ ∀ i x, bs[i]? = some x → w.cell? ⟨b, off + i, none⟩ = some (.int .i64 x)
theorem IntsIn.fr {w w' : World} {A : Option Addr} {n : Nat} {bs : List Int} (h : IntsIn w A n bs) (f : Fr (fun _ => False) w w') : IntsIn w' A n bs :=
  ⟨h.len, h.ok, h.top, fun h0 => by
    obtain ⟨b, off, e, hb, hc⟩ := h.here h0
    refine ⟨b, off, e, Nat.lt_of_lt_of_le hb f.size, fun i x hi => ?_⟩
    have := range_block (cs := [.int .i64 x]) (o := off + i) (f.block b hb (fun e => e)) (fun j v hj => by
      match j, hj with
      | 0, hj => cases hj; exact hc i x hi) 0 _ rfl
    exact this⟩
theorem cells3c : Try.prog.cellsOf 3 = 1 := by kernel_rfl
theorem bytes3c : Try.prog.bytesOf 3 = 8 := by kernel_rfl
theorem ints_of_fits {W : World} {A : Option Addr} {n c : Nat} (h : FitsX Try.prog W 78 [.slice A n c]) : ∃ bs, IntsIn W A n bs ∧ n ≤ c := by
  obtain ⟨A', len, cap, e, h1, h2, h3, h4, h5⟩ := h.toSlice Try.underlying78 (by rw [cells3c]; decide)
  cases e
  rw [cells3c] at h5
  rw [bytes3c] at h4
  by_cases h0 : 0 < n
  · obtain ⟨b, off, rfl, hb, hc⟩ := h5 (by omega)
    have key : ∀ m, m ≤ n → ∃ bs : List Int, bs.length = m ∧ ∀ i x, bs[i]? = some x → (Lit.int .i64 x).wf = true ∧ W.cell? ⟨b, off + i, none⟩ = some (.int .i64 x) := by
      intro m
      induction m with
      | zero => exact fun _ => ⟨[], rfl, fun i x h => by simp at h⟩
      | succ m ih =>
        intro hm
        obtain ⟨bs, hl, hp⟩ := ih (by omega)
        obtain ⟨cs, hl1, hcell, hF⟩ := hc m (by omega)
        obtain ⟨x, rfl, hx⟩ := hF.toInt Try.underlying3
        refine ⟨bs ++ [x], by simp [hl], fun i y hy => ?_⟩
        by_cases hi : i < m
        · rw [List.getElem?_append_left (by omega)] at hy
          exact hp i y hy
        · obtain ⟨hlt, _⟩ := List.getElem?_eq_some_iff.1 hy
          simp at hlt
          have : i = m := by omega
          subst this
          rw [List.getElem?_append_right (by omega), hl, Nat.sub_self] at hy
          cases hy
          exact ⟨hx, by have := hcell 0 _ rfl; simpa using this⟩
    obtain ⟨bs, hl, hp⟩ := key n (Nat.le_refl _)
    refine ⟨bs, ⟨hl, fun x hx => ?_, by simp only [reachBytes] at h4; omega, fun _ => ⟨b, off, rfl, hb, fun i x hx => (hp i x hx).2⟩⟩, h1⟩
    obtain ⟨i, hi⟩ := List.mem_iff_getElem?.1 hx
    exact (hp i x hi).1
  · have : n = 0 := by omega
    subst this
    exact ⟨[], ⟨rfl, (fun x hx => by cases hx), by omega, fun h => absurd h h0⟩, h1⟩
theorem Pt.setCell {N : Nat} {w0 w : World} {g m : Nat} {L : List W10} {b j : Nat} {v : Value} {cs : Array Value} {t : TypeId} (hb : w.heap[b]? = some (.cells cs t)) (h1 : t ≠ 111) (h2 : t ≠ 114) (hn : w0.heap.size ≤ b) (h : Pt N w0 w g m L) : Pt N w0 (w.setCell ⟨b, j, none⟩ v) g m L := by
  obtain ⟨lv, hp, f⟩ := h
  have f1 : Fr (fun i => i = b) w (w.setCell ⟨b, j, none⟩ v) := (Fr.refl _ w).setCell _ _ (fun _ => rfl)
  refine ⟨lv, hp.frS f1 ?_ ?_ ?_, f.trans f1 (fun i hi e => by omega)⟩
  · intro e
    have := hp.blk
    rw [e, hb] at this
    cases this
    exact h1 rfl
  · intro e; exact hp.nocells (by rw [e]; exact hb)
  · intro k hk e
    exact hp.sl.ne hb h2 (by rw [← e]; exact hk)
/-- Which bits were in. -/
def inC (ns : List Nat) : List Value := (List.range 33).map fun n => .bool (decide (n ∈ ns))
theorem inC_at (ns : List Nat) {n : Nat} (hn : n ≤ 32) : (inC ns)[n]? = some (.bool (decide (n ∈ ns))) := by
  unfold inC
  rw [List.getElem?_map, List.getElem?_range (by omega)]
  rfl
theorem inC_set (ns : List Nat) {n : Nat} (hn : n ≤ 32) : (inC ns).set n (.bool true) = inC (ns ++ [n]) := by
  apply List.ext_getElem?
  intro j
  rw [List.getElem?_set]
  unfold inC
  simp only [List.length_map, List.length_range, List.getElem?_map]
  by_cases hj : j < 33
  · rw [List.getElem?_range hj]
    split
    · rename_i e; subst e; simp [hj]
    · rename_i e
      simp only [Option.map_some]
      congr 2
      simp only [List.mem_append, List.mem_singleton, decide_eq_decide]
      constructor
      · exact .inl
      · rintro (h | h)
        · exact h
        · exact absurd h.symm e
  · rw [List.getElem?_eq_none (by simp; omega)]
    split
    · rename_i e; subst e; omega
    · rfl
/-- How the law's own blocks stand. -/
structure JL (N : Nat) (W w : World) (g m b0 bi : Nat) (ip : I4) (ns : List Nat) (c : Nat) : Prop where
  pt : Pt N W w g m ((upN ns c).map (wy ip))
  sz : N ≤ w.heap.size
  ib : w.heap[b0]? = some (.cells ip.cells.toArray 45)
  inb : w.heap[bi]? = some (.cells (inC ns).toArray 79)
theorem JL.fr {N : Nat} {W w w' : World} {g m b0 bi : Nat} {ip : I4} {ns : List Nat} {c : Nat} (h : JL N W w g m b0 bi ip ns c) (f : Fr (fun _ => False) w w') : JL N W w' g m b0 bi ip ns c :=
  ⟨h.pt.fr f, Nat.le_trans h.sz f.size, (f.block _ (lt_of_block h.ib) (fun e => e)).trans h.ib, (f.block _ (lt_of_block h.inb) (fun e => e)).trans h.inb⟩
theorem JL.keep {N : Nat} {W w w' : World} {g m b0 bi : Nat} {ip : I4} {ns : List Nat} {c c' : Nat} (h : JL N W w g m b0 bi ip ns c) (hp : Pt N W w' g m ((upN ns c').map (wy ip))) (hz : w.heap.size ≤ w'.heap.size) (k : Keep w w') : JL N W w' g m b0 bi ip ns c' :=
  ⟨hp, Nat.le_trans h.sz hz, k _ _ _ h.ib (by decide) (by decide), k _ _ _ h.inb (by decide) (by decide)⟩
theorem JL.other {N : Nat} {W w w' : World} {g m b0 bi bn : Nat} {ip : I4} {ns : List Nat} {c : Nat} {cs : Array Value} (h : JL N W w g m b0 bi ip ns c) (hb : w.heap[bn]? = some (.cells cs 45)) (h0 : bn ≠ b0) (hW : W.heap.size ≤ bn) (f : Fr (fun i => i = bn) w w') : JL N W w' g m b0 bi ip ns c := by
  obtain ⟨lv, hp, f0⟩ := h.pt
  refine ⟨⟨lv, hp.frS f ?_ ?_ ?_, f0.trans f (fun i hi e => by omega)⟩, Nat.le_trans h.sz f.size, (f.block _ (lt_of_block h.ib) (fun e => h0 e.symm)).trans h.ib, (f.block _ (lt_of_block h.inb) (fun e => ?_)).trans h.inb⟩
  · intro e
    have := hp.blk
    rw [e, hb] at this
    cases this
  · intro e; exact hp.nocells (by rw [e]; exact hb)
  · intro k hk e
    exact hp.sl.ne hb (by decide) (by rw [← e]; exact hk)
  · have := h.inb
    rw [e, hb] at this
    cases this
theorem fill69 (a b c d n e f g h : Int) (v : Bool) : Instr.fill ((#[(0, 4), (4, 1), (5, 4), (9, 1)] : Array (Nat × Nat))[·]?) (Value.agg #[.int .u8 0, .int .u8 0, .int .u8 0, .int .u8 0, .int .i64 0, .int .u8 0, .int .u8 0, .int .u8 0, .int .u8 0, .bool false]).cells [(0, .agg #[.int .u8 a, .int .u8 b, .int .u8 c, .int .u8 d]), (1, .int .i64 n), (2, .agg #[.int .u8 e, .int .u8 f, .int .u8 g, .int .u8 h]), (3, .bool v)] = some #[.int .u8 a, .int .u8 b, .int .u8 c, .int .u8 d, .int .i64 n, .int .u8 e, .int .u8 f, .int .u8 g, .int .u8 h, .bool v] := by kernel_rfl
set_option maxHeartbeats 16000000 in
set_option maxRecDepth 100000 in
theorem longest9 (ip : I4) (A : Option Addr) (n cap : Nat) (bs : List Int) (W : World) (hip : ip.ok) (hA : IntsIn W A n bs) (hcap : n ≤ cap) :
    Calls Try.prog 9 #[.agg #[.int .u8 ip.a, .int .u8 ip.b, .int .u8 ip.c, .int .u8 ip.d], .slice A n cap] W fun e w' => e = .returned (.bool true) ∧ Fr (fun _ => False) W w' := by
  have HA := Lib.hid hA
  have HIP := Lib.hid hip
  have htop := hA.top
  clear hA hip
  go_enter Try.func9, Try.ntmps9
  go_upto_region 1 with (fail)
  have B0 := Lib.hid (heap_alloc_new W (.cells #[.int .u8 ip.a, .int .u8 ip.b, .int .u8 ip.c, .int .u8 ip.d] 45))
  have F0 := Lib.hid ((Fr.refl (fun _ => False) W).alloc (.cells #[.int .u8 ip.a, .int .u8 ip.b, .int .u8 ip.c, .int .u8 ip.d] 45))
  generalize W.alloc (.cells #[.int .u8 ip.a, .int .u8 ip.b, .int .u8 ip.c, .int .u8 ip.d] 45) = w0 at B0 F0 ⊢
  obtain ⟨b0, hb0⟩ : ∃ k, W.heap.size = k := ⟨_, rfl⟩
  have HB0 := Lib.hid hb0
  rw [hb0] at B0 ⊢
  clear hb0
  go_upto_region 2 with (go_at_call 28; refine (awake28 w0).mono ?_; rintro e w2 ⟨rfl, f2⟩; have F2 := Lib.hid f2; clear f2)
  go_upto_region 3 with (go_at_call 29; refine (new29 w2).mono ?_; rintro e w3 ⟨g, m, rfl, hp, f⟩; have P3 := Lib.hid hp; have F3 := Lib.hid f; clear hp f)
  obtain ⟨N, hN⟩ : ∃ N, w2.heap.size = N := ⟨_, rfl⟩
  have HN := Lib.hid (show W.heap.size < N by have h1 := F0.out.size; have h2 := F2.out.size; have h3 := HB0.out; have h4 := lt_of_block B0.out; omega)
  rw [hN] at P3
  go_upto_region 6 with (fail)
  have BI := Lib.hid (heap_alloc_new w3 (.cells (inC []).toArray 79))
  have FI := Lib.hid ((Fr.refl (fun _ => False) w3).alloc (.cells (inC []).toArray 79))
  change Code.wp Try.prog _ _ _ (w3.alloc (.cells (inC []).toArray 79))
  generalize w3.alloc (.cells (inC []).toArray 79) = w4 at BI FI ⊢
  obtain ⟨bi, hbi⟩ : ∃ k, w3.heap.size = k := ⟨_, rfl⟩
  have HBI1 := Lib.hid (show w3.heap.size = bi ∧ N ≤ w3.heap.size from ⟨hbi, by have := F3.out.size; omega⟩)
  rw [hbi] at BI ⊢
  clear hbi
  clear hN
  have J0 := Lib.hid (show JL N W w4 g m b0 bi ip [] 33 from ⟨⟨_, P3.out.fr FI.out, (F0.out.then' F2.out).then' (F3.out.then' FI.out)⟩, by
      have h1 := F3.out.size; have h2 := FI.out.size; have h3 := P3.out.hg; have h4 := lt_of_block P3.out.blk; omega,
    ((F2.out.then' (F3.out.then' FI.out)).block b0 (lt_of_block B0.out) (fun e => e)).trans B0.out, BI.out⟩)
  have HBI := Lib.hid (show W.heap.size ≤ bi from by have h1 := HBI1.out; have h2 := F3.out.size; have h3 := HN.out; omega)
  have HBI0 := Lib.hid (show b0 ≠ bi from by have h1 := HBI1.out; have h2 := F3.out.size; have h3 := HN.out; have h4 := HB0.out; omega)
  clear P3
  go_upto_region 8 with (fail)
  go_wp2_with fail
  go_loopw [8, 9] (fun v8 v9 wr => ∃ (i : Nat) (ns : List Nat), v9 = .int .i64 i ∧ i ≤ n ∧ Ns ns ∧ v8 = .int .i64 ns.length ∧ JL N W wr g m b0 bi ip ns 33) (fun _ v _ => n - (intOf v).toNat)
  case atStart => exact ⟨0, [], rfl, Nat.zero_le _, ⟨List.nodup_nil, (fun n h => by cases h), by decide⟩, rfl, J0.out⟩
  case round =>
    obtain ⟨i, ns, rfl, hi, hns, rfl, hj⟩ := hrel
    have HJ := Lib.hid hj
    have HNS := Lib.hid hns
    clear hj hns
    by_cases hlt : i < n
    · obtain ⟨x, hx⟩ : ∃ x, bs[i]? = some x := ⟨_, List.getElem?_eq_getElem (by rw [HA.out.len]; exact hlt)⟩
      obtain ⟨lv, hpt, hfr⟩ := HJ.out.pt
      obtain ⟨b, off, rfl, _, hc⟩ := (HA.out.fr hfr).here (by omega)
      have hcx := hc i x hx
      have HX := Lib.hid (i64_of (HA.out.ok x (List.mem_of_getElem? hx)))
      clear hc hx hpt hfr
      have hic : i < cap := by omega
      by_cases h0 : x < 0
      · go_wp2_with fail
        go_roundw
        case rel => exact ⟨i + 1, ns, by go_num, by omega, HNS.out, rfl, HJ.out⟩
        case measure => simp [intOf]; omega
      by_cases h32 : 32 < x
      · go_wp2_with fail
        go_roundw
        case rel => exact ⟨i + 1, ns, by go_num, by omega, HNS.out, rfl, HJ.out⟩
        case measure => simp [intOf]; omega
      obtain ⟨nb, rfl⟩ : ∃ nb : Nat, x = nb := ⟨x.toNat, by omega⟩
      have HN32 := Lib.hid (show nb ≤ 32 by omega)
      have RI := Lib.hid (range_at wr b0 ip.cells 45 HJ.out.ib)
      go_upto_region 12 with (fail)
      iterate 60 (first
        | (have := MK1; clear this)
        | (refine wpList_load_mid rfl 45 _ rfl b0 0 rfl [.int .u8 ip.a, .int .u8 ip.b, .int .u8 ip.c, .int .u8 ip.d] _ RI.out Try.underlying45 rfl (by kernel_rfl) ?_; have MK1 := Lib.hid True.intro)
        | go_step)
      go_upto_region 13 with (fail)
      have BN := Lib.hid (heap_alloc_new wr (.cells #[.int .u8 ip.a, .int .u8 ip.b, .int .u8 ip.c, .int .u8 ip.d] 45))
      have F5 := Lib.hid ((Fr.refl (fun _ => False) wr).alloc (.cells #[.int .u8 ip.a, .int .u8 ip.b, .int .u8 ip.c, .int .u8 ip.d] 45))
      generalize wr.alloc (.cells #[.int .u8 ip.a, .int .u8 ip.b, .int .u8 ip.c, .int .u8 ip.d] 45) = w5 at BN F5 ⊢
      obtain ⟨bn, hbn⟩ : ∃ k, wr.heap.size = k := ⟨_, rfl⟩
      have HBN := Lib.hid (show bn ≠ b0 ∧ W.heap.size ≤ bn from by have h1 := lt_of_block HJ.out.ib; have h2 := HJ.out.sz; have h3 := HN.out; omega)
      rw [hbn] at BN ⊢
      clear hbn
      have J5 := Lib.hid (HJ.out.fr F5.out)
      go_wp2_with fail
      go_loopw [12] (fun v wr => ∃ k : Nat, v = .int .i64 k ∧ nb ≤ k ∧ k ≤ 32 ∧ wr.heap[bn]? = some (.cells (cl4 ip nb k).cells.toArray 45) ∧ Fr (fun i => i = bn) w5 wr) (fun v _ => 32 - (intOf v).toNat)
      case atStart => exact ⟨nb, rfl, Nat.le_refl _, HN32.out, by rw [cl4_start]; exact BN.out, Fr.refl _ _⟩
      case round =>
        obtain ⟨k, rfl, hnk, hk32, hbk, hfk⟩ := hrel
        have HBK := Lib.hid hbk
        have HFK := Lib.hid hfk
        have HNK := Lib.hid hnk
        clear hbk hfk hnk
        by_cases hlt : k < 32
        · have hq : Int.tdiv (k : Int) 8 = ((k / 8 : Nat) : Int) := by rw [Int.tdiv_eq_ediv_of_nonneg (by omega)]; omega
          have hr : Int.tmod (k : Int) 8 = ((k % 8 : Nat) : Int) := by rw [Int.tmod_eq_emod_of_nonneg (by omega)]; omega
          have hq4 : k / 8 < 4 := by omega
          have hr8 : k % 8 < 8 := by omega
          have hkI : (k : Int) < 32 := by omega
          have HST := Lib.hid (cl4_step HIP.out HNK.out hlt)
          have hce : wr.cell? ⟨bn, k / 8, none⟩ = some (.int .u8 ((cl4 ip nb k).nth (k / 8))) := cells_at wr bn _ 45 HBK.out (k / 8) _ (by
            match k / 8, hq4 with
            | 0, _ => rfl
            | 1, _ => rfl
            | 2, _ => rfl
            | 3, _ => rfl)
          have hfz := frozen_of_row wr bn (k / 8) _ 45 HBK.out
          go_upto_region 15 with (fail)
          have HB7 := Lib.hid (show (wr.setCell ⟨bn, k / 8, none⟩ (.int .u8 (bits .andNot .u8 ((cl4 ip nb k).nth (k / 8)) (128 / 2 ^ (k % 8))))).heap[bn]? = some (.cells (cl4 ip nb (k + 1)).cells.toArray 45) from by
            rw [HST.out.1, heap_setCell_same wr bn (k / 8) _ 45 _ HBK.out, List.setIfInBounds_toArray, HST.out.2])
          have HF7 := Lib.hid (HFK.out.setCell ⟨bn, k / 8, none⟩ (.int .u8 (bits .andNot .u8 ((cl4 ip nb k).nth (k / 8)) (128 / 2 ^ (k % 8)))) (fun _ => rfl))
          clear hce hfz
          generalize wr.setCell ⟨bn, k / 8, none⟩ (.int .u8 (bits .andNot .u8 ((cl4 ip nb k).nth (k / 8)) (128 / 2 ^ (k % 8)))) = w7 at HB7 HF7 ⊢
          go_wp2_with fail
          go_roundw
          case rel => exact ⟨k + 1, by go_num, Nat.le_succ_of_le HNK.out, by omega, HB7.out, HF7.out⟩
          case measure => simp [intOf]; omega
        · obtain rfl : k = 32 := by omega
          have J6 := Lib.hid (J5.out.other BN.out HBN.out.1 HBN.out.2 HFK.out)
          have HB6 := Lib.hid (show wr.heap[bn]? = some (.cells (mkI ip nb).cells.toArray 45) from by rw [← cl4_end HIP.out]; exact HBK.out)
          clear hlt hk32
          obtain ⟨w6, hw6⟩ : ∃ y, y = wr := ⟨_, rfl⟩
          subst hw6
          have P6 := Lib.hid (show Pt N W w6 g m (ns.map (wy ip)) from by have h := J6.out.pt; rw [upN_all HNS.out] at h; exact h)
          have HE := Lib.hid (wy_add HIP.out (ns := ns) HN32.out)
          have R6 := Lib.hid (range_at w6 bn (mkI ip nb).cells 45 HB6.out)
          have hnb : nb < 33 := Nat.lt_succ_of_le HN32.out
          have hnb2 : (nb : Int) % 256 = nb := by omega
          go_upto_region 17 with (fail)
          iterate 80 (first
            | (have := MK2; clear this)
            | (refine wpList_load_mid rfl 45 _ rfl bn 0 rfl [.int .u8 (mkI ip nb).a, .int .u8 (mkI ip nb).b, .int .u8 (mkI ip nb).c, .int .u8 (mkI ip nb).d] _ R6.out Try.underlying45 rfl (by kernel_rfl) ?_)
            | (refine wpList_build bd69 rfl rfl [(0, .agg #[.int .u8 (mkI ip nb).a, .int .u8 (mkI ip nb).b, .int .u8 (mkI ip nb).c, .int .u8 (mkI ip nb).d]), (1, .int .i64 nb), (2, .agg #[.int .u8 10, .int .u8 0, .int .u8 0, .int .u8 nb]), (3, .bool true)] (by rfl) #[.int .u8 (mkI ip nb).a, .int .u8 (mkI ip nb).b, .int .u8 (mkI ip nb).c, .int .u8 (mkI ip nb).d, .int .i64 nb, .int .u8 10, .int .u8 0, .int .u8 0, .int .u8 nb, .bool true] (fill69 _ _ _ _ _ _ _ _ _ _) ?_; have MK2 := Lib.hid True.intro)
            | go_step)
          by_cases hin : nb ∈ ns
          · have HIN := Lib.hid hin
            rw [if_pos hin] at HE
            unfold addN at HE
            rw [if_pos hin] at HE
            clear hin
            go_upto_region 18 with (go_at_call 30; refine (add_aw (wy ip nb) (wy_ok HIP.out HN32.out) (Nat.le_of_lt HN.out) J6.out.sz P6.out (by rw [List.length_map]; exact HNS.out.len) HE.out.1 HE.out.2).mono ?_; rintro e w7 ⟨rfl, hp, hz, hk⟩; have P7 := Lib.hid hp; have Z7 := Lib.hid (Nat.le_trans J6.out.sz hz); have K7 := Lib.hid hk; clear hp hz hk)
            have B7i := Lib.hid (K7.out _ _ _ J6.out.inb (by decide) (by decide))
            have B70 := Lib.hid (K7.out _ _ _ J6.out.ib (by decide) (by decide))
            have hce : w7.cell? ⟨bi, nb, none⟩ = some (.bool true) := cells_at w7 bi (inC ns) 79 B7i.out nb _ (by rw [inC_at ns HN32.out]; simp [HIN.out])

            go_wp2_with fail
            go_roundw
            case rel => exact ⟨i + 1, ns, by go_num, by omega, HNS.out, rfl, ⟨by rw [upN_all HNS.out]; exact P7.out, Z7.out, B70.out, B7i.out⟩⟩
            case measure => simp [intOf]; omega

          · have HIN := Lib.hid hin
            rw [if_neg hin] at HE
            by_cases h8 : ns.length = 8
            · unfold addN at HE
              rw [if_neg hin, if_pos h8, if_pos h8] at HE
              have h8I : (ns.length : Int) = 8 := by omega
              have H8 := Lib.hid h8
              clear hin h8
              go_upto_region 18 with (go_at_call 30; refine (add_aw (wy ip nb) (wy_ok HIP.out HN32.out) (Nat.le_of_lt HN.out) J6.out.sz P6.out (by rw [List.length_map]; exact HNS.out.len) HE.out.1 HE.out.2).mono ?_; rintro e w7 ⟨rfl, hp, hz, hk⟩; have P7 := Lib.hid hp; have Z7 := Lib.hid (Nat.le_trans J6.out.sz hz); have K7 := Lib.hid hk; clear hp hz hk)
              have B7i := Lib.hid (K7.out _ _ _ J6.out.inb (by decide) (by decide))
              have B70 := Lib.hid (K7.out _ _ _ J6.out.ib (by decide) (by decide))
              have hce : w7.cell? ⟨bi, nb, none⟩ = some (.bool false) := cells_at w7 bi (inC ns) 79 B7i.out nb _ (by rw [inC_at ns HN32.out]; simp [HIN.out])

              go_wp2_with fail
              go_roundw
              case rel => exact ⟨i + 1, ns, by go_num, by omega, HNS.out, by rw [h8I], ⟨by rw [upN_all HNS.out]; exact P7.out, Z7.out, B70.out, B7i.out⟩⟩
              case measure => simp [intOf]; omega

            · have HNS7 := Lib.hid (HNS.out.add HN32.out)
              unfold addN at HE HNS7
              rw [if_neg hin, if_neg h8] at HNS7
              rw [if_neg hin, if_neg h8, if_neg h8] at HE
              have h8I : ¬ (ns.length : Int) = 8 := by omega
              have hl8 : ns.length ≤ 8 := HNS.out.len
              clear hin h8
              go_upto_region 18 with (go_at_call 30; refine (add_aw (wy ip nb) (wy_ok HIP.out HN32.out) (Nat.le_of_lt HN.out) J6.out.sz P6.out (by rw [List.length_map]; exact HNS.out.len) HE.out.1 HE.out.2).mono ?_; rintro e w7 ⟨rfl, hp, hz, hk⟩; have P7 := Lib.hid hp; have Z7 := Lib.hid (Nat.le_trans J6.out.sz hz); have K7 := Lib.hid hk; clear hp hz hk)
              have B7i := Lib.hid (K7.out _ _ _ J6.out.inb (by decide) (by decide))
              have B70 := Lib.hid (K7.out _ _ _ J6.out.ib (by decide) (by decide))
              have hce : w7.cell? ⟨bi, nb, none⟩ = some (.bool false) := cells_at w7 bi (inC ns) 79 B7i.out nb _ (by rw [inC_at ns HN32.out]; simp [HIN.out])

              have hfz := frozen_of_row w7 bi nb _ 79 B7i.out
              go_upto_region 22 with (fail)
              have J8 := Lib.hid (show JL N W (w7.setCell ⟨bi, nb, none⟩ (.bool true)) g m b0 bi ip (ns ++ [nb]) 33 from
                ⟨by rw [upN_all HNS7.out]; exact Pt.setCell B7i.out (by decide) (by decide) HBI.out P7.out, by have h1 := ((Fr.refl (fun i => i = bi) w7).setCell ⟨bi, nb, none⟩ (.bool true) (fun _ => rfl)).size; have h2 := Z7.out; omega,
                 (Below.heap_setCell _ _ _ _ (fun e => HBI0.out (by first | exact e | exact e.symm))).trans B70.out,
                 by rw [heap_setCell_same w7 bi nb _ 79 _ B7i.out, List.setIfInBounds_toArray, inC_set ns HN32.out]⟩)
              clear hce hfz
              generalize w7.setCell ⟨bi, nb, none⟩ (.bool true) = w8 at J8 ⊢
              go_wp2_with fail
              go_roundw
              case rel => exact ⟨i + 1, ns ++ [nb], by go_num, by omega, HNS7.out, by first | (rw [List.length_append]; rfl) | go_num | simp, J8.out⟩
              case measure => simp [intOf]; omega
    · obtain rfl : i = n := by omega
      clear hlt
      obtain ⟨w5, hw5⟩ : ∃ y, y = wr := ⟨_, rfl⟩
      subst hw5
      go_upto_region 23 with (fail)
      go_wp2_with fail
      go_loopw [14] (fun v wr => ∃ c : Nat, v = .int .i64 ((c : Int) - 1) ∧ c ≤ 33 ∧ JL N W wr g m b0 bi ip ns c) (fun v _ => (intOf v + 1).toNat)
      case atStart => exact ⟨33, rfl, Nat.le_refl _, HJ.out⟩
      case round =>
        obtain ⟨c, rfl, hc, hj⟩ := hrel
        have HJ2 := Lib.hid hj
        clear hj
        match c, hc, HJ2 with
        | 0, _, HJ2 =>
          have e1 : ((0 : Nat) : Int) - 1 = -1 := by decide
          rw [e1]
          have RI := Lib.hid (range_at wr b0 ip.cells 45 HJ2.out.ib)
          have P0 := Lib.hid (show Pt N W wr g m [] from by have h := HJ2.out.pt; rw [upN_none] at h; exact h)
          obtain ⟨w6, hw6⟩ : ∃ y, y = wr := ⟨_, rfl⟩
          subst hw6
          go_upto_region 36 with (fail)
          iterate 60 (first
            | (have := MK1; clear this)
            | (refine wpList_load_mid rfl 45 _ rfl b0 0 rfl [.int .u8 ip.a, .int .u8 ip.b, .int .u8 ip.c, .int .u8 ip.d] _ RI.out Try.underlying45 rfl (by kernel_rfl) ?_; have MK1 := Lib.hid True.intro)
            | go_step)
          go_upto_region 37 with (go_at_call 34; refine (find_aw ip HIP.out P0.out (by decide) (fun p hp => by cases hp) (show findA [] ip = I4.zero ∧ findE [] ip = 100 from ⟨rfl, rfl⟩)).mono ?_; rintro e w7 ⟨rfl, hp, f⟩; have P7 := Lib.hid hp; clear hp f)
          have FA7 := Lib.hid ((Fr.refl (fun _ => False) w7).alloc (.cells #[.int .u8 I4.zero.a, .int .u8 I4.zero.b, .int .u8 I4.zero.c, .int .u8 I4.zero.d] 45))
          change Code.wp Try.prog _ _ _ (w7.alloc (.cells #[.int .u8 I4.zero.a, .int .u8 I4.zero.b, .int .u8 I4.zero.c, .int .u8 I4.zero.d] 45))
          generalize w7.alloc (.cells #[.int .u8 I4.zero.a, .int .u8 I4.zero.b, .int .u8 I4.zero.c, .int .u8 I4.zero.d] 45) = w8 at FA7 ⊢
          obtain ⟨lvE, hpE, hfE⟩ := P7.out.fr FA7.out
          have HPE := Lib.hid hpE
          have HFE2 := Lib.hid hfE
          clear hpE hfE
          go_wp2_with (go_at_call 36; refine (all36 N g m [] lvE w8 HPE.out (by decide)).mono ?_; rintro e w11 ⟨v9, rfl, s9, f9⟩; obtain ⟨A9, c9, hv9, _, _⟩ := s9.form; subst hv9; have F9 := Lib.hid f9; clear s9 f9)
          go_ret
          exact ⟨rfl, HFE2.out.then' F9.out⟩
        | nb + 1, hc, HJ2 =>
          have e1 : ((nb + 1 : Nat) : Int) - 1 = (nb : Int) := by omega
          rw [e1]
          have hnb : nb < 33 := hc
          by_cases hin : nb ∈ ns
          · have hce : wr.cell? ⟨bi, nb, none⟩ = some (.bool true) := cells_at wr bi (inC ns) 79 HJ2.out.inb nb _ (by rw [inC_at ns (by omega)]; simp [hin])
            have HINS := Lib.hid hin
            have HN32 := Lib.hid (show nb ≤ 32 by omega)
            clear hin
            have RI := Lib.hid (range_at wr b0 ip.cells 45 HJ2.out.ib)
            have HFI := Lib.hid (wy_longest HIP.out HNS.out HINS.out)
            obtain ⟨w6, hw6⟩ : ∃ y, y = wr := ⟨_, rfl⟩
            subst hw6
            go_upto_region 27 with (fail)
            clear hce
            iterate 60 (first
              | (have := MK1; clear this)
              | (refine wpList_load_mid rfl 45 _ rfl b0 0 rfl [.int .u8 ip.a, .int .u8 ip.b, .int .u8 ip.c, .int .u8 ip.d] _ RI.out Try.underlying45 rfl (by kernel_rfl) ?_; have MK1 := Lib.hid True.intro)
              | go_step)
            go_upto_region 28 with (go_at_call 34; refine (find_aw ip HIP.out HJ2.out.pt (by rw [List.length_map]; exact upN_len ns HNS.out _) (upN_may HIP.out HNS.out _) HFI.out).mono ?_; rintro e w7 ⟨rfl, hp, f⟩; have F7 := Lib.hid f; clear hp f)
            have J7 := Lib.hid (HJ2.out.fr F7.out)
            have B15 := Lib.hid (heap_alloc_new w7 (.cells #[.int .u8 10, .int .u8 0, .int .u8 0, .int .u8 nb] 45))
            have FA7 := Lib.hid ((Fr.refl (fun _ => False) w7).alloc (.cells #[.int .u8 10, .int .u8 0, .int .u8 0, .int .u8 nb] 45))
            generalize w7.alloc (.cells #[.int .u8 10, .int .u8 0, .int .u8 0, .int .u8 nb] 45) = w8 at B15 FA7 ⊢
            obtain ⟨b15, hb15⟩ : ∃ k, w7.heap.size = k := ⟨_, rfl⟩
            rw [hb15] at B15 ⊢
            clear hb15
            have J8 := Lib.hid (J7.out.fr FA7.out)
            have RI8 := Lib.hid (range_at w8 b0 ip.cells 45 J8.out.ib)
            iterate 60 (first
              | (have := MK4; clear this)
              | (refine wpList_load_mid rfl 45 _ rfl b0 0 rfl [.int .u8 ip.a, .int .u8 ip.b, .int .u8 ip.c, .int .u8 ip.d] _ RI8.out Try.underlying45 rfl (by kernel_rfl) ?_; have MK4 := Lib.hid True.intro)
              | go_step)
            go_upto_region 29 with (fail)
            have BN := Lib.hid (heap_alloc_new w8 (.cells #[.int .u8 ip.a, .int .u8 ip.b, .int .u8 ip.c, .int .u8 ip.d] 45))
            have F5 := Lib.hid ((Fr.refl (fun _ => False) w8).alloc (.cells #[.int .u8 ip.a, .int .u8 ip.b, .int .u8 ip.c, .int .u8 ip.d] 45))
            have B15' := Lib.hid ((F5.out.block b15 (lt_of_block B15.out) (fun e => e)).trans B15.out)
            generalize w8.alloc (.cells #[.int .u8 ip.a, .int .u8 ip.b, .int .u8 ip.c, .int .u8 ip.d] 45) = w5 at BN F5 B15' ⊢
            obtain ⟨bn, hbn⟩ : ∃ k, w8.heap.size = k := ⟨_, rfl⟩
            have HBN := Lib.hid (show bn ≠ b0 ∧ W.heap.size ≤ bn ∧ bn ≠ b15 from by have h1 := lt_of_block J8.out.ib; have h2 := J8.out.sz; have h3 := HN.out; have h4 := lt_of_block B15.out; omega)
            rw [hbn] at BN ⊢
            clear hbn B15
            have B15 := Lib.hid B15'.out
            have J5 := Lib.hid (J8.out.fr F5.out)
            have HNE := Lib.hid (fun w : World => show (binOp .neq 45 (.agg #[.int .u8 10, .int .u8 0, .int .u8 0, .int .u8 nb]) (.agg #[.int .u8 10, .int .u8 0, .int .u8 0, .int .u8 nb])).run Try.prog w = .ok (.bool false) w from (neq45x (wy_ok HIP.out HN32.out).g (wy_ok HIP.out HN32.out).g w).trans (by simp))
            go_wp2_with fail
            go_loopw [18] (fun v wr => ∃ k : Nat, v = .int .i64 k ∧ nb ≤ k ∧ k ≤ 32 ∧ wr.heap[bn]? = some (.cells (cl4 ip nb k).cells.toArray 45) ∧ Fr (fun i => i = bn) w5 wr) (fun v _ => 32 - (intOf v).toNat)
            case atStart => exact ⟨nb, rfl, Nat.le_refl _, HN32.out, by rw [cl4_start]; exact BN.out, Fr.refl _ _⟩
            case round =>
              obtain ⟨k, rfl, hnk, hk32, hbk, hfk⟩ := hrel
              have HBK := Lib.hid hbk
              have HFK := Lib.hid hfk
              have HNK := Lib.hid hnk
              clear hbk hfk hnk
              by_cases hlt : k < 32
              · have hq : Int.tdiv (k : Int) 8 = ((k / 8 : Nat) : Int) := by rw [Int.tdiv_eq_ediv_of_nonneg (by omega)]; omega
                have hr : Int.tmod (k : Int) 8 = ((k % 8 : Nat) : Int) := by rw [Int.tmod_eq_emod_of_nonneg (by omega)]; omega
                have hq4 : k / 8 < 4 := by omega
                have hr8 : k % 8 < 8 := by omega
                have hkI : (k : Int) < 32 := by omega
                have HST := Lib.hid (cl4_step HIP.out HNK.out hlt)
                have hce : wr.cell? ⟨bn, k / 8, none⟩ = some (.int .u8 ((cl4 ip nb k).nth (k / 8))) := cells_at wr bn _ 45 HBK.out (k / 8) _ (by
                  match k / 8, hq4 with
                  | 0, _ => rfl
                  | 1, _ => rfl
                  | 2, _ => rfl
                  | 3, _ => rfl)
                have hfz := frozen_of_row wr bn (k / 8) _ 45 HBK.out
                go_upto_region 31 with (fail)
                have HB7 := Lib.hid (show (wr.setCell ⟨bn, k / 8, none⟩ (.int .u8 (bits .andNot .u8 ((cl4 ip nb k).nth (k / 8)) (128 / 2 ^ (k % 8))))).heap[bn]? = some (.cells (cl4 ip nb (k + 1)).cells.toArray 45) from by
                  rw [HST.out.1, heap_setCell_same wr bn (k / 8) _ 45 _ HBK.out, List.setIfInBounds_toArray, HST.out.2])
                have HF7 := Lib.hid (HFK.out.setCell ⟨bn, k / 8, none⟩ (.int .u8 (bits .andNot .u8 ((cl4 ip nb k).nth (k / 8)) (128 / 2 ^ (k % 8)))) (fun _ => rfl))
                clear hce hfz
                generalize wr.setCell ⟨bn, k / 8, none⟩ (.int .u8 (bits .andNot .u8 ((cl4 ip nb k).nth (k / 8)) (128 / 2 ^ (k % 8)))) = w7 at HB7 HF7 ⊢
                go_wp2_with fail
                go_roundw
                case rel => exact ⟨k + 1, by go_num, Nat.le_succ_of_le HNK.out, by omega, HB7.out, HF7.out⟩
                case measure => simp [intOf]; omega
              · obtain rfl : k = 32 := by omega
                have J6 := Lib.hid (J5.out.other BN.out HBN.out.1 HBN.out.2.1 HFK.out)
                have HB6 := Lib.hid (show wr.heap[bn]? = some (.cells (mkI ip nb).cells.toArray 45) from by rw [← cl4_end HIP.out]; exact HBK.out)
                clear hlt hk32
                obtain ⟨w6, hw6⟩ : ∃ y, y = wr := ⟨_, rfl⟩
                subst hw6
                have P6 := Lib.hid (show Pt N W w6 g m ((upN ns (nb + 1)).map (wy ip)) from J6.out.pt)
                have HE := Lib.hid (wy_out (ip := ip) HNS.out HINS.out)
                have HB64 := Lib.hid (show (Lit.int .i64 (nb : Int)).wf = true from wfi64' (by have := HN32.out; omega))
                have R6 := Lib.hid (range_at w6 bn (mkI ip nb).cells 45 HB6.out)
                go_upto_region 33 with (fail)
                iterate 80 (first
                  | (have := MK2; clear this)
                  | (refine wpList_load_mid rfl 45 _ rfl bn 0 rfl [.int .u8 (mkI ip nb).a, .int .u8 (mkI ip nb).b, .int .u8 (mkI ip nb).c, .int .u8 (mkI ip nb).d] _ R6.out Try.underlying45 rfl (by kernel_rfl) ?_; have MK2 := Lib.hid True.intro)
                  | go_step)
                go_upto_region 34 with (go_at_call 32; refine (drop_aw (mkI ip nb) nb ⟨mkI_ok HIP.out nb, HB64.out⟩ (Nat.le_of_lt HN.out) J6.out.sz P6.out (by rw [List.length_map]; exact upN_len ns HNS.out _) HE.out.1 HE.out.2).mono ?_; rintro e w7 ⟨rfl, hp, hz, hk⟩; have P7 := Lib.hid hp; have Z7 := Lib.hid hz; have K7 := Lib.hid hk; clear hp hz hk)
                have J7 := Lib.hid (J6.out.keep P7.out Z7.out K7.out)
                have R7 := Lib.hid (range_at w7 b15 [.int .u8 10, .int .u8 0, .int .u8 0, .int .u8 nb] 45 (K7.out _ _ _ ((HFK.out.block b15 (lt_of_block B15.out) (fun e => HBN.out.2.2 e.symm)).trans B15.out) (by decide) (by decide)))
                have hnb2 : (nb : Int) % 256 = nb := by have := HN32.out; omega
                iterate 80 (first
                  | (have := MK3; clear this)
                  | (refine wpList_load_when (by rfl) 45 _ rfl b15 0 rfl [.int .u8 10, .int .u8 0, .int .u8 0, .int .u8 nb] _ R7.out Try.underlying45 rfl (by kernel_rfl) ?_)
                  | (refine wpList_bin_agg (by rfl) .neq 45 45 _ _ rfl rfl rfl (by kernel_rfl) _ (HNE.out w7) ?_; have MK3 := Lib.hid True.intro)
                  | go_step)
                go_wp2_with fail
                go_roundw
                case rel => exact ⟨nb, by go_num, by have := HN32.out; omega, J7.out⟩
                case measure => simp [intOf] <;> omega
          · have hce : wr.cell? ⟨bi, nb, none⟩ = some (.bool false) := cells_at wr bi (inC ns) 79 HJ2.out.inb nb _ (by rw [inC_at ns (by omega)]; simp [hin])
            have HIN := Lib.hid hin
            clear hin
            go_wp2_with fail
            go_roundw
            case rel => exact ⟨nb, by go_num, by omega, by have h := HJ2.out; exact ⟨by rw [← upN_not HIN.out]; exact h.pt, h.sz, h.ib, h.inb⟩⟩
            case measure => simp [intOf] <;> omega
end Go.Proofs.Ytcfadmjihccimaa
