/- The iterator over the neighbours that are not in a state, for every loop body. No condition but lengths. -/
import Derived.Test.YtfnphkijalkllaaArD
import Derived.Test.YtfnphkijalkllaaBr
namespace Go.Proofs.Ytfnphkijalkllaa
set_option linter.unusedVariables false
set_option linter.unusedSimpArgs false
open Go.RowKit Go.Shelf
attribute [local go_sem] Oper.semAt_some
/-- What a loop's body must leave as it is: rows of pointers but those of E, the blocks of U, the states. -/
structure KpN (E U : Nat → Prop) (ps : List Nat) (W W' : World) : Prop where
  size : W.heap.size ≤ W'.heap.size
  rows : ∀ b cs, W.heap[b]? = some (.cells cs 93) → ¬ E b → W'.heap[b]? = some (.cells cs 93)
  own : ∀ b cs t, U b → W.heap[b]? = some (.cells cs t) → W'.heap[b]? = some (.cells cs t)
  st : ∀ p ∈ ps, ∀ v, W.cell? ⟨p, 4, none⟩ = some v → W'.cell? ⟨p, 4, none⟩ = some v
theorem KpN.refl (E U : Nat → Prop) (ps : List Nat) (W : World) : KpN E U ps W W := ⟨Nat.le_refl _, fun _ _ h _ => h, fun _ _ _ _ h => h, fun _ _ _ h => h⟩
theorem KpN.trans {E U : Nat → Prop} {ps : List Nat} {A B C : World} (h : KpN E U ps A B) (k : KpN E U ps B C) : KpN E U ps A C :=
  ⟨Nat.le_trans h.size k.size, fun b cs h1 h2 => k.rows b cs (h.rows b cs h1 h2) h2, fun b cs t h1 h2 => k.own b cs t h1 (h.own b cs t h1 h2), fun p hp v hv => k.st p hp v (h.st p hp v hv)⟩
theorem KpN.ofFr {E U : Nat → Prop} {ps : List Nat} {A B : World} (f : Fr (fun _ => False) A B) : KpN E U ps A B :=
  ⟨f.size, fun b cs h _ => (f.block b (lt_of_block h) (fun e => e)).trans h, fun b cs t _ h => (f.block b (lt_of_block h) (fun e => e)).trans h,
   fun p _ v hv => (World.cell?_of_block (f.block p (block_lt_of_cell hv) (fun e => e))).trans hv⟩
theorem KpN.put {E U : Nat → Prop} {ps : List Nat} (W : World) (l : Nat) (o o' : Obj) (h : W.heap[l]? = some o) (hc : o.isCells = false) : KpN E U ps W (W.putObj l o') := by
  have key : ∀ (b : Nat) (cs : Array Value) (t : TypeId), W.heap[b]? = some (Obj.cells cs t) → (W.putObj l o').heap[b]? = some (Obj.cells cs t) := fun b cs t hb => by
    refine (World.putObj_heap_other (fun e => ?_)).trans hb
    first
      | (rw [e] at h; rw [h] at hb; cases hb; cases hc)
      | (rw [← e] at h; rw [h] at hb; cases hb; cases hc)
  refine ⟨by simp, fun b cs h1 _ => key b cs 93 h1, fun b cs t _ h1 => key b cs t h1, fun p _ v hv => ?_⟩
  obtain ⟨o2, ho2, _⟩ := not_walk_of_cell hv
  have h3 : W.heap[p]? = some o2 := ho2
  have hcell : (W.putObj l o').heap[p]? = W.heap[p]? := by
    refine World.putObj_heap_other (fun e => ?_)
    have hcc : o2.isCells = true := by
      unfold World.cell? at hv
      rw [show (⟨p, 4, none⟩ : Addr).block = p from rfl, h3] at hv
      cases o2 <;> simp_all [Obj.isCells]
    first
      | (rw [e] at h; rw [h] at h3; cases h3; rw [hc] at hcc; cases hcc)
      | (rw [← e] at h; rw [h] at h3; cases h3; rw [hc] at hcc; cases hcc)
  exact (World.cell?_of_block hcell).trans hv
/-- Whom the loop meets. -/
def yl (L : List En) (no : Int) : List Nat := (L.filter fun e => !decide (e.nb.st = no)).map (·.p)
theorem yl_in {L : List En} {no : Int} {i : Nat} {e : En} (hi : L[i]? = some e) (h : e.nb.st ≠ no) : yl (L.take (i + 1)) no = yl (L.take i) no ++ [e.p] := by
  unfold yl; rw [List.take_add_one, hi]; simp [List.filter_append, h]
theorem yl_out {L : List En} {no : Int} {i : Nat} {e : En} (hi : L[i]? = some e) (h : e.nb.st = no) : yl (L.take (i + 1)) no = yl (L.take i) no := by
  unfold yl; rw [List.take_add_one, hi]; simp [List.filter_append, h]
theorem yl_pre (L : List En) (no : Int) (i : Nat) : yl (L.take i) no <+: yl L no := by
  unfold yl
  conv => rhs; rw [← List.take_append_drop i L]
  rw [List.filter_append, List.map_append]
  exact List.prefix_append _ _
theorem yl_lt {L : List En} {no : Int} {i : Nat} {e : En} (hi : L[i]? = some e) (h : e.nb.st ≠ no) : (yl (L.take i) no).length < (yl L no).length := by
  have h1 := (yl_pre L no (i + 1)).length_le
  rw [yl_in hi h, List.length_append] at h1
  simp at h1
  omega
theorem Sl.kp {E U : Nat → Prop} {ps : List Nat} {w w' : World} {base n : Nat} {v : Value} {cs : List Value} (h : Sl base 93 1 w v n cs) (k : KpN E U ps w w') (hb : ∀ b, E b → b < base) : Sl base 93 1 w' v n cs :=
  h.heap fun i hi => by
    obtain ⟨c, hc⟩ := h.tag hi
    rw [hc]
    exact k.rows i c hc (fun e => by have := hb i e; have := (h.lt i hi).1; omega)
set_option maxRecDepth 100000 in
set_option maxHeartbeats 4000000 in
theorem those64 (n l bc bn g N : Nat) (hn : 1 ≤ n) (mac : M6) (ip : I4) (L : List En) (lv : Value) (no : Int) (E U : Nat → Prop) (J Jx : List Nat → World → Prop) (hU : U bc ∧ U bn)
    (hY : ∀ pre x W, x ∈ L.map (·.p) → J pre W → pre.length < (yl L no).length → YieldAt Fence.wide (n - 1) Try.prog l #[.pointer (some ⟨x, 0, none⟩)] W fun e W' =>
      (e = .returned (.bool true) ∧ J (pre ++ [x]) W' ∧ KpN E U (L.map (·.p)) W W') ∨ (e = .returned (.bool false) ∧ Jx (pre ++ [x]) W'))
    (hJ : ∀ s W W', J s W → Fr (fun _ => False) W W' → J s W')
    (W : World) (hC : CAt N W g mac ip L lv) (hbc : W.heap[bc]? = some (.cells #[.pointer (some ⟨g, 0, none⟩)] 24)) (hbn : W.heap[bn]? = some (.cells #[.int .i64 no] 3)) (hE : ∀ b, E b → b < W.heap.size) (h0 : J [] W) :
    CallsIn Fence.wide n Try.prog 64 #[.func (.yield l) #[] #[], .pointer (some ⟨bc, 0, none⟩), .pointer (some ⟨bn, 0, none⟩)] W fun e W' => (∃ v, e = .returned v) ∧
      ((∃ ys, ys = yl L no ∧ J ys W') ∨ (∃ pre, pre <+: yl L no ∧ Jx pre W')) := by
  obtain ⟨len, hlen⟩ : ∃ m, L.length = m := ⟨_, rfl⟩
  have HC := Lib.hid hC
  have HL := Lib.hid hlen
  have HBN := Lib.hid hbn
  have hl8 := hC.len
  rw [hlen] at hl8
  have hc1 := cells_at W bc [.pointer (some ⟨g, 0, none⟩)] 24 hbc 0 _ rfl
  have hc2 := hC.cell (j := 10) rfl
  clear hC hlen hbc hbn
  refine callsIn_of_wp Try.func64 rfl trivial ?_ rfl
  simp only [Try.ntmps64, List.size_toArray, List.length_cons, List.length_nil, Nat.reduceAdd, Nat.reduceSub, Array.replicate_succ, Array.replicate_zero, List.push_toArray, List.append_toArray, List.nil_append, List.cons_append]
  refine wpIn_scope_straight ?_
  gi_wp2
  refine wpIn_label ?_
  gi_wp2_with (refine ⟨trivial, ?_⟩; gi_at_call 65; refine (callsIn_wide.2 (clone65 N len lv (pts L) W (by have h := HC.out.sl; rw [HL.out] at h; exact h) (pts_one L) (by omega))).mono ?_; rintro e w1 ⟨v1, rfl, s1, f1⟩; have S1 := Lib.hid s1; have F1 := Lib.hid f1; obtain ⟨A1, cap1, hv1, hcap1, _⟩ := s1.form; subst hv1; clear s1 f1 hc1 hc2)
  have HJ1 := Lib.hid (hJ _ _ _ h0 F1.out)
  have HC1 := Lib.hid (HC.out.fr F1.out)
  have HB1 := Lib.hid (show w1.heap[bn]? = some (.cells #[.int .i64 no] 3) from (F1.out.block bn (lt_of_block HBN.out) (fun e => e)).trans HBN.out)
  clear h0
  gi_loopw [12] (fun v wr => ∃ i : Nat, v = .int .i64 i ∧ i ≤ len ∧ J (yl (L.take i) no) wr ∧ KpN E U (L.map (·.p)) w1 wr) (fun v _ => len - (intOf v).toNat)
  case atStart => exact ⟨0, rfl, Nat.zero_le _, by rw [List.take_zero]; exact HJ1.out, KpN.refl _ _ _ _⟩
  case round =>
    obtain ⟨i, rfl, hi, hj, hk⟩ := hrel
    have HJ := Lib.hid hj
    have HK := Lib.hid hk
    clear hj hk
    by_cases hlt : i < len
    · obtain ⟨q, hq⟩ : ∃ q, L[i]? = some q := ⟨_, List.getElem?_eq_getElem (by rw [HL.out]; exact hlt)⟩
      have Hq := Lib.hid hq
      have hqm := List.mem_of_getElem? hq
      have SR := Lib.hid (S1.out.kp HK.out hE)
      obtain ⟨b1, off1, cap', hv', _, _, _, _, hcs, _⟩ := SR.out.form1 (by omega)
      injection hv' with hv1 _ hv2
      subst hv1; subst hv2
      have hce : wr.cell? ⟨b1, off1 + i, none⟩ = some (.pointer (some ⟨q.p, 0, none⟩)) := hcs i _ (by unfold pts; rw [List.getElem?_map, hq]; rfl)
      have CS := Lib.hid (show wr.cell? ⟨q.p, 4, none⟩ = some (.int .i64 q.nb.st) from HK.out.st q.p (List.mem_map.2 ⟨q, hqm, rfl⟩) _ ((HC1.out.ent q hqm).cell (j := 4) rfl))
      have CN := Lib.hid (show wr.cell? ⟨bn, 0, none⟩ = some (.int .i64 no) from cells_at wr bn [.int .i64 no] 3 (HK.out.own bn _ 3 hU.2 HB1.out) 0 _ rfl)
      have HQM := Lib.hid (show q.p ∈ L.map (·.p) from List.mem_map.2 ⟨q, hqm, rfl⟩)
      clear hcs hq hqm
      obtain ⟨sb, hsb⟩ : ∃ s, q.nb.st = s := ⟨_, rfl⟩
      rw [hsb] at CS
      have HSB := Lib.hid hsb
      clear hsb
      have hic : i < cap1 := by omega
      have hii : (i : Int) < (len : Int) := by omega
      by_cases hst : sb = no
      · have htb : (sb == no) = true := by simp [hst]
        have HST := Lib.hid (HSB.out.trans hst)
        clear hst
        gi_wp2
        clear hce
        refine kr_inWide [(3, fun W => W.cell? ⟨q.p, 4, none⟩ = some (.int .i64 sb)), (4, fun W => W.cell? ⟨bn, 0, none⟩ = some (.int .i64 no))] (by kernel_rfl) (by kernel_rfl) (by kernel_rfl) ?_
        refine kr_find 0 rfl (by kernel_rfl) (by kernel_rfl) (by kernel_rfl) (fun _ _ _ _ h => h) (by rfl) trivial ?_
        apply Exists.intro; apply And.intro
        · intro w' hS K hK
          clear hS
          go_light
          go_simp
          exact hK.out
        try simp only [Act.put, List.getElem_toArray, List.getElem_cons_zero, List.getElem_cons_succ, List.setIfInBounds_toArray, List.set_cons_zero, List.set_cons_succ]
        refine kr_find 1 rfl (by kernel_rfl) (by kernel_rfl) (by kernel_rfl) (fun _ _ _ _ h => h) (by rfl) trivial ?_
        apply Exists.intro; apply And.intro
        · intro w' hS K hK
          clear hS
          go_light
          go_simp
          exact hK.out
        try simp only [Act.put, List.getElem_toArray, List.getElem_cons_zero, List.getElem_cons_succ, List.setIfInBounds_toArray, List.set_cons_zero, List.set_cons_succ]
        refine kr_find 2 rfl (by kernel_rfl) (by kernel_rfl) (by kernel_rfl) (fun _ _ _ _ h => h) (by rfl) trivial ?_
        apply Exists.intro; apply And.intro
        · intro w' hS K hK
          clear hS
          go_light
          go_simp
          exact hK.out
        try simp only [Act.put, List.getElem_toArray, List.getElem_cons_zero, List.getElem_cons_succ, List.setIfInBounds_toArray, List.set_cons_zero, List.set_cons_succ]
        refine kr_find 3 rfl (by kernel_rfl) (by kernel_rfl) (by kernel_rfl) (fun _ _ _ _ h => h) (by rfl) (show _ from CS.out) ?_
        apply Exists.intro; apply And.intro
        · intro w' hS K hK
          have hS : w'.cell? ⟨q.p, 4, none⟩ = some (.int .i64 sb) := hS
          go_light
          go_simp
          exact hK.out
        try simp only [Act.put, List.getElem_toArray, List.getElem_cons_zero, List.getElem_cons_succ, List.setIfInBounds_toArray, List.set_cons_zero, List.set_cons_succ]
        refine kr_find 4 rfl (by kernel_rfl) (by kernel_rfl) (by kernel_rfl) (fun _ _ _ _ h => h) (by rfl) (show _ from CN.out) ?_
        apply Exists.intro; apply And.intro
        · intro w' hS K hK
          have hS : w'.cell? ⟨bn, 0, none⟩ = some (.int .i64 no) := hS
          go_light
          go_simp
          exact hK.out
        try simp only [Act.put, List.getElem_toArray, List.getElem_cons_zero, List.getElem_cons_succ, List.setIfInBounds_toArray, List.set_cons_zero, List.set_cons_succ]
        refine kr_find 5 rfl (by kernel_rfl) (by kernel_rfl) (by kernel_rfl) (fun _ _ _ _ h => h) (by rfl) trivial ?_
        apply Exists.intro; apply And.intro
        · intro w' hS K hK
          clear hS
          go_light
          go_simp
          exact hK.out
        try simp only [Act.put, List.getElem_toArray, List.getElem_cons_zero, List.getElem_cons_succ, List.setIfInBounds_toArray, List.set_cons_zero, List.set_cons_succ]
        refine kr_done (by kernel_rfl) ?_ _
        refine outN_ok ?_
        have HJd := Lib.hid (hJ _ _ _ HJ.out (Fr.refl (fun _ => False) wr).drew)
        have HKd := Lib.hid (HK.out.trans (KpN.ofFr (Fr.refl (fun _ => False) wr).drew))
        gi_wp2
        go_roundw
        case rel => exact ⟨i + 1, by go_num, by omega, by rw [yl_out Hq.out HST.out]; exact HJd.out, HKd.out⟩
        case measure => simp [intOf]; omega
      · have htb : (sb == no) = false := by simp [hst]
        have HST := Lib.hid (show q.nb.st ≠ no from fun e => hst (HSB.out.symm.trans e))
        clear hst
        gi_wp2
        clear hce
        refine kr_inWide [(3, fun W => W.cell? ⟨q.p, 4, none⟩ = some (.int .i64 sb)), (4, fun W => W.cell? ⟨bn, 0, none⟩ = some (.int .i64 no))] (by kernel_rfl) (by kernel_rfl) (by kernel_rfl) ?_
        refine kr_find 0 rfl (by kernel_rfl) (by kernel_rfl) (by kernel_rfl) (fun _ _ _ _ h => h) (by rfl) trivial ?_
        apply Exists.intro; apply And.intro
        · intro w' hS K hK
          clear hS
          go_light
          go_simp
          exact hK.out
        try simp only [Act.put, List.getElem_toArray, List.getElem_cons_zero, List.getElem_cons_succ, List.setIfInBounds_toArray, List.set_cons_zero, List.set_cons_succ]
        refine kr_find 1 rfl (by kernel_rfl) (by kernel_rfl) (by kernel_rfl) (fun _ _ _ _ h => h) (by rfl) trivial ?_
        apply Exists.intro; apply And.intro
        · intro w' hS K hK
          clear hS
          go_light
          go_simp
          exact hK.out
        try simp only [Act.put, List.getElem_toArray, List.getElem_cons_zero, List.getElem_cons_succ, List.setIfInBounds_toArray, List.set_cons_zero, List.set_cons_succ]
        refine kr_find 2 rfl (by kernel_rfl) (by kernel_rfl) (by kernel_rfl) (fun _ _ _ _ h => h) (by rfl) trivial ?_
        apply Exists.intro; apply And.intro
        · intro w' hS K hK
          clear hS
          go_light
          go_simp
          exact hK.out
        try simp only [Act.put, List.getElem_toArray, List.getElem_cons_zero, List.getElem_cons_succ, List.setIfInBounds_toArray, List.set_cons_zero, List.set_cons_succ]
        refine kr_find 3 rfl (by kernel_rfl) (by kernel_rfl) (by kernel_rfl) (fun _ _ _ _ h => h) (by rfl) (show _ from CS.out) ?_
        apply Exists.intro; apply And.intro
        · intro w' hS K hK
          have hS : w'.cell? ⟨q.p, 4, none⟩ = some (.int .i64 sb) := hS
          go_light
          go_simp
          exact hK.out
        try simp only [Act.put, List.getElem_toArray, List.getElem_cons_zero, List.getElem_cons_succ, List.setIfInBounds_toArray, List.set_cons_zero, List.set_cons_succ]
        refine kr_find 4 rfl (by kernel_rfl) (by kernel_rfl) (by kernel_rfl) (fun _ _ _ _ h => h) (by rfl) (show _ from CN.out) ?_
        apply Exists.intro; apply And.intro
        · intro w' hS K hK
          have hS : w'.cell? ⟨bn, 0, none⟩ = some (.int .i64 no) := hS
          go_light
          go_simp
          exact hK.out
        try simp only [Act.put, List.getElem_toArray, List.getElem_cons_zero, List.getElem_cons_succ, List.setIfInBounds_toArray, List.set_cons_zero, List.set_cons_succ]
        refine kr_find 5 rfl (by kernel_rfl) (by kernel_rfl) (by kernel_rfl) (fun _ _ _ _ h => h) (by rfl) trivial ?_
        apply Exists.intro; apply And.intro
        · intro w' hS K hK
          clear hS
          go_light
          go_simp
          exact hK.out
        try simp only [Act.put, List.getElem_toArray, List.getElem_cons_zero, List.getElem_cons_succ, List.setIfInBounds_toArray, List.set_cons_zero, List.set_cons_succ]
        refine kr_done (by kernel_rfl) ?_ _
        refine outN_ok ?_
        have HJd := Lib.hid (hJ _ _ _ HJ.out (Fr.refl (fun _ => False) wr).drew)
        have HKd := Lib.hid (HK.out.trans (KpN.ofFr (Fr.refl (fun _ => False) wr).drew))
        obtain ⟨fn, tmps, assign, body, hy, hR⟩ := hY (yl (L.take i) no) q.p wr.drew HQM.out HJd.out (yl_lt Hq.out HST.out)
        gi_wp2
        refine hR.mono ?_
        rintro e W3 (⟨rfl, hJ3, hk3⟩ | ⟨rfl, hJx3⟩)
        · have HJ3 := Lib.hid hJ3
          have HK3 := Lib.hid hk3
          clear hJ3 hk3 hy hR
          gi_wp2
          go_roundw
          case rel => exact ⟨i + 1, by go_num, by omega, by rw [yl_in Hq.out HST.out]; exact HJ3.out, HKd.out.trans HK3.out⟩
          case measure => simp [intOf]; omega
        · have HJ3 := Lib.hid hJx3
          clear hJx3 hy hR
          gi_wp2
          rw [noGoto_ret']
          refine bodyPost_ret (v := .tuple #[]) (by simp [results, Try.results64, go_sem]) rfl ⟨⟨_, rfl⟩, .inr ⟨_, ?_, HJ3.out⟩⟩
          rw [← yl_in Hq.out HST.out]
          exact yl_pre L no (i + 1)
    · obtain rfl : i = len := by omega
      gi_wp2
      rw [noGoto_normal']
      go_end0
      refine ⟨⟨_, rfl⟩, .inl ⟨_, rfl, ?_⟩⟩
      have h := HJ.out
      rw [List.take_of_length_le (Nat.le_of_eq HL.out)] at h
      exact h
end Go.Proofs.Ytfnphkijalkllaa
