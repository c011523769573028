/- Law 8: a neighbour is asked for, for the first time. No condition but lengths. -/
import Derived.Test.YtfnphkijalkllaaArF
namespace Go.Proofs.Ytfnphkijalkllaa
set_option linter.unusedVariables false
set_option linter.unusedSimpArgs false
open Go.RowKit
theorem st36 : SlTy Try.prog 36 33 21 21 (.agg rqZero.toArray) := ⟨Try.underlying36, by kernel_rfl, rfl, by decide⟩
theorem wpList_buildSlice1 {P : Program} {ops : Array Oper} {rest : List Oper} {o : Oper} {a : Act} {w : World} {Q : Exit → Act → World → Prop} {t e : TypeId} {sz bytes : Nat} {z : Value} (hg : o.guard = none) (T : SlTy P t e sz bytes z) {ps : Array (Nat × Operand)} (ho : o.op = .buildSlice t 1 ps) (hn : sz ≤ 10000) (cells : Array Value) (hp : ps.toList.map (fun p => (p.1, a.eval p.2)) = [(0, .agg cells)]) (hc : cells.size = sz)
    (hK : wpList P ops Q rest (a.put o.dst (.slice (some ⟨w.heap.size, 0, none⟩) 1 1)) (w.alloc (.cells cells e))) : wpList P ops Q (o :: rest) a w :=
  wpList_plain hg fun _ h' => wp_buildSlice1 T ho hn cells hp hc (h' _ _ hK)
theorem pts_snoc (L : List En) (e : En) : pts (L ++ [e]) = pts L ++ [ptr e.p] := by simp [pts]
theorem Sl.keepG {base e sz n : Nat} {w w' : World} {v : Value} {cs : List Value} {row : Option Nat} (h : Sl base e sz w v n cs) (g : w.grownBy w' row) (hr : ∀ k, v.ownBlock = some k → some k ≠ row) : Sl base e sz w' v n cs :=
  h.heap fun k hk => g.block k (h.lt k hk).2 (hr k hk)
section
variable {N : Nat} {w5 w6 : World} {g : Nat} {mac : M6} {ip : I4} {L : List En} {lv lv' : Value}
theorem CAt.lg (h : CAt N w5 g mac ip L lv) : lv.ownBlock ≠ some g := h.sl.ne h.blk (by decide)
theorem CAt.pne (h : CAt N w5 g mac ip L lv) {e : En} (he : e ∈ L) : e.p ≠ g := fun e1 => by
  have := (h.ent e he).blk
  rw [e1, h.blk] at this
  exact absurd (tag_ne this) (by decide)
theorem CAt.plv (h : CAt N w5 g mac ip L lv) {e : En} (he : e ∈ L) : lv.ownBlock ≠ some e.p := h.sl.ne (h.ent e he).blk (by decide)
theorem CAt.vg (h : CAt N w5 g mac ip L lv) {e : En} (he : e ∈ L) : e.pv.ownBlock ≠ some g := (h.ent e he).sl.ne h.blk (by decide)
theorem CAt.vlv (h : CAt N w5 g mac ip L lv) {e : En} (he : e ∈ L) {k : Nat} (hk : e.pv.ownBlock = some k) : lv.ownBlock ≠ some k := fun e1 => by
  obtain ⟨c1, h1⟩ := h.sl.tag e1
  exact (h.ent e he).sl.ne h1 (by decide) hk
theorem CAt.vp (h : CAt N w5 g mac ip L lv) {e a : En} (he : e ∈ L) (ha : a ∈ L) : e.pv.ownBlock ≠ some a.p := (h.ent e he).sl.ne (h.ent a ha).blk (by decide)
theorem CAt.snoc (h : CAt N w5 g mac ip L lv) (e : En) (he : EnAt N w6 e) (hs : Sl N 93 1 w6 lv' (L.length + 1) (pts L ++ [ptr e.p])) (hg : w5.grownBy w6 lv.ownBlock) (hlen : L.length < 8) (hp : ∀ a ∈ L, a.p ≠ e.p)
    (hv : ∀ a ∈ L, ∀ k, a.pv.ownBlock = some k → e.pv.ownBlock ≠ some k) (hi : ∀ a ∈ L, a.nb.ip ≠ e.nb.ip) (hge : e.p ≠ g) : CAt N (w6.setCell ⟨g, 10, none⟩ lv') g mac ip (L ++ [e]) lv' := by
  have hb6 : w6.heap[g]? = some (.cells (cCells mac ip lv).toArray 92) := (hg.block g (lt_of_block h.blk) (fun e => h.lg e.symm)).trans h.blk
  have hoth : ∀ k, k ≠ g → (w6.setCell ⟨g, 10, none⟩ lv').heap[k]? = w6.heap[k]? := fun k hk => Below.heap_setCell _ _ _ _ (fun e => hk (by first | exact e | exact e.symm))
  refine ⟨?_, ?_, fun a ha => ?_, ?_, ?_, ?_, h.hg, by rw [List.length_append]; simp; omega, h.mok, h.iok⟩
  · rw [heap_setCell_same w6 g 10 _ 92 _ hb6]; rfl
  · rw [pts_snoc, List.length_append]
    exact hs.heap fun k hk => hoth k (fun e1 => by subst e1; exact hs.ne hb6 (by decide) hk)
  · rcases List.mem_append.1 ha with ha | ha
    · have h6 : EnAt N w6 a := (h.ent a ha).heap (hg.block _ (lt_of_block (h.ent a ha).blk) (fun e => h.plv ha e.symm)) (fun k hk => hg.block k ((h.ent a ha).sl.lt k hk).2 (fun e => h.vlv ha hk e.symm))
      exact h6.heap (hoth _ (h.pne ha)) (fun k hk => hoth k (fun e1 => h.vg ha (e1 ▸ hk)))
    · rw [List.mem_singleton.1 ha]
      exact he.heap (hoth _ hge) (fun k hk => hoth k (fun e1 => by subst e1; exact he.sl.ne hb6 (by decide) hk))
  · exact List.pairwise_append.2 ⟨h.pnd, List.pairwise_singleton _ _, fun a ha b hb => by rw [List.mem_singleton.1 hb]; exact hp a ha⟩
  · exact List.pairwise_append.2 ⟨h.vnd, List.pairwise_singleton _ _, fun a ha b hb => by rw [List.mem_singleton.1 hb]; exact hv a ha⟩
  · exact List.pairwise_append.2 ⟨h.ipn, List.pairwise_singleton _ _, fun a ha b hb => by rw [List.mem_singleton.1 hb]; exact hi a ha⟩
end
theorem fpt_none_all {L : List En} {q : I4} (h : fpt L q = none) : ∀ a ∈ L, a.nb.ip ≠ q := fun a ha e => by
  unfold fpt at h
  rw [List.find?_eq_none] at h
  have := h a ha
  simp [e] at this
theorem bd46 : BdTy Try.prog 46 #[(0, 4), (4, 1), (5, 6), (11, 1), (12, 1), (13, 1), (14, 1)] (.agg #[.int .u8 0, .int .u8 0, .int .u8 0, .int .u8 0, .int .i64 0, .int .u8 0, .int .u8 0, .int .u8 0, .int .u8 0, .int .u8 0, .int .u8 0, .int .i64 0, .int .i64 0, .int .i64 0, .slice none 0 0]) := ⟨⟨_, Try.underlying46, fun w => by kernel_rfl⟩, fun w => by kernel_rfl⟩
/-- One more that is asked for. -/
def nbNew (q : I4) (now buf : Int) : Nb := ⟨q, 1, M6.zero, now, now, 1, [buf]⟩
theorem nbNew_ok {q : I4} (hq : q.ok) {now : Int} (h : 0 ≤ now ∧ now ≤ 4398046511104) (buf : Int) : (nbNew q now buf).ok := ⟨hq, ⟨by show (1 : Int) ≤ 1; decide, by show (1 : Int) ≤ 3; decide⟩, M6.zero_ok, h, h, ⟨by show (0 : Int) ≤ 1; decide, by show (1 : Int) ≤ 3; decide⟩, by simp [nbNew]⟩
set_option maxRecDepth 100000 in
set_option maxHeartbeats 8000000 in
theorem begins39 {N g : Nat} {mac : M6} {ip : I4} {L : List En} {lv : Value} (q : I4) (buf now : Int) (w : World) (hq : q.ok) (hC : CAt N w g mac ip L lv) (hf : fpt L q = none) (hlen : L.length < 8) (hnow : 0 ≤ now ∧ now ≤ 4398046511104) (hN : N ≤ w.heap.size) :
    Calls Try.prog 39 #[.pointer (some ⟨g, 0, none⟩), .agg #[.int .u8 q.a, .int .u8 q.b, .int .u8 q.c, .int .u8 q.d], .int .i64 buf, .int .i64 now] w fun e w' => ∃ v10 p pv lv', e = .returned (.tuple #[.agg M6.zero.cells.toArray, .slice none 0 0, v10, .int .i64 80]) ∧
      CAt N w' g mac ip (L ++ [⟨p, pv, nbNew q now buf⟩]) lv' ∧ w.heap.size ≤ p ∧ (∀ k, pv.ownBlock = some k → w.heap.size ≤ k) ∧ Sl w.heap.size 33 21 w' v10 1 (rqCells mac ip q) ∧ Fr (fun i => i = g ∨ lv.ownBlock = some i) w w' := by
  have FA := Lib.hid (Fr.refl (fun _ => False) w)
  have HC := Lib.hid hC
  have HQ := Lib.hid hq
  have HF := Lib.hid (fpt_none_all hf)
  have HNW := Lib.hid (And.intro hnow hN)
  obtain ⟨n, hn⟩ : ∃ n, L.length = n := ⟨_, rfl⟩
  obtain ⟨A, cap, hlv, hcap, _⟩ := hC.sl.form
  rw [hn] at hlv hlen
  have HL := Lib.hid hn
  have hn8 : ¬ (n : Int) = 8 := by omega
  have HLV := Lib.hid hlv
  have hck := hC.cell (j := 10) rfl
  rw [hlv] at hck
  clear hC hq hf hnow hN hn hlv hcap
  go_enter Try.func39, Try.ntmps39
  go_upto_region 1 with (fail)
  obtain ⟨hbq, hbm, hf2, hs2⟩ := two_new w #[.int .u8 q.a, .int .u8 q.b, .int .u8 q.c, .int .u8 q.d] 29 #[.int .u8 0, .int .u8 0, .int .u8 0, .int .u8 0, .int .u8 0, .int .u8 0] 27
  generalize (w.alloc (.cells #[.int .u8 q.a, .int .u8 q.b, .int .u8 q.c, .int .u8 q.d] 29)).alloc (.cells #[.int .u8 0, .int .u8 0, .int .u8 0, .int .u8 0, .int .u8 0, .int .u8 0] 27) = w2 at hbq hbm hf2 hs2 ⊢
  obtain ⟨bm, ebm⟩ : ∃ k, w.heap.size + 1 = k := ⟨_, rfl⟩
  obtain ⟨bq, ebq⟩ : ∃ k, w.heap.size = k := ⟨_, rfl⟩
  rw [ebm] at hbm ⊢
  rw [ebq] at hbq ⊢
  have BQ := Lib.hid hbq
  have BM := Lib.hid hbm
  have F2 := Lib.hid hf2
  have HS2 := Lib.hid (show bq = w.heap.size ∧ bm = w.heap.size + 1 ∧ w2.heap.size = w.heap.size + 2 from by omega)
  clear hbq hbm hf2 hs2 ebm ebq
  have HC2 := Lib.hid (HC.out.fr F2.out)
  have hc2 := HC2.out.cell (j := 10) rfl
  rw [HLV.out] at hc2
  go_upto_region 6 with (fail)
  clear hck hc2
  have Fd := Lib.hid (F2.out.then' (Fr.refl _ w2).drew)
  have HCd := Lib.hid (HC.out.fr Fd.out)
  have CLd := Lib.hid (show w2.drew.cell? ⟨g, 10, none⟩ = some (.slice A n cap) from by have h := HCd.out.cell (j := 10) rfl; rw [HLV.out] at h; exact h)
  have RQd := Lib.hid (range_at w2.drew bq [.int .u8 q.a, .int .u8 q.b, .int .u8 q.c, .int .u8 q.d] 29 BQ.out)
  refine kr_start [(4, fun W => W.cell? ⟨g, 10, none⟩ = some (.slice A n cap)), (5, fun W => W.rangeAt bq 0 [.int .u8 q.a, .int .u8 q.b, .int .u8 q.c, .int .u8 q.d])] (by kernel_rfl) (by kernel_rfl) ?_
  have F2d := Lib.hid ((Fr.refl (fun _ => False) w2).drew)
  have BQd := Lib.hid (show w2.drew.heap[bq]? = _ from BQ.out)
  generalize w2.drew = wd at Fd HCd CLd RQd BQd F2d ⊢
  refine kr_find 0 rfl (by kernel_rfl) (by kernel_rfl) (by kernel_rfl) (fun _ _ _ _ h => h) (by rfl) trivial ?_
  apply Exists.intro; apply And.intro
  · intro w' hS K hK
    clear hS
    go_light
    go_simp
    exact hK.out
  try simp only [Act.put, List.getElem_toArray, List.getElem_cons_zero, List.getElem_cons_succ, List.setIfInBounds_toArray, List.set_cons_zero, List.set_cons_succ]
  refine kr_find 1 rfl (by kernel_rfl) (by kernel_rfl) (by kernel_rfl) (fun _ _ _ _ h => h) (by rfl) trivial ?_
  apply Exists.intro; apply And.intro
  · intro w' hS K hK
    clear hS
    go_light
    go_simp
    exact hK.out
  try simp only [Act.put, List.getElem_toArray, List.getElem_cons_zero, List.getElem_cons_succ, List.setIfInBounds_toArray, List.set_cons_zero, List.set_cons_succ]
  refine kr_find 2 rfl (by kernel_rfl) (by kernel_rfl) (by kernel_rfl) (fun _ _ _ _ h => h) (by rfl) trivial ?_
  apply Exists.intro; apply And.intro
  · intro w' hS K hK
    clear hS
    go_light
    go_simp
    exact hK.out
  try simp only [Act.put, List.getElem_toArray, List.getElem_cons_zero, List.getElem_cons_succ, List.setIfInBounds_toArray, List.set_cons_zero, List.set_cons_succ]
  refine kr_find 3 rfl (by kernel_rfl) (by kernel_rfl) (by kernel_rfl) (fun _ _ _ _ h => h) (by rfl) trivial ?_
  apply Exists.intro; apply And.intro
  · intro w' hS K hK
    clear hS
    go_light
    go_simp
    exact hK.out
  try simp only [Act.put, List.getElem_toArray, List.getElem_cons_zero, List.getElem_cons_succ, List.setIfInBounds_toArray, List.set_cons_zero, List.set_cons_succ]
  refine kr_find 4 rfl (by kernel_rfl) (by kernel_rfl) (by kernel_rfl) (fun _ _ _ _ h => h) (by rfl) (show _ from CLd.out) ?_
  apply Exists.intro; apply And.intro
  · intro w' hS K hK
    have hS : w'.cell? ⟨g, 10, none⟩ = some (.slice A n cap) := hS
    go_light
    go_simp
    exact hK.out
  try simp only [Act.put, List.getElem_toArray, List.getElem_cons_zero, List.getElem_cons_succ, List.setIfInBounds_toArray, List.set_cons_zero, List.set_cons_succ]
  refine kr_take 5 rfl (by kernel_rfl) (by kernel_rfl) (by kernel_rfl) (fun _ _ _ h => h) (yieldsIf_load_mid (by rfl) 29 _ rfl (bq) (0) rfl ([.int .u8 q.a, .int .u8 q.b, .int .u8 q.c, .int .u8 q.d]) _ (fun _ h => h) Try.underlying29 rfl (by kernel_rfl)) (show _ from RQd.out) ?_
  try simp only [Act.put, List.getElem_toArray, List.getElem_cons_zero, List.getElem_cons_succ, List.setIfInBounds_toArray, List.set_cons_zero, List.set_cons_succ]
  refine kr_find 6 rfl (by kernel_rfl) (by kernel_rfl) (by kernel_rfl) (fun _ _ _ _ h => h) (by rfl) trivial ?_
  apply Exists.intro; apply And.intro
  · intro w' hS K hK
    clear hS
    go_light
    go_simp
    exact hK.out
  try simp only [Act.put, List.getElem_toArray, List.getElem_cons_zero, List.getElem_cons_succ, List.setIfInBounds_toArray, List.set_cons_zero, List.set_cons_succ]
  refine kr_find 7 rfl (by kernel_rfl) (by kernel_rfl) (by kernel_rfl) (fun _ _ _ _ h => h) (by rfl) trivial ?_
  apply Exists.intro; apply And.intro
  · intro w' hS K hK
    clear hS
    go_light
    go_simp
    exact hK.out
  try simp only [Act.put, List.getElem_toArray, List.getElem_cons_zero, List.getElem_cons_succ, List.setIfInBounds_toArray, List.set_cons_zero, List.set_cons_succ]
  refine kr_find 8 rfl (by kernel_rfl) (by kernel_rfl) (by kernel_rfl) (fun _ _ _ _ h => h) (by rfl) trivial ?_
  apply Exists.intro; apply And.intro
  · intro w' hS K hK
    clear hS
    go_light
    go_simp
    exact hK.out
  try simp only [Act.put, List.getElem_toArray, List.getElem_cons_zero, List.getElem_cons_succ, List.setIfInBounds_toArray, List.set_cons_zero, List.set_cons_succ]
  refine kr_one 9 (by kernel_rfl) rfl (by rfl) (fun K hK => ?_)
  go_simp
  obtain ⟨h1, h2, h3⟩ := one_new wd #[.int .i64 buf] 3
  generalize wd.alloc (.cells #[.int .i64 buf] 3) = w9 at h1 h2 h3 ⊢
  obtain ⟨b9, h4⟩ : ∃ k, wd.heap.size = k := ⟨_, rfl⟩
  have Z9 := Lib.hid (show b9 = wd.heap.size ∧ w9.heap.size = b9 + 1 from by omega)
  rw [h4] at h1 ⊢
  have B9 := Lib.hid h1
  have G9 := Lib.hid h2
  clear h1 h2 h3 h4
  have F9 := Lib.hid (Fd.out.then' G9.out)
  have CL9 := Lib.hid (show w9.cell? ⟨g, 10, none⟩ = some (.slice A n cap) from by have h := (HC.out.fr F9.out).cell (j := 10) rfl; rw [HLV.out] at h; exact h)
  have RQ9 := Lib.hid (range_at w9 bq [.int .u8 q.a, .int .u8 q.b, .int .u8 q.c, .int .u8 q.d] 29 ((G9.out.block bq (lt_of_block BQd.out) (fun e => e)).trans BQd.out))
  refine hK.out _ _ ⟨.inr CL9.out, .inr RQ9.out, trivial⟩ ?_
  clear hK K
  try simp only [Act.put, List.getElem_toArray, List.getElem_cons_zero, List.getElem_cons_succ, List.setIfInBounds_toArray, List.set_cons_zero, List.set_cons_succ]
  refine kr_take 10 rfl (by kernel_rfl) (by kernel_rfl) (by kernel_rfl) (fun _ _ _ h => h) (kr_build bd46 rfl rfl [(0, .agg #[.int .u8 q.a, .int .u8 q.b, .int .u8 q.c, .int .u8 q.d]), (1, .int .i64 1), (3, .int .i64 now), (4, .int .i64 now), (5, .int .i64 1), (6, .slice (some ⟨b9, 0, none⟩) 1 1)] (by rfl) #[.int .u8 q.a, .int .u8 q.b, .int .u8 q.c, .int .u8 q.d, .int .i64 1, .int .u8 0, .int .u8 0, .int .u8 0, .int .u8 0, .int .u8 0, .int .u8 0, .int .i64 now, .int .i64 now, .int .i64 1, .slice (some ⟨b9, 0, none⟩) 1 1] (by kernel_rfl)) trivial ?_
  try simp only [Act.put, List.getElem_toArray, List.getElem_cons_zero, List.getElem_cons_succ, List.setIfInBounds_toArray, List.set_cons_zero, List.set_cons_succ]
  refine kr_one 11 (by kernel_rfl) rfl (by rfl) (fun K hK => ?_)
  go_simp
  obtain ⟨h1, h2, h3⟩ := one_new w9 #[.int .u8 q.a, .int .u8 q.b, .int .u8 q.c, .int .u8 q.d, .int .i64 1, .int .u8 0, .int .u8 0, .int .u8 0, .int .u8 0, .int .u8 0, .int .u8 0, .int .i64 now, .int .i64 now, .int .i64 1, .slice (some ⟨b9, 0, none⟩) 1 1] 46
  generalize w9.alloc (.cells #[.int .u8 q.a, .int .u8 q.b, .int .u8 q.c, .int .u8 q.d, .int .i64 1, .int .u8 0, .int .u8 0, .int .u8 0, .int .u8 0, .int .u8 0, .int .u8 0, .int .i64 now, .int .i64 now, .int .i64 1, .slice (some ⟨b9, 0, none⟩) 1 1] 46) = w11 at h1 h2 h3 ⊢
  obtain ⟨b11, h4⟩ : ∃ k, w9.heap.size = k := ⟨_, rfl⟩
  have Z11 := Lib.hid (show b11 = w9.heap.size ∧ w11.heap.size = b11 + 1 from by omega)
  rw [h4] at h1 ⊢
  have B11 := Lib.hid h1
  have G11 := Lib.hid h2
  clear h1 h2 h3 h4
  have F11 := Lib.hid (F9.out.then' G11.out)
  have CL11 := Lib.hid (show w11.cell? ⟨g, 10, none⟩ = some (.slice A n cap) from by have h := (HC.out.fr F11.out).cell (j := 10) rfl; rw [HLV.out] at h; exact h)
  refine hK.out _ _ ⟨.inr CL11.out, .inl (by kernel_rfl), trivial⟩ ?_
  clear hK K
  try simp only [Act.put, List.getElem_toArray, List.getElem_cons_zero, List.getElem_cons_succ, List.setIfInBounds_toArray, List.set_cons_zero, List.set_cons_succ]
  refine kr_one 12 (by kernel_rfl) rfl (by rfl) (fun K hK => ?_)
  go_simp
  obtain ⟨h1, h2, h3⟩ := one_new w11 #[.pointer (some ⟨b11, 0, none⟩)] 93
  generalize w11.alloc (.cells #[.pointer (some ⟨b11, 0, none⟩)] 93) = w12 at h1 h2 h3 ⊢
  obtain ⟨b12, h4⟩ : ∃ k, w11.heap.size = k := ⟨_, rfl⟩
  have Z12 := Lib.hid (show b12 = w11.heap.size ∧ w12.heap.size = b12 + 1 from by omega)
  rw [h4] at h1 ⊢
  have B12 := Lib.hid h1
  have G12 := Lib.hid h2
  clear h1 h2 h3 h4
  have F12 := Lib.hid (F11.out.then' G12.out)
  have CL12 := Lib.hid (show w12.cell? ⟨g, 10, none⟩ = some (.slice A n cap) from by have h := (HC.out.fr F12.out).cell (j := 10) rfl; rw [HLV.out] at h; exact h)
  have HC12 := Lib.hid (HC.out.fr F12.out)
  refine hK.out _ _ ⟨.inr CL12.out, .inl (by kernel_rfl), trivial⟩ ?_
  clear hK K
  try simp only [Act.put, List.getElem_toArray, List.getElem_cons_zero, List.getElem_cons_succ, List.setIfInBounds_toArray, List.set_cons_zero, List.set_cons_succ]
  refine kr_one 13 (by kernel_rfl) rfl (by rfl) (fun K hK => ?_)
  refine wp_append_sl _ _ rfl st90 (.slice A n cap) n (pts L) rfl (by have h := HC12.out.sl; rw [HL.out, HLV.out] at h; exact h) _ 1 [ptr b11] rfl (Src.ofSlice (w := w12) Try.underlying90 ⟨b12, 0, none⟩ 1 1 _ rfl (fun j u hj => by rw [Addr.add_mid]; exact range_at w12 b12 [ptr b11] 93 B12.out j u hj) (by simp [ptr, Value.oneCell'])) (by simp only [maxLen]; omega) (by omega) (Nat.le_trans HNW.out.2 F12.out.size) ?_
  intro v13 w13 sl13 gr13 ob13 nil13
  obtain ⟨A13, cp13, hv13, hn13, hm13⟩ := sl13.form
  subst hv13
  have S13 := Lib.hid sl13
  have G13 := Lib.hid gr13
  clear sl13 gr13 ob13 nil13 hn13 hm13
  refine hK.out _ _ ⟨.inl (by kernel_rfl), .inl (by kernel_rfl), trivial⟩ ?_
  clear hK K
  try simp only [Act.put, List.getElem_toArray, List.getElem_cons_zero, List.getElem_cons_succ, List.setIfInBounds_toArray, List.set_cons_zero, List.set_cons_succ]
  refine kr_find 14 rfl (by kernel_rfl) (by kernel_rfl) (by kernel_rfl) (fun _ _ _ _ h => h) (by rfl) trivial ?_
  apply Exists.intro; apply And.intro
  · intro w' hS K hK
    clear hS
    go_light
    go_simp
    exact hK.out
  try simp only [Act.put, List.getElem_toArray, List.getElem_cons_zero, List.getElem_cons_succ, List.setIfInBounds_toArray, List.set_cons_zero, List.set_cons_succ]
  refine kr_find 15 rfl (by kernel_rfl) (by kernel_rfl) (by kernel_rfl) (fun _ _ _ _ h => h) (by rfl) trivial ?_
  apply Exists.intro; apply And.intro
  · intro w' hS K hK
    clear hS
    go_light
    go_simp
    exact hK.out
  try simp only [Act.put, List.getElem_toArray, List.getElem_cons_zero, List.getElem_cons_succ, List.setIfInBounds_toArray, List.set_cons_zero, List.set_cons_succ]
  refine kr_one 16 (by kernel_rfl) rfl (by rfl) (fun K hK => ?_)
  have hb13 := (G13.out.block g (lt_of_block HC12.out.blk) (fun e => by have := HC12.out.lg; rw [HLV.out] at this; exact this e.symm)).trans HC12.out.blk
  have hc13 := cells_at w13 g _ 92 hb13 10 _ rfl
  have hz13 := frozen_of_row w13 g 10 _ 92 hb13
  clear hb13
  go_simp
  clear hc13 hz13
  refine hK.out _ _ ⟨.inl (by kernel_rfl), .inl (by kernel_rfl), trivial⟩ ?_
  clear hK K
  try simp only [Act.put, List.getElem_toArray, List.getElem_cons_zero, List.getElem_cons_succ, List.setIfInBounds_toArray, List.set_cons_zero, List.set_cons_succ]
  refine kr_done (by kernel_rfl) ?_ _
  have HZ := Lib.hid (show w.heap.size ≤ b9 ∧ w.heap.size ≤ b11 ∧ b9 < b11 ∧ b11 < w12.heap.size from by
    have h1 := Z9.out; have h2 := Z11.out; have h3 := Z12.out; have h4 := Fd.out.size; have h5 := G9.out.size; have h6 := G11.out.size; omega)
  have HLT := Lib.hid (fun (k : Nat) (h : Own g lv L k) => (HC.out.lt h).2)
  have HE13 := Lib.hid (show EnAt N w13 ⟨b11, .slice (some ⟨b9, 0, none⟩) 1 1, nbNew q now buf⟩ from by
    have hz := HZ.out
    have hlt : ∀ k, (Value.slice A n cap).ownBlock = some k → k < w.heap.size := fun k hk => HLT.out k (.inr (.inl (by rw [HLV.out]; exact hk)))
    refine ⟨?_, ⟨rfl, .inr ⟨b9, 0, 1, #[.int .i64 buf], rfl, Nat.le_trans HNW.out.2 hz.1, ?_, Nat.le_refl _, by simp only [maxLen]; omega, by simp, rfl⟩⟩, Nat.le_trans HNW.out.2 hz.2.1, nbNew_ok HQ.out HNW.out.1 buf⟩
    · refine (G13.out.block b11 hz.2.2.2 (fun e => ?_)).trans ((G12.out.block b11 (lt_of_block B11.out) (fun e => e)).trans B11.out)
      have := hlt b11 e.symm; omega
    · refine (G13.out.block b9 (by omega) (fun e => ?_)).trans (((G11.out.then' G12.out).block b9 (lt_of_block B9.out) (fun e => e)).trans B9.out)
      have := hlt b9 e.symm; omega)
  have HC14 := Lib.hid (HC12.out.snoc ⟨b11, .slice (some ⟨b9, 0, none⟩) 1 1, nbNew q now buf⟩ HE13.out (by have h := S13.out; rw [← HL.out] at h; exact h) (by have h := G13.out; rw [← HLV.out] at h; exact h) (by rw [HL.out]; exact hlen)
    (fun a ha e => by have h1 := HLT.out a.p (.inr (.inr ⟨a, ha, .inl rfl⟩)); have h2 := HZ.out; have e : a.p = b11 := e; omega)
    (fun a ha k hk e => by have h1 := HLT.out k (.inr (.inr ⟨a, ha, .inr hk⟩)); have h2 := HZ.out; have e : some b9 = some k := e; injection e with e; omega)
    (fun a ha => HF.out a ha) (fun e => by have h1 := HLT.out g (.inl rfl); have h2 := HZ.out; have e : b11 = g := e; omega))
  rw [HL.out] at HC14
  have FX := Lib.hid (show Fr (fun i => i = g ∨ lv.ownBlock = some i) w2 (w13.setCell ⟨g, 10, none⟩ (.slice A13 (n + 1) cp13)) from
    (((((F2d.out.then' G9.out).then' (G11.out.then' G12.out)).upto).grown G13.out (fun r e _ => .inr (by rw [HLV.out]; exact e)) : Fr (fun i => i = g ∨ lv.ownBlock = some i) w2 w13)).setCell _ _ (fun _ => .inl rfl))
  generalize w13.setCell ⟨g, 10, none⟩ (.slice A13 (n + 1) cp13) = w14 at HC14 FX ⊢
  have HNB := Lib.hid (show ∀ k, w.heap.size ≤ k → ¬ (k = g ∨ lv.ownBlock = some k) from fun k hk h => by
    rcases h with h | h
    · have := HLT.out g (.inl rfl); omega
    · have := HLT.out k (.inr (.inl h)); omega)
  have BQ14 := Lib.hid ((FX.out.block bq (lt_of_block BQ.out) (HNB.out bq (by have := HS2.out; omega))).trans BQ.out)
  have BM14 := Lib.hid ((FX.out.block bm (lt_of_block BM.out) (HNB.out bm (by have := HS2.out; omega))).trans BM.out)
  have RQ14 := Lib.hid (range_at w14 bq [.int .u8 q.a, .int .u8 q.b, .int .u8 q.c, .int .u8 q.d] 29 BQ14.out)
  go_upto_region 7 with (fail)
  iterate 60 (first
    | (have := MK1; clear this)
    | (refine wpList_load_mid rfl 29 _ rfl bq 0 rfl [.int .u8 q.a, .int .u8 q.b, .int .u8 q.c, .int .u8 q.d] _ RQ14.out Try.underlying29 rfl (by kernel_rfl) ?_)
    | (go_at_call 41; refine (request41 q w14 HC14.out).mono ?_; rintro e w15 ⟨rfl, hf⟩; have F15 := Lib.hid hf; clear hf; dsimp only; have MK1 := Lib.hid True.intro)
    | go_step)
  obtain ⟨b16, eb16⟩ : ∃ k, w15.heap.size = k := ⟨_, rfl⟩
  have h16 := one_new w15 (rqCells mac ip q).toArray 33
  obtain ⟨w16, ew16⟩ : ∃ y, w15.alloc (.cells (rqCells mac ip q).toArray 33) = y := ⟨_, rfl⟩
  rw [ew16, eb16] at h16
  have H16 := Lib.hid h16
  have E16 := Lib.hid (And.intro ew16 eb16)
  have BM16 := Lib.hid (((F15.out.then' h16.2.1).block bm (lt_of_block BM14.out) (fun e => e)).trans BM14.out)
  have TH16 := Lib.hid (there_at w16 bm M6.zero.cells 27 BM16.out)
  clear h16 ew16 eb16
  iterate 60 (first
    | (have := MK3; clear this)
    | (have := MK2; refine wpList_store_mid rfl 27 _ _ rfl bm 0 M6.zero.cells.toArray rfl rfl TH16.out (by kernel_rfl) (by kernel_rfl) ?_; clear this; have MK3 := Lib.hid True.intro)
    | (refine wpList_buildSlice1 rfl st36 rfl (by decide) (rqCells mac ip q).toArray rfl rfl ?_; rw [E16.out.1, E16.out.2]; have MK2 := Lib.hid True.intro)
    | go_step)
  change wpList Try.prog _ _ _ _ (w16.setCells bm 0 M6.zero.cells)
  have FM := Lib.hid (Fr.setCells (S := fun i => i = bm) bm (fun _ => rfl) M6.zero.cells 0 w16 (Fr.refl _ w16))
  have RS := Lib.hid (fun (tmps : Array Value) hp => results_cell39 tmps (w16.setCells bm 0 M6.zero.cells) bm _ hp (run_loadVar_mid _ bm 0 27 M6.zero.cells _ (World.rangeAt_setCells_same w16 bm 0 M6.zero.cells TH16.out) Try.underlying27 rfl (by kernel_rfl)))
  generalize w16.setCells bm 0 M6.zero.cells = w17 at FM RS ⊢
  go_wp2_with fail
  refine bodyPost_ret (RS.out _ rfl) rfl ⟨.slice (some ⟨b16, 0, none⟩) 1 1, b11, .slice (some ⟨b9, 0, none⟩) 1 1, .slice A13 (n + 1) cp13, rfl, ?_, HZ.out.2.1, (fun k hk => by cases hk; exact HZ.out.1), ?_, ?_⟩
  · exact (HC14.out.fr (F15.out.then' H16.out.2.1)).frS FM.out (fun i hi e => (HC14.out.fr (F15.out.then' H16.out.2.1)).tag BM16.out (by decide) (by decide) (by decide) (by decide) (e ▸ hi))
  · have h := Sl.made (base := w.heap.size) w15 (rqCells mac ip q) 33 21 1 rfl (by simp only [maxLen]; omega) (by have h1 := F15.out.size; have h2 := FX.out.size; have h3 := HS2.out; omega)
    rw [E16.out.1, E16.out.2] at h
    refine h.fr FM.out (fun k hk e => ?_)
    cases hk
    have h1 := H16.out.1
    have e : b16 = bm := e
    rw [e, BM16.out] at h1
    exact absurd (tag_ne h1) (by decide)
  · refine Fr.trans (S := fun i => i = g ∨ lv.ownBlock = some i) (F2.out.upto) (Fr.trans (S := fun i => i = g ∨ lv.ownBlock = some i ∨ i = bm) (FX.out.mono (fun i _ h => h.elim .inl (fun h => .inr (.inl h)))) (Fr.trans (S := fun i => i = g ∨ lv.ownBlock = some i ∨ i = bm) (F15.out.then' H16.out.2.1).upto FM.out (fun i _ h => .inr (.inr h))) (fun i _ h => h)) (fun i hi h => ?_)
    rcases h with h | h | h
    · exact .inl h
    · exact .inr h
    · have := HS2.out; omega
end Go.Proofs.Ytfnphkijalkllaa
