/- Law 8: Heard. No condition but lengths. -/
import Derived.Test.YtfnphkijalkllaaArI
namespace Go.Proofs.Ytfnphkijalkllaa
set_option linter.unusedVariables false
set_option linter.unusedSimpArgs false
open Go.RowKit
/-- A request or an answer. -/
structure Rq where
  ans : Bool
  sm : M6
  si : I4
  dm : M6
  di : I4
def Rq.cells (a : Rq) : List Value := [.bool a.ans, .int .u8 a.sm.a, .int .u8 a.sm.b, .int .u8 a.sm.c, .int .u8 a.sm.d, .int .u8 a.sm.e, .int .u8 a.sm.f, .int .u8 a.si.a, .int .u8 a.si.b, .int .u8 a.si.c, .int .u8 a.si.d, .int .u8 a.dm.a, .int .u8 a.dm.b, .int .u8 a.dm.c, .int .u8 a.dm.d, .int .u8 a.dm.e, .int .u8 a.dm.f, .int .u8 a.di.a, .int .u8 a.di.b, .int .u8 a.di.c, .int .u8 a.di.d]
structure Rq.ok (a : Rq) : Prop where
  sm : a.sm.ok
  si : a.si.ok
  dm : a.dm.ok
  di : a.di.ok
theorem rq_ba {w : World} {ba : Nat} {a : Rq} (h : w.heap[ba]? = some (.cells a.cells.toArray 33)) : w.rangeAt ba 1 [.int .u8 a.sm.a, .int .u8 a.sm.b, .int .u8 a.sm.c, .int .u8 a.sm.d, .int .u8 a.sm.e, .int .u8 a.sm.f] ∧ w.rangeAt ba 7 [.int .u8 a.si.a, .int .u8 a.si.b, .int .u8 a.si.c, .int .u8 a.si.d] ∧
    w.rangeAt ba 17 [.int .u8 a.di.a, .int .u8 a.di.b, .int .u8 a.di.c, .int .u8 a.di.d] ∧ w.cell? ⟨ba, 0, none⟩ = some (.bool a.ans) := by
  have h0 := range_at w ba _ 33 h
  refine ⟨?_, ?_, ?_, cells_at w ba _ 33 h 0 _ rfl⟩
  · have := range_part h0 1 6; exact this
  · have := range_part h0 7 4; exact this
  · have := range_part h0 17 4; exact this
set_option maxRecDepth 100000 in
set_option maxHeartbeats 8000000 in
/-- What one has sent himself is nothing. -/
theorem heard15_self {N g : Nat} {mac : M6} {ip : I4} {L : List En} {lv : Value} (a : Rq) (now : Int) (w : World) (ha : a.ok) (hC : CAt N w g mac ip L lv) (hself : a.si = ip) :
    Calls Try.prog 15 #[.pointer (some ⟨g, 0, none⟩), .agg a.cells.toArray, .int .i64 now] w fun e w' => e = .returned (.tuple #[.slice none 0 0, .slice none 0 0, .agg M6.zero.cells.toArray]) ∧ Fr (fun _ => False) w w' := by
  have FA := Lib.hid (Fr.refl (fun _ => False) w)
  have HC := Lib.hid hC
  have HA := Lib.hid ha
  have HSE := Lib.hid hself
  clear hC ha hself
  go_enter Try.func15, Try.ntmps15
  go_upto_region 1 with (fail)
  obtain ⟨hba, hbm, hf2, hs2⟩ := two_new w #[.bool a.ans, .int .u8 a.sm.a, .int .u8 a.sm.b, .int .u8 a.sm.c, .int .u8 a.sm.d, .int .u8 a.sm.e, .int .u8 a.sm.f, .int .u8 a.si.a, .int .u8 a.si.b, .int .u8 a.si.c, .int .u8 a.si.d, .int .u8 a.dm.a, .int .u8 a.dm.b, .int .u8 a.dm.c, .int .u8 a.dm.d, .int .u8 a.dm.e, .int .u8 a.dm.f, .int .u8 a.di.a, .int .u8 a.di.b, .int .u8 a.di.c, .int .u8 a.di.d] 33 #[.int .u8 0, .int .u8 0, .int .u8 0, .int .u8 0, .int .u8 0, .int .u8 0] 27
  change Code.wp Try.prog _ _ _ ((w.alloc (.cells #[.bool a.ans, .int .u8 a.sm.a, .int .u8 a.sm.b, .int .u8 a.sm.c, .int .u8 a.sm.d, .int .u8 a.sm.e, .int .u8 a.sm.f, .int .u8 a.si.a, .int .u8 a.si.b, .int .u8 a.si.c, .int .u8 a.si.d, .int .u8 a.dm.a, .int .u8 a.dm.b, .int .u8 a.dm.c, .int .u8 a.dm.d, .int .u8 a.dm.e, .int .u8 a.dm.f, .int .u8 a.di.a, .int .u8 a.di.b, .int .u8 a.di.c, .int .u8 a.di.d] 33)).alloc (.cells #[.int .u8 0, .int .u8 0, .int .u8 0, .int .u8 0, .int .u8 0, .int .u8 0] 27))
  generalize (w.alloc (.cells #[.bool a.ans, .int .u8 a.sm.a, .int .u8 a.sm.b, .int .u8 a.sm.c, .int .u8 a.sm.d, .int .u8 a.sm.e, .int .u8 a.sm.f, .int .u8 a.si.a, .int .u8 a.si.b, .int .u8 a.si.c, .int .u8 a.si.d, .int .u8 a.dm.a, .int .u8 a.dm.b, .int .u8 a.dm.c, .int .u8 a.dm.d, .int .u8 a.dm.e, .int .u8 a.dm.f, .int .u8 a.di.a, .int .u8 a.di.b, .int .u8 a.di.c, .int .u8 a.di.d] 33)).alloc (.cells #[.int .u8 0, .int .u8 0, .int .u8 0, .int .u8 0, .int .u8 0, .int .u8 0] 27) = w2 at hba hbm hf2 hs2 ⊢
  obtain ⟨bm, ebm⟩ : ∃ k, w.heap.size + 1 = k := ⟨_, rfl⟩
  obtain ⟨ba, eba⟩ : ∃ k, w.heap.size = k := ⟨_, rfl⟩
  rw [ebm] at hbm ⊢
  rw [eba] at hba ⊢
  have BA := Lib.hid (show w2.heap[ba]? = some (.cells a.cells.toArray 33) from hba)
  have BM := Lib.hid hbm
  have F2 := Lib.hid hf2
  have HS2 := Lib.hid (show ba = w.heap.size ∧ bm = w.heap.size + 1 ∧ w2.heap.size = w.heap.size + 2 from by omega)
  clear hba hbm hf2 hs2 ebm eba
  have Fd := Lib.hid (F2.out.then' (Fr.refl _ w2).drew)
  have HCd := Lib.hid (HC.out.fr Fd.out)
  have BAd := Lib.hid (show w2.drew.heap[ba]? = some (.cells a.cells.toArray 33) from BA.out)
  have BMd := Lib.hid (show w2.drew.heap[bm]? = some (.cells #[.int .u8 0, .int .u8 0, .int .u8 0, .int .u8 0, .int .u8 0, .int .u8 0] 27) from BM.out)
  have RSI := Lib.hid (rq_ba BAd.out).2.1
  have RIP := Lib.hid (HC.out.ipR Fd.out)
  have HEQ := Lib.hid (fun w : World => show (binOp .eql 29 (.agg #[.int .u8 a.si.a, .int .u8 a.si.b, .int .u8 a.si.c, .int .u8 a.si.d]) (.agg #[.int .u8 ip.a, .int .u8 ip.b, .int .u8 ip.c, .int .u8 ip.d])).run Try.prog w = .ok (.bool true) w from (eql29 HA.out.si HC.out.iok w).trans (by simp [HSE.out]))
  refine kr_start [(1, fun W => W.rangeAt ba 7 [.int .u8 a.si.a, .int .u8 a.si.b, .int .u8 a.si.c, .int .u8 a.si.d]), (5, fun W => W.rangeAt g 6 [.int .u8 ip.a, .int .u8 ip.b, .int .u8 ip.c, .int .u8 ip.d])] (by kernel_rfl) (by kernel_rfl) ?_
  refine kr_find 0 rfl (by kernel_rfl) (by kernel_rfl) (by kernel_rfl) (fun _ _ _ _ h => h) (by rfl) trivial ?_
  apply Exists.intro; apply And.intro
  · intro w' hS K hK
    clear hS
    go_light
    go_simp
    exact hK.out
  try simp only [Act.put, List.getElem_toArray, List.getElem_cons_zero, List.getElem_cons_succ, List.setIfInBounds_toArray, List.set_cons_zero, List.set_cons_succ]
  refine kr_take 1 rfl (by kernel_rfl) (by kernel_rfl) (by kernel_rfl) (fun _ _ _ h => h) (yieldsIf_load_mid (by rfl) 29 _ rfl (ba) (7) rfl ([.int .u8 a.si.a, .int .u8 a.si.b, .int .u8 a.si.c, .int .u8 a.si.d]) _ (fun _ h => h) Try.underlying29 rfl (by kernel_rfl)) (show _ from RSI.out) ?_
  try simp only [Act.put, List.getElem_toArray, List.getElem_cons_zero, List.getElem_cons_succ, List.setIfInBounds_toArray, List.set_cons_zero, List.set_cons_succ]
  refine kr_find 2 rfl (by kernel_rfl) (by kernel_rfl) (by kernel_rfl) (fun _ _ _ _ h => h) (by rfl) trivial ?_
  apply Exists.intro; apply And.intro
  · intro w' hS K hK
    clear hS
    go_light
    go_simp
    exact hK.out
  try simp only [Act.put, List.getElem_toArray, List.getElem_cons_zero, List.getElem_cons_succ, List.setIfInBounds_toArray, List.set_cons_zero, List.set_cons_succ]
  refine kr_find 3 rfl (by kernel_rfl) (by kernel_rfl) (by kernel_rfl) (fun _ _ _ _ h => h) (by rfl) trivial ?_
  apply Exists.intro; apply And.intro
  · intro w' hS K hK
    clear hS
    go_light
    go_simp
    exact hK.out
  try simp only [Act.put, List.getElem_toArray, List.getElem_cons_zero, List.getElem_cons_succ, List.setIfInBounds_toArray, List.set_cons_zero, List.set_cons_succ]
  refine kr_find 4 rfl (by kernel_rfl) (by kernel_rfl) (by kernel_rfl) (fun _ _ _ _ h => h) (by rfl) trivial ?_
  apply Exists.intro; apply And.intro
  · intro w' hS K hK
    clear hS
    go_light
    go_simp
    exact hK.out
  try simp only [Act.put, List.getElem_toArray, List.getElem_cons_zero, List.getElem_cons_succ, List.setIfInBounds_toArray, List.set_cons_zero, List.set_cons_succ]
  refine kr_take 5 rfl (by kernel_rfl) (by kernel_rfl) (by kernel_rfl) (fun _ _ _ h => h) (yieldsIf_load_mid (by rfl) 29 _ rfl (g) (6) rfl ([.int .u8 ip.a, .int .u8 ip.b, .int .u8 ip.c, .int .u8 ip.d]) _ (fun _ h => h) Try.underlying29 rfl (by kernel_rfl)) (show _ from RIP.out) ?_
  try simp only [Act.put, List.getElem_toArray, List.getElem_cons_zero, List.getElem_cons_succ, List.setIfInBounds_toArray, List.set_cons_zero, List.set_cons_succ]
  refine kr_take 6 rfl (by kernel_rfl) (by kernel_rfl) (by kernel_rfl) (fun _ _ _ h => h) (kr_bin_agg (by rfl) .eql 29 29 _ _ rfl rfl rfl (by kernel_rfl) _ HEQ.out) trivial ?_
  try simp only [Act.put, List.getElem_toArray, List.getElem_cons_zero, List.getElem_cons_succ, List.setIfInBounds_toArray, List.set_cons_zero, List.set_cons_succ]
  refine kr_find 7 rfl (by kernel_rfl) (by kernel_rfl) (by kernel_rfl) (fun _ _ _ _ h => h) (by rfl) trivial ?_
  apply Exists.intro; apply And.intro
  · intro w' hS K hK
    clear hS
    go_light
    go_simp
    exact hK.out
  try simp only [Act.put, List.getElem_toArray, List.getElem_cons_zero, List.getElem_cons_succ, List.setIfInBounds_toArray, List.set_cons_zero, List.set_cons_succ]
  refine kr_take 8 rfl (by kernel_rfl) (by kernel_rfl) (by kernel_rfl) (fun _ _ _ h => h) (kr_not (by rfl)) trivial ?_
  try simp only [Act.put, List.getElem_toArray, List.getElem_cons_zero, List.getElem_cons_succ, List.setIfInBounds_toArray, List.set_cons_zero, List.set_cons_succ]
  refine kr_take 9 rfl (by kernel_rfl) (by kernel_rfl) (by kernel_rfl) (fun _ _ _ h => h) (kr_not (by rfl)) trivial ?_
  try simp only [Act.put, List.getElem_toArray, List.getElem_cons_zero, List.getElem_cons_succ, List.setIfInBounds_toArray, List.set_cons_zero, List.set_cons_succ]
  refine kr_take 10 rfl (by kernel_rfl) (by kernel_rfl) (by kernel_rfl) (fun _ _ _ h => h) (kr_not (by rfl)) trivial ?_
  try simp only [Act.put, List.getElem_toArray, List.getElem_cons_zero, List.getElem_cons_succ, List.setIfInBounds_toArray, List.set_cons_zero, List.set_cons_succ]
  refine kr_take 11 rfl (by kernel_rfl) (by kernel_rfl) (by kernel_rfl) (fun _ _ _ h => h) (kr_not (by rfl)) trivial ?_
  try simp only [Act.put, List.getElem_toArray, List.getElem_cons_zero, List.getElem_cons_succ, List.setIfInBounds_toArray, List.set_cons_zero, List.set_cons_succ]
  refine kr_find 12 rfl (by kernel_rfl) (by kernel_rfl) (by kernel_rfl) (fun _ _ _ _ h => h) (by rfl) trivial ?_
  apply Exists.intro; apply And.intro
  · intro w' hS K hK
    clear hS
    go_light
    go_simp
    exact hK.out
  try simp only [Act.put, List.getElem_toArray, List.getElem_cons_zero, List.getElem_cons_succ, List.setIfInBounds_toArray, List.set_cons_zero, List.set_cons_succ]
  refine kr_done (by kernel_rfl) ?_ _
  have TH9 := Lib.hid (there_at w2.drew bm M6.zero.cells 27 BMd.out)
  go_upto_region 2 with (fail)
  iterate 60 (first
    | (have := MK12; clear this)
    | (refine wpList_store_mid rfl 27 _ _ rfl bm 0 M6.zero.cells.toArray rfl rfl TH9.out (by kernel_rfl) (by kernel_rfl) ?_; have MK12 := Lib.hid True.intro)
    | go_step)
  change wpList Try.prog _ _ _ _ (w2.drew.setCells bm 0 M6.zero.cells)
  have FM := Lib.hid (Fr.setCells (S := fun i => i = bm) bm (fun _ => rfl) M6.zero.cells 0 w2.drew (Fr.refl _ w2.drew))
  have RS := Lib.hid (fun (tmps : Array Value) hp => results_cell15 tmps (w2.drew.setCells bm 0 M6.zero.cells) bm _ hp (run_loadVar_mid _ bm 0 27 M6.zero.cells _ (World.rangeAt_setCells_same w2.drew bm 0 M6.zero.cells TH9.out) Try.underlying27 rfl (by kernel_rfl)))
  generalize w2.drew.setCells bm 0 M6.zero.cells = w10 at FM RS ⊢
  go_wp2_with fail
  refine bodyPost_ret (RS.out _ rfl) rfl ⟨rfl, ?_⟩
  exact Fr.trans (Fd.out) FM.out (fun b hb h => by have := HS2.out; have h : b = bm := h; omega)
theorem wp_store_one {P : Program} {op : Oper} {a : Act} {w : World} {K : Act → World → Prop} {Q : Exit → Act → World → Prop} (ty : TypeId) (x y : Operand) (ho : op.op = .store ty x y)
    (b o : Nat) (v : Value) (hx : a.eval x = .pointer (some ⟨b, o, none⟩)) (hy : a.eval y = v) (hv : v.cells = #[v]) (h1 : v.oneCell' = true)
    (ht : w.there b o 1) (hi : (P.info? ty).map (·.size) = some 1)
    (h : K (a.put op.dst undef) (w.setCell ⟨b, o, none⟩ v)) : op.wp P a w K Q := by
  have := run_storeCells_cells (P := P) b o [v] 0 w (fun j hj => by simpa using (ht j (by simpa using hj)).1) (fun j hj => by simpa using (ht j (by simpa using hj)).2)
    (fun u hu => by rw [List.mem_singleton.1 hu]; exact h1)
  simp only [Nat.add_zero] at this
  have hst : (storeVar ty ⟨b, o, none⟩ v).run P w = .ok () (w.setCell ⟨b, o, none⟩ v) := by
    cases hq : P.info? ty with
    | none => simp [hq] at hi
    | some i =>
      have hs : i.size = 1 := by simpa [hq] using hi
      simp [storeVar, sizeOf, typeInfo, hq, hv, hs, this]
      rfl
  unfold Oper.wp execOp
  simp only [ho, hx, hy, Instr.storeAt, Instr.sureAddr, Sem.run_bind, Sem.run_pure, Result.andThen_ok, hst]
  exact h
theorem wpList_store_one {P : Program} {ops : Array Oper} {rest : List Oper} {op : Oper} {a : Act} {w : World} {Q : Exit → Act → World → Prop} (hg : op.guard = none) (ty : TypeId) (x y : Operand) (ho : op.op = .store ty x y)
    (b o : Nat) (v : Value) (hx : a.eval x = .pointer (some ⟨b, o, none⟩)) (hy : a.eval y = v) (hv : v.cells = #[v]) (h1 : v.oneCell' = true)
    (ht : w.there b o 1) (hi : (P.info? ty).map (·.size) = some 1)
    (h : wpList P ops Q rest (a.put op.dst undef) (w.setCell ⟨b, o, none⟩ v)) : wpList P ops Q (op :: rest) a w :=
  wpList_plain hg fun _ h' => wp_store_one ty x y ho b o v hx hy hv h1 ht hi (h' _ _ h)
theorem there_one {w : World} {b o n : Nat} {cs : List Value} {t : TypeId} (h : w.heap[b]? = some (.cells cs.toArray t)) (hn : cs.length = n) (ho : o < n) : w.there b o 1 := fun j hj => by
  have h0 : j = 0 := by omega
  subst h0
  have := there_at w b cs t h o (by omega)
  simpa using this
theorem there_setc {w : World} {b o n : Nat} (h : w.there b o n) (p : Addr) (v : Value) : (w.setCell p v).there b o n := fun j hj => by
  refine ⟨?_, ?_⟩
  · obtain ⟨x, hx⟩ := Option.isSome_iff_exists.1 (h j hj).1
    obtain ⟨y, hy⟩ := cell?_setCell_some (p := p) (x := v) hx
    rw [hy]; rfl
  · simpa using (h j hj).2
theorem fill46 (a b c d e f g h i j now : Int) : Instr.fill ((#[(0, 4), (4, 1), (5, 6), (11, 1), (12, 1), (13, 1), (14, 1)] : Array (Nat × Nat))[·]?) (Value.agg #[.int .u8 0, .int .u8 0, .int .u8 0, .int .u8 0, .int .i64 0, .int .u8 0, .int .u8 0, .int .u8 0, .int .u8 0, .int .u8 0, .int .u8 0, .int .i64 0, .int .i64 0, .int .i64 0, .slice none 0 0]).cells [(0, .agg #[.int .u8 a, .int .u8 b, .int .u8 c, .int .u8 d]), (1, .int .i64 2), (2, .agg #[.int .u8 e, .int .u8 f, .int .u8 g, .int .u8 h, .int .u8 i, .int .u8 j]), (3, .int .i64 now), (4, .int .i64 now)] = some #[.int .u8 a, .int .u8 b, .int .u8 c, .int .u8 d, .int .i64 2, .int .u8 e, .int .u8 f, .int .u8 g, .int .u8 h, .int .u8 i, .int .u8 j, .int .i64 now, .int .i64 now, .int .i64 0, .slice none 0 0] := by kernel_rfl
def heardNb (nb : Nb) (sm : M6) (now : Int) : Nb := { nb with mac := sm, st := 2, since := now, tries := 0, pend := [] }
theorem heardNb_ok {nb : Nb} (h : nb.ok) {sm : M6} (hs : sm.ok) {now : Int} (hn : 0 ≤ now ∧ now ≤ 4398046511104) : (heardNb nb sm now).ok :=
  ⟨h.ip, ⟨by show (1 : Int) ≤ 2; decide, by show (2 : Int) ≤ 3; decide⟩, hs, hn, h.asked, ⟨by show (0 : Int) ≤ 0; decide, by show (0 : Int) ≤ 3; decide⟩, by show 0 ≤ 2; decide⟩
def newK (q : I4) (sm : M6) (now : Int) : Nb := ⟨q, 2, sm, now, now, 0, []⟩
theorem newK_ok {q : I4} (hq : q.ok) {sm : M6} (hs : sm.ok) {now : Int} (hn : 0 ≤ now ∧ now ≤ 4398046511104) : (newK q sm now).ok :=
  ⟨hq, ⟨by show (1 : Int) ≤ 2; decide, by show (2 : Int) ≤ 3; decide⟩, hs, hn, hn, ⟨by show (0 : Int) ≤ 0; decide, by show (0 : Int) ≤ 3; decide⟩, by show 0 ≤ 2; decide⟩
/-- What becomes of the cache; what may be sent now, and to whom. -/
structure HMid (N g : Nat) (mac : M6) (ip : I4) (L : List En) (lv : Value) (a : Rq) (now : Int) (w0 : World) (L' : List En) (lv' vmay : Value) (toM : M6) (w' : World) : Prop where
  at' : CAt N w' g mac ip L' lv'
  how : (∃ (i : Nat) (e : En), L[i]? = some e ∧ fpt L a.si = some e ∧ L' = L.set i ⟨e.p, .slice none 0 0, heardNb e.nb a.sm now⟩ ∧ lv' = lv ∧ vmay = e.pv ∧ toM = (if e.nb.pend = [] then M6.zero else a.sm) ∧ Sl N 3 1 w' vmay e.nb.pend.length (il e.nb.pend)) ∨
   (fpt L a.si = none ∧ L.length < 8 ∧ (∃ p, L' = L ++ [⟨p, .slice none 0 0, newK a.si a.sm now⟩] ∧ w0.heap.size ≤ p) ∧ vmay = .slice none 0 0 ∧ toM = M6.zero) ∨
   (fpt L a.si = none ∧ L.length = 8 ∧ L' = L ∧ lv' = lv ∧ vmay = .slice none 0 0 ∧ toM = M6.zero)
  fr : Fr (Own g lv L) w0 w'
theorem HMid.frS {S : Nat → Prop} {N g : Nat} {mac : M6} {ip : I4} {L : List En} {lv : Value} {a : Rq} {now : Int} {w0 : World} {L' : List En} {lv' vmay : Value} {toM : M6} {w w' : World} (h : HMid N g mac ip L lv a now w0 L' lv' vmay toM w) (f : Fr S w w') (h1 : ∀ i, Own g lv' L' i → ¬ S i) (h2 : ∀ k, vmay.ownBlock = some k → ¬ S k) (h3 : ∀ i, i < w0.heap.size → ¬ S i) : HMid N g mac ip L lv a now w0 L' lv' vmay toM w' := by
  refine ⟨h.at'.frS f h1, ?_, h.fr.trans f (fun i hi hs => absurd hs (h3 i hi))⟩
  rcases h.how with ⟨i, e, e1, e2, e3, e4, e5, e6, e7⟩ | h | h
  · exact .inl ⟨i, e, e1, e2, e3, e4, e5, e6, e7.fr f h2⟩
  · exact .inr (.inl h)
  · exact .inr (.inr h)
theorem HMid.fr0 {N g : Nat} {mac : M6} {ip : I4} {L : List En} {lv : Value} {a : Rq} {now : Int} {w0 : World} {L' : List En} {lv' vmay : Value} {toM : M6} {w w' : World} (h : HMid N g mac ip L lv a now w0 L' lv' vmay toM w) (f : Fr (fun _ => False) w w') : HMid N g mac ip L lv a now w0 L' lv' vmay toM w' := h.frS f (fun _ _ e => e) (fun _ _ e => e) (fun _ _ e => e)
theorem HMid.vm {N g : Nat} {mac : M6} {ip : I4} {L : List En} {lv : Value} {a : Rq} {now : Int} {w0 : World} {L' : List En} {lv' vmay : Value} {toM : M6} {w : World} (h : HMid N g mac ip L lv a now w0 L' lv' vmay toM w) {k : Nat} (hk : vmay.ownBlock = some k) : ∃ c, w.heap[k]? = some (.cells c 3) := by
  rcases h.how with ⟨i, e, e1, e2, e3, e4, e5, e6, e7⟩ | h | h
  · exact e7.tag hk
  · rw [h.2.2.2.1] at hk; cases hk
  · rw [h.2.2.2.2.1] at hk; cases hk
theorem fill33 (a b c d e f g h i j k l m n o p q r s t : Int) : Instr.fill ((#[(0, 1), (1, 6), (7, 4), (11, 6), (17, 4)] : Array (Nat × Nat))[·]?) (Value.agg #[.bool false, .int .u8 0, .int .u8 0, .int .u8 0, .int .u8 0, .int .u8 0, .int .u8 0, .int .u8 0, .int .u8 0, .int .u8 0, .int .u8 0, .int .u8 0, .int .u8 0, .int .u8 0, .int .u8 0, .int .u8 0, .int .u8 0, .int .u8 0, .int .u8 0, .int .u8 0, .int .u8 0]).cells [(0, .bool true), (1, .agg #[.int .u8 a, .int .u8 b, .int .u8 c, .int .u8 d, .int .u8 e, .int .u8 f]), (2, .agg #[.int .u8 g, .int .u8 h, .int .u8 i, .int .u8 j]), (3, .agg #[.int .u8 k, .int .u8 l, .int .u8 m, .int .u8 n, .int .u8 o, .int .u8 p]), (4, .agg #[.int .u8 q, .int .u8 r, .int .u8 s, .int .u8 t])] = some #[.bool true, .int .u8 a, .int .u8 b, .int .u8 c, .int .u8 d, .int .u8 e, .int .u8 f, .int .u8 g, .int .u8 h, .int .u8 i, .int .u8 j, .int .u8 k, .int .u8 l, .int .u8 m, .int .u8 n, .int .u8 o, .int .u8 p, .int .u8 q, .int .u8 r, .int .u8 s, .int .u8 t] := by kernel_rfl
def ansCells (mac : M6) (ip : I4) (a : Rq) : List Value := Rq.cells ⟨true, mac, ip, a.sm, a.si⟩
def HdPost (N g : Nat) (mac : M6) (ip : I4) (L : List En) (lv : Value) (a : Rq) (now : Int) (w : World) (en : Ending) (w' : World) : Prop :=
  ∃ vout vmay toM L' lv', en = .returned (.tuple #[vout, vmay, .agg (M6.cells toM).toArray]) ∧ HMid N g mac ip L lv a now w L' lv' vmay toM w' ∧
    (a.ans = true → vout = .slice none 0 0) ∧ (a.ans = false → Sl w.heap.size 33 21 w' vout 1 (ansCells mac ip a))
set_option maxRecDepth 100000 in
set_option maxHeartbeats 8000000 in
theorem heard15 {N g : Nat} {mac : M6} {ip : I4} {L : List En} {lv : Value} (a : Rq) (now : Int) (w : World) (ha : a.ok) (hC : CAt N w g mac ip L lv) (hne : a.si ≠ ip) (hnz : a.si ≠ I4.zero) (hdi : a.di = ip) (hnow : 0 ≤ now ∧ now ≤ 4398046511104) (hN : N ≤ w.heap.size) :
    Calls Try.prog 15 #[.pointer (some ⟨g, 0, none⟩), .agg a.cells.toArray, .int .i64 now] w (HdPost N g mac ip L lv a now w) := by
  have FA := Lib.hid (Fr.refl (fun _ => False) w)
  have HC := Lib.hid hC
  have HA := Lib.hid ha
  have HNE := Lib.hid (And.intro hne hnz)
  have HDI := Lib.hid hdi
  have HNW := Lib.hid (And.intro hnow hN)
  clear hC ha hne hnz hdi hnow hN
  go_enter Try.func15, Try.ntmps15
  go_upto_region 1 with (fail)
  obtain ⟨hba, hbm, hf2, hs2⟩ := two_new w #[.bool a.ans, .int .u8 a.sm.a, .int .u8 a.sm.b, .int .u8 a.sm.c, .int .u8 a.sm.d, .int .u8 a.sm.e, .int .u8 a.sm.f, .int .u8 a.si.a, .int .u8 a.si.b, .int .u8 a.si.c, .int .u8 a.si.d, .int .u8 a.dm.a, .int .u8 a.dm.b, .int .u8 a.dm.c, .int .u8 a.dm.d, .int .u8 a.dm.e, .int .u8 a.dm.f, .int .u8 a.di.a, .int .u8 a.di.b, .int .u8 a.di.c, .int .u8 a.di.d] 33 #[.int .u8 0, .int .u8 0, .int .u8 0, .int .u8 0, .int .u8 0, .int .u8 0] 27
  change Code.wp Try.prog _ _ _ ((w.alloc (.cells #[.bool a.ans, .int .u8 a.sm.a, .int .u8 a.sm.b, .int .u8 a.sm.c, .int .u8 a.sm.d, .int .u8 a.sm.e, .int .u8 a.sm.f, .int .u8 a.si.a, .int .u8 a.si.b, .int .u8 a.si.c, .int .u8 a.si.d, .int .u8 a.dm.a, .int .u8 a.dm.b, .int .u8 a.dm.c, .int .u8 a.dm.d, .int .u8 a.dm.e, .int .u8 a.dm.f, .int .u8 a.di.a, .int .u8 a.di.b, .int .u8 a.di.c, .int .u8 a.di.d] 33)).alloc (.cells #[.int .u8 0, .int .u8 0, .int .u8 0, .int .u8 0, .int .u8 0, .int .u8 0] 27))
  generalize (w.alloc (.cells #[.bool a.ans, .int .u8 a.sm.a, .int .u8 a.sm.b, .int .u8 a.sm.c, .int .u8 a.sm.d, .int .u8 a.sm.e, .int .u8 a.sm.f, .int .u8 a.si.a, .int .u8 a.si.b, .int .u8 a.si.c, .int .u8 a.si.d, .int .u8 a.dm.a, .int .u8 a.dm.b, .int .u8 a.dm.c, .int .u8 a.dm.d, .int .u8 a.dm.e, .int .u8 a.dm.f, .int .u8 a.di.a, .int .u8 a.di.b, .int .u8 a.di.c, .int .u8 a.di.d] 33)).alloc (.cells #[.int .u8 0, .int .u8 0, .int .u8 0, .int .u8 0, .int .u8 0, .int .u8 0] 27) = w2 at hba hbm hf2 hs2 ⊢
  obtain ⟨bm, ebm⟩ : ∃ k, w.heap.size + 1 = k := ⟨_, rfl⟩
  obtain ⟨ba, eba⟩ : ∃ k, w.heap.size = k := ⟨_, rfl⟩
  rw [ebm] at hbm ⊢
  rw [eba] at hba ⊢
  have BA := Lib.hid (show w2.heap[ba]? = some (.cells a.cells.toArray 33) from hba)
  have BM := Lib.hid hbm
  have F2 := Lib.hid hf2
  have HS2 := Lib.hid (show ba = w.heap.size ∧ bm = w.heap.size + 1 ∧ w2.heap.size = w.heap.size + 2 from by omega)
  clear hba hbm hf2 hs2 ebm eba
  have Fd := Lib.hid (F2.out.then' (Fr.refl _ w2).drew)
  have HCd := Lib.hid (HC.out.fr Fd.out)
  have BAd := Lib.hid (show w2.drew.heap[ba]? = some (.cells a.cells.toArray 33) from BA.out)
  have BMd := Lib.hid (show w2.drew.heap[bm]? = some (.cells #[.int .u8 0, .int .u8 0, .int .u8 0, .int .u8 0, .int .u8 0, .int .u8 0] 27) from BM.out)
  have RSI := Lib.hid (rq_ba BAd.out).2.1
  have RIP := Lib.hid (HC.out.ipR Fd.out)
  have HEQ := Lib.hid (fun w : World => show (binOp .eql 29 (.agg #[.int .u8 a.si.a, .int .u8 a.si.b, .int .u8 a.si.c, .int .u8 a.si.d]) (.agg #[.int .u8 ip.a, .int .u8 ip.b, .int .u8 ip.c, .int .u8 ip.d])).run Try.prog w = .ok (.bool false) w from (eql29 HA.out.si HC.out.iok w).trans (by simp [HNE.out.1]))
  have HEZ := Lib.hid (fun w : World => show (binOp .eql 29 (.agg #[.int .u8 a.si.a, .int .u8 a.si.b, .int .u8 a.si.c, .int .u8 a.si.d]) (.agg #[.int .u8 0, .int .u8 0, .int .u8 0, .int .u8 0])).run Try.prog w = .ok (.bool false) w from (eql29 (k' := I4.zero) HA.out.si I4.zero_ok w).trans (by simp [HNE.out.2]))
  refine kr_start [(1, fun W => W.rangeAt ba 7 [.int .u8 a.si.a, .int .u8 a.si.b, .int .u8 a.si.c, .int .u8 a.si.d]), (5, fun W => W.rangeAt g 6 [.int .u8 ip.a, .int .u8 ip.b, .int .u8 ip.c, .int .u8 ip.d]), (9, fun W => W.rangeAt ba 7 [.int .u8 a.si.a, .int .u8 a.si.b, .int .u8 a.si.c, .int .u8 a.si.d])] (by kernel_rfl) (by kernel_rfl) ?_
  refine kr_find 0 rfl (by kernel_rfl) (by kernel_rfl) (by kernel_rfl) (fun _ _ _ _ h => h) (by rfl) trivial ?_
  apply Exists.intro; apply And.intro
  · intro w' hS K hK
    clear hS
    go_light
    go_simp
    exact hK.out
  try simp only [Act.put, List.getElem_toArray, List.getElem_cons_zero, List.getElem_cons_succ, List.setIfInBounds_toArray, List.set_cons_zero, List.set_cons_succ]
  refine kr_take 1 rfl (by kernel_rfl) (by kernel_rfl) (by kernel_rfl) (fun _ _ _ h => h) (yieldsIf_load_mid (by rfl) 29 _ rfl (ba) (7) rfl ([.int .u8 a.si.a, .int .u8 a.si.b, .int .u8 a.si.c, .int .u8 a.si.d]) _ (fun _ h => h) Try.underlying29 rfl (by kernel_rfl)) (show _ from RSI.out) ?_
  try simp only [Act.put, List.getElem_toArray, List.getElem_cons_zero, List.getElem_cons_succ, List.setIfInBounds_toArray, List.set_cons_zero, List.set_cons_succ]
  refine kr_find 2 rfl (by kernel_rfl) (by kernel_rfl) (by kernel_rfl) (fun _ _ _ _ h => h) (by rfl) trivial ?_
  apply Exists.intro; apply And.intro
  · intro w' hS K hK
    clear hS
    go_light
    go_simp
    exact hK.out
  try simp only [Act.put, List.getElem_toArray, List.getElem_cons_zero, List.getElem_cons_succ, List.setIfInBounds_toArray, List.set_cons_zero, List.set_cons_succ]
  refine kr_find 3 rfl (by kernel_rfl) (by kernel_rfl) (by kernel_rfl) (fun _ _ _ _ h => h) (by rfl) trivial ?_
  apply Exists.intro; apply And.intro
  · intro w' hS K hK
    clear hS
    go_light
    go_simp
    exact hK.out
  try simp only [Act.put, List.getElem_toArray, List.getElem_cons_zero, List.getElem_cons_succ, List.setIfInBounds_toArray, List.set_cons_zero, List.set_cons_succ]
  refine kr_find 4 rfl (by kernel_rfl) (by kernel_rfl) (by kernel_rfl) (fun _ _ _ _ h => h) (by rfl) trivial ?_
  apply Exists.intro; apply And.intro
  · intro w' hS K hK
    clear hS
    go_light
    go_simp
    exact hK.out
  try simp only [Act.put, List.getElem_toArray, List.getElem_cons_zero, List.getElem_cons_succ, List.setIfInBounds_toArray, List.set_cons_zero, List.set_cons_succ]
  refine kr_take 5 rfl (by kernel_rfl) (by kernel_rfl) (by kernel_rfl) (fun _ _ _ h => h) (yieldsIf_load_mid (by rfl) 29 _ rfl (g) (6) rfl ([.int .u8 ip.a, .int .u8 ip.b, .int .u8 ip.c, .int .u8 ip.d]) _ (fun _ h => h) Try.underlying29 rfl (by kernel_rfl)) (show _ from RIP.out) ?_
  try simp only [Act.put, List.getElem_toArray, List.getElem_cons_zero, List.getElem_cons_succ, List.setIfInBounds_toArray, List.set_cons_zero, List.set_cons_succ]
  refine kr_take 6 rfl (by kernel_rfl) (by kernel_rfl) (by kernel_rfl) (fun _ _ _ h => h) (kr_bin_agg (by rfl) .eql 29 29 _ _ rfl rfl rfl (by kernel_rfl) _ HEQ.out) trivial ?_
  try simp only [Act.put, List.getElem_toArray, List.getElem_cons_zero, List.getElem_cons_succ, List.setIfInBounds_toArray, List.set_cons_zero, List.set_cons_succ]
  refine kr_find 7 rfl (by kernel_rfl) (by kernel_rfl) (by kernel_rfl) (fun _ _ _ _ h => h) (by rfl) trivial ?_
  apply Exists.intro; apply And.intro
  · intro w' hS K hK
    clear hS
    go_light
    go_simp
    exact hK.out
  try simp only [Act.put, List.getElem_toArray, List.getElem_cons_zero, List.getElem_cons_succ, List.setIfInBounds_toArray, List.set_cons_zero, List.set_cons_succ]
  refine kr_find 8 rfl (by kernel_rfl) (by kernel_rfl) (by kernel_rfl) (fun _ _ _ _ h => h) (by rfl) trivial ?_
  apply Exists.intro; apply And.intro
  · intro w' hS K hK
    clear hS
    go_light
    go_simp
    exact hK.out
  try simp only [Act.put, List.getElem_toArray, List.getElem_cons_zero, List.getElem_cons_succ, List.setIfInBounds_toArray, List.set_cons_zero, List.set_cons_succ]
  refine kr_take 9 rfl (by kernel_rfl) (by kernel_rfl) (by kernel_rfl) (fun _ _ _ h => h) (yieldsIf_load_mid (by rfl) 29 _ rfl (ba) (7) rfl ([.int .u8 a.si.a, .int .u8 a.si.b, .int .u8 a.si.c, .int .u8 a.si.d]) _ (fun _ h => h) Try.underlying29 rfl (by kernel_rfl)) (show _ from RSI.out) ?_
  try simp only [Act.put, List.getElem_toArray, List.getElem_cons_zero, List.getElem_cons_succ, List.setIfInBounds_toArray, List.set_cons_zero, List.set_cons_succ]
  refine kr_find 10 rfl (by kernel_rfl) (by kernel_rfl) (by kernel_rfl) (fun _ _ _ _ h => h) (by rfl) trivial ?_
  apply Exists.intro; apply And.intro
  · intro w' hS K hK
    clear hS
    go_light
    go_simp
    exact hK.out
  try simp only [Act.put, List.getElem_toArray, List.getElem_cons_zero, List.getElem_cons_succ, List.setIfInBounds_toArray, List.set_cons_zero, List.set_cons_succ]
  refine kr_take 11 rfl (by kernel_rfl) (by kernel_rfl) (by kernel_rfl) (fun _ _ _ h => h) (kr_bin_agg (by rfl) .eql 29 29 _ _ rfl rfl rfl (by kernel_rfl) _ HEZ.out) trivial ?_
  try simp only [Act.put, List.getElem_toArray, List.getElem_cons_zero, List.getElem_cons_succ, List.setIfInBounds_toArray, List.set_cons_zero, List.set_cons_succ]
  refine kr_find 12 rfl (by kernel_rfl) (by kernel_rfl) (by kernel_rfl) (fun _ _ _ _ h => h) (by rfl) trivial ?_
  apply Exists.intro; apply And.intro
  · intro w' hS K hK
    clear hS
    go_light
    go_simp
    exact hK.out
  try simp only [Act.put, List.getElem_toArray, List.getElem_cons_zero, List.getElem_cons_succ, List.setIfInBounds_toArray, List.set_cons_zero, List.set_cons_succ]
  refine kr_done (by kernel_rfl) ?_ _
  have Z2d := Lib.hid (show w2.drew.heap.size = w.heap.size + 2 from HS2.out.2.2)
  generalize w2.drew = wd at Fd HCd BAd BMd RSI RIP Z2d ⊢
  go_upto_region 5 with (fail)
  obtain ⟨h1, h2, h3⟩ := one_new wd #[.int .u8 0, .int .u8 0, .int .u8 0, .int .u8 0, .int .u8 0, .int .u8 0] 27
  generalize wd.alloc (.cells #[.int .u8 0, .int .u8 0, .int .u8 0, .int .u8 0, .int .u8 0, .int .u8 0] 27) = w4 at h1 h2 h3 ⊢
  obtain ⟨bt, h4⟩ : ∃ k, wd.heap.size = k := ⟨_, rfl⟩
  rw [h4] at h1 ⊢
  have F4d := Lib.hid (Fd.out.then' (h2.then' (Fr.refl _ w4).drew))
  have BT5 := Lib.hid (show w4.drew.heap[bt]? = some (.cells #[.int .u8 0, .int .u8 0, .int .u8 0, .int .u8 0, .int .u8 0, .int .u8 0] 27) from h1)
  have ZT := Lib.hid (show bt = w.heap.size + 2 from by have := Z2d.out; omega)
  have BA5 := Lib.hid (show w4.drew.heap[ba]? = some (.cells a.cells.toArray 33) from (h2.block ba (lt_of_block BAd.out) (fun e => e)).trans BAd.out)
  have BM5 := Lib.hid (show w4.drew.heap[bm]? = some (.cells #[.int .u8 0, .int .u8 0, .int .u8 0, .int .u8 0, .int .u8 0, .int .u8 0] 27) from (h2.block bm (lt_of_block BMd.out) (fun e => e)).trans BMd.out)
  have HC5 := Lib.hid (HC.out.fr F4d.out)
  have RDI := Lib.hid (rq_ba BA5.out).2.2.1
  have RIP5 := Lib.hid (HC.out.ipR F4d.out)
  clear h1 h2 h3 h4
  have HED := Lib.hid (fun w : World => show (binOp .eql 29 (.agg #[.int .u8 a.di.a, .int .u8 a.di.b, .int .u8 a.di.c, .int .u8 a.di.d]) (.agg #[.int .u8 ip.a, .int .u8 ip.b, .int .u8 ip.c, .int .u8 ip.d])).run Try.prog w = .ok (.bool true) w from (eql29 HA.out.di HC.out.iok w).trans (by simp [HDI.out]))
  refine kr_start [(1, fun W => W.rangeAt ba 17 [.int .u8 a.di.a, .int .u8 a.di.b, .int .u8 a.di.c, .int .u8 a.di.d]), (5, fun W => W.rangeAt g 6 [.int .u8 ip.a, .int .u8 ip.b, .int .u8 ip.c, .int .u8 ip.d])] (by kernel_rfl) (by kernel_rfl) ?_
  generalize w4.drew = w5 at F4d BT5 BA5 BM5 HC5 RDI RIP5 ⊢
  refine kr_find 0 rfl (by kernel_rfl) (by kernel_rfl) (by kernel_rfl) (fun _ _ _ _ h => h) (by rfl) trivial ?_
  apply Exists.intro; apply And.intro
  · intro w' hS K hK
    clear hS
    go_light
    go_simp
    exact hK.out
  try simp only [Act.put, List.getElem_toArray, List.getElem_cons_zero, List.getElem_cons_succ, List.setIfInBounds_toArray, List.set_cons_zero, List.set_cons_succ]
  refine kr_take 1 rfl (by kernel_rfl) (by kernel_rfl) (by kernel_rfl) (fun _ _ _ h => h) (yieldsIf_load_mid (by rfl) 29 _ rfl (ba) (17) rfl ([.int .u8 a.di.a, .int .u8 a.di.b, .int .u8 a.di.c, .int .u8 a.di.d]) _ (fun _ h => h) Try.underlying29 rfl (by kernel_rfl)) (show _ from RDI.out) ?_
  try simp only [Act.put, List.getElem_toArray, List.getElem_cons_zero, List.getElem_cons_succ, List.setIfInBounds_toArray, List.set_cons_zero, List.set_cons_succ]
  refine kr_find 2 rfl (by kernel_rfl) (by kernel_rfl) (by kernel_rfl) (fun _ _ _ _ h => h) (by rfl) trivial ?_
  apply Exists.intro; apply And.intro
  · intro w' hS K hK
    clear hS
    go_light
    go_simp
    exact hK.out
  try simp only [Act.put, List.getElem_toArray, List.getElem_cons_zero, List.getElem_cons_succ, List.setIfInBounds_toArray, List.set_cons_zero, List.set_cons_succ]
  refine kr_find 3 rfl (by kernel_rfl) (by kernel_rfl) (by kernel_rfl) (fun _ _ _ _ h => h) (by rfl) trivial ?_
  apply Exists.intro; apply And.intro
  · intro w' hS K hK
    clear hS
    go_light
    go_simp
    exact hK.out
  try simp only [Act.put, List.getElem_toArray, List.getElem_cons_zero, List.getElem_cons_succ, List.setIfInBounds_toArray, List.set_cons_zero, List.set_cons_succ]
  refine kr_find 4 rfl (by kernel_rfl) (by kernel_rfl) (by kernel_rfl) (fun _ _ _ _ h => h) (by rfl) trivial ?_
  apply Exists.intro; apply And.intro
  · intro w' hS K hK
    clear hS
    go_light
    go_simp
    exact hK.out
  try simp only [Act.put, List.getElem_toArray, List.getElem_cons_zero, List.getElem_cons_succ, List.setIfInBounds_toArray, List.set_cons_zero, List.set_cons_succ]
  refine kr_take 5 rfl (by kernel_rfl) (by kernel_rfl) (by kernel_rfl) (fun _ _ _ h => h) (yieldsIf_load_mid (by rfl) 29 _ rfl (g) (6) rfl ([.int .u8 ip.a, .int .u8 ip.b, .int .u8 ip.c, .int .u8 ip.d]) _ (fun _ h => h) Try.underlying29 rfl (by kernel_rfl)) (show _ from RIP5.out) ?_
  try simp only [Act.put, List.getElem_toArray, List.getElem_cons_zero, List.getElem_cons_succ, List.setIfInBounds_toArray, List.set_cons_zero, List.set_cons_succ]
  refine kr_take 6 rfl (by kernel_rfl) (by kernel_rfl) (by kernel_rfl) (fun _ _ _ h => h) (kr_bin_agg (by rfl) .eql 29 29 _ _ rfl rfl rfl (by kernel_rfl) _ HED.out) trivial ?_
  try simp only [Act.put, List.getElem_toArray, List.getElem_cons_zero, List.getElem_cons_succ, List.setIfInBounds_toArray, List.set_cons_zero, List.set_cons_succ]
  refine kr_find 7 rfl (by kernel_rfl) (by kernel_rfl) (by kernel_rfl) (fun _ _ _ _ h => h) (by rfl) trivial ?_
  apply Exists.intro; apply And.intro
  · intro w' hS K hK
    clear hS
    go_light
    go_simp
    exact hK.out
  try simp only [Act.put, List.getElem_toArray, List.getElem_cons_zero, List.getElem_cons_succ, List.setIfInBounds_toArray, List.set_cons_zero, List.set_cons_succ]
  refine kr_done (by kernel_rfl) ?_ _
  have RS5 := Lib.hid (rq_ba BA5.out).2.1
  have HLT := Lib.hid (fun (k : Nat) (h : Own g lv L k) => (HC.out.lt h).2)
  obtain ⟨fv, hfv⟩ : ∃ v, fptV L a.si = v := ⟨_, rfl⟩
  have HFV := Lib.hid hfv
  go_upto_region 6 with (fail)
  iterate 60 (first
    | (have := MK1; clear this)
    | (refine wpList_load_mid rfl 29 _ rfl ba 7 rfl [.int .u8 a.si.a, .int .u8 a.si.b, .int .u8 a.si.c, .int .u8 a.si.d] _ RS5.out Try.underlying29 rfl (by kernel_rfl) ?_)
    | (go_at_call 38; refine (find38 a.si HA.out.si w5 HC5.out).mono ?_; rw [HFV.out]; rintro en w6 ⟨rfl, hf⟩; have F6 := Lib.hid hf; clear hf; dsimp only; have MK1 := Lib.hid True.intro)
    | go_step)
  clear hfv
  have F06 := Lib.hid (F4d.out.then' F6.out)
  have HC6 := Lib.hid (HC.out.fr F06.out)
  have BA6 := Lib.hid ((F6.out.block ba (lt_of_block BA5.out) (fun e => e)).trans BA5.out)
  have BM6 := Lib.hid ((F6.out.block bm (lt_of_block BM5.out) (fun e => e)).trans BM5.out)
  have BT6 := Lib.hid ((F6.out.block bt (lt_of_block BT5.out) (fun e => e)).trans BT5.out)
  have Z6 := Lib.hid (show w.heap.size + 3 ≤ w6.heap.size from by have h1 := lt_of_block BT6.out; have h2 := ZT.out; omega)
  obtain ⟨fp, hfp⟩ : ∃ fp, fv = .pointer fp := by
    rw [← HFV.out]; unfold fptV; cases fpt L a.si <;> exact ⟨_, rfl⟩
  subst hfp
  go_upto_if 39 with (fail)
  go_cut [9] (fun v9 wc => ∃ (toM : M6) (L' : List En) (lv' : Value) (A : Option Addr) (n c : Nat), v9 = .slice A n c ∧ HMid N g mac ip L lv a now w L' lv' (.slice A n c) toM wc ∧ wc.heap[ba]? = some (.cells a.cells.toArray 33) ∧ wc.heap[bm]? = some (.cells M6.zero.cells.toArray 27) ∧ wc.heap[bt]? = some (.cells toM.cells.toArray 27) ∧ w6.heap.size ≤ wc.heap.size)
  case first =>
    cases hq : fpt L a.si with
    | some e =>
      obtain rfl : fp = some ⟨e.p, 0, none⟩ := by
        have h := HFV.out; unfold fptV at h; rw [hq] at h; injection h with h; exact h.symm
      obtain ⟨i, hi, hip⟩ := fpt_at hq
      have HI := Lib.hid hi
      have HQ := Lib.hid hq
      clear hi hip hq
      have HE6 := Lib.hid (HC6.out.ent e (List.mem_of_getElem? HI.out))
      obtain ⟨m, hm⟩ : ∃ m, e.nb.pend.length = m := ⟨_, rfl⟩
      have HM := Lib.hid hm
      have SP6 := Lib.hid (show Sl N 3 1 w6 e.pv m (il e.nb.pend) from by have h := HE6.out.sl; rw [hm] at h; exact h)
      clear hm
      obtain ⟨A, cap, hpv, _, _⟩ := SP6.out.form
      have HPV := Lib.hid hpv
      have c14 : w6.cell? ⟨e.p, 14, none⟩ = some (.slice A m cap) := by have h := HE6.out.cell (j := 14) (v := e.pv) rfl; rw [hpv] at h; exact h
      clear hpv
      have NEE := Lib.hid (show e.p < w.heap.size ∧ ∀ k, e.pv.ownBlock = some k → k < w.heap.size ∧ k ≠ e.p from ⟨HLT.out e.p (.inr (.inr ⟨e, List.mem_of_getElem? HI.out, .inl rfl⟩)), fun k hk => ⟨HLT.out k (.inr (.inr ⟨e, List.mem_of_getElem? HI.out, .inr hk⟩)), fun e1 => HC6.out.vp (List.mem_of_getElem? HI.out) (List.mem_of_getElem? HI.out) (e1 ▸ hk)⟩⟩)
      by_cases hm0 : m = 0
      · subst hm0
        as_aux_lemma =>
        go_upto_region 11 with (fail)
        clear c14
        have F67 := Lib.hid (Fr.refl (fun b => b = bt) w6)
        have BT7 := Lib.hid (show w6.heap[bt]? = some (.cells (M6.cells M6.zero).toArray 27) from BT6.out)
        obtain ⟨w7, hw7⟩ : ∃ y, y = w6 := ⟨_, rfl⟩
        rw [← hw7] at F67 BT7 ⊢
        have F67' := Lib.hid (show Fr (fun b => b = bt) w6 w7 from by rw [hw7]; exact Fr.refl _ _)
        clear F67 hw7
        obtain ⟨toM, htm⟩ : ∃ t, M6.zero = t := ⟨_, rfl⟩
        rw [htm] at BT7
        have HTM := Lib.hid (show (if e.nb.pend = [] then M6.zero else a.sm) = toM from by rw [if_pos (List.eq_nil_of_length_eq_zero HM.out)]; exact htm)
        clear htm
        have BA7 := Lib.hid ((F67'.out.block ba (lt_of_block BA6.out) (fun e1 => by have h1 := HS2.out; have h2 := ZT.out; have e1 : ba = bt := e1; omega)).trans BA6.out)
        have BM7 := Lib.hid ((F67'.out.block bm (lt_of_block BM6.out) (fun e1 => by have h1 := HS2.out; have h2 := ZT.out; have e1 : bm = bt := e1; omega)).trans BM6.out)
        have BE7 := Lib.hid ((F67'.out.block e.p (lt_of_block HE6.out.blk) (fun e1 => by have h1 := NEE.out.1; have h2 := ZT.out; have e1 : e.p = bt := e1; omega)).trans HE6.out.blk)
        have RSM7 := Lib.hid (rq_ba BA7.out).1
        have THE := Lib.hid (show w7.there e.p (0 + 5) 6 from fun j hj => by
          have := there_at w7 e.p _ 46 BE7.out (5 + j) (by show 5 + j < 15; omega)
          simpa using this)
        iterate 90 (first
          | (have := MK5; clear this)
          | (refine wpList_load_mid rfl 27 _ rfl ba 1 rfl [.int .u8 a.sm.a, .int .u8 a.sm.b, .int .u8 a.sm.c, .int .u8 a.sm.d, .int .u8 a.sm.e, .int .u8 a.sm.f] _ RSM7.out Try.underlying27 rfl (by kernel_rfl) ?_)
          | (refine wpList_store_mid rfl 27 _ _ rfl e.p 5 a.sm.cells.toArray rfl rfl THE.out (by kernel_rfl) (by simp [M6.cells, Value.oneCell']) ?_; have MK5 := Lib.hid True.intro)
          | go_step)
        change wpList Try.prog _ _ _ _ (w7.setCells e.p 5 a.sm.cells)
        have F78 := Lib.hid (Fr.setCells (S := fun b => b = e.p) e.p (fun _ => rfl) a.sm.cells 5 w7 (Fr.refl _ w7))
        have BE8 := Lib.hid (show (w7.setCells e.p 5 a.sm.cells).heap[e.p]? = some (.cells (En.cells ⟨e.p, e.pv, { e.nb with mac := a.sm }⟩).toArray 46) from heap_setCells_same a.sm.cells e.cells w7 e.p 5 46 BE7.out)
        generalize w7.setCells e.p 5 a.sm.cells = w8 at F78 BE8 ⊢
        have Ba8 := Lib.hid BE8.out
        have Fa8 := Lib.hid (Fr.refl (fun b => b = e.p) w8)
        clear BE8
        have Bw8 := Ba8
        have Fw8 := Fa8
        iterate 60 (first
          | (have := MK9; clear this)
          | (refine wpList_store_one rfl 3 _ _ rfl e.p 4 (.int .i64 2) rfl rfl rfl rfl (there_one Bw8.out rfl (by decide : 4 < 15)) (by kernel_rfl) ?_; have Bwa := Lib.hid (show (w8.setCell ⟨e.p, 4, none⟩ (.int .i64 2)).heap[e.p]? = some (.cells (En.cells ⟨e.p, e.pv, ⟨e.nb.ip, 2, a.sm, e.nb.since, e.nb.asked, e.nb.tries, e.nb.pend⟩⟩).toArray 46) from by rw [heap_setCell_same w8 e.p 4 _ 46 _ Bw8.out]; rfl); have Fwa := Lib.hid (Fw8.out.setCell ⟨e.p, 4, none⟩ (.int .i64 2) (fun _ => rfl)); generalize w8.setCell ⟨e.p, 4, none⟩ (.int .i64 2) = wa at Bwa Fwa ⊢)
          | (refine wpList_store_one rfl 3 _ _ rfl e.p 11 (.int .i64 now) rfl rfl rfl rfl (there_one Bwa.out rfl (by decide : 11 < 15)) (by kernel_rfl) ?_; have Bwb := Lib.hid (show (wa.setCell ⟨e.p, 11, none⟩ (.int .i64 now)).heap[e.p]? = some (.cells (En.cells ⟨e.p, e.pv, ⟨e.nb.ip, 2, a.sm, now, e.nb.asked, e.nb.tries, e.nb.pend⟩⟩).toArray 46) from by rw [heap_setCell_same wa e.p 11 _ 46 _ Bwa.out]; rfl); have Fwb := Lib.hid (Fwa.out.setCell ⟨e.p, 11, none⟩ (.int .i64 now) (fun _ => rfl)); generalize wa.setCell ⟨e.p, 11, none⟩ (.int .i64 now) = wb at Bwb Fwb ⊢)
          | (refine wpList_store_one rfl 3 _ _ rfl e.p 13 (.int .i64 0) rfl rfl rfl rfl (there_one Bwb.out rfl (by decide : 13 < 15)) (by kernel_rfl) ?_; have Bwc2 := Lib.hid (show (wb.setCell ⟨e.p, 13, none⟩ (.int .i64 0)).heap[e.p]? = some (.cells (En.cells ⟨e.p, e.pv, ⟨e.nb.ip, 2, a.sm, now, e.nb.asked, 0, e.nb.pend⟩⟩).toArray 46) from by rw [heap_setCell_same wb e.p 13 _ 46 _ Bwb.out]; rfl); have Fwc2 := Lib.hid (Fwb.out.setCell ⟨e.p, 13, none⟩ (.int .i64 0) (fun _ => rfl)); generalize wb.setCell ⟨e.p, 13, none⟩ (.int .i64 0) = wc2 at Bwc2 Fwc2 ⊢)
          | (refine wpList_store_one rfl 37 _ _ rfl e.p 14 (.slice none 0 0) rfl rfl rfl rfl (there_one Bwc2.out rfl (by decide : 14 < 15)) (by kernel_rfl) ?_; have Bw9 := Lib.hid (show (wc2.setCell ⟨e.p, 14, none⟩ (.slice none 0 0)).heap[e.p]? = some (.cells (En.cells ⟨e.p, .slice none 0 0, heardNb e.nb a.sm now⟩).toArray 46) from by rw [heap_setCell_same wc2 e.p 14 _ 46 _ Bwc2.out]; rfl); have Fw9 := Lib.hid (Fwc2.out.setCell ⟨e.p, 14, none⟩ (.slice none 0 0) (fun _ => rfl)); generalize wc2.setCell ⟨e.p, 14, none⟩ (.slice none 0 0) = w9 at Bw9 Fw9 ⊢; have MK9 := Lib.hid True.intro)
          | go_step)
        go_wp2_with fail
        go_meet
        have F89 := Fw9.out
        have BE9 := Bw9.out
        have F69 : Fr (fun b => b = bt ∨ b = e.p) w6 w9 := (F67'.out.mono (fun b _ h => .inl h)).trans (F78.out.trans F89 (fun b _ h => h)) (fun b _ h => .inr h)
        have hbt : w.heap.size ≤ bt := by have := ZT.out; omega
        have hC7 : CAt N w7 g mac ip L lv := HC6.out.frS F67'.out (fun k hk h => by have h1 := HLT.out k hk; have h : k = bt := h; omega)
        have hs9 : Sl N 3 1 w9 e.pv 0 (il e.nb.pend) := SP6.out.fr F69 (fun k hk h => by
          rcases h with h | h
          · have := (NEE.out.2 k hk).1; omega
          · exact (NEE.out.2 k hk).2 h)
        have hC9 : CAt N w9 g mac ip (L.set i ⟨e.p, .slice none 0 0, heardNb e.nb a.sm now⟩) lv := hC7.set ⟨e.p, .slice none 0 0, heardNb e.nb a.sm now⟩ HI.out rfl rfl ⟨BE9, Sl.nil _ _ _ _, HE6.out.hp, heardNb_ok HE6.out.ok HA.out.sm HNW.out.1⟩ (fun k hk => by cases hk) ((F78.out.trans F89 (fun b _ h => h)).mono (fun b _ h => .inl h))
        refine ⟨toM, _, lv, A, 0, cap, rfl, ⟨hC9, .inl ⟨i, e, HI.out, HQ.out, rfl, rfl, HPV.out.symm, HTM.out.symm, by rw [HM.out, ← HPV.out]; exact hs9⟩, ?_⟩, ?_, ?_, ?_, F69.size⟩
        · exact F06.out.upto.trans F69 (fun b hb h => by
            rcases h with h | h
            · omega
            · exact .inr (.inr ⟨e, List.mem_of_getElem? HI.out, .inl h⟩))
        · exact (F69.block ba (lt_of_block BA6.out) (fun h => by have h1 := HS2.out; have h2 := NEE.out.1; have h3 := ZT.out; omega)).trans BA6.out
        · exact (F69.block bm (lt_of_block BM6.out) (fun h => by have h1 := HS2.out; have h2 := NEE.out.1; have h3 := ZT.out; omega)).trans BM6.out
        · exact ((F78.out.trans F89 (fun b _ h => h)).block bt (lt_of_block BT7.out) (fun h => by have h2 := NEE.out.1; have h : bt = e.p := h; omega)).trans BT7.out
      · have hm1 : 0 < m := by omega
        have hm2 : (0 : Int) < (m : Int) := by omega
        as_aux_lemma =>
        have HTM := Lib.hid (show (if e.nb.pend = [] then M6.zero else a.sm) = a.sm from by rw [if_neg (fun h => by have := HM.out; rw [h] at this; simp at this; omega)])
        have RSM := Lib.hid (rq_ba BA6.out).1
        have THT := Lib.hid (there_at w6 bt M6.zero.cells 27 BT6.out)
        go_upto_region 10 with (fail)
        clear c14 hm0
        iterate 60 (first
          | (have := MK3; clear this)
          | (refine wpList_load_mid rfl 27 _ rfl ba 1 rfl [.int .u8 a.sm.a, .int .u8 a.sm.b, .int .u8 a.sm.c, .int .u8 a.sm.d, .int .u8 a.sm.e, .int .u8 a.sm.f] _ RSM.out Try.underlying27 rfl (by kernel_rfl) ?_)
          | (refine wpList_store_mid rfl 27 _ _ rfl bt 0 a.sm.cells.toArray rfl rfl THT.out (by kernel_rfl) (by simp [M6.cells, Value.oneCell']) ?_; have MK3 := Lib.hid True.intro)
          | go_step)
        change wpList Try.prog _ _ _ _ (w6.setCells bt 0 a.sm.cells)
        have F67' := Lib.hid (Fr.setCells (S := fun b => b = bt) bt (fun _ => rfl) a.sm.cells 0 w6 (Fr.refl _ w6))
        have BT7 := Lib.hid (show (w6.setCells bt 0 a.sm.cells).heap[bt]? = some (.cells a.sm.cells.toArray 27) from by
          have h := heap_setCells_same a.sm.cells M6.zero.cells w6 bt 0 27 BT6.out
          exact h)
        generalize w6.setCells bt 0 a.sm.cells = w7 at F67' BT7 ⊢
        obtain ⟨toM, htm⟩ : ∃ t, a.sm = t := ⟨_, rfl⟩
        rw [htm] at BT7
        have HTM := Lib.hid (show (if e.nb.pend = [] then M6.zero else a.sm) = toM from by rw [HTM.out]; exact htm)
        clear htm hm1 hm2
        go_upto_region 11 with (fail)
        have BA7 := Lib.hid ((F67'.out.block ba (lt_of_block BA6.out) (fun e1 => by have h1 := HS2.out; have h2 := ZT.out; have e1 : ba = bt := e1; omega)).trans BA6.out)
        have BM7 := Lib.hid ((F67'.out.block bm (lt_of_block BM6.out) (fun e1 => by have h1 := HS2.out; have h2 := ZT.out; have e1 : bm = bt := e1; omega)).trans BM6.out)
        have BE7 := Lib.hid ((F67'.out.block e.p (lt_of_block HE6.out.blk) (fun e1 => by have h1 := NEE.out.1; have h2 := ZT.out; have e1 : e.p = bt := e1; omega)).trans HE6.out.blk)
        have RSM7 := Lib.hid (rq_ba BA7.out).1
        have THE := Lib.hid (show w7.there e.p (0 + 5) 6 from fun j hj => by
          have := there_at w7 e.p _ 46 BE7.out (5 + j) (by show 5 + j < 15; omega)
          simpa using this)
        iterate 90 (first
          | (have := MK5; clear this)
          | (refine wpList_load_mid rfl 27 _ rfl ba 1 rfl [.int .u8 a.sm.a, .int .u8 a.sm.b, .int .u8 a.sm.c, .int .u8 a.sm.d, .int .u8 a.sm.e, .int .u8 a.sm.f] _ RSM7.out Try.underlying27 rfl (by kernel_rfl) ?_)
          | (refine wpList_store_mid rfl 27 _ _ rfl e.p 5 a.sm.cells.toArray rfl rfl THE.out (by kernel_rfl) (by simp [M6.cells, Value.oneCell']) ?_; have MK5 := Lib.hid True.intro)
          | go_step)
        change wpList Try.prog _ _ _ _ (w7.setCells e.p 5 a.sm.cells)
        have F78 := Lib.hid (Fr.setCells (S := fun b => b = e.p) e.p (fun _ => rfl) a.sm.cells 5 w7 (Fr.refl _ w7))
        have BE8 := Lib.hid (show (w7.setCells e.p 5 a.sm.cells).heap[e.p]? = some (.cells (En.cells ⟨e.p, e.pv, { e.nb with mac := a.sm }⟩).toArray 46) from heap_setCells_same a.sm.cells e.cells w7 e.p 5 46 BE7.out)
        generalize w7.setCells e.p 5 a.sm.cells = w8 at F78 BE8 ⊢
        have Ba8 := Lib.hid BE8.out
        have Fa8 := Lib.hid (Fr.refl (fun b => b = e.p) w8)
        clear BE8
        have Bw8 := Ba8
        have Fw8 := Fa8
        iterate 60 (first
          | (have := MK9; clear this)
          | (refine wpList_store_one rfl 3 _ _ rfl e.p 4 (.int .i64 2) rfl rfl rfl rfl (there_one Bw8.out rfl (by decide : 4 < 15)) (by kernel_rfl) ?_; have Bwa := Lib.hid (show (w8.setCell ⟨e.p, 4, none⟩ (.int .i64 2)).heap[e.p]? = some (.cells (En.cells ⟨e.p, e.pv, ⟨e.nb.ip, 2, a.sm, e.nb.since, e.nb.asked, e.nb.tries, e.nb.pend⟩⟩).toArray 46) from by rw [heap_setCell_same w8 e.p 4 _ 46 _ Bw8.out]; rfl); have Fwa := Lib.hid (Fw8.out.setCell ⟨e.p, 4, none⟩ (.int .i64 2) (fun _ => rfl)); generalize w8.setCell ⟨e.p, 4, none⟩ (.int .i64 2) = wa at Bwa Fwa ⊢)
          | (refine wpList_store_one rfl 3 _ _ rfl e.p 11 (.int .i64 now) rfl rfl rfl rfl (there_one Bwa.out rfl (by decide : 11 < 15)) (by kernel_rfl) ?_; have Bwb := Lib.hid (show (wa.setCell ⟨e.p, 11, none⟩ (.int .i64 now)).heap[e.p]? = some (.cells (En.cells ⟨e.p, e.pv, ⟨e.nb.ip, 2, a.sm, now, e.nb.asked, e.nb.tries, e.nb.pend⟩⟩).toArray 46) from by rw [heap_setCell_same wa e.p 11 _ 46 _ Bwa.out]; rfl); have Fwb := Lib.hid (Fwa.out.setCell ⟨e.p, 11, none⟩ (.int .i64 now) (fun _ => rfl)); generalize wa.setCell ⟨e.p, 11, none⟩ (.int .i64 now) = wb at Bwb Fwb ⊢)
          | (refine wpList_store_one rfl 3 _ _ rfl e.p 13 (.int .i64 0) rfl rfl rfl rfl (there_one Bwb.out rfl (by decide : 13 < 15)) (by kernel_rfl) ?_; have Bwc2 := Lib.hid (show (wb.setCell ⟨e.p, 13, none⟩ (.int .i64 0)).heap[e.p]? = some (.cells (En.cells ⟨e.p, e.pv, ⟨e.nb.ip, 2, a.sm, now, e.nb.asked, 0, e.nb.pend⟩⟩).toArray 46) from by rw [heap_setCell_same wb e.p 13 _ 46 _ Bwb.out]; rfl); have Fwc2 := Lib.hid (Fwb.out.setCell ⟨e.p, 13, none⟩ (.int .i64 0) (fun _ => rfl)); generalize wb.setCell ⟨e.p, 13, none⟩ (.int .i64 0) = wc2 at Bwc2 Fwc2 ⊢)
          | (refine wpList_store_one rfl 37 _ _ rfl e.p 14 (.slice none 0 0) rfl rfl rfl rfl (there_one Bwc2.out rfl (by decide : 14 < 15)) (by kernel_rfl) ?_; have Bw9 := Lib.hid (show (wc2.setCell ⟨e.p, 14, none⟩ (.slice none 0 0)).heap[e.p]? = some (.cells (En.cells ⟨e.p, .slice none 0 0, heardNb e.nb a.sm now⟩).toArray 46) from by rw [heap_setCell_same wc2 e.p 14 _ 46 _ Bwc2.out]; rfl); have Fw9 := Lib.hid (Fwc2.out.setCell ⟨e.p, 14, none⟩ (.slice none 0 0) (fun _ => rfl)); generalize wc2.setCell ⟨e.p, 14, none⟩ (.slice none 0 0) = w9 at Bw9 Fw9 ⊢; have MK9 := Lib.hid True.intro)
          | go_step)
        go_wp2_with fail
        go_meet
        have F89 := Fw9.out
        have BE9 := Bw9.out
        have F69 : Fr (fun b => b = bt ∨ b = e.p) w6 w9 := (F67'.out.mono (fun b _ h => .inl h)).trans (F78.out.trans F89 (fun b _ h => h)) (fun b _ h => .inr h)
        have hbt : w.heap.size ≤ bt := by have := ZT.out; omega
        have hC7 : CAt N w7 g mac ip L lv := HC6.out.frS F67'.out (fun k hk h => by have h1 := HLT.out k hk; have h : k = bt := h; omega)
        have hs9 : Sl N 3 1 w9 e.pv m (il e.nb.pend) := SP6.out.fr F69 (fun k hk h => by
          rcases h with h | h
          · have := (NEE.out.2 k hk).1; omega
          · exact (NEE.out.2 k hk).2 h)
        have hC9 : CAt N w9 g mac ip (L.set i ⟨e.p, .slice none 0 0, heardNb e.nb a.sm now⟩) lv := hC7.set ⟨e.p, .slice none 0 0, heardNb e.nb a.sm now⟩ HI.out rfl rfl ⟨BE9, Sl.nil _ _ _ _, HE6.out.hp, heardNb_ok HE6.out.ok HA.out.sm HNW.out.1⟩ (fun k hk => by cases hk) ((F78.out.trans F89 (fun b _ h => h)).mono (fun b _ h => .inl h))
        refine ⟨toM, _, lv, A, m, cap, rfl, ⟨hC9, .inl ⟨i, e, HI.out, HQ.out, rfl, rfl, HPV.out.symm, HTM.out.symm, by rw [HM.out, ← HPV.out]; exact hs9⟩, ?_⟩, ?_, ?_, ?_, F69.size⟩
        · exact F06.out.upto.trans F69 (fun b hb h => by
            rcases h with h | h
            · omega
            · exact .inr (.inr ⟨e, List.mem_of_getElem? HI.out, .inl h⟩))
        · exact (F69.block ba (lt_of_block BA6.out) (fun h => by have h1 := HS2.out; have h2 := NEE.out.1; have h3 := ZT.out; omega)).trans BA6.out
        · exact (F69.block bm (lt_of_block BM6.out) (fun h => by have h1 := HS2.out; have h2 := NEE.out.1; have h3 := ZT.out; omega)).trans BM6.out
        · exact ((F78.out.trans F89 (fun b _ h => h)).block bt (lt_of_block BT7.out) (fun h => by have h2 := NEE.out.1; have h : bt = e.p := h; omega)).trans BT7.out
    | none =>
      obtain rfl : fp = none := by
        have h := HFV.out; unfold fptV at h; rw [hq] at h; injection h with h; exact h.symm
      have HQ := Lib.hid hq
      have HF := Lib.hid (fpt_none_all hq)
      clear hq
      obtain ⟨n, hn⟩ : ∃ n, L.length = n := ⟨_, rfl⟩
      have HL := Lib.hid hn
      obtain ⟨A, cap, hlv, _, _⟩ := HC6.out.sl.form
      rw [hn] at hlv
      have HLV := Lib.hid hlv
      have hn8 : n ≤ 8 := by rw [← hn]; exact HC6.out.len
      have ck := HC6.out.cell (j := 10) rfl
      rw [hlv] at ck
      clear hn hlv
      by_cases hlt : n < 8
      · have hltI : (n : Int) < 8 := by omega
        as_aux_lemma =>
        have Fk := Lib.hid (F06.out.then' (Fr.refl _ w6).drew)
        have F6k := Lib.hid ((Fr.refl (fun _ => False) w6).drew)
        have CLd := Lib.hid (show w6.drew.cell? ⟨g, 10, none⟩ = some (.slice A n cap) from ck)
        have RSId := Lib.hid (show w6.drew.rangeAt ba 7 [.int .u8 a.si.a, .int .u8 a.si.b, .int .u8 a.si.c, .int .u8 a.si.d] from (rq_ba (show w6.drew.heap[ba]? = some (.cells a.cells.toArray 33) from BA6.out)).2.1)
        have RSMd := Lib.hid (show w6.drew.rangeAt ba 1 [.int .u8 a.sm.a, .int .u8 a.sm.b, .int .u8 a.sm.c, .int .u8 a.sm.d, .int .u8 a.sm.e, .int .u8 a.sm.f] from (rq_ba (show w6.drew.heap[ba]? = some (.cells a.cells.toArray 33) from BA6.out)).1)
        go_upto_region 13 with (fail)
        clear ck
        refine kr_start [(4, fun W => W.cell? ⟨g, 10, none⟩ = some (.slice A n cap)), (6, fun W => W.rangeAt ba 7 [.int .u8 a.si.a, .int .u8 a.si.b, .int .u8 a.si.c, .int .u8 a.si.d]), (8, fun W => W.rangeAt ba 1 [.int .u8 a.sm.a, .int .u8 a.sm.b, .int .u8 a.sm.c, .int .u8 a.sm.d, .int .u8 a.sm.e, .int .u8 a.sm.f])] (by kernel_rfl) (by kernel_rfl) ?_
        generalize w6.drew = wk at Fk CLd RSId RSMd F6k ⊢
        refine kr_find 0 rfl (by kernel_rfl) (by kernel_rfl) (by kernel_rfl) (fun _ _ _ _ h => h) (by rfl) trivial ?_
        apply Exists.intro; apply And.intro
        · intro w' hS K hK
          clear hS
          go_light
          go_simp
          exact hK.out
        try simp only [Act.put, List.getElem_toArray, List.getElem_cons_zero, List.getElem_cons_succ, List.setIfInBounds_toArray, List.set_cons_zero, List.set_cons_succ]
        refine kr_find 1 rfl (by kernel_rfl) (by kernel_rfl) (by kernel_rfl) (fun _ _ _ _ h => h) (by rfl) trivial ?_
        apply Exists.intro; apply And.intro
        · intro w' hS K hK
          clear hS
          go_light
          go_simp
          exact hK.out
        try simp only [Act.put, List.getElem_toArray, List.getElem_cons_zero, List.getElem_cons_succ, List.setIfInBounds_toArray, List.set_cons_zero, List.set_cons_succ]
        refine kr_find 2 rfl (by kernel_rfl) (by kernel_rfl) (by kernel_rfl) (fun _ _ _ _ h => h) (by rfl) trivial ?_
        apply Exists.intro; apply And.intro
        · intro w' hS K hK
          clear hS
          go_light
          go_simp
          exact hK.out
        try simp only [Act.put, List.getElem_toArray, List.getElem_cons_zero, List.getElem_cons_succ, List.setIfInBounds_toArray, List.set_cons_zero, List.set_cons_succ]
        refine kr_find 3 rfl (by kernel_rfl) (by kernel_rfl) (by kernel_rfl) (fun _ _ _ _ h => h) (by rfl) trivial ?_
        apply Exists.intro; apply And.intro
        · intro w' hS K hK
          clear hS
          go_light
          go_simp
          exact hK.out
        try simp only [Act.put, List.getElem_toArray, List.getElem_cons_zero, List.getElem_cons_succ, List.setIfInBounds_toArray, List.set_cons_zero, List.set_cons_succ]
        refine kr_find 4 rfl (by kernel_rfl) (by kernel_rfl) (by kernel_rfl) (fun _ _ _ _ h => h) (by rfl) (show _ from CLd.out) ?_
        apply Exists.intro; apply And.intro
        · intro w' hS K hK
          have hS : w'.cell? ⟨g, 10, none⟩ = some (.slice A n cap) := hS
          go_light
          go_simp
          exact hK.out
        try simp only [Act.put, List.getElem_toArray, List.getElem_cons_zero, List.getElem_cons_succ, List.setIfInBounds_toArray, List.set_cons_zero, List.set_cons_succ]
        refine kr_find 5 rfl (by kernel_rfl) (by kernel_rfl) (by kernel_rfl) (fun _ _ _ _ h => h) (by rfl) trivial ?_
        apply Exists.intro; apply And.intro
        · intro w' hS K hK
          clear hS
          go_light
          go_simp
          exact hK.out
        try simp only [Act.put, List.getElem_toArray, List.getElem_cons_zero, List.getElem_cons_succ, List.setIfInBounds_toArray, List.set_cons_zero, List.set_cons_succ]
        refine kr_take 6 rfl (by kernel_rfl) (by kernel_rfl) (by kernel_rfl) (fun _ _ _ h => h) (yieldsIf_load_mid (by rfl) 29 _ rfl (ba) (7) rfl ([.int .u8 a.si.a, .int .u8 a.si.b, .int .u8 a.si.c, .int .u8 a.si.d]) _ (fun _ h => h) Try.underlying29 rfl (by kernel_rfl)) (show _ from RSId.out) ?_
        try simp only [Act.put, List.getElem_toArray, List.getElem_cons_zero, List.getElem_cons_succ, List.setIfInBounds_toArray, List.set_cons_zero, List.set_cons_succ]
        refine kr_find 7 rfl (by kernel_rfl) (by kernel_rfl) (by kernel_rfl) (fun _ _ _ _ h => h) (by rfl) trivial ?_
        apply Exists.intro; apply And.intro
        · intro w' hS K hK
          clear hS
          go_light
          go_simp
          exact hK.out
        try simp only [Act.put, List.getElem_toArray, List.getElem_cons_zero, List.getElem_cons_succ, List.setIfInBounds_toArray, List.set_cons_zero, List.set_cons_succ]
        refine kr_take 8 rfl (by kernel_rfl) (by kernel_rfl) (by kernel_rfl) (fun _ _ _ h => h) (yieldsIf_load_mid (by rfl) 27 _ rfl (ba) (1) rfl ([.int .u8 a.sm.a, .int .u8 a.sm.b, .int .u8 a.sm.c, .int .u8 a.sm.d, .int .u8 a.sm.e, .int .u8 a.sm.f]) _ (fun _ h => h) Try.underlying27 rfl (by kernel_rfl)) (show _ from RSMd.out) ?_
        try simp only [Act.put, List.getElem_toArray, List.getElem_cons_zero, List.getElem_cons_succ, List.setIfInBounds_toArray, List.set_cons_zero, List.set_cons_succ]
        refine kr_find 9 rfl (by kernel_rfl) (by kernel_rfl) (by kernel_rfl) (fun _ _ _ _ h => h) (by rfl) trivial ?_
        apply Exists.intro; apply And.intro
        · intro w' hS K hK
          clear hS
          go_light
          go_simp
          exact hK.out
        try simp only [Act.put, List.getElem_toArray, List.getElem_cons_zero, List.getElem_cons_succ, List.setIfInBounds_toArray, List.set_cons_zero, List.set_cons_succ]
        refine kr_find 10 rfl (by kernel_rfl) (by kernel_rfl) (by kernel_rfl) (fun _ _ _ _ h => h) (by rfl) trivial ?_
        apply Exists.intro; apply And.intro
        · intro w' hS K hK
          clear hS
          go_light
          go_simp
          exact hK.out
        try simp only [Act.put, List.getElem_toArray, List.getElem_cons_zero, List.getElem_cons_succ, List.setIfInBounds_toArray, List.set_cons_zero, List.set_cons_succ]
        refine kr_take 11 rfl (by kernel_rfl) (by kernel_rfl) (by kernel_rfl) (fun _ _ _ h => h) (kr_build bd46 rfl rfl [(0, .agg #[.int .u8 a.si.a, .int .u8 a.si.b, .int .u8 a.si.c, .int .u8 a.si.d]), (1, .int .i64 2), (2, .agg #[.int .u8 a.sm.a, .int .u8 a.sm.b, .int .u8 a.sm.c, .int .u8 a.sm.d, .int .u8 a.sm.e, .int .u8 a.sm.f]), (3, .int .i64 now), (4, .int .i64 now)] (by rfl) #[.int .u8 a.si.a, .int .u8 a.si.b, .int .u8 a.si.c, .int .u8 a.si.d, .int .i64 2, .int .u8 a.sm.a, .int .u8 a.sm.b, .int .u8 a.sm.c, .int .u8 a.sm.d, .int .u8 a.sm.e, .int .u8 a.sm.f, .int .i64 now, .int .i64 now, .int .i64 0, .slice none 0 0] (fill46 _ _ _ _ _ _ _ _ _ _ _)) trivial ?_
        try simp only [Act.put, List.getElem_toArray, List.getElem_cons_zero, List.getElem_cons_succ, List.setIfInBounds_toArray, List.set_cons_zero, List.set_cons_succ]
        refine kr_one 12 (by kernel_rfl) rfl (by rfl) (fun K hK => ?_)
        go_simp
        obtain ⟨h1, h2, h3⟩ := one_new wk #[.int .u8 a.si.a, .int .u8 a.si.b, .int .u8 a.si.c, .int .u8 a.si.d, .int .i64 2, .int .u8 a.sm.a, .int .u8 a.sm.b, .int .u8 a.sm.c, .int .u8 a.sm.d, .int .u8 a.sm.e, .int .u8 a.sm.f, .int .i64 now, .int .i64 now, .int .i64 0, .slice none 0 0] 46
        generalize wk.alloc (.cells #[.int .u8 a.si.a, .int .u8 a.si.b, .int .u8 a.si.c, .int .u8 a.si.d, .int .i64 2, .int .u8 a.sm.a, .int .u8 a.sm.b, .int .u8 a.sm.c, .int .u8 a.sm.d, .int .u8 a.sm.e, .int .u8 a.sm.f, .int .i64 now, .int .i64 now, .int .i64 0, .slice none 0 0] 46) = w11 at h1 h2 h3 ⊢
        obtain ⟨b11, h4⟩ : ∃ k, wk.heap.size = k := ⟨_, rfl⟩
        have Z11 := Lib.hid (show b11 = wk.heap.size ∧ w11.heap.size = b11 + 1 from by omega)
        rw [h4] at h1 ⊢
        have B11 := Lib.hid h1
        have G11 := Lib.hid h2
        clear h1 h2 h3 h4
        have F11 := Lib.hid (Fk.out.then' G11.out)
        have CL11 := Lib.hid (show w11.cell? ⟨g, 10, none⟩ = some (.slice A n cap) from by have h := (HC.out.fr F11.out).cell (j := 10) rfl; rw [HLV.out] at h; exact h)
        refine hK.out _ _ ⟨.inr CL11.out, .inl (by kernel_rfl), .inl (by kernel_rfl), trivial⟩ ?_
        clear hK K
        try simp only [Act.put, List.getElem_toArray, List.getElem_cons_zero, List.getElem_cons_succ, List.setIfInBounds_toArray, List.set_cons_zero, List.set_cons_succ]
        refine kr_one 13 (by kernel_rfl) rfl (by rfl) (fun K hK => ?_)
        go_simp
        obtain ⟨h1, h2, h3⟩ := one_new w11 #[.pointer (some ⟨b11, 0, none⟩)] 93
        generalize w11.alloc (.cells #[.pointer (some ⟨b11, 0, none⟩)] 93) = w12 at h1 h2 h3 ⊢
        obtain ⟨b12, h4⟩ : ∃ k, w11.heap.size = k := ⟨_, rfl⟩
        have Z12 := Lib.hid (show b12 = w11.heap.size ∧ w12.heap.size = b12 + 1 from by omega)
        rw [h4] at h1 ⊢
        have B12 := Lib.hid h1
        have G12 := Lib.hid h2
        clear h1 h2 h3 h4
        have F12 := Lib.hid (F11.out.then' G12.out)
        have CL12 := Lib.hid (show w12.cell? ⟨g, 10, none⟩ = some (.slice A n cap) from by have h := (HC.out.fr F12.out).cell (j := 10) rfl; rw [HLV.out] at h; exact h)
        have HC12 := Lib.hid (HC.out.fr F12.out)
        refine hK.out _ _ ⟨.inr CL12.out, .inl (by kernel_rfl), .inl (by kernel_rfl), trivial⟩ ?_
        clear hK K
        try simp only [Act.put, List.getElem_toArray, List.getElem_cons_zero, List.getElem_cons_succ, List.setIfInBounds_toArray, List.set_cons_zero, List.set_cons_succ]
        refine kr_one 14 (by kernel_rfl) rfl (by rfl) (fun K hK => ?_)
        refine wp_append_sl _ _ rfl st90 (.slice A n cap) n (pts L) rfl (by have h := HC12.out.sl; rw [HL.out, HLV.out] at h; exact h) _ 1 [ptr b11] rfl (Src.ofSlice (w := w12) Try.underlying90 ⟨b12, 0, none⟩ 1 1 _ rfl (fun j u hj => by rw [Addr.add_mid]; exact range_at w12 b12 [ptr b11] 93 B12.out j u hj) (by simp [ptr, Value.oneCell'])) (by simp only [maxLen]; omega) (by omega) (Nat.le_trans HNW.out.2 F12.out.size) ?_
        intro v13 w13 sl13 gr13 ob13 nil13
        obtain ⟨A13, cp13, hv13, hn13, hm13⟩ := sl13.form
        subst hv13
        have S13 := Lib.hid sl13
        have G13 := Lib.hid gr13
        clear sl13 gr13 ob13 nil13 hn13 hm13
        refine hK.out _ _ ⟨.inl (by kernel_rfl), .inl (by kernel_rfl), .inl (by kernel_rfl), trivial⟩ ?_
        clear hK K
        try simp only [Act.put, List.getElem_toArray, List.getElem_cons_zero, List.getElem_cons_succ, List.setIfInBounds_toArray, List.set_cons_zero, List.set_cons_succ]
        refine kr_find 15 rfl (by kernel_rfl) (by kernel_rfl) (by kernel_rfl) (fun _ _ _ _ h => h) (by rfl) trivial ?_
        apply Exists.intro; apply And.intro
        · intro w' hS K hK
          clear hS
          go_light
          go_simp
          exact hK.out
        try simp only [Act.put, List.getElem_toArray, List.getElem_cons_zero, List.getElem_cons_succ, List.setIfInBounds_toArray, List.set_cons_zero, List.set_cons_succ]
        refine kr_find 16 rfl (by kernel_rfl) (by kernel_rfl) (by kernel_rfl) (fun _ _ _ _ h => h) (by rfl) trivial ?_
        apply Exists.intro; apply And.intro
        · intro w' hS K hK
          clear hS
          go_light
          go_simp
          exact hK.out
        try simp only [Act.put, List.getElem_toArray, List.getElem_cons_zero, List.getElem_cons_succ, List.setIfInBounds_toArray, List.set_cons_zero, List.set_cons_succ]
        refine kr_one 17 (by kernel_rfl) rfl (by rfl) (fun K hK => ?_)
        have hb13 := (G13.out.block g (lt_of_block HC12.out.blk) (fun e => by have := HC12.out.lg; rw [HLV.out] at this; exact this e.symm)).trans HC12.out.blk
        refine wp_store_one 90 _ _ rfl g 10 (.slice A13 (n + 1) cp13) rfl rfl rfl rfl (there_one hb13 rfl (by decide : 10 < 11)) (by kernel_rfl) ?_
        clear hb13
        refine hK.out _ _ ⟨.inl (by kernel_rfl), .inl (by kernel_rfl), .inl (by kernel_rfl), trivial⟩ ?_
        clear hK K
        try simp only [Act.put, List.getElem_toArray, List.getElem_cons_zero, List.getElem_cons_succ, List.setIfInBounds_toArray, List.set_cons_zero, List.set_cons_succ]
        refine kr_done (by kernel_rfl) ?_ _
        have HZ := Lib.hid (show w.heap.size ≤ b11 ∧ b11 < w12.heap.size from by
          have h2 := Z11.out; have h3 := Z12.out; have h4 := Fk.out.size; omega)
        have HE13 := Lib.hid (show EnAt N w13 ⟨b11, .slice none 0 0, newK a.si a.sm now⟩ from by
          have hz := HZ.out
          refine ⟨?_, Sl.nil _ _ _ _, Nat.le_trans HNW.out.2 hz.1, newK_ok HA.out.si HA.out.sm HNW.out.1⟩
          refine (G13.out.block b11 hz.2 (fun e => ?_)).trans ((G12.out.block b11 (lt_of_block B11.out) (fun e => e)).trans B11.out)
          have := HLT.out b11 (.inr (.inl (by rw [HLV.out]; exact e.symm))); omega)
        have HC14 := Lib.hid (HC12.out.snoc ⟨b11, .slice none 0 0, newK a.si a.sm now⟩ HE13.out (by have h := S13.out; rw [← HL.out] at h; exact h) (by have h := G13.out; rw [← HLV.out] at h; exact h) (by rw [HL.out]; exact hlt)
          (fun b hb e => by have h1 := HLT.out b.p (.inr (.inr ⟨b, hb, .inl rfl⟩)); have h2 := HZ.out; have e : b.p = b11 := e; omega)
          (fun b hb k hk e => by cases e)
          (fun b hb => HF.out b hb) (fun e => by have h1 := HLT.out g (.inl rfl); have h2 := HZ.out; have e : b11 = g := e; omega))
        rw [HL.out] at HC14
        have FX := Lib.hid (show Fr (fun i => i = g ∨ lv.ownBlock = some i) w6 (w13.setCell ⟨g, 10, none⟩ (.slice A13 (n + 1) cp13)) from
          (((((F6k.out.then' G11.out).then' G12.out).upto).grown G13.out (fun r e _ => .inr (by rw [HLV.out]; exact e)) : Fr (fun i => i = g ∨ lv.ownBlock = some i) w6 w13)).setCell _ _ (fun _ => .inl rfl))
        generalize w13.setCell ⟨g, 10, none⟩ (.slice A13 (n + 1) cp13) = w14 at HC14 FX ⊢
        have HNB := Lib.hid (show ∀ k, w.heap.size ≤ k → ¬ (k = g ∨ lv.ownBlock = some k) from fun k hk h => by
          rcases h with h | h
          · have := HLT.out g (.inl rfl); omega
          · have := HLT.out k (.inr (.inl h)); omega)
        go_wp2_with fail
        go_meet
        refine ⟨M6.zero, _, .slice A13 (n + 1) cp13, none, 0, 0, rfl, ⟨HC14.out, .inr (.inl ⟨HQ.out, by rw [HL.out]; exact hlt, ⟨b11, rfl, HZ.out.1⟩, rfl, rfl⟩), ?_⟩, ?_, ?_, ?_, FX.out.size⟩
        · exact F06.out.upto.trans FX.out (fun b _ h => h.elim .inl (fun h => .inr (.inl h)))
        · exact (FX.out.block ba (lt_of_block BA6.out) (HNB.out ba (by have := HS2.out; omega))).trans BA6.out
        · exact (FX.out.block bm (lt_of_block BM6.out) (HNB.out bm (by have := HS2.out; omega))).trans BM6.out
        · exact (FX.out.block bt (lt_of_block BT6.out) (HNB.out bt (by have := ZT.out; omega))).trans BT6.out
      · have hltI : ¬ (n : Int) < 8 := by omega
        as_aux_lemma =>
        go_wp2_with fail
        go_meet
        refine ⟨M6.zero, L, lv, none, 0, 0, rfl, ⟨HC6.out, .inr (.inr ⟨HQ.out, by rw [HL.out]; omega, rfl, rfl, rfl, rfl⟩), F06.out.upto⟩, BA6.out, BM6.out, BT6.out, Nat.le_refl _⟩
  case rest =>
    obtain ⟨toM, L', lv', A, n, c, rfl, hm, hba, hbm, hbt, hsz⟩ := hcut
    have HM := Lib.hid hm
    have HBA := Lib.hid hba
    have HBM := Lib.hid hbm
    have HBT := Lib.hid hbt
    have HSZ := Lib.hid hsz
    clear hm hba hbm hbt hsz
    have c0 := (rq_ba HBA.out).2.2.2
    obtain ⟨av, hav⟩ : ∃ b, a.ans = b := ⟨_, rfl⟩
    have HAV := Lib.hid hav
    rw [hav] at c0
    clear hav
    obtain ⟨w7, hw7⟩ : ∃ y, y = wc := ⟨_, rfl⟩
    subst hw7
    have HBAL := Lib.hid (show ∀ k, w.heap.size ≤ k → (∃ c t, w7.heap[k]? = some (.cells c t) ∧ t ≠ 92 ∧ t ≠ 93 ∧ t ≠ 46 ∧ t ≠ 3) → ¬ Own g lv' L' k from fun k _ ⟨c, t, h1, h2, h3, h4, h5⟩ => HM.out.at'.tag h1 h2 h3 h4 h5)
    cases av
    · as_aux_lemma =>
      go_upto_region 16 with (fail)
      clear c0
      have RT := Lib.hid (show w7.drew.rangeAt bt 0 [.int .u8 toM.a, .int .u8 toM.b, .int .u8 toM.c, .int .u8 toM.d, .int .u8 toM.e, .int .u8 toM.f] from range_at w7.drew bt toM.cells 27 HBT.out)
      have BTd2 := Lib.hid (show w7.drew.heap[bt]? = some (.cells toM.cells.toArray 27) from HBT.out)
      have F7d := Lib.hid ((Fr.refl (fun _ => False) w7).drew)
      have RGM := Lib.hid (HM.out.at'.macR F7d.out)
      have RGI := Lib.hid (HM.out.at'.ipR F7d.out)
      have RSM8 := Lib.hid (show w7.drew.rangeAt ba 1 [.int .u8 a.sm.a, .int .u8 a.sm.b, .int .u8 a.sm.c, .int .u8 a.sm.d, .int .u8 a.sm.e, .int .u8 a.sm.f] from (rq_ba (show w7.drew.heap[ba]? = some (.cells a.cells.toArray 33) from HBA.out)).1)
      have RSI8 := Lib.hid (show w7.drew.rangeAt ba 7 [.int .u8 a.si.a, .int .u8 a.si.b, .int .u8 a.si.c, .int .u8 a.si.d] from (rq_ba (show w7.drew.heap[ba]? = some (.cells a.cells.toArray 33) from HBA.out)).2.1)
      have BMd2 := Lib.hid (show w7.drew.heap[bm]? = some (.cells M6.zero.cells.toArray 27) from HBM.out)
      refine kr_start [(3, fun W => W.rangeAt g 0 [.int .u8 mac.a, .int .u8 mac.b, .int .u8 mac.c, .int .u8 mac.d, .int .u8 mac.e, .int .u8 mac.f]), (7, fun W => W.rangeAt g 6 [.int .u8 ip.a, .int .u8 ip.b, .int .u8 ip.c, .int .u8 ip.d]), (9, fun W => W.rangeAt ba 1 [.int .u8 a.sm.a, .int .u8 a.sm.b, .int .u8 a.sm.c, .int .u8 a.sm.d, .int .u8 a.sm.e, .int .u8 a.sm.f]), (11, fun W => W.rangeAt ba 7 [.int .u8 a.si.a, .int .u8 a.si.b, .int .u8 a.si.c, .int .u8 a.si.d]), (15, fun W => W.rangeAt bt 0 [.int .u8 toM.a, .int .u8 toM.b, .int .u8 toM.c, .int .u8 toM.d, .int .u8 toM.e, .int .u8 toM.f])] (by kernel_rfl) (by kernel_rfl) ?_
      generalize w7.drew = w8 at RT BTd2 F7d RGM RGI RSM8 RSI8 BMd2 ⊢
      refine kr_find 0 rfl (by kernel_rfl) (by kernel_rfl) (by kernel_rfl) (fun _ _ _ _ h => h) (by rfl) trivial ?_
      apply Exists.intro; apply And.intro
      · intro w' hS K hK
        clear hS
        go_light
        go_simp
        exact hK.out
      try simp only [Act.put, List.getElem_toArray, List.getElem_cons_zero, List.getElem_cons_succ, List.setIfInBounds_toArray, List.set_cons_zero, List.set_cons_succ]
      refine kr_find 1 rfl (by kernel_rfl) (by kernel_rfl) (by kernel_rfl) (fun _ _ _ _ h => h) (by rfl) trivial ?_
      apply Exists.intro; apply And.intro
      · intro w' hS K hK
        clear hS
        go_light
        go_simp
        exact hK.out
      try simp only [Act.put, List.getElem_toArray, List.getElem_cons_zero, List.getElem_cons_succ, List.setIfInBounds_toArray, List.set_cons_zero, List.set_cons_succ]
      refine kr_find 2 rfl (by kernel_rfl) (by kernel_rfl) (by kernel_rfl) (fun _ _ _ _ h => h) (by rfl) trivial ?_
      apply Exists.intro; apply And.intro
      · intro w' hS K hK
        clear hS
        go_light
        go_simp
        exact hK.out
      try simp only [Act.put, List.getElem_toArray, List.getElem_cons_zero, List.getElem_cons_succ, List.setIfInBounds_toArray, List.set_cons_zero, List.set_cons_succ]
      refine kr_take 3 rfl (by kernel_rfl) (by kernel_rfl) (by kernel_rfl) (fun _ _ _ h => h) (yieldsIf_load_mid (by rfl) 27 _ rfl (g) (0) rfl ([.int .u8 mac.a, .int .u8 mac.b, .int .u8 mac.c, .int .u8 mac.d, .int .u8 mac.e, .int .u8 mac.f]) _ (fun _ h => h) Try.underlying27 rfl (by kernel_rfl)) (show _ from RGM.out) ?_
      try simp only [Act.put, List.getElem_toArray, List.getElem_cons_zero, List.getElem_cons_succ, List.setIfInBounds_toArray, List.set_cons_zero, List.set_cons_succ]
      refine kr_find 4 rfl (by kernel_rfl) (by kernel_rfl) (by kernel_rfl) (fun _ _ _ _ h => h) (by rfl) trivial ?_
      apply Exists.intro; apply And.intro
      · intro w' hS K hK
        clear hS
        go_light
        go_simp
        exact hK.out
      try simp only [Act.put, List.getElem_toArray, List.getElem_cons_zero, List.getElem_cons_succ, List.setIfInBounds_toArray, List.set_cons_zero, List.set_cons_succ]
      refine kr_find 5 rfl (by kernel_rfl) (by kernel_rfl) (by kernel_rfl) (fun _ _ _ _ h => h) (by rfl) trivial ?_
      apply Exists.intro; apply And.intro
      · intro w' hS K hK
        clear hS
        go_light
        go_simp
        exact hK.out
      try simp only [Act.put, List.getElem_toArray, List.getElem_cons_zero, List.getElem_cons_succ, List.setIfInBounds_toArray, List.set_cons_zero, List.set_cons_succ]
      refine kr_find 6 rfl (by kernel_rfl) (by kernel_rfl) (by kernel_rfl) (fun _ _ _ _ h => h) (by rfl) trivial ?_
      apply Exists.intro; apply And.intro
      · intro w' hS K hK
        clear hS
        go_light
        go_simp
        exact hK.out
      try simp only [Act.put, List.getElem_toArray, List.getElem_cons_zero, List.getElem_cons_succ, List.setIfInBounds_toArray, List.set_cons_zero, List.set_cons_succ]
      refine kr_take 7 rfl (by kernel_rfl) (by kernel_rfl) (by kernel_rfl) (fun _ _ _ h => h) (yieldsIf_load_mid (by rfl) 29 _ rfl (g) (6) rfl ([.int .u8 ip.a, .int .u8 ip.b, .int .u8 ip.c, .int .u8 ip.d]) _ (fun _ h => h) Try.underlying29 rfl (by kernel_rfl)) (show _ from RGI.out) ?_
      try simp only [Act.put, List.getElem_toArray, List.getElem_cons_zero, List.getElem_cons_succ, List.setIfInBounds_toArray, List.set_cons_zero, List.set_cons_succ]
      refine kr_find 8 rfl (by kernel_rfl) (by kernel_rfl) (by kernel_rfl) (fun _ _ _ _ h => h) (by rfl) trivial ?_
      apply Exists.intro; apply And.intro
      · intro w' hS K hK
        clear hS
        go_light
        go_simp
        exact hK.out
      try simp only [Act.put, List.getElem_toArray, List.getElem_cons_zero, List.getElem_cons_succ, List.setIfInBounds_toArray, List.set_cons_zero, List.set_cons_succ]
      refine kr_take 9 rfl (by kernel_rfl) (by kernel_rfl) (by kernel_rfl) (fun _ _ _ h => h) (yieldsIf_load_mid (by rfl) 27 _ rfl (ba) (1) rfl ([.int .u8 a.sm.a, .int .u8 a.sm.b, .int .u8 a.sm.c, .int .u8 a.sm.d, .int .u8 a.sm.e, .int .u8 a.sm.f]) _ (fun _ h => h) Try.underlying27 rfl (by kernel_rfl)) (show _ from RSM8.out) ?_
      try simp only [Act.put, List.getElem_toArray, List.getElem_cons_zero, List.getElem_cons_succ, List.setIfInBounds_toArray, List.set_cons_zero, List.set_cons_succ]
      refine kr_find 10 rfl (by kernel_rfl) (by kernel_rfl) (by kernel_rfl) (fun _ _ _ _ h => h) (by rfl) trivial ?_
      apply Exists.intro; apply And.intro
      · intro w' hS K hK
        clear hS
        go_light
        go_simp
        exact hK.out
      try simp only [Act.put, List.getElem_toArray, List.getElem_cons_zero, List.getElem_cons_succ, List.setIfInBounds_toArray, List.set_cons_zero, List.set_cons_succ]
      refine kr_take 11 rfl (by kernel_rfl) (by kernel_rfl) (by kernel_rfl) (fun _ _ _ h => h) (yieldsIf_load_mid (by rfl) 29 _ rfl (ba) (7) rfl ([.int .u8 a.si.a, .int .u8 a.si.b, .int .u8 a.si.c, .int .u8 a.si.d]) _ (fun _ h => h) Try.underlying29 rfl (by kernel_rfl)) (show _ from RSI8.out) ?_
      try simp only [Act.put, List.getElem_toArray, List.getElem_cons_zero, List.getElem_cons_succ, List.setIfInBounds_toArray, List.set_cons_zero, List.set_cons_succ]
      refine kr_take 12 rfl (by kernel_rfl) (by kernel_rfl) (by kernel_rfl) (fun _ _ _ h => h) (kr_build bd33 rfl rfl [(0, .bool true), (1, .agg #[.int .u8 mac.a, .int .u8 mac.b, .int .u8 mac.c, .int .u8 mac.d, .int .u8 mac.e, .int .u8 mac.f]), (2, .agg #[.int .u8 ip.a, .int .u8 ip.b, .int .u8 ip.c, .int .u8 ip.d]), (3, .agg #[.int .u8 a.sm.a, .int .u8 a.sm.b, .int .u8 a.sm.c, .int .u8 a.sm.d, .int .u8 a.sm.e, .int .u8 a.sm.f]), (4, .agg #[.int .u8 a.si.a, .int .u8 a.si.b, .int .u8 a.si.c, .int .u8 a.si.d])] (by rfl) (ansCells mac ip a).toArray (fill33 _ _ _ _ _ _ _ _ _ _ _ _ _ _ _ _ _ _ _ _)) trivial ?_
      try simp only [Act.put, List.getElem_toArray, List.getElem_cons_zero, List.getElem_cons_succ, List.setIfInBounds_toArray, List.set_cons_zero, List.set_cons_succ]
      refine kr_find 14 rfl (by kernel_rfl) (by kernel_rfl) (by kernel_rfl) (fun _ _ _ _ h => h) (by rfl) trivial ?_
      apply Exists.intro; apply And.intro
      · intro w' hS K hK
        clear hS
        go_light
        go_simp
        exact hK.out
      try simp only [Act.put, List.getElem_toArray, List.getElem_cons_zero, List.getElem_cons_succ, List.setIfInBounds_toArray, List.set_cons_zero, List.set_cons_succ]
      refine kr_take 15 rfl (by kernel_rfl) (by kernel_rfl) (by kernel_rfl) (fun _ _ _ h => h) (yieldsIf_load_mid (by rfl) 27 _ rfl (bt) (0) rfl ([.int .u8 toM.a, .int .u8 toM.b, .int .u8 toM.c, .int .u8 toM.d, .int .u8 toM.e, .int .u8 toM.f]) _ (fun _ h => h) Try.underlying27 rfl (by kernel_rfl)) (show _ from RT.out) ?_
      try simp only [Act.put, List.getElem_toArray, List.getElem_cons_zero, List.getElem_cons_succ, List.setIfInBounds_toArray, List.set_cons_zero, List.set_cons_succ]
      refine kr_one 13 (by kernel_rfl) rfl (by rfl) (fun K hK => ?_)
      refine wp_buildSlice1 st36 rfl (by decide) (ansCells mac ip a).toArray rfl rfl ?_
      obtain ⟨h1, h2, h3⟩ := one_new w8 (ansCells mac ip a).toArray 33
      generalize w8.alloc (.cells (ansCells mac ip a).toArray 33) = w9 at h1 h2 h3 ⊢
      obtain ⟨b9, h4⟩ : ∃ k, w8.heap.size = k := ⟨_, rfl⟩
      have Z9 := Lib.hid (show b9 = w8.heap.size ∧ w9.heap.size = b9 + 1 from by omega)
      rw [h4] at h1 ⊢
      have B9 := Lib.hid h1
      have G9 := Lib.hid h2
      clear h1 h2 h3 h4
      have BM9 := Lib.hid ((G9.out.block bm (lt_of_block BMd2.out) (fun e => e)).trans BMd2.out)
      have RT9 := Lib.hid (range_at w9 bt toM.cells 27 ((G9.out.block bt (lt_of_block BTd2.out) (fun e => e)).trans BTd2.out))
      have THM := Lib.hid (there_at w9 bm M6.zero.cells 27 BM9.out)
      refine hK.out _ _ ⟨.inl (by kernel_rfl), .inl (by kernel_rfl), .inl (by kernel_rfl), .inl (by kernel_rfl), .inr RT9.out, trivial⟩ ?_
      clear hK K
      try simp only [Act.put, List.getElem_toArray, List.getElem_cons_zero, List.getElem_cons_succ, List.setIfInBounds_toArray, List.set_cons_zero, List.set_cons_succ]
      refine kr_find 16 rfl (by kernel_rfl) (by kernel_rfl) (by kernel_rfl) (fun _ _ _ _ h => h) (by rfl) trivial ?_
      apply Exists.intro; apply And.intro
      · intro w' hS K hK
        clear hS
        go_light
        go_simp
        exact hK.out
      try simp only [Act.put, List.getElem_toArray, List.getElem_cons_zero, List.getElem_cons_succ, List.setIfInBounds_toArray, List.set_cons_zero, List.set_cons_succ]
      refine kr_find 17 rfl (by kernel_rfl) (by kernel_rfl) (by kernel_rfl) (fun _ _ _ _ h => h) (by rfl) trivial ?_
      apply Exists.intro; apply And.intro
      · intro w' hS K hK
        clear hS
        go_light
        go_simp
        exact hK.out
      try simp only [Act.put, List.getElem_toArray, List.getElem_cons_zero, List.getElem_cons_succ, List.setIfInBounds_toArray, List.set_cons_zero, List.set_cons_succ]
      refine kr_one 18 (by kernel_rfl) rfl (by rfl) (fun K hK => ?_)
      refine wp_store_mid 27 _ _ rfl bm 0 toM.cells.toArray rfl rfl THM.out (by kernel_rfl) (by simp [M6.cells, Value.oneCell']) ?_
      refine hK.out _ _ ⟨.inl (by kernel_rfl), .inl (by kernel_rfl), .inl (by kernel_rfl), .inl (by kernel_rfl), .inl (by kernel_rfl), trivial⟩ ?_
      clear hK K
      try simp only [Act.put, List.getElem_toArray, List.getElem_cons_zero, List.getElem_cons_succ, List.setIfInBounds_toArray, List.set_cons_zero, List.set_cons_succ]
      refine kr_done (by kernel_rfl) ?_ _
      have RS := Lib.hid (fun (tmps : Array Value) hp => results_cell15 tmps (w9.setCells bm 0 toM.cells) bm _ hp (run_loadVar_mid _ bm 0 27 toM.cells _ (World.rangeAt_setCells_same w9 bm 0 toM.cells THM.out) Try.underlying27 rfl (by kernel_rfl)))
      have FM := Lib.hid (Fr.setCells (S := fun i => i = bm) bm (fun _ => rfl) toM.cells 0 w9 (Fr.refl _ w9))
      have SO := Lib.hid (show Sl w.heap.size 33 21 (w9.setCells bm 0 toM.cells) (.slice (some ⟨b9, 0, none⟩) 1 1) 1 (ansCells mac ip a) from by
        have h : Sl w.heap.size 33 21 w9 (.slice (some ⟨b9, 0, none⟩) 1 1) 1 (ansCells mac ip a) := ⟨rfl, .inr ⟨b9, 0, 1, (ansCells mac ip a).toArray, rfl, by have h1 := Z9.out; have h2 := HSZ.out; have h3 := Z6.out; have h4 := F7d.out.size; omega, B9.out, Nat.le_refl _, by simp only [maxLen]; omega, by show 0 + 1 * 21 ≤ 21; omega, rfl⟩⟩
        refine h.fr FM.out (fun k hk e => ?_)
        cases hk
        have e : b9 = bm := e
        have h1 := B9.out
        rw [e, BM9.out] at h1
        exact absurd (tag_ne h1) (by decide))
      generalize w9.setCells bm 0 toM.cells = w10 at FM RS SO ⊢
      go_wp2_with fail
      refine bodyPost_ret (RS.out _ rfl) rfl ⟨.slice (some ⟨b9, 0, none⟩) 1 1, _, toM, L', lv', rfl, ?_, fun h => absurd (HAV.out.symm.trans h) (by decide), fun _ => SO.out⟩
      refine (HM.out.fr0 (F7d.out.then' G9.out)).frS FM.out (fun i hi e => (HM.out.fr0 (F7d.out.then' G9.out)).at'.tag BM9.out (by decide) (by decide) (by decide) (by decide) (e ▸ hi)) (fun k hk e => ?_) (fun i hi e => by have h1 := HS2.out; have e : i = bm := e; omega)
      obtain ⟨cs, h⟩ := (HM.out.fr0 (F7d.out.then' G9.out)).vm hk
      have e : k = bm := e
      rw [e, BM9.out] at h
      exact absurd (tag_ne h) (by decide)
    · as_aux_lemma =>
      have RT := Lib.hid (show w7.drew.rangeAt bt 0 [.int .u8 toM.a, .int .u8 toM.b, .int .u8 toM.c, .int .u8 toM.d, .int .u8 toM.e, .int .u8 toM.f] from range_at w7.drew bt toM.cells 27 HBT.out)
      have F7d := Lib.hid ((Fr.refl (fun _ => False) w7).drew)
      have THM := Lib.hid (there_at w7.drew bm M6.zero.cells 27 HBM.out)
      have BMd2 := Lib.hid (show w7.drew.heap[bm]? = some (.cells M6.zero.cells.toArray 27) from HBM.out)
      go_upto_region 15 with (fail)
      clear c0
      refine kr_start [(1, fun W => W.rangeAt bt 0 [.int .u8 toM.a, .int .u8 toM.b, .int .u8 toM.c, .int .u8 toM.d, .int .u8 toM.e, .int .u8 toM.f])] (by kernel_rfl) (by kernel_rfl) ?_
      generalize w7.drew = w8 at RT F7d THM BMd2 ⊢
      refine kr_find 0 rfl (by kernel_rfl) (by kernel_rfl) (by kernel_rfl) (fun _ _ _ _ h => h) (by rfl) trivial ?_
      apply Exists.intro; apply And.intro
      · intro w' hS K hK
        clear hS
        go_light
        go_simp
        exact hK.out
      try simp only [Act.put, List.getElem_toArray, List.getElem_cons_zero, List.getElem_cons_succ, List.setIfInBounds_toArray, List.set_cons_zero, List.set_cons_succ]
      refine kr_take 1 rfl (by kernel_rfl) (by kernel_rfl) (by kernel_rfl) (fun _ _ _ h => h) (yieldsIf_load_mid (by rfl) 27 _ rfl (bt) (0) rfl ([.int .u8 toM.a, .int .u8 toM.b, .int .u8 toM.c, .int .u8 toM.d, .int .u8 toM.e, .int .u8 toM.f]) _ (fun _ h => h) Try.underlying27 rfl (by kernel_rfl)) (show _ from RT.out) ?_
      try simp only [Act.put, List.getElem_toArray, List.getElem_cons_zero, List.getElem_cons_succ, List.setIfInBounds_toArray, List.set_cons_zero, List.set_cons_succ]
      refine kr_find 2 rfl (by kernel_rfl) (by kernel_rfl) (by kernel_rfl) (fun _ _ _ _ h => h) (by rfl) trivial ?_
      apply Exists.intro; apply And.intro
      · intro w' hS K hK
        clear hS
        go_light
        go_simp
        exact hK.out
      try simp only [Act.put, List.getElem_toArray, List.getElem_cons_zero, List.getElem_cons_succ, List.setIfInBounds_toArray, List.set_cons_zero, List.set_cons_succ]
      refine kr_find 3 rfl (by kernel_rfl) (by kernel_rfl) (by kernel_rfl) (fun _ _ _ _ h => h) (by rfl) trivial ?_
      apply Exists.intro; apply And.intro
      · intro w' hS K hK
        clear hS
        go_light
        go_simp
        exact hK.out
      try simp only [Act.put, List.getElem_toArray, List.getElem_cons_zero, List.getElem_cons_succ, List.setIfInBounds_toArray, List.set_cons_zero, List.set_cons_succ]
      refine kr_one 4 (by kernel_rfl) rfl (by rfl) (fun K hK => ?_)
      refine wp_store_mid 27 _ _ rfl bm 0 toM.cells.toArray rfl rfl THM.out (by kernel_rfl) (by simp [M6.cells, Value.oneCell']) ?_
      refine hK.out _ _ ⟨.inl (by kernel_rfl), trivial⟩ ?_
      clear hK K
      try simp only [Act.put, List.getElem_toArray, List.getElem_cons_zero, List.getElem_cons_succ, List.setIfInBounds_toArray, List.set_cons_zero, List.set_cons_succ]
      refine kr_done (by kernel_rfl) ?_ _
      have RS := Lib.hid (fun (tmps : Array Value) hp => results_cell15 tmps (w8.setCells bm 0 toM.cells) bm _ hp (run_loadVar_mid _ bm 0 27 toM.cells _ (World.rangeAt_setCells_same w8 bm 0 toM.cells THM.out) Try.underlying27 rfl (by kernel_rfl)))
      have FM := Lib.hid (Fr.setCells (S := fun i => i = bm) bm (fun _ => rfl) toM.cells 0 w8 (Fr.refl _ w8))
      generalize w8.setCells bm 0 toM.cells = w10 at FM RS ⊢
      go_wp2_with fail
      refine bodyPost_ret (RS.out _ rfl) rfl ⟨_, _, toM, L', lv', rfl, ?_, fun _ => rfl, fun h => absurd (h.symm.trans HAV.out) (by decide)⟩
      refine (HM.out.fr0 F7d.out).frS FM.out (fun i hi e => (HM.out.fr0 F7d.out).at'.tag BMd2.out (by decide) (by decide) (by decide) (by decide) (e ▸ hi)) (fun k hk e => ?_) (fun i hi e => by have h1 := HS2.out; have e : i = bm := e; omega)
      obtain ⟨cs, h⟩ := (HM.out.fr0 F7d.out).vm hk
      have e : k = bm := e
      rw [e, BMd2.out] at h
      exact absurd (tag_ne h) (by decide)
end Go.Proofs.Ytfnphkijalkllaa
