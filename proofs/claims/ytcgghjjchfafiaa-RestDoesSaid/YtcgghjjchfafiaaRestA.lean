/- What the methods of rest.Table do to the table (a map behind a pointer), each as a contract. No condition. -/
import Derived.Test.YtcgghjjchfafiaaRestKey
import Derived.WalkSpells
import Derived.WalkLawsBesides
import Derived.Deep.QuietTactic
import Derived.BigQuiet
import Derived.StillTailTactics
import Derived.Lib.Hide
namespace Go.Proofs.Ytcgghjjchfafiaa
open Go.RowKit Go.Maps

/-- The table's entries as the map's. -/
def tab (L : List (K4 × Int)) : List (K4 × Value) := L.map fun p => (p.1, Value.int .i64 p.2)
def lki (L : List (K4 × Int)) (k : K4) : Option Int := (L.find? (fun p => p.1 = k)).map (·.2)
theorem lkp_tab : ∀ (L : List (K4 × Int)) (k : K4), lkp (tab L) k = (lki L k).map (Value.int .i64)
  | [], _ => rfl
  | q :: L, k => by
    have ih := lkp_tab L k
    unfold lkp lki tab at *
    by_cases e : q.1 = k
    · simp [e]
    · simpa [e] using ih
theorem lkp_tab_get (L : List (K4 × Int)) (k : K4) : (lkp (tab L) k).getD (.int .i64 0) = .int .i64 ((lki L k).getD 0) := by
  rw [lkp_tab]; cases lki L k <;> rfl
theorem lkp_tab_is (L : List (K4 × Int)) (k : K4) : (lkp (tab L) k).isSome = (lki L k).isSome := by
  rw [lkp_tab]; cases lki L k <;> rfl
theorem tab_len (L : List (K4 × Int)) : (tab L).length = L.length := by simp [tab]
theorem zero3 (w : World) : (zeroValue 3).run Try.prog w = .ok (.int .i64 0) w := by kernel_rfl

/-- The table lies in block g, its map in block m, and holds L. -/
structure TabAt (w : World) (g m : Nat) (L : List (K4 × Int)) : Prop where
  blk : w.heap[g]? = some (.cells #[.map (some m)] 72 (0, 0))
  map : MapAt M33 w m (tab L)

theorem TabAt.heap {w w' : World} {g m : Nat} {L : List (K4 × Int)} (h : TabAt w g m L) (hg : w'.heap[g]? = w.heap[g]?) (hm : w'.heap[m]? = w.heap[m]?) : TabAt w' g m L :=
  ⟨hg.trans h.blk, h.map.heap hm⟩
theorem TabAt.ltg {w : World} {g m : Nat} {L : List (K4 × Int)} (h : TabAt w g m L) : g < w.heap.size := lt_of_block h.blk
theorem TabAt.ltm {w : World} {g m : Nat} {L : List (K4 × Int)} (h : TabAt w g m L) : m < w.heap.size := h.map.lt
theorem TabAt.ne {w : World} {g m : Nat} {L : List (K4 × Int)} (h : TabAt w g m L) : g ≠ m := by
  intro e
  obtain ⟨⟨es, ⟨es', cl, hb, _⟩, _⟩, _⟩ := h.map
  rw [← e, h.blk] at hb
  cases hb
theorem TabAt.look {w : World} {g m : Nat} {L : List (K4 × Int)} (h : TabAt w g m L) {p a b c d t : Int} (hk : K4.ok ⟨p, a, b, c, d, t⟩) :
    (Instr.lookup 70 (.map (some m)) (.agg #[.int .i64 p, .int .u8 a, .int .u8 b, .int .u8 c, .int .u8 d, .int .i64 t]) true).run Try.prog w = .ok (.tuple #[.int .i64 ((lki L ⟨p, a, b, c, d, t⟩).getD 0), .bool (lki L ⟨p, a, b, c, d, t⟩).isSome]) w := by
  have := h.map.look (M := M33) (w := w) Try.underlying70 (zero3 w) hk
  rw [lkp_tab_get, lkp_tab_is] at this
  exact this

def mayF (L : List (K4 × Int)) (k : K4) : Int := if (lki L k).isSome then 191 else if L.length = 24 then 190 else 0

set_option maxHeartbeats 400000 in
theorem may22 (g m : Nat) (L : List (K4 × Int)) (p a b c d t : Int) (w : World) (hk : K4.ok ⟨p, a, b, c, d, t⟩) (hT : TabAt w g m L) :
    Calls Try.prog 22 #[.pointer (some ⟨g, 0, none⟩), .agg #[.int .i64 p, .int .u8 a, .int .u8 b, .int .u8 c, .int .u8 d, .int .i64 t]] w fun e w' => e = .returned (.int .i64 (mayF L ⟨p, a, b, c, d, t⟩)) ∧ Fr (fun _ => False) w w' := by
  have f1 := (Fr.refl (fun _ => False) w).alloc (.cells #[.int .i64 p, .int .u8 a, .int .u8 b, .int .u8 c, .int .u8 d, .int .i64 t] 33)
  have T1 : ∀ n, TabAt ((w.alloc (.cells #[.int .i64 p, .int .u8 a, .int .u8 b, .int .u8 c, .int .u8 d, .int .i64 t] 33)).drewN n) g m L := fun n => hT.heap (Below.heap_alloc w _ g hT.ltg) (Below.heap_alloc w _ m hT.ltm)
  have hl' := fun n => (T1 n).look hk
  have hc' := fun n => cell_of_one (T1 n).blk
  generalize hv : (lki L ⟨p, a, b, c, d, t⟩).getD 0 = v at *
  generalize his : (lki L ⟨p, a, b, c, d, t⟩).isSome = is at *
  clear hv
  have His := Lib.hid his
  clear his
  have HT := Lib.hid T1
  clear T1 hT
  cases is
  · by_cases h24 : L.length = 24
    all_goals
      go_enter Try.func22, Try.ntmps22
      go_wp2_with fail
      go_quiet (fail)
      go_wp2_with (first | (at_len; refine wpList_len_at (M := M33) _ rfl _ 70 rfl 3 Try.underlying70 m (tab L) rfl (HT.out _).map ?_; rw [tab_len]))
      go_ret
      exact ⟨by rw [mayF, His.out]; simp [h24], f1.drewN _⟩
  · go_enter Try.func22, Try.ntmps22
    go_wp2_with fail
    go_quiet (fail)
    go_wp2_with fail
    go_ret
    exact ⟨by rw [mayF, His.out]; simp, f1.drewN _⟩

/-- 'it is open'. -/
def isOpen (u : Int) : Bool := u == -4611686018427387904
def restsF (L : List (K4 × Int)) (k : K4) : Bool := match lki L k with | some u => !isOpen u | none => false

set_option maxHeartbeats 400000 in
theorem rests24 (g m : Nat) (L : List (K4 × Int)) (p a b c d t : Int) (w : World) (hk : K4.ok ⟨p, a, b, c, d, t⟩) (hT : TabAt w g m L) :
    Calls Try.prog 24 #[.pointer (some ⟨g, 0, none⟩), .agg #[.int .i64 p, .int .u8 a, .int .u8 b, .int .u8 c, .int .u8 d, .int .i64 t]] w fun e w' => e = .returned (.bool (restsF L ⟨p, a, b, c, d, t⟩)) ∧ Fr (fun _ => False) w w' := by
  have f1 := (Fr.refl (fun _ => False) w).alloc (.cells #[.int .i64 p, .int .u8 a, .int .u8 b, .int .u8 c, .int .u8 d, .int .i64 t] 33)
  have T1 : ∀ n, TabAt ((w.alloc (.cells #[.int .i64 p, .int .u8 a, .int .u8 b, .int .u8 c, .int .u8 d, .int .i64 t] 33)).drewN n) g m L := fun n => hT.heap (Below.heap_alloc w _ g hT.ltg) (Below.heap_alloc w _ m hT.ltm)
  have hl' := fun n => (T1 n).look hk
  have hc' := fun n => cell_of_one (T1 n).blk
  clear T1 hT
  cases hlk : lki L ⟨p, a, b, c, d, t⟩ with
  | none =>
    rw [hlk] at hl'
    simp only [Option.getD_none, Option.isSome_none] at hl'
    have Hlk := Lib.hid hlk
    clear hlk
    go_enter Try.func24, Try.ntmps24
    go_wp2_with fail
    go_quiet (fail)
    go_wp2_with fail
    go_ret
    exact ⟨by rw [restsF, Hlk.out]; rfl, f1.drewN _⟩
  | some u =>
    rw [hlk] at hl'
    simp only [Option.getD_some, Option.isSome_some] at hl'
    have Hlk := Lib.hid hlk
    clear hlk
    cases hu : isOpen u
    all_goals
      have hu' := hu
      unfold isOpen at hu'
      have hu2 : (u != -4611686018427387904) = !(u == -4611686018427387904) := rfl
      rw [hu'] at hu2
      have Hu := Lib.hid hu
      clear hu hu'
      go_enter Try.func24, Try.ntmps24
      go_wp2_with fail
      go_quiet (fail)
      go_wp2_with fail
      go_ret
      exact ⟨by rw [restsF, Hlk.out]; simp [Hu.out], f1.drewN _⟩

set_option maxHeartbeats 400000 in
theorem len26 (g m : Nat) (L : List (K4 × Int)) (w : World) (hT : TabAt w g m L) :
    Calls Try.prog 26 #[.pointer (some ⟨g, 0, none⟩)] w fun e w' => e = .returned (.int .i64 L.length) ∧ w = w' := by
  have hc := cell_of_one hT.blk
  have HT := Lib.hid hT
  clear hT
  go_enter Try.func26, Try.ntmps26
  go_wp2_with (first | (at_len; refine wpList_len_at (M := M33) _ rfl _ 70 rfl 3 Try.underlying70 m (tab L) rfl HT.out.map ?_; rw [tab_len]))
  go_ret
  exact ⟨rfl, rfl⟩

/-- All entries but the one at a key. -/
def rm (L : List (K4 × Int)) (k : K4) : List (K4 × Int) := L.filter fun p => p.1 ≠ k
theorem but_tab : ∀ (L : List (K4 × Int)) (k : K4), but (tab L) k = tab (rm L k)
  | [], _ => rfl
  | q :: L, k => by
    have ih := but_tab L k
    unfold but tab rm at *
    by_cases e : q.1 = k
    · simpa [e] using ih
    · simpa [e] using ih
theorem tab_snoc (L : List (K4 × Int)) (k : K4) (u : Int) : tab L ++ [(k, .int .i64 u)] = tab (L ++ [(k, u)]) := by simp [tab]

theorem six {w : World} {b : Nat} {T : TypeId} {v0 v1 v2 v3 v4 v5 : Value} (h : w.heap[b]? = some (.cells #[v0, v1, v2, v3, v4, v5] T (0, 0))) :
    w.cell? ⟨b, 0, none⟩ = some v0 ∧ w.cell? ⟨b, 1, none⟩ = some v1 ∧ w.cell? ⟨b, 2, none⟩ = some v2 ∧ w.cell? ⟨b, 3, none⟩ = some v3 ∧ w.cell? ⟨b, 4, none⟩ = some v4 ∧ w.cell? ⟨b, 5, none⟩ = some v5 := by
  simp [World.cell?, h]

def openL (L : List (K4 × Int)) (k : K4) : List (K4 × Int) := if mayF L k = 0 then rm L k ++ [(k, -4611686018427387904)] else L

theorem TabAt.turned {w w' : World} {g m : Nat} {L L' : List (K4 × Int)} (h : TabAt w g m L) (ht : w.mapTurned w' m) (hm : MapAt M33 w' m (tab L')) : TabAt w' g m L' :=
  ⟨(ht.grown.block g h.ltg (fun e => h.ne (by injection e))).trans h.blk, hm⟩

set_option maxHeartbeats 400000 in
theorem open16 (g m : Nat) (L : List (K4 × Int)) (p a b c d t : Int) (w : World) (hk : K4.ok ⟨p, a, b, c, d, t⟩) (hT : TabAt w g m L) (hlen : L.length < 1000000) :
    Calls Try.prog 16 #[.pointer (some ⟨g, 0, none⟩), .agg #[.int .i64 p, .int .u8 a, .int .u8 b, .int .u8 c, .int .u8 d, .int .i64 t]] w fun e w' =>
      e = .returned (.int .i64 (mayF L ⟨p, a, b, c, d, t⟩)) ∧ TabAt w' g m (openL L ⟨p, a, b, c, d, t⟩) ∧ Fr (fun i => i = m) w w' := by
  have f1 := (Fr.refl (fun i => i = m) w).alloc (.cells #[.int .i64 p, .int .u8 a, .int .u8 b, .int .u8 c, .int .u8 d, .int .i64 t] 33)
  have T1 : TabAt (w.alloc (.cells #[.int .i64 p, .int .u8 a, .int .u8 b, .int .u8 c, .int .u8 d, .int .i64 t] 33)) g m L := hT.heap (Below.heap_alloc w _ g hT.ltg) (Below.heap_alloc w _ m hT.ltm)
  have HT := Lib.hid T1
  clear T1 hT
  generalize hmay : mayF L ⟨p, a, b, c, d, t⟩ = r
  have Hmay := Lib.hid hmay
  clear hmay
  have hlen' : (tab L).length < maxLen := by rw [tab_len]; unfold maxLen; omega
  by_cases hr : r = 0
  · subst hr
    go_enter Try.func16, Try.ntmps16
    go_wp2_with fail
    refine (may22 g m L p a b c d t _ hk HT.out).mono ?_
    rintro e w2 ⟨rfl, f2⟩
    rw [Hmay.out]
    have T2 := HT.out.heap (f2.block g (by have := HT.out.ltg; simpa using this) (fun e => e)) (f2.block m (by have := HT.out.ltm; simpa using this) (fun e => e))
    have c2 := cell_of_one T2.blk
    obtain ⟨k0, k1, k2, k3, k4, k5⟩ := six ((f2.block w.heap.size (by simp) (fun e => e)).trans (heap_alloc_new w _))
    go_wp2_with fail
    go_still_tail 5, (by kernel_rfl)
    refine wpList_store_at (M := M33) _ rfl _ _ _ 70 rfl 3 Try.underlying70 m (tab L) rfl (T2.map.heap rfl) hlen' ⟨p, a, b, c, d, t⟩ hk rfl (.int .i64 (-4611686018427387904)) rfl ?_
    intro w3 hm3 ht3
    have T3 : TabAt w3 g m (openL L ⟨p, a, b, c, d, t⟩) := by
      rw [openL, if_pos Hmay.out]
      rw [but_tab, tab_snoc] at hm3
      exact TabAt.turned (w := { heap := w2.heap, tape := w2.tape, drawn := w2.drawn + 1, os := w2.os, output := w2.output }) ⟨T2.blk, T2.map.heap rfl⟩ ht3 hm3
    have f3 : Fr (fun i => i = m) w w3 := by
      have h1 := f1.trans f2 (fun _ _ e => e.elim)
      exact Fr.grown (b := { heap := w2.heap, tape := w2.tape, drawn := w2.drawn + 1, os := w2.os, output := w2.output }) ⟨h1.os, h1.tape, h1.output, h1.size, h1.block⟩ ht3.grown (fun r e _ => by injection e with e; exact e.symm)
    clear hm3 ht3
    go_wp2_with fail
    go_ret
    exact ⟨rfl, T3, f3⟩
  · have hr' : (r == 0) = false := by simpa using hr
    go_enter Try.func16, Try.ntmps16
    go_wp2_with fail
    refine (may22 g m L p a b c d t _ hk HT.out).mono ?_
    rintro e w2 ⟨rfl, f2⟩
    rw [Hmay.out]
    have T2 : TabAt w2 g m (openL L ⟨p, a, b, c, d, t⟩) := by
      rw [openL, if_neg (by rw [Hmay.out]; exact hr)]
      exact HT.out.heap (f2.block g (by have := HT.out.ltg; simpa using this) (fun e => e)) (f2.block m (by have := HT.out.ltm; simpa using this) (fun e => e))
    clear hr
    go_wp2_with fail
    go_ret
    exact ⟨rfl, T2, f1.trans f2 (fun _ _ e => e.elim)⟩
end Go.Proofs.Ytcgghjjchfafiaa
