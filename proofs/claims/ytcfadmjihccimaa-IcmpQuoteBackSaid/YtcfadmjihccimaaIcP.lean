/- Paths of package icmp: NewPaths, Find. No condition. -/
import Derived.Test.YtcfadmjihccimaaIcK
import Derived.Test.YtcfadmjihccimaaIcF
namespace Go.Proofs.Ytcfadmjihccimaa
set_option linter.unusedVariables false
open Go.RowKit

def tab (L : List (I4 × Int)) : List (I4 × Value) := L.map fun p => (p.1, .int .i64 p.2)
def lki (L : List (I4 × Int)) (k : I4) : Option Int := (L.find? (fun p => p.1 = k)).map (·.2)
theorem lkp_tab (L : List (I4 × Int)) (k : I4) : lkp (tab L) k = (lki L k).map (Value.int .i64) := by
  unfold lkp lki tab
  induction L with
  | nil => rfl
  | cons q L ih =>
    simp only [List.map_cons, List.find?_cons]
    by_cases e : q.1 = k
    · simp [e]
    · simpa [e] using ih
theorem lkp_tab_get (L : List (I4 × Int)) (k : I4) : (lkp (tab L) k).getD (.int .i64 0) = .int .i64 ((lki L k).getD 0) := by
  rw [lkp_tab]; cases lki L k <;> rfl
theorem lkp_tab_is (L : List (I4 × Int)) (k : I4) : (lkp (tab L) k).isSome = (lki L k).isSome := by
  rw [lkp_tab]; cases lki L k <;> rfl
theorem zero3 (w : World) : (zeroValue 3).run Try.prog w = .ok (.int .i64 0) w := by kernel_rfl

/-- What is known of paths lies in block g, its map in block m; lv is the line. -/
structure PaAt (w : World) (g m : Nat) (L : List (I4 × Int)) (lv : Value) : Prop where
  blk : w.heap[g]? = some (.cells #[.map (some m), lv] 97)
  map : MapAt M45 w m (tab L)
theorem PaAt.heap {w w' : World} {g m : Nat} {L : List (I4 × Int)} {lv : Value} (h : PaAt w g m L lv) (hg : w'.heap[g]? = w.heap[g]?) (hm : w'.heap[m]? = w.heap[m]?) : PaAt w' g m L lv :=
  ⟨hg.trans h.blk, h.map.heap hm⟩
theorem PaAt.fr {w w' : World} {g m : Nat} {L : List (I4 × Int)} {lv : Value} (h : PaAt w g m L lv) (f : Fr (fun _ => False) w w') : PaAt w' g m L lv :=
  h.heap (f.block g (lt_of_block h.blk) (fun e => e)) (f.block m h.map.lt (fun e => e))
theorem PaAt.look {w : World} {g m : Nat} {L : List (I4 × Int)} {lv : Value} (h : PaAt w g m L lv) {a b c d : Int} (hk : I4.ok ⟨a, b, c, d⟩) :
    (Instr.lookup 94 (.map (some m)) (.agg #[.int .u8 a, .int .u8 b, .int .u8 c, .int .u8 d]) true).run Try.prog w = .ok (.tuple #[.int .i64 ((lki L ⟨a, b, c, d⟩).getD 0), .bool (lki L ⟨a, b, c, d⟩).isSome]) w := by
  have := h.map.look (M := M45) (w := w) Try.underlying94 (zero3 w) hk
  rw [lkp_tab_get, lkp_tab_is] at this
  exact this

set_option maxHeartbeats 4000000 in
set_option maxRecDepth 100000 in
theorem find18 (g m : Nat) (L : List (I4 × Int)) (lv : Value) (a b c d : Int) (w : World) (hk : I4.ok ⟨a, b, c, d⟩) (hT : PaAt w g m L lv) :
    Calls Try.prog 18 #[.pointer (some ⟨g, 0, none⟩), .agg #[.int .u8 a, .int .u8 b, .int .u8 c, .int .u8 d]] w fun e w' => e = .returned (.int .i64 ((lki L ⟨a, b, c, d⟩).getD 256)) ∧ Fr (fun _ => False) w w' := by
  have HT := Lib.hid hT
  have FA := Lib.hid (Fr.refl (fun _ => False) w)
  obtain ⟨o, ho⟩ : ∃ o, lki L ⟨a, b, c, d⟩ = o := ⟨_, rfl⟩
  have HO := Lib.hid ho
  rw [ho]
  clear hT ho
  go_enter Try.func18, Try.ntmps18
  go_upto_region 1 with (fail)
  have g0 := heap_alloc_new w (.cells #[.int .u8 a, .int .u8 b, .int .u8 c, .int .u8 d] 45)
  have FB := Lib.hid (FA.out.alloc (.cells #[.int .u8 a, .int .u8 b, .int .u8 c, .int .u8 d] 45))
  generalize w.alloc (.cells #[.int .u8 a, .int .u8 b, .int .u8 c, .int .u8 d] 45) = w1 at g0 FB ⊢
  have T1 := Lib.hid (HT.out.fr FB.out)
  have c0 : ∀ j, (w1.drewN j).cell? ⟨w.heap.size, 0, none⟩ = some (.int .u8 a) ∧ (w1.drewN j).cell? ⟨w.heap.size, 1, none⟩ = some (.int .u8 b) ∧ (w1.drewN j).cell? ⟨w.heap.size, 2, none⟩ = some (.int .u8 c) ∧ (w1.drewN j).cell? ⟨w.heap.size, 3, none⟩ = some (.int .u8 d) := fun j => by
    have h := cells_at (w1.drewN j) w.heap.size [.int .u8 a, .int .u8 b, .int .u8 c, .int .u8 d] 45 g0
    exact ⟨h 0 _ rfl, h 1 _ rfl, h 2 _ rfl, h 3 _ rfl⟩
  have c1 : ∀ j, (w1.drewN j).cell? ⟨g, 0, none⟩ = some (.map (some m)) := fun j => cells_at (w1.drewN j) g [.map (some m), lv] 97 T1.out.blk 0 _ rfl
  have hl := fun j => (T1.out.fr ((Fr.refl (fun _ => False) w1).drewN j)).look hk
  simp only [HO.out] at hl
  clear g0
  cases o with
  | none =>
    simp only [Option.getD_none, Option.isSome_none] at hl
    go_quiet (fail)
    clear hl c0 c1
    go_wp2_with fail
    go_ret
    exact ⟨rfl, FB.out.drewN nq⟩
  | some x =>
    simp only [Option.getD_some, Option.isSome_some] at hl
    go_quiet (fail)
    clear hl c0 c1
    go_wp2_with fail
    go_ret
    exact ⟨rfl, FB.out.drewN nq⟩
set_option maxHeartbeats 4000000 in
theorem newPaths17 (w : World) : Calls Try.prog 17 #[] w fun e w' => ∃ g m, e = .returned (.pointer (some ⟨g, 0, none⟩)) ∧ PaAt w' g m [] (.slice none 0 0) ∧ Fr (fun _ => False) w w' ∧ w.heap.size ≤ g ∧ w.heap.size ≤ m := by
  have hmm := @run_makeMap Try.prog
  have T : PaAt ((w.alloc (.map #[] 0)).alloc (.cells #[.map (some w.heap.size), .slice none 0 0] 97)) (w.heap.size + 1) w.heap.size [] (.slice none 0 0) :=
    ⟨by have := heap_alloc_new (w.alloc (.map #[] 0)) (.cells #[.map (some w.heap.size), .slice none 0 0] 97); simpa using this, (MapAt.made (M := M45) w).heap (Below.heap_alloc _ _ _ (by simp))⟩
  have f := ((Fr.refl (fun _ => False) w).alloc (.map #[] 0)).alloc (.cells #[.map (some w.heap.size), .slice none 0 0] 97)
  go_enter Try.func17, Try.ntmps17
  go_wp2_with fail
  go_ret
  exact ⟨_, _, rfl, T, f, by omega, by omega⟩
end Go.Proofs.Ytcfadmjihccimaa
