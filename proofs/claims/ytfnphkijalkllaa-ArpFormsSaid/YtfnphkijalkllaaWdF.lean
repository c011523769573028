/- Put16, Put32, at, At16, At32 of package word. No condition but lengths. -/
import Derived.Test.YtfnphkijalkllaaProg
import Derived.Test.YtfnphkijalkllaaChecked
import Derived.Test.YtfnphkijalkllaaWdE
namespace Go.Proofs.Ytfnphkijalkllaa
set_option linter.unusedVariables false
open Go.RowKit

theorem bytes_lit (w : World) (l : List Int) : BytesIn (w.heap.size + 1) (w.alloc (.cells (l.map (Value.int .u8)).toArray 5)) (some ⟨w.heap.size, 0, none⟩) l := fun hl =>
  ⟨w.heap.size, 0, rfl, by omega, fun j x hj => by
    rw [cell_of_row _ w.heap.size (0 + j) _ 5 (0, 0) (heap_alloc_new w _)]
    simp [hj]⟩

def by16 (n : Int) : List Int := [n / 256 % 256, n % 256]
set_option maxHeartbeats 2000000 in
set_option maxRecDepth 100000 in
theorem put32 (A : Option Addr) (cap n₀ : Nat) (l : List Int) (n : Int) (w : World) (hb : BytesIn n₀ w A l) (hlen : l.length + 2 ≤ 140737488355328) (hn₀ : n₀ ≤ w.heap.size) :
    Calls Try.prog 46 #[.slice A l.length cap, .int .i64 n] w fun e w' => ∃ v', e = .returned v' ∧ OwnB w.heap.size w' v' (l ++ by16 n) ∧ Fr (fun _ => False) w w' := by
  go_enter Try.func46, Try.ntmps46
  go_wp2_with (first
    | (go_at_call 48; refine (clone44 A cap n₀ l _ hb (by omega) hn₀).mono ?_; rintro e w1 ⟨v1, rfl, own1, f1⟩)
    | (at_builtin; refine wpList_app _ rfl _ _ rfl w.heap.size v1 l rfl (by exact own1.fr0 ((Fr.refl (fun _ => False) w1).alloc _)) _ _ _ (by16 n) (by exact rfl) (by exact bytes_lit w1 (by16 n)) (by simpa [by16] using hlen) (by have := f1.size; simp; omega) ?_))
  intro v' w2 hown hgrow hnil hat
  go_wp2_with fail
  go_ret
  refine ⟨v', rfl, hown, ?_⟩
  refine (f1.alloc _).trans (fr_of_grown hgrow) ?_
  intro i hi e
  have := (World.ownsRow.lt own1 i e).1
  omega

def by32 (n : Int) : List Int := [n / 16777216 % 256, n / 65536 % 256, n / 256 % 256, n % 256]
/-- The number in bytes. -/
def be (l : List Int) : Int := l.foldl (fun n x => n * 256 + x) 0
theorem be_snoc (l : List Int) (x : Int) : be (l ++ [x]) = be l * 256 + x := by simp [be, List.foldl_append]
theorem be_bd : ∀ (n : Nat) (l : List Int), l.length = n → isB l → 0 ≤ be l ∧ be l < 256 ^ n := by
  intro n
  induction n with
  | zero => intro l hl _; obtain rfl := List.length_eq_zero_iff.1 hl; simp [be]
  | succ n ih =>
    intro l hl hB
    obtain ⟨l', x, rfl⟩ : ∃ l' x, l = l' ++ [x] := ⟨l.dropLast, l.getLast (by intro e; simp [e] at hl), (List.dropLast_concat_getLast _).symm⟩
    have := ih l' (by simpa using hl) hB.left
    have hx := hB.right x (by simp)
    rw [be_snoc, Int.pow_succ]
    omega
theorem pow_small {j : Nat} (h : j ≤ 3) : (256 : Int) ^ j ≤ 16777216 := by
  have : j = 0 ∨ j = 1 ∨ j = 2 ∨ j = 3 := by omega
  rcases this with rfl | rfl | rfl | rfl <;> decide
theorem or_byte32 {x y : Int} (h₀ : 0 ≤ x) (h₁ : x < 16777216) (h₂ : 0 ≤ y) (h₃ : y ≤ 255) : bits .or .u32 (x * 256) y = x * 256 + y :=
  bits_join .u32 32 (by decide) (fun n h0 h1 => by rw [IntKind.wrap_u32]; omega) 8 (x * 256) y (by omega) (by omega) (by omega) h₂ (by omega) (by omega)

/-- What At gives: the number and whether it stands there. -/
def atV (l : List Int) (f : Int) (size : Nat) : Int := if f < 0 ∨ (l.length : Int) < f ∨ (l.length : Int) - f < size then 0 else be ((l.drop f.toNat).take size)
def atE (l : List Int) (f : Int) (size : Nat) : Int := if f < 0 ∨ (l.length : Int) < f ∨ (l.length : Int) - f < size then 3 else 0
theorem atV_bd (l : List Int) (hB : isB l) (f : Int) (size : Nat) (hs : size ≤ 4) : 0 ≤ atV l f size ∧ atV l f size < 4294967296 := by
  unfold atV
  split
  · omega
  · have h := be_bd ((l.drop f.toNat).take size).length _ rfl (fun x hx => hB x (List.mem_of_mem_drop (List.mem_of_mem_take hx)))
    have h2 : ((l.drop f.toNat).take size).length ≤ 4 := by rw [List.length_take]; omega
    have h3 : (256 : Int) ^ ((l.drop f.toNat).take size).length ≤ 4294967296 := by
      generalize ((l.drop f.toNat).take size).length = j at *
      have : j = 0 ∨ j = 1 ∨ j = 2 ∨ j = 3 ∨ j = 4 := by omega
      rcases this with rfl | rfl | rfl | rfl | rfl <;> decide
    omega

end Go.Proofs.Ytfnphkijalkllaa
