/- What comes in as a slice of operations on ways. No condition. -/
import Derived.Test.YtcfadmjihccimaaRtV
import Derived.Test.YtcfadmjihccimaaFx
namespace Go.Proofs.Ytcfadmjihccimaa
set_option linter.unusedVariables false
set_option linter.unusedSimpArgs false
open Go.RowKit
/-- An operation: its kind and its way. -/
structure O11 where
  kind : Int
  way : W10
def O11.cells (o : O11) : List Value := .int .i64 o.kind :: o.way.cells
/-- What came in: a slice of operations. -/
structure OpsIn (w : World) (A : Option Addr) (n : Nat) (os : List O11) : Prop where
  len : os.length = n
  ok : ∀ x ∈ os, x.way.ok
  top : n ≤ 140737488355328
  here : 0 < n → ∃ b off, A = some ⟨b, off, none⟩ ∧ b < w.heap.size ∧ ∀ i x, os[i]? = some x → w.rangeAt b (off + i * 11) x.cells
theorem OpsIn.fr {w w' : World} {A : Option Addr} {n : Nat} {os : List O11} (h : OpsIn w A n os) (f : Fr (fun _ => False) w w') : OpsIn w' A n os :=
  ⟨h.len, h.ok, h.top, fun h0 => by
    obtain ⟨b, off, e, hb, hc⟩ := h.here h0
    exact ⟨b, off, e, Nat.lt_of_lt_of_le hb f.size, fun i x hi => range_block (f.block b hb (fun e => e)) (hc i x hi)⟩⟩
end Go.Proofs.Ytcfadmjihccimaa
