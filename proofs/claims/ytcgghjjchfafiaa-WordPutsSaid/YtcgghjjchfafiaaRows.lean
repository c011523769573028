/-
  No cell of these rows narrows 'for every input' (looked for: loops, veiled, ifaces, maps, wideKeys, modest, calm, conditions, laid).
  DERIVED. THE GIVEN ROWS OF THIS SEAT. 11 by the template 'for every input the law returns true; each argument reads behind the call as it read before'; 0 by the template 'total and deterministic' (their statements: YtcgghjjchfafiaaTotals.lean).
  GIVEN WITH THE SEED: the statements are not yours to turn. If you find one false, say at which input.
  Laid BY PROGRAM, IN A SANDBOX (cutbox-rows.mjs): the forced cells as the released guide's own fill.sh prints them over the translation 222cd20a70820e5f… (all of the seat's roots in one cut). By AI agents, Wed Nov 11 2026. No macro, syntax, notation, axiom, sorry.
-/
import Derived.Test.YtcgghjjchfafiaaChecked
import GoSem.Claim
import GoSem.ClaimJoined
import GoSem.ClaimMapViews
import Derived.JoinedTies
import Derived.KernelRfl
namespace Go.Proofs.Ytcgghjjchfafiaa
/- THE CELL 'sum', in the pinned program and in every row, IS THE sha256 OF THE DUMP (.gsa) THAT YtcgghjjchfafiaaProg.lean LOADS. Nothing in Lean hashes anything: it is a label: what it is worth is what the hold of that sum in a sandbox is worth. -/
noncomputable def Try.pinned : Pinned := { name := "ytcgghjjchfafiaa", sum := "222cd20a70820e5f8b0a0a8031d9f042cd1978335a13e0f470621dc89f2a1773", checked := Try.checked }
namespace Rows
def none {H : Type} : Left H := { results := [], args := [] }

/-- 'packhorselaw19.RestDoes': WHATEVER THE INPUT: true; the input reads as it did. -/
def restDoesSpec : ChangeSpec := { name := "restDoes", fn := fun _ => fun
  | [d1, d2] => { results := [.lit (.bool true)], args := [d1, d2] }
  | _ => none }
def restDoesRow : OpenClaim := { program := "ytcgghjjchfafiaa", sum := "222cd20a70820e5f8b0a0a8031d9f042cd1978335a13e0f470621dc89f2a1773", func := "packhorse/packhorselaw19.RestDoes", spec := "restDoes", plainKeys := false, apart := false }
def RestDoesSaid : Prop := restDoesRow.holds Try.pinned (OpenSpec.ofChange restDoesSpec)

/-- ITS FALSE NEIGHBOUR: 'it returns false'. Refute it at one input. -/
def restDoesWrong : ChangeSpec := { name := "restDoes", fn := fun _ => fun
  | [d1, d2] => { results := [.lit (.bool false)], args := [d1, d2] }
  | _ => none }
def RestDoesWrongFalsely : Prop := restDoesRow.holds Try.pinned (OpenSpec.ofChange restDoesWrong)

/-- 'packhorselaw19.RestQuiet': WHATEVER THE INPUT: true; the input reads as it did. -/
def restQuietSpec : ChangeSpec := { name := "restQuiet", fn := fun _ => fun
  | [d] => { results := [.lit (.bool true)], args := [d] }
  | _ => none }
def restQuietRow : OpenClaim := { program := "ytcgghjjchfafiaa", sum := "222cd20a70820e5f8b0a0a8031d9f042cd1978335a13e0f470621dc89f2a1773", func := "packhorse/packhorselaw19.RestQuiet", spec := "restQuiet", plainKeys := false, apart := false }
def RestQuietSaid : Prop := restQuietRow.holds Try.pinned (OpenSpec.ofChange restQuietSpec)

/-- ITS FALSE NEIGHBOUR: 'it returns false'. Refute it at one input. -/
def restQuietWrong : ChangeSpec := { name := "restQuiet", fn := fun _ => fun
  | [d] => { results := [.lit (.bool false)], args := [d] }
  | _ => none }
def RestQuietWrongFalsely : Prop := restQuietRow.holds Try.pinned (OpenSpec.ofChange restQuietWrong)

/-- 'packhorselaw19.RestFull': WHATEVER THE INPUT: true; the input reads as it did. -/
def restFullSpec : ChangeSpec := { name := "restFull", fn := fun _ => fun
  | [d1, d2] => { results := [.lit (.bool true)], args := [d1, d2] }
  | _ => none }
def restFullRow : OpenClaim := { program := "ytcgghjjchfafiaa", sum := "222cd20a70820e5f8b0a0a8031d9f042cd1978335a13e0f470621dc89f2a1773", func := "packhorse/packhorselaw19.RestFull", spec := "restFull", plainKeys := false, apart := false }
def RestFullSaid : Prop := restFullRow.holds Try.pinned (OpenSpec.ofChange restFullSpec)

/-- ITS FALSE NEIGHBOUR: 'it returns false'. Refute it at one input. -/
def restFullWrong : ChangeSpec := { name := "restFull", fn := fun _ => fun
  | [d1, d2] => { results := [.lit (.bool false)], args := [d1, d2] }
  | _ => none }
def RestFullWrongFalsely : Prop := restFullRow.holds Try.pinned (OpenSpec.ofChange restFullWrong)

/-- 'packhorselaw01.WordSums': WHATEVER THE INPUT: true; the input reads as it did. -/
def wordSumsSpec : ChangeSpec := { name := "wordSums", fn := fun _ => fun
  | [d1, d2, d3, d4, d5, d6] => { results := [.lit (.bool true)], args := [d1, d2, d3, d4, d5, d6] }
  | _ => none }
def wordSumsRow : OpenClaim := { program := "ytcgghjjchfafiaa", sum := "222cd20a70820e5f8b0a0a8031d9f042cd1978335a13e0f470621dc89f2a1773", func := "packhorse/packhorselaw01.WordSums", spec := "wordSums", unfollowed := true, recurses := true, plainKeys := false, apart := false }
def WordSumsSaid : Prop := wordSumsRow.holds Try.pinned (OpenSpec.ofChange wordSumsSpec)

/-- ITS FALSE NEIGHBOUR: 'it returns false'. Refute it at one input. -/
def wordSumsWrong : ChangeSpec := { name := "wordSums", fn := fun _ => fun
  | [d1, d2, d3, d4, d5, d6] => { results := [.lit (.bool false)], args := [d1, d2, d3, d4, d5, d6] }
  | _ => none }
def WordSumsWrongFalsely : Prop := wordSumsRow.holds Try.pinned (OpenSpec.ofChange wordSumsWrong)

/-- 'packhorselaw01.WordWhole': WHATEVER THE INPUT: true; the input reads as it did. -/
def wordWholeSpec : ChangeSpec := { name := "wordWhole", fn := fun _ => fun
  | [d1, d2] => { results := [.lit (.bool true)], args := [d1, d2] }
  | _ => none }
def wordWholeRow : OpenClaim := { program := "ytcgghjjchfafiaa", sum := "222cd20a70820e5f8b0a0a8031d9f042cd1978335a13e0f470621dc89f2a1773", func := "packhorse/packhorselaw01.WordWhole", spec := "wordWhole", unfollowed := true, recurses := true, plainKeys := false, apart := false }
def WordWholeSaid : Prop := wordWholeRow.holds Try.pinned (OpenSpec.ofChange wordWholeSpec)

/-- ITS FALSE NEIGHBOUR: 'it returns false'. Refute it at one input. -/
def wordWholeWrong : ChangeSpec := { name := "wordWhole", fn := fun _ => fun
  | [d1, d2] => { results := [.lit (.bool false)], args := [d1, d2] }
  | _ => none }
def WordWholeWrongFalsely : Prop := wordWholeRow.holds Try.pinned (OpenSpec.ofChange wordWholeWrong)

/-- 'packhorselaw01.WordTurns': WHATEVER THE INPUT: true; the input reads as it did. -/
def wordTurnsSpec : ChangeSpec := { name := "wordTurns", fn := fun _ => fun
  | [d1, d2] => { results := [.lit (.bool true)], args := [d1, d2] }
  | _ => none }
def wordTurnsRow : OpenClaim := { program := "ytcgghjjchfafiaa", sum := "222cd20a70820e5f8b0a0a8031d9f042cd1978335a13e0f470621dc89f2a1773", func := "packhorse/packhorselaw01.WordTurns", spec := "wordTurns", unfollowed := true, recurses := true, plainKeys := false, apart := false }
def WordTurnsSaid : Prop := wordTurnsRow.holds Try.pinned (OpenSpec.ofChange wordTurnsSpec)

/-- ITS FALSE NEIGHBOUR: 'it returns false'. Refute it at one input. -/
def wordTurnsWrong : ChangeSpec := { name := "wordTurns", fn := fun _ => fun
  | [d1, d2] => { results := [.lit (.bool false)], args := [d1, d2] }
  | _ => none }
def WordTurnsWrongFalsely : Prop := wordTurnsRow.holds Try.pinned (OpenSpec.ofChange wordTurnsWrong)

/-- 'packhorselaw01.WordOrder': WHATEVER THE INPUT: true; the input reads as it did. -/
def wordOrderSpec : ChangeSpec := { name := "wordOrder", fn := fun _ => fun
  | [d1, d2, d3] => { results := [.lit (.bool true)], args := [d1, d2, d3] }
  | _ => none }
def wordOrderRow : OpenClaim := { program := "ytcgghjjchfafiaa", sum := "222cd20a70820e5f8b0a0a8031d9f042cd1978335a13e0f470621dc89f2a1773", func := "packhorse/packhorselaw01.WordOrder", spec := "wordOrder", unfollowed := true, recurses := true, plainKeys := false, apart := false }
def WordOrderSaid : Prop := wordOrderRow.holds Try.pinned (OpenSpec.ofChange wordOrderSpec)

/-- ITS FALSE NEIGHBOUR: 'it returns false'. Refute it at one input. -/
def wordOrderWrong : ChangeSpec := { name := "wordOrder", fn := fun _ => fun
  | [d1, d2, d3] => { results := [.lit (.bool false)], args := [d1, d2, d3] }
  | _ => none }
def WordOrderWrongFalsely : Prop := wordOrderRow.holds Try.pinned (OpenSpec.ofChange wordOrderWrong)

/-- 'packhorselaw01.WordPatches': WHATEVER THE INPUT: true; the input reads as it did. -/
def wordPatchesSpec : ChangeSpec := { name := "wordPatches", fn := fun _ => fun
  | [d1, d2, d3] => { results := [.lit (.bool true)], args := [d1, d2, d3] }
  | _ => none }
def wordPatchesRow : OpenClaim := { program := "ytcgghjjchfafiaa", sum := "222cd20a70820e5f8b0a0a8031d9f042cd1978335a13e0f470621dc89f2a1773", func := "packhorse/packhorselaw01.WordPatches", spec := "wordPatches", unfollowed := true, recurses := true, plainKeys := false, apart := false }
def WordPatchesSaid : Prop := wordPatchesRow.holds Try.pinned (OpenSpec.ofChange wordPatchesSpec)

/-- ITS FALSE NEIGHBOUR: 'it returns false'. Refute it at one input. -/
def wordPatchesWrong : ChangeSpec := { name := "wordPatches", fn := fun _ => fun
  | [d1, d2, d3] => { results := [.lit (.bool false)], args := [d1, d2, d3] }
  | _ => none }
def WordPatchesWrongFalsely : Prop := wordPatchesRow.holds Try.pinned (OpenSpec.ofChange wordPatchesWrong)

/-- 'packhorselaw01.WordJoins': WHATEVER THE INPUT: true; the input reads as it did. -/
def wordJoinsSpec : ChangeSpec := { name := "wordJoins", fn := fun _ => fun
  | [d1, d2] => { results := [.lit (.bool true)], args := [d1, d2] }
  | _ => none }
def wordJoinsRow : OpenClaim := { program := "ytcgghjjchfafiaa", sum := "222cd20a70820e5f8b0a0a8031d9f042cd1978335a13e0f470621dc89f2a1773", func := "packhorse/packhorselaw01.WordJoins", spec := "wordJoins", unfollowed := true, recurses := true, plainKeys := false, apart := false }
def WordJoinsSaid : Prop := wordJoinsRow.holds Try.pinned (OpenSpec.ofChange wordJoinsSpec)

/-- ITS FALSE NEIGHBOUR: 'it returns false'. Refute it at one input. -/
def wordJoinsWrong : ChangeSpec := { name := "wordJoins", fn := fun _ => fun
  | [d1, d2] => { results := [.lit (.bool false)], args := [d1, d2] }
  | _ => none }
def WordJoinsWrongFalsely : Prop := wordJoinsRow.holds Try.pinned (OpenSpec.ofChange wordJoinsWrong)

/-- 'packhorselaw01.WordPuts': WHATEVER THE INPUT: true; the input reads as it did. -/
def wordPutsSpec : ChangeSpec := { name := "wordPuts", fn := fun _ => fun
  | [d1, d2, d3, d4] => { results := [.lit (.bool true)], args := [d1, d2, d3, d4] }
  | _ => none }
def wordPutsRow : OpenClaim := { program := "ytcgghjjchfafiaa", sum := "222cd20a70820e5f8b0a0a8031d9f042cd1978335a13e0f470621dc89f2a1773", func := "packhorse/packhorselaw01.WordPuts", spec := "wordPuts", unfollowed := true, recurses := true, plainKeys := false, apart := false }
def WordPutsSaid : Prop := wordPutsRow.holds Try.pinned (OpenSpec.ofChange wordPutsSpec)

/-- ITS FALSE NEIGHBOUR: 'it returns false'. Refute it at one input. -/
def wordPutsWrong : ChangeSpec := { name := "wordPuts", fn := fun _ => fun
  | [d1, d2, d3, d4] => { results := [.lit (.bool false)], args := [d1, d2, d3, d4] }
  | _ => none }
def WordPutsWrongFalsely : Prop := wordPutsRow.holds Try.pinned (OpenSpec.ofChange wordPutsWrong)

/-- 'packhorselaw01.WordBack': WHATEVER THE INPUT: true; the input reads as it did. -/
def wordBackSpec : ChangeSpec := { name := "wordBack", fn := fun _ => fun
  | [d1, d2, d3, d4] => { results := [.lit (.bool true)], args := [d1, d2, d3, d4] }
  | _ => none }
def wordBackRow : OpenClaim := { program := "ytcgghjjchfafiaa", sum := "222cd20a70820e5f8b0a0a8031d9f042cd1978335a13e0f470621dc89f2a1773", func := "packhorse/packhorselaw01.WordBack", spec := "wordBack", unfollowed := true, recurses := true, plainKeys := false, apart := false }
def WordBackSaid : Prop := wordBackRow.holds Try.pinned (OpenSpec.ofChange wordBackSpec)

/-- ITS FALSE NEIGHBOUR: 'it returns false'. Refute it at one input. -/
def wordBackWrong : ChangeSpec := { name := "wordBack", fn := fun _ => fun
  | [d1, d2, d3, d4] => { results := [.lit (.bool false)], args := [d1, d2, d3, d4] }
  | _ => none }
def WordBackWrongFalsely : Prop := wordBackRow.holds Try.pinned (OpenSpec.ofChange wordBackWrong)

/- THE SECOND FORM. 'bulk': how many values and letters a reading holds, each counted each time it is reached (what is shared counts as often as it is met; a slice's spare places count too). A statement '..UptoSaid' is the law's where the arguments, and the package variables that the reading takes, are together of bulk at most 1048576: NARROWER than '..Said'. Prove '..Said' where nothing that the law and all that it calls make is longer than what came in: it says more and counts as full. Else prove '..UptoSaid'. A law counts once. -/
mutual
def uptoBulk {H : Type} : DataW H → Nat
  | .lit (.string bytes) => bytes.length + 1
  | .lit _ => 1
  | .nil => 1
  | .ptr d => uptoBulk d + 1
  | .slice elems spare => uptoBulkAll elems + uptoBulkAll spare + 1
  | .agg parts => uptoBulkAll parts + 1
  | .iface _ d => uptoBulk d + 1
  | .map entries => uptoBulkEntries entries + 1
  | .held _ => 1
def uptoBulkAll {H : Type} : List (DataW H) → Nat
  | [] => 0
  | d :: r => uptoBulk d + uptoBulkAll r
def uptoBulkEntries {H : Type} : List (Lit × DataW H) → Nat
  | [] => 0
  | x :: r => uptoBulkEntry x + uptoBulkEntries r
def uptoBulkEntry {H : Type} : Lit × DataW H → Nat
  | (.string bytes, d) => bytes.length + uptoBulk d + 1
  | (_, d) => uptoBulk d + 1
 end
def uptoSmall : (H : Type) → List (DataW H) → Bool := fun _ ds => decide (uptoBulkAll ds ≤ 1048576)
def OpenSpec.upto (s : _root_.Go.ChangeSpec) : _root_.Go.OpenSpec := { _root_.Go.OpenSpec.ofChange s with cond := some uptoSmall }

/-- 'packhorselaw19.RestDoes', WHERE WHAT IT READS IS OF BULK AT MOST 1048576: true; the input reads as it did. -/
def restDoesUptoRow : OpenClaim := { program := "ytcgghjjchfafiaa", sum := "222cd20a70820e5f8b0a0a8031d9f042cd1978335a13e0f470621dc89f2a1773", func := "packhorse/packhorselaw19.RestDoes", spec := "restDoes", plainKeys := false, apart := false, narrowed := true }
def RestDoesUptoSaid : Prop := restDoesUptoRow.holds Try.pinned (OpenSpec.upto restDoesSpec)

/-- 'packhorselaw19.RestQuiet', WHERE WHAT IT READS IS OF BULK AT MOST 1048576: true; the input reads as it did. -/
def restQuietUptoRow : OpenClaim := { program := "ytcgghjjchfafiaa", sum := "222cd20a70820e5f8b0a0a8031d9f042cd1978335a13e0f470621dc89f2a1773", func := "packhorse/packhorselaw19.RestQuiet", spec := "restQuiet", plainKeys := false, apart := false, narrowed := true }
def RestQuietUptoSaid : Prop := restQuietUptoRow.holds Try.pinned (OpenSpec.upto restQuietSpec)

/-- 'packhorselaw19.RestFull', WHERE WHAT IT READS IS OF BULK AT MOST 1048576: true; the input reads as it did. -/
def restFullUptoRow : OpenClaim := { program := "ytcgghjjchfafiaa", sum := "222cd20a70820e5f8b0a0a8031d9f042cd1978335a13e0f470621dc89f2a1773", func := "packhorse/packhorselaw19.RestFull", spec := "restFull", plainKeys := false, apart := false, narrowed := true }
def RestFullUptoSaid : Prop := restFullUptoRow.holds Try.pinned (OpenSpec.upto restFullSpec)

/-- 'packhorselaw01.WordSums', WHERE WHAT IT READS IS OF BULK AT MOST 1048576: true; the input reads as it did. -/
def wordSumsUptoRow : OpenClaim := { program := "ytcgghjjchfafiaa", sum := "222cd20a70820e5f8b0a0a8031d9f042cd1978335a13e0f470621dc89f2a1773", func := "packhorse/packhorselaw01.WordSums", spec := "wordSums", unfollowed := true, recurses := true, plainKeys := false, apart := false, narrowed := true }
def WordSumsUptoSaid : Prop := wordSumsUptoRow.holds Try.pinned (OpenSpec.upto wordSumsSpec)

/-- 'packhorselaw01.WordWhole', WHERE WHAT IT READS IS OF BULK AT MOST 1048576: true; the input reads as it did. -/
def wordWholeUptoRow : OpenClaim := { program := "ytcgghjjchfafiaa", sum := "222cd20a70820e5f8b0a0a8031d9f042cd1978335a13e0f470621dc89f2a1773", func := "packhorse/packhorselaw01.WordWhole", spec := "wordWhole", unfollowed := true, recurses := true, plainKeys := false, apart := false, narrowed := true }
def WordWholeUptoSaid : Prop := wordWholeUptoRow.holds Try.pinned (OpenSpec.upto wordWholeSpec)

/-- 'packhorselaw01.WordTurns', WHERE WHAT IT READS IS OF BULK AT MOST 1048576: true; the input reads as it did. -/
def wordTurnsUptoRow : OpenClaim := { program := "ytcgghjjchfafiaa", sum := "222cd20a70820e5f8b0a0a8031d9f042cd1978335a13e0f470621dc89f2a1773", func := "packhorse/packhorselaw01.WordTurns", spec := "wordTurns", unfollowed := true, recurses := true, plainKeys := false, apart := false, narrowed := true }
def WordTurnsUptoSaid : Prop := wordTurnsUptoRow.holds Try.pinned (OpenSpec.upto wordTurnsSpec)

/-- 'packhorselaw01.WordOrder', WHERE WHAT IT READS IS OF BULK AT MOST 1048576: true; the input reads as it did. -/
def wordOrderUptoRow : OpenClaim := { program := "ytcgghjjchfafiaa", sum := "222cd20a70820e5f8b0a0a8031d9f042cd1978335a13e0f470621dc89f2a1773", func := "packhorse/packhorselaw01.WordOrder", spec := "wordOrder", unfollowed := true, recurses := true, plainKeys := false, apart := false, narrowed := true }
def WordOrderUptoSaid : Prop := wordOrderUptoRow.holds Try.pinned (OpenSpec.upto wordOrderSpec)

/-- 'packhorselaw01.WordPatches', WHERE WHAT IT READS IS OF BULK AT MOST 1048576: true; the input reads as it did. -/
def wordPatchesUptoRow : OpenClaim := { program := "ytcgghjjchfafiaa", sum := "222cd20a70820e5f8b0a0a8031d9f042cd1978335a13e0f470621dc89f2a1773", func := "packhorse/packhorselaw01.WordPatches", spec := "wordPatches", unfollowed := true, recurses := true, plainKeys := false, apart := false, narrowed := true }
def WordPatchesUptoSaid : Prop := wordPatchesUptoRow.holds Try.pinned (OpenSpec.upto wordPatchesSpec)

/-- 'packhorselaw01.WordJoins', WHERE WHAT IT READS IS OF BULK AT MOST 1048576: true; the input reads as it did. -/
def wordJoinsUptoRow : OpenClaim := { program := "ytcgghjjchfafiaa", sum := "222cd20a70820e5f8b0a0a8031d9f042cd1978335a13e0f470621dc89f2a1773", func := "packhorse/packhorselaw01.WordJoins", spec := "wordJoins", unfollowed := true, recurses := true, plainKeys := false, apart := false, narrowed := true }
def WordJoinsUptoSaid : Prop := wordJoinsUptoRow.holds Try.pinned (OpenSpec.upto wordJoinsSpec)

/-- 'packhorselaw01.WordPuts', WHERE WHAT IT READS IS OF BULK AT MOST 1048576: true; the input reads as it did. -/
def wordPutsUptoRow : OpenClaim := { program := "ytcgghjjchfafiaa", sum := "222cd20a70820e5f8b0a0a8031d9f042cd1978335a13e0f470621dc89f2a1773", func := "packhorse/packhorselaw01.WordPuts", spec := "wordPuts", unfollowed := true, recurses := true, plainKeys := false, apart := false, narrowed := true }
def WordPutsUptoSaid : Prop := wordPutsUptoRow.holds Try.pinned (OpenSpec.upto wordPutsSpec)

/-- 'packhorselaw01.WordBack', WHERE WHAT IT READS IS OF BULK AT MOST 1048576: true; the input reads as it did. -/
def wordBackUptoRow : OpenClaim := { program := "ytcgghjjchfafiaa", sum := "222cd20a70820e5f8b0a0a8031d9f042cd1978335a13e0f470621dc89f2a1773", func := "packhorse/packhorselaw01.WordBack", spec := "wordBack", unfollowed := true, recurses := true, plainKeys := false, apart := false, narrowed := true }
def WordBackUptoSaid : Prop := wordBackUptoRow.holds Try.pinned (OpenSpec.upto wordBackSpec)

end Rows
end Go.Proofs.Ytcgghjjchfafiaa
