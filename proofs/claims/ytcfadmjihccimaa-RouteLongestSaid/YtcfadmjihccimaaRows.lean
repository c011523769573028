/-
  No cell of these rows narrows 'for every input' (looked for: loops, veiled, ifaces, maps, wideKeys, modest, calm, conditions, laid).
  DERIVED. THE GIVEN ROWS OF THIS SEAT. 8 by the template 'for every input the law returns true; each argument reads behind the call as it read before'; 0 by the template 'total and deterministic' (their statements: YtcfadmjihccimaaTotals.lean).
  GIVEN WITH THE SEED: the statements are not yours to turn. If you find one false, say at which input.
  Laid BY PROGRAM, IN A SANDBOX (cutbox-rows.mjs): the forced cells as the released guide's own fill.sh prints them over the translation de741aa58cda9bc9… (all of the seat's roots in one cut). By AI agents, Wed Nov 11 2026. No macro, syntax, notation, axiom, sorry.
-/
import Derived.Test.YtcfadmjihccimaaChecked
import GoSem.Claim
import GoSem.ClaimJoined
import GoSem.ClaimMapViews
import Derived.JoinedTies
import Derived.KernelRfl
namespace Go.Proofs.Ytcfadmjihccimaa
/- THE CELL 'sum', in the pinned program and in every row, IS THE sha256 OF THE DUMP (.gsa) THAT YtcfadmjihccimaaProg.lean LOADS. Nothing in Lean hashes anything: it is a label: what it is worth is what the hold of that sum in a sandbox is worth. -/
noncomputable def Try.pinned : Pinned := { name := "ytcfadmjihccimaa", sum := "de741aa58cda9bc95e27398d2fab56dd11570652d076ee0ce2671e88352f9f46", checked := Try.checked }
namespace Rows
def none {H : Type} : Left H := { results := [], args := [] }

/-- 'packhorselaw12.IcmpForms': WHATEVER THE INPUT: true; the input reads as it did. -/
def icmpFormsSpec : ChangeSpec := { name := "icmpForms", fn := fun _ => fun
  | [d1, d2] => { results := [.lit (.bool true)], args := [d1, d2] }
  | _ => none }
def icmpFormsRow : OpenClaim := { program := "ytcfadmjihccimaa", sum := "de741aa58cda9bc95e27398d2fab56dd11570652d076ee0ce2671e88352f9f46", func := "packhorse/packhorselaw12.IcmpForms", spec := "icmpForms", unfollowed := true, recurses := true, plainKeys := false, apart := false }
def IcmpFormsSaid : Prop := icmpFormsRow.holds Try.pinned (OpenSpec.ofChange icmpFormsSpec)

/-- ITS FALSE NEIGHBOUR: 'it returns false'. Refute it at one input. -/
def icmpFormsWrong : ChangeSpec := { name := "icmpForms", fn := fun _ => fun
  | [d1, d2] => { results := [.lit (.bool false)], args := [d1, d2] }
  | _ => none }
def IcmpFormsWrongFalsely : Prop := icmpFormsRow.holds Try.pinned (OpenSpec.ofChange icmpFormsWrong)

/-- 'packhorselaw12.IcmpTells': WHATEVER THE INPUT: true; the input reads as it did. -/
def icmpTellsSpec : ChangeSpec := { name := "icmpTells", fn := fun _ => fun
  | [d1, d2] => { results := [.lit (.bool true)], args := [d1, d2] }
  | _ => none }
def icmpTellsRow : OpenClaim := { program := "ytcfadmjihccimaa", sum := "de741aa58cda9bc95e27398d2fab56dd11570652d076ee0ce2671e88352f9f46", func := "packhorse/packhorselaw12.IcmpTells", spec := "icmpTells", unfollowed := true, recurses := true, plainKeys := false, apart := false }
def IcmpTellsSaid : Prop := icmpTellsRow.holds Try.pinned (OpenSpec.ofChange icmpTellsSpec)

/-- ITS FALSE NEIGHBOUR: 'it returns false'. Refute it at one input. -/
def icmpTellsWrong : ChangeSpec := { name := "icmpTells", fn := fun _ => fun
  | [d1, d2] => { results := [.lit (.bool false)], args := [d1, d2] }
  | _ => none }
def IcmpTellsWrongFalsely : Prop := icmpTellsRow.holds Try.pinned (OpenSpec.ofChange icmpTellsWrong)

/-- 'packhorselaw12.IcmpPaths': WHATEVER THE INPUT: true; the input reads as it did. -/
def icmpPathsSpec : ChangeSpec := { name := "icmpPaths", fn := fun _ => fun
  | [d] => { results := [.lit (.bool true)], args := [d] }
  | _ => none }
def icmpPathsRow : OpenClaim := { program := "ytcfadmjihccimaa", sum := "de741aa58cda9bc95e27398d2fab56dd11570652d076ee0ce2671e88352f9f46", func := "packhorse/packhorselaw12.IcmpPaths", spec := "icmpPaths", unfollowed := true, recurses := true, plainKeys := false, apart := false }
def IcmpPathsSaid : Prop := icmpPathsRow.holds Try.pinned (OpenSpec.ofChange icmpPathsSpec)

/-- ITS FALSE NEIGHBOUR: 'it returns false'. Refute it at one input. -/
def icmpPathsWrong : ChangeSpec := { name := "icmpPaths", fn := fun _ => fun
  | [d] => { results := [.lit (.bool false)], args := [d] }
  | _ => none }
def IcmpPathsWrongFalsely : Prop := icmpPathsRow.holds Try.pinned (OpenSpec.ofChange icmpPathsWrong)

/-- 'packhorselaw12.IcmpQuotes': WHATEVER THE INPUT: true; the input reads as it did. -/
def icmpQuotesSpec : ChangeSpec := { name := "icmpQuotes", fn := fun _ => fun
  | [d1, d2] => { results := [.lit (.bool true)], args := [d1, d2] }
  | _ => none }
def icmpQuotesRow : OpenClaim := { program := "ytcfadmjihccimaa", sum := "de741aa58cda9bc95e27398d2fab56dd11570652d076ee0ce2671e88352f9f46", func := "packhorse/packhorselaw12.IcmpQuotes", spec := "icmpQuotes", unfollowed := true, recurses := true, plainKeys := false, apart := false }
def IcmpQuotesSaid : Prop := icmpQuotesRow.holds Try.pinned (OpenSpec.ofChange icmpQuotesSpec)

/-- ITS FALSE NEIGHBOUR: 'it returns false'. Refute it at one input. -/
def icmpQuotesWrong : ChangeSpec := { name := "icmpQuotes", fn := fun _ => fun
  | [d1, d2] => { results := [.lit (.bool false)], args := [d1, d2] }
  | _ => none }
def IcmpQuotesWrongFalsely : Prop := icmpQuotesRow.holds Try.pinned (OpenSpec.ofChange icmpQuotesWrong)

/-- 'packhorselaw12.IcmpQuoteBack': WHATEVER THE INPUT: true; the input reads as it did. -/
def icmpQuoteBackSpec : ChangeSpec := { name := "icmpQuoteBack", fn := fun _ => fun
  | [d1, d2, d3, d4, d5] => { results := [.lit (.bool true)], args := [d1, d2, d3, d4, d5] }
  | _ => none }
def icmpQuoteBackRow : OpenClaim := { program := "ytcfadmjihccimaa", sum := "de741aa58cda9bc95e27398d2fab56dd11570652d076ee0ce2671e88352f9f46", func := "packhorse/packhorselaw12.IcmpQuoteBack", spec := "icmpQuoteBack", unfollowed := true, recurses := true, plainKeys := false, apart := false }
def IcmpQuoteBackSaid : Prop := icmpQuoteBackRow.holds Try.pinned (OpenSpec.ofChange icmpQuoteBackSpec)

/-- ITS FALSE NEIGHBOUR: 'it returns false'. Refute it at one input. -/
def icmpQuoteBackWrong : ChangeSpec := { name := "icmpQuoteBack", fn := fun _ => fun
  | [d1, d2, d3, d4, d5] => { results := [.lit (.bool false)], args := [d1, d2, d3, d4, d5] }
  | _ => none }
def IcmpQuoteBackWrongFalsely : Prop := icmpQuoteBackRow.holds Try.pinned (OpenSpec.ofChange icmpQuoteBackWrong)

/-- 'packhorselaw10.RouteDoes': WHATEVER THE INPUT: true; the input reads as it did. -/
def routeDoesSpec : ChangeSpec := { name := "routeDoes", fn := fun _ => fun
  | [d] => { results := [.lit (.bool true)], args := [d] }
  | _ => none }
def routeDoesRow : OpenClaim := { program := "ytcfadmjihccimaa", sum := "de741aa58cda9bc95e27398d2fab56dd11570652d076ee0ce2671e88352f9f46", func := "packhorse/packhorselaw10.RouteDoes", spec := "routeDoes", unfollowed := true, recurses := true, plainKeys := false, apart := false }
def RouteDoesSaid : Prop := routeDoesRow.holds Try.pinned (OpenSpec.ofChange routeDoesSpec)

/-- ITS FALSE NEIGHBOUR: 'it returns false'. Refute it at one input. -/
def routeDoesWrong : ChangeSpec := { name := "routeDoes", fn := fun _ => fun
  | [d] => { results := [.lit (.bool false)], args := [d] }
  | _ => none }
def RouteDoesWrongFalsely : Prop := routeDoesRow.holds Try.pinned (OpenSpec.ofChange routeDoesWrong)

/-- 'packhorselaw10.RouteLongest': WHATEVER THE INPUT: true; the input reads as it did. -/
def routeLongestSpec : ChangeSpec := { name := "routeLongest", fn := fun _ => fun
  | [d1, d2] => { results := [.lit (.bool true)], args := [d1, d2] }
  | _ => none }
def routeLongestRow : OpenClaim := { program := "ytcfadmjihccimaa", sum := "de741aa58cda9bc95e27398d2fab56dd11570652d076ee0ce2671e88352f9f46", func := "packhorse/packhorselaw10.RouteLongest", spec := "routeLongest", unfollowed := true, recurses := true, plainKeys := false, apart := false }
def RouteLongestSaid : Prop := routeLongestRow.holds Try.pinned (OpenSpec.ofChange routeLongestSpec)

/-- ITS FALSE NEIGHBOUR: 'it returns false'. Refute it at one input. -/
def routeLongestWrong : ChangeSpec := { name := "routeLongest", fn := fun _ => fun
  | [d1, d2] => { results := [.lit (.bool false)], args := [d1, d2] }
  | _ => none }
def RouteLongestWrongFalsely : Prop := routeLongestRow.holds Try.pinned (OpenSpec.ofChange routeLongestWrong)

/-- 'packhorselaw10.RouteWhere': WHATEVER THE INPUT: true; the input reads as it did. -/
def routeWhereSpec : ChangeSpec := { name := "routeWhere", fn := fun _ => fun
  | [d1, d2] => { results := [.lit (.bool true)], args := [d1, d2] }
  | _ => none }
def routeWhereRow : OpenClaim := { program := "ytcfadmjihccimaa", sum := "de741aa58cda9bc95e27398d2fab56dd11570652d076ee0ce2671e88352f9f46", func := "packhorse/packhorselaw10.RouteWhere", spec := "routeWhere", unfollowed := true, recurses := true, plainKeys := false, apart := false }
def RouteWhereSaid : Prop := routeWhereRow.holds Try.pinned (OpenSpec.ofChange routeWhereSpec)

/-- ITS FALSE NEIGHBOUR: 'it returns false'. Refute it at one input. -/
def routeWhereWrong : ChangeSpec := { name := "routeWhere", fn := fun _ => fun
  | [d1, d2] => { results := [.lit (.bool false)], args := [d1, d2] }
  | _ => none }
def RouteWhereWrongFalsely : Prop := routeWhereRow.holds Try.pinned (OpenSpec.ofChange routeWhereWrong)

/- THE SECOND FORM. 'bulk': how many values and letters a reading holds, each counted each time it is reached (what is shared counts as often as it is met; a slice's spare places count too). A statement '..UptoSaid' is the law's where the arguments, and the package variables that the reading takes, are together of bulk at most 1048576: NARROWER than '..Said'. Prove '..Said' where nothing that the law and all that it calls make is longer than what came in: it says more and counts as full. Else prove '..UptoSaid'. A law counts once. -/
mutual
def uptoBulk {H : Type} : DataW H → Nat
  | .lit (.string bytes) => bytes.length + 1
  | .lit _ => 1
  | .nil => 1
  | .ptr d => uptoBulk d + 1
  | .slice elems spare => uptoBulkAll elems + uptoBulkAll spare + 1
  | .agg parts => uptoBulkAll parts + 1
  | .iface _ d => uptoBulk d + 1
  | .map entries => uptoBulkEntries entries + 1
  | .held _ => 1
def uptoBulkAll {H : Type} : List (DataW H) → Nat
  | [] => 0
  | d :: r => uptoBulk d + uptoBulkAll r
def uptoBulkEntries {H : Type} : List (Lit × DataW H) → Nat
  | [] => 0
  | x :: r => uptoBulkEntry x + uptoBulkEntries r
def uptoBulkEntry {H : Type} : Lit × DataW H → Nat
  | (.string bytes, d) => bytes.length + uptoBulk d + 1
  | (_, d) => uptoBulk d + 1
 end
def uptoSmall : (H : Type) → List (DataW H) → Bool := fun _ ds => decide (uptoBulkAll ds ≤ 1048576)
def OpenSpec.upto (s : _root_.Go.ChangeSpec) : _root_.Go.OpenSpec := { _root_.Go.OpenSpec.ofChange s with cond := some uptoSmall }

/-- 'packhorselaw12.IcmpForms', WHERE WHAT IT READS IS OF BULK AT MOST 1048576: true; the input reads as it did. -/
def icmpFormsUptoRow : OpenClaim := { program := "ytcfadmjihccimaa", sum := "de741aa58cda9bc95e27398d2fab56dd11570652d076ee0ce2671e88352f9f46", func := "packhorse/packhorselaw12.IcmpForms", spec := "icmpForms", unfollowed := true, recurses := true, plainKeys := false, apart := false, narrowed := true }
def IcmpFormsUptoSaid : Prop := icmpFormsUptoRow.holds Try.pinned (OpenSpec.upto icmpFormsSpec)

/-- 'packhorselaw12.IcmpTells', WHERE WHAT IT READS IS OF BULK AT MOST 1048576: true; the input reads as it did. -/
def icmpTellsUptoRow : OpenClaim := { program := "ytcfadmjihccimaa", sum := "de741aa58cda9bc95e27398d2fab56dd11570652d076ee0ce2671e88352f9f46", func := "packhorse/packhorselaw12.IcmpTells", spec := "icmpTells", unfollowed := true, recurses := true, plainKeys := false, apart := false, narrowed := true }
def IcmpTellsUptoSaid : Prop := icmpTellsUptoRow.holds Try.pinned (OpenSpec.upto icmpTellsSpec)

/-- 'packhorselaw12.IcmpPaths', WHERE WHAT IT READS IS OF BULK AT MOST 1048576: true; the input reads as it did. -/
def icmpPathsUptoRow : OpenClaim := { program := "ytcfadmjihccimaa", sum := "de741aa58cda9bc95e27398d2fab56dd11570652d076ee0ce2671e88352f9f46", func := "packhorse/packhorselaw12.IcmpPaths", spec := "icmpPaths", unfollowed := true, recurses := true, plainKeys := false, apart := false, narrowed := true }
def IcmpPathsUptoSaid : Prop := icmpPathsUptoRow.holds Try.pinned (OpenSpec.upto icmpPathsSpec)

/-- 'packhorselaw12.IcmpQuotes', WHERE WHAT IT READS IS OF BULK AT MOST 1048576: true; the input reads as it did. -/
def icmpQuotesUptoRow : OpenClaim := { program := "ytcfadmjihccimaa", sum := "de741aa58cda9bc95e27398d2fab56dd11570652d076ee0ce2671e88352f9f46", func := "packhorse/packhorselaw12.IcmpQuotes", spec := "icmpQuotes", unfollowed := true, recurses := true, plainKeys := false, apart := false, narrowed := true }
def IcmpQuotesUptoSaid : Prop := icmpQuotesUptoRow.holds Try.pinned (OpenSpec.upto icmpQuotesSpec)

/-- 'packhorselaw12.IcmpQuoteBack', WHERE WHAT IT READS IS OF BULK AT MOST 1048576: true; the input reads as it did. -/
def icmpQuoteBackUptoRow : OpenClaim := { program := "ytcfadmjihccimaa", sum := "de741aa58cda9bc95e27398d2fab56dd11570652d076ee0ce2671e88352f9f46", func := "packhorse/packhorselaw12.IcmpQuoteBack", spec := "icmpQuoteBack", unfollowed := true, recurses := true, plainKeys := false, apart := false, narrowed := true }
def IcmpQuoteBackUptoSaid : Prop := icmpQuoteBackUptoRow.holds Try.pinned (OpenSpec.upto icmpQuoteBackSpec)

/-- 'packhorselaw10.RouteDoes', WHERE WHAT IT READS IS OF BULK AT MOST 1048576: true; the input reads as it did. -/
def routeDoesUptoRow : OpenClaim := { program := "ytcfadmjihccimaa", sum := "de741aa58cda9bc95e27398d2fab56dd11570652d076ee0ce2671e88352f9f46", func := "packhorse/packhorselaw10.RouteDoes", spec := "routeDoes", unfollowed := true, recurses := true, plainKeys := false, apart := false, narrowed := true }
def RouteDoesUptoSaid : Prop := routeDoesUptoRow.holds Try.pinned (OpenSpec.upto routeDoesSpec)

/-- 'packhorselaw10.RouteLongest', WHERE WHAT IT READS IS OF BULK AT MOST 1048576: true; the input reads as it did. -/
def routeLongestUptoRow : OpenClaim := { program := "ytcfadmjihccimaa", sum := "de741aa58cda9bc95e27398d2fab56dd11570652d076ee0ce2671e88352f9f46", func := "packhorse/packhorselaw10.RouteLongest", spec := "routeLongest", unfollowed := true, recurses := true, plainKeys := false, apart := false, narrowed := true }
def RouteLongestUptoSaid : Prop := routeLongestUptoRow.holds Try.pinned (OpenSpec.upto routeLongestSpec)

/-- 'packhorselaw10.RouteWhere', WHERE WHAT IT READS IS OF BULK AT MOST 1048576: true; the input reads as it did. -/
def routeWhereUptoRow : OpenClaim := { program := "ytcfadmjihccimaa", sum := "de741aa58cda9bc95e27398d2fab56dd11570652d076ee0ce2671e88352f9f46", func := "packhorse/packhorselaw10.RouteWhere", spec := "routeWhere", unfollowed := true, recurses := true, plainKeys := false, apart := false, narrowed := true }
def RouteWhereUptoSaid : Prop := routeWhereUptoRow.holds Try.pinned (OpenSpec.upto routeWhereSpec)

end Rows
end Go.Proofs.Ytcfadmjihccimaa
