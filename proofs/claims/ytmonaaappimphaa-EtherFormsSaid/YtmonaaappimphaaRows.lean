/-
  No cell of these rows narrows 'for every input' (looked for: loops, veiled, ifaces, maps, wideKeys, modest, calm, conditions, laid).
  DERIVED. THE GIVEN ROWS OF THIS SEAT. 9 by the template 'for every input the law returns true; each argument reads behind the call as it read before'; 0 by the template 'total and deterministic' (their statements: YtmonaaappimphaaTotals.lean).
  GIVEN WITH THE SEED: the statements are not yours to turn. If you find one false, say at which input.
  Laid BY PROGRAM, IN A SANDBOX (cutbox-rows.mjs): the forced cells as the released guide's own fill.sh prints them over the translation 8eefc560997b5972… (all of the seat's roots in one cut). By AI agents, Wed Nov 11 2026. No macro, syntax, notation, axiom, sorry.
-/
import Derived.Test.YtmonaaappimphaaChecked
import GoSem.Claim
import GoSem.ClaimJoined
import GoSem.ClaimMapViews
import Derived.JoinedTies
import Derived.KernelRfl
namespace Go.Proofs.Ytmonaaappimphaa
/- THE CELL 'sum', in the pinned program and in every row, IS THE sha256 OF THE DUMP (.gsa) THAT YtmonaaappimphaaProg.lean LOADS. Nothing in Lean hashes anything: it is a label: what it is worth is what the hold of that sum in a sandbox is worth. -/
noncomputable def Try.pinned : Pinned := { name := "ytmonaaappimphaa", sum := "8eefc560997b59729857677b9ab0ae5fe81e6401c7af8db5a7bfc7f953bcfcad", checked := Try.checked }
namespace Rows
def none {H : Type} : Left H := { results := [], args := [] }

/-- 'packhorselaw07.EtherForms': WHATEVER THE INPUT: true; the input reads as it did. -/
def etherFormsSpec : ChangeSpec := { name := "etherForms", fn := fun _ => fun
  | [d1, d2, d3] => { results := [.lit (.bool true)], args := [d1, d2, d3] }
  | _ => none }
def etherFormsRow : OpenClaim := { program := "ytmonaaappimphaa", sum := "8eefc560997b59729857677b9ab0ae5fe81e6401c7af8db5a7bfc7f953bcfcad", func := "packhorse/packhorselaw07.EtherForms", spec := "etherForms", apart := false }
def EtherFormsSaid : Prop := etherFormsRow.holds Try.pinned (OpenSpec.ofChange etherFormsSpec)

/-- ITS FALSE NEIGHBOUR: 'it returns false'. Refute it at one input. -/
def etherFormsWrong : ChangeSpec := { name := "etherForms", fn := fun _ => fun
  | [d1, d2, d3] => { results := [.lit (.bool false)], args := [d1, d2, d3] }
  | _ => none }
def EtherFormsWrongFalsely : Prop := etherFormsRow.holds Try.pinned (OpenSpec.ofChange etherFormsWrong)

/-- 'packhorselaw07.EtherMine': WHATEVER THE INPUT: true; the input reads as it did. -/
def etherMineSpec : ChangeSpec := { name := "etherMine", fn := fun _ => fun
  | [d1, d2, d3] => { results := [.lit (.bool true)], args := [d1, d2, d3] }
  | _ => none }
def etherMineRow : OpenClaim := { program := "ytmonaaappimphaa", sum := "8eefc560997b59729857677b9ab0ae5fe81e6401c7af8db5a7bfc7f953bcfcad", func := "packhorse/packhorselaw07.EtherMine", spec := "etherMine", apart := false }
def EtherMineSaid : Prop := etherMineRow.holds Try.pinned (OpenSpec.ofChange etherMineSpec)

/-- ITS FALSE NEIGHBOUR: 'it returns false'. Refute it at one input. -/
def etherMineWrong : ChangeSpec := { name := "etherMine", fn := fun _ => fun
  | [d1, d2, d3] => { results := [.lit (.bool false)], args := [d1, d2, d3] }
  | _ => none }
def EtherMineWrongFalsely : Prop := etherMineRow.holds Try.pinned (OpenSpec.ofChange etherMineWrong)

/-- 'packhorselaw07.EtherBack': WHATEVER THE INPUT: true; the input reads as it did. -/
def etherBackSpec : ChangeSpec := { name := "etherBack", fn := fun _ => fun
  | [d1, d2, d3] => { results := [.lit (.bool true)], args := [d1, d2, d3] }
  | _ => none }
def etherBackRow : OpenClaim := { program := "ytmonaaappimphaa", sum := "8eefc560997b59729857677b9ab0ae5fe81e6401c7af8db5a7bfc7f953bcfcad", func := "packhorse/packhorselaw07.EtherBack", spec := "etherBack", apart := false }
def EtherBackSaid : Prop := etherBackRow.holds Try.pinned (OpenSpec.ofChange etherBackSpec)

/-- ITS FALSE NEIGHBOUR: 'it returns false'. Refute it at one input. -/
def etherBackWrong : ChangeSpec := { name := "etherBack", fn := fun _ => fun
  | [d1, d2, d3] => { results := [.lit (.bool false)], args := [d1, d2, d3] }
  | _ => none }
def EtherBackWrongFalsely : Prop := etherBackRow.holds Try.pinned (OpenSpec.ofChange etherBackWrong)

/-- 'packhorselaw07.EtherApart': WHATEVER THE INPUT: true; the input reads as it did. -/
def etherApartSpec : ChangeSpec := { name := "etherApart", fn := fun _ => fun
  | [d1, d2, d3, d4, d5] => { results := [.lit (.bool true)], args := [d1, d2, d3, d4, d5] }
  | _ => none }
def etherApartRow : OpenClaim := { program := "ytmonaaappimphaa", sum := "8eefc560997b59729857677b9ab0ae5fe81e6401c7af8db5a7bfc7f953bcfcad", func := "packhorse/packhorselaw07.EtherApart", spec := "etherApart", apart := false }
def EtherApartSaid : Prop := etherApartRow.holds Try.pinned (OpenSpec.ofChange etherApartSpec)

/-- ITS FALSE NEIGHBOUR: 'it returns false'. Refute it at one input. -/
def etherApartWrong : ChangeSpec := { name := "etherApart", fn := fun _ => fun
  | [d1, d2, d3, d4, d5] => { results := [.lit (.bool false)], args := [d1, d2, d3, d4, d5] }
  | _ => none }
def EtherApartWrongFalsely : Prop := etherApartRow.holds Try.pinned (OpenSpec.ofChange etherApartWrong)

/-- 'packhorselaw07.EtherPads': WHATEVER THE INPUT: true; the input reads as it did. -/
def etherPadsSpec : ChangeSpec := { name := "etherPads", fn := fun _ => fun
  | [d1, d2] => { results := [.lit (.bool true)], args := [d1, d2] }
  | _ => none }
def etherPadsRow : OpenClaim := { program := "ytmonaaappimphaa", sum := "8eefc560997b59729857677b9ab0ae5fe81e6401c7af8db5a7bfc7f953bcfcad", func := "packhorse/packhorselaw07.EtherPads", spec := "etherPads", apart := false }
def EtherPadsSaid : Prop := etherPadsRow.holds Try.pinned (OpenSpec.ofChange etherPadsSpec)

/-- ITS FALSE NEIGHBOUR: 'it returns false'. Refute it at one input. -/
def etherPadsWrong : ChangeSpec := { name := "etherPads", fn := fun _ => fun
  | [d1, d2] => { results := [.lit (.bool false)], args := [d1, d2] }
  | _ => none }
def EtherPadsWrongFalsely : Prop := etherPadsRow.holds Try.pinned (OpenSpec.ofChange etherPadsWrong)

/-- 'packhorselaw08.ArpLearns': WHATEVER THE INPUT: true; the input reads as it did. -/
def arpLearnsSpec : ChangeSpec := { name := "arpLearns", fn := fun _ => fun
  | [d] => { results := [.lit (.bool true)], args := [d] }
  | _ => none }
def arpLearnsRow : OpenClaim := { program := "ytmonaaappimphaa", sum := "8eefc560997b59729857677b9ab0ae5fe81e6401c7af8db5a7bfc7f953bcfcad", func := "packhorse/packhorselaw08.ArpLearns", spec := "arpLearns", unfollowed := true, recurses := true, apart := false }
def ArpLearnsSaid : Prop := arpLearnsRow.holds Try.pinned (OpenSpec.ofChange arpLearnsSpec)

/-- ITS FALSE NEIGHBOUR: 'it returns false'. Refute it at one input. -/
def arpLearnsWrong : ChangeSpec := { name := "arpLearns", fn := fun _ => fun
  | [d] => { results := [.lit (.bool false)], args := [d] }
  | _ => none }
def ArpLearnsWrongFalsely : Prop := arpLearnsRow.holds Try.pinned (OpenSpec.ofChange arpLearnsWrong)

/-- 'packhorselaw08.ArpOnce': WHATEVER THE INPUT: true; the input reads as it did. -/
def arpOnceSpec : ChangeSpec := { name := "arpOnce", fn := fun _ => fun
  | [d] => { results := [.lit (.bool true)], args := [d] }
  | _ => none }
def arpOnceRow : OpenClaim := { program := "ytmonaaappimphaa", sum := "8eefc560997b59729857677b9ab0ae5fe81e6401c7af8db5a7bfc7f953bcfcad", func := "packhorse/packhorselaw08.ArpOnce", spec := "arpOnce", unfollowed := true, recurses := true, apart := false }
def ArpOnceSaid : Prop := arpOnceRow.holds Try.pinned (OpenSpec.ofChange arpOnceSpec)

/-- ITS FALSE NEIGHBOUR: 'it returns false'. Refute it at one input. -/
def arpOnceWrong : ChangeSpec := { name := "arpOnce", fn := fun _ => fun
  | [d] => { results := [.lit (.bool false)], args := [d] }
  | _ => none }
def ArpOnceWrongFalsely : Prop := arpOnceRow.holds Try.pinned (OpenSpec.ofChange arpOnceWrong)

/-- 'packhorselaw08.ArpAges': WHATEVER THE INPUT: true; the input reads as it did. -/
def arpAgesSpec : ChangeSpec := { name := "arpAges", fn := fun _ => fun
  | [d1, d2, d3] => { results := [.lit (.bool true)], args := [d1, d2, d3] }
  | _ => none }
def arpAgesRow : OpenClaim := { program := "ytmonaaappimphaa", sum := "8eefc560997b59729857677b9ab0ae5fe81e6401c7af8db5a7bfc7f953bcfcad", func := "packhorse/packhorselaw08.ArpAges", spec := "arpAges", unfollowed := true, recurses := true, apart := false }
def ArpAgesSaid : Prop := arpAgesRow.holds Try.pinned (OpenSpec.ofChange arpAgesSpec)

/-- ITS FALSE NEIGHBOUR: 'it returns false'. Refute it at one input. -/
def arpAgesWrong : ChangeSpec := { name := "arpAges", fn := fun _ => fun
  | [d1, d2, d3] => { results := [.lit (.bool false)], args := [d1, d2, d3] }
  | _ => none }
def ArpAgesWrongFalsely : Prop := arpAgesRow.holds Try.pinned (OpenSpec.ofChange arpAgesWrong)

/-- 'packhorselaw08.ArpForms': WHATEVER THE INPUT: true; the input reads as it did. -/
def arpFormsSpec : ChangeSpec := { name := "arpForms", fn := fun _ => fun
  | [d1, d2] => { results := [.lit (.bool true)], args := [d1, d2] }
  | _ => none }
def arpFormsRow : OpenClaim := { program := "ytmonaaappimphaa", sum := "8eefc560997b59729857677b9ab0ae5fe81e6401c7af8db5a7bfc7f953bcfcad", func := "packhorse/packhorselaw08.ArpForms", spec := "arpForms", unfollowed := true, recurses := true, apart := false }
def ArpFormsSaid : Prop := arpFormsRow.holds Try.pinned (OpenSpec.ofChange arpFormsSpec)

/-- ITS FALSE NEIGHBOUR: 'it returns false'. Refute it at one input. -/
def arpFormsWrong : ChangeSpec := { name := "arpForms", fn := fun _ => fun
  | [d1, d2] => { results := [.lit (.bool false)], args := [d1, d2] }
  | _ => none }
def ArpFormsWrongFalsely : Prop := arpFormsRow.holds Try.pinned (OpenSpec.ofChange arpFormsWrong)

/- THE SECOND FORM. 'bulk': how many values and letters a reading holds, each counted each time it is reached (what is shared counts as often as it is met; a slice's spare places count too). A statement '..UptoSaid' is the law's where the arguments, and the package variables that the reading takes, are together of bulk at most 1048576: NARROWER than '..Said'. Prove '..Said' where nothing that the law and all that it calls make is longer than what came in: it says more and counts as full. Else prove '..UptoSaid'. A law counts once. -/
mutual
def uptoBulk {H : Type} : DataW H → Nat
  | .lit (.string bytes) => bytes.length + 1
  | .lit _ => 1
  | .nil => 1
  | .ptr d => uptoBulk d + 1
  | .slice elems spare => uptoBulkAll elems + uptoBulkAll spare + 1
  | .agg parts => uptoBulkAll parts + 1
  | .iface _ d => uptoBulk d + 1
  | .map entries => uptoBulkEntries entries + 1
  | .held _ => 1
def uptoBulkAll {H : Type} : List (DataW H) → Nat
  | [] => 0
  | d :: r => uptoBulk d + uptoBulkAll r
def uptoBulkEntries {H : Type} : List (Lit × DataW H) → Nat
  | [] => 0
  | x :: r => uptoBulkEntry x + uptoBulkEntries r
def uptoBulkEntry {H : Type} : Lit × DataW H → Nat
  | (.string bytes, d) => bytes.length + uptoBulk d + 1
  | (_, d) => uptoBulk d + 1
 end
def uptoSmall : (H : Type) → List (DataW H) → Bool := fun _ ds => decide (uptoBulkAll ds ≤ 1048576)
def OpenSpec.upto (s : _root_.Go.ChangeSpec) : _root_.Go.OpenSpec := { _root_.Go.OpenSpec.ofChange s with cond := some uptoSmall }

/-- 'packhorselaw07.EtherForms', WHERE WHAT IT READS IS OF BULK AT MOST 1048576: true; the input reads as it did. -/
def etherFormsUptoRow : OpenClaim := { program := "ytmonaaappimphaa", sum := "8eefc560997b59729857677b9ab0ae5fe81e6401c7af8db5a7bfc7f953bcfcad", func := "packhorse/packhorselaw07.EtherForms", spec := "etherForms", apart := false, narrowed := true }
def EtherFormsUptoSaid : Prop := etherFormsUptoRow.holds Try.pinned (OpenSpec.upto etherFormsSpec)

/-- 'packhorselaw07.EtherMine', WHERE WHAT IT READS IS OF BULK AT MOST 1048576: true; the input reads as it did. -/
def etherMineUptoRow : OpenClaim := { program := "ytmonaaappimphaa", sum := "8eefc560997b59729857677b9ab0ae5fe81e6401c7af8db5a7bfc7f953bcfcad", func := "packhorse/packhorselaw07.EtherMine", spec := "etherMine", apart := false, narrowed := true }
def EtherMineUptoSaid : Prop := etherMineUptoRow.holds Try.pinned (OpenSpec.upto etherMineSpec)

/-- 'packhorselaw07.EtherBack', WHERE WHAT IT READS IS OF BULK AT MOST 1048576: true; the input reads as it did. -/
def etherBackUptoRow : OpenClaim := { program := "ytmonaaappimphaa", sum := "8eefc560997b59729857677b9ab0ae5fe81e6401c7af8db5a7bfc7f953bcfcad", func := "packhorse/packhorselaw07.EtherBack", spec := "etherBack", apart := false, narrowed := true }
def EtherBackUptoSaid : Prop := etherBackUptoRow.holds Try.pinned (OpenSpec.upto etherBackSpec)

/-- 'packhorselaw07.EtherApart', WHERE WHAT IT READS IS OF BULK AT MOST 1048576: true; the input reads as it did. -/
def etherApartUptoRow : OpenClaim := { program := "ytmonaaappimphaa", sum := "8eefc560997b59729857677b9ab0ae5fe81e6401c7af8db5a7bfc7f953bcfcad", func := "packhorse/packhorselaw07.EtherApart", spec := "etherApart", apart := false, narrowed := true }
def EtherApartUptoSaid : Prop := etherApartUptoRow.holds Try.pinned (OpenSpec.upto etherApartSpec)

/-- 'packhorselaw07.EtherPads', WHERE WHAT IT READS IS OF BULK AT MOST 1048576: true; the input reads as it did. -/
def etherPadsUptoRow : OpenClaim := { program := "ytmonaaappimphaa", sum := "8eefc560997b59729857677b9ab0ae5fe81e6401c7af8db5a7bfc7f953bcfcad", func := "packhorse/packhorselaw07.EtherPads", spec := "etherPads", apart := false, narrowed := true }
def EtherPadsUptoSaid : Prop := etherPadsUptoRow.holds Try.pinned (OpenSpec.upto etherPadsSpec)

/-- 'packhorselaw08.ArpLearns', WHERE WHAT IT READS IS OF BULK AT MOST 1048576: true; the input reads as it did. -/
def arpLearnsUptoRow : OpenClaim := { program := "ytmonaaappimphaa", sum := "8eefc560997b59729857677b9ab0ae5fe81e6401c7af8db5a7bfc7f953bcfcad", func := "packhorse/packhorselaw08.ArpLearns", spec := "arpLearns", unfollowed := true, recurses := true, apart := false, narrowed := true }
def ArpLearnsUptoSaid : Prop := arpLearnsUptoRow.holds Try.pinned (OpenSpec.upto arpLearnsSpec)

/-- 'packhorselaw08.ArpOnce', WHERE WHAT IT READS IS OF BULK AT MOST 1048576: true; the input reads as it did. -/
def arpOnceUptoRow : OpenClaim := { program := "ytmonaaappimphaa", sum := "8eefc560997b59729857677b9ab0ae5fe81e6401c7af8db5a7bfc7f953bcfcad", func := "packhorse/packhorselaw08.ArpOnce", spec := "arpOnce", unfollowed := true, recurses := true, apart := false, narrowed := true }
def ArpOnceUptoSaid : Prop := arpOnceUptoRow.holds Try.pinned (OpenSpec.upto arpOnceSpec)

/-- 'packhorselaw08.ArpAges', WHERE WHAT IT READS IS OF BULK AT MOST 1048576: true; the input reads as it did. -/
def arpAgesUptoRow : OpenClaim := { program := "ytmonaaappimphaa", sum := "8eefc560997b59729857677b9ab0ae5fe81e6401c7af8db5a7bfc7f953bcfcad", func := "packhorse/packhorselaw08.ArpAges", spec := "arpAges", unfollowed := true, recurses := true, apart := false, narrowed := true }
def ArpAgesUptoSaid : Prop := arpAgesUptoRow.holds Try.pinned (OpenSpec.upto arpAgesSpec)

/-- 'packhorselaw08.ArpForms', WHERE WHAT IT READS IS OF BULK AT MOST 1048576: true; the input reads as it did. -/
def arpFormsUptoRow : OpenClaim := { program := "ytmonaaappimphaa", sum := "8eefc560997b59729857677b9ab0ae5fe81e6401c7af8db5a7bfc7f953bcfcad", func := "packhorse/packhorselaw08.ArpForms", spec := "arpForms", unfollowed := true, recurses := true, apart := false, narrowed := true }
def ArpFormsUptoSaid : Prop := arpFormsUptoRow.holds Try.pinned (OpenSpec.upto arpFormsSpec)

end Rows
end Go.Proofs.Ytmonaaappimphaa
