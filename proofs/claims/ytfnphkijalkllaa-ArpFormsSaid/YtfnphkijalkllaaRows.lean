/-
  No cell of these rows narrows 'for every input' (looked for: loops, veiled, ifaces, maps, wideKeys, modest, calm, conditions, laid).
  DERIVED. THE GIVEN ROWS OF THIS SEAT. 9 by the template 'for every input the law returns true; each argument reads behind the call as it read before'; 0 by the template 'total and deterministic' (their statements: YtfnphkijalkllaaTotals.lean).
  GIVEN WITH THE SEED: the statements are not yours to turn. If you find one false, say at which input.
  Laid BY PROGRAM, IN A SANDBOX (cutbox-rows.mjs): the forced cells as the released guide's own fill.sh prints them over the translation 727931dc705fd557… (all of the seat's roots in one cut). By AI agents, Wed Nov 11 2026. No macro, syntax, notation, axiom, sorry.
-/
import Derived.Test.YtfnphkijalkllaaChecked
import GoSem.Claim
import GoSem.ClaimJoined
import GoSem.ClaimMapViews
import Derived.JoinedTies
import Derived.KernelRfl
namespace Go.Proofs.Ytfnphkijalkllaa
/- THE CELL 'sum', in the pinned program and in every row, IS THE sha256 OF THE DUMP (.gsa) THAT YtfnphkijalkllaaProg.lean LOADS. Nothing in Lean hashes anything: it is a label: what it is worth is what the hold of that sum in a sandbox is worth. -/
noncomputable def Try.pinned : Pinned := { name := "ytfnphkijalkllaa", sum := "727931dc705fd557749783b2da12c42c88e690b803badc69b21adf18ca411fd5", checked := Try.checked }
namespace Rows
def none {H : Type} : Left H := { results := [], args := [] }

/-- 'packhorselaw08.ArpLearns': WHATEVER THE INPUT: true; the input reads as it did. -/
def arpLearnsSpec : ChangeSpec := { name := "arpLearns", fn := fun _ => fun
  | [d] => { results := [.lit (.bool true)], args := [d] }
  | _ => none }
def arpLearnsRow : OpenClaim := { program := "ytfnphkijalkllaa", sum := "727931dc705fd557749783b2da12c42c88e690b803badc69b21adf18ca411fd5", func := "packhorse/packhorselaw08.ArpLearns", spec := "arpLearns", unfollowed := true, recurses := true, apart := false }
def ArpLearnsSaid : Prop := arpLearnsRow.holds Try.pinned (OpenSpec.ofChange arpLearnsSpec)

/-- ITS FALSE NEIGHBOUR: 'it returns false'. Refute it at one input. -/
def arpLearnsWrong : ChangeSpec := { name := "arpLearns", fn := fun _ => fun
  | [d] => { results := [.lit (.bool false)], args := [d] }
  | _ => none }
def ArpLearnsWrongFalsely : Prop := arpLearnsRow.holds Try.pinned (OpenSpec.ofChange arpLearnsWrong)

/-- 'packhorselaw08.ArpOnce': WHATEVER THE INPUT: true; the input reads as it did. -/
def arpOnceSpec : ChangeSpec := { name := "arpOnce", fn := fun _ => fun
  | [d] => { results := [.lit (.bool true)], args := [d] }
  | _ => none }
def arpOnceRow : OpenClaim := { program := "ytfnphkijalkllaa", sum := "727931dc705fd557749783b2da12c42c88e690b803badc69b21adf18ca411fd5", func := "packhorse/packhorselaw08.ArpOnce", spec := "arpOnce", unfollowed := true, recurses := true, apart := false }
def ArpOnceSaid : Prop := arpOnceRow.holds Try.pinned (OpenSpec.ofChange arpOnceSpec)

/-- ITS FALSE NEIGHBOUR: 'it returns false'. Refute it at one input. -/
def arpOnceWrong : ChangeSpec := { name := "arpOnce", fn := fun _ => fun
  | [d] => { results := [.lit (.bool false)], args := [d] }
  | _ => none }
def ArpOnceWrongFalsely : Prop := arpOnceRow.holds Try.pinned (OpenSpec.ofChange arpOnceWrong)

/-- 'packhorselaw08.ArpAges': WHATEVER THE INPUT: true; the input reads as it did. -/
def arpAgesSpec : ChangeSpec := { name := "arpAges", fn := fun _ => fun
  | [d1, d2, d3] => { results := [.lit (.bool true)], args := [d1, d2, d3] }
  | _ => none }
def arpAgesRow : OpenClaim := { program := "ytfnphkijalkllaa", sum := "727931dc705fd557749783b2da12c42c88e690b803badc69b21adf18ca411fd5", func := "packhorse/packhorselaw08.ArpAges", spec := "arpAges", unfollowed := true, recurses := true, apart := false }
def ArpAgesSaid : Prop := arpAgesRow.holds Try.pinned (OpenSpec.ofChange arpAgesSpec)

/-- ITS FALSE NEIGHBOUR: 'it returns false'. Refute it at one input. -/
def arpAgesWrong : ChangeSpec := { name := "arpAges", fn := fun _ => fun
  | [d1, d2, d3] => { results := [.lit (.bool false)], args := [d1, d2, d3] }
  | _ => none }
def ArpAgesWrongFalsely : Prop := arpAgesRow.holds Try.pinned (OpenSpec.ofChange arpAgesWrong)

/-- 'packhorselaw08.ArpForms': WHATEVER THE INPUT: true; the input reads as it did. -/
def arpFormsSpec : ChangeSpec := { name := "arpForms", fn := fun _ => fun
  | [d1, d2] => { results := [.lit (.bool true)], args := [d1, d2] }
  | _ => none }
def arpFormsRow : OpenClaim := { program := "ytfnphkijalkllaa", sum := "727931dc705fd557749783b2da12c42c88e690b803badc69b21adf18ca411fd5", func := "packhorse/packhorselaw08.ArpForms", spec := "arpForms", unfollowed := true, recurses := true, apart := false }
def ArpFormsSaid : Prop := arpFormsRow.holds Try.pinned (OpenSpec.ofChange arpFormsSpec)

/-- ITS FALSE NEIGHBOUR: 'it returns false'. Refute it at one input. -/
def arpFormsWrong : ChangeSpec := { name := "arpForms", fn := fun _ => fun
  | [d1, d2] => { results := [.lit (.bool false)], args := [d1, d2] }
  | _ => none }
def ArpFormsWrongFalsely : Prop := arpFormsRow.holds Try.pinned (OpenSpec.ofChange arpFormsWrong)

/-- 'packhorselaw11.FragApart': WHATEVER THE INPUT: true; the input reads as it did. -/
def fragApartSpec : ChangeSpec := { name := "fragApart", fn := fun _ => fun
  | [d1, d2, d3, d4, d5] => { results := [.lit (.bool true)], args := [d1, d2, d3, d4, d5] }
  | _ => none }
def fragApartRow : OpenClaim := { program := "ytfnphkijalkllaa", sum := "727931dc705fd557749783b2da12c42c88e690b803badc69b21adf18ca411fd5", func := "packhorse/packhorselaw11.FragApart", spec := "fragApart", unfollowed := true, recurses := true, apart := false }
def FragApartSaid : Prop := fragApartRow.holds Try.pinned (OpenSpec.ofChange fragApartSpec)

/-- ITS FALSE NEIGHBOUR: 'it returns false'. Refute it at one input. -/
def fragApartWrong : ChangeSpec := { name := "fragApart", fn := fun _ => fun
  | [d1, d2, d3, d4, d5] => { results := [.lit (.bool false)], args := [d1, d2, d3, d4, d5] }
  | _ => none }
def FragApartWrongFalsely : Prop := fragApartRow.holds Try.pinned (OpenSpec.ofChange fragApartWrong)

/-- 'packhorselaw11.FragLaps': WHATEVER THE INPUT: true; the input reads as it did. -/
def fragLapsSpec : ChangeSpec := { name := "fragLaps", fn := fun _ => fun
  | [d1, d2, d3, d4, d5] => { results := [.lit (.bool true)], args := [d1, d2, d3, d4, d5] }
  | _ => none }
def fragLapsRow : OpenClaim := { program := "ytfnphkijalkllaa", sum := "727931dc705fd557749783b2da12c42c88e690b803badc69b21adf18ca411fd5", func := "packhorse/packhorselaw11.FragLaps", spec := "fragLaps", unfollowed := true, recurses := true, apart := false }
def FragLapsSaid : Prop := fragLapsRow.holds Try.pinned (OpenSpec.ofChange fragLapsSpec)

/-- ITS FALSE NEIGHBOUR: 'it returns false'. Refute it at one input. -/
def fragLapsWrong : ChangeSpec := { name := "fragLaps", fn := fun _ => fun
  | [d1, d2, d3, d4, d5] => { results := [.lit (.bool false)], args := [d1, d2, d3, d4, d5] }
  | _ => none }
def FragLapsWrongFalsely : Prop := fragLapsRow.holds Try.pinned (OpenSpec.ofChange fragLapsWrong)

/-- 'packhorselaw11.FragBack': WHATEVER THE INPUT: true; the input reads as it did. -/
def fragBackSpec : ChangeSpec := { name := "fragBack", fn := fun _ => fun
  | [d1, d2, d3, d4] => { results := [.lit (.bool true)], args := [d1, d2, d3, d4] }
  | _ => none }
def fragBackRow : OpenClaim := { program := "ytfnphkijalkllaa", sum := "727931dc705fd557749783b2da12c42c88e690b803badc69b21adf18ca411fd5", func := "packhorse/packhorselaw11.FragBack", spec := "fragBack", unfollowed := true, recurses := true, apart := false }
def FragBackSaid : Prop := fragBackRow.holds Try.pinned (OpenSpec.ofChange fragBackSpec)

/-- ITS FALSE NEIGHBOUR: 'it returns false'. Refute it at one input. -/
def fragBackWrong : ChangeSpec := { name := "fragBack", fn := fun _ => fun
  | [d1, d2, d3, d4] => { results := [.lit (.bool false)], args := [d1, d2, d3, d4] }
  | _ => none }
def FragBackWrongFalsely : Prop := fragBackRow.holds Try.pinned (OpenSpec.ofChange fragBackWrong)

/-- 'packhorselaw11.FragDoes': WHATEVER THE INPUT: true; the input reads as it did. -/
def fragDoesSpec : ChangeSpec := { name := "fragDoes", fn := fun _ => fun
  | [d] => { results := [.lit (.bool true)], args := [d] }
  | _ => none }
def fragDoesRow : OpenClaim := { program := "ytfnphkijalkllaa", sum := "727931dc705fd557749783b2da12c42c88e690b803badc69b21adf18ca411fd5", func := "packhorse/packhorselaw11.FragDoes", spec := "fragDoes", unfollowed := true, recurses := true, apart := false }
def FragDoesSaid : Prop := fragDoesRow.holds Try.pinned (OpenSpec.ofChange fragDoesSpec)

/-- ITS FALSE NEIGHBOUR: 'it returns false'. Refute it at one input. -/
def fragDoesWrong : ChangeSpec := { name := "fragDoes", fn := fun _ => fun
  | [d] => { results := [.lit (.bool false)], args := [d] }
  | _ => none }
def FragDoesWrongFalsely : Prop := fragDoesRow.holds Try.pinned (OpenSpec.ofChange fragDoesWrong)

/-- 'packhorselaw11.FragBounds': WHATEVER THE INPUT: true; the input reads as it did. -/
def fragBoundsSpec : ChangeSpec := { name := "fragBounds", fn := fun _ => fun
  | [d] => { results := [.lit (.bool true)], args := [d] }
  | _ => none }
def fragBoundsRow : OpenClaim := { program := "ytfnphkijalkllaa", sum := "727931dc705fd557749783b2da12c42c88e690b803badc69b21adf18ca411fd5", func := "packhorse/packhorselaw11.FragBounds", spec := "fragBounds", unfollowed := true, recurses := true, apart := false }
def FragBoundsSaid : Prop := fragBoundsRow.holds Try.pinned (OpenSpec.ofChange fragBoundsSpec)

/-- ITS FALSE NEIGHBOUR: 'it returns false'. Refute it at one input. -/
def fragBoundsWrong : ChangeSpec := { name := "fragBounds", fn := fun _ => fun
  | [d] => { results := [.lit (.bool false)], args := [d] }
  | _ => none }
def FragBoundsWrongFalsely : Prop := fragBoundsRow.holds Try.pinned (OpenSpec.ofChange fragBoundsWrong)

/- THE SECOND FORM. 'bulk': how many values and letters a reading holds, each counted each time it is reached (what is shared counts as often as it is met; a slice's spare places count too). A statement '..UptoSaid' is the law's where the arguments, and the package variables that the reading takes, are together of bulk at most 1048576: NARROWER than '..Said'. Prove '..Said' where nothing that the law and all that it calls make is longer than what came in: it says more and counts as full. Else prove '..UptoSaid'. A law counts once. -/
mutual
def uptoBulk {H : Type} : DataW H → Nat
  | .lit (.string bytes) => bytes.length + 1
  | .lit _ => 1
  | .nil => 1
  | .ptr d => uptoBulk d + 1
  | .slice elems spare => uptoBulkAll elems + uptoBulkAll spare + 1
  | .agg parts => uptoBulkAll parts + 1
  | .iface _ d => uptoBulk d + 1
  | .map entries => uptoBulkEntries entries + 1
  | .held _ => 1
def uptoBulkAll {H : Type} : List (DataW H) → Nat
  | [] => 0
  | d :: r => uptoBulk d + uptoBulkAll r
def uptoBulkEntries {H : Type} : List (Lit × DataW H) → Nat
  | [] => 0
  | x :: r => uptoBulkEntry x + uptoBulkEntries r
def uptoBulkEntry {H : Type} : Lit × DataW H → Nat
  | (.string bytes, d) => bytes.length + uptoBulk d + 1
  | (_, d) => uptoBulk d + 1
 end
def uptoSmall : (H : Type) → List (DataW H) → Bool := fun _ ds => decide (uptoBulkAll ds ≤ 1048576)
def OpenSpec.upto (s : _root_.Go.ChangeSpec) : _root_.Go.OpenSpec := { _root_.Go.OpenSpec.ofChange s with cond := some uptoSmall }

/-- 'packhorselaw08.ArpLearns', WHERE WHAT IT READS IS OF BULK AT MOST 1048576: true; the input reads as it did. -/
def arpLearnsUptoRow : OpenClaim := { program := "ytfnphkijalkllaa", sum := "727931dc705fd557749783b2da12c42c88e690b803badc69b21adf18ca411fd5", func := "packhorse/packhorselaw08.ArpLearns", spec := "arpLearns", unfollowed := true, recurses := true, apart := false, narrowed := true }
def ArpLearnsUptoSaid : Prop := arpLearnsUptoRow.holds Try.pinned (OpenSpec.upto arpLearnsSpec)

/-- 'packhorselaw08.ArpOnce', WHERE WHAT IT READS IS OF BULK AT MOST 1048576: true; the input reads as it did. -/
def arpOnceUptoRow : OpenClaim := { program := "ytfnphkijalkllaa", sum := "727931dc705fd557749783b2da12c42c88e690b803badc69b21adf18ca411fd5", func := "packhorse/packhorselaw08.ArpOnce", spec := "arpOnce", unfollowed := true, recurses := true, apart := false, narrowed := true }
def ArpOnceUptoSaid : Prop := arpOnceUptoRow.holds Try.pinned (OpenSpec.upto arpOnceSpec)

/-- 'packhorselaw08.ArpAges', WHERE WHAT IT READS IS OF BULK AT MOST 1048576: true; the input reads as it did. -/
def arpAgesUptoRow : OpenClaim := { program := "ytfnphkijalkllaa", sum := "727931dc705fd557749783b2da12c42c88e690b803badc69b21adf18ca411fd5", func := "packhorse/packhorselaw08.ArpAges", spec := "arpAges", unfollowed := true, recurses := true, apart := false, narrowed := true }
def ArpAgesUptoSaid : Prop := arpAgesUptoRow.holds Try.pinned (OpenSpec.upto arpAgesSpec)

/-- 'packhorselaw08.ArpForms', WHERE WHAT IT READS IS OF BULK AT MOST 1048576: true; the input reads as it did. -/
def arpFormsUptoRow : OpenClaim := { program := "ytfnphkijalkllaa", sum := "727931dc705fd557749783b2da12c42c88e690b803badc69b21adf18ca411fd5", func := "packhorse/packhorselaw08.ArpForms", spec := "arpForms", unfollowed := true, recurses := true, apart := false, narrowed := true }
def ArpFormsUptoSaid : Prop := arpFormsUptoRow.holds Try.pinned (OpenSpec.upto arpFormsSpec)

/-- 'packhorselaw11.FragApart', WHERE WHAT IT READS IS OF BULK AT MOST 1048576: true; the input reads as it did. -/
def fragApartUptoRow : OpenClaim := { program := "ytfnphkijalkllaa", sum := "727931dc705fd557749783b2da12c42c88e690b803badc69b21adf18ca411fd5", func := "packhorse/packhorselaw11.FragApart", spec := "fragApart", unfollowed := true, recurses := true, apart := false, narrowed := true }
def FragApartUptoSaid : Prop := fragApartUptoRow.holds Try.pinned (OpenSpec.upto fragApartSpec)

/-- 'packhorselaw11.FragLaps', WHERE WHAT IT READS IS OF BULK AT MOST 1048576: true; the input reads as it did. -/
def fragLapsUptoRow : OpenClaim := { program := "ytfnphkijalkllaa", sum := "727931dc705fd557749783b2da12c42c88e690b803badc69b21adf18ca411fd5", func := "packhorse/packhorselaw11.FragLaps", spec := "fragLaps", unfollowed := true, recurses := true, apart := false, narrowed := true }
def FragLapsUptoSaid : Prop := fragLapsUptoRow.holds Try.pinned (OpenSpec.upto fragLapsSpec)

/-- 'packhorselaw11.FragBack', WHERE WHAT IT READS IS OF BULK AT MOST 1048576: true; the input reads as it did. -/
def fragBackUptoRow : OpenClaim := { program := "ytfnphkijalkllaa", sum := "727931dc705fd557749783b2da12c42c88e690b803badc69b21adf18ca411fd5", func := "packhorse/packhorselaw11.FragBack", spec := "fragBack", unfollowed := true, recurses := true, apart := false, narrowed := true }
def FragBackUptoSaid : Prop := fragBackUptoRow.holds Try.pinned (OpenSpec.upto fragBackSpec)

/-- 'packhorselaw11.FragDoes', WHERE WHAT IT READS IS OF BULK AT MOST 1048576: true; the input reads as it did. -/
def fragDoesUptoRow : OpenClaim := { program := "ytfnphkijalkllaa", sum := "727931dc705fd557749783b2da12c42c88e690b803badc69b21adf18ca411fd5", func := "packhorse/packhorselaw11.FragDoes", spec := "fragDoes", unfollowed := true, recurses := true, apart := false, narrowed := true }
def FragDoesUptoSaid : Prop := fragDoesUptoRow.holds Try.pinned (OpenSpec.upto fragDoesSpec)

/-- 'packhorselaw11.FragBounds', WHERE WHAT IT READS IS OF BULK AT MOST 1048576: true; the input reads as it did. -/
def fragBoundsUptoRow : OpenClaim := { program := "ytfnphkijalkllaa", sum := "727931dc705fd557749783b2da12c42c88e690b803badc69b21adf18ca411fd5", func := "packhorse/packhorselaw11.FragBounds", spec := "fragBounds", unfollowed := true, recurses := true, apart := false, narrowed := true }
def FragBoundsUptoSaid : Prop := fragBoundsUptoRow.holds Try.pinned (OpenSpec.upto fragBoundsSpec)

end Rows
end Go.Proofs.Ytfnphkijalkllaa
