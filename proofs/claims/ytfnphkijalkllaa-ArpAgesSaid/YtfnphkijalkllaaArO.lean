/- Law 8: what a tick makes of the neighbours: plain law. No condition. -/
import Derived.Test.YtfnphkijalkllaaArN
namespace Go.Proofs.Ytfnphkijalkllaa
set_option linter.unusedVariables false
open Go.RowKit
/-- What a tick makes of one who is not known. -/
inductive Tk | wait | gone | ask
  deriving DecidableEq
def tkOf (nb : Nb) (now : Int) : Tk := if now - nb.asked < 2 then .wait else if nb.tries = 3 then .gone else .ask
def askNb (nb : Nb) (now : Int) : Nb := { nb with tries := nb.tries + 1, asked := now }
theorem askNb_ok {nb : Nb} (h : nb.ok) (ht : nb.tries ≠ 3) {now : Int} (hn : 0 ≤ now ∧ now ≤ 4398046511104) : (askNb nb now).ok := by
  have h3 := h.tries
  exact ⟨h.ip, h.st, h.mac, h.since, hn, ⟨by show 0 ≤ nb.tries + 1; omega, by show nb.tries + 1 ≤ 3; omega⟩, h.pend⟩
theorem askNb_wait (nb : Nb) (now : Int) : tkOf (askNb nb now) now = .wait := by
  unfold tkOf askNb; simp
/-- Behind some of the loop's rounds: the entries as they are, who was taken out, what was let go, who was asked again. -/
structure TS where
  M : List En
  D : List Nat
  gone : List Int
  out : List I4
def TS.step (now : Int) (s : TS) (x : Nat) : TS :=
  match s.M.find? (fun e => decide (e.p = x)) with
  | none => s
  | some e =>
    match tkOf e.nb now with
    | .wait => s
    | .gone => { s with D := x :: s.D, gone := s.gone ++ e.nb.pend }
    | .ask => { s with M := s.M.map (fun a => if a.p = x then { a with nb := askNb a.nb now } else a), out := s.out ++ [e.nb.ip] }
def TS.run (now : Int) (L : List En) (pre : List Nat) : TS := pre.foldl (TS.step now) ⟨L, [], [], []⟩
theorem TS.run_snoc (now : Int) (L : List En) (pre : List Nat) (x : Nat) : TS.run now L (pre ++ [x]) = TS.step now (TS.run now L pre) x := by
  unfold TS.run; rw [List.foldl_append]; rfl
end Go.Proofs.Ytfnphkijalkllaa
