/-
  NARROWER THAN 'FOR EVERY INPUT', by the rows' own cells (each row's printed sentence says how): PrimeUnit: laid · PrimeUnitSquares: laid · PrimeValuation: laid · PrimeValuationBack: laid.
  DERIVED. THE GIVEN ROWS OF THIS SEAT. 4 by the template 'for every input the law returns true; each argument reads behind the call as it read before'; 0 by the template 'total and deterministic' (their statements: YtnhbdldchoepfaaDoorTotals.lean).
  GIVEN WITH THE SEED: the statements are not yours to turn. If you find one false, say at which input.
  Laid BY PROGRAM, IN A SANDBOX (cutbox-rows.mjs): the forced cells as the released guide's own fill.sh prints them over the translation 178e5a2d19e2e801… (all of the seat's roots in one cut). By AI agents, Wed Nov 11 2026. No macro, syntax, notation, axiom, sorry.
-/
import Derived.Test.YtnhbdldchoepfaaDoorChecked
import GoSem.Claim
import GoSem.ClaimJoined
import GoSem.ClaimMapViews
import Derived.JoinedTies
import Derived.KernelRfl
namespace Go.Proofs.YtnhbdldchoepfaaDoor
/- THE CELL 'sum', in the pinned program and in every row, IS THE sha256 OF THE DUMP (.gsa) THAT YtnhbdldchoepfaaDoorProg.lean LOADS. Nothing in Lean hashes anything: it is a label: what it is worth is what the hold of that sum in a sandbox is worth. -/
noncomputable def Tryd.pinned : Pinned := { name := "ytnhbdldchoepfaadoor", sum := "178e5a2d19e2e801a70a1164348f6ea66db3cfe2c3ce6fdce0e36b91e4339c4a", checked := Tryd.checked }
namespace Rows
def none {H : Type} : Left H := { results := [], args := [] }

/- WHAT THE LISTED PACKAGE-LEVEL VARIABLES READ AS WHEN THE CALL BEGINS. Each datum BY PROGRAM (the guide's laid-datum.mjs) off the statement by which the dump's own 'gosem.cut.vars' lays the variable. In a bare row this is a premise. The card (YtnhbdldchoepfaaDoorCards.lean) ties it to the program's text. -/
def laid_quadform_prime_offsets {H : Type} : DataW H := .agg [.lit (.int .i64 7), .lit (.int .i64 11), .lit (.int .i64 13), .lit (.int .i64 17), .lit (.int .i64 19), .lit (.int .i64 23), .lit (.int .i64 29), .lit (.int .i64 31)]

/-- 'quadformlaw22.PrimeUnit': WHATEVER THE INPUT: true; the input reads as it did. -/
def primeUnitSpec : ChangeSpec := { name := "primeUnit", fn := fun _ => fun
  | [d1, d2, d3, d4] => { results := [.lit (.bool true)], args := [d1, d2, d3, d4] }
  | _ => none }
def primeUnitRow : OpenClaim := { program := "ytnhbdldchoepfaadoor", sum := "178e5a2d19e2e801a70a1164348f6ea66db3cfe2c3ce6fdce0e36b91e4339c4a", func := "quadform/quadformlaw22.PrimeUnit", spec := "primeUnit", named := ["quadform/prime.offsets"], apart := false, laid := [("quadform/prime.offsets", laid_quadform_prime_offsets)] }
def PrimeUnitSaid : Prop := primeUnitRow.holds Tryd.pinned (OpenSpec.ofChange primeUnitSpec)

/-- ITS FALSE NEIGHBOUR: 'it returns false'. Refute it at one input. -/
def primeUnitWrong : ChangeSpec := { name := "primeUnit", fn := fun _ => fun
  | [d1, d2, d3, d4] => { results := [.lit (.bool false)], args := [d1, d2, d3, d4] }
  | _ => none }
def PrimeUnitWrongFalsely : Prop := primeUnitRow.holds Tryd.pinned (OpenSpec.ofChange primeUnitWrong)

/-- 'quadformlaw22.PrimeUnitSquares': WHATEVER THE INPUT: true; the input reads as it did. -/
def primeUnitSquaresSpec : ChangeSpec := { name := "primeUnitSquares", fn := fun _ => fun
  | [d1, d2, d3] => { results := [.lit (.bool true)], args := [d1, d2, d3] }
  | _ => none }
def primeUnitSquaresRow : OpenClaim := { program := "ytnhbdldchoepfaadoor", sum := "178e5a2d19e2e801a70a1164348f6ea66db3cfe2c3ce6fdce0e36b91e4339c4a", func := "quadform/quadformlaw22.PrimeUnitSquares", spec := "primeUnitSquares", named := ["quadform/prime.offsets"], apart := false, laid := [("quadform/prime.offsets", laid_quadform_prime_offsets)] }
def PrimeUnitSquaresSaid : Prop := primeUnitSquaresRow.holds Tryd.pinned (OpenSpec.ofChange primeUnitSquaresSpec)

/-- ITS FALSE NEIGHBOUR: 'it returns false'. Refute it at one input. -/
def primeUnitSquaresWrong : ChangeSpec := { name := "primeUnitSquares", fn := fun _ => fun
  | [d1, d2, d3] => { results := [.lit (.bool false)], args := [d1, d2, d3] }
  | _ => none }
def PrimeUnitSquaresWrongFalsely : Prop := primeUnitSquaresRow.holds Tryd.pinned (OpenSpec.ofChange primeUnitSquaresWrong)

/-- 'quadformlaw22.PrimeValuation': WHATEVER THE INPUT: true; the input reads as it did. -/
def primeValuationSpec : ChangeSpec := { name := "primeValuation", fn := fun _ => fun
  | [d1, d2, d3, d4] => { results := [.lit (.bool true)], args := [d1, d2, d3, d4] }
  | _ => none }
def primeValuationRow : OpenClaim := { program := "ytnhbdldchoepfaadoor", sum := "178e5a2d19e2e801a70a1164348f6ea66db3cfe2c3ce6fdce0e36b91e4339c4a", func := "quadform/quadformlaw22.PrimeValuation", spec := "primeValuation", unfollowed := true, recurses := true, named := ["quadform/prime.offsets"], apart := false, laid := [("quadform/prime.offsets", laid_quadform_prime_offsets)] }
def PrimeValuationSaid : Prop := primeValuationRow.holds Tryd.pinned (OpenSpec.ofChange primeValuationSpec)

/-- ITS FALSE NEIGHBOUR: 'it returns false'. Refute it at one input. -/
def primeValuationWrong : ChangeSpec := { name := "primeValuation", fn := fun _ => fun
  | [d1, d2, d3, d4] => { results := [.lit (.bool false)], args := [d1, d2, d3, d4] }
  | _ => none }
def PrimeValuationWrongFalsely : Prop := primeValuationRow.holds Tryd.pinned (OpenSpec.ofChange primeValuationWrong)

/-- 'quadformlaw22.PrimeValuationBack': WHATEVER THE INPUT: true; the input reads as it did. -/
def primeValuationBackSpec : ChangeSpec := { name := "primeValuationBack", fn := fun _ => fun
  | [d1, d2, d3] => { results := [.lit (.bool true)], args := [d1, d2, d3] }
  | _ => none }
def primeValuationBackRow : OpenClaim := { program := "ytnhbdldchoepfaadoor", sum := "178e5a2d19e2e801a70a1164348f6ea66db3cfe2c3ce6fdce0e36b91e4339c4a", func := "quadform/quadformlaw22.PrimeValuationBack", spec := "primeValuationBack", unfollowed := true, recurses := true, named := ["quadform/prime.offsets"], apart := false, laid := [("quadform/prime.offsets", laid_quadform_prime_offsets)] }
def PrimeValuationBackSaid : Prop := primeValuationBackRow.holds Tryd.pinned (OpenSpec.ofChange primeValuationBackSpec)

/-- ITS FALSE NEIGHBOUR: 'it returns false'. Refute it at one input. -/
def primeValuationBackWrong : ChangeSpec := { name := "primeValuationBack", fn := fun _ => fun
  | [d1, d2, d3] => { results := [.lit (.bool false)], args := [d1, d2, d3] }
  | _ => none }
def PrimeValuationBackWrongFalsely : Prop := primeValuationBackRow.holds Tryd.pinned (OpenSpec.ofChange primeValuationBackWrong)

/- THE SECOND FORM. 'bulk': how many values and letters a reading holds, each counted each time it is reached (what is shared counts as often as it is met; a slice's spare places count too). A statement '..UptoSaid' is the law's where the arguments, and the package variables that the reading takes, are together of bulk at most 1048576: NARROWER than '..Said'. Prove '..Said' where nothing that the law and all that it calls make is longer than what came in: it says more and counts as full. Else prove '..UptoSaid'. A law counts once. -/
mutual
def uptoBulk {H : Type} : DataW H → Nat
  | .lit (.string bytes) => bytes.length + 1
  | .lit _ => 1
  | .nil => 1
  | .ptr d => uptoBulk d + 1
  | .slice elems spare => uptoBulkAll elems + uptoBulkAll spare + 1
  | .agg parts => uptoBulkAll parts + 1
  | .iface _ d => uptoBulk d + 1
  | .map entries => uptoBulkEntries entries + 1
  | .held _ => 1
def uptoBulkAll {H : Type} : List (DataW H) → Nat
  | [] => 0
  | d :: r => uptoBulk d + uptoBulkAll r
def uptoBulkEntries {H : Type} : List (Lit × DataW H) → Nat
  | [] => 0
  | x :: r => uptoBulkEntry x + uptoBulkEntries r
def uptoBulkEntry {H : Type} : Lit × DataW H → Nat
  | (.string bytes, d) => bytes.length + uptoBulk d + 1
  | (_, d) => uptoBulk d + 1
 end
def uptoSmall : (H : Type) → List (DataW H) → Bool := fun _ ds => decide (uptoBulkAll ds ≤ 1048576)
def OpenSpec.upto (s : _root_.Go.ChangeSpec) : _root_.Go.OpenSpec := { _root_.Go.OpenSpec.ofChange s with cond := some uptoSmall }

/-- 'quadformlaw22.PrimeUnit', WHERE WHAT IT READS IS OF BULK AT MOST 1048576: true; the input reads as it did. -/
def primeUnitUptoRow : OpenClaim := { program := "ytnhbdldchoepfaadoor", sum := "178e5a2d19e2e801a70a1164348f6ea66db3cfe2c3ce6fdce0e36b91e4339c4a", func := "quadform/quadformlaw22.PrimeUnit", spec := "primeUnit", named := ["quadform/prime.offsets"], apart := false, laid := [("quadform/prime.offsets", laid_quadform_prime_offsets)], narrowed := true }
def PrimeUnitUptoSaid : Prop := primeUnitUptoRow.holds Tryd.pinned (OpenSpec.upto primeUnitSpec)

/-- 'quadformlaw22.PrimeUnitSquares', WHERE WHAT IT READS IS OF BULK AT MOST 1048576: true; the input reads as it did. -/
def primeUnitSquaresUptoRow : OpenClaim := { program := "ytnhbdldchoepfaadoor", sum := "178e5a2d19e2e801a70a1164348f6ea66db3cfe2c3ce6fdce0e36b91e4339c4a", func := "quadform/quadformlaw22.PrimeUnitSquares", spec := "primeUnitSquares", named := ["quadform/prime.offsets"], apart := false, laid := [("quadform/prime.offsets", laid_quadform_prime_offsets)], narrowed := true }
def PrimeUnitSquaresUptoSaid : Prop := primeUnitSquaresUptoRow.holds Tryd.pinned (OpenSpec.upto primeUnitSquaresSpec)

/-- 'quadformlaw22.PrimeValuation', WHERE WHAT IT READS IS OF BULK AT MOST 1048576: true; the input reads as it did. -/
def primeValuationUptoRow : OpenClaim := { program := "ytnhbdldchoepfaadoor", sum := "178e5a2d19e2e801a70a1164348f6ea66db3cfe2c3ce6fdce0e36b91e4339c4a", func := "quadform/quadformlaw22.PrimeValuation", spec := "primeValuation", unfollowed := true, recurses := true, named := ["quadform/prime.offsets"], apart := false, laid := [("quadform/prime.offsets", laid_quadform_prime_offsets)], narrowed := true }
def PrimeValuationUptoSaid : Prop := primeValuationUptoRow.holds Tryd.pinned (OpenSpec.upto primeValuationSpec)

/-- 'quadformlaw22.PrimeValuationBack', WHERE WHAT IT READS IS OF BULK AT MOST 1048576: true; the input reads as it did. -/
def primeValuationBackUptoRow : OpenClaim := { program := "ytnhbdldchoepfaadoor", sum := "178e5a2d19e2e801a70a1164348f6ea66db3cfe2c3ce6fdce0e36b91e4339c4a", func := "quadform/quadformlaw22.PrimeValuationBack", spec := "primeValuationBack", unfollowed := true, recurses := true, named := ["quadform/prime.offsets"], apart := false, laid := [("quadform/prime.offsets", laid_quadform_prime_offsets)], narrowed := true }
def PrimeValuationBackUptoSaid : Prop := primeValuationBackUptoRow.holds Tryd.pinned (OpenSpec.upto primeValuationBackSpec)

end Rows
end Go.Proofs.YtnhbdldchoepfaaDoor
