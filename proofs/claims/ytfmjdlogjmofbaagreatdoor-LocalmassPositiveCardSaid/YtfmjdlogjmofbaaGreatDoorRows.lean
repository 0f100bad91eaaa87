/-
  NARROWER THAN 'FOR EVERY INPUT', by the rows' own cells (each row's printed sentence says how): LocalmassRegular: laid · LocalmassPositive: laid.
  DERIVED. THE GIVEN ROWS OF THIS SEAT. 2 by the template 'for every input the law returns true; each argument reads behind the call as it read before'; 0 by the template 'total and deterministic' (their statements: YtfmjdlogjmofbaaGreatDoorTotals.lean).
  GIVEN WITH THE SEED: the statements are not yours to turn. If you find one false, say at which input.
  Laid BY PROGRAM, IN A SANDBOX (cutbox-rows.mjs): the forced cells as the released guide's own fill.sh prints them over the translation 42dc045e8ea1ecb6… (all of the seat's roots in one cut). By AI agents, Wed Nov 11 2026. No macro, syntax, notation, axiom, sorry.
-/
import Derived.Test.YtfmjdlogjmofbaaGreatDoorChecked
import GoSem.Claim
import GoSem.ClaimJoined
import GoSem.ClaimMapViews
import Derived.JoinedTies
import Derived.KernelRfl
namespace Go.Proofs.YtfmjdlogjmofbaaGreatDoor
/- THE CELL 'sum', in the pinned program and in every row, IS THE sha256 OF THE DUMP (.gsa) THAT YtfmjdlogjmofbaaGreatDoorProg.lean LOADS. Nothing in Lean hashes anything: it is a label: what it is worth is what the hold of that sum in a sandbox is worth. -/
noncomputable def Tryz.pinned : Pinned := { name := "ytfmjdlogjmofbaagreatdoor", sum := "42dc045e8ea1ecb6c351368f79c25f0575cffdaee133a2467143e3a115685952", checked := Tryz.checked }
namespace Rows
def none {H : Type} : Left H := { results := [], args := [] }

/- WHAT THE LISTED PACKAGE-LEVEL VARIABLES READ AS WHEN THE CALL BEGINS. Each datum BY PROGRAM (the guide's laid-datum.mjs) off the statement by which the dump's own 'gosem.cut.vars' lays the variable. In a bare row this is a premise. The card (YtfmjdlogjmofbaaGreatDoorCards.lean) ties it to the program's text. -/
def laid_quadform_prime_offsets {H : Type} : DataW H := .agg [.lit (.int .i64 7), .lit (.int .i64 11), .lit (.int .i64 13), .lit (.int .i64 17), .lit (.int .i64 19), .lit (.int .i64 23), .lit (.int .i64 29), .lit (.int .i64 31)]
def laid_quadform_localmass_table {H : Type} : DataW H := .agg [.agg [.lit (.bool false), .lit (.bool false), .lit (.int .i64 0), .lit (.int .i64 0), .lit (.int .i64 2)], .agg [.lit (.bool false), .lit (.bool true), .lit (.int .i64 0), .lit (.int .i64 1), .lit (.int .i64 0)], .agg [.lit (.bool true), .lit (.bool true), .lit (.int .i64 1), .lit (.int .i64 0), .lit (.int .i64 0)], .agg [.lit (.bool true), .lit (.bool true), .lit (.int .i64 0), .lit (.int .i64 (-1)), .lit (.int .i64 0)], .agg [.lit (.bool true), .lit (.bool false), .lit (.int .i64 0), .lit (.int .i64 (-2)), .lit (.int .i64 1)], .agg [.lit (.bool true), .lit (.bool false), .lit (.int .i64 1), .lit (.int .i64 (-1)), .lit (.int .i64 1)], .agg [.lit (.bool true), .lit (.bool false), .lit (.int .i64 7), .lit (.int .i64 (-1)), .lit (.int .i64 1)], .agg [.lit (.bool true), .lit (.bool false), .lit (.int .i64 2), .lit (.int .i64 (-1)), .lit (.int .i64 0)], .agg [.lit (.bool true), .lit (.bool false), .lit (.int .i64 6), .lit (.int .i64 (-1)), .lit (.int .i64 0)], .agg [.lit (.bool true), .lit (.bool false), .lit (.int .i64 3), .lit (.int .i64 (-1)), .lit (.int .i64 (-1))], .agg [.lit (.bool true), .lit (.bool false), .lit (.int .i64 5), .lit (.int .i64 (-1)), .lit (.int .i64 (-1))], .agg [.lit (.bool true), .lit (.bool false), .lit (.int .i64 4), .lit (.int .i64 (-2)), .lit (.int .i64 (-1))]]

/-- 'quadformlaw32.LocalmassRegular': WHATEVER THE INPUT: true; the input reads as it did. -/
def localmassRegularSpec : ChangeSpec := { name := "localmassRegular", fn := fun _ => fun
  | [d1, d2] => { results := [.lit (.bool true)], args := [d1, d2] }
  | _ => none }
def localmassRegularRow : OpenClaim := { program := "ytfmjdlogjmofbaagreatdoor", sum := "42dc045e8ea1ecb6c351368f79c25f0575cffdaee133a2467143e3a115685952", func := "quadform/quadformlaw32.LocalmassRegular", spec := "localmassRegular", unfollowed := true, recurses := true, named := ["quadform/prime.offsets", "quadform/localmass.table"], apart := false, laid := [("quadform/prime.offsets", laid_quadform_prime_offsets), ("quadform/localmass.table", laid_quadform_localmass_table)] }
def LocalmassRegularSaid : Prop := localmassRegularRow.holds Tryz.pinned (OpenSpec.ofChange localmassRegularSpec)

/-- ITS FALSE NEIGHBOUR: 'it returns false'. Refute it at one input. -/
def localmassRegularWrong : ChangeSpec := { name := "localmassRegular", fn := fun _ => fun
  | [d1, d2] => { results := [.lit (.bool false)], args := [d1, d2] }
  | _ => none }
def LocalmassRegularWrongFalsely : Prop := localmassRegularRow.holds Tryz.pinned (OpenSpec.ofChange localmassRegularWrong)

/-- 'quadformlaw32.LocalmassPositive': WHATEVER THE INPUT: true; the input reads as it did. -/
def localmassPositiveSpec : ChangeSpec := { name := "localmassPositive", fn := fun _ => fun
  | [d1, d2] => { results := [.lit (.bool true)], args := [d1, d2] }
  | _ => none }
def localmassPositiveRow : OpenClaim := { program := "ytfmjdlogjmofbaagreatdoor", sum := "42dc045e8ea1ecb6c351368f79c25f0575cffdaee133a2467143e3a115685952", func := "quadform/quadformlaw32.LocalmassPositive", spec := "localmassPositive", unfollowed := true, recurses := true, named := ["quadform/prime.offsets", "quadform/localmass.table"], apart := false, laid := [("quadform/prime.offsets", laid_quadform_prime_offsets), ("quadform/localmass.table", laid_quadform_localmass_table)] }
def LocalmassPositiveSaid : Prop := localmassPositiveRow.holds Tryz.pinned (OpenSpec.ofChange localmassPositiveSpec)

/-- ITS FALSE NEIGHBOUR: 'it returns false'. Refute it at one input. -/
def localmassPositiveWrong : ChangeSpec := { name := "localmassPositive", fn := fun _ => fun
  | [d1, d2] => { results := [.lit (.bool false)], args := [d1, d2] }
  | _ => none }
def LocalmassPositiveWrongFalsely : Prop := localmassPositiveRow.holds Tryz.pinned (OpenSpec.ofChange localmassPositiveWrong)

/- THE SECOND FORM. 'bulk': how many values and letters a reading holds, each counted each time it is reached (what is shared counts as often as it is met; a slice's spare places count too). A statement '..UptoSaid' is the law's where the arguments, and the package variables that the reading takes, are together of bulk at most 1048576: NARROWER than '..Said'. Prove '..Said' where nothing that the law and all that it calls make is longer than what came in: it says more and counts as full. Else prove '..UptoSaid'. A law counts once. -/
mutual
def uptoBulk {H : Type} : DataW H → Nat
  | .lit (.string bytes) => bytes.length + 1
  | .lit _ => 1
  | .nil => 1
  | .ptr d => uptoBulk d + 1
  | .slice elems spare => uptoBulkAll elems + uptoBulkAll spare + 1
  | .agg parts => uptoBulkAll parts + 1
  | .iface _ d => uptoBulk d + 1
  | .map entries => uptoBulkEntries entries + 1
  | .held _ => 1
def uptoBulkAll {H : Type} : List (DataW H) → Nat
  | [] => 0
  | d :: r => uptoBulk d + uptoBulkAll r
def uptoBulkEntries {H : Type} : List (Lit × DataW H) → Nat
  | [] => 0
  | x :: r => uptoBulkEntry x + uptoBulkEntries r
def uptoBulkEntry {H : Type} : Lit × DataW H → Nat
  | (.string bytes, d) => bytes.length + uptoBulk d + 1
  | (_, d) => uptoBulk d + 1
 end
def uptoSmall : (H : Type) → List (DataW H) → Bool := fun _ ds => decide (uptoBulkAll ds ≤ 1048576)
def OpenSpec.upto (s : _root_.Go.ChangeSpec) : _root_.Go.OpenSpec := { _root_.Go.OpenSpec.ofChange s with cond := some uptoSmall }

/-- 'quadformlaw32.LocalmassRegular', WHERE WHAT IT READS IS OF BULK AT MOST 1048576: true; the input reads as it did. -/
def localmassRegularUptoRow : OpenClaim := { program := "ytfmjdlogjmofbaagreatdoor", sum := "42dc045e8ea1ecb6c351368f79c25f0575cffdaee133a2467143e3a115685952", func := "quadform/quadformlaw32.LocalmassRegular", spec := "localmassRegular", unfollowed := true, recurses := true, named := ["quadform/prime.offsets", "quadform/localmass.table"], apart := false, laid := [("quadform/prime.offsets", laid_quadform_prime_offsets), ("quadform/localmass.table", laid_quadform_localmass_table)], narrowed := true }
def LocalmassRegularUptoSaid : Prop := localmassRegularUptoRow.holds Tryz.pinned (OpenSpec.upto localmassRegularSpec)

/-- 'quadformlaw32.LocalmassPositive', WHERE WHAT IT READS IS OF BULK AT MOST 1048576: true; the input reads as it did. -/
def localmassPositiveUptoRow : OpenClaim := { program := "ytfmjdlogjmofbaagreatdoor", sum := "42dc045e8ea1ecb6c351368f79c25f0575cffdaee133a2467143e3a115685952", func := "quadform/quadformlaw32.LocalmassPositive", spec := "localmassPositive", unfollowed := true, recurses := true, named := ["quadform/prime.offsets", "quadform/localmass.table"], apart := false, laid := [("quadform/prime.offsets", laid_quadform_prime_offsets), ("quadform/localmass.table", laid_quadform_localmass_table)], narrowed := true }
def LocalmassPositiveUptoSaid : Prop := localmassPositiveUptoRow.holds Tryz.pinned (OpenSpec.upto localmassPositiveSpec)

end Rows
end Go.Proofs.YtfmjdlogjmofbaaGreatDoor
