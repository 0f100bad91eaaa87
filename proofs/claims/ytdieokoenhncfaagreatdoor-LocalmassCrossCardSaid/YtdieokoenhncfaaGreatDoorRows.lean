/-
  NARROWER THAN 'FOR EVERY INPUT', by the rows' own cells (each row's printed sentence says how): LocalmassCross: laid · LocalmassSpecies: laid · LocalmassMass: laid · LocalmassScales: laid · LocalmassWalks: laid.
  DERIVED. THE GIVEN ROWS OF THIS SEAT. 5 by the template 'for every input the law returns true; each argument reads behind the call as it read before'; 0 by the template 'total and deterministic' (their statements: YtdieokoenhncfaaGreatDoorTotals.lean).
  GIVEN WITH THE SEED: the statements are not yours to turn. If you find one false, say at which input.
  Laid BY PROGRAM, IN A SANDBOX (cutbox-rows.mjs): the forced cells as the released guide's own fill.sh prints them over the translation d3471977ceb746c6… (all of the seat's roots in one cut). By AI agents, Wed Nov 11 2026. No macro, syntax, notation, axiom, sorry.
-/
import Derived.Test.YtdieokoenhncfaaGreatDoorChecked
import GoSem.Claim
import GoSem.ClaimJoined
import GoSem.ClaimMapViews
import Derived.JoinedTies
import Derived.KernelRfl
namespace Go.Proofs.YtdieokoenhncfaaGreatDoor
/- THE CELL 'sum', in the pinned program and in every row, IS THE sha256 OF THE DUMP (.gsa) THAT YtdieokoenhncfaaGreatDoorProg.lean LOADS. Nothing in Lean hashes anything: it is a label: what it is worth is what the hold of that sum in a sandbox is worth. -/
noncomputable def Tryz.pinned : Pinned := { name := "ytdieokoenhncfaagreatdoor", sum := "d3471977ceb746c6209cef3bbf8fc54c81b97f978454fff311b6a2dc11a82043", checked := Tryz.checked }
namespace Rows
def none {H : Type} : Left H := { results := [], args := [] }

/- WHAT THE LISTED PACKAGE-LEVEL VARIABLES READ AS WHEN THE CALL BEGINS. Each datum BY PROGRAM (the guide's laid-datum.mjs) off the statement by which the dump's own 'gosem.cut.vars' lays the variable. In a bare row this is a premise. The card (YtdieokoenhncfaaGreatDoorCards.lean) ties it to the program's text. -/
def laid_quadform_prime_offsets {H : Type} : DataW H := .agg [.lit (.int .i64 7), .lit (.int .i64 11), .lit (.int .i64 13), .lit (.int .i64 17), .lit (.int .i64 19), .lit (.int .i64 23), .lit (.int .i64 29), .lit (.int .i64 31)]
def laid_quadform_localmass_table {H : Type} : DataW H := .agg [.agg [.lit (.bool false), .lit (.bool false), .lit (.int .i64 0), .lit (.int .i64 0), .lit (.int .i64 2)], .agg [.lit (.bool false), .lit (.bool true), .lit (.int .i64 0), .lit (.int .i64 1), .lit (.int .i64 0)], .agg [.lit (.bool true), .lit (.bool true), .lit (.int .i64 1), .lit (.int .i64 0), .lit (.int .i64 0)], .agg [.lit (.bool true), .lit (.bool true), .lit (.int .i64 0), .lit (.int .i64 (-1)), .lit (.int .i64 0)], .agg [.lit (.bool true), .lit (.bool false), .lit (.int .i64 0), .lit (.int .i64 (-2)), .lit (.int .i64 1)], .agg [.lit (.bool true), .lit (.bool false), .lit (.int .i64 1), .lit (.int .i64 (-1)), .lit (.int .i64 1)], .agg [.lit (.bool true), .lit (.bool false), .lit (.int .i64 7), .lit (.int .i64 (-1)), .lit (.int .i64 1)], .agg [.lit (.bool true), .lit (.bool false), .lit (.int .i64 2), .lit (.int .i64 (-1)), .lit (.int .i64 0)], .agg [.lit (.bool true), .lit (.bool false), .lit (.int .i64 6), .lit (.int .i64 (-1)), .lit (.int .i64 0)], .agg [.lit (.bool true), .lit (.bool false), .lit (.int .i64 3), .lit (.int .i64 (-1)), .lit (.int .i64 (-1))], .agg [.lit (.bool true), .lit (.bool false), .lit (.int .i64 5), .lit (.int .i64 (-1)), .lit (.int .i64 (-1))], .agg [.lit (.bool true), .lit (.bool false), .lit (.int .i64 4), .lit (.int .i64 (-2)), .lit (.int .i64 (-1))]]

/-- 'quadformlaw32.LocalmassCross': WHATEVER THE INPUT: true; the input reads as it did. -/
def localmassCrossSpec : ChangeSpec := { name := "localmassCross", fn := fun _ => fun
  | [d1, d2, d3, d4, d5, d6] => { results := [.lit (.bool true)], args := [d1, d2, d3, d4, d5, d6] }
  | _ => none }
def localmassCrossRow : OpenClaim := { program := "ytdieokoenhncfaagreatdoor", sum := "d3471977ceb746c6209cef3bbf8fc54c81b97f978454fff311b6a2dc11a82043", func := "quadform/quadformlaw32.LocalmassCross", spec := "localmassCross", unfollowed := true, recurses := true, named := ["quadform/prime.offsets", "quadform/localmass.table"], apart := false, laid := [("quadform/prime.offsets", laid_quadform_prime_offsets), ("quadform/localmass.table", laid_quadform_localmass_table)] }
def LocalmassCrossSaid : Prop := localmassCrossRow.holds Tryz.pinned (OpenSpec.ofChange localmassCrossSpec)

/-- ITS FALSE NEIGHBOUR: 'it returns false'. Refute it at one input. -/
def localmassCrossWrong : ChangeSpec := { name := "localmassCross", fn := fun _ => fun
  | [d1, d2, d3, d4, d5, d6] => { results := [.lit (.bool false)], args := [d1, d2, d3, d4, d5, d6] }
  | _ => none }
def LocalmassCrossWrongFalsely : Prop := localmassCrossRow.holds Tryz.pinned (OpenSpec.ofChange localmassCrossWrong)

/-- 'quadformlaw32.LocalmassSpecies': WHATEVER THE INPUT: true; the input reads as it did. -/
def localmassSpeciesSpec : ChangeSpec := { name := "localmassSpecies", fn := fun _ => fun
  | [d1, d2, d3, d4, d5, d6, d7, d8] => { results := [.lit (.bool true)], args := [d1, d2, d3, d4, d5, d6, d7, d8] }
  | _ => none }
def localmassSpeciesRow : OpenClaim := { program := "ytdieokoenhncfaagreatdoor", sum := "d3471977ceb746c6209cef3bbf8fc54c81b97f978454fff311b6a2dc11a82043", func := "quadform/quadformlaw32.LocalmassSpecies", spec := "localmassSpecies", unfollowed := true, recurses := true, named := ["quadform/prime.offsets", "quadform/localmass.table"], apart := false, laid := [("quadform/prime.offsets", laid_quadform_prime_offsets), ("quadform/localmass.table", laid_quadform_localmass_table)] }
def LocalmassSpeciesSaid : Prop := localmassSpeciesRow.holds Tryz.pinned (OpenSpec.ofChange localmassSpeciesSpec)

/-- ITS FALSE NEIGHBOUR: 'it returns false'. Refute it at one input. -/
def localmassSpeciesWrong : ChangeSpec := { name := "localmassSpecies", fn := fun _ => fun
  | [d1, d2, d3, d4, d5, d6, d7, d8] => { results := [.lit (.bool false)], args := [d1, d2, d3, d4, d5, d6, d7, d8] }
  | _ => none }
def LocalmassSpeciesWrongFalsely : Prop := localmassSpeciesRow.holds Tryz.pinned (OpenSpec.ofChange localmassSpeciesWrong)

/-- 'quadformlaw32.LocalmassMass': WHATEVER THE INPUT: true; the input reads as it did. -/
def localmassMassSpec : ChangeSpec := { name := "localmassMass", fn := fun _ => fun
  | [d1, d2, d3, d4, d5, d6] => { results := [.lit (.bool true)], args := [d1, d2, d3, d4, d5, d6] }
  | _ => none }
def localmassMassRow : OpenClaim := { program := "ytdieokoenhncfaagreatdoor", sum := "d3471977ceb746c6209cef3bbf8fc54c81b97f978454fff311b6a2dc11a82043", func := "quadform/quadformlaw32.LocalmassMass", spec := "localmassMass", unfollowed := true, recurses := true, named := ["quadform/prime.offsets", "quadform/localmass.table"], apart := false, laid := [("quadform/prime.offsets", laid_quadform_prime_offsets), ("quadform/localmass.table", laid_quadform_localmass_table)] }
def LocalmassMassSaid : Prop := localmassMassRow.holds Tryz.pinned (OpenSpec.ofChange localmassMassSpec)

/-- ITS FALSE NEIGHBOUR: 'it returns false'. Refute it at one input. -/
def localmassMassWrong : ChangeSpec := { name := "localmassMass", fn := fun _ => fun
  | [d1, d2, d3, d4, d5, d6] => { results := [.lit (.bool false)], args := [d1, d2, d3, d4, d5, d6] }
  | _ => none }
def LocalmassMassWrongFalsely : Prop := localmassMassRow.holds Tryz.pinned (OpenSpec.ofChange localmassMassWrong)

/-- 'quadformlaw32.LocalmassScales': WHATEVER THE INPUT: true; the input reads as it did. -/
def localmassScalesSpec : ChangeSpec := { name := "localmassScales", fn := fun _ => fun
  | [d1, d2] => { results := [.lit (.bool true)], args := [d1, d2] }
  | _ => none }
def localmassScalesRow : OpenClaim := { program := "ytdieokoenhncfaagreatdoor", sum := "d3471977ceb746c6209cef3bbf8fc54c81b97f978454fff311b6a2dc11a82043", func := "quadform/quadformlaw32.LocalmassScales", spec := "localmassScales", unfollowed := true, recurses := true, named := ["quadform/prime.offsets", "quadform/localmass.table"], apart := false, laid := [("quadform/prime.offsets", laid_quadform_prime_offsets), ("quadform/localmass.table", laid_quadform_localmass_table)] }
def LocalmassScalesSaid : Prop := localmassScalesRow.holds Tryz.pinned (OpenSpec.ofChange localmassScalesSpec)

/-- ITS FALSE NEIGHBOUR: 'it returns false'. Refute it at one input. -/
def localmassScalesWrong : ChangeSpec := { name := "localmassScales", fn := fun _ => fun
  | [d1, d2] => { results := [.lit (.bool false)], args := [d1, d2] }
  | _ => none }
def LocalmassScalesWrongFalsely : Prop := localmassScalesRow.holds Tryz.pinned (OpenSpec.ofChange localmassScalesWrong)

/-- 'quadformlaw32.LocalmassWalks': WHATEVER THE INPUT: true; the input reads as it did. -/
def localmassWalksSpec : ChangeSpec := { name := "localmassWalks", fn := fun _ => fun
  | [d1, d2] => { results := [.lit (.bool true)], args := [d1, d2] }
  | _ => none }
def localmassWalksRow : OpenClaim := { program := "ytdieokoenhncfaagreatdoor", sum := "d3471977ceb746c6209cef3bbf8fc54c81b97f978454fff311b6a2dc11a82043", func := "quadform/quadformlaw32.LocalmassWalks", spec := "localmassWalks", unfollowed := true, recurses := true, named := ["quadform/prime.offsets", "quadform/localmass.table"], apart := false, laid := [("quadform/prime.offsets", laid_quadform_prime_offsets), ("quadform/localmass.table", laid_quadform_localmass_table)] }
def LocalmassWalksSaid : Prop := localmassWalksRow.holds Tryz.pinned (OpenSpec.ofChange localmassWalksSpec)

/-- ITS FALSE NEIGHBOUR: 'it returns false'. Refute it at one input. -/
def localmassWalksWrong : ChangeSpec := { name := "localmassWalks", fn := fun _ => fun
  | [d1, d2] => { results := [.lit (.bool false)], args := [d1, d2] }
  | _ => none }
def LocalmassWalksWrongFalsely : Prop := localmassWalksRow.holds Tryz.pinned (OpenSpec.ofChange localmassWalksWrong)

/- THE SECOND FORM. 'bulk': how many values and letters a reading holds, each counted each time it is reached (what is shared counts as often as it is met; a slice's spare places count too). A statement '..UptoSaid' is the law's where the arguments, and the package variables that the reading takes, are together of bulk at most 1048576: NARROWER than '..Said'. Prove '..Said' where nothing that the law and all that it calls make is longer than what came in: it says more and counts as full. Else prove '..UptoSaid'. A law counts once. -/
mutual
def uptoBulk {H : Type} : DataW H → Nat
  | .lit (.string bytes) => bytes.length + 1
  | .lit _ => 1
  | .nil => 1
  | .ptr d => uptoBulk d + 1
  | .slice elems spare => uptoBulkAll elems + uptoBulkAll spare + 1
  | .agg parts => uptoBulkAll parts + 1
  | .iface _ d => uptoBulk d + 1
  | .map entries => uptoBulkEntries entries + 1
  | .held _ => 1
def uptoBulkAll {H : Type} : List (DataW H) → Nat
  | [] => 0
  | d :: r => uptoBulk d + uptoBulkAll r
def uptoBulkEntries {H : Type} : List (Lit × DataW H) → Nat
  | [] => 0
  | x :: r => uptoBulkEntry x + uptoBulkEntries r
def uptoBulkEntry {H : Type} : Lit × DataW H → Nat
  | (.string bytes, d) => bytes.length + uptoBulk d + 1
  | (_, d) => uptoBulk d + 1
 end
def uptoSmall : (H : Type) → List (DataW H) → Bool := fun _ ds => decide (uptoBulkAll ds ≤ 1048576)
def OpenSpec.upto (s : _root_.Go.ChangeSpec) : _root_.Go.OpenSpec := { _root_.Go.OpenSpec.ofChange s with cond := some uptoSmall }

/-- 'quadformlaw32.LocalmassCross', WHERE WHAT IT READS IS OF BULK AT MOST 1048576: true; the input reads as it did. -/
def localmassCrossUptoRow : OpenClaim := { program := "ytdieokoenhncfaagreatdoor", sum := "d3471977ceb746c6209cef3bbf8fc54c81b97f978454fff311b6a2dc11a82043", func := "quadform/quadformlaw32.LocalmassCross", spec := "localmassCross", unfollowed := true, recurses := true, named := ["quadform/prime.offsets", "quadform/localmass.table"], apart := false, laid := [("quadform/prime.offsets", laid_quadform_prime_offsets), ("quadform/localmass.table", laid_quadform_localmass_table)], narrowed := true }
def LocalmassCrossUptoSaid : Prop := localmassCrossUptoRow.holds Tryz.pinned (OpenSpec.upto localmassCrossSpec)

/-- 'quadformlaw32.LocalmassSpecies', WHERE WHAT IT READS IS OF BULK AT MOST 1048576: true; the input reads as it did. -/
def localmassSpeciesUptoRow : OpenClaim := { program := "ytdieokoenhncfaagreatdoor", sum := "d3471977ceb746c6209cef3bbf8fc54c81b97f978454fff311b6a2dc11a82043", func := "quadform/quadformlaw32.LocalmassSpecies", spec := "localmassSpecies", unfollowed := true, recurses := true, named := ["quadform/prime.offsets", "quadform/localmass.table"], apart := false, laid := [("quadform/prime.offsets", laid_quadform_prime_offsets), ("quadform/localmass.table", laid_quadform_localmass_table)], narrowed := true }
def LocalmassSpeciesUptoSaid : Prop := localmassSpeciesUptoRow.holds Tryz.pinned (OpenSpec.upto localmassSpeciesSpec)

/-- 'quadformlaw32.LocalmassMass', WHERE WHAT IT READS IS OF BULK AT MOST 1048576: true; the input reads as it did. -/
def localmassMassUptoRow : OpenClaim := { program := "ytdieokoenhncfaagreatdoor", sum := "d3471977ceb746c6209cef3bbf8fc54c81b97f978454fff311b6a2dc11a82043", func := "quadform/quadformlaw32.LocalmassMass", spec := "localmassMass", unfollowed := true, recurses := true, named := ["quadform/prime.offsets", "quadform/localmass.table"], apart := false, laid := [("quadform/prime.offsets", laid_quadform_prime_offsets), ("quadform/localmass.table", laid_quadform_localmass_table)], narrowed := true }
def LocalmassMassUptoSaid : Prop := localmassMassUptoRow.holds Tryz.pinned (OpenSpec.upto localmassMassSpec)

/-- 'quadformlaw32.LocalmassScales', WHERE WHAT IT READS IS OF BULK AT MOST 1048576: true; the input reads as it did. -/
def localmassScalesUptoRow : OpenClaim := { program := "ytdieokoenhncfaagreatdoor", sum := "d3471977ceb746c6209cef3bbf8fc54c81b97f978454fff311b6a2dc11a82043", func := "quadform/quadformlaw32.LocalmassScales", spec := "localmassScales", unfollowed := true, recurses := true, named := ["quadform/prime.offsets", "quadform/localmass.table"], apart := false, laid := [("quadform/prime.offsets", laid_quadform_prime_offsets), ("quadform/localmass.table", laid_quadform_localmass_table)], narrowed := true }
def LocalmassScalesUptoSaid : Prop := localmassScalesUptoRow.holds Tryz.pinned (OpenSpec.upto localmassScalesSpec)

/-- 'quadformlaw32.LocalmassWalks', WHERE WHAT IT READS IS OF BULK AT MOST 1048576: true; the input reads as it did. -/
def localmassWalksUptoRow : OpenClaim := { program := "ytdieokoenhncfaagreatdoor", sum := "d3471977ceb746c6209cef3bbf8fc54c81b97f978454fff311b6a2dc11a82043", func := "quadform/quadformlaw32.LocalmassWalks", spec := "localmassWalks", unfollowed := true, recurses := true, named := ["quadform/prime.offsets", "quadform/localmass.table"], apart := false, laid := [("quadform/prime.offsets", laid_quadform_prime_offsets), ("quadform/localmass.table", laid_quadform_localmass_table)], narrowed := true }
def LocalmassWalksUptoSaid : Prop := localmassWalksUptoRow.holds Tryz.pinned (OpenSpec.upto localmassWalksSpec)

end Rows
end Go.Proofs.YtdieokoenhncfaaGreatDoor
