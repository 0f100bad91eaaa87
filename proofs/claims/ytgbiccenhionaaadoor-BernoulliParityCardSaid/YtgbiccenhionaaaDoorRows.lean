/-
  NARROWER THAN 'FOR EVERY INPUT', by the rows' own cells (each row's printed sentence says how): BernoulliNumber: laid · BernoulliDenominator: laid · BernoulliFundamental: laid · BernoulliClasses: laid · BernoulliParity: laid · BernoulliCharacter: laid · BernoulliPeriod: laid · BernoulliSums: laid · BernoulliSymmetry: laid.
  DERIVED. THE GIVEN ROWS OF THIS SEAT. 9 by the template 'for every input the law returns true; each argument reads behind the call as it read before'; 0 by the template 'total and deterministic' (their statements: YtgbiccenhionaaaDoorTotals.lean).
  GIVEN WITH THE SEED: the statements are not yours to turn. If you find one false, say at which input.
  Laid BY PROGRAM, IN A SANDBOX (cutbox-rows.mjs): the forced cells as the released guide's own fill.sh prints them over the translation ff28d712907ef3da… (all of the seat's roots in one cut). By AI agents, Wed Nov 11 2026. No macro, syntax, notation, axiom, sorry.
-/
import Derived.Test.YtgbiccenhionaaaDoorChecked
import GoSem.Claim
import GoSem.ClaimJoined
import GoSem.ClaimMapViews
import Derived.JoinedTies
import Derived.KernelRfl
namespace Go.Proofs.YtgbiccenhionaaaDoor
/- THE CELL 'sum', in the pinned program and in every row, IS THE sha256 OF THE DUMP (.gsa) THAT YtgbiccenhionaaaDoorProg.lean LOADS. Nothing in Lean hashes anything: it is a label: what it is worth is what the hold of that sum in a sandbox is worth. -/
noncomputable def Tryd.pinned : Pinned := { name := "ytgbiccenhionaaadoor", sum := "ff28d712907ef3da31e05bf913ba10371b5af7cb32551e3bec528936e424744d", checked := Tryd.checked }
namespace Rows
def none {H : Type} : Left H := { results := [], args := [] }

/- WHAT THE LISTED PACKAGE-LEVEL VARIABLES READ AS WHEN THE CALL BEGINS. Each datum BY PROGRAM (the guide's laid-datum.mjs) off the statement by which the dump's own 'gosem.cut.vars' lays the variable. In a bare row this is a premise. The card (YtgbiccenhionaaaDoorCards.lean) ties it to the program's text. -/
def laid_quadform_prime_offsets {H : Type} : DataW H := .agg [.lit (.int .i64 7), .lit (.int .i64 11), .lit (.int .i64 13), .lit (.int .i64 17), .lit (.int .i64 19), .lit (.int .i64 23), .lit (.int .i64 29), .lit (.int .i64 31)]

/-- 'quadformlaw31.BernoulliNumber': WHATEVER THE INPUT: true; the input reads as it did. -/
def bernoulliNumberSpec : ChangeSpec := { name := "bernoulliNumber", fn := fun _ => fun
  | [d1, d2] => { results := [.lit (.bool true)], args := [d1, d2] }
  | _ => none }
def bernoulliNumberRow : OpenClaim := { program := "ytgbiccenhionaaadoor", sum := "ff28d712907ef3da31e05bf913ba10371b5af7cb32551e3bec528936e424744d", func := "quadform/quadformlaw31.BernoulliNumber", spec := "bernoulliNumber", named := ["quadform/prime.offsets"], apart := false, laid := [("quadform/prime.offsets", laid_quadform_prime_offsets)] }
def BernoulliNumberSaid : Prop := bernoulliNumberRow.holds Tryd.pinned (OpenSpec.ofChange bernoulliNumberSpec)

/-- ITS FALSE NEIGHBOUR: 'it returns false'. Refute it at one input. -/
def bernoulliNumberWrong : ChangeSpec := { name := "bernoulliNumber", fn := fun _ => fun
  | [d1, d2] => { results := [.lit (.bool false)], args := [d1, d2] }
  | _ => none }
def BernoulliNumberWrongFalsely : Prop := bernoulliNumberRow.holds Tryd.pinned (OpenSpec.ofChange bernoulliNumberWrong)

/-- 'quadformlaw31.BernoulliDenominator': WHATEVER THE INPUT: true; the input reads as it did. -/
def bernoulliDenominatorSpec : ChangeSpec := { name := "bernoulliDenominator", fn := fun _ => fun
  | [d] => { results := [.lit (.bool true)], args := [d] }
  | _ => none }
def bernoulliDenominatorRow : OpenClaim := { program := "ytgbiccenhionaaadoor", sum := "ff28d712907ef3da31e05bf913ba10371b5af7cb32551e3bec528936e424744d", func := "quadform/quadformlaw31.BernoulliDenominator", spec := "bernoulliDenominator", named := ["quadform/prime.offsets"], apart := false, laid := [("quadform/prime.offsets", laid_quadform_prime_offsets)] }
def BernoulliDenominatorSaid : Prop := bernoulliDenominatorRow.holds Tryd.pinned (OpenSpec.ofChange bernoulliDenominatorSpec)

/-- ITS FALSE NEIGHBOUR: 'it returns false'. Refute it at one input. -/
def bernoulliDenominatorWrong : ChangeSpec := { name := "bernoulliDenominator", fn := fun _ => fun
  | [d] => { results := [.lit (.bool false)], args := [d] }
  | _ => none }
def BernoulliDenominatorWrongFalsely : Prop := bernoulliDenominatorRow.holds Tryd.pinned (OpenSpec.ofChange bernoulliDenominatorWrong)

/-- 'quadformlaw31.BernoulliFundamental': WHATEVER THE INPUT: true; the input reads as it did. -/
def bernoulliFundamentalSpec : ChangeSpec := { name := "bernoulliFundamental", fn := fun _ => fun
  | [d1, d2] => { results := [.lit (.bool true)], args := [d1, d2] }
  | _ => none }
def bernoulliFundamentalRow : OpenClaim := { program := "ytgbiccenhionaaadoor", sum := "ff28d712907ef3da31e05bf913ba10371b5af7cb32551e3bec528936e424744d", func := "quadform/quadformlaw31.BernoulliFundamental", spec := "bernoulliFundamental", named := ["quadform/prime.offsets"], apart := false, laid := [("quadform/prime.offsets", laid_quadform_prime_offsets)] }
def BernoulliFundamentalSaid : Prop := bernoulliFundamentalRow.holds Tryd.pinned (OpenSpec.ofChange bernoulliFundamentalSpec)

/-- ITS FALSE NEIGHBOUR: 'it returns false'. Refute it at one input. -/
def bernoulliFundamentalWrong : ChangeSpec := { name := "bernoulliFundamental", fn := fun _ => fun
  | [d1, d2] => { results := [.lit (.bool false)], args := [d1, d2] }
  | _ => none }
def BernoulliFundamentalWrongFalsely : Prop := bernoulliFundamentalRow.holds Tryd.pinned (OpenSpec.ofChange bernoulliFundamentalWrong)

/-- 'quadformlaw31.BernoulliClasses': WHATEVER THE INPUT: true; the input reads as it did. -/
def bernoulliClassesSpec : ChangeSpec := { name := "bernoulliClasses", fn := fun _ => fun
  | [d] => { results := [.lit (.bool true)], args := [d] }
  | _ => none }
def bernoulliClassesRow : OpenClaim := { program := "ytgbiccenhionaaadoor", sum := "ff28d712907ef3da31e05bf913ba10371b5af7cb32551e3bec528936e424744d", func := "quadform/quadformlaw31.BernoulliClasses", spec := "bernoulliClasses", named := ["quadform/prime.offsets"], apart := false, laid := [("quadform/prime.offsets", laid_quadform_prime_offsets)] }
def BernoulliClassesSaid : Prop := bernoulliClassesRow.holds Tryd.pinned (OpenSpec.ofChange bernoulliClassesSpec)

/-- ITS FALSE NEIGHBOUR: 'it returns false'. Refute it at one input. -/
def bernoulliClassesWrong : ChangeSpec := { name := "bernoulliClasses", fn := fun _ => fun
  | [d] => { results := [.lit (.bool false)], args := [d] }
  | _ => none }
def BernoulliClassesWrongFalsely : Prop := bernoulliClassesRow.holds Tryd.pinned (OpenSpec.ofChange bernoulliClassesWrong)

/-- 'quadformlaw31.BernoulliParity': WHATEVER THE INPUT: true; the input reads as it did. -/
def bernoulliParitySpec : ChangeSpec := { name := "bernoulliParity", fn := fun _ => fun
  | [d1, d2] => { results := [.lit (.bool true)], args := [d1, d2] }
  | _ => none }
def bernoulliParityRow : OpenClaim := { program := "ytgbiccenhionaaadoor", sum := "ff28d712907ef3da31e05bf913ba10371b5af7cb32551e3bec528936e424744d", func := "quadform/quadformlaw31.BernoulliParity", spec := "bernoulliParity", named := ["quadform/prime.offsets"], apart := false, laid := [("quadform/prime.offsets", laid_quadform_prime_offsets)] }
def BernoulliParitySaid : Prop := bernoulliParityRow.holds Tryd.pinned (OpenSpec.ofChange bernoulliParitySpec)

/-- ITS FALSE NEIGHBOUR: 'it returns false'. Refute it at one input. -/
def bernoulliParityWrong : ChangeSpec := { name := "bernoulliParity", fn := fun _ => fun
  | [d1, d2] => { results := [.lit (.bool false)], args := [d1, d2] }
  | _ => none }
def BernoulliParityWrongFalsely : Prop := bernoulliParityRow.holds Tryd.pinned (OpenSpec.ofChange bernoulliParityWrong)

/-- 'quadformlaw31.BernoulliCharacter': WHATEVER THE INPUT: true; the input reads as it did. -/
def bernoulliCharacterSpec : ChangeSpec := { name := "bernoulliCharacter", fn := fun _ => fun
  | [d1, d2, d3] => { results := [.lit (.bool true)], args := [d1, d2, d3] }
  | _ => none }
def bernoulliCharacterRow : OpenClaim := { program := "ytgbiccenhionaaadoor", sum := "ff28d712907ef3da31e05bf913ba10371b5af7cb32551e3bec528936e424744d", func := "quadform/quadformlaw31.BernoulliCharacter", spec := "bernoulliCharacter", named := ["quadform/prime.offsets"], apart := false, laid := [("quadform/prime.offsets", laid_quadform_prime_offsets)] }
def BernoulliCharacterSaid : Prop := bernoulliCharacterRow.holds Tryd.pinned (OpenSpec.ofChange bernoulliCharacterSpec)

/-- ITS FALSE NEIGHBOUR: 'it returns false'. Refute it at one input. -/
def bernoulliCharacterWrong : ChangeSpec := { name := "bernoulliCharacter", fn := fun _ => fun
  | [d1, d2, d3] => { results := [.lit (.bool false)], args := [d1, d2, d3] }
  | _ => none }
def BernoulliCharacterWrongFalsely : Prop := bernoulliCharacterRow.holds Tryd.pinned (OpenSpec.ofChange bernoulliCharacterWrong)

/-- 'quadformlaw31.BernoulliPeriod': WHATEVER THE INPUT: true; the input reads as it did. -/
def bernoulliPeriodSpec : ChangeSpec := { name := "bernoulliPeriod", fn := fun _ => fun
  | [d1, d2, d3] => { results := [.lit (.bool true)], args := [d1, d2, d3] }
  | _ => none }
def bernoulliPeriodRow : OpenClaim := { program := "ytgbiccenhionaaadoor", sum := "ff28d712907ef3da31e05bf913ba10371b5af7cb32551e3bec528936e424744d", func := "quadform/quadformlaw31.BernoulliPeriod", spec := "bernoulliPeriod", named := ["quadform/prime.offsets"], apart := false, laid := [("quadform/prime.offsets", laid_quadform_prime_offsets)] }
def BernoulliPeriodSaid : Prop := bernoulliPeriodRow.holds Tryd.pinned (OpenSpec.ofChange bernoulliPeriodSpec)

/-- ITS FALSE NEIGHBOUR: 'it returns false'. Refute it at one input. -/
def bernoulliPeriodWrong : ChangeSpec := { name := "bernoulliPeriod", fn := fun _ => fun
  | [d1, d2, d3] => { results := [.lit (.bool false)], args := [d1, d2, d3] }
  | _ => none }
def BernoulliPeriodWrongFalsely : Prop := bernoulliPeriodRow.holds Tryd.pinned (OpenSpec.ofChange bernoulliPeriodWrong)

/-- 'quadformlaw31.BernoulliSums': WHATEVER THE INPUT: true; the input reads as it did. -/
def bernoulliSumsSpec : ChangeSpec := { name := "bernoulliSums", fn := fun _ => fun
  | [d1, d2] => { results := [.lit (.bool true)], args := [d1, d2] }
  | _ => none }
def bernoulliSumsRow : OpenClaim := { program := "ytgbiccenhionaaadoor", sum := "ff28d712907ef3da31e05bf913ba10371b5af7cb32551e3bec528936e424744d", func := "quadform/quadformlaw31.BernoulliSums", spec := "bernoulliSums", named := ["quadform/prime.offsets"], apart := false, laid := [("quadform/prime.offsets", laid_quadform_prime_offsets)] }
def BernoulliSumsSaid : Prop := bernoulliSumsRow.holds Tryd.pinned (OpenSpec.ofChange bernoulliSumsSpec)

/-- ITS FALSE NEIGHBOUR: 'it returns false'. Refute it at one input. -/
def bernoulliSumsWrong : ChangeSpec := { name := "bernoulliSums", fn := fun _ => fun
  | [d1, d2] => { results := [.lit (.bool false)], args := [d1, d2] }
  | _ => none }
def BernoulliSumsWrongFalsely : Prop := bernoulliSumsRow.holds Tryd.pinned (OpenSpec.ofChange bernoulliSumsWrong)

/-- 'quadformlaw31.BernoulliSymmetry': WHATEVER THE INPUT: true; the input reads as it did. -/
def bernoulliSymmetrySpec : ChangeSpec := { name := "bernoulliSymmetry", fn := fun _ => fun
  | [d1, d2, d3] => { results := [.lit (.bool true)], args := [d1, d2, d3] }
  | _ => none }
def bernoulliSymmetryRow : OpenClaim := { program := "ytgbiccenhionaaadoor", sum := "ff28d712907ef3da31e05bf913ba10371b5af7cb32551e3bec528936e424744d", func := "quadform/quadformlaw31.BernoulliSymmetry", spec := "bernoulliSymmetry", unfollowed := true, recurses := true, named := ["quadform/prime.offsets"], apart := false, laid := [("quadform/prime.offsets", laid_quadform_prime_offsets)] }
def BernoulliSymmetrySaid : Prop := bernoulliSymmetryRow.holds Tryd.pinned (OpenSpec.ofChange bernoulliSymmetrySpec)

/-- ITS FALSE NEIGHBOUR: 'it returns false'. Refute it at one input. -/
def bernoulliSymmetryWrong : ChangeSpec := { name := "bernoulliSymmetry", fn := fun _ => fun
  | [d1, d2, d3] => { results := [.lit (.bool false)], args := [d1, d2, d3] }
  | _ => none }
def BernoulliSymmetryWrongFalsely : Prop := bernoulliSymmetryRow.holds Tryd.pinned (OpenSpec.ofChange bernoulliSymmetryWrong)

/- THE SECOND FORM. 'bulk': how many values and letters a reading holds, each counted each time it is reached (what is shared counts as often as it is met; a slice's spare places count too). A statement '..UptoSaid' is the law's where the arguments, and the package variables that the reading takes, are together of bulk at most 1048576: NARROWER than '..Said'. Prove '..Said' where nothing that the law and all that it calls make is longer than what came in: it says more and counts as full. Else prove '..UptoSaid'. A law counts once. -/
mutual
def uptoBulk {H : Type} : DataW H → Nat
  | .lit (.string bytes) => bytes.length + 1
  | .lit _ => 1
  | .nil => 1
  | .ptr d => uptoBulk d + 1
  | .slice elems spare => uptoBulkAll elems + uptoBulkAll spare + 1
  | .agg parts => uptoBulkAll parts + 1
  | .iface _ d => uptoBulk d + 1
  | .map entries => uptoBulkEntries entries + 1
  | .held _ => 1
def uptoBulkAll {H : Type} : List (DataW H) → Nat
  | [] => 0
  | d :: r => uptoBulk d + uptoBulkAll r
def uptoBulkEntries {H : Type} : List (Lit × DataW H) → Nat
  | [] => 0
  | x :: r => uptoBulkEntry x + uptoBulkEntries r
def uptoBulkEntry {H : Type} : Lit × DataW H → Nat
  | (.string bytes, d) => bytes.length + uptoBulk d + 1
  | (_, d) => uptoBulk d + 1
 end
def uptoSmall : (H : Type) → List (DataW H) → Bool := fun _ ds => decide (uptoBulkAll ds ≤ 1048576)
def OpenSpec.upto (s : _root_.Go.ChangeSpec) : _root_.Go.OpenSpec := { _root_.Go.OpenSpec.ofChange s with cond := some uptoSmall }

/-- 'quadformlaw31.BernoulliNumber', WHERE WHAT IT READS IS OF BULK AT MOST 1048576: true; the input reads as it did. -/
def bernoulliNumberUptoRow : OpenClaim := { program := "ytgbiccenhionaaadoor", sum := "ff28d712907ef3da31e05bf913ba10371b5af7cb32551e3bec528936e424744d", func := "quadform/quadformlaw31.BernoulliNumber", spec := "bernoulliNumber", named := ["quadform/prime.offsets"], apart := false, laid := [("quadform/prime.offsets", laid_quadform_prime_offsets)], narrowed := true }
def BernoulliNumberUptoSaid : Prop := bernoulliNumberUptoRow.holds Tryd.pinned (OpenSpec.upto bernoulliNumberSpec)

/-- 'quadformlaw31.BernoulliDenominator', WHERE WHAT IT READS IS OF BULK AT MOST 1048576: true; the input reads as it did. -/
def bernoulliDenominatorUptoRow : OpenClaim := { program := "ytgbiccenhionaaadoor", sum := "ff28d712907ef3da31e05bf913ba10371b5af7cb32551e3bec528936e424744d", func := "quadform/quadformlaw31.BernoulliDenominator", spec := "bernoulliDenominator", named := ["quadform/prime.offsets"], apart := false, laid := [("quadform/prime.offsets", laid_quadform_prime_offsets)], narrowed := true }
def BernoulliDenominatorUptoSaid : Prop := bernoulliDenominatorUptoRow.holds Tryd.pinned (OpenSpec.upto bernoulliDenominatorSpec)

/-- 'quadformlaw31.BernoulliFundamental', WHERE WHAT IT READS IS OF BULK AT MOST 1048576: true; the input reads as it did. -/
def bernoulliFundamentalUptoRow : OpenClaim := { program := "ytgbiccenhionaaadoor", sum := "ff28d712907ef3da31e05bf913ba10371b5af7cb32551e3bec528936e424744d", func := "quadform/quadformlaw31.BernoulliFundamental", spec := "bernoulliFundamental", named := ["quadform/prime.offsets"], apart := false, laid := [("quadform/prime.offsets", laid_quadform_prime_offsets)], narrowed := true }
def BernoulliFundamentalUptoSaid : Prop := bernoulliFundamentalUptoRow.holds Tryd.pinned (OpenSpec.upto bernoulliFundamentalSpec)

/-- 'quadformlaw31.BernoulliClasses', WHERE WHAT IT READS IS OF BULK AT MOST 1048576: true; the input reads as it did. -/
def bernoulliClassesUptoRow : OpenClaim := { program := "ytgbiccenhionaaadoor", sum := "ff28d712907ef3da31e05bf913ba10371b5af7cb32551e3bec528936e424744d", func := "quadform/quadformlaw31.BernoulliClasses", spec := "bernoulliClasses", named := ["quadform/prime.offsets"], apart := false, laid := [("quadform/prime.offsets", laid_quadform_prime_offsets)], narrowed := true }
def BernoulliClassesUptoSaid : Prop := bernoulliClassesUptoRow.holds Tryd.pinned (OpenSpec.upto bernoulliClassesSpec)

/-- 'quadformlaw31.BernoulliParity', WHERE WHAT IT READS IS OF BULK AT MOST 1048576: true; the input reads as it did. -/
def bernoulliParityUptoRow : OpenClaim := { program := "ytgbiccenhionaaadoor", sum := "ff28d712907ef3da31e05bf913ba10371b5af7cb32551e3bec528936e424744d", func := "quadform/quadformlaw31.BernoulliParity", spec := "bernoulliParity", named := ["quadform/prime.offsets"], apart := false, laid := [("quadform/prime.offsets", laid_quadform_prime_offsets)], narrowed := true }
def BernoulliParityUptoSaid : Prop := bernoulliParityUptoRow.holds Tryd.pinned (OpenSpec.upto bernoulliParitySpec)

/-- 'quadformlaw31.BernoulliCharacter', WHERE WHAT IT READS IS OF BULK AT MOST 1048576: true; the input reads as it did. -/
def bernoulliCharacterUptoRow : OpenClaim := { program := "ytgbiccenhionaaadoor", sum := "ff28d712907ef3da31e05bf913ba10371b5af7cb32551e3bec528936e424744d", func := "quadform/quadformlaw31.BernoulliCharacter", spec := "bernoulliCharacter", named := ["quadform/prime.offsets"], apart := false, laid := [("quadform/prime.offsets", laid_quadform_prime_offsets)], narrowed := true }
def BernoulliCharacterUptoSaid : Prop := bernoulliCharacterUptoRow.holds Tryd.pinned (OpenSpec.upto bernoulliCharacterSpec)

/-- 'quadformlaw31.BernoulliPeriod', WHERE WHAT IT READS IS OF BULK AT MOST 1048576: true; the input reads as it did. -/
def bernoulliPeriodUptoRow : OpenClaim := { program := "ytgbiccenhionaaadoor", sum := "ff28d712907ef3da31e05bf913ba10371b5af7cb32551e3bec528936e424744d", func := "quadform/quadformlaw31.BernoulliPeriod", spec := "bernoulliPeriod", named := ["quadform/prime.offsets"], apart := false, laid := [("quadform/prime.offsets", laid_quadform_prime_offsets)], narrowed := true }
def BernoulliPeriodUptoSaid : Prop := bernoulliPeriodUptoRow.holds Tryd.pinned (OpenSpec.upto bernoulliPeriodSpec)

/-- 'quadformlaw31.BernoulliSums', WHERE WHAT IT READS IS OF BULK AT MOST 1048576: true; the input reads as it did. -/
def bernoulliSumsUptoRow : OpenClaim := { program := "ytgbiccenhionaaadoor", sum := "ff28d712907ef3da31e05bf913ba10371b5af7cb32551e3bec528936e424744d", func := "quadform/quadformlaw31.BernoulliSums", spec := "bernoulliSums", named := ["quadform/prime.offsets"], apart := false, laid := [("quadform/prime.offsets", laid_quadform_prime_offsets)], narrowed := true }
def BernoulliSumsUptoSaid : Prop := bernoulliSumsUptoRow.holds Tryd.pinned (OpenSpec.upto bernoulliSumsSpec)

/-- 'quadformlaw31.BernoulliSymmetry', WHERE WHAT IT READS IS OF BULK AT MOST 1048576: true; the input reads as it did. -/
def bernoulliSymmetryUptoRow : OpenClaim := { program := "ytgbiccenhionaaadoor", sum := "ff28d712907ef3da31e05bf913ba10371b5af7cb32551e3bec528936e424744d", func := "quadform/quadformlaw31.BernoulliSymmetry", spec := "bernoulliSymmetry", unfollowed := true, recurses := true, named := ["quadform/prime.offsets"], apart := false, laid := [("quadform/prime.offsets", laid_quadform_prime_offsets)], narrowed := true }
def BernoulliSymmetryUptoSaid : Prop := bernoulliSymmetryUptoRow.holds Tryd.pinned (OpenSpec.upto bernoulliSymmetrySpec)

end Rows
end Go.Proofs.YtgbiccenhionaaaDoor
