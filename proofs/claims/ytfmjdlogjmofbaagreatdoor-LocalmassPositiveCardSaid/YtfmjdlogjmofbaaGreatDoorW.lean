/- Short words that close a side goal. -/
import Derived.Test.YtfmjdlogjmofbaaGreatDoorProg
namespace Go.Proofs.YtfmjdlogjmofbaaGreatDoor
noncomputable abbrev PZ:Program:=Tryz.prog
theorem oM{p:Prop}(h:p:=by omega):p:=h
theorem aO{p:Prop}(h:p:=by first|assumption|omega):p:=h
theorem aR{p:Prop}(h:p:=by first|assumption|rfl):p:=h
theorem aW{p:Prop}(h:p:=by first|decide|omega|assumption):p:=h
theorem aM{p:Prop}(h:p:=by assumption):p:=h
theorem aD{p:Prop}(h:p:=by decide):p:=h
theorem lH{p:Prop}(h:p:=by exact⟨by rw[HD.out];first|rfl|exact mZ (beq_eq_false_iff_ne.2 (by assumption))|exact mZ (bne_iff_ne.2 (by assumption))|exact mZ (Bool.or_eq_false_iff.2 ⟨beq_eq_false_iff_ne.2 (by assumption),beq_eq_false_iff_ne.2 (by assumption)⟩),(Below.refl _ _).alloc (Nat.le_refl _) _⟩):p:=h
theorem oN{α:Type}{a:α}:some a≠none:=Option.some_ne_none _
theorem oD{p:Prop}(h:p:=by dsimp only;omega):p:=h
theorem tA{α:Type}{a:α}:a=a∧True:=⟨rfl,trivial⟩
theorem tB{α β:Type}{a:α}{b:β}:a=a∧b=b∧True:=⟨rfl,rfl,trivial⟩
theorem tC{α β γ:Type}{a:α}{b:β}{c:γ}:a=a∧b=b∧c=c∧True:=⟨rfl,rfl,rfl,trivial⟩
theorem tD{α β γ δ:Type}{a:α}{b:β}{c:γ}{d:δ}:a=a∧b=b∧c=c∧d=d∧True:=⟨rfl,rfl,rfl,rfl,trivial⟩
end Go.Proofs.YtfmjdlogjmofbaaGreatDoor
