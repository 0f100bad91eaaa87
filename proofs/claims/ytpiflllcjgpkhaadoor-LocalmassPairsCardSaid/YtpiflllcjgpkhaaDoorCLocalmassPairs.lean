/- 'LocalmassPairs': for every input the call returns true, every argument reads as before: the row and its tied card. Conditions: the package variables prime.offsets and localmass.table read as their initialisers lay them (tied to the program's text by the card). -/
import Derived.Test.YtpiflllcjgpkhaaDoorCards
import Derived.Test.YtpiflllcjgpkhaaDoorTie
import Derived.Test.YtpiflllcjgpkhaaDoorLl
import Derived.WalkKit
import Derived.ProofKit
import Derived.OpenShut
import Derived.Deep.DeepHandedRow
import Derived.Lib.LaidTab
import Derived.Test.YtpiflllcjgpkhaaDoorMt
set_option maxRecDepth 100000
namespace Go.Proofs.YtpiflllcjgpkhaaDoor.localmassPairs
open Go.ChangeShapes Go.WideShapes Go.ChangeAt Go.RowKit
theorem own : ownKnob Tryd.prog.godebug = none := by kernel_rfl
theorem gTab : Tryd.prog.globalNamed "quadform/prime.offsets" = some 0 := by kernel_rfl
theorem gTabType : (Tryd.prog.globals[0]?).map (·.type) = some 104 := by kernel_rfl
theorem cellsT : Tryd.prog.cellsOf 104 = 8 := by kernel_rfl
theorem cellsE : Tryd.prog.cellsOf 2 = 1 := by kernel_rfl
theorem gMt : Tryd.prog.globalNamed "quadform/localmass.table" = some 1 := by kernel_rfl
theorem gMtType : (Tryd.prog.globals[1]?).map (·.type) = some 109 := by kernel_rfl
theorem table {W : World} (h : laidMetH Tryd.prog Rows.localmassPairsRow.laid W) : TabD.e W := by
  refine ⟨?_, ?_⟩
  · have h1 : Lib.TabIs Tryd.prog W "quadform/prime.offsets" .i64 [7, 11, 13, 17, 19, 23, 29, 31] :=
      Lib.tabIs_of_head (rest := [("quadform/localmass.table", Rows.laid_quadform_localmass_table)]) gTab gTabType Tryd.underlying104 Tryd.underlying2 cellsE cellsT h
    unfold Lib.TabIs World.var? at h1
    rw [gTab, Option.bind_some] at h1
    unfold Tab
    split at h1
    · rename_i cs t fr hh
      exact ⟨t, fr, by rw [hh, Option.some.inj h1]; rfl⟩
    · cases h1
  · have h : laidMet Tryd.prog [("quadform/prime.offsets", Rows.laid_quadform_prime_offsets), ("quadform/localmass.table", Rows.laid_quadform_localmass_table)] W := h
    obtain ⟨ps, ⟨_, _, _, _, _, _, _, _, _, _, ⟨g', t', cs, fuel, p, q, hg', ht', hvar, hd, _, _⟩, _⟩, _⟩ := h
    obtain rfl := Option.some.inj (gMt.symm.trans hg')
    obtain rfl := Option.some.inj (gMtType.symm.trans ht')
    have hc := cells_of_rows (rs := mrow) (ti := 3) (tb := 4) Tryd.underlying109 Tryd.underlying108 rfl rfl rfl rfl rfl rfl rfl rfl rfl rfl Tryd.underlying4 Tryd.underlying3 (by kernel_rfl) (by kernel_rfl) (by kernel_rfl) (by kernel_rfl) hd
    unfold World.var? at hvar
    rw [gMt, Option.bind_some] at hvar
    unfold TabM
    split at hvar
    · rename_i c t fr hh
      have hcs : c = cs := Option.some.inj hvar
      exact ⟨t, fr, by rw [hh, hcs]; congr 2; rw [← Array.toList_inj, hc]; rfl⟩
    · cases hvar
theorem contract (H : Type) (enc : TypeId × Value → H) (W : World) (base : Nat) (args : Array Value) (ds gs : List (DataW H)) (before : List MemPlace)
    (hval : ∀ (j : Nat) t v, Tryd.f3.params[j]? = some t → args[j]? = some v → Value.okWide Tryd.prog W .any base t v)
    (hW : DataW.Whole enc Tryd.prog Tryd.f3.params.toList Rows.localmassPairsSpec.vars false W args.toList ds gs before) (hL : laidMetH Tryd.prog Rows.localmassPairsRow.laid W) :
    Calls Tryd.prog 3 args W fun e W' => ∃ v, e = .returned v ∧ Rows.localmassPairsSpec.post enc Tryd.prog Tryd.f3 false true false false W args v W' := by
  have hW' := hW
  obtain ⟨p, q, hA0, hV, rfl, hfz, hnd⟩ := hW
  have hA : DataW.TrodAll enc Tryd.prog W 0 (fun _ => true) true Tryd.f3.params.toList args.toList ds p := hA0
  rw [Tryd.params3] at hA hval
  obtain ⟨v0, vs0, d0, ds0, p0, q0, hargs, rfl, rfl, h0, r0⟩ := trodAll_cons hA
  obtain ⟨v1, vs1, d1, ds1, p1, q1, rfl, rfl, rfl, h1, r1⟩ := trodAll_cons r0
  obtain ⟨rfl, rfl, rfl⟩ := trodAll_nil r1
  obtain rfl : args = #[v0, v1] := by cases args; simp_all
  obtain ⟨rfl, rfl⟩ := trodVars_none hV
  obtain ⟨x0, rfl, rfl, rfl, wx0⟩ := open_int Tryd.underlying5 (hval 0 5 v0 rfl rfl) h0
  obtain ⟨x1, rfl, rfl, rfl, wx1⟩ := open_int Tryd.underlying5 (hval 1 5 v1 rfl rfl) h1
  clear hA0
  simp only [List.append_nil] at hW'
  refine (law_LocalmassPairs x0 x1 W wx0 wx1 (table hL)).mono fun e W' ⟨he, hb⟩ => ?_
  subst he
  exact ⟨_, rfl, _, [], [], [], [], [], hW', trodAll_cons_mk (shut_bool Tryd.underlying4 _) trodAll_mk0, trodAll_cons_mk (shut_int Tryd.underlying5 wx0) (trodAll_cons_mk (shut_int Tryd.underlying5 wx1) trodAll_mk0), rfl, hb.frame _, fun h => by cases h⟩
noncomputable def laidWorld (os : Os) : World :=
  { World.holding Tryd.prog os ⟨#[], #[], []⟩ with heap := ((World.holding Tryd.prog os ⟨#[], #[], []⟩).heap.modify 0 (fun x => match x with | .cells _ t frozen => .cells #[.int .i64 7, .int .i64 11, .int .i64 13, .int .i64 17, .int .i64 19, .int .i64 23, .int .i64 29, .int .i64 31] t frozen | o => o)).modify 1 (fun x => match x with | .cells _ t frozen => .cells mtabV t frozen | o => o) }
theorem laid_met (os : Os) : laidMet Tryd.prog Rows.localmassPairsRow.laid ((laidWorld os).forCall (fun _ _ => 0) ⟨#[], #[.int .u8 0, .int .u8 0], []⟩).memory :=
  laidMet_of_run' 8 (by kernel_rfl) (by kernel_rfl)
theorem reads (os : Os) {H : Type} (enc : TypeId × Value → H) : ∃ places, DataW.whole enc Tryd.prog ((laidWorld os).forCall (fun _ _ => 0) ⟨#[], #[.int .u8 0, .int .u8 0], []⟩).memory Tryd.f3.params.toList Rows.localmassPairsSpec.vars false (#[.int .u8 0, .int .u8 0] : Array Value).toList 8 = some ([.lit (.int .u8 0), .lit (.int .u8 0)], [], places) :=
  ⟨[], by kernel_rfl⟩
set_option maxRecDepth 100000 in
theorem lifted (os : Os) (started : os.Started) (H : Type) (enc : TypeId × Value → H) (F : Stop.Interp) :
    ReturnsInHanded {} Tryd.checked os 3 .any ((OpenSpec.ofChange Rows.localmassPairsSpec).preRow enc Tryd.prog Tryd.f3 Rows.localmassPairsRow.domain false Rows.localmassPairsRow.laid) (((OpenSpec.ofChange Rows.localmassPairsSpec).at F).post enc Tryd.prog Tryd.f3 false true false false) := by
  obtain ⟨places, hx⟩ := reads os enc
  refine returnsInHanded_of_row (C := Tryd.checked) (s := OpenSpec.ofChange Rows.localmassPairsSpec) own started (by kernel_rfl) Tryd.func3
    (witness_row_at (enc := enc) (C := Tryd.checked) false (laidWorld os) #[.int .u8 0, .int .u8 0] rfl (by kernel_rfl) (by kernel_rfl) (by kernel_rfl)
      (OpenSpec.preRow_of_cond 8 hx (by kernel_rfl) (fun k hk => by cases hk) (by kernel_rfl) (laid_met os))) ?_
  intro W base args ds gs before hval hW _ _ _ hL _ _
  exact contract H enc W base args ds gs before hval hW hL
theorem said : Rows.LocalmassPairsSaid :=
  OpenClaim.holds_of_cond 3 Tryd.f3 rfl rfl rfl rfl rfl rfl rfl ⟨rfl, rfl, rfl, rfl, rfl⟩ rfl rfl rfl rfl rfl (by kernel_rfl) Tryd.func3 (by kernel_rfl)
    (of_decide_eq_true (by kernel_rfl)) (by unfold Func.isWrapper; first | (rw [if_pos (by decide +kernel)]; kernel_rfl) | (rw [if_neg (by decide +kernel)]; exact ⟨rfl, rfl⟩))
    (fun os started H enc _ F => by rw [OpenClaim.pre_eq_preRow]; exact lifted os started H enc F)
theorem plain (f : FuncId) (fn : Func) (hf : Tryd.pinned.checked.prog.funcNamed "quadform/quadformlaw32.LocalmassPairs" = some f) (hfn : Tryd.pinned.checked.prog.funcs[f]? = some fn) :
    false = Tryd.pinned.checked.prog.looks [] ∧ ∀ (j : Nat) t, fn.params[j]? = some t → Tryd.pinned.checked.prog.wantsStandIn t = false := by
  obtain rfl : f = 3 := Option.some.inj ((show Tryd.prog.funcNamed "quadform/quadformlaw32.LocalmassPairs" = some 3 by kernel_rfl).symm.trans hf) |>.symm
  obtain rfl : fn = Tryd.f3 := (Option.some.inj (Tryd.func3.symm.trans hfn)).symm
  refine ⟨by kernel_rfl, fun j t ht => ?_⟩
  rw [Tryd.params3] at ht
  have hm : t ∈ [5, 5] := by simpa using Array.mem_of_getElem? ht
  have hall : ([5, 5].all fun u => !Tryd.prog.wantsStandIn u) = true := by kernel_rfl
  exact (show Tryd.prog.wantsStandIn t = false by simpa using List.all_eq_true.1 hall t hm)
/-- The statement. -/
theorem card : Rows.LocalmassPairsCardSaid :=
  Claim7.holds_tied_plain_at .later [] _ _ _ _ said (fun _ h => by cases h) (by kernel_rfl) (fun _ h => by cases h) localmassPairs_row_tie rfl ⟨rfl, rfl⟩ (by kernel_rfl) rfl plain (by kernel_rfl)
end Go.Proofs.YtpiflllcjgpkhaaDoor.localmassPairs
