/- 'LocalmassPositive': for every input the call returns true, every argument reads az iI: the row and its tied card. Conditions: the package variables prime.offsets and localmass.table read az their initialisers lay them (tied to the program's text by the card). -/
import Derived.Test.YtfmjdlogjmofbaaGreatDoorCards
import Derived.Test.YtfmjdlogjmofbaaGreatDoorTie
import Derived.Test.YtfmjdlogjmofbaaGreatDoorYl
import Derived.WalkKit
import Derived.ProofKit
import Derived.OpenShut
import Derived.Deep.DeepHandedRow
import Derived.Lib.LaidTab
import Derived.Carry
import Derived.Test.YtfmjdlogjmofbaaGreatDoorMt
import Derived.Test.YtfmjdlogjmofbaaGreatDoorV
import Derived.Test.YtfmjdlogjmofbaaGreatDoorW
set_option maxRecDepth 100000
namespace Go.Proofs.YtfmjdlogjmofbaaGreatDoor.localmassPositive
open Go.ChangeShapes Go.WideShapes Go.ChangeAt Go.RowKit
theorem lZT:laidOutB Tryz.prog=true:=by kernel_rfl
theorem own:ownKnob Tryz.prog.godebug=none:=by kernel_rfl
theorem gTab : Tryz.prog.globalNamed "quadform/prime.offsets" = some 1 := by kernel_rfl
theorem jZD:(Tryz.prog.globals[1]?).map (·.type)=some 207:=by kernel_rfl
theorem pZ9:Tryz.prog.cellsOf 207=8:=by kernel_rfl
theorem pZA:Tryz.prog.cellsOf 2=1:=by kernel_rfl
theorem gMt : Tryz.prog.globalNamed "quadform/localmass.table" = some 0 := by kernel_rfl
theorem gMtType:(Tryz.prog.globals[0]?).map (·.type)=some 179:=by kernel_rfl
theorem table{W:World}(h:laidMetH Tryz.prog Rows.localmassPositiveRow.laid W):TabD.e W:=by
 refine⟨?_,?_⟩
 ·have h1 : Lib.TabIs Tryz.prog W "quadform/prime.offsets" .i64 [7, 11, 13, 17, 19, 23, 29, 31] :=
   Lib.tabIs_of_head (rest := [("quadform/localmass.table", Rows.laid_quadform_localmass_table)]) gTab jZD Tryz.underlying207 Tryz.underlying2 pZA pZ9 h
  unfold Lib.TabIs World.var? at h1;rw[gTab,Option.bind_some] at h1;unfold Tab;split at h1
  ·rename_i cs t fr hh
   exact⟨t,fr,by rw[hh,Option.some.inj h1];rfl⟩
  ·cases h1
 ·have h : laidMet Tryz.prog [("quadform/prime.offsets", Rows.laid_quadform_prime_offsets), ("quadform/localmass.table", Rows.laid_quadform_localmass_table)] W := h
  obtain⟨ps,⟨_,_,_,_,_,_,_,_,_,_,⟨g',t',cs,fuel,p,q,hg',ht',hvar,hd,_,_⟩,_⟩,_⟩:=h;obtain rfl:=Option.some.inj (gMt.symm.trans hg');obtain rfl:=Option.some.inj (gMtType.symm.trans ht');have hc:=aZp (rs:=mrow) (ti:=3) (tb:=4) Tryz.underlying179 Tryz.underlying178 rfl rfl rfl rfl rfl rfl rfl rfl rfl rfl Tryz.underlying4 Tryz.underlying3 (by kernel_rfl) (by kernel_rfl) (by kernel_rfl) (by kernel_rfl) hd
  unfold World.var? at hvar;rw[gMt,Option.bind_some] at hvar;unfold TabM;split at hvar
  ·rename_i c t fr hh
   have hcs:c=cs:=Option.some.inj hvar;exact⟨t,fr,by rw[hh,hcs];congr 2;rw[←Array.toList_inj,hc];rfl⟩
  ·cases hvar
theorem kZk(H:Type)(enc:TypeId×Value→H)(W:World)(base:Nat)(args:Array Value)(ds gs:List (DataW H))(iI:List MemPlace)
  (hval:∀(j:Nat) t v,Tryz.f4.params[j]? =some t→args[j]? =some v→Value.okWide Tryz.prog W .any base t v)
  (hW:DataW.Whole enc Tryz.prog Tryz.f4.params.toList Rows.localmassPositiveSpec.vars false W args.toList ds gs iI) (hL:laidMetH Tryz.prog Rows.localmassPositiveRow.laid W):
  Calls Tryz.prog 4 args W fun e W'=>∃v,e= .returned v∧Rows.localmassPositiveSpec.post enc Tryz.prog Tryz.f4 false true false false W args v W':=by
 have hW':=hW;obtain⟨p,q,hA0,hV,rfl,hfz,hnd⟩:=hW;have hA:DataW.TrodAll enc Tryz.prog W 0 (fun _=>true) true Tryz.f4.params.toList args.toList ds p:=hA0;rw[Tryz.params4] at hA hval;obtain⟨v0,vs0,d0,ds0,p0,q0,hargs,rfl,rfl,h0,r0⟩:=trodAll_cons hA;obtain⟨v1,vs1,d1,ds1,p1,q1,rfl,rfl,rfl,h1,r1⟩:=trodAll_cons r0;obtain⟨rfl,rfl,rfl⟩:=trodAll_nil r1;obtain rfl:args= #[v0,v1]:=by cases args;simp_all
 obtain⟨rfl,rfl⟩:=trodVars_none hV;have hs0:=iZR Tryz.underlying24 rfl rfl rfl rfl rfl rfl rfl rfl (by kernel_rfl) (by kernel_rfl) (by kernel_rfl) Tryz.underlying5 Tryz.underlying22 Tryz.underlying201 (by kernel_rfl) (hval 0 24 v0 rfl rfl) h0
 obtain⟨x1,rfl,rfl,rfl,wx1⟩:=open_int Tryz.underlying5 (hval 1 5 v1 rfl rfl) h1;clear hA0;simp only[List.append_nil] at hW';refine(oO x1 W v0 hs0 wx1 (table hL)).mono fun e W' ⟨he,hb⟩=>?_;subst he;exact⟨_,rfl,_,[],_,[],_,[],hW',trodAll_cons_mk (shut_bool Tryz.underlying4 _) trodAll_mk0,trodAll_cons_mk (Below.trod lZT (by kernel_rfl) (of_decide_eq_true (by kernel_rfl)) h0 hb (fun x hx=>hW'.lt x (by simp[hx]))) (trodAll_cons_mk (shut_int Tryz.underlying5 wx1) trodAll_mk0),rfl,hb.frame _,fun h=>by cases h⟩
noncomputable def uF (os:Os):World:=
 {World.holding Tryz.prog os ⟨#[], #[],[]⟩ with heap:=((World.holding Tryz.prog os ⟨#[], #[],[]⟩).heap.modify 1 (fun x=>match x with| .cells _ t frozen=> .cells #[.int .i64 7,.int .i64 11,.int .i64 13,.int .i64 17,.int .i64 19,.int .i64 23,.int .i64 29,.int .i64 31] t frozen|o=>o)).modify 0 (fun x=>match x with| .cells _ t frozen=> .cells mtabV t frozen|o=>o)}
theorem jZ1(os:Os):laidMet Tryz.prog Rows.localmassPositiveRow.laid ((uF os).forCall (fun _ _=>0) ⟨#[], #[.agg #[.int .u8 0,.int .u8 0,.slice none 0 0,.slice none 0 0],.int .u8 0],[]⟩).memory:=
 laidMet_of_run' 8 (by kernel_rfl) (by kernel_rfl)
theorem reads(os:Os){H:Type}(enc:TypeId×Value→H):∃places,DataW.whole enc Tryz.prog ((uF os).forCall (fun _ _=>0) ⟨#[], #[.agg #[.int .u8 0,.int .u8 0,.slice none 0 0,.slice none 0 0],.int .u8 0],[]⟩).memory Tryz.f4.params.toList Rows.localmassPositiveSpec.vars false (#[.agg #[.int .u8 0,.int .u8 0,.slice none 0 0,.slice none 0 0],.int .u8 0]:Array Value).toList 8=some ([.agg [.lit (.int .u8 0),.lit (.int .u8 0),.nil,.nil],.lit (.int .u8 0)],[],places):=
 ⟨[],by kernel_rfl⟩
set_option maxRecDepth 100000 in
theorem pZb(os:Os)(started:os.Started)(H:Type)(enc:TypeId×Value→H)(F:Stop.Interp):
  ReturnsInHanded {} Tryz.checked os 4 .any ((OpenSpec.ofChange Rows.localmassPositiveSpec).preRow enc Tryz.prog Tryz.f4 Rows.localmassPositiveRow.domain false Rows.localmassPositiveRow.laid) (((OpenSpec.ofChange Rows.localmassPositiveSpec).at F).post enc Tryz.prog Tryz.f4 false true false false):=by
 obtain⟨places,hx⟩:=reads os enc;refine returnsInHanded_of_row (C:=Tryz.checked) (s:=OpenSpec.ofChange Rows.localmassPositiveSpec) own started (by kernel_rfl) Tryz.func4
  (witness_row_at (enc:=enc) (C:=Tryz.checked) false (uF os) #[.agg #[.int .u8 0,.int .u8 0,.slice none 0 0,.slice none 0 0],.int .u8 0] rfl (by kernel_rfl) (by kernel_rfl) (by kernel_rfl)
   (OpenSpec.preRow_of_cond 8 hx (by kernel_rfl) (fun k hk=>by cases hk) (by kernel_rfl) (jZ1 os))) ?_
 intro W base args ds gs iI hval hW _ _ _ hL _ _;exact kZk H enc W base args ds gs iI hval hW hL
theorem said:Rows.LocalmassPositiveSaid:=
 OpenClaim.holds_of_cond 4 Tryz.f4 rfl rfl rfl rfl rfl rfl rfl ⟨rfl,rfl,rfl,rfl,rfl⟩ rfl rfl rfl rfl rfl (by kernel_rfl) Tryz.func4 (by kernel_rfl)
  (of_decide_eq_true (by kernel_rfl)) (by unfold Func.isWrapper;first|(rw[if_pos (by decide+kernel)];kernel_rfl)|(rw[if_neg (by decide+kernel)];exact⟨rfl,rfl⟩))
  (fun os started H enc _ F=>by rw[OpenClaim.pre_eq_preRow];exact pZb os started H enc F)
theorem plain (f : FuncId) (fn : Func) (hf : Tryz.pinned.checked.prog.funcNamed "quadform/quadformlaw32.LocalmassPositive" = some f) (hfn : Tryz.pinned.checked.prog.funcs[f]? = some fn) :
  false=Tryz.pinned.checked.prog.looks []∧∀(j:Nat) t,fn.params[j]? =some t→Tryz.pinned.checked.prog.wantsStandIn t=false:=by
 obtain rfl : f = 4 := Option.some.inj ((show Tryz.prog.funcNamed "quadform/quadformlaw32.LocalmassPositive" = some 4 by kernel_rfl).symm.trans hf) |>.symm
 obtain rfl:fn=Tryz.f4:=(Option.some.inj (Tryz.func4.symm.trans hfn)).symm;refine⟨by kernel_rfl,fun j t ht=>?_⟩
 rw[Tryz.params4] at ht;have hm:t∈[24,5]:=by simpa using Array.mem_of_getElem? ht
 have hall:([24,5].all fun u=> !Tryz.prog.wantsStandIn u)=true:=by kernel_rfl
 exact(show Tryz.prog.wantsStandIn t=false by simpa using List.all_eq_true.1 hall t hm)
theorem card:Rows.LocalmassPositiveCardSaid:=
 Claim7.holds_tied_plain_at .later [] _ _ _ _ said (fun _ h=>by cases h) (by kernel_rfl) (fun _ h=>by cases h) localmassPositive_row_tie rfl ⟨rfl,rfl⟩ (by kernel_rfl) rfl plain (by kernel_rfl)
end Go.Proofs.YtfmjdlogjmofbaaGreatDoor.localmassPositive
