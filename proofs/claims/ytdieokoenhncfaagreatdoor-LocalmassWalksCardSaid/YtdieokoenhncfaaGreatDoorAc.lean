/- Canonical symbols (the reference's IsCanonical); which symbols are accepted: the program's and the reference's say the same. (With LT.skipU.) -/
import Derived.Test.YtdieokoenhncfaaGreatDoorZa
import Derived.Test.YtdieokoenhncfaaGreatDoorFu
import Derived.Test.YtdieokoenhncfaaGreatDoorTo
set_option maxRecDepth 3000
namespace Go.Proofs.YtdieokoenhncfaaGreatDoor
open Go.RowKit Limb Num
instance cbody30 : CBody Tryz.prog 30 := ⟨⟨_, Tryz.func30, rfl, by rfl⟩⟩
def cfB (f : Nat → Co) (n : Nat) : Bool := decide (FEs f (comp f n))
theorem cfB_iff {f : Nat → Co} {n : Nat} : cfB f n = true ↔ FEs f (comp f n) := by unfold cfB; exact decide_eq_true_iff
def canP (p : Int) (f : Nat → Co) (n : Nat) : Prop := fusP p f n ∧ fiP f (chn f n) ∧ cfB f n = true
instance (p : Int) (f : Nat → Co) (n : Nat) : Decidable (canP p f n) := by unfold canP; infer_instance
def accP (p : Int) (f : Nat → Co) (n : Nat) : Prop := oddP p f n ∨ rawP p f n ∨ canP p f n
instance (p : Int) (f : Nat → Co) (n : Nat) : Decidable (accP p f n) := by unfold accP; infer_instance
section
variable (En : Ev)
theorem tiscanP (p : Int) (f : Nat → Co) (n : Nat) (hn : n ≤ 20) : Fn Tryz.prog En 53 [locP p f n] (ex (.bool (decide (canP p f n)))) :=
 tiscan En p f n hn (cfB f n) anyC anyC fun h => trefine En p f n hn h (cfB f n) cfB_iff
set_option maxHeartbeats 1000000 in
theorem riscan (p : Int) (f : Nat → Co) (n : Nat) (hn : n ≤ 20) : Fn Tryz.prog En 62 [locP p f n] (ex (.bool (decide (canP p f n)))) := by
 have C0 := rfused En p f n hn
 by_cases hfu : fusP p f n
 ·rw [decide_eq_true hfu] at C0
  have hsU := hfu.1.2.2
  have H : Shp f n := ⟨hn, fun k hk => (shU_get hsU hk).1, fun k hk => (shU_get hsU hk).2.1⟩
  have hy : ∀ i, i < n → 0 ≤ (f i).y ∧ (f i).y ≤ 7 := fun i hi => ⟨(fuU_get hfu.2.1 hi).2.1, (fuU_get hfu.2.1 hi).2.2.1⟩
  have C1 := rfirst En p f n H hy
  by_cases hfi : fiP f (chn f n)
  ·rw [decide_eq_true hfi] at C1
   have C2 := rrefineS En p f n hn hfu (cfB f n) cfB_iff
   have e : decide (canP p f n) = cfB f n := by
    rw [Bool.eq_iff_iff, decide_eq_true_iff]
    exact ⟨fun h => h.2.2, fun h => ⟨hfu, hfi, h⟩⟩
   rw [e]
   generalize cfB f n = r at *
   unfold locP at *
   refine fn_of_body Tryz.func62 rfl Tryz.ntmps62 rfl ?_
   intro w0 h0
   refine js (jr (jB jj jj jj (ja jj (jn (js (js (jr (jL jj jj jj (jS (ru_call C0 ⟨jj, trivial⟩) (jS (bNo jj) (jm jj (jg (ru_loadR jj jj jj jj) (jg (ru_call C1 ⟨jj, trivial⟩) (jg (bNo jj) (jQ jj jj (jn (jf jj (jp (js (jr (jL jj jj jj (jS (ru_call C2 ⟨jj, trivial⟩) (jm jj (jx' jj jj (jx' jj jj (jA jj jj jj (jP jj jj jj jj (ja jj (jn (js (jr (jm jj (ja jj (jn (ji ?_)))))))))))))))))))))))))))))))))))
   exact ret1 rfl (.tmp rfl) (PLe.refl _)
  ·rw [decide_eq_false hfi] at C1
   rw [decide_eq_false (fun h : canP p f n => hfi h.2.1)]
   unfold locP at *
   refine fn_of_body Tryz.func62 rfl Tryz.ntmps62 rfl ?_
   intro w0 h0
   refine js (jr (jB jj jj jj (ja jj (jn (js (js (jr (jL jj jj jj (jS (ru_call C0 ⟨jj, trivial⟩) (jS (bNo jj) (jm jj (jg (ru_loadR jj jj jj jj) (jg (ru_call C1 ⟨jj, trivial⟩) (jg (bNo jj) (jQ jj jj (jn (jt jj (js (jr (ja jj (jn (ji ?_))))))))))))))))))))))
   exact ret1 rfl (.tmp rfl) (PLe.refl _)
 ·rw [decide_eq_false hfu] at C0
  rw [decide_eq_false (fun h : canP p f n => hfu h.1)]
  unfold locP at *
  refine fn_of_body Tryz.func62 rfl Tryz.ntmps62 rfl ?_
  intro w0 h0
  refine js (jr (jB jj jj jj (ja jj (jn (js (js (jr (jL jj jj jj (jS (ru_call C0 ⟨jj, trivial⟩) (jS (bNo jj) (jm jj (jk (jk (jk (jq jj jj (jn (jt jj (js (jr (ja jj (jn (ji ?_))))))))))))))))))))))
  exact ret1 rfl (.tmp rfl) (PLe.refl _)
theorem raccept (p : Int) (f : Nat → Co) (n : Nat) (hn : n ≤ 20) : Fn Tryz.prog En 30 [locP p f n] (ex (.bool (decide (accP p f n)))) := by
 have C0 := rvalidG En p f n (by omega)
 have C1 := rvalid2 En p f n (by omega)
 have C2 := riscan En p f n hn
 by_cases h0 : oddP p f n
 ·rw [decide_eq_true h0] at C0
  rw [decide_eq_true (show accP p f n from .inl h0)]
  unfold locP at *
  refine fn_of_body Tryz.func30 rfl Tryz.ntmps30 rfl ?_
  intro w0 h0
  refine js (jr (jB jj jj jj (ja jj (jn (js (jr (jL jj jj jj (jS (ru_call C0 ⟨jj, trivial⟩) (jm jj (jk (jk (jq jj jj (jm jj (jk (jk (jq jj jj (ja jj (jn (ji ?_)))))))))))))))))))
  exact ret1 rfl (.tmp rfl) (PLe.refl _)
 ·rw [decide_eq_false h0] at C0
  by_cases h1 : rawP p f n
  ·rw [decide_eq_true h1] at C1
   rw [decide_eq_true (show accP p f n from .inr (.inl h1))]
   unfold locP at *
   refine fn_of_body Tryz.func30 rfl Tryz.ntmps30 rfl ?_
   intro w0 h0
   refine js (jr (jB jj jj jj (ja jj (jn (js (jr (jL jj jj jj (jS (ru_call C0 ⟨jj, trivial⟩) (jm jj (jg (ru_loadR jj jj jj jj) (jg (ru_call C1 ⟨jj, trivial⟩) (jQ jj jj (jm jj (jk (jk (jq jj jj (ja jj (jn (ji ?_)))))))))))))))))))
   exact ret1 rfl (.tmp rfl) (PLe.refl _)
  ·rw [decide_eq_false h1] at C1
   have e : decide (accP p f n) = decide (canP p f n) := decide_eq_decide.2 ⟨fun h => (h.resolve_left h0).resolve_left h1, fun h => .inr (.inr h)⟩
   rw [e]
   generalize decide (canP p f n) = r at *
   unfold locP at *
   refine fn_of_body Tryz.func30 rfl Tryz.ntmps30 rfl ?_
   intro w0 h0
   refine js (jr (jB jj jj jj (ja jj (jn (js (jr (jL jj jj jj (jS (ru_call C0 ⟨jj, trivial⟩) (jm jj (jg (ru_loadR jj jj jj jj) (jg (ru_call C1 ⟨jj, trivial⟩) (jQ jj jj (jm jj (jg (ru_loadR jj jj jj jj) (jg (ru_call C2 ⟨jj, trivial⟩) (jQ jj jj (ja jj (jn (ji ?_)))))))))))))))))))
   exact ret1 rfl (.tmp rfl) (PLe.refl _)
end
theorem taccept (p : Int) (f : Nat → Co) (n : Nat) (hn : n ≤ 20) : Fn Tryz.prog TabD 27 [locP p f n] (ex (.bool (decide (accP p f n)))) := by
 have C0 := tvalid TabD p f n (by omega)
 have C1 := tiscanP TabD p f n hn
 have C2 := svalidG p f n (by omega)
 by_cases hp : p = 2
 ·have ho : ¬ oddP p f n := fun h => h.2.1 hp
  by_cases h1 : rawP p f n
  ·rw [decide_eq_true h1] at C0
   rw [decide_eq_true (show accP p f n from .inr (.inl h1))]
   unfold locP at *
   refine fn_of_body Tryz.func27 rfl Tryz.ntmps27 rfl ?_
   intro w0 h0
   refine js (jr (jB jj jj jj (ja jj (jn (js (js (jr (jF jj jj (jl jj jj jj (jS (bEt jj jj) (jn (jt jj (js (jr (jL jj jj jj (jS (ru_call C0 ⟨jj, trivial⟩) (jm jj (jk (jk (jq jj jj (ja jj (jn (ji ?_)))))))))))))))))))))))
   exact ret1 rfl (.tmp rfl) (PLe.refl _)
  ·rw [decide_eq_false h1] at C0
   have e : decide (accP p f n) = decide (canP p f n) := decide_eq_decide.2 ⟨fun h => (h.resolve_left ho).resolve_left h1, fun h => .inr (.inr h)⟩
   rw [e]
   generalize decide (canP p f n) = r at *
   unfold locP at *
   refine fn_of_body Tryz.func27 rfl Tryz.ntmps27 rfl ?_
   intro w0 h0
   refine js (jr (jB jj jj jj (ja jj (jn (js (js (jr (jF jj jj (jl jj jj jj (jS (bEt jj jj) (jn (jt jj (js (jr (jL jj jj jj (jS (ru_call C0 ⟨jj, trivial⟩) (jm jj (jg (ru_loadR jj jj jj jj) (jg (ru_call C1 ⟨jj, trivial⟩) (jQ jj jj (ja jj (jn (ji ?_)))))))))))))))))))))))
   exact ret1 rfl (.tmp rfl) (PLe.refl _)
 ·have e : decide (accP p f n) = decide (oddP p f n) := decide_eq_decide.2 ⟨fun h => h.elim id fun h => h.elim (fun h => absurd h.1.1 hp) (fun h => absurd h.1.1.1 hp), .inl⟩
  rw [e]
  generalize decide (oddP p f n) = r at *
  unfold locP at *
  refine fn_of_body Tryz.func27 rfl Tryz.ntmps27 rfl ?_
  intro w0 h0
  refine js (jr (jB jj jj jj (ja jj (jn (js (js (jr (jF jj jj (jl jj jj jj (jS (bEf jj jj) (jn (jf jj (jp (js (jr (jL jj jj jj (jS (ru_call C2 ⟨jj, trivial⟩) (ja jj (jn (ji ?_))))))))))))))))))))
  exact ret1 rfl (.tmp rfl) (PLe.refl _)
end Go.Proofs.YtdieokoenhncfaaGreatDoor
