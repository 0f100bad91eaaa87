/- Functions that are handed boxes that name boxes. For any program. -/
import Derived.Test.YtfmjdlogjmofbaaGreatDoorKd
import Derived.Test.YtfmjdlogjmofbaaGreatDoorMem
import Derived.Test.YtfmjdlogjmofbaaGreatDoorGm
import Derived.Test.YtfmjdlogjmofbaaGreatDoorMa
import Derived.Test.YtfmjdlogjmofbaaGreatDoorW
set_option maxRecDepth 3000
namespace Go.Proofs.YtfmjdlogjmofbaaGreatDoor
section
open Go.RowKit Limb
def CMv (μ : Nat → Nat) (cb : Bx) (p' p : Pd) : Prop := (p' = p ∧ Flat p) ∨ ∃ i o l c, p' = ownP (μ i) o l c ∧ p = ownP i o l c ∧ look cb i ≠ none
def CsMv (μ : Nat → Nat) (cb : Bx) : List Pd → List Pd → Prop
 | [], [] => True
 | p' :: ps', p :: ps => CMv μ cb p' p ∧ CsMv μ cb ps' ps
 | _, _ => False
theorem CsMv.nil_iff {μ : Nat → Nat} {cb : Bx} : ∀ {a b : List Pd}, CsMv μ cb a b → (a = [] ↔ b = [])
 | [], [], _ => by simp
 | _ :: _, _ :: _, _ => by simp
 | [], _ :: _, h => h.elim
 | _ :: _, [], h => h.elim
theorem CsMv.append {μ : Nat → Nat} {cb : Bx} : ∀ {a b c d : List Pd}, CsMv μ cb a b → CsMv μ cb c d → CsMv μ cb (a ++ c) (b ++ d)
 | [], [], _, _, _, h => h
 | _ :: _, _ :: _, _, _, ⟨x, y⟩, h => ⟨x, CsMv.append y h⟩
 | [], _ :: _, _, _, h, _ => h.elim
 | _ :: _, [], _, _, h, _ => h.elim
theorem CsMv.out {μ : Nat → Nat} {cb : Bx} {f g : Nat → Pd} : ∀ {n : Nat}, (∀ i, i < n → CMv μ cb (f i) (g i)) → CsMv μ cb (outL f n) (outL g n)
 | 0, _ => trivial
 | n + 1, h => (CsMv.out fun i hi => h i oM).append ⟨h n oM, trivial⟩
theorem CMv.own {μ : Nat → Nat} {cb : Bx} {i j o l c : Nat} (h : j = μ i) (hl : look cb i ≠ none) : CMv μ cb (ownP j o l c) (ownP i o l c) := .inr ⟨i, o, l, c, by rw [h], rfl, hl⟩
theorem CMv.flat {μ : Nat → Nat} {cb : Bx} {p : Pd} [hf : Flat p] : CMv μ cb p p := .inl ⟨rfl, hf⟩
theorem CsMv.inn {μ : Nat → Nat} {cb : Bx} {h : GH} {β : Nat → Nat} (hg : ∀ i, look cb i ≠ none → ¬ grows i ∧ ¬ grows (μ i)) : ∀ {ps' ps : List Pd} {vs' : List Value}, CsMv μ cb ps' ps → All2 h ps' vs' → ∃ vs, vs'.map (tr β) = vs.map (tr fun i => β (μ i)) ∧ All2 h ps vs ∧ ∀ v ∈ vs, lref (fun i => β (μ i)) cb v
 | [], [], [], _, _ => ⟨[], rfl, trivial, fun _ h => by cases h⟩
 | p' :: ps', p :: ps, v' :: vs', ⟨a, b⟩, ⟨x, y, z⟩ => by
  obtain ⟨vs, k1, k2, k3⟩ := CsMv.inn (β := β) hg b z
  rcases a with ⟨rfl, hf⟩ | ⟨i, o, l, c, rfl, rfl, hl⟩
  ·have hv := hf.flat h v' x
   refine ⟨v' :: vs, by rw [List.map_cons, List.map_cons, k1, bZM hv, bZM hv], ⟨x, y, k2⟩, fun u hu => ?_⟩
   rcases List.mem_cons.1 hu with rfl | hu
   ·exact fun r o l c e => absurd e (hv r o l c)
   ·exact k3 u hu
  ·obtain ⟨g1, g2⟩ := hg i hl
   obtain ⟨c', rfl, h1, h2⟩ := x
   refine ⟨.slice (some ⟨i, o, none⟩) l c' :: vs, by rw [List.map_cons, List.map_cons, k1, bZp g1, bZp g2], ⟨⟨c', rfl, h1, h2⟩, rfl, k2⟩, fun u hu => ?_⟩
   rcases List.mem_cons.1 hu with rfl | hu
   ·exact fun r o l c e => by cases e; exact ⟨hl, fun h => absurd h g1⟩
   ·exact k3 u hu
 | [], [], _ :: _, _, h => h.elim
 | _ :: _, _ :: _, [], _, h => h.elim
 | [], _ :: _, _, h, _ => h.elim
 | _ :: _, [], _, h, _ => h.elim
theorem CsMv.ous {μ : Nat → Nat} {cb bx : Bx} {h : GH} {β β' : Nat → Nat} (hg : ∀ i, look cb i ≠ none → (¬ grows i ∧ ¬ grows (μ i)) ∧ β' i = β (μ i) ∧ look bx (μ i) ≠ none) : ∀ {ps' ps : List Pd} {vs : List Value}, CsMv μ cb ps' ps → All2 h ps vs → ∃ vs', vs'.map (tr β) = vs.map (tr β') ∧ All2 h ps' vs' ∧ ∀ v ∈ vs', lref β bx v
 | [], [], [], _, _ => ⟨[], rfl, trivial, fun _ h => by cases h⟩
 | p' :: ps', p :: ps, v :: vs, ⟨a, b⟩, ⟨x, y, z⟩ => by
  obtain ⟨vs', k1, k2, k3⟩ := CsMv.ous hg b z
  rcases a with ⟨rfl, hf⟩ | ⟨i, o, l, c, rfl, rfl, hl⟩
  ·have hv := hf.flat h v x
   refine ⟨v :: vs', by rw [List.map_cons, List.map_cons, k1, bZM hv, bZM hv], ⟨x, y, k2⟩, fun u hu => ?_⟩
   rcases List.mem_cons.1 hu with rfl | hu
   ·exact fun r o l c e => absurd e (hv r o l c)
   ·exact k3 u hu
  ·obtain ⟨⟨g1, g2⟩, g3, g4⟩ := hg i hl
   obtain ⟨c', rfl, h1, h2⟩ := x
   refine ⟨.slice (some ⟨μ i, o, none⟩) l c' :: vs', by rw [List.map_cons, List.map_cons, k1, bZp g1, bZp g2, g3], ⟨⟨c', rfl, h1, h2⟩, rfl, k2⟩, fun u hu => ?_⟩
   rcases List.mem_cons.1 hu with rfl | hu
   ·exact fun r o l c e => by cases e; exact ⟨g4, fun h => absurd h g2⟩
   ·exact k3 u hu
 | [], [], _ :: _, _, h => h.elim
 | _ :: _, _ :: _, [], _, h => h.elim
 | [], _ :: _, _, h, _ => h.elim
 | _ :: _, [], _, h, _ => h.elim
def BoxRel (μ : Nat → Nat) (cb : Bx) (i : Nat) (ps' ps : List Pd) : Prop := (lk i = true ∧ CsMv μ cb ps' ps) ∨ (lk i = false ∧ ps' = ps)
theorem BoxRel.nil_iff {μ : Nat → Nat} {cb : Bx} {i : Nat} {a b : List Pd} (h : BoxRel μ cb i a b) : a = [] ↔ b = [] := by
 rcases h with ⟨_, h⟩ | ⟨_, rfl⟩
 ·exact h.nil_iff
 ·exact Iff.rfl
def boxesL (bx : Bx) (μ : Nat → Nat) (cb : Bx) : Bx → Prop
 | [] => True
 | (i, ps) :: l => (∃ ps', look bx (μ i) = some ps' ∧ BoxRel μ cb i ps' ps) ∧ boxesL bx μ cb l
def outsL (μ : Nat → Nat) (cb : Bx) : Bx → Bx → Prop
 | [], [] => True
 | (i, ps) :: l, (j, qs) :: m => (j = μ i ∧ BoxRel μ cb i qs ps) ∧ outsL μ cb l m
 | _, _ => False
theorem eZ5 {bx : Bx} {μ : Nat → Nat} {cb : Bx} : ∀ {l : Bx}, boxesL bx μ cb l → ∀ {i ps}, look l i = some ps → ∃ ps', look bx (μ i) = some ps' ∧ BoxRel μ cb i ps' ps
 | [], _, _, _, h => by cases h
 | (k, x) :: l, ⟨h1, h3⟩, t, sd, h => by
  rw [aZc] at h
  split at h
  ·rename_i e; subst e; cases h; exact h1
  ·exact eZ5 h3 h
theorem hZ9 {μ : Nat → Nat} {cb : Bx} : ∀ {l m : Bx}, outsL μ cb l m → ∀ {j qs}, look m j = some qs → ∃ i ps, μ i = j ∧ look l i = some ps ∧ BoxRel μ cb i qs ps
 | [], [], _, _, _, h => by cases h
 | (i, ps) :: l, (j, qs) :: m, ⟨⟨h1, h2⟩, h3⟩, k, rs, h => by
  rw [aZc] at h
  split at h
  ·rename_i e; subst e; cases h; exact ⟨i, ps, h1.symm, by rw [aZc, if_pos rfl], h2⟩
  ·rename_i e
   obtain ⟨i', ps', g1, g2, g3⟩ := hZ9 h3 h
   exact ⟨i', ps', g1, by rw [aZc, if_neg (by rintro rfl; exact e (h1.trans g1))]; exact g2, g3⟩
 | [], _ :: _, h, _, _, _ => h.elim
 | _ :: _, [], h, _, _, _ => h.elim
theorem fZX {μ : Nat → Nat} {cb : Bx} : ∀ {l m : Bx}, outsL μ cb l m → m.map (·.1) = l.map (fun x => μ x.1)
 | [], [], _ => rfl
 | (i, ps) :: l, (j, qs) :: m, ⟨⟨h1, _⟩, h3⟩ => by rw [List.map_cons, List.map_cons, fZX h3, h1]
 | [], _ :: _, h => h.elim
 | _ :: _, [], h => h.elim
def mZG (μ : Nat → Nat) (ks ks' : List Nat) : Bool := eqL ks ks' && ks.all (fun k => Nat.ble 1000 k && (Nat.blt (μ k) 500 || Nat.ble 1000 (μ k)) && (lk k == lk (μ k))) && hZD (ks.map μ)
section
variable {P : Program} {En : Ev}
theorem call_L {w0 : World} {h0 : GH} {c : Cx} {h : GH} {β : Nat → Nat} {bx : Bx} {w : World} (hi : Inv En w0 h0 c h β bx w) {f : FuncId} {az : List SD} {cb cb' wb : Bx} {r : Pd} {μ : Nat → Nat} {vs : List Value} (hf : FnG P En f az cb (.one r) cb') (ha : AllS h (fun i => β (μ i)) cb az vs) (hl : boxesL bx μ cb cb) (ho : outsL μ cb cb' wb) (hk : mZG μ (cb.map (·.1)) (cb'.map (·.1)) = true) :
  Calls P f vs.toArray w (fun e w' => ∃ v h', e = .returned v ∧ Inv En w0 h0 c h' β (wb ++ bx) w' ∧ Le h h' ∧ r.p h' v) := by
 unfold mZG at hk
 rw [Bool.and_eq_true, Bool.and_eq_true] at hk
 obtain ⟨⟨k1, k2⟩, k3⟩ := hk
 have k1 := kZl k1
 have key' : ∀ i, look cb i ≠ none → (1000 ≤ i ∧ (μ i < 500 ∨ 1000 ≤ μ i)) ∧ lk i = lk (μ i) := fun i hi => by
  have := List.all_eq_true.1 k2 i (aZC hi)
  rw [Bool.and_eq_true, Bool.and_eq_true, Bool.or_eq_true] at this
  obtain ⟨⟨t1, t2⟩, t3⟩ := this
  exact ⟨⟨Nat.le_of_ble_eq_true t1, t2.imp (fun h => Nat.le_of_ble_eq_true h) (fun h => Nat.le_of_ble_eq_true h)⟩, by simpa using t3⟩
 have key : ∀ i, look cb i ≠ none → 1000 ≤ i ∧ (μ i < 500 ∨ 1000 ≤ μ i) := fun i hi => (key' i hi).1
 have ngr : ∀ i, look cb i ≠ none → ¬ grows i ∧ ¬ grows (μ i) := fun i hi => by have := key i hi; unfold grows; omega
 have minj : ∀ i j, look cb i ≠ none → look cb j ≠ none → μ i = μ j → i = j := fun i j h1 h2 => dZ0 k3 i (aZC h1) j (aZC h2)
 have hS : ∀ k, En.S k → k < w0.heap.size := fun k hk => En.lt _ hi.env k hk
 have get : ∀ i ps, look cb i = some ps → ps ≠ [] → ∃ ps', look bx (μ i) = some ps' ∧ ps' ≠ [] ∧ BoxRel μ cb i ps' ps := fun i ps hp hps => by
  obtain ⟨ps', h1, h2⟩ := eZ5 hl hp
  exact ⟨ps', h1, fun e => hps (h2.nil_iff.1 e), h2⟩
 have blk : ∀ i ps, look cb i = some ps → ps ≠ [] → (w0.heap.size ≤ β (μ i) ∨ c.M (β (μ i))) := fun i ps hp hps => by
  obtain ⟨ps', h1, h2, _⟩ := get i ps hp hps
  obtain ⟨q1, _⟩ := hi.box (μ i) ps' h1 h2
  rcases Nat.lt_or_ge (μ i) 1000 with hlt | hge
  ·exact .inl (q1.1 hlt)
  ·exact .inr ⟨μ i, q1.2 hge, hi.pin _ hge⟩
 refine Calls.mono (hf h _ w vs hi.envNow hi.holds ⟨fun i ps hp hps => ?_, fun i j ps qs hp hps hq hqs e => ?_⟩ (fun i ps hp hps => ⟨(key i (by rw [hp]; simp)).1, fun hk => ?_⟩) ha) ?_
 ·obtain ⟨ps', a1, a2, a3⟩ := get i ps hp hps
  obtain ⟨_, q2, us, rs, T', q3, q4, _, _⟩ := hi.box (μ i) ps' a1 a2
  have hli := (key' i (by rw [hp]; simp)).2
  rcases a3 with ⟨b1, b2⟩ | ⟨b1, rfl⟩
  ·obtain ⟨vs2, d1, d2, d3⟩ := CsMv.inn (β := β) ngr b2 q4
   refine ⟨q2, vs2, rs, T', ?_, d2, fun _ => d3⟩
   have e1 : tI (μ i) β us = us.map (tr β) := by unfold tI; rw [← hli, b1]; rfl
   have e2 : tI i (fun i => β (μ i)) vs2 = vs2.map (tr fun i => β (μ i)) := by unfold tI; rw [b1]; rfl
   rw [e2, ← d1, ← e1]; exact q3
  ·rw [bZ3 (by rw [← hli]; exact b1)] at q3
   exact ⟨q2, us, rs, T', by rw [bZ3 b1]; exact q3, q4, bZd b1 _ _ _⟩
 ·obtain ⟨ps', a1, a2, _⟩ := get i ps hp hps
  obtain ⟨qs', b1, b2, _⟩ := get j qs hq hqs
  exact minj i j (by rw [hp]; simp) (by rw [hq]; simp) (hi.inj _ _ _ _ a1 a2 b1 b2 e)
 ·rcases blk i ps hp hps with h | h
  ·have := hS _ hk; omega
  ·exact hi.dis _ h hk
 ·rintro e w' ⟨v, h', β', rfl, g1, g2, g3, g4, g5, g6, g8, g7, _⟩
  have wkeys := fZX ho
  have src : ∀ j qs, look (wb ++ bx) j = some qs → qs ≠ [] → (∃ i ps qs1, μ i = j ∧ look cb' i = some ps ∧ ps ≠ [] ∧ BoxRel μ cb i qs ps ∧ look cb i ≠ none ∧ qs1 ≠ [] ∧ look bx j = some qs1 ∧ β' i = β j) ∨ (look bx j = some qs ∧ ∀ i, look cb i ≠ none → μ i ≠ j) := fun j qs hj hq => by
   rw [aZ0] at hj
   cases hw : look wb j with
   | some qs' =>
    rw [hw] at hj
    simp only [Option.some_or, Option.some.injEq] at hj
    subst hj
    obtain ⟨i, ps, rfl, h2, h3⟩ := hZ9 ho hw
    have hps : ps ≠ [] := fun e => hq (h3.nil_iff.2 e)
    have hcn : look cb i ≠ none := bZQ (by rw [k1]; exact aZC (by rw [h2]; simp))
    have hge := (key i hcn).1
    obtain ⟨qs0, e1, e2⟩ := (g8 i _ h2 hps).2 hge
    obtain ⟨ps', a1, a2, _⟩ := get i qs0 e1 e2
    exact .inl ⟨i, ps, ps', rfl, h2, hps, h3, hcn, a2, a1, g6 i hge⟩
   | none =>
    rw [hw] at hj
    refine .inr ⟨by simpa using hj, fun i hi' e => ?_⟩
    subst e
    have : i ∈ cb'.map (·.1) := by rw [← k1]; exact aZC hi'
    obtain ⟨y, hy, rfl⟩ := List.mem_map.1 this
    exact bZQ (bx := wb) (by rw [wkeys]; exact List.mem_map.2 ⟨y, hy, rfl⟩) hw
  have live : ∀ r, look bx r ≠ none → look (wb ++ bx) r ≠ none := fun r hr => by rw [aZ0]; cases look wb r <;> simp; exact hr
  have liveM : ∀ i, look cb i ≠ none → look (wb ++ bx) (μ i) ≠ none := fun i hi' => by
   obtain ⟨ps, hp⟩ : ∃ ps, look cb i = some ps := Option.ne_none_iff_exists'.1 hi'
   obtain ⟨ps', a1, _⟩ := eZ5 hl hp
   exact live _ (by rw [a1]; simp)
  have hblk : ∀ k, k < w.heap.size → (∀ i ps, look cb i = some ps → ps ≠ [] → k ≠ β (μ i)) → w'.heap[k]? = w.heap[k]? := fun k hk hne => g4.block k hk (by rintro ⟨i, ⟨ps, h1, h2⟩, h3⟩; exact hne i ps h1 h2 h3)
  refine ⟨v, h', rfl, ⟨hi.env, g2, hi.le0.trans g1, fun b' o u e e0 => ?_, ⟨g4.os.trans hi.below.os, g4.tape.trans hi.below.tape, g4.output.trans hi.below.output, Nat.le_trans hi.below.size g4.size, fun k hk hM => ?_⟩, hi.dis, hi.pin, fun j qs hj hq => ?_, fun i j ps qs hp hps hq hqs => ?_⟩, g1, g7⟩
  ·cases he : h b' o with
   | none => exact Nat.le_trans hi.below.size (g3 b' o u e he)
   | some u' => exact hi.fresh b' o u' he e0
  ·rw [hblk k (Nat.lt_of_lt_of_le hk hi.below.size) ?_]
   ·exact hi.below.block k hk hM
   ·rintro i ps hp hps rfl
    rcases blk i ps hp hps with h | h
    ·omega
    ·exact hM h
  ·rcases src j qs hj hq with ⟨i, ps, qs1, rfl, e2, e3, e4, e5, e6, e7, e8⟩ | ⟨e1, e2⟩
   ·obtain ⟨q1, _⟩ := hi.box (μ i) qs1 e7 e6
    obtain ⟨r1, us, rs, T', r2, r3, _⟩ := g5.box i ps e2 e3
    have hli := (key' i e5).2
    rw [e8] at r1 r2
    have hng := (ngr i e5).2
    rcases e4 with ⟨b1, b2⟩ | ⟨b1, rfl⟩
    ·obtain ⟨vs2, d1, d2, d3⟩ := CsMv.ous (bx := wb ++ bx) (β := β) (β' := β') (fun i' hi' => ⟨ngr i' hi', g6 i' (key i' hi').1, liveM i' hi'⟩) b2 r3
     refine ⟨q1, r1, vs2, rs, T', ?_, d2, fun hg => absurd hg hng, fun _ => d3⟩
     have e1 : tI i β' us = us.map (tr β') := by unfold tI; rw [b1]; rfl
     have e2 : tI (μ i) β vs2 = vs2.map (tr β) := by unfold tI; rw [← hli, b1]; rfl
     rw [e2, d1, ← e1]; exact r2
    ·rw [bZ3 b1] at r2
     have b1' : lk (μ i) = false := by rw [← hli]; exact b1
     exact ⟨q1, r1, us, rs, T', by rw [bZ3 b1']; exact r2, r3, fun hg => absurd hg hng, bZd b1' _ _ _⟩
   ·obtain ⟨r0, r1, us, rs, T', r2, r3, r4, r5⟩ := hi.box j qs e1 hq
    refine ⟨r0, fun o => ?_, us, rs, T', ?_, r3.mono g1, r4, cZX r5 live⟩
    ·cases he : h' (β j) o with
     | none => rfl
     | some u =>
      have := g3 _ _ _ he (r1 o)
      have := aZM r2
      omega
    ·rw [hblk _ (aZM r2) ?_]
     ·exact r2
     ·intro i ps hp hps hh
      obtain ⟨ps', a1, a2, _⟩ := get i ps hp hps
      exact e2 i (by rw [hp]; simp) (hi.inj _ _ _ _ a1 a2 e1 hq hh.symm)
  ·have old : ∀ j qs, look (wb ++ bx) j = some qs → qs ≠ [] → ∃ qs', look bx j = some qs' ∧ qs' ≠ [] := fun j qs hj hq => by
    rcases src j qs hj hq with ⟨i, _, qs1, _, _, _, _, _, e6, e7, _⟩ | ⟨e1, _⟩
    ·exact ⟨qs1, e7, e6⟩
    ·exact ⟨qs, e1, hq⟩
   obtain ⟨ps', a1, a2⟩ := old i ps hp hps
   obtain ⟨qs', b1, b2⟩ := old j qs hq hqs
   exact hi.inj i j _ _ a1 a2 b1 b2
section
variable {n : Nat} {sl : Sl} {bx : Bx} {dst : Option Tmp} {ty : TypeId} {pos : String} {after : Array Edge} {guard : Option (Nat × Bool)}
theorem oZh {f : FuncId} {rb : List Nat} {xs : List Operand} {ats : Array TypeId} {az : List SD} {cb cb' : Bx} {r : Pd} (μ : Nat → Nat) (wb : Bx) [hb : CBody P f] (hf : FnG P En f az cb (.one r) cb') (ha : iZZ sl cb μ xs az) (hl : boxesL bx μ cb cb) (ho : outsL μ cb cb' wb) (hk : mZG μ (cb.map (·.1)) (cb'.map (·.1)) = true) (hrb : cb.map (fun x => μ x.1) = rb) :
  RT P En n ⟨dst, .call ⟨.value (.func f), xs.toArray, ats⟩, ty, pos, after, guard⟩ sl bx ⟨.one r, rb, wb⟩ := by
 subst hrb
 intro sl' bx' h1 h2 _ w0 h0 c h β a w Q hi hs
 have hl' : boxesL bx' μ cb cb := by
  have : ∀ l : Bx, (∀ x ∈ l, x ∈ cb) → boxesL bx μ cb l → boxesL bx' μ cb l := by
   intro l
   induction l with
   | nil => intro _ _; trivial
   | cons x l ih =>
    intro hm hx
    exact ⟨by rw [h2 _ (List.mem_map.2 ⟨x, hm x (by simp), rfl⟩)]; exact hx.1, ih (fun y hy => hm y (by simp [hy])) hx.2⟩
  exact this cb (fun _ h => h) hl
 unfold Oper.wp
 rw [execOp_call_go, show (#[] ++ xs.toArray.map a.eval ++ #[]) = (xs.map a.eval).toArray by simp, cZr hb.ok]
 refine Calls.mono (call_L hi hf (eZY hs (fun x hx => h1 x (by simp [Op.operands, Call.operands, hx])) ha) hl' ho hk) ?_
 rintro e w' ⟨v, h', rfl, q1, q2, q3⟩
 exact ⟨v, h', β, rfl, q1, q2, fun _ _ => rfl, q3, trivial⟩
end
end
end
section
open Go.RowKit Limb Det Num
def expN (p : Nat) : Nat → Nat → Nat
 | 0, _ => 0
 | f + 1, n => if n ≠ 0 ∧ n % p = 0 then expN p f (n / p) + 1 else 0
def expo (p n : Nat) : Nat := expN p n n
theorem hZX {p : Nat} (hp : 2 ≤ p) : ∀ {f g n : Nat}, n ≤ f → n ≤ g → expN p f n = expN p g n
 | 0, 0, _, _, _ => rfl
 | 0, g + 1, n, h, _ => by
  have : n = 0 := oM
  subst this; rw [expN, expN, if_neg (by simp)]
 | f + 1, 0, n, _, h => by
  have : n = 0 := oM
  subst this; rw [expN, expN, if_neg (by simp)]
 | f + 1, g + 1, n, h1, h2 => by
  rw [expN, expN]
  by_cases c : n ≠ 0 ∧ n % p = 0
  ·rw [if_pos c, if_pos c]
   have : n / p < n := Nat.div_lt_self oM hp
   rw [hZX hp (f := f) (g := g) oM oM]
  ·rw [if_neg c, if_neg c]
theorem hZW {p n : Nat} (hp : 2 ≤ p) (h0 : n ≠ 0) (h : n % p = 0) : expo p n = expo p (n / p) + 1 := by
 obtain ⟨m, rfl⟩ : ∃ m, n = m + 1 := ⟨n - 1, oM⟩
 have : (m + 1) / p < m + 1 := Nat.div_lt_self oM hp
 unfold expo
 rw [expN, if_pos ⟨h0, h⟩, hZX hp (f := m) (g := (m + 1) / p) oM (Nat.le_refl _)]
theorem dZs {p n : Nat} (h : ¬ (n ≠ 0 ∧ n % p = 0)) : expo p n = 0 := by
 unfold expo
 cases n with
 | zero => rfl
 | succ n => rw [expN, if_neg h]
theorem kZk {p : Nat} (hp : 2 ≤ p) (n : Nat) : p ^ expo p n ∣ n := by
 induction n using Nat.strongRecOn with
 | _ n ih =>
  by_cases c : n ≠ 0 ∧ n % p = 0
  ·rw [hZW hp c.1 c.2, Nat.pow_succ]
   obtain ⟨x, hx⟩ := ih (n / p) (Nat.div_lt_self oM hp)
   have h1 : n = p * (n / p) := by have := Nat.div_add_mod n p; omega
   refine ⟨x, ?_⟩
   rw [h1]
   generalize hq : n / p = q at *
   rw [show p * q / p = q from Nat.mul_div_cancel_left _ oM] at *
   rw [Nat.mul_assoc, Nat.mul_left_comm, ← hx]
  ·rw [dZs c]; exact ⟨n, by simp⟩
theorem expo_lt {p : Nat} (hp : 2 ≤ p) {n k : Nat} (h0 : n ≠ 0) (h : n < p ^ k) : expo p n < k := by
 have h1 := Nat.le_of_dvd oM (kZk hp n)
 have h2 : p ^ expo p n < p ^ k := Nat.lt_of_le_of_lt h1 h
 exact (Nat.pow_lt_pow_iff_right oM).1 h2
def rcpL : Nat → Nat → Nat → Int → Int → Int
 | 0, _, _, u, _ => u
 | f + 1, x, y, u, v => if y = 0 then u else rcpL f y (x % y) v (u - ((x / y : Nat) : Int) * v)
def rcp (a m : Nat) : Int := if Nat.gcd a m = 1 then rcpL (m + 1) a m 1 0 % (m : Int) else 0
def RcB (m : Nat) (x y : Nat) (u v : Int) : Prop := (u.natAbs ≤ m ∧ v.natAbs ≤ m) ∧ v.natAbs * x + u.natAbs * y ≤ m
theorem RcB.next {m x y : Nat} {u v : Int} (h : RcB m x y u v) (hy : 1 ≤ y) : (((x / y : Nat) : Int) * v).natAbs ≤ m ∧ RcB m y (x % y) v (u - ((x / y : Nat) : Int) * v) := by
 obtain ⟨⟨h1, h3⟩, h2⟩ := h
 have e1 : (((x / y : Nat) : Int) * v).natAbs = x / y * v.natAbs := by rw [Int.natAbs_mul, Int.natAbs_natCast]
 have e2 : x / y * v.natAbs ≤ v.natAbs * x := by rw [Nat.mul_comm]; exact Nat.mul_le_mul_left _ (Nat.div_le_self x y)
 have e4 : (u - ((x / y : Nat) : Int) * v).natAbs ≤ u.natAbs + x / y * v.natAbs := by rw [← e1]; omega
 have e5 : (u - ((x / y : Nat) : Int) * v).natAbs * y ≤ (u.natAbs + x / y * v.natAbs) * y := Nat.mul_le_mul_right _ e4
 have e6 := Nat.div_add_mod x y
 have e7 : (u.natAbs + x / y * v.natAbs) * y + v.natAbs * (x % y) = u.natAbs * y + v.natAbs * (y * (x / y) + x % y) := by grind
 rw [e6] at e7
 have e8 : (u - ((x / y : Nat) : Int) * v).natAbs ≤ (u - ((x / y : Nat) : Int) * v).natAbs * y := Nat.le_mul_of_pos_right _ hy
 exact ⟨oM, ⟨oM, oM⟩, oM⟩
theorem hZ1 {m a : Nat} : ∀ {f x y : Nat} {u v s t : Int}, y < f → Nat.gcd x y = 1 → u * a + s * m = x → v * a + t * m = y → ∃ s', rcpL f x y u v * a + s' * m = 1
 | 0, x, y, u, v, s, t, h, _, _, _ => oM
 | f + 1, x, y, u, v, s, t, h, hg, h1, h2 => by
  rw [rcpL]
  by_cases c : y = 0
  ·subst c
   rw [if_pos rfl]
   rw [Nat.gcd_zero_right] at hg
   exact ⟨s, by rw [h1, hg]; rfl⟩
  ·rw [if_neg c]
   have hlt := Nat.mod_lt x (Nat.pos_of_ne_zero c)
   refine hZ1 (s := t) (t := s - ((x / y : Nat) : Int) * t) oM (by rw [Nat.gcd_comm, ← Nat.gcd_rec]; rw [Nat.gcd_comm]; exact hg) h2 ?_
   have e : ((x : Nat) : Int) = (y : Int) * ((x / y : Nat) : Int) + ((x % y : Nat) : Int) := by
    rw [← Int.natCast_mul, ← Int.natCast_add, Nat.div_add_mod]
   have e2 : (u - ((x / y : Nat) : Int) * v) * a + (s - ((x / y : Nat) : Int) * t) * m = (u * a + s * m) - ((x / y : Nat) : Int) * (v * a + t * m) := by grind
   rw [e2, h1, h2, e]
   grind
theorem oZr {a m : Nat} (hg : Nat.gcd a m = 1) : ∃ k : Int, rcp a m * a = 1 + k * m := by
 obtain ⟨s, hs⟩ := hZ1 (m := m) (a := a) (f := m + 1) (x := a) (y := m) (u := 1) (v := 0) (s := 0) (t := 1) oM hg (by grind) (by grind)
 unfold rcp
 rw [if_pos hg]
 generalize rcpL (m + 1) a m 1 0 = z at *
 have e := Int.emod_add_mul_ediv z (m : Int)
 refine ⟨-s - (z / (m : Int)) * a, ?_⟩
 have e3 : z % (m : Int) = z - (m : Int) * (z / (m : Int)) := oM
 rw [e3]
 grind
theorem rcp_bd {a m : Nat} (hm : 1 ≤ m) : 0 ≤ rcp a m ∧ rcp a m < m := by
 unfold rcp
 split
 ·exact ⟨Int.emod_nonneg _ oM, Int.emod_lt_of_pos _ oM⟩
 ·omega
theorem jZj (a b : Nat) : (a : Int).tmod (b : Int) = ((a % b : Nat) : Int) := (Int.ofNat_tmod a b).symm
theorem eZO (a b : Nat) : (a : Int).tdiv (b : Int) = ((a / b : Nat) : Int) := (Int.ofNat_tdiv a b).symm
instance cbody80 : CBody Tryz.prog 80 := ⟨⟨_, Tryz.func80, rfl, by rfl⟩⟩
instance cbody43 : CBody Tryz.prog 43 := ⟨⟨_, Tryz.func43, rfl, by rfl⟩⟩
instance cbody82 : CBody Tryz.prog 82 := ⟨⟨_, Tryz.func82, rfl, by rfl⟩⟩
instance cbody176 : CBody Tryz.prog 176 := ⟨⟨_, Tryz.func176, rfl, by rfl⟩⟩
instance cbody141 : CBody Tryz.prog 141 := ⟨⟨_, Tryz.func141, rfl, by rfl⟩⟩
instance cbody7 : CBody Tryz.prog 7 := ⟨⟨_, Tryz.func7, rfl, by rfl⟩⟩
instance cbody81 : CBody Tryz.prog 81 := ⟨⟨_, Tryz.func81, rfl, by rfl⟩⟩
section
variable (En : Ev)
theorem hZT (n p : Nat) (hp : 2 ≤ p) (hp2 : p ≤ 4294967296) (hn : n ≤ 4294967296) : Fn Tryz.prog En 43 [ex (.int .i64 (n : Int)), ex (.int .i64 (p : Int))] (ex (.int .i64 ((expo p n : Nat) : Int))) := by
 refine aZb Tryz.func43 rfl Tryz.ntmps43 rfl ?_
 intro w0 h0
 refine js<|jr<|ja jj<|jn<|js<|jr<|ja jj<|jn<|js<|jb ?_
 refine WpD.loop (α := {x : Nat × Nat // x.1 ≤ n ∧ expo p x.1 + x.2 = expo p n ∧ x.1 + x.2 ≤ n}) (fun x => ⟨[(0, .one (ex (.int .i64 (x.1.1 : Int)))), (1, .one (ex (.int .i64 (p : Int)))), (5, .one (ex (.int .i64 (x.1.2 : Int))))], []⟩) (fun x => x.1.1) ⟨(n, 0), Nat.le_refl n, rfl, Nat.le_refl n⟩ ?_ ?_
 ·dsimp only
  exact Sub.mk sJ sJ
 rintro ⟨⟨x, e⟩, hx, he, hs⟩
 dsimp only at hx he hs ⊢
 by_cases h0 : x = 0
 ·have he2 : e = expo p n := by rw [← he, dZs oM]; omega
  subst he2
  refine js<|js<|jr<|jm jj<|jS (bNf jj jj oM)<|jm jj<|jk<|jk<|jk<|jk<|jQ jj jj<|jn<|jf jj<|je<|js<|jr<|jm jj<|ja jj<|jn<|ji ?_
  exact rtT rfl jj
 ·have e1 := jZj x p
  by_cases hr : x % p = 0
  ·have hlt : x / p < x := Nat.div_lt_self oM hp
   have e2 : IntKind.i64.wrap ((x : Int).tdiv (p : Int)) = ((x / p : Nat) : Int) := by rw [eZO]; generalize x / p = q at *; exact w64 oM oM
   have e3 := wS e oM
   have he3 := hZW hp h0 hr
   refine js<|js<|jr<|jm jj<|jS (bNt jj jj oM)<|jm jj (jgm jj (jgm jj (jg (bRe jj jj e1) (jg (bEt jj jj oM) (jq jj jj (jn (jt jj (jp (jb (js (jr (jm jj (jm jj (jS (bQu jj jj e2) (ja jj (jn (jr (jm jj (jS (bAd jj jj e3) (ja jj (jn ?_)))))))))))))))))))))
   refine ⟨⟨(x / p, e + 1), oD, oD, oD⟩, ?_, oD⟩
   dsimp only
   exact Sub.mk sJ sJ
  ·have he2 : e = expo p n := by rw [← he, dZs oM]; omega
   subst he2
   refine js<|js<|jr<|jm jj<|jS (bNt jj jj oM)<|jm jj (jgm jj (jgm jj (jg (bRe jj jj e1) (jg (bEf jj jj oM) (jq jj jj (jn (jf jj (je (js (jr (jm jj (ja jj (jn (ji ?_))))))))))))))
   exact rtT rfl jj
theorem qZ0 (p e : Nat) (hp : 1 ≤ p) (h : p ^ e ≤ 4294967296) (he : e ≤ 4294967296) : Fn Tryz.prog En 82 [ex (.int .i64 (p : Int)), ex (.int .i64 (e : Int))] (ex (.int .i64 ((p ^ e : Nat) : Int))) := by
 refine aZb Tryz.func82 rfl Tryz.ntmps82 rfl ?_
 intro w0 h0
 refine js<|jr<|ja jj<|jn<|js<|jr<|ja jj<|jn<|js<|js<|jr<|ja jj<|jn<|jb ?_
 refine WpD.loop (α := {i : Nat // i ≤ e}) (fun i => ⟨[(0, .one (ex (.int .i64 (p : Int)))), (1, .one (ex (.int .i64 (e : Int)))), (5, .one (ex (.int .i64 ((p ^ i.1 : Nat) : Int)))), (6, .one (ex (.int .i64 (i.1 : Int))))], []⟩) (fun i => e - i.1) ⟨0, oM⟩ ?_ ?_
 ·dsimp only
  exact Sub.mk sJ sJ
 rintro ⟨i, hi⟩
 dsimp only
 by_cases hie : i < e
 ·have e1 : IntKind.i64.wrap (((p ^ i : Nat) : Int) * (p : Int)) = ((p ^ (i + 1) : Nat) : Int) := by
   rw [← Int.natCast_mul, ← Nat.pow_succ]
   have : p ^ i.succ ≤ p ^ e := Nat.pow_le_pow_right hp oM
   exact w64 oM oM
  have e2 := wS i oM
  refine js<|js<|jr<|jm jj<|jm jj<|jS (bLt jj jj)<|jn<|jt jj<|jp<|js<|jb<|jr<|jm jj<|jm jj<|jS (bMu jj jj e1)<|ja jj<|jn<|jr<|jm jj<|jS (bAd jj jj e2)<|ja jj<|jn ?_
  refine ⟨⟨i + 1, oM⟩, ?_, oD⟩
  dsimp only
  exact Sub.mk sJ sJ
 ·have e0 : i = e := oM
  subst e0
  refine js<|js<|jr<|jm jj<|jm jj<|jS (bLf jj jj)<|jn<|jf jj<|je<|js<|jr<|jm jj<|ja jj<|jn<|ji ?_
  exact rtT rfl jj
theorem hgcd (a b : Nat) : Fn Tryz.prog En 176 [ex (.int .i64 (a : Int)), ex (.int .i64 (b : Int))] (ex (.int .i64 ((Nat.gcd a b : Nat) : Int))) := by
 refine aZb Tryz.func176 rfl Tryz.ntmps176 rfl ?_
 intro w0 h0
 refine js<|jr<|ja jj<|jn<|js<|jb ?_
 refine WpD.loop (α := {x : Nat × Nat // Nat.gcd x.1 x.2 = Nat.gcd a b}) (fun x => ⟨[(0, .one (ex (.int .i64 (x.1.1 : Int)))), (1, .one (ex (.int .i64 (x.1.2 : Int))))], []⟩) (fun x => x.1.2) ⟨(a, b), rfl⟩ ?_ ?_
 ·dsimp only
  exact Sub.mk sJ sJ
 rintro ⟨⟨x, y⟩, hg⟩
 dsimp only at hg ⊢
 by_cases h0 : y = 0
 ·subst h0
  rw [Nat.gcd_zero_right] at hg
  subst hg
  refine js<|js<|jr<|jm jj<|jS (bNf jj jj)<|jn<|jf jj<|je<|js<|jr<|jm jj<|ja jj<|jn<|ji ?_
  exact rtT rfl jj
 ·have hy : (y : Int) ≠ 0 := oM
  have e1 := jZj x y
  have hlt := Nat.mod_lt x (Nat.pos_of_ne_zero h0)
  refine js<|js<|jr<|jm jj<|jS (bNt jj jj)<|jn<|jt jj<|jp<|jb<|jr<|jm jj<|jm jj<|jm jj<|jS (bRe jj jj e1)<|ja jj<|ja jj<|jn ?_
  refine ⟨⟨(y, x % y), ?_⟩, ?_, oD⟩
  ·dsimp only
   rw [← hg, Nat.gcd_comm y, ← Nat.gcd_rec, Nat.gcd_comm]
  dsimp only
  exact Sub.mk sJ sJ
theorem iZL (a m : Nat) (hm : 1 ≤ m) (hm2 : m ≤ 4294967296) (ha : a ≤ 4294967296) : Fn Tryz.prog En 141 [ex (.int .i64 (a : Int)), ex (.int .i64 (m : Int))] (tupP [ex (.int .i64 (rcp a m)), ex (.bool (decide (Nat.gcd a m = 1)))]) := by
 have C1 := hgcd En a m
 unfold rcp
 by_cases hg : Nat.gcd a m = 1
 ·rw [if_pos hg, decide_eq_true hg]
  rw [hg] at C1
  refine aZb Tryz.func141 rfl Tryz.ntmps141 rfl ?_
  intro w0 h0
  refine js<|jr<|ja jj<|ja jj<|jn<|js<|js<|jr<|jm jj<|jm jj<|jS (aZa C1 tB)<|jS (bNf jj jj)<|jn<|jf jj<|jp<|js<|jr<|jm jj<|jm jj<|ja jj<|ja jj<|ja jj<|ja jj<|jn<|js<|jb ?_
  refine WpD.loop (α := {x : (Nat × Nat) × Nat × Int × Int // RcB m x.1.1 x.1.2 x.2.2.1 x.2.2.2 ∧ Nat.gcd x.1.1 x.1.2 = 1 ∧ (x.1.1 ≤ 4294967296 ∧ x.1.2 ≤ 4294967296) ∧ x.1.2 < x.2.1 ∧ rcpL x.2.1 x.1.1 x.1.2 x.2.2.1 x.2.2.2 = rcpL (m + 1) a m 1 0}) (fun x => ⟨[(1, .one (ex (.int .i64 (m : Int)))), (6, .one (ex (.int .i64 (x.1.1.1 : Int)))), (7, .one (ex (.int .i64 (x.1.1.2 : Int)))), (8, .one (ex (.int .i64 x.1.2.2.1))), (9, .one (ex (.int .i64 x.1.2.2.2)))], []⟩) (fun x => x.1.1.2) ⟨((a, m), m + 1, 1, 0), ⟨⟨by show (1 : Int).natAbs ≤ m; exact hm, Nat.zero_le _⟩, by show (0 : Int).natAbs * a + (1 : Int).natAbs * m ≤ m; simp⟩, hg, ⟨ha, hm2⟩, oD, rfl⟩ ?_ ?_
  ·dsimp only
   exact Sub.mk sJ sJ
  rintro ⟨⟨⟨x, y⟩, f, u, v⟩, hB, hgx, ⟨hx, hy⟩, hf, hE⟩
  dsimp only at hB hgx hx hy hf hE ⊢
  obtain ⟨f, rfl⟩ : ∃ f', f = f' + 1 := ⟨f - 1, oM⟩
  by_cases h0 : y = 0
  ·rw [rcpL, if_pos h0] at hE
   subst h0
   have C2 := gmod En u (m : Int) oM oM
   rw [← hE]
   refine js<|js<|jr<|jm jj<|jS (bNf jj jj)<|jn<|jf jj<|je<|js<|jr<|jm jj<|jm jj<|jS (aZa C2 tB)<|ja jj<|ja jj<|jn<|ji ?_
   exact ret2 rfl (.tmp rfl) (.tmp rfl) (PLe.refl _)
  ·rw [rcpL, if_neg h0] at hE
   have hy0 : (y : Int) ≠ 0 := oM
   have hdl : x / y ≤ x := Nat.div_le_self x y
   have e6 := Nat.div_add_mod x y
   have hlt := Nat.mod_lt x (Nat.pos_of_ne_zero h0)
   obtain ⟨k1, k2⟩ := hB.next (Nat.pos_of_ne_zero h0)
   have e6' : ((x / y : Nat) : Int) * (y : Int) = (x : Int) - ((x % y : Nat) : Int) := by
    rw [← Int.natCast_mul, Nat.mul_comm (x / y) y]; omega
   have c1 : IntKind.i64.wrap ((x : Int).tdiv (y : Int)) = ((x / y : Nat) : Int) := by rw [eZO]; generalize x / y = q at *; exact w64 oM oM
   have c2 : IntKind.i64.wrap (((x / y : Nat) : Int) * (y : Int)) = (x : Int) - ((x % y : Nat) : Int) := by rw [e6', w64 oM oM]
   have c3 : IntKind.i64.wrap ((x : Int) - ((x : Int) - ((x % y : Nat) : Int))) = ((x % y : Nat) : Int) := by rw [w64 oM oM]; omega
   have c4 : IntKind.i64.wrap (((x / y : Nat) : Int) * v) = ((x / y : Nat) : Int) * v := w64 oM oM
   have hu := hB.1.1
   have c5 : IntKind.i64.wrap (u - ((x / y : Nat) : Int) * v) = u - ((x / y : Nat) : Int) * v := w64 oM oM
   refine js<|js<|jr<|jm jj<|jS (bNt jj jj)<|jn<|jt jj<|jp<|jb<|js<|jr<|jm jj<|jm jj<|jS (bQu jj jj c1)<|ja jj<|jn<|js<|jr<|jm jj<|jm jj<|jm jj<|jm jj<|jS (bMu jj jj c2)<|jS (bSu jj jj c3)<|ja jj<|ja jj<|jn<|jr<|jm jj<|jm jj<|jm jj<|jm jj<|jS (bMu jj jj c4)<|jS (bSu jj jj c5)<|ja jj<|ja jj<|jn ?_
   refine ⟨⟨((y, x % y), f, v, u - ((x / y : Nat) : Int) * v), k2, ?_, ⟨hy, oD⟩, oD, hE⟩, ?_, oD⟩
   ·dsimp only
    rw [← hgx, Nat.gcd_comm y, ← Nat.gcd_rec, Nat.gcd_comm]
   dsimp only
   exact Sub.mk sJ sJ
 ·rw [if_neg hg, decide_eq_false hg]
  refine aZb Tryz.func141 rfl Tryz.ntmps141 rfl ?_
  intro w0 h0
  refine js<|jr<|ja jj<|ja jj<|jn<|js<|js<|jr<|jm jj<|jm jj<|jS (aZa C1 tB)<|jS (bNt jj jj oM)<|jn<|jt jj<|js<|jr<|ja jj<|ja jj<|jn<|ji ?_
  exact ret2 rfl (.tmp rfl) (.tmp rfl) (PLe.refl _)
theorem jleg (a : Int) (p : Nat) (h1 : 1 ≤ p) (h2 : p ≤ 2147483648) : Fn Tryz.prog En 80 [ex (.int .i64 a), ex (.int .i64 (p : Int))] (ex (.int .i64 (legZ a p))) := by
 intro h w vs _ hh hv
 obtain ⟨v, u, rfl, e1, e2⟩ := hv.two
 have e1 : v = .int .i64 a := e1
 have e2 : u = .int .i64 (p : Int) := e2
 subst e1 e2
 refine (hZO a p w h1 h2).mono ?_
 rintro e w' ⟨rfl, rfl⟩
 exact bZR hh (Below.refl _ _) rfl
theorem hdet (A : Nat → Nat → Int) (n K : Nat) (hn : 1 ≤ n) (hn8 : n ≤ 8) (hK : K ≤ 1000000) (hA : ZL A n n K) (hI : ∀ i j, i < n → j < n → I64 (A i j)) (hd : I64 (det n A)) : Fn Tryz.prog En 7 [imt A n n] (ex (.int .i64 (det n A))) := by
 have C1 := mof En A n n hn hn8 hn hn8 hI
 have C2 := mdet En A n K hn hn8 hK hA
 have C3 := qZd En (det n A) hd
 refine aZb Tryz.func7 rfl Tryz.ntmps7 rfl ?_
 intro w0 h0
 refine js<|jr<|ja jj<|jn<|js<|jr<|jm jj<|jS (aZa C1 tA)<|jS (aZa C2 tA)<|jS (aZa C3 tA)<|jm jj<|jx' jj jj<|jx' jj jj<|ja jj<|ja jj<|jn<|js<|jr<|jm jj<|ja jj<|jn<|ji ?_
 exact rtT rfl jj
def dgs (d : Int) (p : Nat) : Nat := expo p d.toNat + (if p = 2 then 3 else 1)
theorem expo_le {p : Nat} (hp : 2 ≤ p) (n : Nat) : expo p n ≤ n := by
 by_cases h : n = 0
 ·subst h; exact Nat.le_refl 0
 ·have h1 := Nat.le_of_dvd oM (kZk hp n)
  have h2 : expo p n < p ^ expo p n := Nat.lt_pow_self hp
  omega
theorem hdigits (A : Nat → Nat → Int) (n K p : Nat) (hn : 1 ≤ n) (hn8 : n ≤ 8) (hK : K ≤ 1000000) (hA : ZL A n n K) (hI : ∀ i j, i < n → j < n → I64 (A i j)) (hd0 : 0 ≤ det n A) (hd : det n A ≤ 4294967296) (hp : 2 ≤ p) (hp2 : p ≤ 4294967296) : Fn Tryz.prog En 81 [imt A n n, ex (.int .i64 (p : Int))] (ex (.int .i64 ((dgs (det n A) p : Nat) : Int))) := by
 have C1 := hdet En A n K hn hn8 hK hA hI ⟨oM, oM⟩
 have C2 := hZT En (det n A).toNat p hp hp2 oM
 have hx := expo_le hp (det n A).toNat
 rw [show (((det n A).toNat : Nat) : Int) = det n A by omega] at C2
 unfold dgs
 by_cases h2 : p = 2
 ·subst h2
  rw [if_pos rfl]
  have e1 : IntKind.i64.wrap (((expo 2 (det n A).toNat : Nat) : Int) + 3) = ((expo 2 (det n A).toNat + 3 : Nat) : Int) := by rw [w64 oM oM]; rfl
  refine aZb Tryz.func81 rfl Tryz.ntmps81 rfl ?_
  intro w0 h0
  refine js<|jr<|ja jj<|jn<|js<|jr<|jm jj<|jS (aZa C1 tA)<|jm jj<|jS (aZa C2 tB)<|ja jj<|jn<|js<|js<|jr<|jm jj<|jS (bEt jj jj)<|jn<|jt jj<|js<|jr<|jm jj<|jS (bAd jj jj e1)<|ja jj<|jn<|ji ?_
  exact rtT rfl jj
 ·rw [if_neg h2]
  have e1 : IntKind.i64.wrap (((expo p (det n A).toNat : Nat) : Int) + 1) = ((expo p (det n A).toNat + 1 : Nat) : Int) := by rw [w64 oM oM]; rfl
  refine aZb Tryz.func81 rfl Tryz.ntmps81 rfl ?_
  intro w0 h0
  refine js<|jr<|ja jj<|jn<|js<|jr<|jm jj<|jS (aZa C1 tA)<|jm jj<|jS (aZa C2 tB)<|ja jj<|jn<|js<|js<|jr<|jm jj<|jS (bEf jj jj)<|jn<|jf jj<|jp<|js<|jr<|jm jj<|jS (bAd jj jj e1)<|ja jj<|jn<|ji ?_
  exact rtT rfl jj
end
end
end Go.Proofs.YtfmjdlogjmofbaaGreatDoor
