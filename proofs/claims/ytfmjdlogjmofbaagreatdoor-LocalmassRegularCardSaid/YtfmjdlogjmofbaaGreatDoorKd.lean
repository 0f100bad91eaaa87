/- The reduction. -/
import Derived.Test.YtfmjdlogjmofbaaGreatDoorMem
import Derived.Test.YtfmjdlogjmofbaaGreatDoorLr
import Derived.Test.YtfmjdlogjmofbaaGreatDoorGa
import Derived.Test.YtfmjdlogjmofbaaGreatDoorW
set_option maxRecDepth 3000
namespace Go.Proofs.YtfmjdlogjmofbaaGreatDoor
section
open Go.RowKit Limb Det
def redH (A : Nat → Nat → Int) (n : Nat) : Nat → Nat → Int := (cZd n 20000 A idM).1
def redU (A : Nat → Nat → Int) (n : Nat) : Nat → Nat → Int := (cZd n 20000 A idM).2
theorem iZ4 {n k : Nat} {H T : Nat → Nat → Int} (h : allR H n n = .none) : cZd n (k + 1) H T = (H, T) := by rw [cZd, h]
theorem iZ3 {n k i j : Nat} {H T : Nat → Nat → Int} (h : allR H n n = .red i j) : cZd n (k + 1) H T = cZd n k (iZ9 H (.red i j)) (mulM T (redT H i j) n) := by rw [cZd, h]; rfl
theorem iZ2 {n k i : Nat} {H T : Nat → Nat → Int} (h : allR H n n = .swp i) : cZd n (k + 1) H T = cZd n k (iZ9 H (.swp i)) (mulM T (swpT i) n) := by rw [cZd, h]; rfl
section
variable (En : Ev)
set_option maxHeartbeats 1000000 in
theorem mreduce (A : Nat → Nat → Int) (n : Nat) (hn : 1 ≤ n) (hn7 : n ≤ 7) (hs : Sym A) (hp : Pos n A) (h15 : ∀ r, r < n → A r r ≤ 15) (hd : det n A ≤ 10000) (hA : ZL A n n 2) : Fn Tryz.prog En 17 [zmt A n n] (tupP [imt (redH A n) n n, zmt (redU A n) n n, ex (.int .i64 0)]) := by
 have CV := hZE En A n 2 hn oM oM hA (fun i j _ _ => hs i j)
 have hpB : posB A n = true := decide_eq_true fun k hk => hp (k + 1) oM
 rw [hpB] at CV
 have CS := msmall En A n 2 hn oM oM hA
 rw [decide_eq_true hd] at CS
 have CC := mcopy En A n n 2 oM hn oM oM hA
 have CI : Fn Tryz.prog En 49 [ex (.int .i64 (n : Int))] (tupP [zmt idM n n, ex (.bool true)]) := FnX.const2 (hZH En n hn oM) (fun i hi => oM) (fun i hi => aZ4 hi) (fun _ _ _ _ => rfl)
 refine aZb Tryz.func17 rfl Tryz.ntmps17 rfl ?_
 intro w0 h0
 refine js<|jr<|ja jj<|ja jj<|ja jj<|jn<|js<|js<|jr<|jm jj<|jS (aZa CV tA)<|ja jj<|jn<|js<|jr<|jm jj<|jS (aZ6 jj jj (fun w => gZ6 w _ _ _ _ _ _))<|jn<|jf jj<|jp<|js<|js<|jr<|jm jj<|jS (aZa CS tA)<|jS (bNo jj)<|jn<|jf jj<|jp<|js<|jr<|jm jj<|jS (aZa CC tA)<|ja jj<|jn<|js<|jr<|jm jj<|jE jj<|jS (aZa CI tA)<|jm jj<|jx' jj jj<|jx' jj jj<|ja jj<|ja jj<|jn ?_
 refine jb ?_
 refine WpD.loop (α := {p : (Nat → Nat → Int) × (Nat → Nat → Int) × Nat × Nat // Rv n A p.1 p.2.1 p.2.2.1 p.2.2.2 ∧ cZd n 20000 A idM = cZd n p.2.2.2 p.1 p.2.1}) (fun p => ⟨[(6, .one (zmt p.1.1 n n)), (7, .one (zmt p.1.2.1 n n))], []⟩) (fun p => p.1.2.2.2) ⟨(A, idM, 0, 20000), Rv.start hn7 hs hp h15, rfl⟩ ?_ ?_
 ·dsimp only
  exact Sub.mk sJ sJ
 rintro ⟨⟨H, T, S, k⟩, hR, hE⟩
 dsimp only at hR hE ⊢
 have hfew := hR.few
 obtain ⟨k, rfl⟩ : ∃ k', k = k' + 1 := ⟨k - 1, by have := hR.ku; omega⟩
 have hF : jZb H n (allR H n n) := eZ6 (Nat.le_refl n) fun r hr => oM
 have C1 := mstep En H n 20 hn oM oM hR.zlH fun k hk => by have := hR.j.po (k + 1) oM; omega
 cases hs : allR H n n with
 | none =>
  rw [hs] at C1 hF
  have hr := hR.done hF
  rw [iZ4 hs] at hE
  have C2 := mtoInts En H n n hn oM hn oM fun i j hi hj => by
   obtain ⟨h1, h2⟩ := hr.en i j hi hj
   exact ⟨oM, oM⟩
  rw [show redH A n = H from congrArg Prod.fst hE, show redU A n = T from congrArg Prod.snd hE]
  refine jb<|js<|jr<|jm jj<|jS (aZa C1 tA)<|jm jj<|jx' jj jj<|jx' jj jj<|ja jj<|ja jj<|jn<|js<|js<|jr<|jm jj<|jS (bNo jj)<|jn<|jt jj<|js<|jr<|jm jj<|jS (aZa C2 tA)<|jm jj<|jx' jj jj<|jx' jj jj<|ja jj<|ja jj<|jn<|js<|jr<|jm jj<|jm jj<|ja jj<|ja jj<|ja jj<|jn<|ji ?_
  exact ret3 rfl (.tmp rfl) (.tmp rfl) (.tmp rfl) (PLe.refl _)
 | red i j =>
  rw [hs] at C1 hF
  have hz := hR.stepT hF
  have C3 := gZb En H (redT H i j) n 20 hn oM oM hR.zlH (fun a b ha hb => Nat.le_trans (hz a b ha hb) oM)
  rw [dZM (lZR hF.2.1 hF.1)] at C3
  have C4 := eZT En T (redT H i j) n n n 1000000 hn oM hn oM hn oM oM (fun a b ha hb => Nat.le_trans (hR.tz a b ha hb) oM) (fun a b ha hb => Nat.le_trans (hz a b ha hb) oM)
  refine jb<|js<|jr<|jm jj<|jS (aZa C1 tA)<|jm jj<|jx' jj jj<|jx' jj jj<|ja jj<|ja jj<|jn<|js<|js<|jr<|jm jj<|jS (bNo jj)<|jn<|jf jj<|jp<|jr<|jm jj<|jm jj<|jS (aZa C3 tB)<|jm jj<|jm jj<|jS (aZa C4 tB)<|ja jj<|ja jj<|jn ?_
  refine ⟨⟨(iZ9 H (.red i j), mulM T (redT H i j) n, S, k), hR.red hF, hE.trans (iZ3 hs)⟩, ?_, oD⟩
  dsimp only
  exact Sub.mk sJ sJ
 | swp i =>
  rw [hs] at C1 hF
  have hz := hR.stepT hF
  have C3 := gZb En H (swpT i) n 20 hn oM oM hR.zlH (fun a b ha hb => Nat.le_trans (hz a b ha hb) oM)
  rw [dZM (lZ1 hF.1 hF.2.1)] at C3
  have C4 := eZT En T (swpT i) n n n 1000000 hn oM hn oM hn oM oM (fun a b ha hb => Nat.le_trans (hR.tz a b ha hb) oM) (fun a b ha hb => Nat.le_trans (hz a b ha hb) oM)
  refine jb<|js<|jr<|jm jj<|jS (aZa C1 tA)<|jm jj<|jx' jj jj<|jx' jj jj<|ja jj<|ja jj<|jn<|js<|js<|jr<|jm jj<|jS (bNo jj)<|jn<|jf jj<|jp<|jr<|jm jj<|jm jj<|jS (aZa C3 tB)<|jm jj<|jm jj<|jS (aZa C4 tB)<|ja jj<|ja jj<|jn ?_
  refine ⟨⟨(iZ9 H (.swp i), mulM T (swpT i) n, S + 1, k), hR.swp hF, hE.trans (iZ2 hs)⟩, ?_, oD⟩
  dsimp only
  exact Sub.mk sJ sJ
end
end
section
open Go.RowKit Limb
section
variable {P : Program} {En : Ev}
theorem call_XM {w0 : World} {h0 : GH} {c : Cx} {h : GH} {β : Nat → Nat} {bx : Bx} {w : World} (hi : Inv En w0 h0 c h β bx w) {f : FuncId} {az : List SD} {vs : List Value} {r : SD} {b d n m : Nat} {π : Nat → Nat} {g : Nat → List Pd} {cb cb' : Bx} {μ : Nat → Nat} (hf : FnG P En f az cb r (cb' ++ mbx 400 200 π n m g)) (ha : AllS h (fun i => β (μ i)) cb az vs) (hl : dZe bx μ cb) (hk : gZj μ (cb.map (·.1)) (cb'.map (·.1)) = true) (hπ : ∀ i, i < n → π i < 8) (hnb : look bx b = none) (hnd : ∀ j, j < 8 → look bx (d + j) = none) (hlb : lk b = true) (hb : 400 ≤ b ∧ b < 500) (hd : d + 8 ≤ 400) :
  Calls P f vs.toArray w (fun e w' => ∃ v h' β', e = .returned v ∧ Inv En w0 h0 c h' β' (mbx b d π n m g ++ ((cb'.map fun x => (μ x.1, x.2)) ++ bx)) w' ∧ Le h h' ∧ (∀ i, look bx i ≠ none → β' i = β i) ∧ ∃ βc, r.ok h' βc v ∧ βc 400 = β' b) := by
 unfold gZj at hk
 rw [Bool.and_eq_true, Bool.and_eq_true] at hk
 obtain ⟨⟨k1, k2⟩, k3⟩ := hk
 have k1 := kZl k1
 have key' : ∀ i, look cb i ≠ none → (1000 ≤ i ∧ (μ i < 500 ∨ 1000 ≤ μ i)) ∧ lk i = false ∧ lk (μ i) = false := fun i hi => by
  have := List.all_eq_true.1 k2 i (aZC hi)
  rw [Bool.and_eq_true, Bool.and_eq_true, Bool.and_eq_true, Bool.or_eq_true] at this
  obtain ⟨⟨⟨t1, t2⟩, t3⟩, t4⟩ := this
  refine ⟨⟨Nat.le_of_ble_eq_true t1, t2.imp (fun h => ?_) (fun h => Nat.le_of_ble_eq_true h)⟩, by simpa using t3, by simpa using t4⟩
  have : μ i < 400 := Nat.le_of_ble_eq_true h
  omega
 have key : ∀ i, look cb i ≠ none → 1000 ≤ i ∧ (μ i < 500 ∨ 1000 ≤ μ i) := fun i hi => (key' i hi).1
 have minj : ∀ i j, look cb i ≠ none → look cb j ≠ none → μ i = μ j → i = j := fun i j h1 h2 => dZ0 k3 i (aZC h1) j (aZC h2)
 have hS : ∀ k, En.S k → k < w0.heap.size := fun k hk => En.lt _ hi.env k hk
 have blk : ∀ i ps, look cb i = some ps → ps ≠ [] → (w0.heap.size ≤ β (μ i) ∨ c.M (β (μ i))) := fun i ps hp hps => by
  obtain ⟨q1, _⟩ := hi.box (μ i) ps (aZX hl hp) hps
  rcases Nat.lt_or_ge (μ i) 1000 with hlt | hge
  ·exact .inl (q1.1 hlt)
  ·exact .inr ⟨μ i, q1.2 hge, hi.pin _ hge⟩
 refine Calls.mono (hf h _ w vs hi.envNow hi.holds ⟨fun i ps hp hps => ?_, fun i j ps qs hp hps hq hqs e => ?_⟩ (fun i ps hp hps => ⟨(key i (by rw [hp]; simp)).1, fun hk => ?_⟩) ha) ?_
 ·obtain ⟨_, q2, us, rs, T', q3, q4, _⟩ := hi.box0 (μ i) ps (aZX hl hp) hps (key' i (by rw [hp]; simp)).2.2
  have hli := (key' i (by rw [hp]; simp)).2.1
  exact ⟨q2, us, rs, T', by rw [bZ3 hli]; exact q3, q4, bZd hli _ _ _⟩
 ·exact minj i j (by rw [hp]; simp) (by rw [hq]; simp) (hi.inj _ _ _ _ (aZX hl hp) hps (aZX hl hq) hqs e)
 ·rcases blk i ps hp hps with h | h
  ·have := hS _ hk; omega
  ·exact hi.dis _ h hk
 rintro e w' ⟨v, h', β', rfl, g1, g2, g3, g4, g5, g6, g8, g7, _⟩
 -- places of the callee's boxes
 have keys : ∀ i, look cb' i ≠ none → look cb i ≠ none := fun i hi' => bZQ (by rw [k1]; exact aZC hi')
 have cb'ge : ∀ i, look cb' i ≠ none → 1000 ≤ i := fun i hi' => (key i (keys i hi')).1
 have LC : ∀ i, look (cb' ++ mbx 400 200 π n m g) i = if 1000 ≤ i then look cb' i else look (mbx 400 200 π n m g) i := fun i => by
  rw [aZ0]
  by_cases h : 1000 ≤ i
  ·rw [if_pos h]
   cases hc : look cb' i with
   | some x => rfl
   | none => rw [Option.none_or, dZr, if_neg oM, if_neg oM]
  ·rw [if_neg h]
   cases hc : look cb' i with
   | some x => exact absurd (cb'ge i (by rw [hc]; simp)) h
   | none => rfl
 have c400 : look (cb' ++ mbx 400 200 π n m g) 400 = some (outL (fun i => ownP (200 + π i) 0 m m) n) := by rw [LC, if_neg oM, dZr, if_pos rfl]
 have crow : ∀ j, j < 8 → look (cb' ++ mbx 400 200 π n m g) (200 + j) = some (g j) := fun j hj => by rw [LC, if_neg oM, dZr, if_neg oM, if_pos oM, Nat.add_sub_cancel_left]
 have chan : ∀ i ps, look cb' i = some ps → look (cb' ++ mbx 400 200 π n m g) i = some ps := fun i ps hp => by rw [LC, if_pos (cb'ge i (by rw [hp]; simp))]; exact hp
 let γ : Nat → Nat := fun i => if i = b then β' 400 else if d ≤ i ∧ i < d + 8 then β' (200 + (i - d)) else β i
 have gb : γ b = β' 400 := if_pos rfl
 have gd : ∀ j, j < 8 → γ (d + j) = β' (200 + j) := fun j hj => by
  show (if _ then _ else if _ then _ else _) = _
  rw [if_neg oM, if_pos oM, Nat.add_sub_cancel_left]
 have go : ∀ i, look bx i ≠ none → γ i = β i := fun i hi' => by
  show (if _ then _ else if _ then _ else _) = _
  rw [if_neg (by rintro rfl; exact hi' hnb), if_neg]
  rintro ⟨q1, q2⟩
  have := hnd (i - d) oM
  rw [show d + (i - d) = i by omega] at this
  exact hi' this
 have L : ∀ i, look (mbx b d π n m g ++ ((cb'.map fun x => (μ x.1, x.2)) ++ bx)) i = _ := fun i => eZf (b := b) (d := d) (n := n) (m := m) (π := π) (g := g) (bx := (cb'.map fun x => (μ x.1, x.2)) ++ bx) i
 have live : ∀ i, look bx i ≠ none → look (mbx b d π n m g ++ ((cb'.map fun x => (μ x.1, x.2)) ++ bx)) i ≠ none ∧ γ i = β i := fun i hi' => by
  refine ⟨?_, go i hi'⟩
  rw [L]
  split
  ·simp
  ·split
   ·simp
   ·rw [aZ0]; cases look (cb'.map fun x => (μ x.1, x.2)) i <;> simp; exact hi'
 have hlt : ∀ j ps, look bx j = some ps → ps ≠ [] → β j < w.heap.size := fun j ps hj hp => by
  obtain ⟨_, _, us, rs, T', h3, _⟩ := hi.box j ps hj hp
  exact aZM h3
 have src : ∀ j qs, look (mbx b d π n m g ++ ((cb'.map fun x => (μ x.1, x.2)) ++ bx)) j = some qs → qs ≠ [] → (j = b ∧ qs = outL (fun i => ownP (d + π i) 0 m m) n) ∨ (∃ r, r < 8 ∧ j = d + r ∧ qs = g r) ∨ (∃ i qs0, μ i = j ∧ look cb' i = some qs ∧ look cb i = some qs0 ∧ qs0 ≠ [] ∧ look bx j = some qs0 ∧ β' i = β j) ∨ (look bx j = some qs ∧ ∀ i, look cb i ≠ none → μ i ≠ j) := fun j qs hj hq => by
  rw [L] at hj
  by_cases e : j = b
  ·rw [if_pos e] at hj; cases hj; exact .inl ⟨e, rfl⟩
  ·rw [if_neg e] at hj
   by_cases e2 : d ≤ j ∧ j < d + 8
   ·rw [if_pos e2] at hj; cases hj; exact .inr (.inl ⟨j - d, oM, oM, rfl⟩)
   ·rw [if_neg e2, aZ0] at hj
    cases hw : look (cb'.map fun x => (μ x.1, x.2)) j with
    | some qs' =>
     rw [hw] at hj
     simp only [Option.some_or, Option.some.injEq] at hj
     subst hj
     obtain ⟨i, rfl, h2⟩ := gZL hw
     have hge := cb'ge i (by rw [h2]; simp)
     obtain ⟨qs0, e1, e2⟩ := (g8 i _ (chan i _ h2) hq).2 hge
     exact .inr (.inr (.inl ⟨i, qs0, rfl, h2, e1, e2, aZX hl e1, g6 i hge⟩))
    | none =>
     rw [hw] at hj
     refine .inr (.inr (.inr ⟨by simpa using hj, fun i hi' e => ?_⟩))
     subst e
     have : i ∈ cb'.map (·.1) := by rw [← k1]; exact aZC hi'
     obtain ⟨y, hy, rfl⟩ := List.mem_map.1 this
     exact bZQ (bx := cb'.map fun x => (μ x.1, x.2)) (List.mem_map.2 ⟨(μ y.1, y.2), List.mem_map.2 ⟨y, hy, rfl⟩, rfl⟩) hw
 have cal : ∀ i ps, i < 1000 → look (cb' ++ mbx 400 200 π n m g) i = some ps → ps ≠ [] → w.heap.size ≤ β' i := fun i ps hlo hp hps => (g8 i ps hp hps).1 hlo
 have outne : outL (fun i => ownP (d + π i) 0 m m) n ≠ [] → outL (fun i => ownP (200 + π i) 0 m m) n ≠ [] := fun hh hq => hh (List.length_eq_zero_iff.1 (by rw [bZc]; have := congrArg List.length hq; rw [bZc] at this; simpa using this))
 have hblk : ∀ k, k < w.heap.size → (∀ i ps, look cb i = some ps → ps ≠ [] → k ≠ β (μ i)) → w'.heap[k]? = w.heap[k]? := fun k hk hne => g4.block k hk (by rintro ⟨i, ⟨ps, h1, h2⟩, h3⟩; exact hne i ps h1 h2 h3)
 refine ⟨v, h', γ, rfl, ⟨hi.env, g2, hi.le0.trans g1, fun b' o u e e0 => ?_, ⟨g4.os.trans hi.below.os, g4.tape.trans hi.below.tape, g4.output.trans hi.below.output, Nat.le_trans hi.below.size g4.size, fun k hk hM => ?_⟩, hi.dis, fun j hj => ?_, fun j ps hj hp => ?_, fun i j ps qs' hi' hp hj' hq e => ?_⟩, g1, go, β', g7, gb.symm⟩
 ·cases he : h b' o with
  | none => exact Nat.le_trans hi.below.size (g3 b' o u e he)
  | some u' => exact hi.fresh b' o u' he e0
 ·rw [hblk k (Nat.lt_of_lt_of_le hk hi.below.size) ?_]
  ·exact hi.below.block k hk hM
  ·rintro i ps hp hps rfl
   rcases blk i ps hp hps with h | h
   ·omega
   ·exact hM h
 ·show (if _ then _ else if _ then _ else _) = _
  rw [if_neg oM, if_neg oM]; exact hi.pin j hj
 ·rcases src j ps hj hp with ⟨rfl, rfl⟩ | ⟨r', hr', rfl, rfl⟩ | ⟨i, qs0, rfl, e2, e3, e4, e5, e6⟩ | ⟨hj2, e2⟩
  ·rw [gb]
   obtain ⟨r1, us, rs, T', r2, r3, r4⟩ := g5.box 400 _ c400 (outne hp)
   have l400 : lk 400 = true := rfl
   have r2' : w'.heap[β' 400]? = some (.cells (us.map (tr β') ++ rs).toArray T' (0, 0)) := by unfold tI at r2; rw [l400] at r2; exact r2
   obtain ⟨vs2, k1, k2, k3⟩ := PsMv.all (ρ := fun i => 200 + (i - d)) (s := cb' ++ mbx 400 200 π n m g) (t := mbx j d π n m g ++ ((cb'.map fun x => (μ x.1, x.2)) ++ bx)) (PsMv.out (f := fun i => ownP (200 + π i) 0 m m) (g := fun i => ownP (d + π i) 0 m m) (n := n) fun i hin => PMv.own (by rw [Nat.add_sub_cancel_left]) (by rw [L, if_neg (by have := hπ i hin; omega), if_pos (by have := hπ i hin; omega)]; simp) (by unfold grows; have := hπ i hin; omega) (by unfold grows; have := hπ i hin; omega)) r3 (r4 l400)
   have key : ∀ v ∈ vs2, tr (fun i => β' (200 + (i - d))) v = tr γ v ∧ lref γ (mbx j d π n m g ++ ((cb'.map fun x => (μ x.1, x.2)) ++ bx)) v := fun v hv => by
    obtain ⟨p, hp1, hp2⟩ := k2.mem v hv
    obtain ⟨i, hin, rfl⟩ := cZh hp1
    obtain ⟨cc, rfl, _, _⟩ := hp2
    have hng : ¬ grows (d + π i) := by unfold grows; have := hπ i hin; omega
    refine ⟨?_, fun r o l c e => ?_⟩
    ·rw [bZp hng, bZp hng, gd _ (hπ i hin)]
     simp only [Nat.add_sub_cancel_left]
    ·cases e
     exact ⟨(k3 _ hv _ _ _ _ rfl).1, fun h => absurd h hng⟩
   refine ⟨⟨fun _ => Nat.le_trans hi.below.size (cal 400 _ oM c400 (outne hp)), fun h => absurd h oM⟩, r1, vs2, rs, T', ?_, k2, fun hg => absurd hg uG, fun _ v hv => (key v hv).2⟩
   have e2 : tI j γ vs2 = vs2.map (tr γ) := by unfold tI; rw [hlb]; rfl
   rw [e2, ← List.map_congr_left fun v hv => (key v hv).1, ← k1]
   exact r2'
  ·rw [gd r' hr']
   obtain ⟨r1, us, rs, T', r2, r3, _⟩ := g5.box (200 + r') _ (crow r' hr') hp
   have hl1 : lk (200 + r') = false := bZL oM
   have hl2 : lk (d + r') = false := bZL oM
   rw [bZ3 hl1] at r2
   exact ⟨⟨fun _ => Nat.le_trans hi.below.size (cal _ _ oM (crow r' hr') hp), fun h => absurd h oM⟩, r1, us, rs, T', by rw [bZ3 hl2]; exact r2, r3, fun hg => absurd hg uG, bZd hl2 _ _ _⟩
  ·obtain ⟨q1, _⟩ := hi.box (μ i) qs0 e5 e4
   obtain ⟨r1, us, rs, T', r2, r3, _⟩ := g5.box i ps (chan i _ e2) hp
   have hkk := (key' i (by rw [e3]; simp)).2
   rw [bZ3 hkk.1] at r2
   rw [e6] at r1 r2
   have hng := (key i (by rw [e3]; simp)).2
   rw [go (μ i) (by rw [e5]; simp)]
   exact ⟨q1, r1, us, rs, T', by rw [bZ3 hkk.2]; exact r2, r3, fun hg => absurd hg uG, bZd hkk.2 _ _ _⟩
  ·rw [go j (by rw [hj2]; simp)]
   obtain ⟨r0, r1, us, rs, T', r2, r3, r4, r5⟩ := hi.box j ps hj2 hp
   obtain ⟨q1, q2⟩ := bZE r5 live
   refine ⟨r0, fun o => ?_, us, rs, T', ?_, r3.mono g1, fun hg => ?_, q1⟩
   ·cases he : h' (β j) o with
    | none => rfl
    | some u =>
     have := g3 _ _ _ he (r1 o)
     have := aZM r2
     omega
   ·rw [q2, hblk _ (aZM r2) ?_]
    ·exact r2
    ·intro i ps0 hp0 hps0 hh
     exact e2 i (by rw [hp0]; simp) (hi.inj _ _ _ _ (aZX hl hp0) hps0 hj2 hp hh.symm)
   ·rw [r4 hg]
    show _ = (if _ then _ else if _ then _ else _)
    have := hg.1
    rw [if_neg oM, if_neg oM]
 ·have old : ∀ j qs, ((∃ i qs0, μ i = j ∧ look cb' i = some qs ∧ look cb i = some qs0 ∧ qs0 ≠ [] ∧ look bx j = some qs0 ∧ β' i = β j) ∨ (look bx j = some qs ∧ ∀ i, look cb i ≠ none → μ i ≠ j)) → qs ≠ [] → ∃ qs', look bx j = some qs' ∧ qs' ≠ [] := fun j qs hj hq => by
   rcases hj with ⟨i, qs0, _, _, _, e4, e5, _⟩ | ⟨e1, _⟩
   ·exact ⟨qs0, e5, e4⟩
   ·exact ⟨qs, e1, hq⟩
  rcases src i ps hi' hp with ⟨ei, epi⟩ | ⟨r1, hr1, ei, epi⟩ | hi2 <;> rcases src j qs' hj' hq with ⟨ej, epj⟩ | ⟨r2, hr2, ej, epj⟩ | hj2
  ·rw [ei, ej]
  ·subst ei ej
   rw [gb, gd _ hr2] at e
   have := g5.inj 400 (200 + r2) _ _ c400 (outne (epi ▸ hp)) (crow r2 hr2) (epj ▸ hq) e
   omega
  ·subst ei
   obtain ⟨qs1, a1, a2⟩ := old j qs' hj2 hq
   rw [gb, go j (by rw [a1]; simp)] at e
   have := cal 400 _ oM c400 (outne (epi ▸ hp))
   have := hlt j _ a1 a2
   omega
  ·subst ei ej
   rw [gb, gd _ hr1] at e
   have := g5.inj (200 + r1) 400 _ _ (crow r1 hr1) (epi ▸ hp) c400 (outne (epj ▸ hq)) e
   omega
  ·subst ei ej
   rw [gd _ hr1, gd _ hr2] at e
   have := g5.inj (200 + r1) (200 + r2) _ _ (crow r1 hr1) (epi ▸ hp) (crow r2 hr2) (epj ▸ hq) e
   omega
  ·subst ei
   obtain ⟨qs1, a1, a2⟩ := old j qs' hj2 hq
   rw [gd _ hr1, go j (by rw [a1]; simp)] at e
   have := cal _ _ oM (crow r1 hr1) (epi ▸ hp)
   have := hlt j _ a1 a2
   omega
  ·subst ej
   obtain ⟨qs1, a1, a2⟩ := old i ps hi2 hp
   rw [gb, go i (by rw [a1]; simp)] at e
   have := cal 400 _ oM c400 (outne (epj ▸ hq))
   have := hlt i _ a1 a2
   omega
  ·subst ej
   obtain ⟨qs1, a1, a2⟩ := old i ps hi2 hp
   rw [gd _ hr2, go i (by rw [a1]; simp)] at e
   have := cal _ _ oM (crow r2 hr2) (epj ▸ hq)
   have := hlt i _ a1 a2
   omega
  ·obtain ⟨ps1, a1, a2⟩ := old i ps hi2 hp
   obtain ⟨qs1, b1, b2⟩ := old j qs' hj2 hq
   rw [go i (by rw [a1]; simp), go j (by rw [b1]; simp)] at e
   exact hi.inj i j _ _ a1 a2 b1 b2 e
section
variable {nn : Nat} {sl : Sl} {bx : Bx} {dst : Option Tmp} {ty : TypeId} {pos : String} {after : Array Edge} {guard : Option (Nat × Bool)}
theorem lZM {f : FuncId} {rb : List Nat} {wb : Bx} {xs : List Operand} {ats : Array TypeId} {az : List SD} {cb cb' : Bx} {n m : Nat} {π : Nat → Nat} {g : Nat → List Pd} (b d : Nat) (μ : Nat → Nat) [hb : CBody P f] (hf : FnG P En f az cb (.own 400 0 n n) (cb' ++ mbx 400 200 π n m g)) (ha : iZZ sl cb μ xs az) (hl : dZe bx μ cb) (hk : gZj μ (cb.map (·.1)) (cb'.map (·.1)) = true) (hπ : ∀ i, i < n → π i < 8) (hbd : okBD bx b d = true) (hrb : cb.map (fun x => μ x.1) = rb) (hwb : mbx b d π n m g ++ (cb'.map fun x => (μ x.1, x.2)) = wb) :
  RT P En nn ⟨dst, .call ⟨.value (.func f), xs.toArray, ats⟩, ty, pos, after, guard⟩ sl bx ⟨.own b 0 n n, rb, wb⟩ := by
 obtain ⟨b1, b2, b3, b4, b5⟩ := hZB hbd
 subst hrb hwb
 intro sl' bx' h1 h2 h3 w0 h0 c h β a w Q hi hs
 have hl' : dZe bx' μ cb := by
  have : ∀ (l : Bx), (∀ x ∈ l, look bx' (μ x.1) = look bx (μ x.1)) → dZe bx μ l → dZe bx' μ l := by
   intro l
   induction l with
   | nil => intro _ _; trivial
   | cons x l ih => intro hx hb; exact ⟨(hx x (by simp)).trans hb.1, ih (fun y hy => hx y (List.mem_cons_of_mem _ hy)) hb.2⟩
  exact this cb (fun x hx => h2 _ (List.mem_map.2 ⟨x, hx, rfl⟩)) hl
 have hkey : ∀ i, i ∈ (mbx b d π n m g).map (·.1) → look bx' i = look bx i := fun i hi' => h3 i (by rw [List.map_append]; exact List.mem_append_left _ hi')
 have hmem : ∀ j, j < 8 → d + j ∈ (mbx b d π n m g).map (·.1) := fun j hj => by
  show d + j ∈ b :: (rws d g).map (·.1)
  rw [dZS]
  exact List.mem_cons_of_mem _ (bZ4 hj)
 have hargs := eZY (cb := cb) (μ := μ) (xs := xs) (az := az) hs (fun x hx => h1 x (by simp [Op.operands, Call.operands, hx])) ha
 unfold Oper.wp
 rw [execOp_call_go]
 rw [show (#[] ++ xs.toArray.map a.eval ++ #[]) = (xs.map a.eval).toArray by simp, cZr hb.ok]
 refine Calls.mono (call_XM hi hf hargs hl' hk hπ ((hkey b (by show b ∈ b :: _; simp)).trans b4) (fun j hj => (hkey _ (hmem j hj)).trans (b5 j hj)) b1 b2 b3) ?_
 rintro e w' ⟨v, h', β', rfl, g1, g2, g3, βc, ⟨cc, g4, g5⟩, g6⟩
 refine ⟨v, h', β', rfl, ?_, g2, g3, ⟨cc, by rw [← g6]; exact g4, g5⟩, ?_⟩
 ·show Inv En w0 h0 c h' β' ((mbx b d π n m g ++ cb'.map fun x => (μ x.1, x.2)) ++ bx') w'
  rw [List.append_assoc]; exact g1
 ·show look ((mbx b d π n m g ++ _) ++ bx') b ≠ none
  rw [List.append_assoc, eZf, if_pos rfl]; simp
end
end
end
end Go.Proofs.YtfmjdlogjmofbaaGreatDoor
