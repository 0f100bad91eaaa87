/- A number added to all exponents: the mass stays; the statement Scales. (With LT.skipU.) -/
import Derived.Test.YtdieokoenhncfaaGreatDoorZa
import Derived.Test.YtdieokoenhncfaaGreatDoorLt
set_option maxRecDepth 3000
namespace Go.Proofs.YtdieokoenhncfaaGreatDoor
open Go.RowKit Limb Num
instance cbody6 : CBody Tryz.prog 6 := ⟨⟨_, Tryz.func6, rfl, by rfl⟩⟩
def shf (f : Nat → Co) (K : Int) : Nat → Co := fun i => ⟨(f i).e + K, (f i).d, (f i).s, (f i).o, (f i).y⟩
theorem shf_next (f : Nat → Co) (K : Int) : nextE (shf f K) = nextE f := by
 funext i
 exact decide_eq_decide.2 (by show (f i).e + K = (f (i - 1)).e + K + 1 ↔ (f i).e = (f (i - 1)).e + 1; omega)
theorem shf_comp (f : Nat → Co) (K : Int) (n : Nat) : comp (shf f K) n = comp f n := by
 unfold comp
 rw [shf_next]
 rfl
theorem shf_lnk (f : Nat → Co) (K : Int) (n : Nat) : lnk (shf f K) n = lnk f n := by
 funext i
 unfold lnk
 rw [shf_comp, show (shf f K i).e - (shf f K (i - 1)).e = (f i).e - (f (i - 1)).e by unfold shf; dsimp only; omega]
 rfl
theorem shf_chn (f : Nat → Co) (K : Int) (n : Nat) : chn (shf f K) n = chn f n := by unfold chn; rw [shf_lnk]
theorem shf_dsm (f : Nat → Co) (K : Int) : ∀ n, dsm2 (shf f K) n = dsm2 f n
 | 0 => rfl
 | n + 1 => by rw [dsm2, dsm2, shf_dsm f K n]; rfl
theorem shf_sh {f : Nat → Co} {K : Int} (hK : 0 ≤ K) : ∀ {n : Nat}, shU f n → (∀ i, i < n → (f i).e + K ≤ 60) → shU (shf f K) n
 | 0, _, _ => trivial
 | n + 1, h, he => by
  obtain ⟨h1, h2, h3, h4, h5⟩ := h
  refine ⟨shf_sh hK h1 fun i hi => he i (by omega), ?_, he n (by omega), h4, by rw [shf_dsm]; exact h5⟩
  have h6 := (shU_bd h1).2.2.1
  unfold lastE at h2 ⊢
  show _ < (f n).e + K
  split at h2
  ·rename_i e; rw [if_pos e]; omega
  ·rename_i e; rw [if_neg e]; show (f (n - 1)).e + K < _; omega
theorem shf_leg {f : Nat → Co} {K : Int} {i : Nat} (h1 : 0 ≤ (f i).e ∧ (f i).e ≤ 60) (h2 : 0 ≤ (f i).e + K ∧ (f i).e + K ≤ 60) (t : Int) : legP (wy (shf f K i) t) ↔ legP (wy (f i) t) := by
 unfold legP wy shf
 dsimp only
 constructor
 ·rintro ⟨_, _, h⟩; exact ⟨h1.1, h1.2, h⟩
 ·rintro ⟨_, _, h⟩; exact ⟨h2.1, h2.2, h⟩
theorem shf_fea {f : Nat → Co} {K : Int} : ∀ {l : List Nat} {s : Nat}, (∀ i ∈ l, (0 ≤ (f i).e ∧ (f i).e ≤ 60) ∧ (0 ≤ (f i).e + K ∧ (f i).e + K ≤ 60)) → (fea (shf f K) l s ↔ fea f l s)
 | [], s, _ => Iff.rfl
 | i :: l, s, h => by
  unfold fea
  exact exists_congr fun t => and_congr_right fun _ => and_congr (shf_leg (h i (by simp)).1 (h i (by simp)).2 t) (shf_fea fun j hj => h j (by simp [hj]))
theorem shf_acc {p : Int} {f : Nat → Co} {K : Int} {n : Nat} (h1 : shU f n) (h2 : shU (shf f K) n) : accP p (shf f K) n ↔ accP p f n := by
 have hb : ∀ i, i < n → (0 ≤ (f i).e ∧ (f i).e ≤ 60) ∧ (0 ≤ (f i).e + K ∧ (f i).e + K ≤ 60) := fun i hi => ⟨⟨(shU_get h1 hi).1, (shU_get h1 hi).2.1⟩, (shU_get h2 hi).1, (shU_get h2 hi).2.1⟩
 have hsg : sgU (shf f K) n ↔ sgU f n := by rw [sgU_all, sgU_all]; rfl
 have hz : ∀ m, zU (shf f K) m ↔ zU f m := by
  intro m
  induction m with
  | zero => exact Iff.rfl
  | succ m ih => unfold zU; rw [ih]; rfl
 have hlg : lgU (shf f K) n ↔ lgU f n := by
  rw [lgU_all, lgU_all]
  exact forall_congr' fun i => ⟨fun h hi => (shf_leg (hb i hi).1 (hb i hi).2 (f i).y).1 (h hi), fun h hi => (shf_leg (hb i hi).1 (hb i hi).2 (f i).y).2 (h hi)⟩
 have hfu : fuU (shf f K) n ↔ fuU f n := by rw [fuU_all, fuU_all]; rfl
 have hsm : ∀ g k, gsm (shf f K) g k = gsm f g k := by
  intro g k
  induction k with
  | zero => rfl
  | succ k ih => rw [gsm, gsm, ih]; rfl
 have hgr : grU (shf f K) (comp f n) (comp f n).length ↔ grU f (comp f n) (comp f n).length := by
  rw [grU_all (Nat.le_refl _), grU_all (Nat.le_refl _)]
  refine forall_congr' fun g => forall_congr' fun _ => ?_
  unfold gOK
  rw [gU_all, gU_all, hsm]
  rfl
 have hfe : FEs (shf f K) (comp f n) ↔ FEs f (comp f n) := by
  unfold FEs FE
  refine forall_congr' fun g => ⟨fun h hg => ?_, fun h hg => ?_⟩
  ·exact (shf_fea fun i hi => hb i (allG_lt g hg i hi)).1 (h hg)
  ·exact (shf_fea fun i hi => hb i (allG_lt g hg i hi)).2 (h hg)
 have hcf : cfB (shf f K) n = true ↔ cfB f n = true := by rw [cfB_iff, cfB_iff, shf_comp]; exact hfe
 unfold accP oddP rawP canP fusP shP ordP
 rw [hsg, hz, hlg, hfu, hcf, shf_comp, shf_chn, hgr]
 simp only [h1, h2]
 exact Iff.rfl
theorem shf_crI (f : Nat → Co) (K : Int) (j : Nat) : ∀ i, crI (shf f K) j i = crI f j i
 | 0 => rfl
 | i + 1 => by
  rw [crI, crI, shf_crI f K j i, show (shf f K j).e - (shf f K i).e = (f j).e - (f i).e by unfold shf; dsimp only; omega]
  rfl
theorem shf_cr (f : Nat → Co) (K : Int) : ∀ n, crH (shf f K) n = crH f n
 | 0 => rfl
 | n + 1 => by rw [crH, crH, shf_cr f K n, shf_crI]
theorem shf_tyS (f : Nat → Co) (K : Int) (i : Nat) : tyS (shf f K) i = tyS f i := by
 have h : (0 < i ∧ (f (i - 1)).o = true ∧ (f (i - 1)).e + K = (f i).e + K - 1) ↔ (0 < i ∧ (f (i - 1)).o = true ∧ (f (i - 1)).e = (f i).e - 1) := by
  constructor
  ·rintro ⟨a, b, c⟩; exact ⟨a, b, by omega⟩
  ·rintro ⟨a, b, c⟩; exact ⟨a, b, by omega⟩
 show (if (f i).o = false then -(f i).d else if 0 < i ∧ (f (i - 1)).o = true ∧ (f (i - 1)).e + K = (f i).e + K - 1 then (1 : Int) else 0) = _
 unfold tyS
 simp only [h]
theorem shf_ty (f : Nat → Co) (K : Int) : ∀ n, tyU (shf f K) n = tyU f n
 | 0 => rfl
 | n + 1 => by rw [tyU, tyU, shf_ty f K n, shf_tyS]
theorem shf_spC (f : Nat → Co) (K e : Int) : ∀ n, spC (shf f K) (e + K) n = ⟨(spC f e n).e + K, (spC f e n).d, (spC f e n).s, (spC f e n).o, (spC f e n).y⟩
 | 0 => rfl
 | n + 1 => by
  rw [spC, spC, shf_spC f K e n]
  by_cases h : (f n).e = e
  ·rw [if_pos h, if_pos (show (shf f K n).e = e + K by show (f n).e + K = e + K; omega)]; rfl
  ·rw [if_neg h, if_neg (show ¬ (shf f K n).e = e + K by show ¬ (f n).e + K = e + K; omega)]
theorem shf_spB (f : Nat → Co) (K e : Int) (n : Nat) : spB (shf f K) (e + K) n = spB f e n := by
 rw [Bool.eq_iff_iff, spB_iff, spB_iff]
 refine exists_congr fun i => and_congr_right fun _ => and_congr ?_ Iff.rfl
 unfold shf
 dsimp only
 omega
theorem shf_kin (p : Int) (f : Nat → Co) (K e : Int) (n : Nat) : kin p (shf f K) n (e + K) = kin p f n e := by
 unfold kin
 rw [shf_spC, shf_spB]
 rfl
theorem kin_low {p : Int} {f : Nat → Co} {n : Nat} (h0 : ∀ i, i < n → 0 ≤ (f i).e) {e : Int} (he : e ≤ -2) : (kin p f n e).1 = 0 := by
 have h1 : spC f e n = ⟨e, 0, 1, false, 0⟩ := spC_miss fun j hj => by have := h0 j hj; omega
 have h2 : spB f e n = false := by
  rw [Bool.eq_false_iff]
  intro h
  obtain ⟨i, hi, h3, _⟩ := spB_iff.1 h
  have := h0 i hi
  omega
 unfold kin
 rw [h1, h2]
 split <;> rfl
theorem mpr_zero {p : Int} {sd : Int → Nat} {ss : Int → Int} {R : Rat} : ∀ {k : Nat}, (∀ j : Nat, j < k → sd ((j : Int) - 1) = 0) → mpr p sd ss R k = R
 | 0, _ => rfl
 | k + 1, h => by
  rw [mpr, if_neg (by have := h k (by omega); omega)]
  exact mpr_zero fun j hj => h j (by omega)
theorem mpr_shift {p : Int} {sd sd' : Int → Nat} {ss ss' : Int → Int} {R : Rat} {K : Nat} (h0 : ∀ j : Nat, j < K → sd' ((j : Int) - 1) = 0) (h1 : ∀ e, sd' (e + K) = sd e ∧ ss' (e + K) = ss e) : ∀ k, mpr p sd' ss' R (K + k) = mpr p sd ss R k
 | 0 => mpr_zero h0
 | k + 1 => by
  rw [← Nat.add_assoc, mpr, mpr, mpr_shift h0 h1 k, show ((K + k : Nat) : Int) - 1 = ((k : Int) - 1) + K by omega, (h1 _).1, (h1 _).2]
theorem shf_mass {p : Int} {f : Nat → Co} {K : Int} {n : Nat} (hK : 0 ≤ K) (hn : n ≠ 0) (h1 : shU f n) (h2 : shU (shf f K) n) : maG p (shf f K) n = maG p f n := by
 unfold maG
 rw [shf_cr]
 have ha := shf_acc (p := p) h1 h2
 by_cases hacc : accP p f n
 ·rw [if_pos hacc, if_pos (ha.2 hacc)]
  have hm : mG p (shf f K) n = mG p f n := by
   unfold mG tyN
   rw [shf_cr, shf_ty]
   obtain ⟨k, rfl⟩ : ∃ k : Nat, K = (k : Int) := ⟨K.toNat, by omega⟩
   have he := (shU_get h1 (show n - 1 < n by omega)).1
   rw [show (shf f (k : Int) (n - 1)).e.toNat + 3 = k + ((f (n - 1)).e.toNat + 3) by unfold shf; dsimp only; omega]
   refine mpr_shift (fun j hj => ?_) (fun e => ⟨by rw [shf_kin], by rw [shf_kin]⟩) _
   rw [show ((j : Nat) : Int) - 1 = ((j : Int) - 1 - k) + k by omega, shf_kin, kin_low (fun i hi => (shU_get h1 hi).1) (by omega)]
   rfl
  rw [hm]
 ·rw [if_neg hacc, if_neg (fun h => hacc (ha.1 h))]
theorem like_canR (n : Nat) : ∀ (i : Nat) (g : Nat → Co), Like g (canR n i g)
 | 0, g => Like.refl g
 | i + 1, g => (like_cst n g (i + 1)).trans (like_canR n i _)
theorem like_canf (f : Nat → Co) (n : Nat) : Like f (canf f n) := (like_fzf f n).trans (like_canR n (n - 1) _)
theorem sh_like {f g : Nat → Co} {n : Nat} (h : Like f g) (hs : shU f n) : shU g n := shU_ed (fun i _ => ⟨h.e i, h.d i⟩) hs
theorem an_sh (pk : Int) (x : Nat → By) (m : Nat) : shU (anF pk x m) (scN x m) ∧ ∀ i, i < scN x m → (anF pk x m i).e ≤ 23 := by
 have H := scOdd x m
 have s1 : shU (scF x m) (scN x m) := odd_sh H (Nat.le_refl _)
 have s2 : shU (scT x m) (scN x m) := (scRaw x m).1.2.2
 have hup : ∀ i, i < scN x m → (scF x m i).e ≤ 23 := fun i hi => by
  have h1 := sc_last x m
  rcases Nat.lt_or_ge i (scN x m - 1) with h | h
  ·have := H.up i (scN x m - 1) h (by omega); omega
  ·rw [show i = scN x m - 1 by omega]; exact h1
 have hT : ∀ i, (scT x m i).e = (scF x m i).e := fun i => (scT_ed x m i).1
 unfold anF
 split
 ·exact ⟨s1, hup⟩
 ·split
  ·exact ⟨s2, fun i hi => by rw [hT]; exact hup i hi⟩
  ·split
   ·exact ⟨sh_like (like_fzf _ _) s2, fun i hi => by rw [(like_fzf _ _).e, hT]; exact hup i hi⟩
   ·exact ⟨sh_like (like_canf _ _) s2, fun i hi => by rw [(like_canf _ _).e, hT]; exact hup i hi⟩
set_option maxHeartbeats 2000000 in
theorem lscales (pk : Int) (x : Nat → By) (m : Nat) (k : Int) (k1 : 0 ≤ pk) (k2 : pk ≤ 255) (q1 : 0 ≤ k) (q2 : k ≤ 255) : Fn Tryz.prog TabD 6 [aggP [ex (.int .u8 pk), slc 5 (rows (bys x) m) m], ex (.int .u8 k)] (ex (.bool true)) := by
 by_cases hm : m ≤ 20
 ·have hm' : ¬ (m : Int) > 20 := by omega
  have C0 := sany TabD pk x m hm k1 k2
  obtain ⟨a1, a2⟩ := an_sh pk x m
  have hn1 := (scOdd x m).n1
  have hn8 := (scOdd x m).n8
  have hK : 0 ≤ k % 30 ∧ k % 30 < 30 := by omega
  have a3 : shU (shf (anF pk x m) (k % 30)) (scN x m) := shf_sh hK.1 a1 fun i hi => by have := a2 i hi; omega
  have hmass := shf_mass (p := anP pk) hK.1 (by omega) a1 a3
  have C1 := tMass (anP pk) (anF pk x m) (scN x m) (by omega)
  have C2 := tMass (anP pk) (shf (anF pk x m) (k % 30)) (scN x m) (by omega)
  rw [hmass] at C2
  obtain ⟨c0, c1, c2, c3, c4, er, e, CH⟩ := ma_form TabD (anP pk) (anF pk x m) (scN x m)
  rw [e] at C1 C2
  have hlo : ∀ i, i < scN x m → 0 ≤ (anF pk x m i).e := fun i hi => (shU_get a1 hi).1
  clear e hmass a1 a3
  have wk : IntKind.i64.wrap k = k := w64 (by omega) (by omega)
  have wr : k.tmod 30 = k % 30 := Int.tmod_eq_emod_of_nonneg q1
  generalize hg : shf (anF pk x m) (k % 30) = g at *
  have hgk : ∀ i, g i = ⟨(anF pk x m i).e + k % 30, (anF pk x m i).d, (anF pk x m i).s, (anF pk x m i).o, (anF pk x m i).y⟩ := fun i => by rw [← hg]; rfl
  clear hg
  generalize anF pk x m = f at *
  generalize scN x m = n at *
  generalize anP pk = p at *
  generalize k % 30 = K at *
  have hn0 : 0 < n := by omega
  unfold locP at *
  refine fn_of_body Tryz.func6 rfl Tryz.ntmps6 rfl ?_
  intro w0 h0
  refine js (jr (jB jj jj jj (ja jj (jn (js (js (jr (jF jj jj (jl jj jj jj (jE jj (jS (bGf jj jj) (jn (jf jj (jp (js (jr (jL jj jj jj (jS (ru_call C0 ⟨jj, jj, trivial⟩) (jA jj jj jj (jP jj jj jj jj (jn (js (jr (jF jj jj (jl jj jj jj (jS (ru_build (ps := [(_, _)]) ⟨jj, Part.c jj, trivial⟩ jj) (jA jj jj jj (jP jj jj jj jj (jn (js (js (jr (jF jj jj (jl jj jj jj (jE jj (jm jj (jn (jb ?_))))))))))))))))))))))))))))))))))))))
  refine WpD.sub (τ := ⟨[(1, .one (ex (.int .u8 k))), (5, .ptr 5 0), (6, .ptr 6 0), (24, .one (slc 5 (rows (ccs f) n) n)), (25, .one (ex (.int .i64 (n : Int)))), (26, .one (ex (.int .i64 ((0 : Nat) : Int))))], [(5, [ex (.int .i64 p), slc 5 (rows (ccs f) n) n]), (6, [ex (.int .i64 p), ex (.slice none 0 0)]), (541, []), (791, [])]⟩) ?_ ?_
  ·refine Sub.mk ?_ ?_ <;> repeat (first | exact trivial | refine jv jj ?_ | refine jy jj ?_ | refine jw jj (js0 jj) ?_ | refine jz ?_ | refine jw jj ⟨js0 jj, js0 jj⟩ ?_ | refine jx jj ⟨js0 jj, js0 jj⟩ ?_ | refine ⟨⟨_, jj, PLe.refl _⟩, trivial, ?_⟩)
  refine WpD.pin (t := 17) (b := 791) rfl (Option.some_ne_none _) fun xx0 => ?_
  refine WpD.pin (t := 16) (b := 541) rfl (Option.some_ne_none _) fun blk0 => ?_
  refine WpD.loop (α := {q : Nat × Nat × Nat × Nat // q.1 ≤ n ∧ (0 < q.1 → q.1 ≤ q.2.2.1 ∧ q.2.2.1 ≤ maxLen ∧ q.2.2.2 = q.2.2.1 * 5)}) (fun q => ⟨[(1, .one (ex (.int .u8 k))), (5, .ptr 5 0), (6, .ptr 6 0), (24, .one (slc 5 (rows (ccs f) n) n)), (25, .one (ex (.int .i64 (n : Int)))), (26, .one (ex (.int .i64 (q.1.1 : Int)))), (16, .pin 541 q.1.2.1), (17, .pin 791 q.1.2.2.2)], [(5, [ex (.int .i64 p), slc 5 (rows (ccs f) n) n]), (6, [ex (.int .i64 p), ex (gvl q.1.2.1 q.1.1 q.1.2.2.1)]), (541, rows (ccs g) q.1.1), (791, [])]⟩) (fun q => n - q.1.1) ⟨(0, blk0, 0, xx0), Nat.zero_le _, fun h => absurd h (Nat.lt_irrefl 0)⟩ ?_ ?_
  ·dsimp only
   refine Sub.mk ?_ ?_ <;> repeat (first | exact trivial | refine jv jj ?_ | refine jy jj ?_ | refine jw jj (js0 jj) ?_ | refine jz ?_ | refine jw jj ⟨js0 jj, js0 jj⟩ ?_ | refine jx jj ⟨js0 jj, js0 jj⟩ ?_ | refine ⟨⟨_, jj, PLe.refl _⟩, trivial, ?_⟩)
  rintro ⟨⟨i, blk, cap, xx⟩, hi, hcap⟩
  dsimp only at hi hcap ⊢
  have hlen : (rows (ccs g) i).length = i * 5 := rows_len (ccs_len g) i
  by_cases hlt : i < n
  ·have hq : ((rows (ccs f) n).drop (i * 5)).take 5 = coc (f i) := rows_get (ccs_len f) hlt
   have b1 := hlo i hlt
   have b2 := a2 i hlt
   have we : IntKind.i64.wrap ((f i).e + K) = (f i).e + K := w64 (by omega) (by omega)
   have w8 := wS i (by omega)
   have hr : rows (ccs g) i ++ coc (g i) = rows (ccs g) (i + 1) := (rows_succ (ccs g) i).symm
   rw [hgk i, show coc ⟨(f i).e + K, (f i).d, (f i).s, (f i).o, (f i).y⟩ = [ex (.int .i64 ((f i).e + K)), ex (.int .i64 (f i).d), ex (.int .i64 (f i).s), ex (.bool (f i).o), ex (.int .i64 (f i).y)] from rfl] at hr
   refine js (jr (jS (bLt jj jj) (jn (js (jt jj (jp (js (jb (js (jr (jS (rc_indexS jj jj hlt hq) (jS (rc_loadR jj jj jj) (jA jj jj jj (jP jj jj jj jj (jn (js (jr (jF jj jj (jl jj jj jj (jm jj (jS (bCv jj wk) (jS (bRe jj jj wr) (jS (bAd jj jj we) (jF jj jj (jO (ru_store1 jj jj jj jj jj) (jn ?_))))))))))))))))))))))))))
   repeat (first | refine js ?_ | refine jb ?_)
   refine WpD.seqR ?_
   refine WpS.S rfl rfl (ru_fieldAddr rfl rfl) rfl ?_
   refine WpS.S rfl rfl (ru_load1 rfl rfl rfl) rfl ?_
   refine WpS.S rfl rfl (ru_loadR rfl rfl rfl rfl) rfl ?_
   refine WpS.S rfl rfl (rc_buildR (ps := [(_, _)]) ⟨rfl, Part.c rfl, trivial⟩ rfl rfl rfl) rfl ?_
   refine WpS.sub (Sub.toApp (t := 38) (p := 16) (q := 17) (b := 541) (k := 5) (blk := blk) (len := i) (cap := cap) (x := xx) rfl rfl rfl hcap) ?_
   refine WpS.S rfl rfl (ru_appendA 542 rfl rfl hlen rfl (by omega) (by omega) rfl rfl rfl rfl rfl hr) rfl ?_
   refine WpS.sub (τ := ⟨[(1, .one (ex (.int .u8 k))), (5, .ptr 5 0), (6, .ptr 6 0), (24, .one (slc 5 (rows (ccs f) n) n)), (25, .one (ex (.int .i64 (n : Int)))), (26, .one (ex (.int .i64 (i : Int)))), (41, .app 541 5 (i + 1))], [(5, [ex (.int .i64 p), slc 5 (rows (ccs f) n) n]), (6, [ex (.int .i64 p), ex (gvl blk i cap)]), (541, rows (ccs g) (i + 1)), (791, [])]⟩) (Sub.ren 541 542 rfl ?_ ?_ rfl) ?_
   ·repeat (first | exact trivial | refine ⟨.inl ⟨⟨_, rfl, PLe.refl _⟩, trivial, trivial⟩, ?_⟩ | refine ⟨.inr ⟨_, _, rfl, .inl rfl, ⟨Option.some_ne_none _, Option.some_ne_none _⟩⟩, ?_⟩ | refine ⟨.inl ⟨⟨_, rfl, rfl⟩, Option.some_ne_none _, ⟨(by decide), (by decide)⟩⟩, ?_⟩)
   ·repeat (first | exact trivial | refine ⟨.inr ⟨(by decide), .inr rfl⟩, ?_⟩ | refine ⟨.inl ⟨rfl, _, rfl, PsLe.refl _⟩, ?_⟩ | refine ⟨.inr ⟨(by decide), .inl ⟨(by decide), _, rfl, PsLe.refl _⟩⟩, ?_⟩)
   refine WpS.fromApp (t := 41) (p := 16) (q := 17) rfl rfl rfl (by omega) fun blk' cap' xx' hc' => ?_
   refine WpS.S rfl rfl (ru_fieldAddr rfl rfl) rfl ?_
   refine WpS.N rfl (ru_store1 rfl rfl rfl rfl rfl) rfl ?_
   refine WpS.nil ?_
   repeat (first | refine js ?_ | refine jb ?_)
   refine jr (jS (bAd jj jj w8) (jm jj (jn ?_)))
   refine ⟨⟨(i + 1, blk', cap', xx'), by dsimp only; omega, fun _ => hc'⟩, ?_, by dsimp only; omega⟩
   dsimp only
   refine Sub.mk ?_ ?_ <;> repeat (first | exact trivial | refine jv jj ?_ | refine jy jj ?_ | refine jw jj (js0 jj) ?_ | refine jz ?_ | refine jw jj ⟨js0 jj, js0 jj⟩ ?_ | refine jx jj ⟨js0 jj, js0 jj⟩ ?_ | refine ⟨⟨_, jj, PLe.refl _⟩, trivial, ?_⟩)
  ·have hin : i = n := by omega
   subst hin
   obtain ⟨d1, d2, d3⟩ := hcap hn0
   refine js (jr (jS (bLf jj jj) (jn (js (jf jj (je ?_))))))
   refine WpD.sub (τ := ⟨[(5, .ptr 5 0), (6, .ptr 6 0)], [(6, [ex (.int .i64 p), slc 5 (rows (ccs g) i) i]), (5, [ex (.int .i64 p), slc 5 (rows (ccs f) i) i])]⟩) ?_ ?_
   ·exact Sub.trans (Sub.pubCell (bx0 := [(6, [ex (.int .i64 p), ex (gvl blk i cap)]), (5, [ex (.int .i64 p), slc 5 (rows (ccs f) i) i])]) (sl := [(5, .ptr 5 0), (6, .ptr 6 0)]) (b := 541) (d := 6) (p := 16) (k := 5) rfl rfl hlen rfl rfl hn0 d1 d2 ⟨.inl ⟨_, rfl, PsLe.refl _⟩, .inl ⟨_, rfl, PsLe.refl _⟩, trivial⟩ rfl ⟨⟨_, rfl, rfl⟩, Option.some_ne_none _, ⟨_, rfl, rfl⟩, Option.some_ne_none _, trivial⟩) (Sub.mk (by repeat (first | exact trivial | refine jv rfl ?_ | refine jw rfl (js0 rfl) ?_)) (by repeat (first | exact trivial | refine jz ?_ | refine jy rfl ?_)))
   repeat (first | refine js ?_ | refine jb ?_)
   refine jr (jL jj jj jj (jS (ru_call C1 ⟨jj, trivial⟩) (jm jj (jx' jj jj (jx' jj jj (jA jj jj jj (jP jj jj jj jj (ja jj (jn (js (jr (jL jj jj jj (jS (ru_call C2 ⟨jj, trivial⟩) (jm jj (jx' jj jj (jx' jj jj (jA jj jj jj (jP jj jj jj jj (ja jj (jn (js (jr (jm jj (jm jj (jS (bEt jj jj) (jm jj (jg (ru_loadR jj jj jj jj) (jg (ru_loadR jj jj jj jj) (jg (ru_call CH ⟨jj, jj, trivial⟩) (jq jj jj (jm jj (jg (ru_call awake32 trivial) (jq jj jj (ja jj (jn (ji ?_))))))))))))))))))))))))))))))))))))
   exact ret1 rfl (.tmp rfl) (PLe.refl _)
 ·have hm' : (m : Int) > 20 := by omega
  refine fn_of_body Tryz.func6 rfl Tryz.ntmps6 rfl ?_
  intro w0 h0
  refine js (jr (jB jj jj jj (ja jj (jn (js (js (jr (jF jj jj (jl jj jj jj (jE jj (jS (bGt jj jj) (jn (jt jj (js (jr (jS (ru_call awake32 trivial) (ja jj (jn (ji ?_)))))))))))))))))))
  exact ret1 rfl (.tmp rfl) (PLe.refl _)
end Go.Proofs.YtdieokoenhncfaaGreatDoor
