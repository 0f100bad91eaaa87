/- The reference's divide, in full. -/
import Derived.Test.YtpiflllcjgpkhaaGreatDoorZa
import Derived.Test.YtpiflllcjgpkhaaGreatDoorO
import Derived.Test.YtpiflllcjgpkhaaGreatDoorIa
import Derived.Test.YtpiflllcjgpkhaaGreatDoorL
set_option maxRecDepth 3000
namespace Go.Proofs.YtpiflllcjgpkhaaGreatDoor
open Go.RowKit Limb
instance cbody142 : CBody Tryz.prog 142 := ⟨⟨_, Tryz.func142, rfl, by rfl⟩⟩
instance cbody128 : CBody Tryz.prog 128 := ⟨⟨_, Tryz.func128, rfl, by rfl⟩⟩
instance cbody110 : CBody Tryz.prog 110 := ⟨⟨_, Tryz.func110, rfl, by rfl⟩⟩
instance cbody83 : CBody Tryz.prog 83 := ⟨⟨_, Tryz.func83, rfl, by rfl⟩⟩
instance cbody123 : CBody Tryz.prog 123 := ⟨⟨_, Tryz.func123, rfl, by rfl⟩⟩
instance cbody122 : CBody Tryz.prog 122 := ⟨⟨_, Tryz.func122, rfl, by rfl⟩⟩
instance cbody48 : CBody Tryz.prog 48 := ⟨⟨_, Tryz.func48, rfl, by rfl⟩⟩
instance cbody146 : CBody Tryz.prog 146 := ⟨⟨_, Tryz.func146, rfl, by rfl⟩⟩
instance cbody147 : CBody Tryz.prog 147 := ⟨⟨_, Tryz.func147, rfl, by rfl⟩⟩
instance cbody157 : CBody Tryz.prog 157 := ⟨⟨_, Tryz.func157, rfl, by rfl⟩⟩
instance cbody156 : CBody Tryz.prog 156 := ⟨⟨_, Tryz.func156, rfl, by rfl⟩⟩
instance cbody126 : CBody Tryz.prog 126 := ⟨⟨_, Tryz.func126, rfl, by rfl⟩⟩
instance cbody154 : CBody Tryz.prog 154 := ⟨⟨_, Tryz.func154, rfl, by rfl⟩⟩
instance cbody23 : CBody Tryz.prog 23 := ⟨⟨_, Tryz.func23, rfl, by rfl⟩⟩
instance cbody153 : CBody Tryz.prog 153 := ⟨⟨_, Tryz.func153, rfl, by rfl⟩⟩
instance cbody145 : CBody Tryz.prog 145 := ⟨⟨_, Tryz.func145, rfl, by rfl⟩⟩
instance cbody144 : CBody Tryz.prog 144 := ⟨⟨_, Tryz.func144, rfl, by rfl⟩⟩
instance cbody125 : CBody Tryz.prog 125 := ⟨⟨_, Tryz.func125, rfl, by rfl⟩⟩
instance cbody109 : CBody Tryz.prog 109 := ⟨⟨_, Tryz.func109, rfl, by rfl⟩⟩
theorem and_one32 (a : Nat) : IntKind.u32.wrap ((BitVec.ofInt IntKind.u32.bits (a : Int) &&& BitVec.ofInt IntKind.u32.bits 1).toNat : Int) = ((a % 2 : Nat) : Int) := by
  have h1 : (BitVec.ofInt 32 (a : Int) &&& BitVec.ofInt 32 1).toNat = a % 2 := by
    rw [BitVec.toNat_and, BitVec.ofInt_natCast, BitVec.toNat_ofNat, show (BitVec.ofInt 32 1).toNat = 1 by decide, Nat.and_one_is_mod]
    omega
  show IntKind.u32.wrap (((BitVec.ofInt 32 (a : Int) &&& BitVec.ofInt 32 1).toNat : Nat) : Int) = _
  rw [h1, IntKind.wrap_u32]; omega
theorem or_bit32 {a c e : Nat} (ha : a = 2 ^ (e + 1) * c) (hlt : a + 2 ^ e < B) : IntKind.u32.wrap ((BitVec.ofInt IntKind.u32.bits (a : Int) ||| BitVec.ofInt IntKind.u32.bits ((2 ^ e : Nat) : Int)).toNat : Int) = ((a + 2 ^ e : Nat) : Int) := by
  rw [B_two] at hlt
  have hB : (2 : Nat) ^ 32 = 4294967296 := by decide
  have hp := Nat.two_pow_pos e
  have h1 : (BitVec.ofInt 32 (a : Int)).toNat = a := by rw [BitVec.ofInt_natCast, BitVec.toNat_ofNat]; exact Nat.mod_eq_of_lt (by omega)
  have h2 : (BitVec.ofInt 32 ((2 ^ e : Nat) : Int)).toNat = 2 ^ e := by rw [BitVec.ofInt_natCast, BitVec.toNat_ofNat]; exact Nat.mod_eq_of_lt (by omega)
  have h3 : a ||| 2 ^ e = a + 2 ^ e := by rw [ha, ← Nat.two_pow_add_eq_or_of_lt (Nat.pow_lt_pow_right (by decide) (Nat.lt_succ_self e))]
  show IntKind.u32.wrap (((BitVec.ofInt 32 (a : Int) ||| BitVec.ofInt 32 ((2 ^ e : Nat) : Int)).toNat : Nat) : Int) = _
  rw [BitVec.toNat_or, h1, h2, h3, IntKind.wrap_u32]
  omega
theorem dbl_len {r b k : Nat} (hb : b ≤ 1) (h : (digs r).length ≤ k) : (digs (2 * r + b)).length ≤ k + 1 := by
  refine digs_length_le ?_
  have a1 := lt_of_digs r
  have a2 : B ^ (digs r).length ≤ B ^ k := Nat.pow_le_pow_right B_pos h
  rw [Nat.pow_succ, B_def] at *
  generalize 4294967296 ^ k = Z at *
  omega
section
variable (En : Ev)
theorem ftrimRaw (x k : Nat) (hk : k ≤ 1099511627776) : Fn Tryz.prog En 142 [rawM x k] (mag (digs x)) := by
  intro h w vs he hh ha
  obtain ⟨v, rfl, l, h1, h2, h3⟩ := ha.one
  subst h1
  exact ftrim En l (by omega) h w [v] he hh ⟨h3, trivial⟩
theorem fdouble (l : List Nat) (c0 : Nat) (hl : l.length ≤ 1099511627776) (hc : c0 ≤ 1) : Fn Tryz.prog En 157 [mag l, ex (.int .u32 (c0 : Int))] (rawM (2 * val l + c0) (l.length + 1)) := by
  intro h w vs _ hh ha
  obtain ⟨v, u, rfl, hv, hu⟩ := ha.two
  have hu : u = .int .u32 (c0 : Int) := hu
  subst hu
  exact (zdouble_any v l c0 w (mag_mg hh hv) hl hc).mono fun _ _ hp => rawpost_fn hh hp
theorem fcmp (l l' : List Nat) (hl : l.length ≤ 1099511627776) (hl' : l'.length ≤ 1099511627776) : Fn Tryz.prog En 48 [mag l, mag l'] (ex (.int .i64 (cmpL l l'))) := by
  intro h w vs _ hh ha
  obtain ⟨v, u, rfl, hv, hu⟩ := ha.two
  exact (zcmp_any v u l l' w (mag_mg hh hv) (mag_mg hh hu) hl hl').mono fun _ _ ⟨he, hb⟩ => ex_fn hh he hb
theorem fdif (l l' : List Nat) (hl : l.length ≤ 1099511627776) (hl' : l'.length ≤ l.length) (hle : val l' ≤ val l) : Fn Tryz.prog En 147 [mag l, mag l'] (rawM (val l - val l') l.length) := by
  intro h w vs _ hh ha
  obtain ⟨v, u, rfl, hv, hu⟩ := ha.two
  exact (zdif_any v u l l' w (mag_mg hh hv) (mag_mg hh hu) hl hl' hle).mono fun _ _ hp => rawpost_fn hh hp
theorem flow (l : List Nat) (hl : l.length ≤ 2) : Fn Tryz.prog En 156 [mag l] (ex (.int .u64 ((val l : Nat) : Int))) := by
  intro h w vs _ hh ha
  obtain ⟨v, rfl, hv⟩ := ha.one
  refine (zlow_any v l w (mag_mg hh hv) hl).mono ?_
  rintro e w' ⟨rfl, rfl⟩
  exact fn_post hh (Below.refl _ _) rfl
theorem cmp_geD {t y : Nat} : decide (cmpL (digs t) (digs y) ≥ 0) = decide (y ≤ t) := by
  rw [cmpL_digs]
  by_cases h : t < y
  · rw [if_pos h, decide_eq_false (by omega), decide_eq_false (by omega)]
  · rw [if_neg h, decide_eq_true (p := y ≤ t) (by omega)]
    split <;> rfl
set_option maxHeartbeats 2000000 in
theorem fdivLong (x y : Nat) (hx : (digs x).length ≤ 536870912) (hyl : (digs y).length ≤ 536870912) (hy : y ≠ 0) (hbig : ¬ ((digs x).length ≤ 2 ∧ (digs y).length ≤ 2)) : Fn Tryz.prog En 153 [mag (digs x), mag (digs y)] (DivP x y) := by
  unfold DivP
  have hxlt := lt_of_digs x
  have ht1 := ftrim En (pd (x / y) (digs x).length) (by rw [pd_length]; omega)
  rw [pd_val _ _ (Nat.lt_of_le_of_lt (Nat.div_le_self _ _) hxlt)] at ht1
  have hpub := pd_pub (x / y) (digs x).length (digs x).length (Nat.le_refl _)
  have hgx : ∀ j, j < (digs x).length → (digs x)[j]? = some (x / B ^ j % B) := fun j hj => digs_get hj
  have hrl : ∀ r, r < y → (digs r).length ≤ 536870912 := fun r hr => Nat.le_trans (digs_mono (by omega)) hyl
  have e36 : IntKind.i64.wrap (32 * ((digs x).length : Int)) = 32 * ((digs x).length : Int) := w64 (by omega) (by omega)
  have e37 : IntKind.i64.wrap (32 * ((digs x).length : Int) - 1) = ((32 * (digs x).length : Nat) : Int) - 1 := by rw [w64 (by omega) (by omega)]; omega
  refine fn_of_body Tryz.func153 rfl Tryz.ntmps153 rfl ?_
  intro w0 h0
  repeat (first | refine js ?_ | refine jb ?_)
  refine jr ?_
  refine ja rfl ?_
  refine ja rfl ?_
  refine RG.nil (by kernel_rfl) ?_
  refine WpD.cut (α := Unit) (fun _ => ⟨[(0, .one (mag (digs x))), (1, .one (mag (digs y))), (4, .one (ex (.slice none 0 0))), (5, .one (ex (.slice none 0 0)))], []⟩) ?_ ?_
  · by_cases h2 : (digs x).length ≤ 2
    · have b1 : decide (((digs x).length : Int) ≤ 2) = true := decide_eq_true (by omega)
      have b2 : decide (((digs y).length : Int) ≤ 2) = false := decide_eq_false (by omega)
      repeat (first | refine js ?_ | refine jb ?_)
      refine jr ?_
      refine jm rfl ?_
      refine jS (ru_len rfl CSlice.ok) ?_
      refine jS (rt_bin_to rfl rfl (fun w => run_lei w _ _ _ _ _ _) (vbool b1)) ?_
      refine jm rfl ?_
      first | refine RG.S0 (LT.run rfl rfl rfl (rt_move rfl)) ?_ | refine RG.S0 (LT.skip rfl rfl rfl) ?_
      first | refine RG.S0 (LT.run rfl rfl rfl (ru_len rfl CSlice.ok)) ?_ | refine RG.S0 (LT.skip rfl rfl rfl) ?_
      first | refine RG.S0 (LT.run rfl rfl rfl (rt_bin_to rfl rfl (fun w => run_lei w _ _ _ _ _ _) (vbool b2))) ?_ | refine RG.S0 (LT.skip rfl rfl rfl) ?_
      first | refine jS (rt_pick_true rfl rfl) ?_ | refine jS (rt_pick_false rfl rfl) ?_
      refine RG.nil (by kernel_rfl) ?_
      repeat (first | refine js ?_ | refine jb ?_)
      refine WpD.condF rfl ?_
      repeat (first | refine js ?_ | refine jb ?_)
      refine WpD.skip ?_
      refine ⟨(), ?_⟩
      refine Sub.mk ?_ ?_
      · repeat (first | exact trivial | refine jv rfl ?_ | refine jw rfl (js0 rfl) ?_ | refine jw rfl ⟨js0 rfl, js0 rfl⟩ ?_ | refine jx rfl ⟨js0 rfl, js0 rfl⟩ ?_ | refine jw rfl (clo_live (js0 rfl) (js0 rfl)) ?_ | refine ⟨⟨_, rfl, PLe.refl _⟩, trivial, ?_⟩)
      · repeat (first | exact trivial | refine jz ?_ | refine jy rfl ?_)
    · have b1 : decide (((digs x).length : Int) ≤ 2) = false := decide_eq_false (by omega)
      repeat (first | refine js ?_ | refine jb ?_)
      refine jr ?_
      refine jm rfl ?_
      refine jS (ru_len rfl CSlice.ok) ?_
      refine jS (rt_bin_to rfl rfl (fun w => run_lei w _ _ _ _ _ _) (vbool b1)) ?_
      refine jm rfl ?_
      first | refine RG.S0 (LT.run rfl rfl rfl (rt_move rfl)) ?_ | refine RG.S0 (LT.skip rfl rfl rfl) ?_
      first | refine RG.S0 (LT.run rfl rfl rfl (ru_len rfl CSlice.ok)) ?_ | refine RG.S0 (LT.skip rfl rfl rfl) ?_
      first | refine RG.S0 (LT.run rfl rfl rfl (rt_bin rfl rfl (fun w => run_lei w _ _ _ _ _ _))) ?_ | refine RG.S0 (LT.skip rfl rfl rfl) ?_
      first | refine jS (rt_pick_true rfl rfl) ?_ | refine jS (rt_pick_false rfl rfl) ?_
      refine RG.nil (by kernel_rfl) ?_
      repeat (first | refine js ?_ | refine jb ?_)
      refine WpD.condF rfl ?_
      repeat (first | refine js ?_ | refine jb ?_)
      refine WpD.skip ?_
      refine ⟨(), ?_⟩
      refine Sub.mk ?_ ?_
      · repeat (first | exact trivial | refine jv rfl ?_ | refine jw rfl (js0 rfl) ?_ | refine jw rfl ⟨js0 rfl, js0 rfl⟩ ?_ | refine jx rfl ⟨js0 rfl, js0 rfl⟩ ?_ | refine jw rfl (clo_live (js0 rfl) (js0 rfl)) ?_ | refine ⟨⟨_, rfl, PLe.refl _⟩, trivial, ?_⟩)
      · repeat (first | exact trivial | refine jz ?_ | refine jy rfl ?_)
  rintro ⟨⟩
  repeat (first | refine js ?_ | refine jb ?_)
  refine jr ?_
  refine jm rfl ?_
  refine jS (ru_len rfl CSlice.ok) ?_
  refine jT (ru_make rfl rfl rfl rfl (by omega) (by omega)) ?_
  refine ja rfl ?_
  refine RG.nil (by kernel_rfl) ?_
  repeat (first | refine js ?_ | refine jb ?_)
  refine jr ?_
  refine jm rfl ?_
  refine jS (ru_len rfl CSlice.ok) ?_
  refine jS (rt_bin_to rfl rfl (fun w => run_muli w _ _ _ _ _ _) (vint e36)) ?_
  refine jS (rt_bin_to rfl rfl (fun w => run_subi w _ _ _ _ _ _) (vint e37)) ?_
  refine ja rfl ?_
  refine RG.nil (by kernel_rfl) ?_
  repeat (first | refine js ?_ | refine jb ?_)
  refine WpD.loop (α := {i : Nat // i ≤ 32 * (digs x).length}) (fun i => ⟨[(0, .one (mag (digs x))), (1, .one (mag (digs y))), (4, .own 33 0 (digs x).length (digs x).length), (5, .one (mag (digs (x / 2 ^ i.1 % y)))), (8, .one (ex (.int .i64 ((i.1 : Int) - 1))))], [(33, (pd (QV x y i.1) (digs x).length).map lb)]⟩) (fun i => i.1) ⟨32 * (digs x).length, Nat.le_refl _⟩ ?_ ?_
  · have hx0 : x / 2 ^ (32 * (digs x).length) = 0 := Nat.div_eq_of_lt (by rw [Nat.pow_mul]; exact hxlt)
    have hz : List.replicate (digs x).length (ex (.int .u32 0)) = (pd (QV x y (32 * (digs x).length)) (digs x).length).map lb := by
      rw [zerosL]
      unfold QV
      rw [hx0, Nat.zero_div, Nat.zero_mul]
      congr 1
      refine pd_eq ?_ ?_ (by simp)
      · intro z hz; rw [(List.mem_replicate.1 hz).2]; exact B_pos
      · exact val_zero_of fun z hz => (List.mem_replicate.1 hz).2
    dsimp only
    rw [hx0, Nat.zero_mod, digs_zero]
    refine Sub.mk ?_ ⟨.inl ⟨_, rfl, PsLe.of_eq hz⟩, trivial⟩
    repeat (first | exact trivial | refine ⟨⟨_, rfl, rfl⟩, Option.some_ne_none _, ?_⟩ | refine ⟨⟨_, rfl, rfl⟩, Option.some_ne_none _, ?_⟩ | refine ⟨⟨_, rfl, PLe.refl _⟩, trivial, ?_⟩ | refine ⟨⟨_, rfl, mag_nil⟩, trivial, ?_⟩)
  rintro ⟨i, hi⟩
  dsimp only
  cases i with
  | zero =>
    have b4 : decide ((((0 : Nat) : Int) - 1) ≥ 0) = false := by decide
    rw [QV_zero, Nat.pow_zero, Nat.div_one]
    repeat (first | refine js ?_ | refine jb ?_)
    refine jr ?_
    refine jm rfl ?_
    refine jS (rt_bin_to rfl rfl (fun w => run_gei w _ _ _ _ _ _) (vbool b4)) ?_
    refine RG.nil (by kernel_rfl) ?_
    repeat (first | refine js ?_ | refine jb ?_)
    refine WpD.condF rfl ?_
    repeat (first | refine js ?_ | refine jb ?_)
    refine WpD.exit ?_
    refine WpD.sub (τ := ⟨[(4, .one (mag (pd (x / y) (digs x).length))), (5, .one (mag (digs (x % y))))], []⟩) ?_ ?_
    ·
      refine Sub.pub 33 rfl rfl ?_ ?_ rfl
      · repeat (first | exact trivial | refine ⟨.inl ⟨⟨_, rfl, PLe.refl _⟩, trivial⟩, ?_⟩ | refine ⟨.inl ⟨⟨_, rfl, rfl⟩, Option.some_ne_none _⟩, ?_⟩ | refine ⟨.inl ⟨⟨_, rfl, rfl⟩, ⟨Option.some_ne_none _, Option.some_ne_none _⟩⟩, ?_⟩ | refine ⟨.inr (.inl ⟨_, _, _, _, rfl, rfl, hpub⟩), ?_⟩ | refine ⟨.inr (.inr (.inl ⟨_, _, _, rfl, rfl, hpub⟩)), ?_⟩)
      · repeat (first | exact trivial | refine jz ?_ | refine jy rfl ?_)
    repeat (first | refine js ?_ | refine jb ?_)
    refine jr ?_
    refine jm rfl ?_
    refine jS (ru_call ht1 ⟨rfl, trivial⟩) ?_
    refine jm rfl ?_
    refine ja rfl ?_
    refine ja rfl ?_
    refine RG.nil (by kernel_rfl) ?_
    repeat (first | refine js ?_ | refine jb ?_)
    refine WpD.ret ?_
    exact ret2 rfl (.tmp rfl) (.tmp rfl) (PLe.refl _)
  | succ i =>
    have hj : i / 32 < (digs x).length := by omega
    have b4 : decide ((i : Int) ≥ 0) = true := decide_eq_true (by omega)
    have eq : IntKind.i64.wrap ((i : Int).tdiv 32) = ((i / 32 : Nat) : Int) := by rw [Int.tdiv_eq_ediv_of_nonneg (by omega), w64 (by omega) (by omega)]; omega
    have er : (i : Int).tmod 32 = ((i % 32 : Nat) : Int) := by rw [Int.tmod_eq_emod_of_nonneg (by omega)]; omega
    have hg := hgx _ hj
    have hm32 : i % 32 < 32 := Nat.mod_lt _ (by decide)
    have e8 := shrN (x / B ^ (i / 32) % B) (i % 32) (by omega)
    have e9 := and_one32 (x / B ^ (i / 32) % B / 2 ^ (i % 32))
    rw [limb_bit] at e9
    have h2 : x / 2 ^ i % 2 ≤ 1 := by omega
    have e41 : IntKind.i64.wrap ((i : Int) - 1) = (i : Int) - 1 := w64 (by omega) (by omega)
    have hry := Nat.mod_lt (x / 2 ^ (i + 1)) (Nat.pos_of_ne_zero hy)
    have hr1 := hrl _ hry
    have D1 := fdouble En (digs (x / 2 ^ (i + 1) % y)) (x / 2 ^ i % 2) (by omega) h2
    have D2 := ftrimRaw En (2 * (x / 2 ^ (i + 1) % y) + x / 2 ^ i % 2) ((digs (x / 2 ^ (i + 1) % y)).length + 1) (by omega)
    rw [val_digs] at D1
    have hlo := @dv_lo x y i
    have hhi := @dv_hi x y i (Nat.pos_of_ne_zero hy)
    have htl := dbl_len h2 hr1
    generalize htt : 2 * (x / 2 ^ (i + 1) % y) + x / 2 ^ i % 2 = t at *
    have D3 := fcmp En (digs t) (digs y) (by omega) (by omega)
    rw [show (((i + 1 : Nat) : Int) - 1) = (i : Int) by omega]
    by_cases hty : y ≤ t
    · have b5 : decide (cmpL (digs t) (digs y) ≥ 0) = true := by rw [cmp_geD]; exact decide_eq_true hty
      obtain ⟨f1, f2⟩ := hhi hty
      have D4 := fdif En (digs t) (digs y) (by omega) (digs_mono hty) (by rw [val_digs, val_digs]; exact hty)
      rw [val_digs, val_digs] at D4
      have D5 := ftrimRaw En (t - y) (digs t).length (by omega)
      have hd := QV_dvd x y (i + 1)
      have hV : QV x y (i + 1) < B ^ (digs x).length := Nat.lt_of_le_of_lt (QV_le _ _ _) hxlt
      obtain ⟨c', hc', hfree⟩ := limb_free hd
      have hset0 := pd_or hj hd hV
      have hgq := pd_get (QV x y (i + 1)) (digs x).length (i / 32) hj
      rw [← f2] at hset0
      generalize QV x y (i + 1) / B ^ (i / 32) % B = a at *
      have hgq' : ((pd (QV x y (i + 1)) (digs x).length).map lb)[i / 32]? = some (lb a) := by rw [List.getElem?_map, hgq]; rfl
      have hsl : i / 32 < ((pd (QV x y (i + 1)) (digs x).length).map lb).length := by rw [List.length_map, pd_length]; exact hj
      have hset : ((pd (QV x y (i + 1)) (digs x).length).map lb).set (i / 32) (ex (.int .u32 ((a + 2 ^ (i % 32) : Nat) : Int))) = (pd (QV x y i) (digs x).length).map lb := by
        rw [← hset0, List.map_set]; rfl
      have e69 : IntKind.u32.wrap (1 * 2 ^ (min ((i % 32 : Nat) : Int).toNat IntKind.u32.bits)) = ((2 ^ (i % 32) : Nat) : Int) := by
        rw [Int.toNat_natCast, show min (i % 32) IntKind.u32.bits = i % 32 from Nat.min_eq_left (by show i % 32 ≤ 32; omega), Int.one_mul]
        have hp := Nat.two_pow_pos (i % 32)
        rw [show ((2 : Int) ^ (i % 32)) = ((2 ^ (i % 32) : Nat) : Int) by norm_cast, IntKind.wrap_u32]
        rw [B_def] at hfree
        generalize 2 ^ (i % 32) = z at *
        omega
      have e70 := or_bit32 hc' hfree
      repeat (first | refine js ?_ | refine jb ?_)
      refine jr ?_
      refine jm rfl ?_
      refine jS (rt_bin_to rfl rfl (fun w => run_gei w _ _ _ _ _ _) (vbool b4)) ?_
      refine RG.nil (by kernel_rfl) ?_
      repeat (first | refine js ?_ | refine jb ?_)
      refine WpD.condT rfl ?_
      repeat (first | refine js ?_ | refine jb ?_)
      refine WpD.skip ?_
      repeat (first | refine js ?_ | refine jb ?_)
      refine jr ?_
      refine jm rfl ?_
      refine jm rfl ?_
      refine jm rfl ?_
      refine jS (rt_bin_to rfl rfl (fun w => run_quoi w _ _ _ _ _ _ (by first | decide | omega | assumption)) (vint eq)) ?_
      refine jS (rc_index rfl rfl (by assumption)) ?_
      refine jS (rc_load1 rfl rfl) ?_
      refine jm rfl ?_
      refine jS (rt_bin_to rfl rfl (fun w => run_remi w _ _ _ _ _ _ (by first | decide | omega | assumption)) (vint er)) ?_
      refine jS (rt_bin_to rfl rfl (fun w => run_shri w _ _ _ _ _ _ _ (by first | decide | omega | assumption)) (vint e8)) ?_
      refine jS (rt_bin_to rfl rfl (fun w => run_andi w _ _ _ _ _ _) (vint e9)) ?_
      refine jS (ru_call D1 ⟨rfl, rfl, trivial⟩) ?_
      refine jS (ru_call D2 ⟨rfl, trivial⟩) ?_
      refine ja rfl ?_
      refine RG.nil (by kernel_rfl) ?_
      repeat (first | refine js ?_ | refine jb ?_)
      refine jr ?_
      refine jm rfl ?_
      refine jm rfl ?_
      refine jS (ru_call D3 ⟨rfl, rfl, trivial⟩) ?_
      refine jS (rt_bin_to rfl rfl (fun w => run_gei w _ _ _ _ _ _) (vbool b5)) ?_
      refine RG.nil (by kernel_rfl) ?_
      repeat (first | refine js ?_ | refine jb ?_)
      refine WpD.condT rfl ?_
      repeat (first | refine js ?_ | refine jb ?_)
      refine jr ?_
      refine jm rfl ?_
      refine jm rfl ?_
      refine jS (ru_call D4 ⟨rfl, rfl, trivial⟩) ?_
      refine jS (ru_call D5 ⟨rfl, trivial⟩) ?_
      refine ja rfl ?_
      refine RG.nil (by kernel_rfl) ?_
      repeat (first | refine js ?_ | refine jb ?_)
      refine jr ?_
      refine jm rfl ?_
      refine jm rfl ?_
      refine jS (rt_bin_to rfl rfl (fun w => run_quoi w _ _ _ _ _ _ (by first | decide | omega | assumption)) (vint eq)) ?_
      refine jS (ru_index0 rfl rfl (by first | assumption | omega)) ?_
      refine jS (ru_load1 rfl rfl (by assumption)) ?_
      refine jm rfl ?_
      refine jS (rt_bin_to rfl rfl (fun w => run_remi w _ _ _ _ _ _ (by first | decide | omega | assumption)) (vint er)) ?_
      refine jS (rt_bin_to rfl rfl (fun w => run_shli w _ _ _ _ _ _ _ (by first | decide | omega | assumption)) (vint e69)) ?_
      refine jS (rt_bin_to rfl rfl (fun w => run_ori w _ _ _ _ _ _) (vint e70)) ?_
      refine jS (ru_index0 rfl rfl (by first | assumption | omega)) ?_
      refine jO (ru_set1 rfl rfl rfl (by assumption) (by assumption)) ?_
      refine RG.nil (by kernel_rfl) ?_
      repeat (first | refine js ?_ | refine jb ?_)
      refine jr ?_
      refine jm rfl ?_
      refine jS (rt_bin_to rfl rfl (fun w => run_subi w _ _ _ _ _ _) (vint e41)) ?_
      refine ja rfl ?_
      refine RG.nil (by kernel_rfl) ?_
      refine ⟨⟨i, by omega⟩, ?_, Nat.lt_succ_self i⟩
      dsimp only
      rw [f1]
      refine Sub.mk ?_ ?_
      · repeat (first | exact trivial | refine jv rfl ?_ | refine jw rfl (js0 rfl) ?_ | refine jw rfl ⟨js0 rfl, js0 rfl⟩ ?_ | refine jx rfl ⟨js0 rfl, js0 rfl⟩ ?_ | refine jw rfl (clo_live (js0 rfl) (js0 rfl)) ?_ | refine ⟨⟨_, rfl, PLe.refl _⟩, trivial, ?_⟩)
      · repeat (first | exact trivial | refine jz ?_ | refine jy rfl ?_)
    · have b5 : decide (cmpL (digs t) (digs y) ≥ 0) = false := by rw [cmp_geD]; exact decide_eq_false hty
      obtain ⟨f1, f2⟩ := hlo (by omega)
      repeat (first | refine js ?_ | refine jb ?_)
      refine jr ?_
      refine jm rfl ?_
      refine jS (rt_bin_to rfl rfl (fun w => run_gei w _ _ _ _ _ _) (vbool b4)) ?_
      refine RG.nil (by kernel_rfl) ?_
      repeat (first | refine js ?_ | refine jb ?_)
      refine WpD.condT rfl ?_
      repeat (first | refine js ?_ | refine jb ?_)
      refine WpD.skip ?_
      repeat (first | refine js ?_ | refine jb ?_)
      refine jr ?_
      refine jm rfl ?_
      refine jm rfl ?_
      refine jm rfl ?_
      refine jS (rt_bin_to rfl rfl (fun w => run_quoi w _ _ _ _ _ _ (by first | decide | omega | assumption)) (vint eq)) ?_
      refine jS (rc_index rfl rfl (by assumption)) ?_
      refine jS (rc_load1 rfl rfl) ?_
      refine jm rfl ?_
      refine jS (rt_bin_to rfl rfl (fun w => run_remi w _ _ _ _ _ _ (by first | decide | omega | assumption)) (vint er)) ?_
      refine jS (rt_bin_to rfl rfl (fun w => run_shri w _ _ _ _ _ _ _ (by first | decide | omega | assumption)) (vint e8)) ?_
      refine jS (rt_bin_to rfl rfl (fun w => run_andi w _ _ _ _ _ _) (vint e9)) ?_
      refine jS (ru_call D1 ⟨rfl, rfl, trivial⟩) ?_
      refine jS (ru_call D2 ⟨rfl, trivial⟩) ?_
      refine ja rfl ?_
      refine RG.nil (by kernel_rfl) ?_
      repeat (first | refine js ?_ | refine jb ?_)
      refine jr ?_
      refine jm rfl ?_
      refine jm rfl ?_
      refine jS (ru_call D3 ⟨rfl, rfl, trivial⟩) ?_
      refine jS (rt_bin_to rfl rfl (fun w => run_gei w _ _ _ _ _ _) (vbool b5)) ?_
      refine RG.nil (by kernel_rfl) ?_
      repeat (first | refine js ?_ | refine jb ?_)
      refine WpD.condF rfl ?_
      repeat (first | refine js ?_ | refine jb ?_)
      refine WpD.skip ?_
      repeat (first | refine js ?_ | refine jb ?_)
      refine jr ?_
      refine jm rfl ?_
      refine jS (rt_bin_to rfl rfl (fun w => run_subi w _ _ _ _ _ _) (vint e41)) ?_
      refine ja rfl ?_
      refine RG.nil (by kernel_rfl) ?_
      refine ⟨⟨i, by omega⟩, ?_, Nat.lt_succ_self i⟩
      dsimp only
      rw [f1, f2]
      refine Sub.mk ?_ ?_
      · repeat (first | exact trivial | refine jv rfl ?_ | refine jw rfl (js0 rfl) ?_ | refine jw rfl ⟨js0 rfl, js0 rfl⟩ ?_ | refine jx rfl ⟨js0 rfl, js0 rfl⟩ ?_ | refine jw rfl (clo_live (js0 rfl) (js0 rfl)) ?_ | refine ⟨⟨_, rfl, PLe.refl _⟩, trivial, ?_⟩)
      · repeat (first | exact trivial | refine jz ?_ | refine jy rfl ?_)
theorem fdivideA (x y : Nat) (hx : (digs x).length ≤ 536870912) (hyl : (digs y).length ≤ 536870912) (hy : y ≠ 0) : Fn Tryz.prog En 153 [mag (digs x), mag (digs y)] (DivP x y) := by
  by_cases h : (digs x).length ≤ 2 ∧ (digs y).length ≤ 2
  · exact fdivide En x y (zdivide_small x y hy h.1 h.2)
  · exact fdivLong En x y hx hyl hy h
end
end Go.Proofs.YtpiflllcjgpkhaaGreatDoor
