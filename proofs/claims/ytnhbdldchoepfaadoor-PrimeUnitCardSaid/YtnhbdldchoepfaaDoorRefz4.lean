import Derived.Test.YtnhbdldchoepfaaDoorRefz3
import Derived.Laws.BitsAllLaws
namespace Go.Proofs.YtnhbdldchoepfaaDoor.Limb
/-! ### Doubling -/
def DblInv (l : List Nat) (c0 : Nat) (i : Nat) (O : List Nat) (c : Nat) : Prop := O.length = i ∧ Lm O ∧ c ≤ 1 ∧ val O + B ^ i * c = 2 * val (l.take i) + c0
theorem DblInv.start (l : List Nat) {c0 : Nat} (h : c0 ≤ 1) : DblInv l c0 0 [] c0 := ⟨rfl, Lm.nil, h, by simp [val]⟩
theorem DblInv.step {l : List Nat} {c0 i : Nat} {O : List Nat} {c x : Nat} (hl : Lm l) (h : DblInv l c0 i O c) (hx : l[i]? = some x) :
    DblInv l c0 (i + 1) (O ++ [(2 * x) % B + c]) (x / 2147483648) := by
  obtain ⟨a1, a2, a3, a4⟩ := h
  have b1 := hl.get hx
  refine ⟨by simp [a1], lm_snoc a2 (by rw [B_def] at *; omega), by rw [B_def] at b1; omega, ?_⟩
  rw [val_snoc, val_take_succ, a1, hx, Option.getD_some]
  have : B ^ i * ((2 * x) % B + c) + B ^ (i + 1) * (x / 2147483648) = B ^ i * (2 * x + c) := by
    rw [Nat.pow_succ, Nat.mul_assoc, ← Nat.mul_add]
    congr 1
    rw [B_def] at *; omega
  rw [Nat.add_assoc, this, Nat.mul_add, Nat.mul_add, Nat.mul_left_comm (B ^ i) 2 x]
  omega
theorem DblInv.done {l : List Nat} {c0 i : Nat} {O : List Nat} {c : Nat} (h : DblInv l c0 i O c) (h1 : l.length ≤ i) : Lm (O ++ [c]) ∧ val (O ++ [c]) = 2 * val l + c0 := by
  obtain ⟨a1, a2, a3, a4⟩ := h
  refine ⟨lm_snoc a2 (by rw [B_def]; omega), ?_⟩
  rw [val_snoc, a1, a4, List.take_of_length_le h1]
end Go.Proofs.YtnhbdldchoepfaaDoor.Limb
namespace Go.Proofs.YtnhbdldchoepfaaDoor
open Go.RowKit Limb
theorem or_dbl (x c : Nat) (hc : c ≤ 1) : bits .or .u32 ((x : Int) * 2 % 4294967296) (c : Int) = (((2 * x) % B + c : Nat) : Int) := by
  rw [u32_or _ _ (by omega) (by omega) (by omega) (by omega)]
  have e1 : ((x : Int) * 2 % 4294967296).toNat = (2 * x) % B := by rw [B_def]; omega
  rw [e1, Int.toNat_natCast, nat_join 1 _ _ (by rw [B_def]; omega) (by omega)]
set_option maxHeartbeats 2000000 in
theorem zdouble_any (v1 : Value) (l : List Nat) (c0 : Nat) (w : World) (h1 : Mg w v1 l) (hl1 : l.length ≤ 1099511627776) (hc0 : c0 ≤ 1) :
    Calls Tryd.prog 71 #[v1, .int .u32 c0] w (RawPost (2 * val l + c0) (l.length + 1) w) := by
  obtain ⟨i0, hi, hx⟩ := Option.map_eq_some_iff.1 info32
  simp only [Prod.mk.injEq] at hx
  obtain ⟨hz0, hz1, hz2⟩ := hx
  have H1 := Lib.hid h1
  obtain ⟨a1, cap1, rfl, _, _, _, _⟩ := h1.form
  clear h1
  go_enter Tryd.func71, Tryd.ntmps71
  go_wp2_with fail
  go_loopg [1, 5, 7, 10] l.length (fun g s1 s5 s7 s10 wr => ∃ (i c : Nat) (O : List Nat), i + g = l.length ∧ s1 = .int .u32 c ∧ s10 = .int .i64 i ∧ DblInv l c0 i O c ∧ wr.ownsRow w.heap.size 68 1 s5 O.length (limbCells O) ∧ Below w.heap.size w wr)
  case atStart => exact ⟨0, c0, [], by omega, rfl, rfl, DblInv.start _ hc0, World.ownsRow_nil _ _ _ _, Below.refl _ _⟩
  case round =>
    obtain ⟨i, c, O, hig, rfl, rfl, hI, hown, hbel⟩ := hrel
    have hc1 : c ≤ 1 := hI.2.2.1
    have hOlen : O.length ≤ 1099511627776 := by have := hI.1; omega
    have HOl := Lib.hid hI.1
    have hsz := hbel.size
    obtain ⟨wo, rfl⟩ : ∃ wo : World, wo = wr := ⟨_, rfl⟩
    have HO := Lib.hid hown
    have HBe := Lib.hid hbel
    cases gk with
    | zero =>
      have hn1 : ¬ (i : Int) < (l.length : Int) := by omega
      have HE := Lib.hid (hI.done (by omega))
      clear hown hbel hI
      have HA3x : Hid (O.length + 1 ≤ maxLen) := by show _ ≤ _; unfold maxLen; omega
      have HA4x : Hid ((O.length + 1) * 4 ≤ 140737488355328) := by show _ ≤ _; omega
      go_wp2_with (at_builtin; refine wpList_append_own _ rfl _ _ 22 rfl w.heap.size 68 i0 (.int .u32 0) 1 4 Tryd.underlying22 hi hz0 hz1 hz2 rfl (by decide) _ _ _ rfl (HO.out.alloc _) ⟨wo.heap.size, 0, none⟩ 1 1 [_] rfl rfl (cell_one_new _ _ _) (one_u32 _) HA3x.out HA4x.out (le_alloc hsz _) ?_)
      intro vx wx hownx hgrowx _
      have HX : Hid (wx.ownsRow w.heap.size 68 1 vx (O ++ [c]).length (limbCells (O ++ [c])) ∧ Below w.heap.size w wx) :=
        ⟨limbs_snoc hownx rfl, (HBe.out.alloc hsz _).grown hgrowx (le_alloc hsz _) fun k hk => (HO.out.lt k hk).1⟩
      clear hownx hgrowx
      go_wp2_with fail
      go_ret
      exact ⟨O ++ [c], _, rfl, HX.out.1, HE.out.1, HE.out.2, by have := HOl.out; rw [List.length_append, List.length_singleton]; omega, HX.out.2⟩
    | succ g =>
      obtain ⟨x, hx⟩ : ∃ x, l[i]? = some x := ⟨_, List.getElem?_eq_getElem (by omega)⟩
      have HST := Lib.hid (hI.step H1.out.2 hx)
      have hxB := H1.out.2.get hx
      rw [B_def] at hxB
      have f1 := H1.out.below hbel
      obtain ⟨a1', cap1', hv1, _, _, _, hr1⟩ := f1.form
      injection hv1 with e1 e2 e3
      subst e1 e3
      obtain ⟨p1, off1, rfl, hp1, hcl1⟩ := hr1 (by omega)
      have c1 := hcl1 i x hx
      have qi1 : (i : Int) < (l.length : Int) := by omega
      clear e2 f1 hown hbel hcl1 hr1 hx hI
      have HA3y : Hid (O.length + 1 ≤ maxLen) := by show _ ≤ _; unfold maxLen; omega
      have HA4y : Hid ((O.length + 1) * 4 ≤ 140737488355328) := by show _ ≤ _; omega
      go_wp2_with (at_builtin; refine wpList_append_own _ rfl _ _ 22 rfl w.heap.size 68 i0 (.int .u32 0) 1 4 Tryd.underlying22 hi hz0 hz1 hz2 rfl (by decide) _ _ _ rfl (HO.out.alloc _) ⟨wo.heap.size, 0, none⟩ 1 1 [_] rfl rfl (cell_one_new _ _ _) (one_u32 _) HA3y.out HA4y.out (le_alloc hsz _) ?_)
      intro vy wy howny hgrowy _
      have HX : Hid (wy.ownsRow w.heap.size 68 1 vy (O ++ [(2 * x) % B + c]).length (limbCells (O ++ [(2 * x) % B + c])) ∧ Below w.heap.size w wy) :=
        ⟨limbs_snoc howny (or_dbl x c hc1), (HBe.out.alloc hsz _).grown hgrowy (le_alloc hsz _) fun k hk => (HO.out.lt k hk).1⟩
      clear howny hgrowy
      go_wp2_with fail
      go_roundg g
      case measure => omega
      case rel => exact ⟨i + 1, x / 2147483648, _, by omega, by go_num, by go_num, HST.out, HX.out.1, HX.out.2⟩

theorem or_low (u x : Nat) (hu : u < 4294967296) (hx : x < 4294967296) : bits .or .u64 (u : Int) ((x : Int) * 4294967296) = ((u + B * x : Nat) : Int) := by
  rw [u64_or _ _ (by omega) (by omega) (by omega) (by omega)]
  have e1 : ((x : Int) * 4294967296).toNat = B * x := by rw [B_def]; omega
  rw [e1, Int.toNat_natCast, Nat.or_comm, nat_join 32 _ _ (by rw [B_def]; omega) (by omega), Nat.add_comm]
theorem or_zero (x : Nat) (hx : x < 4294967296) : bits .or .u64 0 (x : Int) = (x : Int) := by
  rw [u64_or _ _ (by omega) (by omega) (by omega) (by omega)]
  simp
set_option maxHeartbeats 2000000 in
/-- The lowest 64 bits, of at most two limbs. -/
theorem zlow_any (v1 : Value) (l : List Nat) (w : World) (h1 : Mg w v1 l) (hl1 : l.length ≤ 2) :
    Calls Tryd.prog 65 #[v1] w fun e w' => e = .returned (.int .u64 (val l : Nat)) ∧ w = w' := by
  have HL := Lib.hid h1.2
  obtain ⟨a1, cap1, rfl, _, _, _, hr⟩ := h1.form
  have HR := Lib.hid hr
  clear hr h1
  go_enter Tryd.func65, Tryd.ntmps65
  go_wp2_with fail
  go_loopg [3, 4] l.length (fun g s3 s4 wr => ∃ (i u : Nat), i + g = l.length ∧ s3 = .int .u64 u ∧ s4 = .int .i64 i ∧ u = val (l.take i) ∧ w = wr)
  case atStart => exact ⟨0, 0, by omega, rfl, rfl, by simp [val], rfl⟩
  case round =>
    obtain ⟨i, u, hig, rfl, rfl, hu, rfl⟩ := hrel
    have HU := Lib.hid hu
    clear hu
    cases gk with
    | zero =>
      have hn1 : ¬ (i : Int) < (l.length : Int) := by omega
      have HE : Hid (u = val l) := by show u = val l; rw [HU.out, List.take_of_length_le (by omega)]
      go_wp2_with fail
      go_ret
      exact ⟨ret_int' (by rw [HE.out]), rfl⟩
    | succ g =>
      obtain ⟨x, hx⟩ : ∃ x, l[i]? = some x := ⟨_, List.getElem?_eq_getElem (by omega)⟩
      have hxB := HL.out.get hx
      rw [B_def] at hxB
      obtain ⟨b, off, rfl, hb, hc⟩ := HR.out (by omega)
      have c1 := hc i x hx
      have hqi : (i : Int) < (l.length : Int) := by omega
      have HST : Hid (u + B ^ i * x = val (l.take (i + 1))) := by show _ = _; rw [val_take_succ, hx, HU.out]; rfl
      clear hc hx
      rcases (show i = 0 ∨ i = 1 by omega) with h0 | h0
      · subst h0
        obtain rfl : u = 0 := by have := HU.out; simpa [val] using this
        simp only [Nat.add_zero] at c1
        go_wp2_with fail
        go_roundg g
        case measure => omega
        case rel => exact ⟨1, x, by omega, by rw [or_zero x hxB], rfl, by have := HST.out; simpa using this, rfl⟩
      · subst h0
        have hu : u < 4294967296 := by
          have := HU.out
          have h1 := val_lt (HL.out.take 1)
          rw [← this, List.length_take, B_def] at h1
          have : (4294967296 : Nat) ^ min 1 l.length ≤ 4294967296 := by
            rw [Nat.min_eq_left (by omega)]; decide
          omega
        go_wp2_with fail
        go_roundg g
        case measure => omega
        case rel => exact ⟨2, u + B * x, by omega, by rw [or_low u x hu hxB], rfl, by have := HST.out; simpa using this, rfl⟩
end Go.Proofs.YtnhbdldchoepfaaDoor
