/- More of the abstract walk: comparisons, nil checks, arrays, texts. For any program. -/
import Derived.Test.YtpiflllcjgpkhaaGreatDoorP
import Derived.Laws.BytesString
import Derived.Laws.Strings
set_option maxRecDepth 3000
namespace Go.Proofs.YtpiflllcjgpkhaaGreatDoor
open Go.RowKit Limb
theorem beqT {a b : Int} (h : a = b) : (a == b) = true := by simp [h]
theorem beqF {a b : Int} (h : a ≠ b) : (a == b) = false := by simp [h]
theorem bneT {a b : Int} (h : a ≠ b) : (a != b) = true := by simp [h]
theorem bneF {a b : Int} (h : a = b) : (a != b) = false := by simp [h]
/-- An array type. -/
class CArr (P : Program) (T : TypeId) (len : outParam Nat) (E : outParam TypeId) (k : outParam Nat) : Prop where
  ok : P.underlying T = some (.array len E) ∧ (P.info? E).map (·.size) = some k
class CStr (P : Program) (T : TypeId) : Prop where
  ok : P.underlying T = some .string
section
variable {P : Program} {En : Ev} {n : Nat} {sl : Sl} {bx : Bx} {dst : Option Tmp} {ty : TypeId} {pos : String} {after : Array Edge} {guard : Option (Nat × Bool)}
theorem run_indexArr {T E : TypeId} {len k : Nat} (hT : CArr P T len E k) (b o : Nat) (kk : IntKind) {i : Nat} (hi : i < len) (w : World) : (Instr.indexAt T (.pointer (some ⟨b, o, none⟩)) (.int kk (i : Int))).run P w = .ok (.pointer (some ⟨b, o + i * k, none⟩)) w := by
  obtain ⟨h1, h2⟩ := hT.ok
  obtain ⟨inf, h3, h4⟩ := Option.map_eq_some_iff.1 h2
  have h5 : (0 : Int) ≤ (i : Int) ∧ (i : Int) < (len : Int) := by omega
  simp only [Instr.indexAt, asIntOf, Sem.run_bind, Sem.run_pure, Result.andThen_ok, run_underlying h1, Instr.sureAddr, if_pos h5, sizeOf, run_typeInfo _ h3, h4]
  rw [Addr.add_mid, Int.toNat_natCast]
theorem ru_indexArr {T E : TypeId} {x ix : Operand} {b o len k : Nat} {kk : IntKind} {i : Nat} [hT : CArr P T len E k] (hx : osd sl x = some (.ptr b o)) (hi : osd sl ix = some (.one (ex (.int kk (i : Int))))) (hy : i < len) {o' : Nat} (ho : o + i * k = o') :
    RT P En n ⟨dst, .indexAddr T x ix, ty, pos, after, guard⟩ sl bx ⟨.ptr b o', [], []⟩ :=
  RT.pure fun ρ h β bx' H => by
    subst ho
    obtain ⟨h1, hl⟩ := H x (by simp [Op.operands]) _ hx
    have h1 : ρ x = .pointer (some ⟨β b, o, none⟩) := h1
    have h6 : ρ ix = .int kk (i : Int) := (H ix (by simp [Op.operands]) _ hi).1
    refine ⟨.pointer (some ⟨β b, o + i * k, none⟩), fun w _ => ?_, rfl, hl⟩
    simp only [execOp, h1, h6, Sem.run_bind, run_indexArr hT (β b) o kk hy w, Result.andThen_ok, Sem.run_pure]
theorem ru_buildArr {T E : TypeId} {len k : Nat} {xs : List (Nat × Operand)} {ps : List (Nat × List Pd)} {zs : List Value} {rs : List Pd} [hT : CArr P T len E k] [hz : CZero P T zs] (hp : partsOf sl xs ps) (hf : fillP (fun i => some (i * k, k)) (zs.map ex) ps = some rs) :
    RT P En n ⟨dst, .build T xs.toArray, ty, pos, after, guard⟩ sl bx ⟨.one (aggP rs), [], []⟩ :=
  RT.pure fun ρ h β bx' H => by
    obtain ⟨h1, h2⟩ := hT.ok
    obtain ⟨inf, h3, h4⟩ := Option.map_eq_some_iff.1 h2
    obtain ⟨us, u1, u2⟩ := fill_ok (ρ := ρ) (β := β) (bx' := bx') hp (fun x hx s hs => H x.2 (by simp [Op.operands]; exact ⟨x.1, hx⟩) s hs) hf (all2_ex hz.ok.2)
    refine ⟨.agg us.toArray, fun w _ => ?_, ⟨us, rfl, u2⟩, trivial⟩
    obtain ⟨z, z1, z2⟩ := run_zeroValue' hz.ok w
    have hmap : (xs.toArray.map fun x => (x.1, ρ x.2)).toList = xs.map fun x => (x.1, ρ x.2) := by simp
    simp only [execOp, Instr.build, Sem.run_bind, z1, Result.andThen_ok, run_underlying h1, sizeOf, run_typeInfo _ h3, Sem.run_pure, h4, z2]
    rw [hmap, u1]
    rfl
end
/-! ### Texts -/
section
variable {P : Program} (w : World)
theorem run_eqs {T : TypeId} (_hT : P.underlying T = some .string) (x y : Operand) (a b : ByteArray) : (do eqGuard .eql T x y (.string a) (.string b); Go.binOp .eql T (.string a) (.string b) : Sem Value).run P w = .ok (.bool (a.toList == b.toList)) w := by
  simp [eqGuard, binOp_string_eql]
theorem run_adds {T : TypeId} (_hT : P.underlying T = some .string) (x y : Operand) (a b : ByteArray) (h : a.size + b.size ≤ 1000000) : (do eqGuard .add T x y (.string a) (.string b); Go.binOp .add T (.string a) (.string b) : Sem Value).run P w = .ok (.string (a ++ b)) w := by
  have : ¬ ((a.size + b.size : Nat) : Int) > IntKind.i64.max := by simp [IntKind.max, IntKind.bits]; omega
  simp only [eqGuard, binOp_string_add, Op.stringOp, if_neg this]
  simp
end
/-- A text of bytes. -/
def byt (x : Nat) : Pd := ex (.int .u8 (x : Int))
instance (x : Nat) : C1 (byt x) := ⟨fun _ _ h => by rw [h]; rfl⟩
def txt (l : List Nat) : ByteArray := (l.map fun (x : Nat) => (x : Int)).foldl (fun r n => r.push (UInt8.ofNat n.toNat)) ByteArray.empty
theorem all2_byt {h : GH} : ∀ {l : List Nat} {vs : List Value}, All2 h (l.map byt) vs → vs = l.map fun (y : Nat) => Value.int .u8 (y : Int)
  | [], [], _ => rfl
  | x :: l, v :: vs, ⟨a, _, c⟩ => by have : v = .int .u8 (x : Int) := a; rw [this, all2_byt c]; rfl
  | [], _ :: _, h => h.elim
  | _ :: _, [], h => h.elim
section
variable {P : Program} {En : Ev} {n : Nat} {sl : Sl} {bx : Bx} {dst : Option Tmp} {ty : TypeId} {pos : String} {after : Array Edge} {guard : Option (Nat × Bool)}
theorem load_all {w : World} {b o : Nat} {vs : List Value} (h : w.rangeAt b o vs) : (loadCells ⟨b, o, none⟩ vs.length).run P w = .ok vs.toArray w := by
  exact run_loadCells_list w ⟨b, o, none⟩ vs (fun j v hj => by rw [Addr.add_mid]; exact h j v hj)
theorem ru_strO {S T E : TypeId} {x : Operand} {b len cap : Nat} {l : List Nat} (hS : P.underlying S = some (.slice E)) (hE : P.underlying E = some (.int .u8)) (hT : P.underlying T = some .string) (hx : osd sl x = some (.own b 0 len cap)) (hb : look bx b = some (l.map byt)) (hl : l.length = len) (h0 : 0 < len) :
    RT P En n ⟨dst, .convert S T x, ty, pos, after, guard⟩ sl bx ⟨.one (ex (.string (txt l))), [b], []⟩ := by
  subst hl
  intro sl' bx' h1 h2 _ w0 h0' c h β a w Q hi hs
  obtain ⟨cap', hx', _, _⟩ : ∃ cap', a.eval x = .slice (some ⟨β b, 0, none⟩) l.length cap' ∧ cap ≤ cap' ∧ cap' ≤ maxLen := (osd_ok hs (x := x) (sd := .own b 0 l.length cap) (by rw [h1 x (by simp [Op.operands])]; exact hx)).1
  obtain ⟨_, _, vs, rest, T', hg, ha, _⟩ := hi.box b _ (by rw [h2 b (by simp)]; exact hb) (by intro h; simp at h; subst h; simp at h0)
  have hv := all2_byt ha
  have hr : w.rangeAt (β b) 0 vs := range_box hg (by simp)
  have hlc := load_all (P := P) hr
  have hlen : vs.length = l.length := by rw [hv]; simp
  rw [hlen, hv, show (l.map fun (y : Nat) => Value.int .u8 (y : Int)) = (l.map fun (x : Nat) => (x : Int)).map (Value.int .u8) by simp] at hlc
  unfold Oper.wp
  have : (execOp a.eval ⟨dst, .convert S T x, ty, pos, after, guard⟩).run P w = .ok (.value (.string (txt l))) w := by
    simp only [execOp, hx', Sem.run_bind, run_convert_bytes_string w S T E _ _ _ hS hE hT, run_bytesToString w _ _ _ _ hlc, Result.andThen_ok, Sem.run_pure]
    rfl
  rw [this]
  exact ⟨_, h, β, rfl, hi, Le.refl _, fun _ _ => rfl, rfl, trivial⟩
end
end Go.Proofs.YtpiflllcjgpkhaaGreatDoor
