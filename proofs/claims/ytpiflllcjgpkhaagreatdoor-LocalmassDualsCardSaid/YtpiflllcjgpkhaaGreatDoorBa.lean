/- The sanity check of chapter 31. -/
import Derived.Test.YtpiflllcjgpkhaaGreatDoorBg
import Derived.Test.YtpiflllcjgpkhaaGreatDoorFm
set_option maxRecDepth 3000
namespace Go.Proofs.YtpiflllcjgpkhaaGreatDoor
open Go.RowKit Limb Num
section
variable (En : Ev)
theorem txt_size (l : List Nat) : (txt l).size = l.length := by
  have : ∀ (l : List Nat) (b : ByteArray), ((l.map fun (x : Nat) => (x : Int)).foldl (fun r n => r.push (UInt8.ofNat n.toNat)) b).size = b.size + l.length := by
    intro l
    induction l with
    | nil => intro b; rfl
    | cons x l ih => intro b; simp only [List.map_cons, List.foldl_cons, List.length_cons]; rw [ih, ByteArray.size_push]; omega
  have h := this l ByteArray.empty
  rw [show ByteArray.empty.size = 0 from rfl, Nat.zero_add] at h
  exact h
theorem fmtL_len (z : Int) (k : Nat) : (fmtL z k).length ≤ k + 1 := by
  unfold fmtL
  rw [List.length_reverse, List.length_append, dgts_len]
  split <;> simp
theorem rformat_frac (r : Rat) (k m : Nat) (hr : Sz 1073741824 r) (hd : r.den ≠ 1) (h1 : r.num.natAbs < 10 ^ k) (h2 : k ≤ 9) (h3 : 10 ^ (k - 1) ≤ r.num.natAbs) (h4 : 0 < k) (m1 : r.den < 10 ^ m) (m2 : m ≤ 9) (m3 : 10 ^ (m - 1) ≤ r.den) (m4 : 0 < m) :
    Fn Tryz.prog En 25 [qC r] (ex (.string (txt (fmtL r.num k) ++ ⟨#[47]⟩ ++ txt (fmtL r.den m)))) := by
  have C1 := rcanonical En (RQ.of r) (RQ.of_ok hr)
  have C2 := riswhole En (RQ.of r) (RQ.of_ok hr)
  rw [RQ.of_v] at C1 C2
  rw [show (cmpZ r.den 1 == 0) = false by have := r.den_pos; unfold cmpZ; rw [if_neg (by omega), if_pos (by omega)]; rfl] at C2
  have C3 := iformat En r.num k h1 h2 h3 h4
  have C4 := iformat En (r.den : Int) m m1 m2 m3 m4
  have l1 := fmtL_len r.num k
  have l2 := fmtL_len (r.den : Int) m
  have s1 : (txt (fmtL r.num k)).size + (⟨#[47]⟩ : ByteArray).size ≤ 1000000 := by rw [txt_size]; show _ + 1 ≤ _; omega
  have s2 : (txt (fmtL r.num k) ++ (⟨#[47]⟩ : ByteArray)).size + (txt (fmtL r.den m)).size ≤ 1000000 := by rw [ByteArray.size_append, txt_size, txt_size]; show _ + 1 + _ ≤ _; omega
  refine fn_of_body Tryz.func25 rfl Tryz.ntmps25 rfl ?_
  intro w0 h0
  repeat (first | refine js ?_ | refine jb ?_)
  refine jr ?_
  refine jT (ru_boxR rfl rfl rfl) ?_
  refine ja rfl ?_
  refine RG.nil (by kernel_rfl) ?_
  repeat (first | refine js ?_ | refine jb ?_)
  refine jr ?_
  refine jS (ru_loadR rfl rfl rfl rfl) ?_
  refine jS (ru_call C1 ⟨rfl, trivial⟩) ?_
  refine jT (ru_alloc rfl rfl rfl) ?_
  refine jO (ru_storeR rfl rfl rfl rfl rfl rfl) ?_
  refine RG.nil (by kernel_rfl) ?_
  repeat (first | refine js ?_ | refine jb ?_)
  refine jr ?_
  refine jS (ru_loadR rfl rfl rfl rfl) ?_
  refine jS (ru_call C2 ⟨rfl, trivial⟩) ?_
  refine RG.nil (by kernel_rfl) ?_
  repeat (first | refine js ?_ | refine jb ?_)
  refine WpD.condF rfl ?_
  repeat (first | refine js ?_ | refine jb ?_)
  refine WpD.skip ?_
  repeat (first | refine js ?_ | refine jb ?_)
  refine jr ?_
  refine jS (ru_fieldAddr rfl rfl) ?_
  refine jS (ru_loadR rfl rfl rfl rfl) ?_
  refine jS (ru_call C3 ⟨rfl, trivial⟩) ?_
  refine jS (rt_bin rfl rfl (fun w => run_adds w CStr.ok _ _ _ _ s1)) ?_
  refine jS (ru_fieldAddr rfl rfl) ?_
  refine jS (ru_loadR rfl rfl rfl rfl) ?_
  refine jS (ru_call C4 ⟨rfl, trivial⟩) ?_
  refine jS (rt_bin rfl rfl (fun w => run_adds w CStr.ok _ _ _ _ s2)) ?_
  refine ja rfl ?_
  refine RG.nil (by kernel_rfl) ?_
  repeat (first | refine js ?_ | refine jb ?_)
  refine WpD.ret ?_
  exact ret1 rfl (.tmp rfl) (PLe.refl _)
end
theorem eq_text {a b : ByteArray} (h : a.data = b.data) : (a.toList == b.toList) = true := by
  have : a = b := ByteArray.ext h
  rw [this]; simp
end Go.Proofs.YtpiflllcjgpkhaaGreatDoor
