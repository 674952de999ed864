import Derived.Test.YtckicbgffhbacaaDoorNd
set_option linter.unusedVariables false
set_option linter.unusedSimpArgs false
namespace Go.Sx
open Go.RowKit
def mI (l : List Nat) : List Int := l.map fun (i : Nat) => (i : Int)
theorem mI_len (l : List Nat) : (mI l).length = l.length := by simp [mI]
theorem mI_get {l : List Nat} {k : Nat} (h : k < l.length) : (mI l).getD k 0 = ((l.getD k 0 : Nat) : Int) := by simp [mI, List.getD_eq_getElem?_getD, h]
theorem mI_app (a : List Nat) (i : Nat) : mI (a ++ [i]) = mI a ++ [(i : Int)] := by simp [mI]
theorem imgL_app {r : List W64} : ∀ (l : List Nat) (acc : W64) (i : Nat), imgL r acc (l ++ [i]) = imgL r acc l ||| r.getD i 0
  | [], acc, i => rfl
  | j :: l, acc, i => imgL_app l (acc ||| r.getD j 0) i
theorem imgL_next {r : List W64} {l : List Nat} {k : Nat} (h : k < l.length) : imgL r 0 (l.take (k + 1)) = imgL r 0 (l.take k) ||| r.getD (l.getD k 0) 0 := by
  rw [take_snocD 0 l k h, imgL_app]
theorem mem_lt {s : W64} {m k : Nat} (hm : m ≤ 64) (hk : k < (mems (s &&& below (m : Int))).length) : (mems (s &&& below (m : Int))).getD k 0 < m := by
  have h := mem_mems.1 (getD_mem (d := 0) hk)
  generalize (mems (s &&& below (m : Int))).getD k 0 = q at h
  rw [BitVec.getLsbD_and, Bool.and_eq_true] at h
  rcases Nat.lt_or_ge q 64 with h4 | h4
  · have h5 := h.2
    rw [below_bit (by omega) q h4] at h5
    have := of_decide_eq_true h5
    omega
  · have h5 := h.2
    rw [BitVec.getLsbD_of_ge _ _ h4] at h5; cases h5
theorem stpK_yes {es : List Edg} {s : W64} {x : Int} {k : Nat} (h : (es.getD k (0, 0, 0)).2.1 = x) (h2 : has s (es.getD k (0, 0, 0)).1 = true) : stpK es s x (k + 1) = stpK es s x k ||| bit (es.getD k (0, 0, 0)).2.2 := if_pos ⟨h, h2⟩
theorem stpK_no1 {es : List Edg} {s : W64} {x : Int} {k : Nat} (h : ¬ (es.getD k (0, 0, 0)).2.1 = x) : stpK es s x (k + 1) = stpK es s x k := if_neg fun k => h k.1
theorem stpK_no2 {es : List Edg} {s : W64} {x : Int} {k : Nat} (h : has s (es.getD k (0, 0, 0)).1 = false) : stpK es s x (k + 1) = stpK es s x k := if_neg fun k => by rw [h] at k; cases k.2
theorem tz_zero : Lib.ctz 64 (0 : W64).toNat = 64 := by decide
end Go.Sx
