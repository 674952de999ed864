import Derived.Test.YtckicbgffhbacaaDoorNf
set_option linter.unusedVariables false
set_option linter.unusedSimpArgs false
namespace Go.Sx
open Go.RowKit
/-! ### the subset automaton -/
def fS (n : Nfa) (q : W64) (x : Nat) : W64 := stpN n q (x : Int)
def gS (n : Nfa) (q : W64) : Bool := decide (q &&& n.fi ≠ 0)
def setU (n : Nfa) (U : List W64) : List W64 := exI (fS n) n.L.toNat n.st 0 U.length
def subU (n : Nfa) (U : List W64) : Dfa := genD n.L n.L.toNat (setU n U) (fS n) (gS n)
def SubV (n : Nfa) (U : List W64) : Dfa := if errN n = 0 then subU n U else nilD
def SetV (n : Nfa) (U : List W64) : List W64 := if errN n = 0 then setU n U else []
/-- a list that all reachable sets are members of -/
structure UOk (n : Nfa) (U : List W64) : Prop where
  st : n.st ∈ U
  len : U.length ≤ 512
  step : ∀ q ∈ U, ∀ x, x < n.L.toNat → fS n q x ∈ U
theorem exR_get {f : W64 → Nat → W64} {q : W64} {l : List W64} {i : Nat} (h : i < l.length) (k : Nat) : (exR f q l k).getD i 0 = l.getD i 0 := by
  obtain ⟨ys, e⟩ := exR_pre f q l k
  rw [e, getD_app 0 h]
theorem exR_lt {f : W64 → Nat → W64} {q : W64} {l : List W64} {i : Nat} (h : i < l.length) (k : Nat) : i < (exR f q l k).length := by
  obtain ⟨ys, e⟩ := exR_pre f q l k
  rw [e, List.length_append]; omega
/-- few states: all sets -/
def allS (S : Int) : List W64 := (List.range (2 ^ S.toNat)).map fun (i : Nat) => BitVec.ofNat 64 i
theorem allS_len (S : Int) : (allS S).length = 2 ^ S.toNat := by simp [allS]
theorem mem_allS {S : Int} (hS : 0 ≤ S ∧ S ≤ 64) {q : W64} (h : ∀ i, i < 64 → q.getLsbD i = true → (i : Int) < S) : q ∈ allS S := by
  refine List.mem_map.2 ⟨q.toNat, List.mem_range.2 ?_, by simp⟩
  refine Nat.lt_pow_two_of_testBit q.toNat fun i hi => ?_
  cases hb : q.toNat.testBit i with
  | false => rfl
  | true =>
    have h1 : q.getLsbD i = true := by rw [← BitVec.testBit_toNat]; exact hb
    have h2 : i < 64 := by
      apply Classical.byContradiction
      intro hc
      rw [BitVec.getLsbD_of_ge q i (by omega)] at h1; cases h1
    have := h i h2 h1
    omega
theorem uok_small {n : Nfa} (hv : VN n) (h7 : n.S ≤ 7) : UOk n (allS n.S) where
  st := mem_allS hv.S fun i hi h => by
    have h1 := congrArg (fun x => BitVec.getLsbD x i) hv.st
    simp only [BitVec.getLsbD_and, BitVec.getLsbD_or, BitVec.getLsbD_not, below_bit hv.S i hi, hi] at h1
    apply Classical.byContradiction
    intro hc
    rw [h, decide_eq_false hc] at h1
    simp at h1
  len := by
    rw [allS_len]
    have h1 : 2 ^ n.S.toNat ≤ 2 ^ 7 := Nat.pow_le_pow_right (by omega) (by have := hv.S; omega)
    omega
  step := fun q hq x hx => mem_allS hv.S fun i hi h => by
    obtain ⟨j, k1, k2, k3, k4⟩ := (stpK_get _ (fun j hj => by have h1 := hv.edge hj; have h2 := hv.S; omega)).1 h
    have := hv.edge k1
    omega
end Go.Sx
