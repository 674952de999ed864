import Derived.Test.YtoikhoniogicdaaDc
set_option linter.unusedVariables false
namespace Go.Sx
/-! ### counting -/
def MM : Int := 2305843009213693951
def addC (cnt : List Int) (p : Nat) (row : List Int) (l : List Int) (k : Nat) : List Int :=
  (List.range k).foldl (fun l x => l.set (row.getD x 0).toNat ((l.getD (row.getD x 0).toNat 0 + cnt.getD p 0) % MM)) l
def cstepK (d : Dfa) (cnt : List Int) (k : Nat) : List Int :=
  (List.range k).foldl (fun l p => addC cnt p (d.nx.getD p []) l (d.nx.getD p []).length) (List.replicate d.fin.length 0)
def cntI (d : Dfa) : Nat → List Int
  | 0 => (List.replicate d.fin.length (0 : Int)).set d.s.toNat 1
  | k + 1 => cstepK d (cntI d k) d.nx.length
def sumK (d : Dfa) (cnt : List Int) (k : Nat) : Int := (List.range k).foldl (fun s q => if d.fin.getD q false then (s + cnt.getD q 0) % MM else s) 0
def CountV (d : Dfa) (n : Int) : Int := if errV d = 0 ∧ 0 ≤ n ∧ n ≤ 10000 then sumK d (cntI d n.toNat) d.fin.length else 0
/-- n numbers, reduced -/
def Red (n : Nat) (l : List Int) : Prop := l.length = n ∧ ∀ i, 0 ≤ l.getD i 0 ∧ l.getD i 0 < MM
theorem Red.set {n : Nat} {l : List Int} (h : Red n l) (i : Nat) {v : Int} (hv : 0 ≤ v ∧ v < MM) : Red n (l.set i v) := by
  refine ⟨by simp [h.1], fun j => ?_⟩
  rw [List.getD_eq_getElem?_getD, List.getElem?_set]
  have := h.2 j
  rw [List.getD_eq_getElem?_getD] at this
  split
  · split
    · exact hv
    · simp [MM]
  · exact this
theorem mm_bd (a : Int) : 0 ≤ a % MM ∧ a % MM < MM := ⟨Int.emod_nonneg _ (by decide), Int.emod_lt_of_pos _ (by decide)⟩
theorem Red.zero (n : Nat) : Red n (List.replicate n 0) := by
  refine ⟨by simp, fun i => ?_⟩
  rw [List.getD_eq_getElem?_getD, List.getElem?_replicate]
  split <;> simp [MM]
theorem addC_succ {cnt : List Int} {p : Nat} {row l : List Int} {k : Nat} : addC cnt p row l (k + 1) = (addC cnt p row l k).set (row.getD k 0).toNat (((addC cnt p row l k).getD (row.getD k 0).toNat 0 + cnt.getD p 0) % MM) := by
  unfold addC; rw [List.range_succ, List.foldl_append]; rfl
theorem addC_red {n : Nat} {cnt : List Int} {p : Nat} {row l : List Int} (h : Red n l) : ∀ k, Red n (addC cnt p row l k)
  | 0 => h
  | k + 1 => by rw [addC_succ]; exact (addC_red h k).set _ (mm_bd _)
theorem cstepK_succ {d : Dfa} {cnt : List Int} {k : Nat} : cstepK d cnt (k + 1) = addC cnt k (d.nx.getD k []) (cstepK d cnt k) (d.nx.getD k []).length := by
  unfold cstepK; rw [List.range_succ, List.foldl_append]; rfl
theorem cstepK_red {d : Dfa} {cnt : List Int} : ∀ k, Red d.fin.length (cstepK d cnt k)
  | 0 => Red.zero _
  | k + 1 => by rw [cstepK_succ]; exact addC_red (cstepK_red k) _
theorem cntI_red {d : Dfa} : ∀ k, Red d.fin.length (cntI d k)
  | 0 => (Red.zero _).set _ ⟨by decide, by decide⟩
  | k + 1 => cstepK_red _
theorem sumK_succ {d : Dfa} {cnt : List Int} {k : Nat} : sumK d cnt (k + 1) = if d.fin.getD k false then (sumK d cnt k + cnt.getD k 0) % MM else sumK d cnt k := by
  unfold sumK; rw [List.range_succ, List.foldl_append]; rfl
theorem sumK_bd {d : Dfa} {cnt : List Int} : ∀ k, 0 ≤ sumK d cnt k ∧ sumK d cnt k < MM
  | 0 => ⟨Int.le_refl 0, by show (0 : Int) < MM; decide⟩
  | k + 1 => by rw [sumK_succ]; split; exact mm_bd _; exact sumK_bd k
theorem CountV_bd (d : Dfa) (n : Int) : 0 ≤ CountV d n ∧ CountV d n < MM := by
  unfold CountV; split
  · exact sumK_bd _
  · decide
end Go.Sx
