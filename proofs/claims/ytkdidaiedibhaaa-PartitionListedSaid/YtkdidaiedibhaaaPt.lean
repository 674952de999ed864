import Derived.Test.YtkdidaiedibhaaaPz
set_option linter.unusedVariables false
namespace Go.Sx
/-! ### the order of lists -/
def lessB : List Int → List Int → Bool
  | [], [] => false
  | [], _ :: _ => true
  | _ :: _, [] => false
  | x :: xs, y :: ys => if x = y then lessB xs ys else decide (x < y)
theorem lessB_step {xs ys : List Int} {k : Nat} (h1 : k < xs.length) (h2 : k < ys.length) (he : xs.getD k 0 = ys.getD k 0) : lessB (xs.drop (k + 1)) (ys.drop (k + 1)) = lessB (xs.drop k) (ys.drop k) := by
  rw [List.drop_eq_getElem_cons h1, List.drop_eq_getElem_cons h2]
  simp [List.getD_eq_getElem?_getD, h1, h2] at he
  simp [lessB, he]
theorem lessB_ne {xs ys : List Int} {k : Nat} (h1 : k < xs.length) (h2 : k < ys.length) (he : ¬ xs.getD k 0 = ys.getD k 0) : lessB (xs.drop k) (ys.drop k) = decide (xs.getD k 0 < ys.getD k 0) := by
  rw [List.drop_eq_getElem_cons h1, List.drop_eq_getElem_cons h2]
  have e1 : xs.getD k 0 = xs[k] := by simp [List.getD_eq_getElem?_getD, h1]
  have e2 : ys.getD k 0 = ys[k] := by simp [List.getD_eq_getElem?_getD, h2]
  rw [e1, e2] at he ⊢
  simp only [lessB]
  rw [if_neg he]
theorem lessB_end {xs ys : List Int} {k : Nat} (h1 : k ≤ xs.length) (h2 : k ≤ ys.length) (h : k = xs.length ∨ k = ys.length) : lessB (xs.drop k) (ys.drop k) = decide (xs.length < ys.length) := by
  rcases Nat.lt_or_ge k xs.length with hx | hx
  · have hy : k = ys.length := by omega
    rw [List.drop_eq_getElem_cons hx, List.drop_eq_nil_of_le (show ys.length ≤ k by omega)]
    simp [lessB]; omega
  · rw [List.drop_eq_nil_of_le hx]
    rcases Nat.lt_or_ge k ys.length with hy | hy
    · rw [List.drop_eq_getElem_cons hy]; simp [lessB]; omega
    · rw [List.drop_eq_nil_of_le hy]; simp [lessB]; omega
def sortedB : List (List Int) → Bool
  | a :: b :: l => lessB a b && sortedB (b :: l)
  | _ => true
theorem sortedB_at : ∀ (l : List (List Int)), sortedB l = true → ∀ i, i + 1 < l.length → lessB (l.getD i []) (l.getD (i + 1) []) = true
  | [], _, i, h => by simp at h
  | [a], _, i, h => by simp at h
  | a :: b :: l, hs, 0, _ => by simp [sortedB] at hs; simpa using hs.1
  | a :: b :: l, hs, i + 1, h => by
    simp [sortedB] at hs
    have := sortedB_at (b :: l) hs.2 i (by simpa using h)
    simpa using this
theorem allB_sorted : ∀ k, k < 7 → sortedB (allB k) = true := by decide +kernel
/-- how often xs is met -/
def cntE (xs : List Int) (l : List (List Int)) : Nat := l.countP (fun q => decide (q = xs))
theorem cntE_snoc (xs : List Int) (l : List (List Int)) (q : List Int) : cntE xs (l ++ [q]) = cntE xs l + if q = xs then 1 else 0 := by
  unfold cntE
  rw [List.countP_append]
  by_cases h : q = xs <;> simp [h]
theorem cntE_le (xs : List Int) (l : List (List Int)) : cntE xs l ≤ l.length := List.countP_le_length
theorem allB_once : ∀ k, k < 7 → ∀ xs ∈ allB k, cntE xs (allB k) = 1 := by decide +kernel
end Go.Sx
