import Derived.Test.YtoikhoniogicdaaSn
set_option linter.unusedVariables false
namespace Go.Sx
/-! ### 7.1 -/
def badQ (n : Int) (q : Int) : Bool := decide (q < 0) || decide (n ≤ q)
def badRow (n L : Int) (r : List Int) : Bool := decide ((r.length : Int) ≠ L) || r.any (badQ n)
def errV (d : Dfa) : Int :=
  if d.L < 1 ∨ 6 < d.L then 1
  else if 512 < d.fin.length then 3
  else if d.nx.length ≠ d.fin.length ∨ d.s < 0 ∨ (d.fin.length : Int) ≤ d.s then 4
  else if d.nx.any (badRow d.fin.length d.L) then 4 else 0
theorem any_take_succ {α : Type} (p : α → Bool) (d : α) {xs : List α} {k : Nat} (hk : k < xs.length) (h : (xs.take k).any p = false) (h1 : p (xs.getD k d) = false) : (xs.take (k + 1)).any p = false := by
  rw [take_snocD d xs k hk, List.any_append, h, List.any_cons, h1]; rfl
theorem any_at {α : Type} (p : α → Bool) (d : α) {xs : List α} {k : Nat} (hk : k < xs.length) (h1 : p (xs.getD k d) = true) : xs.any p = true := by
  rw [List.any_eq_true]
  refine ⟨xs.getD k d, ?_, h1⟩
  rw [List.getD_eq_getElem?_getD, List.getElem?_eq_getElem hk]; simp
structure VD (d : Dfa) : Prop where
  L : 1 ≤ d.L ∧ d.L ≤ 6
  n : d.fin.length ≤ 512
  nx : d.nx.length = d.fin.length
  s : 0 ≤ d.s ∧ d.s < d.fin.length
  row : ∀ i, i < d.fin.length → ((d.nx.getD i []).length : Int) = d.L
  to : ∀ i x, i < d.fin.length → x < (d.nx.getD i []).length → 0 ≤ (d.nx.getD i []).getD x 0 ∧ (d.nx.getD i []).getD x 0 < d.fin.length
theorem getD_mem {α : Type} {d : α} {xs : List α} {k : Nat} (hk : k < xs.length) : xs.getD k d ∈ xs := by
  rw [List.getD_eq_getElem?_getD, List.getElem?_eq_getElem hk]; simp
theorem mem_getD {α : Type} (d : α) {xs : List α} {a : α} (h : a ∈ xs) : ∃ k, k < xs.length ∧ xs.getD k d = a := by
  obtain ⟨k, hk, e⟩ := List.mem_iff_getElem.1 h
  exact ⟨k, hk, by rw [List.getD_eq_getElem?_getD, List.getElem?_eq_getElem hk]; simpa using e⟩
theorem errV_iff (d : Dfa) : errV d = 0 ↔ VD d := by
  unfold errV
  constructor
  · intro h
    split at h
    · omega
    · split at h
      · omega
      · split at h
        · omega
        · split at h
          · omega
          · rename_i h1 h2 h3 h4
            have h5 : ∀ i, i < d.fin.length → badRow d.fin.length d.L (d.nx.getD i []) = false := fun i hi => by
              cases hb : badRow d.fin.length d.L (d.nx.getD i []) with
              | false => rfl
              | true => exact absurd (any_at _ [] (by omega) hb) h4
            refine ⟨by omega, by omega, by omega, by omega, fun i hi => ?_, fun i x hi hx => ?_⟩
            · have := h5 i hi
              simp only [badRow, Bool.or_eq_false_iff, decide_eq_false_iff_not, ne_eq, Decidable.not_not] at this
              exact this.1
            · have := h5 i hi
              simp only [badRow, Bool.or_eq_false_iff, List.any_eq_false] at this
              have := this.2 _ (getD_mem (d := 0) hx)
              simp only [badQ, Bool.or_eq_true, decide_eq_true_eq] at this
              omega
  · intro h
    have h1 := h.L; have h2 := h.n; have h3 := h.nx; have h4 := h.s
    rw [if_neg (by omega), if_neg (by omega), if_neg (by omega), if_neg]
    rw [List.any_eq_true]
    rintro ⟨r, hr, hb⟩
    obtain ⟨i, hi, e⟩ := mem_getD [] hr
    subst e
    have h5 := h.row i (by omega)
    simp only [badRow, h5, ne_eq, not_true_eq_false, decide_false, Bool.false_or, List.any_eq_true] at hb
    obtain ⟨q, hq, hb⟩ := hb
    obtain ⟨x, hx, e⟩ := mem_getD 0 hq
    subst e
    have := h.to i x (by omega) hx
    simp only [badQ, Bool.or_eq_true, decide_eq_true_eq] at hb
    omega
instance (d : Dfa) : Decidable (VD d) := decidable_of_iff _ (errV_iff d)
theorem errV_bad (d : Dfa) (h : ¬ VD d) : errV d ≠ 0 := fun e => h ((errV_iff d).1 e)
end Go.Sx
