import Derived.Test.YtaeojcaidcjnaaaXDP
set_option linter.unusedVariables false
namespace Go.Sx
/-! ### which states are live, round by round -/
def Snd (d : Dfa) (l : List Bool) : Prop := ∀ q : Nat, q < d.fin.length → l.getD q false = true → Liv d (q : Int)
def LG1 (d : Dfa) (k q : Nat) (l : List Bool) : Prop := l.length = d.fin.length ∧ Snd d l ∧ (∀ p : Nat, p < d.fin.length → ∀ r, r ≤ k → Wd d r (p : Int) → l.getD p false = true) ∧ ∀ p : Nat, p < q → ∀ r, r ≤ k + 1 → Wd d r (p : Int) → l.getD p false = true
def LG2 (d : Dfa) (k q j : Nat) (l : List Bool) : Prop := LG1 d k q l ∧ ∀ x, x < j → ∀ r, r ≤ k → Wd d r (stepQ d q x) → l.getD q false = true
theorem LG1.len {d : Dfa} {k q : Nat} {l : List Bool} (h : LG1 d k q l) : l.length = d.fin.length := h.1
theorem LG2.len {d : Dfa} {k q j : Nat} {l : List Bool} (h : LG2 d k q j l) : l.length = d.fin.length := h.1.1
theorem LG1.zero (d : Dfa) : LG1 d 0 0 d.fin := by
  refine ⟨rfl, fun q hq h => ⟨[], rfl, h⟩, fun p hp r hr h => ?_, fun p hp => by omega⟩
  obtain ⟨l, h1, h2, h3⟩ := h
  have : l = [] := List.length_eq_zero_iff.1 (by omega)
  subst this; exact h3
theorem LG1.next {d : Dfa} {k q : Nat} {l : List Bool} (h : LG1 d k q l) (hq : q = d.fin.length) : LG1 d (k + 1) 0 l := by
  subst hq; exact ⟨h.1, h.2.1, h.2.2.2, fun p hp => by omega⟩
theorem LG1.in_ {d : Dfa} {k q : Nat} {l : List Bool} (h : LG1 d k q l) : LG2 d k q 0 l := ⟨h, fun x hx => by omega⟩
theorem getD_set_or {l : List Bool} {q p : Nat} (b : Bool) (h : l.getD p false = true) (hb : p = q → b = true) : (l.set q b).getD p false = true := by
  rw [List.getD_eq_getElem?_getD, List.getElem?_set]
  split
  · rename_i e
    split
    · exact hb e.symm
    · rename_i hp
      rw [List.getD_eq_getElem?_getD] at h
      rw [List.getElem?_eq_none (by omega)] at h; cases h
  · rw [List.getD_eq_getElem?_getD] at h; exact h
theorem LG2.step {d : Dfa} (hv : VD d) {k q j : Nat} {l : List Bool} (h : LG2 d k q j l) (hq : q < d.fin.length) (hj : (j : Int) < d.L) :
    LG2 d k q (j + 1) (l.set q (l.getD q false || l.getD (stepQ d q j).toNat false)) := by
  have hL := hv.L
  have ht : InR d (stepQ d q j) := by
    have hr := hv.row q hq
    exact hv.to q j hq (by omega)
  have e0 : (((stepQ d q j).toNat : Nat) : Int) = stepQ d q j := by have := ht.1; omega
  have up : ∀ p, l.getD p false = true → (l.set q (l.getD q false || l.getD (stepQ d q j).toNat false)).getD p false = true := fun p hp => getD_set_or _ hp (fun e => by rw [← e, hp]; rfl)
  refine ⟨⟨by simp [h.1.1], ?_, fun p hp r hr hw => up p (h.1.2.2.1 p hp r hr hw), fun p hp r hr hw => up p (h.1.2.2.2 p hp r hr hw)⟩, ?_⟩
  · intro p hp hg
    by_cases e : p = q
    · subst e
      rw [List.getD_eq_getElem?_getD, List.getElem?_set, if_pos rfl, if_pos (by rw [h.1.1]; exact hp)] at hg
      simp only [Option.getD_some, Bool.or_eq_true] at hg
      rcases hg with hg | hg
      · exact h.1.2.1 p hp hg
      · obtain ⟨w, h1, h2⟩ := h.1.2.1 _ (by have := ht.1; have := ht.2; omega) hg
        rw [e0] at h2
        refine ⟨ltr j :: w, ?_, ?_⟩
        · unfold Okw at *; rw [List.all_cons, h1, okB_ltr hL hj]; rfl
        · show finQ d (runI d (stepI d p (ltr j)) w) = true
          rw [stepI_ltr (by omega)]; exact h2
    · rw [List.getD_eq_getElem?_getD, List.getElem?_set, if_neg (fun h => e h.symm), ← List.getD_eq_getElem?_getD] at hg
      exact h.1.2.1 p hp hg
  · intro x hx r hr hw
    rcases Nat.lt_or_eq_of_le (Nat.le_of_lt_succ hx) with hx | rfl
    · exact up q (h.2 x hx r hr hw)
    · have h1 := h.1.2.2.1 (stepQ d q x).toNat (by have := ht.1; have := ht.2; omega) r hr (by rw [e0]; exact hw)
      rw [List.getD_eq_getElem?_getD, List.getElem?_set, if_pos rfl, if_pos (by rw [h.1.1]; exact hq), h1]
      simp
theorem LG2.out {d : Dfa} (hv : VD d) {k q j : Nat} {l : List Bool} (h : LG2 d k q j l) (hq : q < d.fin.length) (hj : (j : Int) = d.L) : LG1 d k (q + 1) l := by
  have hL := hv.L
  refine ⟨h.1.1, h.1.2.1, h.1.2.2.1, fun p hp r hr hw => ?_⟩
  rcases Nat.lt_or_eq_of_le (Nat.le_of_lt_succ hp) with hp | rfl
  · exact h.1.2.2.2 p hp r hr hw
  · obtain ⟨w, h1, h2, h3⟩ := hw
    cases w with
    | nil => exact h.1.2.2.1 p hq 0 (Nat.zero_le _) ⟨[], rfl, rfl, h3⟩
    | cons c w =>
      unfold Okw at h2; rw [List.all_cons, Bool.and_eq_true] at h2
      have hc := h2.1
      simp only [okB, decide_eq_true_eq] at hc
      simp only [List.length_cons] at h1
      refine h.2 ((c.toNat : Int) - 97).toNat (by omega) (r - 1) (by omega) ⟨w, by omega, h2.2, ?_⟩
      exact h3
theorem LG1.fin {d : Dfa} (hv : VD d) {k : Nat} {l : List Bool} (h : LG1 d k 0 l) (hk : k = d.fin.length) : ∀ q, InR d q → (l.getD q.toNat false = true ↔ Liv d q) := by
  intro q hq
  have e : ((q.toNat : Nat) : Int) = q := by have := hq.1; omega
  constructor
  · intro hg
    have := h.2.1 q.toNat (by have := hq.1; have := hq.2; omega) hg
    rwa [e] at this
  · intro hl
    obtain ⟨r, hr, hw⟩ := liv_short hv hq hl
    exact h.2.2.1 q.toNat (by have := hq.1; have := hq.2; omega) r (by omega) (by rw [e]; exact hw)
end Go.Sx
