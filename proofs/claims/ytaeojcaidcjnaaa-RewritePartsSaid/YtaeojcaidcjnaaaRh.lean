import Derived.Test.YtaeojcaidcjnaaaRg
set_option linter.unusedVariables false
set_option linter.unusedSimpArgs false
namespace Go.Sx
open Go.RowKit
/-- the tape behind k steps; no rule begins at a place from e on -/
structure RedI (rs : List Rul) (N : List Wrd) (fd : List Int) (m k e : Nat) (u T : Wrd) (R : List Int) : Prop where
  kl : k ≤ 100000
  el : e ≤ T.length
  tl : T.length ≤ m
  al : ∀ j, j < T.length → 97 ≤ (T.getD j 0).toNat ∧ (T.getD j 0).toNat < 103
  rl : R.length = T.length
  ok : ∀ j, j < T.length → StA N T j (R.getD j 0)
  neg : ∀ j, e ≤ j → j < T.length → fd.getD (R.getD j 0).toNat 0 < 0
  red : redF rs (100000 - k) T.reverse = redF rs 100000 u
section
variable {rs : List Rul} {N : List Wrd} {fd fl : List Int} {m k e : Nat} {u T : Wrd} {R : List Int} {L : Int}
theorem RedI.lower (h : RedI rs N fd m k e u T R) (he : 1 ≤ e) {t : Nat} (ht : R.getD (e - 1) 0 = (t : Int)) (hn : fd.getD t 0 < 0) : RedI rs N fd m k (e - 1) u T R where
  kl := h.kl
  el := by have := h.el; omega
  tl := h.tl
  al := h.al
  rl := h.rl
  ok := h.ok
  neg := fun j h1 h2 => by
    by_cases hj : j = e - 1
    · rw [hj, ht]; exact hn
    · exact h.neg j (by omega) h2
  red := h.red
theorem RedI.no (h : RedI rs N fd m k e u T R) (hF : FinOK (pats (m : Int) rs) N fl fd) (hV : VR L rs) {j : Nat} (h1 : e ≤ j) (h2 : j < T.length) : ruleAt rs (tw T j) = none := by
  obtain ⟨t, ht, _⟩ := (h.ok j h2).nat
  have h3 := h.neg j h1 h2
  have h4 := h.ok j h2
  rw [ht] at h3 h4
  exact fd_neg hF hV h2 h.tl h4 h3
theorem RedI.stop (h : RedI rs N fd m k e u T R) (hF : FinOK (pats (m : Int) rs) N fl fd) (hV : VR L rs) (he : e = 0) : redF rs 100000 u = some T.reverse := by
  rw [← h.red]
  exact redF_none (once_end fun j hj => h.no hF hV (by omega) hj)
theorem RedI.at (h : RedI rs N fd m k e u T R) (hF : FinOK (pats (m : Int) rs) N fl fd) (hV : VR L rs) (he : 1 ≤ e) {t : Nat} (ht : R.getD (e - 1) 0 = (t : Int)) (hn : ¬ fd.getD t 0 < 0) :
    ∃ i : Nat, fd.getD t 0 = (i : Int) ∧ i < rs.length ∧ (rs.getD i ([], [])).1.reverse <:+ T.take (e - 1 + 1) ∧ once rs T.reverse = some (newT T (e - 1) (rs.getD i ([], []))).reverse := by
  have hel := h.el
  have h4 := h.ok (e - 1) (by omega)
  rw [ht] at h4
  obtain ⟨i, e1, e2, e3, e4⟩ := fd_pos hF hV (by omega) h.tl h4 hn
  exact ⟨i, e1, e2, e4, once_tape (by omega) e3 (fun j h1 h2 => h.no hF hV (by omega) h2) e4⟩
theorem RedI.limit (h : RedI rs N fd m k e u T R) (hk : k = 100000) {v : Wrd} (ho : once rs T.reverse = some v) : redF rs 100000 u = none := by
  rw [← h.red, hk, Nat.sub_self]
  exact redF_zero ho
theorem RedI.step (h : RedI rs N fd m k e u T R) (hk : k ≠ 100000) (he : 1 ≤ e) {r : Rul} (ho : once rs T.reverse = some (newT T (e - 1) r).reverse) (hs : r.1.reverse <:+ T.take (e - 1 + 1)) (hlr : r.2.length ≤ r.1.length) (hal : Al r.2)
    {R' : List Int} (hok : ∀ j, j < (newT T (e - 1) r).length → StA N (newT T (e - 1) r) j (R'.getD j 0)) (hR : R'.length = (newT T (e - 1) r).length) {e' : Nat} (he' : e' ≤ (newT T (e - 1) r).length)
    (hn : ∀ j, e' ≤ j → j < (newT T (e - 1) r).length → e - 1 < j + (r.1.length - r.2.length) ∧ R'.getD j 0 = R.getD (j + (r.1.length - r.2.length)) 0) : RedI rs N fd m (k + 1) e' u (newT T (e - 1) r) R' where
  kl := by have := h.kl; omega
  el := he'
  tl := by rw [newT_len (by have := h.el; omega) hs hlr]; have := h.tl; omega
  al := newT_al h.al hal
  rl := hR
  ok := hok
  neg := fun j h1 h2 => by
    obtain ⟨h3, h4⟩ := hn j h1 h2
    rw [h4]
    rw [newT_len (by have := h.el; omega) hs hlr] at h2
    exact h.neg _ (by omega) (by omega)
  red := by
    rw [← h.red, show 100000 - k = (100000 - (k + 1)) + 1 by have := h.kl; omega, redF_some ho]
theorem RedI.init (hu : Al u) (hm : u.length ≤ m) {R : List Int} (hok : ∀ j, j < u.reverse.length → StA N u.reverse j (R.getD j 0)) (hR : R.length = u.reverse.length) : RedI rs N fd m 0 u.reverse.length u u.reverse R where
  kl := by omega
  el := Nat.le_refl _
  tl := by rw [List.length_reverse]; exact hm
  al := (al_rev hu).2
  rl := hR
  ok := hok
  neg := fun j h1 h2 => by omega
  red := by rw [List.reverse_reverse]
/-- what reduce answers -/
def redV (rs : List Rul) (u : Wrd) : Wrd := (redF rs 100000 u).getD []
def redE (rs : List Rul) (u : Wrd) : Int := if (redF rs 100000 u).isSome then 0 else 3
theorem red_some {rs : List Rul} {u v : Wrd} (h : redF rs 100000 u = some v) : redV rs u = v ∧ redE rs u = 0 := by simp [redV, redE, h]
theorem red_none {rs : List Rul} {u : Wrd} (h : redF rs 100000 u = none) : redV rs u = [] ∧ redE rs u = 3 := by simp [redV, redE, h]
end
end Go.Sx
