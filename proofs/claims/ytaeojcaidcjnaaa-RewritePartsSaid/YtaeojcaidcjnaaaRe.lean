import Derived.Test.YtaeojcaidcjnaaaRd
set_option linter.unusedVariables false
set_option linter.unusedSimpArgs false
namespace Go.Sx
open Go.RowKit
/-- the patterns: the reversed Lefts that are not too long -/
def patR (m : Int) (r : Rul) : Wrd := if (r.1.length : Int) ≤ m then r.1.reverse else []
def pats (m : Int) (rs : List Rul) : List Wrd := rs.map (patR m)
theorem pats_len (m : Int) (rs : List Rul) : (pats m rs).length = rs.length := by simp [pats]
theorem pats_get (m : Int) (rs : List Rul) {k : Nat} (h : k < rs.length) : (pats m rs).getD k [] = patR m (rs.getD k ([], [])) := by
  simp [pats, List.getD_eq_getElem?_getD, List.getElem?_eq_getElem h]
theorem validW_al {L : Int} {u : Wrd} (h : validW L u = true) : Al u := by
  have := validW_iff.1 h
  exact ⟨this.1.2.2, fun k hk => by have := this.2 k hk; omega⟩
theorem al_rev {u : Wrd} (h : Al u) : Al u.reverse := by
  refine ⟨by rw [List.length_reverse]; exact h.1, fun k hk => ?_⟩
  rw [List.length_reverse] at hk
  have := h.2 (u.length - 1 - k) (by omega)
  rw [List.getD_eq_getElem?_getD, List.getElem?_reverse hk, ← List.getD_eq_getElem?_getD]; exact this
theorem al_pats {L m : Int} {rs : List Rul} (h : VR L rs) : ∀ k, k < (pats m rs).length → Al ((pats m rs).getD k []) := by
  intro k hk
  rw [pats_len] at hk
  rw [pats_get m rs hk]
  unfold patR
  split
  · exact al_rev (validW_al (h.v _ (getD_mem hk)).1)
  · exact ⟨by simp, fun k hk => by simp at hk⟩
theorem fill_skip {A : List Wrd} {c : Wrd} {n k : Nat} (hc : c = []) (hk : k < n) : A ++ List.replicate (n - k) [] = (A ++ [c]) ++ List.replicate (n - (k + 1)) [] := by
  subst hc
  rw [show n - k = (n - (k + 1)) + 1 by omega, List.replicate_succ]; simp
theorem pats_fill (m : Int) (rs : List Rul) (k : Nat) (hk : k < rs.length) : (pats m rs).take (k + 1) = (pats m rs).take k ++ [patR m (rs.getD k ([], []))] := by
  rw [take_snocD [] (pats m rs) k (by rw [pats_len]; exact hk), pats_get m rs hk]
end Go.Sx
