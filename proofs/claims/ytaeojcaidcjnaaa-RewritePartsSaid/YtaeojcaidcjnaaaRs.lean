import Derived.Test.YtaeojcaidcjnaaaRr
set_option linter.unusedVariables false
set_option linter.unusedSimpArgs false
namespace Go.Sx
open Go.RowKit
section
variable {rs : List Rul} {i j k p : Nat}
/-- what the reference has come to -/
def rp2 (rs : List Rul) (i j k : Nat) : List Crit := crI rs i ++ crJ rs i j ++ up (ovP (rs.getD i ([], [])) (rs.getD j ([], []))) (ovk (rs.getD i ([], [])) (rs.getD j ([], []))) k
def rp3 (rs : List Rul) (i j p : Nat) : List Crit := crI rs i ++ crJ rs i j ++ ovl (rs.getD i ([], [])) (rs.getD j ([], [])) ++ up (cnP (rs.getD i ([], [])) (rs.getD j ([], []))) (cnk (rs.getD i ([], [])) (rs.getD j ([], []))) p
theorem rp2_one : rp2 rs i j 1 = crI rs i ++ crJ rs i j := by unfold rp2; rw [up_no (ovP_zero _ _)]; simp [up]
theorem rp2_yes (h1 : 1 ≤ k) (h : (rs.getD i ([], [])).1.drop ((rs.getD i ([], [])).1.length - k) = (rs.getD j ([], [])).1.take k) : rp2 rs i j (k + 1) = rp2 rs i j k ++ [ovk (rs.getD i ([], [])) (rs.getD j ([], [])) k] := by
  unfold rp2
  rw [up_yes (by unfold ovP; rw [decide_eq_true h1, decide_eq_true h.symm]; rfl)]
  simp only [List.append_assoc]
theorem rp2_no (h : ¬ (rs.getD i ([], [])).1.drop ((rs.getD i ([], [])).1.length - k) = (rs.getD j ([], [])).1.take k) : rp2 rs i j (k + 1) = rp2 rs i j k := by
  unfold rp2
  rw [up_no (by unfold ovP; rw [Bool.and_eq_false_iff]; exact .inr (decide_eq_false (fun e => h e.symm)))]
theorem rp2_end (h1 : 1 ≤ k) (h2 : k ≤ min (rs.getD i ([], [])).1.length (rs.getD j ([], [])).1.length ∨ k = 1) (h3 : ¬ k < min (rs.getD i ([], [])).1.length (rs.getD j ([], [])).1.length) : rp2 rs i j k = rp3 rs i j 0 := by
  unfold rp2 rp3
  rw [ovl_end h1 h2 h3]; simp [up]
theorem rp3_yes (h : ((rs.getD i ([], [])).1.drop p).take (rs.getD j ([], [])).1.length = (rs.getD j ([], [])).1) : rp3 rs i j (p + 1) = rp3 rs i j p ++ [cnk (rs.getD i ([], [])) (rs.getD j ([], [])) p] := by
  unfold rp3
  rw [up_yes (List.isPrefixOf_iff_prefix.2 (pre_eq h))]
  simp only [List.append_assoc]
theorem rp3_no (h : ¬ ((rs.getD i ([], [])).1.drop p).take (rs.getD j ([], [])).1.length = (rs.getD j ([], [])).1) : rp3 rs i j (p + 1) = rp3 rs i j p := by
  unfold rp3
  have hP : cnP (rs.getD i ([], [])) (rs.getD j ([], [])) p = false := by
    cases hc : cnP (rs.getD i ([], [])) (rs.getD j ([], [])) p
    · rfl
    · exact absurd (List.isPrefixOf_iff_prefix.1 hc) (noPre_eq h)
  rw [up_no hP]
theorem rp3_end (hp : p ≤ (rs.getD i ([], [])).1.length + 1) (hij : i = j → p = 0) (h : i ≠ j → (rs.getD i ([], [])).1.length < p + (rs.getD j ([], [])).1.length) : rp3 rs i j p = crI rs i ++ crJ rs i (j + 1) := by
  unfold rp3
  by_cases e : i = j
  · subst e
    rw [crJ_eq, hij rfl, ← List.append_assoc]; simp [up]
  · rw [crJ_ne e, cnl_end hp (fun q h1 h2 => ?_)]
    · simp only [List.append_assoc]
    · cases hc : cnP (rs.getD i ([], [])) (rs.getD j ([], [])) q
      · rfl
      · have := (List.isPrefixOf_iff_prefix.1 hc).length_le
        rw [List.length_drop] at this
        have := h e
        have h9 := (List.isPrefixOf_iff_prefix.1 hc).length_le
        rw [List.length_drop] at h9
        omega
theorem rp2_pre (hi : i < rs.length) (hj : j < rs.length) (h1 : 1 ≤ k) (h2 : k ≤ min (rs.getD i ([], [])).1.length (rs.getD j ([], [])).1.length ∨ k = 1) : rp2 rs i j k <+: crA rs := by
  refine cr_pre1 hi hj ?_
  rcases (show k ≤ min (rs.getD i ([], [])).1.length (rs.getD j ([], [])).1.length ∨ (k = 1 ∧ min (rs.getD i ([], [])).1.length (rs.getD j ([], [])).1.length = 0) by omega) with h | ⟨rfl, h⟩
  · have := up_pre (P := ovP (rs.getD i ([], [])) (rs.getD j ([], []))) (f := ovk (rs.getD i ([], [])) (rs.getD j ([], []))) k (min (rs.getD i ([], [])).1.length (rs.getD j ([], [])).1.length - k)
    rw [show k + (min (rs.getD i ([], [])).1.length (rs.getD j ([], [])).1.length - k) = min (rs.getD i ([], [])).1.length (rs.getD j ([], [])).1.length by omega] at this
    exact this
  · rw [up_no (ovP_zero _ _)]; exact List.nil_prefix
theorem rp3_pre (hi : i < rs.length) (hj : j < rs.length) (hp : p ≤ (rs.getD i ([], [])).1.length + 1) (hij : i = j → p = 0) : rp3 rs i j p <+: crA rs := by
  by_cases e : i = j
  · subst e
    rw [hij rfl]
    have := cr_pre (rs := rs) hi hi
    rw [crJ_eq] at this
    unfold rp3
    simp only [up, List.append_nil]
    rw [List.append_assoc]; exact this
  · refine cr_pre2 hi hj e ?_
    have := up_pre (P := cnP (rs.getD i ([], [])) (rs.getD j ([], []))) (f := cnk (rs.getD i ([], [])) (rs.getD j ([], []))) p ((rs.getD i ([], [])).1.length + 1 - p)
    rw [show p + ((rs.getD i ([], [])).1.length + 1 - p) = (rs.getD i ([], [])).1.length + 1 by omega] at this
    exact this
end
end Go.Sx
