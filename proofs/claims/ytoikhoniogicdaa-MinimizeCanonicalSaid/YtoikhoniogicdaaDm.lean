import Derived.Test.YtoikhoniogicdaaDl
set_option linter.unusedVariables false
namespace Go.Sx
/-! ### the first word; running the trimmed one -/
def shoI (d : Dfa) : Option Nat := (List.range (TSt d).length).find? fun i => finQ d ((TSt d).getD i 0)
def ShoV (d : Dfa) : List UInt8 × Bool := if VD d then match shoI d with | some i => ((TWo d).getD i [], true) | none => ([], false) else ([], false)
theorem sho_some {d : Dfa} (hv : VD d) {k : Nat} (h : ∀ j, j < k → finQ d ((TSt d).getD j 0) = false) (hk : k < (TSt d).length) (hf : finQ d ((TSt d).getD k 0) = true) : ShoV d = ((TWo d).getD k [], true) := by
  have e : shoI d = some k := by
    unfold shoI; rw [List.find?_range_eq_some]
    exact ⟨hf, by simpa using hk, fun j hj => by rw [h j hj]; rfl⟩
  unfold ShoV; rw [if_pos hv, e]
theorem sho_none {d : Dfa} (h : VD d → ∀ j, j < (TSt d).length → finQ d ((TSt d).getD j 0) = false) : ShoV d = ([], false) := by
  unfold ShoV
  split
  · rename_i hv
    have e : shoI d = none := by
      unfold shoI; rw [List.find?_range_eq_none]
      exact fun j hj => by rw [h hv j hj]; rfl
    rw [e]
  · rfl
theorem sho_spec {d : Dfa} (hv : VD d) (h : (ShoV d).2 = true) : ∃ i, i < (TSt d).length ∧ finQ d ((TSt d).getD i 0) = true ∧ (∀ j, j < i → finQ d ((TSt d).getD j 0) = false) ∧ (ShoV d).1 = (TWo d).getD i [] := by
  unfold ShoV at h ⊢
  rw [if_pos hv] at h ⊢
  cases e : shoI d with
  | none => rw [e] at h; cases h
  | some i =>
    have e2 := e
    unfold shoI at e2; rw [List.find?_range_eq_some] at e2
    exact ⟨i, by simpa using e2.2.1, e2.1, fun j hj => by simpa using e2.2.2 j hj, rfl⟩
theorem sho_acc {d : Dfa} (hv : VD d) (h : (ShoV d).2 = true) : AccV d (ShoV d).1 = true := by
  obtain ⟨i, hi, hf, _, e⟩ := sho_spec hv h
  obtain ⟨h1, h2⟩ := two_ok hv hi
  rw [e, AccV_of hv h1, h2]; exact hf
theorem two_le {d : Dfa} (hv : VD d) {i j : Nat} (h : i ≤ j) (hj : j < (TSt d).length) : sle ((TWo d).getD i []) ((TWo d).getD j []) := by
  rcases Nat.lt_or_eq_of_le h with h | rfl
  · exact .inl ((two_srt hv).get h (by rw [two_len hv]; exact hj))
  · exact .inr rfl
theorem sho_min {d : Dfa} (hv : VD d) {l : List UInt8} (h : AccV d l = true) : (ShoV d).2 = true ∧ CmpV (ShoV d).1 l ≤ 0 := by
  have hw := acc_valid h
  obtain ⟨hm, hle⟩ := two_min hv hw
  rw [AccV_of hv hw] at h
  have hp := posN_lt hm
  have hg := getD_posN 0 hm
  have h2 : (ShoV d).2 = true := by
    cases e : (ShoV d).2 with
    | true => rfl
    | false =>
      exfalso
      unfold ShoV at e; rw [if_pos hv] at e
      cases e2 : shoI d with
      | some i => rw [e2] at e; cases e
      | none =>
        unfold shoI at e2; rw [List.find?_range_eq_none] at e2
        have := e2 _ hp
        rw [hg] at this
        unfold finQ at this; rw [h] at this; cases this
  refine ⟨h2, ?_⟩
  obtain ⟨i, hi, hf, hj, e⟩ := sho_spec hv h2
  rw [CmpV_le, e]
  have hip : i ≤ posN (TSt d) (runI d d.s l) := by
    rcases Nat.lt_or_ge (posN (TSt d) (runI d d.s l)) i with h3 | h3
    · have := hj _ h3
      rw [hg] at this; unfold finQ at this; rw [h] at this; cases this
    · exact h3
  exact (two_le hv hip hp).trans hle
theorem trim_vd {d : Dfa} (hv : VD d) : VD (trimD d) := by
  have hL := hv.L
  have h := genD_vd (z := (0 : Int)) (L := d.L.toNat) (g := finQ d) (by omega) (start_univ hv) (step_univ hv) (by rw [univ_len]; exact hv.n)
  have e : ((d.L.toNat : Nat) : Int) = d.L := by omega
  rw [e, univ_len] at h
  exact h
theorem trim_run {d : Dfa} (hv : VD d) {l : List UInt8} (hw : validW d.L l = true) : RunV (trimD d) 0 l = ((posN (TSt d) (runI d d.s l) : Nat) : Int) := by
  have hL := hv.L
  have e : ((d.L.toNat : Nat) : Int) = d.L := by omega
  have ha : l.all (okB ((d.L.toNat : Nat) : Int)) = true := by
    rw [e]; unfold validW at hw; rw [Bool.and_eq_true] at hw; exact hw.2
  have hT := TSt_ok hv
  have hs := tst_start hv
  have h := (gen_run (z := (0 : Int)) (g := finQ d) d.L (start_univ hv) (step_univ hv) l d.s (by rw [univ_len]; exact hs.1) ha).1
  rw [univ_len, foldW_stepQ] at h
  have h0 : posN (exI (stepQ d) d.L.toNat d.s 0 d.fin.length) d.s = 0 := hs.2
  rw [h0] at h
  have : RunV (trimD d) 0 l = runI (trimD d) 0 l := by
    unfold RunV; rw [if_pos ⟨(errV_iff _).2 (trim_vd hv), by simp [trimD]; omega, hw⟩]
  rw [this]; exact h
theorem trim_bad {d : Dfa} {l : List UInt8} (hw : validW d.L l = false) : RunV (trimD d) 0 l = -1 := by
  unfold RunV; rw [if_neg]; rintro ⟨_, _, h⟩; rw [show (trimD d).L = d.L from rfl, hw] at h; cases h
end Go.Sx
