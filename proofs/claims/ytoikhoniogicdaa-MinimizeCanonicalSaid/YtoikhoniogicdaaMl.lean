import Derived.Test.YtoikhoniogicdaaMk
set_option linter.unusedVariables false
set_option linter.unusedSectionVars false
set_option linter.unusedSimpArgs false
namespace Go.Sx
/-! ### the loops that turn and double -/
theorem add_modC {q k n : Nat} (hq : q < n) (hk : k < n) : (q + k) % n = if q + k < n then q + k else q + k - n := by
  split
  · rename_i h; exact Nat.mod_eq_of_lt h
  · rename_i h
    rw [Nat.mod_eq_sub_mod (by omega)]
    exact Nat.mod_eq_of_lt (by omega)
theorem plc_inj {n k q c q' c' : Nat} (hk : k < n) (hq : q < n) (hc : c < 2) (hq' : q' < n) (hc' : c' < 2) (h : plc n k q c = plc n k q' c') : q = q' ∧ c = c' := by
  unfold plc at h
  rw [add_modC hq hk, add_modC hq' hk] at h
  rcases (show c = 0 ∨ c = 1 by omega) with rfl | rfl <;> rcases (show c' = 0 ∨ c' = 1 by omega) with rfl | rfl <;>
    (split at h <;> split at h <;> omega)
def OkTo (d : Dfa) (k q x : Nat) (t : Int) : Prop := 0 ≤ t ∧ t < 2 * d.fin.length ∧ t % d.fin.length = ((d.nx.getD q []).getD x 0 + k) % d.fin.length
def DoneF (d : Dfa) (k m : Nat) (F : List Bool) : Prop := F.length = 2 * d.fin.length ∧ ∀ q c, q < d.fin.length → c < 2 → 2 * q + c < m → F.getD (plc d.fin.length k q c) false = d.fin.getD q false
structure DoneR (d : Dfa) (k m : Nat) (R : List (List Int)) : Prop where
  len : R.length = 2 * d.fin.length
  row : ∀ q c, q < d.fin.length → c < 2 → 2 * q + c < m → (R.getD (plc d.fin.length k q c) []).length = (d.nx.getD q []).length
  to : ∀ q c x, q < d.fin.length → c < 2 → 2 * q + c < m → x < (d.nx.getD q []).length → OkTo d k q x ((R.getD (plc d.fin.length k q c) []).getD x 0)
  nil : ∀ q c, q < d.fin.length → c < 2 → m ≤ 2 * q + c → R.getD (plc d.fin.length k q c) [] = []
theorem doneF_zero (d : Dfa) (k : Nat) : DoneF d k 0 (List.replicate (2 * d.fin.length) false) := ⟨by simp, fun q c _ _ h => by omega⟩
theorem doneR_zero (d : Dfa) (k : Nat) : DoneR d k 0 (List.replicate (2 * d.fin.length) []) where
  len := by simp
  row := fun q c _ _ h => by omega
  to := fun q c x _ _ h => by omega
  nil := fun q c hq hc _ => by
    rw [List.getD_eq_getElem?_getD]
    cases h : (List.replicate (2 * d.fin.length) ([] : List Int))[plc d.fin.length k q c]? with
    | none => rfl
    | some u => obtain ⟨h1, h2⟩ := List.getElem?_eq_some_iff.1 h; simpa using h2.symm
theorem getD_setEq {α : Type} {l : List α} {i : Nat} {a z : α} (h : i < l.length) : (l.set i a).getD i z = a := by simp [h]
theorem getD_setNe {α : Type} {l : List α} {i j : Nat} {a z : α} (h : i ≠ j) : (l.set i a).getD j z = l.getD j z := by
  rw [List.getD_eq_getElem?_getD, List.getElem?_set_ne h, ← List.getD_eq_getElem?_getD]
theorem doneF_step {d : Dfa} {k q c m : Nat} {F : List Bool} (h : DoneF d k m F) (hk : k < d.fin.length) (hq : q < d.fin.length) (hc : c < 2) (hm : m = 2 * q + c) : DoneF d k (m + 1) (F.set (plc d.fin.length k q c) (d.fin.getD q false)) := by
  refine ⟨by rw [List.length_set]; exact h.1, fun q' c' hq' hc' hm' => ?_⟩
  by_cases e : plc d.fin.length k q c = plc d.fin.length k q' c'
  · obtain ⟨rfl, rfl⟩ := plc_inj hk hq hc hq' hc' e
    exact getD_setEq (by rw [h.1]; exact plc_lt (by omega) hc)
  · rw [getD_setNe e]
    refine h.2 q' c' hq' hc' ?_
    have : ¬ (q = q' ∧ c = c') := fun hh => e (by rw [hh.1, hh.2])
    omega
theorem doneR_step {d : Dfa} {k q c m : Nat} {R : List (List Int)} {ys : List Int} (h : DoneR d k m R) (hk : k < d.fin.length) (hq : q < d.fin.length) (hc : c < 2) (hm : m = 2 * q + c) (hl : ys.length = (d.nx.getD q []).length) (ht : ∀ x, x < ys.length → OkTo d k q x (ys.getD x 0)) : DoneR d k (m + 1) (R.set (plc d.fin.length k q c) ys) := by
  have hlt : plc d.fin.length k q c < R.length := by rw [h.len]; exact plc_lt (by omega) hc
  have ne : ∀ q' c', q' < d.fin.length → c' < 2 → ¬ (q = q' ∧ c = c') → plc d.fin.length k q c ≠ plc d.fin.length k q' c' := fun q' c' hq' hc' hn e => hn (plc_inj hk hq hc hq' hc' e)
  refine ⟨by rw [List.length_set]; exact h.len, fun q' c' hq' hc' hm' => ?_, fun q' c' x hq' hc' hm' hx => ?_, fun q' c' hq' hc' hm' => ?_⟩
  · by_cases e : q = q' ∧ c = c'
    · obtain ⟨rfl, rfl⟩ := e; rw [getD_setEq hlt]; exact hl
    · rw [getD_setNe (ne q' c' hq' hc' e)]; exact h.row q' c' hq' hc' (by omega)
  · by_cases e : q = q' ∧ c = c'
    · obtain ⟨rfl, rfl⟩ := e; rw [getD_setEq hlt]; exact ht x (by omega)
    · rw [getD_setNe (ne q' c' hq' hc' e)]; exact h.to q' c' x hq' hc' (by omega) hx
  · rw [getD_setNe (ne q' c' hq' hc' (by omega))]; exact h.nil q' c' hq' hc' (by omega)
theorem done_turned {d : Dfa} {k : Nat} {F : List Bool} {R : List (List Int)} (hF : DoneF d k (2 * d.fin.length) F) (hR : DoneR d k (2 * d.fin.length) R) : Turned d k F R :=
  ⟨hF.1, hR.len, fun q c hq hc => hF.2 q c hq hc (by omega), fun q c hq hc => hR.row q c hq hc (by omega), fun q c x hq hc hx => hR.to q c x hq hc (by omega) hx⟩
theorem okTo_0 {d : Dfa} {k q x : Nat} (hn : 0 < d.fin.length) : OkTo d k q x (((d.nx.getD q []).getD x 0 + k) % d.fin.length) := by
  have h1 := Int.emod_nonneg ((d.nx.getD q []).getD x 0 + k) (b := (d.fin.length : Int)) (by omega)
  have h2 := Int.emod_lt_of_pos ((d.nx.getD q []).getD x 0 + k) (b := (d.fin.length : Int)) (by omega)
  exact ⟨h1, by omega, Int.emod_emod_of_dvd _ (Int.dvd_refl _)⟩
theorem okTo_1 {d : Dfa} {k q x : Nat} (hn : 0 < d.fin.length) : OkTo d k q x (((d.nx.getD q []).getD x 0 + k) % d.fin.length + d.fin.length) := by
  have h1 := Int.emod_nonneg ((d.nx.getD q []).getD x 0 + k) (b := (d.fin.length : Int)) (by omega)
  have h2 := Int.emod_lt_of_pos ((d.nx.getD q []).getD x 0 + k) (b := (d.fin.length : Int)) (by omega)
  exact ⟨by omega, by omega, by rw [Int.add_emod_right]; exact Int.emod_emod_of_dvd _ (Int.dvd_refl _)⟩
theorem snoc_all {P : Nat → Int → Prop} {ys : List Int} {t : Int} (h : ∀ x, x < ys.length → P x (ys.getD x 0)) (ht : P ys.length t) : ∀ x, x < (ys ++ [t]).length → P x ((ys ++ [t]).getD x 0) := by
  intro x hx
  rw [List.length_append, List.length_singleton] at hx
  rcases Nat.lt_or_ge x ys.length with h1 | h1
  · rw [List.getD_eq_getElem?_getD, List.getElem?_append_left h1, ← List.getD_eq_getElem?_getD]; exact h x h1
  · have : x = ys.length := by omega
    subst this
    simpa using ht
end Go.Sx
