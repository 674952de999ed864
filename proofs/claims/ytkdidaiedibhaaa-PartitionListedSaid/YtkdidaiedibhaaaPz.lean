import Derived.Test.YtkdidaiedibhaaaPy
set_option linter.unusedVariables false
namespace Go.Sx
/-! ### all partitions -/
def extL (p : List Int) (m : Nat) : List (List Int) := (List.range m).map fun c => p ++ [((c : Nat) : Int)]
def extA (p : List Int) : List (List Int) := extL p ((cntL p).toNat + 1)
def stepP (L : List (List Int)) : List (List Int) := L.flatMap extA
def allB : Nat → List (List Int)
  | 0 => [[]]
  | k + 1 => stepP (allB k)
def allQ (n : Int) : List (List Int) := if 0 ≤ n ∧ n ≤ 7 then allB n.toNat else []
theorem extL_succ (p : List Int) (m : Nat) : extL p (m + 1) = extL p m ++ [p ++ [(m : Int)]] := by simp [extL, List.range_succ]
theorem extL_length (p : List Int) (m : Nat) : (extL p m).length = m := by simp [extL]
theorem stepP_snoc (L : List (List Int)) (p : List Int) : stepP (L ++ [p]) = stepP L ++ extA p := by simp [stepP]
theorem vst_snoc_valid {p : List Int} (hp : canon p = p) {c : Int} (h0 : 0 ≤ c) (h1 : c ≤ cntL p) : canon (p ++ [c]) = p ++ [c] := by
  obtain ⟨d, hd⟩ := Option.isSome_iff_exists.1 ((vst_iff p).2 hp)
  have hc := (cntL_vst p d hd).1
  refine (vst_iff _).1 ?_
  rw [vst_snoc, hd]
  simp only [vstep]
  rw [if_neg (by omega)]
  split <;> rfl
theorem canon_snoc_bd {p : List Int} {c : Int} (h : canon (p ++ [c]) = p ++ [c]) : canon p = p ∧ 0 ≤ c ∧ c ≤ cntL p := by
  have hs := (vst_iff _).2 h
  rw [vst_snoc] at hs
  cases hv : vst p with
  | none => rw [hv] at hs; simp [vstep] at hs
  | some d =>
    have hp := (vst_iff p).1 (by rw [hv]; rfl)
    have hc := (cntL_vst p d hv).1
    rw [hv] at hs
    simp only [vstep] at hs
    by_cases hb : c < 0 ∨ d < c
    · rw [if_pos hb] at hs; simp at hs
    · exact ⟨hp, by omega, by omega⟩
theorem allB_mem (k : Nat) : ∀ p, p ∈ allB k ↔ p.length = k ∧ canon p = p := by
  induction k with
  | zero =>
    intro p
    simp only [allB, List.mem_singleton]
    constructor
    · rintro rfl; exact ⟨rfl, rfl⟩
    · rintro ⟨h, _⟩; exact List.eq_nil_of_length_eq_zero h
  | succ k ih =>
    intro p
    simp only [allB, stepP, List.mem_flatMap, extA, extL, List.mem_map, List.mem_range]
    constructor
    · rintro ⟨q, hq, c, hc, rfl⟩
      obtain ⟨h1, h2⟩ := (ih q).1 hq
      exact ⟨by simp [h1], vst_snoc_valid h2 (by omega) (by have := cntL_nonneg q; omega)⟩
    · rintro ⟨h1, h2⟩
      have hne : p ≠ [] := by intro e; rw [e] at h1; simp at h1
      have hd := List.dropLast_concat_getLast hne
      rw [← hd] at h2
      obtain ⟨c1, c2, c3⟩ := canon_snoc_bd h2
      refine ⟨p.dropLast, (ih _).2 ⟨by rw [List.length_dropLast]; omega, c1⟩, (p.getLast hne).toNat, by omega, ?_⟩
      rw [show (((p.getLast hne).toNat : Nat) : Int) = p.getLast hne from by omega]
      exact hd
theorem allB_ok {k i : Nat} (h : i < (allB k).length) : ((allB k).getD i []).length = k ∧ canon ((allB k).getD i []) = (allB k).getD i [] := (allB_mem k _).1 (mem_getD [] h)
theorem allB_len7 : ∀ k, k < 8 → (allB k).length ≤ 877 := by decide +kernel
theorem allB_cnt {k i : Nat} (h : i < (allB k).length) (hk : k ≤ 4096) : 0 ≤ cntL ((allB k).getD i []) ∧ cntL ((allB k).getD i []) ≤ k ∧ ValidP ((allB k).getD i []) := by
  obtain ⟨h1, h2⟩ := allB_ok h
  have hv : ValidP ((allB k).getD i []) := ⟨by omega, h2⟩
  obtain ⟨v1, v2, _⟩ := valid_cnt hv
  exact ⟨v1, by omega, hv⟩
theorem part_len {k a : Nat} (hk : k ≤ 7) (ha : a ≤ (allB k).length) : (stepP ((allB k).take a)).length ≤ a * 8 := by
  induction a with
  | zero => simp [stepP]
  | succ a ih =>
    have := ih (by omega)
    obtain ⟨c1, c2, _⟩ := allB_cnt (k := k) (i := a) (by omega) (by omega)
    rw [take_snocD [] (allB k) a (by omega), stepP_snoc, List.length_append, extA, extL_length, Nat.succ_mul]
    omega
theorem set_last (p : List Int) (k m : Nat) (c : Int) (h : p.length = k) (hm : m = k + 1) : (p.map (Value.int .i64) ++ (List.replicate m (Value.int .i64 0)).drop p.length).set k (.int .i64 c) = (p ++ [c]).map (Value.int .i64) := by
  subst hm; subst h
  simp [List.drop_replicate]
end Go.Sx
