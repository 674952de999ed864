import Derived.Test.YtkdidaiedibhaaaPw
set_option linter.unusedVariables false
namespace Go.Sx
/-! ### meet and join: what the walks need -/
theorem zipP_len {xs ys : List Int} (h : xs.length = ys.length) : (zipP xs ys).length = xs.length := by simp [zipP, h]
theorem zipP_tlen {xs ys : List Int} {k : Nat} (h : k ≤ xs.length) (h' : k ≤ ys.length) : (zipP (xs.take k) (ys.take k)).length = k := by simp [zipP]; omega
theorem zipP_succ {xs ys : List Int} {k : Nat} (h : k < xs.length) (h' : k < ys.length) : zipP (xs.take (k + 1)) (ys.take (k + 1)) = zipP (xs.take k) (ys.take k) ++ [(xs.getD k 0, ys.getD k 0)] := by
  unfold zipP
  rw [take_snocD 0 xs k h, take_snocD 0 ys k h', List.zip_append (by simp; omega)]
  rfl
def encL (xs ys : List Int) : List Int := (zipP xs ys).map fun p => p.1 * 4096 + p.2
theorem encL_len {xs ys : List Int} (h : xs.length = ys.length) : (encL xs ys).length = xs.length := by rw [encL, List.length_map, zipP_len h]
theorem encL_tlen {xs ys : List Int} {k : Nat} (h : k ≤ xs.length) (h' : k ≤ ys.length) : (encL (xs.take k) (ys.take k)).length = k := by rw [encL, List.length_map, zipP_tlen h h']
theorem encL_succ {xs ys : List Int} {k : Nat} (h : k < xs.length) (h' : k < ys.length) : encL (xs.take (k + 1)) (ys.take (k + 1)) = encL (xs.take k) (ys.take k) ++ [xs.getD k 0 * 4096 + ys.getD k 0] := by
  unfold encL
  rw [zipP_succ h h', List.map_append]; rfl
theorem valid_bd {xs : List Int} (h : ValidP xs) {k : Nat} (hk : k < xs.length) : 0 ≤ xs.getD k 0 ∧ xs.getD k 0 < 4096 := by
  obtain ⟨h1, h2, h3⟩ := valid_cnt h
  have := h3 _ (mem_getD 0 hk)
  have := h.1
  omega
theorem refmeet_eq {xs ys : List Int} (h : okPQ xs ys) : meetB xs ys = canonB (encL xs ys) := by
  have hn := h.2.1.1
  unfold meetB canonB
  rw [if_pos h, if_pos (by rw [encL_len h.1]; exact hn)]
  refine (canon_kernel _ _ (by rw [encL_len h.1, zipP_len h.1]) fun i j hi hj hi' hj' => ?_).1
  rw [zipP_len h.1] at hi hj
  have hle := h.1
  have g1 : ∀ k (hk : k < xs.length), (zipP xs ys)[k]'(by rw [zipP_len h.1]; exact hk) = (xs.getD k 0, ys.getD k 0) := fun k hk => by simp [zipP, List.getD_eq_getElem?_getD, hk, show k < ys.length by omega]
  have e1 : (encL xs ys)[i] = xs.getD i 0 * 4096 + ys.getD i 0 := by simp only [encL, List.getElem_map]; rw [g1 i hi]
  have e2 : (encL xs ys)[j] = xs.getD j 0 * 4096 + ys.getD j 0 := by simp only [encL, List.getElem_map]; rw [g1 j hj]
  rw [e1, e2, g1 i hi, g1 j hj]
  have a1 := valid_bd h.2.1 hi
  have a2 := valid_bd h.2.1 hj
  have a3 := valid_bd h.2.2 (k := i) (by omega)
  have a4 := valid_bd h.2.2 (k := j) (by omega)
  constructor
  · intro e; rw [Prod.mk.injEq] at e; rw [e.1, e.2]
  · intro e; rw [Prod.mk.injEq]; constructor <;> omega
/-- the pairs that the reference's Join has merged, before place k -/
def rjOK (ys : List Int) (k : Nat) (ps : List (Int × Int)) : Prop := (∀ p ∈ ps, p.1.toNat < k ∧ p.2.toNat < k ∧ ys.getD p.1.toNat 0 = ys.getD p.2.toNat 0) ∧ ∀ i j, i < k → j < k → ys.getD i 0 = ys.getD j 0 → Gen (PR ps) i j
theorem rjOK_nil {ys : List Int} : rjOK ys 0 [] := ⟨by simp, fun i j hi => absurd hi (Nat.not_lt_zero _)⟩
theorem rjOK_skip {ys : List Int} {k : Nat} {ps : List (Int × Int)} (h : rjOK ys k ps) (hn : ∀ m, m < k → ¬ ys.getD k 0 = ys.getD m 0) : rjOK ys (k + 1) ps := by
  refine ⟨fun p hp => ?_, fun i j hi hj e => ?_⟩
  · obtain ⟨h1, h2, h3⟩ := h.1 p hp; exact ⟨by omega, by omega, h3⟩
  · by_cases hik : i = k <;> by_cases hjk : j = k
    · rw [hik, hjk]; exact (Gen.eqv _).refl _
    · subst hik; exact absurd e (hn j (by omega))
    · subst hjk; exact absurd e.symm (hn i (by omega))
    · exact h.2 i j (by omega) (by omega) e
theorem rjOK_add {ys : List Int} {k m : Nat} {ps : List (Int × Int)} (h : rjOK ys k ps) (hm : m < k) (he : ys.getD k 0 = ys.getD m 0) : rjOK ys (k + 1) (ps ++ [((k : Int), (m : Int))]) := by
  have up : ∀ a b, Gen (PR ps) a b → Gen (PR (ps ++ [((k : Int), (m : Int))])) a b := fun a b => Gen.mono fun a b h => Gen.of ((PR_snoc _ _ _ _).2 (.inl h))
  have G := Gen.eqv (PR (ps ++ [((k : Int), (m : Int))]))
  have new : Gen (PR (ps ++ [((k : Int), (m : Int))])) k m := Gen.of ((PR_snoc _ _ _ _).2 (.inr ⟨by simp, by simp⟩))
  refine ⟨fun p hp => ?_, fun i j hi hj e => ?_⟩
  · rcases List.mem_append.1 hp with hp | hp
    · obtain ⟨h1, h2, h3⟩ := h.1 p hp; exact ⟨by omega, by omega, h3⟩
    · simp at hp; subst hp; exact ⟨by simp, by simp; omega, by simpa using he⟩
  · by_cases hik : i = k <;> by_cases hjk : j = k
    · rw [hik, hjk]; exact G.refl _
    · subst hik; exact G.trans _ _ _ new (up _ _ (h.2 m j hm (by omega) (he.symm.trans e)))
    · subst hjk; exact G.trans _ _ _ (up _ _ (h.2 i m (by omega) hm (e.trans he))) (G.symm _ _ new)
    · exact up _ _ (h.2 i j (by omega) (by omega) e)
theorem rjOK_gen {ys : List Int} {ps : List (Int × Int)} (h : rjOK ys ys.length ps) (i j : Nat) : Gen (PR ps) i j ↔ Ker ys i j := by
  constructor
  · refine Gen.le (Ker.eqv ys) ?_
    rintro a b ⟨p, hp, rfl, rfl⟩
    obtain ⟨h1, h2, h3⟩ := h.1 p hp
    exact .inr ⟨h1, h2, h3⟩
  · rintro (rfl | ⟨hi, hj, e⟩)
    · exact (Gen.eqv _).refl i
    · exact h.2 i j hi hj e
theorem refjoin_eq {xs ys : List Int} {ps : List (Int × Int)} (h : okPQ xs ys) (hr : rjOK ys xs.length ps) : joinB xs ys = canonB (mfsF xs ps) := by
  have hn := h.2.1.1
  have hle := h.1
  have hl := mfsF_length xs ps
  have e : canonB (mfsF xs ps) = canon (mfsF xs ps) := by unfold canonB; rw [if_pos (by omega)]
  rw [e]
  refine eq_of_ker (valid_join xs ys hn) ⟨by rw [canon_length]; omega, canon_canon _⟩ (by rw [joinB_len h, canon_length, hl]) fun i j hi hj => ?_
  rw [joinB_len h] at hi hj
  rw [ker_join h hi hj, ker_canon, mfsF_gen xs ps (fun p hp => by have := hr.1 p hp; omega)]
  rw [hle] at hr
  exact Gen.congr (fun a b h => h.elim (fun h => Gen.of (.inl h)) (fun h => Gen.mono (fun a b h => Gen.of (.inr h)) ((rjOK_gen hr a b).2 h))) (fun a b h => h.elim (fun h => Gen.of (.inl h)) (fun h => Gen.of (.inr ((rjOK_gen hr a b).1 (Gen.of h))))) i j
end Go.Sx
