import Derived.Test.YtoikhoniogicdaaDn
set_option linter.unusedVariables false
set_option linter.unusedSectionVars false
set_option linter.unusedSimpArgs false
namespace Go.Sx
/-! ### different values in the order of their first places; the numbering of a list -/
section
variable {α β : Type} [DecidableEq α] [DecidableEq β]
def ded (xs : List α) : List α := xs.foldl insN []
theorem foldl_insN_mem : ∀ (xs acc : List α) (x : α), x ∈ xs.foldl insN acc ↔ x ∈ acc ∨ x ∈ xs
  | [], acc, x => by simp
  | y :: ys, acc, x => by
    rw [List.foldl_cons, foldl_insN_mem ys (insN acc y) x, List.mem_cons]
    constructor
    · rintro (h | h)
      · rcases insN_cases h with h | h
        · exact .inl h
        · exact .inr (.inl h)
      · exact .inr (.inr h)
    · rintro (h | h | h)
      · exact .inl (insN_sub h)
      · subst h; exact .inl (insN_mem _ _)
      · exact .inr h
theorem foldl_insN_nodup : ∀ (xs acc : List α), acc.Nodup → (xs.foldl insN acc).Nodup
  | [], acc, h => h
  | y :: ys, acc, h => foldl_insN_nodup ys _ (insN_nodup h)
theorem insN_len (xs : List α) (x : α) : (insN xs x).length ≤ xs.length + 1 := by unfold insN; split <;> simp
theorem foldl_insN_len : ∀ (xs acc : List α), (xs.foldl insN acc).length ≤ acc.length + xs.length
  | [], acc => by simp
  | y :: ys, acc => by
    have h1 := foldl_insN_len ys (insN acc y)
    have h2 := insN_len acc y
    rw [List.foldl_cons, List.length_cons]; omega
theorem ded_snoc (xs : List α) (x : α) : ded (xs ++ [x]) = insN (ded xs) x := by simp [ded]
theorem ded_take {xs : List α} (d : α) {k : Nat} (h : k < xs.length) : ded (xs.take (k + 1)) = insN (ded (xs.take k)) (xs.getD k d) := by
  rw [take_snocD d xs k h, ded_snoc]
theorem ded_mem {xs : List α} {x : α} : x ∈ ded xs ↔ x ∈ xs := by rw [ded, foldl_insN_mem]; simp
theorem ded_nodup (xs : List α) : (ded xs).Nodup := foldl_insN_nodup xs [] List.nodup_nil
theorem ded_le (xs : List α) : (ded xs).length ≤ xs.length := by have := foldl_insN_len xs []; simpa [ded] using this
def canN (xs : List α) : List Int := xs.map fun x => ((posN (ded xs) x : Nat) : Int)
theorem canN_len (xs : List α) : (canN xs).length = xs.length := by simp [canN]
theorem canN_snoc (xs : List α) (x : α) : canN (xs ++ [x]) = canN xs ++ [((posN (ded xs) x : Nat) : Int)] := by
  unfold canN
  rw [ded_snoc, List.map_append]
  congr 1
  · apply List.map_congr_left
    intro y hy
    obtain ⟨ys, e⟩ := insN_pre (ded xs) x
    rw [e, posN_append ys (ded_mem.2 hy)]
  · rw [List.map_cons, List.map_nil, pos_in (xs := ded xs) (XS := insN (ded xs) x) (ys := []) (by simp)]
theorem canN_take {xs : List α} (d : α) {k : Nat} (h : k < xs.length) : canN (xs.take (k + 1)) = canN (xs.take k) ++ [((posN (ded (xs.take k)) (xs.getD k d) : Nat) : Int)] := by
  rw [take_snocD d xs k h, canN_snoc]
theorem canN_get {xs : List α} (d : α) {i : Nat} (h : i < xs.length) : (canN xs).getD i 0 = ((posN (ded xs) (xs.getD i d) : Nat) : Int) := by
  simp [canN, List.getD_eq_getElem?_getD, h]
theorem canN_bd {xs : List α} {i : Nat} (h : i < xs.length) : 0 ≤ (canN xs).getD i 0 ∧ (canN xs).getD i 0 < (ded xs).length := by
  rw [canN_get (xs[i]) h]
  have := posN_lt (ded_mem.2 (getD_mem (d := xs[i]) h))
  omega
theorem canN_eq {xs : List α} (d : α) {i j : Nat} (hi : i < xs.length) (hj : j < xs.length) : (canN xs).getD i 0 = (canN xs).getD j 0 ↔ xs.getD i d = xs.getD j d := by
  rw [canN_get d hi, canN_get d hj]
  constructor
  · intro h
    have h' : posN (ded xs) (xs.getD i d) = posN (ded xs) (xs.getD j d) := by omega
    have h1 := getD_posN d (ded_mem.2 (getD_mem (d := d) hi))
    have h2 := getD_posN d (ded_mem.2 (getD_mem (d := d) hj))
    rw [h'] at h1
    exact h1.symm.trans h2
  · intro h; rw [h]
theorem getD_take' {xs : List α} (d : α) {i k : Nat} (h : i < k) : (xs.take k).getD i d = xs.getD i d := by
  simp [List.getD_eq_getElem?_getD, List.getElem?_take, h]
theorem canN_ker {xs : List α} {ys : List β} (d : α) (e : β) (hl : xs.length = ys.length) (h : ∀ i j, i < xs.length → j < xs.length → (xs.getD i d = xs.getD j d ↔ ys.getD i e = ys.getD j e)) : canN xs = canN ys ∧ (ded xs).length = (ded ys).length := by
  have key : ∀ k, k ≤ xs.length → canN (xs.take k) = canN (ys.take k) ∧ (ded (xs.take k)).length = (ded (ys.take k)).length := by
    intro k
    induction k with
    | zero => intro _; simp [canN, ded]
    | succ k ih =>
      intro hk
      obtain ⟨h1, h2⟩ := ih (by omega)
      have hkx : k < xs.length := by omega
      have hky : k < ys.length := by omega
      have e0 : posN (ded (xs.take k)) (xs.getD k d) = posN (ded (ys.take k)) (ys.getD k e) ∧ (xs.getD k d ∈ ded (xs.take k) ↔ ys.getD k e ∈ ded (ys.take k)) := by
        have hmx : xs.getD k d ∈ ded (xs.take k) ↔ ∃ i, i < k ∧ xs.getD i d = xs.getD k d := by
          rw [ded_mem]
          constructor
          · intro hm
            obtain ⟨i, hi, e⟩ := mem_getD d hm
            rw [List.length_take] at hi
            exact ⟨i, by omega, by rw [← getD_take' d (k := k) (by omega)]; exact e⟩
          · rintro ⟨i, hi, e⟩
            rw [← e, ← getD_take' d hi]
            exact getD_mem (by rw [List.length_take]; omega)
        have hmy : ys.getD k e ∈ ded (ys.take k) ↔ ∃ i, i < k ∧ ys.getD i e = ys.getD k e := by
          rw [ded_mem]
          constructor
          · intro hm
            obtain ⟨i, hi, e'⟩ := mem_getD e hm
            rw [List.length_take] at hi
            exact ⟨i, by omega, by rw [← getD_take' e (k := k) (by omega)]; exact e'⟩
          · rintro ⟨i, hi, e'⟩
            rw [← e', ← getD_take' e hi]
            exact getD_mem (by rw [List.length_take]; omega)
        have hm : xs.getD k d ∈ ded (xs.take k) ↔ ys.getD k e ∈ ded (ys.take k) := by
          rw [hmx, hmy]
          constructor
          · rintro ⟨i, hi, e'⟩; exact ⟨i, hi, (h i k (by omega) hkx).1 e'⟩
          · rintro ⟨i, hi, e'⟩; exact ⟨i, hi, (h i k (by omega) hkx).2 e'⟩
        refine ⟨?_, hm⟩
        by_cases hx : xs.getD k d ∈ ded (xs.take k)
        · obtain ⟨i, hi, e'⟩ := hmx.1 hx
          have e2 := (h i k (by omega) hkx).1 e'
          have hix : i < (xs.take k).length := by rw [List.length_take]; omega
          have hiy : i < (ys.take k).length := by rw [List.length_take]; omega
          have g1 := canN_get d hix
          have g2 := canN_get e hiy
          rw [getD_take' d hi, e'] at g1
          rw [getD_take' e hi, e2] at g2
          rw [h1] at g1
          omega
        · rw [posN_not hx, posN_not (fun hy => hx (hm.2 hy)), h2]
      refine ⟨?_, ?_⟩
      · rw [canN_take d hkx, canN_take e hky, h1, e0.1]
      · rw [ded_take d hkx, ded_take e hky]
        unfold insN
        by_cases hx : xs.getD k d ∈ ded (xs.take k)
        · rw [if_pos hx, if_pos (e0.2.1 hx), h2]
        · rw [if_neg hx, if_neg (fun hy => hx (e0.2.2 hy)), List.length_append, List.length_append, h2]; rfl
  have := key xs.length (Nat.le_refl _)
  rw [List.take_length] at this
  have e : ys.take xs.length = ys := by rw [hl, List.take_length]
  rw [e] at this
  exact this
theorem canN_canN (xs : List α) : canN (canN xs) = canN xs := by
  by_cases h0 : xs.length = 0
  · have := List.length_eq_zero_iff.1 h0; subst this; rfl
  · have hd : 0 < xs.length := by omega
    exact (canN_ker (xs := canN xs) (ys := xs) 0 xs[0] (canN_len xs) (fun i j hi hj => by rw [canN_len] at hi hj; exact canN_eq _ hi hj)).1
theorem ded_canN (xs : List α) : (ded (canN xs)).length = (ded xs).length := by
  by_cases h0 : xs.length = 0
  · have := List.length_eq_zero_iff.1 h0; subst this; rfl
  · have hd : 0 < xs.length := by omega
    exact (canN_ker (xs := canN xs) (ys := xs) 0 xs[0] (canN_len xs) (fun i j hi hj => by rw [canN_len] at hi hj; exact canN_eq _ hi hj)).2
/-- a finer list has at least as many values, and the same kernel if it has as many -/
theorem ded_refine {xs : List α} {ys : List β} (d : α) (e : β) (hl : xs.length = ys.length) (h : ∀ i j, i < xs.length → j < xs.length → xs.getD i d = xs.getD j d → ys.getD i e = ys.getD j e) :
    (ded ys).length ≤ (ded xs).length ∧ ((ded xs).length ≤ (ded ys).length → ∀ i j, i < xs.length → j < xs.length → ys.getD i e = ys.getD j e → xs.getD i d = xs.getD j d) := by
  have hg : ∀ i, i < xs.length → ys.getD (posN xs (xs.getD i d)) e = ys.getD i e := by
    intro i hi
    have hm := getD_mem (d := d) hi
    exact h _ _ (posN_lt hm) hi (getD_posN d hm)
  refine ⟨?_, ?_⟩
  · have : (ded ys).length ≤ ((ded xs).map fun a => ys.getD (posN xs a) e).length := nodup_sub_len (ded_nodup ys) (fun y hy => by
      obtain ⟨k, hk, ek⟩ := mem_getD e (ded_mem.1 hy)
      rw [← ek, ← hg k (by omega)]
      exact List.mem_map_of_mem (f := fun a => ys.getD (posN xs a) e) (ded_mem.2 (getD_mem (d := d) (by omega))))
    rwa [List.length_map] at this
  · intro hle i j hi hj hy
    apply Classical.byContradiction
    intro hne
    have hmi : xs.getD i d ∈ ded xs := ded_mem.2 (getD_mem hi)
    have hmj : xs.getD j d ∈ ded xs := ded_mem.2 (getD_mem hj)
    have : (ded ys).length ≤ (((ded xs).erase (xs.getD i d)).map fun a => ys.getD (posN xs a) e).length := nodup_sub_len (ded_nodup ys) (fun y hy' => by
      obtain ⟨k, hk, ek⟩ := mem_getD e (ded_mem.1 hy')
      by_cases hki : xs.getD k d = xs.getD i d
      · have e1 : ys.getD k e = ys.getD j e := (h k i (by omega) hi hki).trans hy
        rw [← ek, e1, ← hg j hj]
        exact List.mem_map_of_mem (f := fun a => ys.getD (posN xs a) e) ((List.mem_erase_of_ne (fun h => hne h.symm)).2 hmj)
      · rw [← ek, ← hg k (by omega)]
        exact List.mem_map_of_mem (f := fun a => ys.getD (posN xs a) e) ((List.mem_erase_of_ne hki).2 (ded_mem.2 (getD_mem (d := d) (by omega)))))
    rw [List.length_map, List.length_erase_of_mem hmi] at this
    have := List.length_pos_of_mem hmi
    omega
end
end Go.Sx
