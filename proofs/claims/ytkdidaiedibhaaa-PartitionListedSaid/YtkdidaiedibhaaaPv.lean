import Derived.Test.YtkdidaiedibhaaaPu
namespace Go.Sx
/-! ### kernels -/
theorem lt_succ_all {p : Nat → Prop} {a : Nat} (h : ∀ c, c < a → p c) (ha : p a) : ∀ c, c < a + 1 → p c := fun c hc => by
  rcases Nat.lt_succ_iff_lt_or_eq.1 hc with h' | rfl
  · exact h c h'
  · exact ha
section ker
variable {γ : Type} [DecidableEq γ]
def kerB (d : γ) (xs : List Int) (ys : List γ) : Bool := (List.range xs.length).all fun i => (List.range xs.length).all fun j => decide (xs.getD i 0 = xs.getD j 0 → ys.getD i d = ys.getD j d)
theorem kerB_iff {d : γ} {xs : List Int} {ys : List γ} : kerB d xs ys = true ↔ ∀ i j, i < xs.length → j < xs.length → xs.getD i 0 = xs.getD j 0 → ys.getD i d = ys.getD j d := by
  unfold kerB
  simp only [List.all_eq_true, List.mem_range, decide_eq_true_eq]
  exact ⟨fun h i j hi hj => h i hi j hj, fun h i hi j hj => h i j hi hj⟩
theorem kerB_false {d : γ} {xs : List Int} {ys : List γ} {i j : Nat} (hi : i < xs.length) (hj : j < xs.length) (h1 : xs.getD i 0 = xs.getD j 0) (h2 : ¬ ys.getD i d = ys.getD j d) : kerB d xs ys = false := by
  cases h : kerB d xs ys
  · rfl
  · exact absurd (kerB_iff.1 h i j hi hj h1) h2
/-- of a class: the first m elements agree with the first one -/
def clOK (d : γ) (ys : List γ) (cl : List Int) (m : Nat) : Prop := ∀ m', m' < m → ys.getD (cl.getD m' 0).toNat d = ys.getD (cl.getD 0 0).toNat d
theorem classB_mem {xs : List Int} (hv : ValidP xs) {a : Nat} (ha : a < (classB xs).length) : ∀ i, i ∈ (classB xs).getD a [] ↔ 0 ≤ i ∧ i < xs.length ∧ xs.getD i.toNat 0 = a := by
  unfold classB at *
  rw [if_pos hv] at *
  rw [clsK_length] at ha
  rw [clsK_get ha]
  exact posL_mem _ _
theorem classB_len {xs : List Int} (hv : ValidP xs) : (classB xs).length = (cntL xs).toNat := by unfold classB; rw [if_pos hv, clsK_length]
theorem cl_at {xs : List Int} (hv : ValidP xs) {a : Nat} (ha : a < (classB xs).length) {m : Nat} (hm : m < ((classB xs).getD a []).length) : 0 ≤ ((classB xs).getD a []).getD m 0 ∧ ((classB xs).getD a []).getD m 0 < xs.length ∧ xs.getD (((classB xs).getD a []).getD m 0).toNat 0 = a :=
  (classB_mem hv ha _).1 (mem_getD 0 hm)
theorem cl_len {xs : List Int} (hv : ValidP xs) {a : Nat} (ha : a < (classB xs).length) : ((classB xs).getD a []).length ≤ 4096 := by
  unfold classB at *
  rw [if_pos hv] at *
  rw [clsK_length] at ha
  rw [clsK_get ha]
  exact Nat.le_trans (posL_length_le _ _) hv.1
theorem kerB_cls {d : γ} {xs : List Int} {ys : List γ} (hv : ValidP xs) : kerB d xs ys = true ↔ ∀ a, a < (classB xs).length → clOK d ys ((classB xs).getD a []) ((classB xs).getD a []).length := by
  rw [kerB_iff]
  constructor
  · intro h a ha m hm
    obtain ⟨b1, b2, b3⟩ := cl_at hv ha hm
    obtain ⟨c1, c2, c3⟩ := cl_at hv ha (m := 0) (by omega)
    exact h _ _ (by omega) (by omega) (by rw [b3, c3])
  · intro h i j hi hj he
    obtain ⟨v1, v2, v3⟩ := valid_cnt hv
    have hi' := v3 _ (mem_getD 0 hi)
    have ha : (xs.getD i 0).toNat < (classB xs).length := by rw [classB_len hv]; omega
    have hk := h _ ha
    have key : ∀ i, i < xs.length → (xs.getD i 0).toNat = (xs.getD i 0).toNat → ∀ a, (xs.getD i 0) = (a : Nat) → a < (classB xs).length → clOK d ys ((classB xs).getD a []) ((classB xs).getD a []).length → ys.getD i d = ys.getD (((classB xs).getD a []).getD 0 0).toNat d := by
      intro i hi _ a hia ha hk
      have hm := (classB_mem hv ha (i : Int)).2 ⟨by omega, by omega, by simpa using hia⟩
      obtain ⟨m, hml, hme⟩ := List.getElem_of_mem hm
      have := hk m hml
      have he : ((classB xs).getD a []).getD m 0 = (i : Int) := by rw [List.getD_eq_getElem?_getD, List.getElem?_eq_getElem hml, hme]; rfl
      rw [he] at this
      exact this
    rw [key i hi rfl _ (by omega) ha hk, key j hj rfl _ (by omega) ha hk]
end ker

def refB (xs ys : List Int) : Bool := decide (xs.length = ys.length ∧ ValidP xs ∧ ValidP ys) && kerB 0 xs ys
def satB (xs : List Int) (bs : List Bool) : Bool := decide (xs.length = bs.length ∧ ValidP xs) && kerB false xs bs

theorem vst_idl (n : Nat) : vst (idl n) = some (n : Int) := by
  induction n with
  | zero => rfl
  | succ n ih => rw [idl_succ, vst_snoc, ih]; simp only [vstep]; rw [if_neg (by omega), if_pos trivial]; simp
theorem vst_rep (n : Nat) : vst (List.replicate n 0) = some (if n = 0 then 0 else 1) := by
  induction n with
  | zero => rfl
  | succ n ih =>
    rw [List.replicate_succ', vst_snoc, ih]; simp only [vstep]
    by_cases h : n = 0
    · subst h; rfl
    · simp [h]
theorem valid_discB (n : Int) : ValidP (discB n) := by
  unfold discB
  split
  · exact ⟨by rw [idl_length]; omega, (vst_iff _).1 (by rw [vst_idl]; rfl)⟩
  · exact ⟨by simp, rfl⟩
theorem valid_trivB (n : Int) : ValidP (trivB n) := by
  unfold trivB
  split
  · exact ⟨by simp; omega, (vst_iff _).1 (by rw [vst_rep]; rfl)⟩
  · exact ⟨by simp, rfl⟩
theorem ends_refB (n : Int) : refB (discB n) (trivB n) = true := by
  unfold refB
  have hl : (discB n).length = (trivB n).length := by unfold discB trivB; split <;> simp [idl_length]
  rw [decide_eq_true (⟨hl, valid_discB n, valid_trivB n⟩ : _ ∧ _ ∧ _), Bool.true_and]
  apply kerB_iff.2
  intro i j hi hj he
  by_cases h : 0 ≤ n ∧ n ≤ 4096
  · have e : discB n = idl n.toNat := by unfold discB; rw [if_pos h]
    rw [e] at hi hj he
    rw [idl_length] at hi hj
    rw [idl_get hi, idl_get hj] at he
    have : i = j := by omega
    rw [this]
  · have e : discB n = [] := by unfold discB; rw [if_neg h]
    rw [e] at hi
    simp at hi
end Go.Sx
