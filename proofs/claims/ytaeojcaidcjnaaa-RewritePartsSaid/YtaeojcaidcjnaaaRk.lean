import Derived.Test.YtaeojcaidcjnaaaRj
set_option linter.unusedVariables false
set_option linter.unusedSimpArgs false
namespace Go.Sx
open Go.RowKit
theorem redE_bad1 {rs : List Rul} {u : Wrd} (h : errR 6 rs ≠ 0) : RedE rs u = errR 6 rs := if_pos h
theorem redE_bad2 {rs : List Rul} {u : Wrd} (h : errR 6 rs = 0) (hv : ¬ validW 6 u = true) : RedE rs u = 1 := (if_neg (fun k => k h)).trans (if_neg hv)
theorem redV_bad {rs : List Rul} {u : Wrd} (h : errR 6 rs ≠ 0 ∨ ¬ validW 6 u = true) : RedV rs u = [] := if_neg fun k => h.elim (fun e => e k.1) (fun e => e k.2)
theorem redE_ok {rs : List Rul} {u : Wrd} (h : errR 6 rs = 0) (hv : validW 6 u = true) : RedE rs u = redE rs u := (if_neg (fun k => k h)).trans (if_pos hv)
theorem redV_ok {rs : List Rul} {u : Wrd} (h : errR 6 rs = 0) (hv : validW 6 u = true) : RedV rs u = redV rs u := if_pos ⟨h, hv⟩
/-- few and short rules -/
def litV (L m : Int) (rs : List Rul) : Bool := decide (errR L rs = 0) && (decide ((rs.length : Int) ≤ m) && rs.all fun r => decide (r.1.length ≤ 6))
theorem lit_iff {L m : Int} {rs : List Rul} : litV L m rs = true ↔ errR L rs = 0 ∧ (rs.length : Int) ≤ m ∧ ∀ k, k < rs.length → (rs.getD k ([], [])).1.length ≤ 6 := by
  unfold litV
  rw [Bool.and_eq_true, Bool.and_eq_true, decide_eq_true_eq, decide_eq_true_eq, List.all_eq_true]
  refine and_congr_right fun _ => and_congr_right fun _ => ⟨fun h k hk => by simpa using h _ (getD_mem hk), fun h r hr => ?_⟩
  obtain ⟨k, hk, e⟩ := mem_getD ([], []) hr
  rw [← e]; simpa using h k hk
theorem lit_no {L m : Int} {rs : List Rul} (h : ¬ (errR L rs = 0 ∧ (rs.length : Int) ≤ m ∧ ∀ k, k < rs.length → (rs.getD k ([], [])).1.length ≤ 6)) : litV L m rs = false := by
  cases hl : litV L m rs
  · rfl
  · exact absurd (lit_iff.1 hl) h
/-! ### one step lessens the word -/
theorem bl_left (x y : Wrd) : ∀ a : Wrd, Op.bytesLess x y = true → Op.bytesLess (a ++ x) (a ++ y) = true
  | [], h => h
  | c :: a, h => by
    have := bl_left x y a h
    simp [Op.bytesLess, this]
theorem bl_right (b : Wrd) : ∀ x y : Wrd, x.length = y.length → Op.bytesLess x y = true → Op.bytesLess (x ++ b) (y ++ b) = true
  | [], [], _, h => by simp [Op.bytesLess] at h
  | [], _ :: _, hl, _ => by simp at hl
  | _ :: _, [], hl, _ => by simp at hl
  | c :: x, d :: y, hl, h => by
    simp only [Op.bytesLess, List.cons_append] at h ⊢
    by_cases h1 : c < d
    · simp [h1]
    · have h3 : c = d ∧ Op.bytesLess x y = true := by simpa [h1] using h
      have := bl_right b x y (by simpa using hl) h3.2
      simp [h1, h3.1, this]
theorem slx_ctx {x y : Wrd} (a b : Wrd) (h : slx x y = true) : slx (a ++ x ++ b) (a ++ y ++ b) = true := by
  rw [slx_iff] at h ⊢
  rcases h with h | ⟨h1, h2⟩
  · exact .inl (by simp; omega)
  · exact .inr ⟨by simp; omega, by rw [List.append_assoc, List.append_assoc]; exact bl_left _ _ a (bl_right b _ _ h1 h2)⟩
theorem once_less {L : Int} {rs : List Rul} (hV : VR L rs) {u v : Wrd} (h : once rs u = some v) : slx v u = true := by
  obtain ⟨i, r, h1, h2, h3, rfl⟩ := once_shape h
  have hl := (hV.v r h1).2.2
  obtain ⟨t, ht⟩ := h2
  have e : u = u.take i ++ r.1 ++ u.drop (i + r.1.length) := by
    conv => lhs; rw [← List.take_append_drop i u, ← ht]
    rw [List.append_assoc, ← List.drop_drop, ← ht, List.drop_left]
  have := slx_ctx (u.take i) (u.drop (i + r.1.length)) hl
  rw [← e] at this; exact this
theorem redF_spec {L : Int} {rs : List Rul} (hV : VR L rs) : ∀ (f : Nat) {u v : Wrd}, Al u → redF rs f u = some v → once rs v = none ∧ Al v ∧ v.length ≤ u.length ∧ (slx v u = true ∨ v = u) ∧ (once rs u = none ↔ v = u) := by
  intro f
  induction f with
  | zero =>
    intro u v hu h
    cases ho : once rs u with
    | none => rw [redF_none ho] at h; cases h; exact ⟨ho, hu, Nat.le_refl _, .inr rfl, ⟨fun _ => rfl, fun _ => rfl⟩⟩
    | some w => rw [redF_zero ho] at h; cases h
  | succ f ih =>
    intro u v hu h
    cases ho : once rs u with
    | none => rw [redF_none ho] at h; cases h; exact ⟨ho, hu, Nat.le_refl _, .inr rfl, ⟨fun _ => rfl, fun _ => rfl⟩⟩
    | some w =>
      rw [redF_some ho] at h
      obtain ⟨hw, hwl⟩ := once_al hV hu ho
      have hwu := once_less hV ho
      obtain ⟨h1, h2, h3, h4, h5⟩ := ih hw h
      have hvu : slx v u = true := by
        rcases h4 with h4 | h4
        · exact slx_trans h4 hwu
        · rw [h4]; exact hwu
      refine ⟨h1, h2, by omega, .inl hvu, ⟨fun k => (by cases k), fun k => ?_⟩⟩
      rw [k, slx_irr] at hvu; cases hvu
theorem red_cases (rs : List Rul) (u : Wrd) : (∃ v, redF rs 100000 u = some v ∧ redV rs u = v ∧ redE rs u = 0) ∨ (redF rs 100000 u = none ∧ redV rs u = [] ∧ redE rs u = 3) := by
  cases h : redF rs 100000 u with
  | some v => exact .inl ⟨v, rfl, red_some h⟩
  | none => exact .inr ⟨rfl, red_none h⟩
theorem al_valid {u : Wrd} (h : Al u) : validW 6 u = true := validW_iff.2 ⟨⟨by omega, by omega, h.1⟩, fun k hk => by have := h.2 k hk; omega⟩
/-- what the law of results wants -/
theorem settles {rs : List Rul} {u : Wrd} (hE : errR 6 rs = 0) (hv : validW 6 u = true) (h0 : RedE rs u = 0) : RdcV rs (RedV rs u) = true ∧ CmpV (RedV rs u) u ≤ 0 ∧ (RdcV rs u = decide (RedV rs u = u)) ∧ (RedV rs u).length ≤ 2048 := by
  have hV := errR_iff.1 hE
  rw [redE_ok hE hv] at h0
  rw [redV_ok hE hv]
  rcases red_cases rs u with ⟨v, h1, h2, h3⟩ | ⟨_, _, h3⟩
  · obtain ⟨k1, k2, k3, k4, k5⟩ := redF_spec hV _ (validW_al hv) h1
    rw [h2, rdc_ok hE (al_valid k2), rdc_ok hE hv, k1, CmpV_le]
    refine ⟨rfl, k4, ?_, k2.1⟩
    cases ho : once rs u with
    | none => rw [decide_eq_true (k5.1 ho)]; rfl
    | some w => rw [decide_eq_false (fun e => by rw [k5.2 e] at ho; cases ho)]; rfl
  · omega
theorem settles3 {rs : List Rul} {u : Wrd} (hE : errR 6 rs = 0) (hv : validW 6 u = true) (h0 : ¬ RedE rs u = 0) : RedE rs u = 3 := by
  rw [redE_ok hE hv] at h0 ⊢
  rcases red_cases rs u with ⟨v, h1, h2, h3⟩ | ⟨_, _, h3⟩
  · exact absurd h3 h0
  · exact h3
end Go.Sx
