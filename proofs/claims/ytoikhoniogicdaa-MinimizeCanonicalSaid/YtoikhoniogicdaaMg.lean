import Derived.Test.YtoikhoniogicdaaMf
set_option linter.unusedVariables false
set_option linter.unusedSectionVars false
set_option linter.unusedSimpArgs false
namespace Go.Sx
/-! ### the least word that tells two states apart -/
instance (d : Dfa) (p : Int) : Decidable (InR d p) := inferInstanceAs (Decidable (_ ∧ _))
def wdD (d : Dfa) (p : Int × Int) : Bool := finQ d p.1 != finQ d p.2
def DisD (d : Dfa) (p q : Int) : List UInt8 × Bool := SrcV (stepP d d) d.L.toNat (p, q) (0, 0) (univ2 d.fin.length d.fin.length).length (wdD d)
def DisV (d : Dfa) (p q : Int) : List UInt8 × Bool := if VD d ∧ InR d p ∧ InR d q then DisD d p q else ([], false)
theorem sle_len {u v : List UInt8} (h : sle u v) : u.length ≤ v.length := by
  rcases h with h | rfl
  · rw [slx_iff] at h; omega
  · exact Nat.le_refl _
theorem dis_spec {d : Dfa} (hv : VD d) {p q : Int} (hp : InR d p) (hq : InR d q) :
    ((DisD d p q).2 = true → Okw d (DisD d p q).1 ∧ finQ d (runI d p (DisD d p q).1) ≠ finQ d (runI d q (DisD d p q).1)) ∧
    (∀ l, Okw d l → finQ d (runI d p l) ≠ finQ d (runI d q l) → (DisD d p q).2 = true ∧ sle (DisD d p q).1 l) := by
  have hL := hv.L
  have e : ((d.L.toNat : Nat) : Int) = d.L := by omega
  have hs : (p, q) ∈ univ2 d.fin.length d.fin.length := mem_univ2.2 ⟨hp, hq⟩
  have h := src_spec (f := stepP d d) (L := d.L.toNat) (z := (0, 0)) (wd := wdD d) (by omega) hs (step_univ2 hv hv rfl)
  rw [e] at h
  have hw : ∀ l, wdD d (foldW (stepP d d) (p, q) l) = true ↔ finQ d (runI d p l) ≠ finQ d (runI d q l) := by
    intro l
    rw [foldW_stepP]
    simp [wdD]
  refine ⟨fun h2 => ?_, fun l hl hne => h.2 l hl ((hw l).2 hne)⟩
  obtain ⟨h3, h4⟩ := h.1 h2
  exact ⟨h3, (hw _).1 h4⟩
theorem dis_iff {d : Dfa} (hv : VD d) {p q : Int} (hp : InR d p) (hq : InR d q) : (DisD d p q).2 = true ↔ ¬ EqS d p q := by
  obtain ⟨h1, h2⟩ := dis_spec hv hp hq
  constructor
  · intro h he
    obtain ⟨h3, h4⟩ := h1 h
    exact h4 (he _ h3)
  · intro h
    apply Classical.byContradiction
    intro h3
    exact h (fun l hl => Classical.byContradiction fun h4 => h3 (h2 l hl h4).1)
theorem dis_false {d : Dfa} {p q : Int} (h : (DisD d p q).2 = false) : (DisD d p q).1 = [] := by
  unfold DisD SrcV at *
  split at h
  · cases h
  · rfl
theorem dis_len {d : Dfa} (hv : VD d) {p q : Int} (hp : InR d p) (hq : InR d q) : (DisD d p q).1.length < d.fin.length := by
  have hn : 0 < d.fin.length := by have := hv.s; omega
  cases h : (DisD d p q).2 with
  | false => rw [dis_false h]; exact hn
  | true =>
    have hne := (dis_iff hv hp hq).1 h
    have h2 : ¬ EqK d (d.fin.length - 1) p q := fun he => hne ((eqs_iff hv hp hq).1 he)
    have h3 : ∃ l, Okw d l ∧ l.length ≤ d.fin.length - 1 ∧ finQ d (runI d p l) ≠ finQ d (runI d q l) := by
      apply Classical.byContradiction
      intro h4
      exact h2 (fun l hl hk => Classical.byContradiction fun h5 => h4 ⟨l, hl, hk, h5⟩)
    obtain ⟨l, h4, h5, h6⟩ := h3
    have := sle_len ((dis_spec hv hp hq).2 l h4 h6).2
    omega
theorem dis_valid {d : Dfa} (hv : VD d) {p q : Int} (hp : InR d p) (hq : InR d q) : validW d.L (DisD d p q).1 = true := by
  have h1 := dis_len hv hp hq
  have hn := hv.n
  cases h : (DisD d p q).2 with
  | false => rw [dis_false h]; have hL := hv.L; simp [validW]; omega
  | true => exact okw_valid hv ((dis_spec hv hp hq).1 h).1 (by omega)
end Go.Sx
