import Derived.Test.YtoikhoniogicdaaDi
set_option linter.unusedVariables false
namespace Go.Sx
/-! ### complements; what products accept -/
def compD (d : Dfa) : Dfa := ⟨d.L, d.s, d.fin.map (!·), d.nx⟩
def CompV (d : Dfa) : Dfa := if VD d then compD d else nilD
theorem comp_vd {d : Dfa} (h : VD d) : VD (compD d) := by
  refine ⟨h.L, ?_, ?_, ?_, ?_, ?_⟩
  · simpa [compD] using h.n
  · simpa [compD] using h.nx
  · simpa [compD] using h.s
  · intro i hi; exact h.row i (by simpa [compD] using hi)
  · intro i x hi hx; have := h.to i x (by simpa [compD] using hi) hx; simpa [compD] using this
theorem runI_comp (d : Dfa) (l : List UInt8) : ∀ q, runI (compD d) q l = runI d q l := by
  induction l with
  | nil => intro q; rfl
  | cons c l ih => intro q; exact ih _
theorem AccV_of {d : Dfa} (hv : VD d) {l : List UInt8} (hw : validW d.L l = true) : AccV d l = d.fin.getD (runI d d.s l).toNat false := by
  have hb := runI_bdw hv hv.s hw
  have e : RunV d d.s l = runI d d.s l := by unfold RunV; rw [if_pos ⟨(errV_iff d).2 hv, hv.s, hw⟩]
  unfold AccV; rw [e, if_pos hb.1]
theorem AccV_bad {d : Dfa} {l : List UInt8} (hw : validW d.L l = false) : AccV d l = false := by
  have e : RunV d d.s l = -1 := by unfold RunV; rw [if_neg]; rintro ⟨_, _, h⟩; rw [hw] at h; cases h
  unfold AccV; rw [e]; rfl
theorem acc_comp {d : Dfa} (hv : VD d) (l : List UInt8) : AccV (compD d) l = (validW d.L l && !AccV d l) := by
  cases hw : validW d.L l with
  | false => rw [AccV_bad (d := compD d) hw]; rfl
  | true =>
    have hb := runI_bdw hv hv.s hw
    rw [AccV_of (comp_vd hv) hw, AccV_of hv hw]
    rw [show runI (compD d) (compD d).s l = runI d d.s l from runI_comp d l d.s]
    have : (runI d d.s l).toNat < d.fin.length := by omega
    simp [compD, List.getD_eq_getElem?_getD, this]
section
variable {α : Type} [DecidableEq α]
theorem genD_vd {f : α → Nat → α} {L : Nat} {s z : α} {U : List α} {g : α → Bool} (hL : 1 ≤ L ∧ L ≤ 6) (hs : s ∈ U) (hf : ∀ q ∈ U, ∀ x, x < L → f q x ∈ U) (hU : U.length ≤ 512) : VD (genD (L : Int) L (exI f L s z U.length) f g) := by
  have hne := exI_ne f L s z U.length
  have hb := exI_bd (z := z) hs hf U.length
  refine ⟨by simp only [genD]; omega, by simp [genD]; omega, by simp [genD], by simp [genD]; omega, ?_, ?_⟩
  · intro i hi
    have : i < (exI f L s z U.length).length := by simpa [genD] using hi
    simp [genD, List.getD_eq_getElem?_getD, this]
  · intro i x hi hx
    have h1 : i < (exI f L s z U.length).length := by simpa [genD] using hi
    have e : (genD (L : Int) L (exI f L s z U.length) f g).nx.getD i [] = (List.range L).map fun x => ((posN (exI f L s z U.length) (f ((exI f L s z U.length).getD i z) x) : Nat) : Int) := by
      simp [genD, List.getD_eq_getElem?_getD, h1]
    rw [e] at hx ⊢
    have h2 : x < L := by simpa using hx
    have h3 := posN_lt (gen_closed hs hf (getD_mem (d := z) h1) h2)
    simp only [genD, List.length_map]
    have e2 : ((List.range L).map fun x => ((posN (exI f L s z U.length) (f ((exI f L s z U.length).getD i z) x) : Nat) : Int)).getD x 0 = ((posN (exI f L s z U.length) (f ((exI f L s z U.length).getD i z) x) : Nat) : Int) := by
      simp [List.getD_eq_getElem?_getD, h2]
    rw [e2]; omega
/-- where a word leads -/
def foldW (f : α → Nat → α) (q : α) (l : List UInt8) : α := l.foldl (fun q c => f q ((c.toNat : Int) - 97).toNat) q
theorem gen_run {f : α → Nat → α} {L : Nat} {s z : α} {U : List α} {g : α → Bool} (Lv : Int) (hs : s ∈ U) (hf : ∀ q ∈ U, ∀ x, x < L → f q x ∈ U) : ∀ (l : List UInt8) (q : α), q ∈ exI f L s z U.length → l.all (okB (L : Int)) = true →
    runI (genD Lv L (exI f L s z U.length) f g) ((posN (exI f L s z U.length) q : Nat) : Int) l = ((posN (exI f L s z U.length) (foldW f q l) : Nat) : Int) ∧ foldW f q l ∈ exI f L s z U.length
  | [], q, hq, _ => ⟨rfl, hq⟩
  | c :: l, q, hq, h => by
    rw [List.all_cons, Bool.and_eq_true] at h
    have hc := h.1
    simp only [okB, decide_eq_true_eq] at hc
    have hx : ((c.toNat : Int) - 97).toNat < L := by omega
    have hq2 := gen_closed (z := z) hs hf hq hx
    have := gen_run (g := g) Lv hs hf l (f q ((c.toNat : Int) - 97).toNat) hq2 h.2
    have e : stepI (genD Lv L (exI f L s z U.length) f g) ((posN (exI f L s z U.length) q : Nat) : Int) c = ((posN (exI f L s z U.length) (f q ((c.toNat : Int) - 97).toNat) : Nat) : Int) := by
      have h1 := posN_lt hq
      have h2 := getD_posN z hq
      have e1 : (genD Lv L (exI f L s z U.length) f g).nx.getD (posN (exI f L s z U.length) q) [] = (List.range L).map fun x => ((posN (exI f L s z U.length) (f q x) : Nat) : Int) := by
        rw [List.getD_eq_getElem?_getD] at h2 ⊢
        simp only [genD, List.getElem?_map]
        rw [List.getElem?_eq_getElem h1] at h2 ⊢
        simp only [Option.getD_some] at h2
        simp [h2]
      unfold stepI
      rw [Int.toNat_natCast, e1]
      simp [List.getD_eq_getElem?_getD, hx]
    show runI _ (stepI _ _ c) l = _ ∧ _
    rw [e]
    exact this
end
theorem foldW_stepQ (d : Dfa) (l : List UInt8) : ∀ q, foldW (stepQ d) q l = runI d q l := by
  induction l with
  | nil => intro q; rfl
  | cons c l ih => intro q; exact ih _
theorem foldW_stepP (a b : Dfa) (l : List UInt8) : ∀ p : Int × Int, foldW (stepP a b) p l = (runI a p.1 l, runI b p.2 l) := by
  induction l with
  | nil => intro p; rfl
  | cons c l ih => intro p; exact ih _
theorem prod_vd {a b : Dfa} {op : Int} (ha : VD a) (hb : VD b) (hL : a.L = b.L) (hsz : a.fin.length * b.fin.length ≤ 512) : VD (prodD a b op) := by
  have h := genD_vd (z := ((0 : Int), (0 : Int))) (L := a.L.toNat) (g := finP a b op) (by have := ha.L; omega) (start_univ2 ha hb) (step_univ2 ha hb hL) (by rw [univ2_len]; exact hsz)
  have e : ((a.L.toNat : Nat) : Int) = a.L := by have := ha.L; omega
  rw [e] at h
  exact h
theorem acc_prod {a b : Dfa} {op : Int} (ha : VD a) (hb : VD b) (hL : a.L = b.L) (hsz : a.fin.length * b.fin.length ≤ 512) (l : List UInt8) :
    AccV (prodD a b op) l = (validW a.L l && byB op (AccV a l) (AccV b l)) := by
  have hv := prod_vd (op := op) ha hb hL hsz
  cases hw : validW a.L l with
  | false => rw [AccV_bad (d := prodD a b op) hw]; rfl
  | true =>
    have hwb : validW b.L l = true := by rw [← hL]; exact hw
    rw [AccV_of hv hw, AccV_of ha hw, AccV_of hb hwb, Bool.true_and]
    have hs := start_univ2 ha hb
    have hf := step_univ2 ha hb hL
    have e : ((a.L.toNat : Nat) : Int) = a.L := by have := ha.L; omega
    have hok : l.all (okB ((a.L.toNat : Nat) : Int)) = true := by
      rw [e]; unfold validW at hw; rw [Bool.and_eq_true] at hw; exact hw.2
    have hst : (PSt a b).getD 0 (0, 0) = (a.s, b.s) ∧ (a.s, b.s) ∈ PSt a b := gen_start _
    have hr := gen_run (z := ((0 : Int), (0 : Int))) (g := finP a b op) a.L hs hf l (a.s, b.s) hst.2 hok
    have h0 : posN (PSt a b) (a.s, b.s) = 0 := by
      have hn := (exI_ok (z := ((0 : Int), (0 : Int))) hs hf (univ2 a.fin.length b.fin.length).length).1
      have := posN_at ((0 : Int), (0 : Int)) hn (i := 0) (exI_ne _ _ _ _ _)
      rw [show (exI (stepP a b) a.L.toNat (a.s, b.s) ((0 : Int), (0 : Int)) (univ2 a.fin.length b.fin.length).length).getD 0 (0, 0) = (a.s, b.s) from hst.1] at this
      exact this
    have hr1 : runI (prodD a b op) 0 l = ((posN (PSt a b) (runI a a.s l, runI b b.s l) : Nat) : Int) := by
      have := hr.1
      rw [show posN (exI (stepP a b) a.L.toNat (a.s, b.s) ((0 : Int), (0 : Int)) (univ2 a.fin.length b.fin.length).length) (a.s, b.s) = 0 from h0, foldW_stepP] at this
      exact this
    have hm : (runI a a.s l, runI b b.s l) ∈ PSt a b := by have := hr.2; rw [foldW_stepP] at this; exact this
    rw [show (prodD a b op).s = 0 from rfl, hr1, Int.toNat_natCast]
    have h1 := posN_lt hm
    have h2 := getD_posN ((0 : Int), (0 : Int)) hm
    rw [List.getD_eq_getElem?_getD, List.getElem?_eq_getElem h1, Option.getD_some] at h2
    show ((PSt a b).map (finP a b op)).getD _ false = _
    rw [List.getD_eq_getElem?_getD, List.getElem?_map, List.getElem?_eq_getElem h1, h2]
    rfl
end Go.Sx
