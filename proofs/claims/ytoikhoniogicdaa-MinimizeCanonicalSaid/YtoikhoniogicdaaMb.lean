import Derived.Test.YtoikhoniogicdaaMa
set_option linter.unusedVariables false
set_option linter.unusedSectionVars false
set_option linter.unusedSimpArgs false
namespace Go.Sx
/-! ### equivalent states -/
def EqK (d : Dfa) (k : Nat) (p q : Int) : Prop := ∀ l, Okw d l → l.length ≤ k → finQ d (runI d p l) = finQ d (runI d q l)
def EqS (d : Dfa) (p q : Int) : Prop := ∀ l, Okw d l → finQ d (runI d p l) = finQ d (runI d q l)
theorem Okw.nil {d : Dfa} : Okw d [] := rfl
theorem okw_cons {d : Dfa} {c : UInt8} {l : List UInt8} : Okw d (c :: l) ↔ okB d.L c = true ∧ Okw d l := by unfold Okw; rw [List.all_cons, Bool.and_eq_true]
theorem EqS.refl (d : Dfa) (p : Int) : EqS d p p := fun _ _ => rfl
theorem EqS.symm {d : Dfa} {p q : Int} (h : EqS d p q) : EqS d q p := fun l hl => (h l hl).symm
theorem EqS.trans {d : Dfa} {p q r : Int} (h : EqS d p q) (k : EqS d q r) : EqS d p r := fun l hl => (h l hl).trans (k l hl)
theorem EqS.run {d : Dfa} {p q : Int} (h : EqS d p q) {u : List UInt8} (hu : Okw d u) : EqS d (runI d p u) (runI d q u) := fun l hl => by
  rw [← runI_append, ← runI_append]; exact h _ (hu.app hl)
theorem EqK.zero {d : Dfa} {p q : Int} : EqK d 0 p q ↔ finQ d p = finQ d q := by
  constructor
  · intro h; exact h [] Okw.nil (Nat.le_refl _)
  · intro h l _ hl
    have : l = [] := List.length_eq_zero_iff.1 (by omega)
    subst this; exact h
theorem okB_num {L : Int} {c : UInt8} (h : okB L c = true) : (((c.toNat : Int) - 97).toNat : Int) < L := by
  simp only [okB, decide_eq_true_eq] at h; omega
theorem runI_cons (d : Dfa) (q : Int) (c : UInt8) (l : List UInt8) : runI d q (c :: l) = runI d (stepQ d q ((c.toNat : Int) - 97).toNat) l := rfl
theorem EqK.succ {d : Dfa} (hv : VD d) {k : Nat} {p q : Int} : EqK d (k + 1) p q ↔ finQ d p = finQ d q ∧ ∀ x : Nat, (x : Int) < d.L → EqK d k (stepQ d p x) (stepQ d q x) := by
  have hL := hv.L
  constructor
  · intro h
    refine ⟨h [] Okw.nil (Nat.zero_le _), fun x hx l hl hk => ?_⟩
    have := h (ltr x :: l) (okw_cons.2 ⟨okB_ltr hL hx, hl⟩) (by simp; omega)
    rw [runI_cons, runI_cons, ltr_num (by omega)] at this
    exact this
  · rintro ⟨h0, h⟩ l hl hk
    cases l with
    | nil => exact h0
    | cons c l =>
      obtain ⟨h1, h2⟩ := okw_cons.1 hl
      rw [runI_cons, runI_cons]
      exact h _ (okB_num h1) l h2 (by simp at hk; omega)
theorem EqK.mono {d : Dfa} {k m : Nat} (h : k ≤ m) {p q : Int} (he : EqK d m p q) : EqK d k p q := fun l hl hk => he l hl (by omega)
theorem EqS.k {d : Dfa} {p q : Int} (h : EqS d p q) (k : Nat) : EqK d k p q := fun l hl _ => h l hl
theorem EqK.succ' {d : Dfa} (hv : VD d) {k : Nat} {p q : Int} : EqK d (k + 1) p q ↔ EqK d k p q ∧ ∀ x : Nat, (x : Int) < d.L → EqK d k (stepQ d p x) (stepQ d q x) := by
  constructor
  · intro h; exact ⟨h.mono (by omega), ((EqK.succ hv).1 h).2⟩
  · rintro ⟨h1, h2⟩; exact (EqK.succ hv).2 ⟨EqK.zero.1 (h1.mono (Nat.zero_le _)), h2⟩
theorem stepQ_inr {d : Dfa} (hv : VD d) {q : Int} (hq : InR d q) {x : Nat} (hx : (x : Int) < d.L) : InR d (stepQ d q x) := by
  have h1 := mem_univ.1 (step_univ hv q (mem_univ.2 hq) x (by omega))
  exact h1
/-- k is enough -/
def Stb (d : Dfa) (k : Nat) : Prop := ∀ p q, InR d p → InR d q → EqK d k p q → EqK d (k + 1) p q
theorem Stb.next {d : Dfa} (hv : VD d) {k : Nat} (h : Stb d k) : Stb d (k + 1) := fun p q hp hq he => by
  rw [EqK.succ hv] at he ⊢
  exact ⟨he.1, fun x hx => h _ _ (stepQ_inr hv hp hx) (stepQ_inr hv hq hx) (he.2 x hx)⟩
theorem Stb.eqs {d : Dfa} (hv : VD d) {k : Nat} (h : Stb d k) {p q : Int} (hp : InR d p) (hq : InR d q) (he : EqK d k p q) : EqS d p q := by
  have key : ∀ m, Stb d (k + m) ∧ EqK d (k + m) p q := by
    intro m
    induction m with
    | zero => exact ⟨h, he⟩
    | succ m ih => exact ⟨ih.1.next hv, ih.1 p q hp hq ih.2⟩
  intro l hl
  exact (key l.length).2 l hl (by omega)
theorem Stb.mono {d : Dfa} (hv : VD d) {k m : Nat} (h : Stb d k) (hm : k ≤ m) : Stb d m := by
  obtain ⟨j, rfl⟩ : ∃ j, m = k + j := ⟨m - k, by omega⟩
  clear hm
  induction j with
  | zero => exact h
  | succ j ih => exact ih.next hv
/-- a list of numbers of the states whose kernel is EqK -/
def Ker (d : Dfa) (k : Nat) (cs : List Int) : Prop := cs.length = d.fin.length ∧ ∀ i j : Nat, i < d.fin.length → j < d.fin.length → (cs.getD i 0 = cs.getD j 0 ↔ EqK d k (i : Int) (j : Int))
def sigQ (d : Dfa) (cs : List Int) (q : Nat) : List Int := cs.getD q 0 :: (d.nx.getD q []).map fun t => cs.getD t.toNat 0
def sigs (d : Dfa) (cs : List Int) : List (List Int) := (List.range d.fin.length).map (sigQ d cs)
theorem sigs_len (d : Dfa) (cs : List Int) : (sigs d cs).length = d.fin.length := by simp [sigs]
theorem sigs_get {d : Dfa} {cs : List Int} {q : Nat} (h : q < d.fin.length) : (sigs d cs).getD q [] = sigQ d cs q := by simp [sigs, List.getD_eq_getElem?_getD, h]
def lev (d : Dfa) : Nat → List Int
  | 0 => d.fin.map fun b => if b then 1 else 0
  | k + 1 => canN (sigs d (lev d k))
theorem lev_len (d : Dfa) : ∀ k, (lev d k).length = d.fin.length
  | 0 => by simp [lev]
  | k + 1 => by rw [lev, canN_len, sigs_len]
theorem sigQ_eq {d : Dfa} (hv : VD d) {k : Nat} {cs : List Int} (h : Ker d k cs) {i j : Nat} (hi : i < d.fin.length) (hj : j < d.fin.length) : sigQ d cs i = sigQ d cs j ↔ EqK d (k + 1) (i : Int) (j : Int) := by
  have hL := hv.L
  have hn := hv.nx
  have hri := hv.row i (by omega)
  have hrj := hv.row j (by omega)
  rw [EqK.succ' hv]
  unfold sigQ
  rw [List.cons.injEq]
  refine and_congr (h.2 i j hi hj) ?_
  have hs : ∀ p : Nat, p < d.fin.length → ∀ x : Nat, (x : Int) < d.L → ((d.nx.getD p []).map fun t => cs.getD t.toNat 0).getD x 0 = cs.getD (stepQ d (p : Int) x).toNat 0 := by
    intro p hp x hx
    have hr := hv.row p (by omega)
    have hlt : x < (d.nx.getD p []).length := by omega
    show _ = cs.getD ((d.nx.getD (p : Int).toNat []).getD x 0).toNat 0
    rw [Int.toNat_natCast]
    generalize d.nx.getD p [] = r at *
    simp [List.getD_eq_getElem?_getD, hlt]
  have hk : ∀ x : Nat, (x : Int) < d.L → (cs.getD (stepQ d (i : Int) x).toNat 0 = cs.getD (stepQ d (j : Int) x).toNat 0 ↔ EqK d k (stepQ d (i : Int) x) (stepQ d (j : Int) x)) := by
    intro x hx
    have h1 := stepQ_inr hv (q := (i : Int)) ⟨by omega, by omega⟩ hx
    have h2 := stepQ_inr hv (q := (j : Int)) ⟨by omega, by omega⟩ hx
    have := h.2 (stepQ d (i : Int) x).toNat (stepQ d (j : Int) x).toNat (by have := h1.1; have := h1.2; omega) (by have := h2.1; have := h2.2; omega)
    rw [Int.toNat_of_nonneg h1.1, Int.toNat_of_nonneg h2.1] at this
    exact this
  constructor
  · intro he x hx
    rw [← hk x hx, ← hs i hi x hx, ← hs j hj x hx, he]
  · intro he
    apply List.ext_getElem
    · rw [List.length_map, List.length_map]; omega
    · intro x h1 h2
      rw [List.length_map] at h1
      have hx : (x : Int) < d.L := by omega
      have e1 := hs i hi x hx
      have e2 := hs j hj x hx
      rw [(hk x hx).2 (he x hx), ← e2] at e1
      generalize (d.nx.getD i []).map (fun t => cs.getD t.toNat 0) = u at *
      generalize (d.nx.getD j []).map (fun t => cs.getD t.toNat 0) = v at *
      simpa [List.getD_eq_getElem?_getD, *] using e1
theorem Ker.next {d : Dfa} (hv : VD d) {k : Nat} {cs : List Int} (h : Ker d k cs) : Ker d (k + 1) (canN (sigs d cs)) := by
  refine ⟨by rw [canN_len, sigs_len], fun i j hi hj => ?_⟩
  rw [canN_eq [] (by rw [sigs_len]; exact hi) (by rw [sigs_len]; exact hj), sigs_get hi, sigs_get hj, sigQ_eq hv h hi hj]
theorem finQ_nat {d : Dfa} {i : Nat} : finQ d (i : Int) = d.fin.getD i false := by simp [finQ]
theorem Ker.zero (d : Dfa) : Ker d 0 (lev d 0) := by
  refine ⟨by simp [lev], fun i j hi hj => ?_⟩
  rw [EqK.zero, finQ_nat, finQ_nat]
  simp only [lev, List.getD_eq_getElem?_getD, List.getElem?_map, List.getElem?_eq_getElem hi, List.getElem?_eq_getElem hj, Option.map_some, Option.getD_some]
  cases d.fin[i] <;> cases d.fin[j] <;> simp
theorem lev_ker {d : Dfa} (hv : VD d) : ∀ k, Ker d k (lev d k)
  | 0 => Ker.zero d
  | k + 1 => (lev_ker hv k).next hv
theorem Ker.uniq {d : Dfa} {k m : Nat} {cs ds : List Int} (h : Ker d k cs) (h' : Ker d m ds) (he : ∀ i j : Nat, i < d.fin.length → j < d.fin.length → (EqK d k (i : Int) (j : Int) ↔ EqK d m (i : Int) (j : Int))) : canN cs = canN ds ∧ (ded cs).length = (ded ds).length :=
  canN_ker 0 0 (h.1.trans h'.1.symm) (fun i j hi hj => by rw [h.1] at hi hj; rw [h.2 i j hi hj, h'.2 i j hi hj, he i j hi hj])
theorem Ker.ref {d : Dfa} {k : Nat} {cs ds : List Int} (h : Ker d k cs) (h' : Ker d (k + 1) ds) : (ded cs).length ≤ (ded ds).length ∧ ((ded ds).length ≤ (ded cs).length → Stb d k) := by
  have := ded_refine (xs := ds) (ys := cs) 0 0 (h'.1.trans h.1.symm) (fun i j hi hj e => by
    rw [h'.1] at hi hj
    rw [h.2 i j hi hj]
    exact ((h'.2 i j hi hj).1 e).mono (by omega))
  refine ⟨this.1, fun hle p q hp hq he => ?_⟩
  have hp1 := hp.1; have hp2 := hp.2; have hq1 := hq.1; have hq2 := hq.2
  have e1 : ((p.toNat : Nat) : Int) = p := by omega
  have e2 : ((q.toNat : Nat) : Int) = q := by omega
  have h1 := h.2 p.toNat q.toNat (by omega) (by omega)
  have h2 := h'.2 p.toNat q.toNat (by omega) (by omega)
  rw [e1, e2] at h1 h2
  exact h2.1 (this.2 hle p.toNat q.toNat (by rw [h'.1]; omega) (by rw [h'.1]; omega) (h1.2 he))
/-- before as many steps as there are states, k is enough -/
theorem stb_states {d : Dfa} (hv : VD d) : Stb d (d.fin.length - 1) := by
  have hn : 0 < d.fin.length := by have := hv.s; omega
  have key : ∀ k, (∃ j, j < k ∧ Stb d j) ∨ k + 1 ≤ (ded (lev d k)).length := by
    intro k
    induction k with
    | zero =>
      right
      have : lev d 0 ≠ [] := by intro h; have := lev_len d 0; rw [h] at this; simp at this; omega
      obtain ⟨a, ha⟩ := List.exists_mem_of_ne_nil _ this
      have := List.length_pos_of_mem (ded_mem.2 ha)
      omega
    | succ k ih =>
      rcases ih with ⟨j, hj, h⟩ | h
      · exact .inl ⟨j, by omega, h⟩
      · obtain ⟨h1, h2⟩ := (lev_ker hv k).ref (lev_ker hv (k + 1))
        by_cases hle : (ded (lev d (k + 1))).length ≤ (ded (lev d k)).length
        · exact .inl ⟨k, by omega, h2 hle⟩
        · right; omega
  rcases key d.fin.length with ⟨j, hj, h⟩ | h
  · exact h.mono hv (by omega)
  · have := ded_le (lev d d.fin.length)
    rw [lev_len] at this; omega
theorem eqs_iff {d : Dfa} (hv : VD d) {p q : Int} (hp : InR d p) (hq : InR d q) : EqK d (d.fin.length - 1) p q ↔ EqS d p q := ⟨(stb_states hv).eqs hv hp hq, fun h => h.k _⟩
/-- the classes of the states -/
def clsD (d : Dfa) : List Int := lev d d.fin.length
def clsA (d : Dfa) (p : Int) : Int := (clsD d).getD p.toNat 0
theorem cls_len (d : Dfa) : (clsD d).length = d.fin.length := lev_len d _
theorem cls_is {d : Dfa} (hv : VD d) {k : Nat} {cs : List Int} (h : Ker d k cs) (hs : Stb d k) : canN cs = clsD d ∧ (ded cs).length = (ded (clsD d)).length := by
  have hn : 0 < d.fin.length := by have := hv.s; omega
  obtain ⟨m, hm⟩ : ∃ m, d.fin.length = m + 1 := ⟨d.fin.length - 1, by omega⟩
  have h0 := h.uniq (lev_ker hv d.fin.length) (fun i j hi hj => by
    have hi' : InR d (i : Int) := ⟨by omega, by omega⟩
    have hj' : InR d (j : Int) := ⟨by omega, by omega⟩
    exact ⟨fun he => (hs.eqs hv hi' hj' he).k _, fun he => (((stb_states hv).mono hv (by omega)).eqs hv hi' hj' he).k _⟩)
  have e : canN (lev d d.fin.length) = clsD d := by unfold clsD; rw [hm, lev, canN_canN]
  rw [e] at h0
  exact h0
theorem cls_can {d : Dfa} (hv : VD d) : canN (clsD d) = clsD d := (cls_is hv (lev_ker hv d.fin.length) ((stb_states hv).mono hv (by omega))).1
theorem cls_eq {d : Dfa} (hv : VD d) {p q : Int} (hp : InR d p) (hq : InR d q) : clsA d p = clsA d q ↔ EqS d p q := by
  have hp1 := hp.1; have hp2 := hp.2; have hq1 := hq.1; have hq2 := hq.2
  have h := (lev_ker hv d.fin.length).2 p.toNat q.toNat (by omega) (by omega)
  rw [Int.toNat_of_nonneg hp1, Int.toNat_of_nonneg hq1] at h
  unfold clsA clsD
  rw [h]
  exact ⟨((stb_states hv).mono hv (by omega)).eqs hv hp hq, fun h => h.k _⟩
theorem cls_bd {d : Dfa} (hv : VD d) {p : Int} (hp : InR d p) : 0 ≤ clsA d p ∧ clsA d p < (ded (clsD d)).length := by
  have hp1 := hp.1; have hp2 := hp.2
  unfold clsA
  rw [← cls_can hv]
  have h := canN_bd (xs := clsD d) (i := p.toNat) (by rw [cls_len]; omega)
  rw [ded_canN]; exact h
end Go.Sx
