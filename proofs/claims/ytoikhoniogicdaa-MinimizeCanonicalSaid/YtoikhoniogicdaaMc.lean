import Derived.Test.YtoikhoniogicdaaMb
set_option linter.unusedVariables false
set_option linter.unusedSectionVars false
set_option linter.unusedSimpArgs false
namespace Go.Sx
/-! ### two explorations step by step; what is trimmed is fixed by what it accepts, if no two states are equivalent -/
section
variable {α β : Type} [DecidableEq α] [DecidableEq β]
inductive All2 (R : α → β → Prop) : List α → List β → Prop
  | nil : All2 R [] []
  | cons {a b xs ys} : R a b → All2 R xs ys → All2 R (a :: xs) (b :: ys)
variable {R : α → β → Prop}
theorem All2.len {xs : List α} {ys : List β} (h : All2 R xs ys) : xs.length = ys.length := by
  induction h with
  | nil => rfl
  | cons _ _ ih => simp [ih]
theorem All2.get {xs : List α} {ys : List β} (h : All2 R xs ys) (z : α) (z' : β) : ∀ i, i < xs.length → R (xs.getD i z) (ys.getD i z') := by
  induction h with
  | nil => intro i hi; simp at hi
  | cons h1 _ ih =>
    intro i hi
    cases i with
    | zero => exact h1
    | succ i => exact ih i (by simpa using hi)
theorem All2.snoc {xs : List α} {ys : List β} (h : All2 R xs ys) {a : α} {b : β} (hab : R a b) : All2 R (xs ++ [a]) (ys ++ [b]) := by
  induction h with
  | nil => exact .cons hab .nil
  | cons h1 _ ih => exact .cons h1 ih
/-- related things are alike on both sides together -/
def Inj2 (R : α → β → Prop) : Prop := ∀ a b a' b', R a b → R a' b' → (a = a' ↔ b = b')
theorem All2.pos (hR : Inj2 R) {xs : List α} {ys : List β} (h : All2 R xs ys) {a : α} {b : β} (hab : R a b) : posN xs a = posN ys b ∧ (a ∈ xs ↔ b ∈ ys) := by
  induction h with
  | nil => simp [posN]
  | @cons c d xs ys h1 _ ih =>
    have e := hR _ _ _ _ hab h1
    constructor
    · unfold posN
      by_cases hc : a = c
      · rw [if_pos hc, if_pos (e.1 hc)]
      · rw [if_neg hc, if_neg (fun h => hc (e.2 h)), ih.1]
    · rw [List.mem_cons, List.mem_cons, e, ih.2]
theorem All2.ins (hR : Inj2 R) {xs : List α} {ys : List β} (h : All2 R xs ys) {a : α} {b : β} (hab : R a b) : All2 R (insN xs a) (insN ys b) := by
  unfold insN
  have := (h.pos hR hab).2
  by_cases hm : a ∈ xs
  · rw [if_pos hm, if_pos (this.1 hm)]; exact h
  · rw [if_neg hm, if_neg (fun h => hm (this.2 h))]; exact h.snoc hab
theorem all2_exR (hR : Inj2 R) {f : α → Nat → α} {g : β → Nat → β} {p : α} {q : β} {L : Nat} (hf : ∀ x, x < L → R (f p x) (g q x)) {xs : List α} {ys : List β} (h : All2 R xs ys) : ∀ k, k ≤ L → All2 R (exR f p xs k) (exR g q ys k)
  | 0, _ => h
  | k + 1, hk => (all2_exR hR hf h k (by omega)).ins hR (hf k (by omega))
theorem all2_exI (hR : Inj2 R) {f : α → Nat → α} {g : β → Nat → β} {L : Nat} {s z : α} {t y : β} (hs : R s t) (hf : ∀ p q x, x < L → R p q → R (f p x) (g q x)) : ∀ i, All2 R (exI f L s z i) (exI g L t y i)
  | 0 => .cons hs .nil
  | i + 1 => by
    have ih := all2_exI hR hs hf i (z := z) (y := y)
    by_cases hi : i < (exI f L s z i).length
    · rw [exI_next hi, exI_next (by rw [← ih.len]; exact hi)]
      have h1 := ih.get z y i hi
      exact all2_exR hR (fun x hx => hf _ _ x hx h1) ih L (Nat.le_refl _)
    · have hj : ¬ i < (exI g L t y i).length := by rw [← ih.len]; exact hi
      have e1 := exI_stop (f := f) (L := L) (s := s) (z := z) (n := i) (by omega) 1
      have e2 := exI_stop (f := g) (L := L) (s := t) (z := y) (n := i) (by omega) 1
      rw [e1, e2]; exact ih
end
theorem trim_of_rel {a b : Dfa} (ha : VD a) (hb : VD b) (hL : a.L = b.L) (R : Int → Int → Prop) (hR : Inj2 R) (hs : R a.s b.s) (hf : ∀ p q (x : Nat), (x : Int) < a.L → R p q → R (stepQ a p x) (stepQ b q x)) (hg : ∀ p q, R p q → finQ a p = finQ b q) :
    trimD a = trimD b ∧ All2 R (TSt a) (TSt b) := by
  have hLa := ha.L
  have h2 : ∀ i, All2 R (exI (stepQ a) a.L.toNat a.s 0 i) (exI (stepQ b) b.L.toNat b.s 0 i) := by
    rw [← hL]
    exact all2_exI hR hs (fun p q x hx h => hf p q x (by omega) h)
  obtain ⟨e1, e2, _⟩ := tst_fix ha
  have e3 : (TSt a).length = (exI (stepQ b) b.L.toNat b.s 0 (TSt a).length).length := e1.trans (h2 _).len
  obtain ⟨e4, _⟩ := exI_final (start_univ hb) (step_univ hb) e3
  have e5 : TSt b = exI (stepQ b) b.L.toNat b.s 0 (TSt a).length := by
    rw [univ_len] at e4; exact e4
  have hT : All2 R (TSt a) (TSt b) := by
    have := h2 (TSt a).length
    rw [e2, ← e5] at this; exact this
  refine ⟨?_, hT⟩
  have gen : ∀ (xs ys : List Int), All2 R xs ys → (∀ p ∈ xs, p ∈ TSt a) →
      xs.map (finQ a) = ys.map (finQ b) ∧ (xs.map fun q => (List.range a.L.toNat).map fun x => ((posN (TSt a) (stepQ a q x) : Nat) : Int)) = ys.map fun q => (List.range b.L.toNat).map fun x => ((posN (TSt b) (stepQ b q x) : Nat) : Int) := by
    intro xs ys h
    induction h with
    | nil => intro _; exact ⟨rfl, rfl⟩
    | @cons p q xs ys h1 _ ih =>
      intro hm
      obtain ⟨i1, i2⟩ := ih (fun p hp => hm p (List.mem_cons_of_mem _ hp))
      constructor
      · rw [List.map_cons, List.map_cons, i1, hg p q h1]
      · rw [List.map_cons, List.map_cons, i2]
        congr 1
        rw [← hL]
        apply List.map_congr_left
        intro x hx
        rw [List.mem_range] at hx
        rw [(hT.pos hR (hf p q x (by omega) h1)).1]
  obtain ⟨g1, g2⟩ := gen _ _ hT (fun p hp => hp)
  unfold trimD
  rw [g1, g2, hL]
/-- no two states that are reached are equivalent -/
def Rdc (d : Dfa) : Prop := ∀ u v, Okw d u → Okw d v → EqS d (runI d d.s u) (runI d d.s v) → runI d d.s u = runI d d.s v
theorem okw_L {a b : Dfa} (h : a.L = b.L) {l : List UInt8} : Okw a l ↔ Okw b l := by unfold Okw; rw [h]
/-- the languages are the same -/
def Lng (a b : Dfa) : Prop := ∀ l, Okw a l → finQ a (runI a a.s l) = finQ b (runI b b.s l)
theorem Lng.symm {a b : Dfa} (hL : a.L = b.L) (h : Lng a b) : Lng b a := fun l hl => (h l ((okw_L hL).2 hl)).symm
theorem Lng.trans {a b c : Dfa} (hL : a.L = b.L) (h : Lng a b) (k : Lng b c) : Lng a c := fun l hl => (h l hl).trans (k l ((okw_L hL).1 hl))
theorem Lng.acc {a b : Dfa} (ha : VD a) (hb : VD b) (hL : a.L = b.L) (h : Lng a b) (l : List UInt8) : AccV a l = AccV b l := by
  cases hw : validW a.L l with
  | false => rw [AccV_bad hw, AccV_bad (by rw [← hL]; exact hw)]
  | true =>
    rw [AccV_of ha hw, AccV_of hb (by rw [← hL]; exact hw)]
    have ho : Okw a l := by unfold validW at hw; rw [Bool.and_eq_true] at hw; exact hw.2
    exact h l ho
theorem runI_snoc1 (d : Dfa) (q : Int) (l : List UInt8) {x : Nat} (hx : x < 128) : runI d q (l ++ [ltr x]) = stepQ d (runI d q l) x := by
  rw [runI_append]
  show stepI d (runI d q l) (ltr x) = _
  exact stepI_ltr hx
theorem okw_snoc {d : Dfa} (hv : VD d) {l : List UInt8} (hl : Okw d l) {x : Nat} (hx : (x : Int) < d.L) : Okw d (l ++ [ltr x]) := hl.app (okw_cons.2 ⟨okB_ltr hv.L hx, Okw.nil⟩)
theorem lng_eqs {a b : Dfa} (hL : a.L = b.L) (h : Lng a b) {u v : List UInt8} (hu : Okw a u) (hv : Okw a v) : EqS a (runI a a.s u) (runI a a.s v) ↔ EqS b (runI b b.s u) (runI b b.s v) := by
  constructor
  · intro he l hl
    have hl' := (okw_L hL).2 hl
    rw [← runI_append, ← runI_append, ← h _ (hu.app hl'), ← h _ (hv.app hl'), runI_append, runI_append]
    exact he l hl'
  · intro he l hl
    have hl' := (okw_L hL).1 hl
    rw [← runI_append, ← runI_append, h _ (hu.app hl), h _ (hv.app hl), runI_append, runI_append]
    exact he l hl'
theorem trim_unique {a b : Dfa} (ha : VD a) (hb : VD b) (hL : a.L = b.L) (hlang : Lng a b) (hra : Rdc a) (hrb : Rdc b) : trimD a = trimD b := by
  have hLa := ha.L
  refine (trim_of_rel ha hb hL (fun p q => ∃ l, Okw a l ∧ runI a a.s l = p ∧ runI b b.s l = q) ?_ ⟨[], Okw.nil, rfl, rfl⟩ ?_ ?_).1
  · rintro p q p' q' ⟨u, hu, rfl, rfl⟩ ⟨v, hv, rfl, rfl⟩
    constructor
    · intro e
      refine hrb u v ((okw_L hL).1 hu) ((okw_L hL).1 hv) ((lng_eqs hL hlang hu hv).1 ?_)
      rw [e]; exact EqS.refl _ _
    · intro e
      refine hra u v hu hv ((lng_eqs hL hlang hu hv).2 ?_)
      rw [e]; exact EqS.refl _ _
  · rintro p q x hx ⟨u, hu, rfl, rfl⟩
    exact ⟨u ++ [ltr x], okw_snoc ha hu hx, runI_snoc1 _ _ _ (by omega), runI_snoc1 _ _ _ (by omega)⟩
  · rintro p q ⟨u, hu, rfl, rfl⟩
    exact hlang u hu
/-- trimmed once is trimmed twice -/
theorem tst_in {d : Dfa} (hv : VD d) {p : Int} (hp : p ∈ TSt d) : InR d p := (TSt_ok hv).2.1 p hp
theorem trim_step {d : Dfa} (hv : VD d) {p : Int} (hp : p ∈ TSt d) {x : Nat} (hx : (x : Int) < d.L) : stepQ (trimD d) ((posN (TSt d) p : Nat) : Int) x = ((posN (TSt d) (stepQ d p x) : Nat) : Int) := by
  have hL := hv.L
  have h1 := posN_lt hp
  have e := getD_posN 0 hp
  have hlt : x < d.L.toNat := by omega
  unfold stepQ trimD
  rw [Int.toNat_natCast]
  simp only [List.getD_eq_getElem?_getD, List.getElem?_map, List.getElem?_eq_getElem h1, Option.map_some, Option.getD_some, List.getElem?_range hlt]
  rw [List.getD_eq_getElem?_getD, List.getElem?_eq_getElem h1, Option.getD_some] at e
  rw [e]; rfl
theorem trim_finQ {d : Dfa} (hv : VD d) {p : Int} (hp : p ∈ TSt d) : finQ (trimD d) ((posN (TSt d) p : Nat) : Int) = finQ d p := by
  have h1 := posN_lt hp
  have e := getD_posN 0 hp
  unfold finQ trimD
  rw [Int.toNat_natCast]
  simp only [List.getD_eq_getElem?_getD, List.getElem?_map, List.getElem?_eq_getElem h1, Option.map_some, Option.getD_some]
  rw [List.getD_eq_getElem?_getD, List.getElem?_eq_getElem h1, Option.getD_some] at e
  rw [e]; simp [finQ, List.getD_eq_getElem?_getD]
theorem trim_runI {d : Dfa} (hv : VD d) : ∀ {l : List UInt8} {p : Int}, p ∈ TSt d → Okw d l → runI (trimD d) ((posN (TSt d) p : Nat) : Int) l = ((posN (TSt d) (runI d p l) : Nat) : Int) ∧ runI d p l ∈ TSt d
  | [], p, hp, _ => ⟨rfl, hp⟩
  | c :: l, p, hp, h => by
    obtain ⟨h1, h2⟩ := okw_cons.1 h
    have hx := okB_num h1
    have hL := hv.L
    have hm := TSt_closed hv hp (x := ((c.toNat : Int) - 97).toNat) (by omega)
    rw [runI_cons, runI_cons, trim_step hv hp hx]
    exact trim_runI hv (l := l) hm h2
theorem trim_start {d : Dfa} (hv : VD d) : (trimD d).s = ((posN (TSt d) d.s : Nat) : Int) := by rw [(tst_start hv).2]; rfl
theorem trim_lng {d : Dfa} (hv : VD d) : Lng (trimD d) d := fun l hl => by
  have hl' : Okw d l := hl
  obtain ⟨h1, h2⟩ := trim_runI hv (tst_start hv).1 hl'
  rw [trim_start hv, h1, trim_finQ hv h2]
theorem trim_trim {d : Dfa} (hv : VD d) : trimD (trimD d) = trimD d := by
  refine ((trim_of_rel hv (trim_vd hv) rfl (fun p q => p ∈ TSt d ∧ q = ((posN (TSt d) p : Nat) : Int)) ?_ ⟨(tst_start hv).1, trim_start hv⟩ ?_ ?_).1).symm
  · rintro p q p' q' ⟨h1, rfl⟩ ⟨h2, rfl⟩
    constructor
    · intro e; rw [e]
    · intro e
      have e' : posN (TSt d) p = posN (TSt d) p' := by omega
      rw [← getD_posN 0 h1, ← getD_posN 0 h2, e']
  · rintro p q x hx ⟨h1, rfl⟩
    have hL := hv.L
    exact ⟨TSt_closed hv h1 (by omega), trim_step hv h1 hx⟩
  · rintro p q ⟨h1, rfl⟩
    exact (trim_finQ hv h1).symm
/-- every state of what is trimmed is reached -/
theorem trim_reach {d : Dfa} (hv : VD d) {q : Int} (hq : InR (trimD d) q) : ∃ l, Okw d l ∧ runI (trimD d) 0 l = q ∧ l.length ≤ 512 := by
  have h1 := hq.1; have h2 := hq.2
  have hl : (trimD d).fin.length = (TSt d).length := by simp [trimD]
  rw [hl] at h2
  have hi : q.toNat < (TSt d).length := by omega
  obtain ⟨h3, h4⟩ := two_ok hv hi
  have ho : Okw d ((TWo d).getD q.toNat []) := by unfold validW at h3; rw [Bool.and_eq_true] at h3; exact h3.2
  obtain ⟨h5, _⟩ := trim_runI hv (tst_start hv).1 ho
  have e0 : ((posN (TSt d) d.s : Nat) : Int) = 0 := by rw [(tst_start hv).2]; rfl
  refine ⟨_, ho, ?_, ?_⟩
  · rw [← e0, h5, h4, posN_at 0 (TSt_ok hv).1 hi]; omega
  · obtain ⟨_, _, g3⟩ := tst_fix hv
    have := exIw_wd' (f := stepQ d) (L := d.L.toNat) (s := d.s) (z := 0) (TSt d).length _ (by rw [g3]; exact getD_mem (d := []) (xs := TWo d) (k := q.toNat) (by rw [two_len hv]; exact hi))
    have hb := (TSt_ok hv).2.2.1
    have hn := hv.n
    omega
end Go.Sx
