import Derived.Test.YtoikhoniogicdaaDm
set_option linter.unusedVariables false
namespace Go.Sx
/-! ### words and the rows of what is alive; pumping -/
def Okw (d : Dfa) (l : List UInt8) : Prop := l.all (okB d.L) = true
theorem Okw.app {d : Dfa} {u v : List UInt8} (hu : Okw d u) (hv : Okw d v) : Okw d (u ++ v) := by unfold Okw at *; rw [List.all_append, hu, hv]; rfl
theorem Okw.left {d : Dfa} {u v : List UInt8} (h : Okw d (u ++ v)) : Okw d u := by unfold Okw at *; rw [List.all_append, Bool.and_eq_true] at h; exact h.1
theorem Okw.right {d : Dfa} {u v : List UInt8} (h : Okw d (u ++ v)) : Okw d v := by unfold Okw at *; rw [List.all_append, Bool.and_eq_true] at h; exact h.2
def InR (d : Dfa) (q : Int) : Prop := 0 ≤ q ∧ q < d.fin.length
theorem runI_inr {d : Dfa} (hv : VD d) : ∀ (l : List UInt8) (q : Int), InR d q → Okw d l → InR d (runI d q l)
  | [], q, hq, _ => hq
  | c :: l, q, hq, h => by
    unfold Okw at h; rw [List.all_cons, Bool.and_eq_true] at h
    exact runI_inr hv l (stepI d q c) (stepI_bd hv hq h.1) h.2
/-- a word of r letters leads from q to a final state -/
def Wd (d : Dfa) (r : Nat) (q : Int) : Prop := ∃ l : List UInt8, l.length = r ∧ Okw d l ∧ finQ d (runI d q l) = true
theorem okB_ltr {L : Int} (hL : 1 ≤ L ∧ L ≤ 6) {x : Nat} (hx : (x : Int) < L) : okB L (ltr x) = true := by
  rw [okB, ltr_toNat (by omega), decide_eq_true_eq]; omega
theorem stepI_ltr {d : Dfa} {q : Int} {x : Nat} (hx : x < 128) : stepI d q (ltr x) = stepQ d q x := by
  unfold stepI stepQ; rw [ltr_num hx]
theorem alive_iff {d : Dfa} (hv : VD d) : ∀ (r : Nat) (q : Int), InR d q → ((aliveR d r).getD q.toNat false = true ↔ Wd d r q)
  | 0, q, hq => by
    constructor
    · intro h; exact ⟨[], rfl, rfl, h⟩
    · rintro ⟨l, hl, _, h⟩
      have : l = [] := List.length_eq_zero_iff.1 hl
      subst this; exact h
  | r + 1, q, hq => by
    have hL := hv.L
    have hn := hv.nx
    have hi : q.toNat < d.nx.length := by have := hq.1; have := hq.2; omega
    have hr := hv.row q.toNat (by omega)
    have e : (aliveR d (r + 1)).getD q.toNat false = (d.nx.getD q.toNat []).any fun p => (aliveR d r).getD p.toNat false := by
      simp [aliveR, preB, List.getD_eq_getElem?_getD, hi]
    rw [e, List.any_eq_true]
    constructor
    · rintro ⟨p, hp, h⟩
      obtain ⟨x, hx, rfl⟩ := List.getElem_of_mem hp
      have ht := hv.to q.toNat x (by omega) hx
      have eg : (d.nx.getD q.toNat [])[x] = stepQ d q x := by
        show _ = (d.nx.getD q.toNat []).getD x 0
        generalize d.nx.getD q.toNat [] = row at *
        simp [List.getD_eq_getElem?_getD, hx]
      have eg2 : (d.nx.getD q.toNat []).getD x 0 = stepQ d q x := rfl
      rw [eg2] at ht
      rw [eg, alive_iff hv r _ ht] at h
      obtain ⟨l, h1, h2, h3⟩ := h
      refine ⟨ltr x :: l, by simp [h1], ?_, ?_⟩
      · unfold Okw at *; rw [List.all_cons, h2, okB_ltr hL (by omega)]; rfl
      · show finQ d (runI d (stepI d q (ltr x)) l) = true
        rw [stepI_ltr (by omega)]; exact h3
    · rintro ⟨l, h1, h2, h3⟩
      cases l with
      | nil => simp at h1
      | cons c l =>
        unfold Okw at h2; rw [List.all_cons, Bool.and_eq_true] at h2
        have hc := h2.1
        have hb := stepI_bd hv hq hc
        simp only [okB, decide_eq_true_eq] at hc
        refine ⟨stepI d q c, ?_, (alive_iff hv r _ hb).2 ⟨l, by simpa using h1, h2.2, h3⟩⟩
        unfold stepI
        exact getD_mem (by omega)
/-- n + 1 numbers below n: two are alike -/
theorem pigeon : ∀ (n : Nat) (f : Nat → Int), (∀ i, i ≤ n → 0 ≤ f i ∧ f i < n) → ∃ i j, i < j ∧ j ≤ n ∧ f i = f j := by
  intro n f h
  have h1 : ¬ ((List.range (n + 1)).map f).Nodup := fun hd => by
    have := nodup_sub_len (U := univ n) hd (fun y hy => by
      obtain ⟨i, hi, rfl⟩ := List.mem_map.1 hy
      rw [List.mem_range] at hi
      exact mem_univ.2 (h i (by omega)))
    rw [univ_len] at this; simp at this; omega
  have h2 : ¬ ∀ i j, i < j → j < n + 1 → f i ≠ f j := fun h3 => h1 (by
    unfold List.Nodup
    rw [List.pairwise_map, List.pairwise_iff_getElem]
    intro i j hi hj hij
    simp only [List.getElem_range]
    exact h3 i j hij (by simpa using hj))
  simp only [Classical.not_forall] at h2
  obtain ⟨i, j, hij, hj, h4⟩ := h2
  exact ⟨i, j, hij, by omega, by simpa using h4⟩
/-- a word of n letters or more: a loop within its first n letters -/
theorem pump {d : Dfa} (hv : VD d) {q : Int} (hq : InR d q) {l : List UInt8} (hl : d.fin.length ≤ l.length) (ho : Okw d l) :
    ∃ u c v, l = u ++ (c ++ v) ∧ c ≠ [] ∧ (u ++ c).length ≤ d.fin.length ∧ runI d (runI d q u) c = runI d q u := by
  obtain ⟨i, j, hij, hj, e⟩ := pigeon d.fin.length (fun i => runI d q (l.take i)) fun i hi => by
    have : l = l.take i ++ l.drop i := (List.take_append_drop i l).symm
    exact runI_inr hv _ _ hq (by rw [this] at ho; exact ho.left)
  refine ⟨l.take i, (l.take j).drop i, l.drop j, ?_, ?_, ?_, ?_⟩
  · rw [← List.append_assoc]
    have : l.take i ++ (l.take j).drop i = l.take j := by
      have h := List.take_append_drop i (l.take j)
      rwa [List.take_take, Nat.min_eq_left (by omega)] at h
    rw [this, List.take_append_drop]
  · intro h
    have := congrArg List.length h
    simp at this; omega
  · simp; omega
  · have h := List.take_append_drop i (l.take j)
    rw [List.take_take, Nat.min_eq_left (by omega)] at h
    rw [← runI_append, h]; exact e.symm
def Liv (d : Dfa) (q : Int) : Prop := ∃ l, Okw d l ∧ finQ d (runI d q l) = true
def Rch (d : Dfa) (p q : Int) : Prop := ∃ l, Okw d l ∧ runI d p l = q
def Cyc (d : Dfa) : Prop := ∃ q, Rch d d.s q ∧ Liv d q ∧ ∃ c, c ≠ [] ∧ Okw d c ∧ runI d q c = q
theorem cyc_of {d : Dfa} (hv : VD d) {k : Nat} (hk : d.fin.length ≤ k) (h : Wd d k d.s) : Cyc d := by
  obtain ⟨l, h1, h2, h3⟩ := h
  obtain ⟨u, c, v, e, hc, _, hr⟩ := pump hv hv.s (by omega) h2
  subst e
  rw [runI_append, runI_append, hr] at h3
  exact ⟨runI d d.s u, ⟨u, h2.left, rfl⟩, ⟨v, h2.right.right, h3⟩, c, hc, h2.right.left, hr⟩
theorem long_of {d : Dfa} (h : Cyc d) : ∀ n : Nat, ∃ k, n ≤ k ∧ Wd d k d.s := by
  obtain ⟨q, ⟨u, hu, hq⟩, ⟨v, hv, hf⟩, c, hc, ho, hr⟩ := h
  intro n
  have hl : ∃ m : List UInt8, n ≤ m.length ∧ Okw d m ∧ runI d q m = q := by
    induction n with
    | zero => exact ⟨[], Nat.zero_le _, rfl, rfl⟩
    | succ n ih =>
      obtain ⟨m, h1, h2, h3⟩ := ih
      refine ⟨m ++ c, ?_, h2.app ho, by rw [runI_append, h3, hr]⟩
      have : 0 < c.length := List.length_pos_iff.2 hc
      simp; omega
  obtain ⟨m, h1, h2, h3⟩ := hl
  refine ⟨(u ++ (m ++ v)).length, by simp; omega, u ++ (m ++ v), rfl, hu.app (h2.app hv), ?_⟩
  rw [runI_append, hq, runI_append, h3]; exact hf
theorem mid_of {d : Dfa} (hv : VD d) (h : Cyc d) : ∃ k, d.fin.length ≤ k ∧ k < 2 * d.fin.length ∧ Wd d k d.s := by
  have hn : 0 < d.fin.length := by have := hv.s; omega
  have key : ∀ k, d.fin.length ≤ k → Wd d k d.s → ∃ k, d.fin.length ≤ k ∧ k < 2 * d.fin.length ∧ Wd d k d.s := by
    intro k
    induction k using Nat.strongRecOn with
    | _ k ih =>
      intro hk hw
      rcases Nat.lt_or_ge k (2 * d.fin.length) with h1 | h1
      · exact ⟨k, hk, h1, hw⟩
      · obtain ⟨l, e1, e2, e3⟩ := hw
        obtain ⟨u, c, v, e, hc, hle, hr⟩ := pump hv hv.s (by omega) e2
        subst e
        have hcl : 0 < c.length := List.length_pos_iff.2 hc
        simp only [List.length_append] at e1 hle
        refine ih (u ++ v).length (by simp; omega) (by simp; omega) ⟨u ++ v, rfl, e2.left.app e2.right.right, ?_⟩
        rw [runI_append, runI_append, hr] at e3
        rw [runI_append]; exact e3
  obtain ⟨k, h1, h2⟩ := long_of h d.fin.length
  exact key k h1 h2
/-- what a shorter word does -/
theorem liv_short {d : Dfa} (hv : VD d) {q : Int} (hq : InR d q) (h : Liv d q) : ∃ r, r ≤ d.fin.length ∧ Wd d r q := by
  obtain ⟨l, h1, h2⟩ := h
  have key : ∀ k (l : List UInt8), l.length = k → Okw d l → finQ d (runI d q l) = true → ∃ r, r ≤ d.fin.length ∧ Wd d r q := by
    intro k
    induction k using Nat.strongRecOn with
    | _ k ih =>
      intro l hk ho hf
      rcases Nat.lt_or_ge d.fin.length l.length with h3 | h3
      · obtain ⟨u, c, v, e, hc, hle, hr⟩ := pump hv hq (by omega) ho
        subst e
        have hcl : 0 < c.length := List.length_pos_iff.2 hc
        simp only [List.length_append] at hk
        refine ih (u ++ v).length (by simp; omega) (u ++ v) rfl (ho.left.app ho.right.right) ?_
        rw [runI_append, runI_append, hr] at hf
        rw [runI_append]; exact hf
      · exact ⟨l.length, h3, l, rfl, ho, hf⟩
  exact key _ l rfl h1 h2
theorem CN_wd {d : Dfa} (hv : VD d) {n : Nat} (h : CountV d n ≠ 0) (hn : n ≤ 10000) : Wd d n d.s := by
  have hL := hv.L
  have h1 := CountV_eqm hv hn
  rw [CN_words hv n d.s hv.s] at h1
  have h2 : ((allW d.L.toNat n).countP fun l => d.fin.getD (runI d d.s l).toNat false) ≠ 0 := fun e => by
    rw [e] at h1
    exact h (h1.eq (CountV_bd _ _) ⟨by simp, by decide⟩)
  have h3 : 0 < (allW d.L.toNat n).countP fun l => d.fin.getD (runI d d.s l).toNat false := by omega
  rw [List.countP_pos_iff] at h3
  obtain ⟨l, hl, hf⟩ := h3
  have h4 := allW_ok (by omega) n l hl
  have e : ((d.L.toNat : Nat) : Int) = d.L := by omega
  rw [e] at h4
  exact ⟨l, h4.1, h4.2, hf⟩
end Go.Sx
