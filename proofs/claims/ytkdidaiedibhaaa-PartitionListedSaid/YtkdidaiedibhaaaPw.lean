import Derived.Test.YtkdidaiedibhaaaPv
set_option linter.unusedVariables false
namespace Go.Sx
/-! ### relations of places -/
structure Eqv (K : Nat → Nat → Prop) : Prop where
  refl : ∀ a, K a a
  symm : ∀ a b, K a b → K b a
  trans : ∀ a b c, K a b → K b c → K a c

/-- the least equivalence over R -/
def Gen (R : Nat → Nat → Prop) (i j : Nat) : Prop := ∀ E : Nat → Nat → Prop, Eqv E → (∀ a b, R a b → E a b) → E i j
theorem Gen.eqv (R : Nat → Nat → Prop) : Eqv (Gen R) := ⟨fun a E h _ => h.refl a, fun a b h E hE hR => hE.symm _ _ (h E hE hR), fun a b c h h' E hE hR => hE.trans _ _ _ (h E hE hR) (h' E hE hR)⟩
theorem Gen.of {R : Nat → Nat → Prop} {i j : Nat} (h : R i j) : Gen R i j := fun _ _ hR => hR _ _ h
theorem Gen.mono {R R' : Nat → Nat → Prop} (h : ∀ a b, R a b → Gen R' a b) {i j : Nat} (hg : Gen R i j) : Gen R' i j := hg _ (Gen.eqv R') h
theorem Gen.le {R E : Nat → Nat → Prop} (hE : Eqv E) (h : ∀ a b, R a b → E a b) {i j : Nat} (hg : Gen R i j) : E i j := hg E hE h
theorem Gen.congr {R R' : Nat → Nat → Prop} (h : ∀ a b, R a b → Gen R' a b) (h' : ∀ a b, R' a b → Gen R a b) (i j : Nat) : Gen R i j ↔ Gen R' i j := ⟨Gen.mono h, Gen.mono h'⟩

/-- the places of xs that hold the same -/
def Ker (xs : List Int) (i j : Nat) : Prop := i = j ∨ (i < xs.length ∧ j < xs.length ∧ xs.getD i 0 = xs.getD j 0)
theorem Ker.eqv (xs : List Int) : Eqv (Ker xs) := by
  refine ⟨fun a => .inl rfl, ?_, ?_⟩
  · rintro a b (rfl | ⟨h1, h2, h3⟩)
    · exact .inl rfl
    · exact .inr ⟨h2, h1, h3.symm⟩
  · rintro a b c (rfl | ⟨h1, h2, h3⟩) (rfl | ⟨h4, h5, h6⟩)
    · exact .inl rfl
    · exact .inr ⟨h4, h5, h6⟩
    · exact .inr ⟨h1, h2, h3⟩
    · exact .inr ⟨h1, h5, h3.trans h6⟩
theorem Ker.iff {xs : List Int} {i j : Nat} (hi : i < xs.length) (hj : j < xs.length) : Ker xs i j ↔ xs.getD i 0 = xs.getD j 0 := by
  constructor
  · rintro (rfl | ⟨_, _, h⟩)
    · rfl
    · exact h
  · intro h; exact .inr ⟨hi, hj, h⟩

/-- equal kernels: equal canonical forms -/
theorem canon_of_ker {xs ys : List Int} (hl : xs.length = ys.length) (h : ∀ i j, i < xs.length → j < xs.length → (Ker xs i j ↔ Ker ys i j)) : canon xs = canon ys := by
  refine (canon_kernel xs ys hl fun i j hi hj hi' hj' => ?_).1
  have := h i j hi hj
  rw [Ker.iff hi hj, Ker.iff hi' hj'] at this
  simpa [List.getD_eq_getElem?_getD, List.getElem?_eq_getElem hi, List.getElem?_eq_getElem hj, List.getElem?_eq_getElem hi', List.getElem?_eq_getElem hj'] using this
theorem cst_inj {α : Type} [DecidableEq α] (xs : List α) : (∀ x y c, mget (cst xs).2 x = some c → mget (cst xs).2 y = some c → x = y) ∧ ∀ x c, mget (cst xs).2 x = some c → 0 ≤ c ∧ c < (cst xs).2.length := by
  have hb := (canon_canon_aux xs).2
  refine ⟨?_, hb⟩
  induction xs using snoc_ind with
  | h0 => intro x y c h; simp [cst, mget] at h
  | hs l a ih =>
    have hb' := (canon_canon_aux l).2
    have ih' := ih hb'
    cases h : mget (cst l).2 a with
    | some d => rw [cst_some h]; exact ih'
    | none =>
      rw [cst_none h]
      intro x y c hx hy
      rw [mget_mset] at hx hy
      by_cases ex : x = a <;> by_cases ey : y = a
      · rw [ex, ey]
      · rw [if_pos ex] at hx; rw [if_neg ey] at hy
        simp at hx; have := hb' y c hy; omega
      · rw [if_neg ex] at hx; rw [if_pos ey] at hy
        simp at hy; have := hb' x c hx; omega
      · rw [if_neg ex] at hx; rw [if_neg ey] at hy
        exact ih' x y c hx hy
theorem ker_canon (xs : List Int) (i j : Nat) : Ker (canon xs) i j ↔ Ker xs i j := by
  have hl := canon_length xs
  have key : ∀ i j, i < xs.length → j < xs.length → ((canon xs).getD i 0 = (canon xs).getD j 0 ↔ xs.getD i 0 = xs.getD j 0) := by
    intro i j hi hj
    obtain ⟨p1, p2⟩ := cst_mem xs
    have e1 := p2 i hi
    have e2 := p2 j hj
    obtain ⟨c1, c2⟩ := cst_inj xs
    have g1 : ∀ k (hk : k < xs.length), xs.getD k 0 = xs[k] := fun k hk => by simp [List.getD_eq_getElem?_getD, hk]
    have g2 : ∀ k (hk : k < xs.length), (canon xs)[k]? = some ((canon xs).getD k 0) := fun k hk => by simp [List.getD_eq_getElem?_getD, hl, hk]
    rw [g2 i hi] at e1
    rw [g2 j hj] at e2
    rw [g1 i hi, g1 j hj]
    constructor
    · intro h; rw [← h] at e2; exact c1 _ _ _ e1 e2
    · intro h; rw [h, e2] at e1; simpa using e1.symm
  unfold Ker
  rw [hl]
  constructor
  · rintro (h | ⟨h1, h2, h3⟩)
    · exact .inl h
    · exact .inr ⟨h1, h2, (key i j h1 h2).1 h3⟩
  · rintro (h | ⟨h1, h2, h3⟩)
    · exact .inl h
    · exact .inr ⟨h1, h2, (key i j h1 h2).2 h3⟩

/-! ### folds of unions -/
def PR (ps : List (Int × Int)) (a b : Nat) : Prop := ∃ p ∈ ps, a = p.1.toNat ∧ b = p.2.toNat
/-- one union more -/
theorem gen_step {K K' R : Nat → Nat → Prop} {i j : Nat} (hE : Eqv K') (hK : ∀ k l, K k l ↔ Gen R k l) (hs : ∀ k l, K' k l ↔ (K k l ∨ ((K k i ∨ K k j) ∧ (K l i ∨ K l j)))) (k l : Nat) : K' k l ↔ Gen (fun a b => R a b ∨ (a = i ∧ b = j)) k l := by
  have gE := Gen.eqv R
  have GE := Gen.eqv (fun a b => R a b ∨ (a = i ∧ b = j))
  have sub : ∀ a b, K a b → Gen (fun a b => R a b ∨ (a = i ∧ b = j)) a b := fun a b h => Gen.mono (fun a b h => Gen.of (.inl h)) ((hK a b).1 h)
  have hij : Gen (fun a b => R a b ∨ (a = i ∧ b = j)) i j := Gen.of (.inr ⟨rfl, rfl⟩)
  constructor
  · intro h
    rcases (hs k l).1 h with h | ⟨h1, h2⟩
    · exact sub _ _ h
    · have t1 : Gen (fun a b => R a b ∨ (a = i ∧ b = j)) k i := by
        rcases h1 with h1 | h1
        · exact sub _ _ h1
        · exact GE.trans _ _ _ (sub _ _ h1) (GE.symm _ _ hij)
      have t2 : Gen (fun a b => R a b ∨ (a = i ∧ b = j)) l i := by
        rcases h2 with h2 | h2
        · exact sub _ _ h2
        · exact GE.trans _ _ _ (sub _ _ h2) (GE.symm _ _ hij)
      exact GE.trans _ _ _ t1 (GE.symm _ _ t2)
  · intro h
    refine Gen.le hE ?_ h
    rintro a b (h | ⟨rfl, rfl⟩)
    · exact (hs a b).2 (.inl ((hK a b).2 (Gen.of h)))
    · have r1 : K a a := (hK a a).2 (gE.refl a)
      have r2 : K b b := (hK b b).2 (gE.refl b)
      exact (hs a b).2 (.inr ⟨.inl r1, .inr r2⟩)

theorem PR_snoc (ps : List (Int × Int)) (p : Int × Int) (a b : Nat) : PR (ps ++ [p]) a b ↔ (PR ps a b ∨ (a = p.1.toNat ∧ b = p.2.toNat)) := by
  unfold PR
  constructor
  · rintro ⟨q, hq, h⟩
    rcases List.mem_append.1 hq with hq | hq
    · exact .inl ⟨q, hq, h⟩
    · simp at hq; subst hq; exact .inr h
  · rintro (⟨q, hq, h⟩ | h)
    · exact ⟨q, by simp [hq], h⟩
    · exact ⟨p, by simp, h⟩

def FK (f : Nat → Nat) (i j : Nat) : Prop := f i = f j
theorem FK.eqv (f : Nat → Nat) : Eqv (FK f) := ⟨fun _ => rfl, fun _ _ h => h.symm, fun _ _ _ h h' => h.trans h'⟩

theorem ufs_gen (ps : List (Int × Int)) : ∀ k l, ufs ps k = ufs ps l ↔ Gen (PR ps) k l := by
  induction ps using snoc_ind with
  | h0 =>
    intro k l
    constructor
    · intro h; simp [ufs] at h; subst h; exact (Gen.eqv _).refl k
    · intro h; exact Gen.le (FK.eqv (ufs [])) (by rintro a b ⟨p, hp, _⟩; simp at hp) h
  | hs q p ih =>
    intro k l
    have hst : ∀ k l, FK (ufs (q ++ [p])) k l ↔ (ufs q k = ufs q l ∨ ((ufs q k = ufs q p.1.toNat ∨ ufs q k = ufs q p.2.toNat) ∧ (ufs q l = ufs q p.1.toNat ∨ ufs q l = ufs q p.2.toNat))) := by
      intro k l
      unfold FK
      rw [ufs_snoc]
      unfold ufstep
      rw [relabel]
      have key : ∀ x : Nat, (x = min (ufs q p.1.toNat) (ufs q p.2.toNat) ∨ x = max (ufs q p.1.toNat) (ufs q p.2.toNat)) ↔ (x = ufs q p.1.toNat ∨ x = ufs q p.2.toNat) := by
        intro x
        rcases Nat.le_total (ufs q p.1.toNat) (ufs q p.2.toNat) with h | h
        · rw [Nat.min_eq_left h, Nat.max_eq_right h]
        · rw [Nat.min_eq_right h, Nat.max_eq_left h]; exact Or.comm
      rw [key, key]
    have := gen_step (K := FK (ufs q)) (FK.eqv (ufs (q ++ [p]))) ih hst k l
    rw [show (ufs (q ++ [p]) k = ufs (q ++ [p]) l) = FK (ufs (q ++ [p])) k l from rfl, this]
    exact Gen.congr (fun a b h => Gen.of ((PR_snoc q p a b).2 h)) (fun a b h => Gen.of ((PR_snoc q p a b).1 h)) k l

/-- the reference's merges, from any list -/
def mfsF (xs : List Int) (ps : List (Int × Int)) : List Int := ps.foldl (fun xs p => mergeL xs p.1.toNat p.2.toNat) xs
theorem mfsF_snoc (xs : List Int) (ps : List (Int × Int)) (p : Int × Int) : mfsF xs (ps ++ [p]) = mergeL (mfsF xs ps) p.1.toNat p.2.toNat := by simp [mfsF]
theorem mfsF_length (xs : List Int) (ps : List (Int × Int)) : (mfsF xs ps).length = xs.length := by
  induction ps using snoc_ind with
  | h0 => rfl
  | hs l a ih => rw [mfsF_snoc, mergeL_length, ih]
theorem mfsF_gen (xs : List Int) (ps : List (Int × Int)) (hp : ∀ p ∈ ps, p.1.toNat < xs.length ∧ p.2.toNat < xs.length) : ∀ k l, Ker (mfsF xs ps) k l ↔ Gen (fun a b => Ker xs a b ∨ PR ps a b) k l := by
  induction ps using snoc_ind with
  | h0 =>
    intro k l
    constructor
    · intro h; exact Gen.of (.inl h)
    · intro h; exact Gen.le (Ker.eqv xs) (by rintro a b (h | ⟨p, hp, _⟩); exact h; simp at hp) h
  | hs q p ih =>
    have ih' := ih (fun p h => hp p (by simp [h]))
    obtain ⟨p1, p2⟩ := hp p (by simp)
    have hl := mfsF_length xs q
    have hst : ∀ k l, Ker (mfsF xs (q ++ [p])) k l ↔ (Ker (mfsF xs q) k l ∨ ((Ker (mfsF xs q) k p.1.toNat ∨ Ker (mfsF xs q) k p.2.toNat) ∧ (Ker (mfsF xs q) l p.1.toNat ∨ Ker (mfsF xs q) l p.2.toNat))) := by
      intro k l
      by_cases hk : k < xs.length
      · by_cases hl' : l < xs.length
        · rw [Ker.iff (by rw [mfsF_length]; exact hk) (by rw [mfsF_length]; exact hl'), mfsF_snoc, mergeL_get (by omega), mergeL_get (by omega), relabel]
          rw [Ker.iff (by omega) (by omega), Ker.iff (by omega) (by omega), Ker.iff (by omega) (by omega), Ker.iff (by omega) (by omega), Ker.iff (by omega) (by omega)]
        · constructor
          · rintro (h | ⟨_, h, _⟩)
            · exact .inl (.inl h)
            · rw [mfsF_length] at h; omega
          · rintro (h | ⟨_, h | h⟩)
            · rcases h with h | ⟨_, h, _⟩
              · exact .inl h
              · omega
            · rcases h with h | ⟨h, _, _⟩ <;> omega
            · rcases h with h | ⟨h, _, _⟩ <;> omega
      · constructor
        · rintro (h | ⟨h, _, _⟩)
          · exact .inl (.inl h)
          · rw [mfsF_length] at h; omega
        · rintro (h | ⟨h | h, _⟩)
          · rcases h with h | ⟨h, _, _⟩
            · exact .inl h
            · omega
          · rcases h with h | ⟨h, _, _⟩ <;> omega
          · rcases h with h | ⟨h, _, _⟩ <;> omega
    intro k l
    rw [gen_step (Ker.eqv _) ih' hst k l]
    refine Gen.congr (fun a b h => ?_) (fun a b h => ?_) k l
    · rcases h with (h | h) | h
      · exact Gen.of (.inl h)
      · exact Gen.of (.inr ((PR_snoc q p a b).2 (.inl h)))
      · exact Gen.of (.inr ((PR_snoc q p a b).2 (.inr h)))
    · rcases h with h | h
      · exact Gen.of (.inl (.inl h))
      · rcases (PR_snoc q p a b).1 h with h | h
        · exact Gen.of (.inl (.inr h))
        · exact Gen.of (.inr h)

theorem ker_rho {n : Nat} {ρ : Nat → Nat} {i j : Nat} (hi : i < n) (hj : j < n) : Ker (rhoL n ρ) i j ↔ ρ i = ρ j := by
  rw [Ker.iff (by rw [rhoL_length]; exact hi) (by rw [rhoL_length]; exact hj)]
  simp [rhoL, List.getD_eq_getElem?_getD, hi, hj]
  omega

/-! ### meet and join -/
def zipP (xs ys : List Int) : List (Int × Int) := xs.zip ys
def okPQ (xs ys : List Int) : Prop := xs.length = ys.length ∧ ValidP xs ∧ ValidP ys
instance (xs ys : List Int) : Decidable (okPQ xs ys) := inferInstanceAs (Decidable (_ ∧ _))
def meetB (xs ys : List Int) : List Int := if okPQ xs ys then canon (zipP xs ys) else []
/-- the pairs that Join unites: of each class its first element with each -/
def clP (cl : List Int) : List (Int × Int) := cl.map fun i => (cl.getD 0 0, i)
def jp (xs : List Int) : List (Int × Int) := (classB xs).flatMap clP
def joinB (xs ys : List Int) : List Int := if okPQ xs ys then canon (rhoL xs.length (ufs (jp xs ++ jp ys))) else []

theorem jp_gen {xs : List Int} (hv : ValidP xs) (k l : Nat) : Gen (PR (jp xs)) k l ↔ Ker xs k l := by
  constructor
  · refine Gen.le (Ker.eqv xs) ?_
    rintro a b ⟨p, hp, rfl, rfl⟩
    unfold jp at hp
    rw [List.mem_flatMap] at hp
    obtain ⟨cl, hcl, hp⟩ := hp
    obtain ⟨m, hm, rfl⟩ := List.getElem_of_mem hcl
    have hce : (classB xs)[m] = (classB xs).getD m [] := by simp [List.getD_eq_getElem?_getD, hm]
    rw [hce] at hp
    unfold clP at hp
    rw [List.mem_map] at hp
    obtain ⟨i, hi, rfl⟩ := hp
    obtain ⟨b1, b2, b3⟩ := (classB_mem hv hm i).1 hi
    have h0 : 0 < ((classB xs).getD m []).length := List.length_pos_of_mem hi
    obtain ⟨c1, c2, c3⟩ := cl_at hv hm h0
    exact .inr ⟨by dsimp only; omega, by dsimp only; omega, by dsimp only; rw [b3, c3]⟩
  · rintro (rfl | ⟨hk, hl, he⟩)
    · exact (Gen.eqv _).refl k
    · obtain ⟨v1, v2, v3⟩ := valid_cnt hv
      have hi' := v3 _ (mem_getD 0 hk)
      have ha : (xs.getD k 0).toNat < (classB xs).length := by rw [classB_len hv]; omega
      have key : ∀ i, i < xs.length → xs.getD i 0 = xs.getD k 0 → Gen (PR (jp xs)) (((classB xs).getD (xs.getD k 0).toNat []).getD 0 0).toNat i := by
        intro i hi hik
        have hm := (classB_mem hv ha (i : Int)).2 ⟨by omega, by omega, by simp only [Int.toNat_natCast]; rw [hik]; omega⟩
        refine Gen.of ⟨(((classB xs).getD (xs.getD k 0).toNat []).getD 0 0, (i : Int)), ?_, rfl, by simp⟩
        unfold jp
        rw [List.mem_flatMap]
        refine ⟨_, mem_getD [] ha, ?_⟩
        unfold clP
        rw [List.mem_map]
        exact ⟨_, hm, rfl⟩
      have g1 := key k hk rfl
      have g2 := key l hl he.symm
      exact (Gen.eqv _).trans _ _ _ ((Gen.eqv _).symm _ _ g1) g2

theorem PR_append (a b : List (Int × Int)) (i j : Nat) : PR (a ++ b) i j ↔ PR a i j ∨ PR b i j := by
  unfold PR
  constructor
  · rintro ⟨p, hp, h⟩
    rcases List.mem_append.1 hp with hp | hp
    · exact .inl ⟨p, hp, h⟩
    · exact .inr ⟨p, hp, h⟩
  · rintro (⟨p, hp, h⟩ | ⟨p, hp, h⟩)
    · exact ⟨p, by simp [hp], h⟩
    · exact ⟨p, by simp [hp], h⟩

theorem joinB_len {xs ys : List Int} (h : okPQ xs ys) : (joinB xs ys).length = xs.length := by unfold joinB; rw [if_pos h, canon_length, rhoL_length]
theorem meetB_len {xs ys : List Int} (h : okPQ xs ys) : (meetB xs ys).length = xs.length := by unfold meetB; rw [if_pos h, canon_length]; simp [zipP, h.1]
theorem ker_join {xs ys : List Int} (h : okPQ xs ys) {i j : Nat} (hi : i < xs.length) (hj : j < xs.length) : Ker (joinB xs ys) i j ↔ Gen (fun a b => Ker xs a b ∨ Ker ys a b) i j := by
  unfold joinB
  rw [if_pos h, ker_canon, ker_rho hi hj, ufs_gen]
  refine Gen.congr (fun a b hab => ?_) (fun a b hab => ?_) i j
  · rcases (PR_append _ _ a b).1 hab with h' | h'
    · exact Gen.of (.inl ((jp_gen h.2.1 a b).1 (Gen.of h')))
    · exact Gen.of (.inr ((jp_gen h.2.2 a b).1 (Gen.of h')))
  · rcases hab with h' | h'
    · exact Gen.mono (fun a b h => Gen.of ((PR_append _ _ a b).2 (.inl h))) ((jp_gen h.2.1 a b).2 h')
    · exact Gen.mono (fun a b h => Gen.of ((PR_append _ _ a b).2 (.inr h))) ((jp_gen h.2.2 a b).2 h')
theorem ker_meet {xs ys : List Int} (h : okPQ xs ys) {i j : Nat} (hi : i < xs.length) (hj : j < xs.length) : Ker (meetB xs ys) i j ↔ (Ker xs i j ∧ Ker ys i j) := by
  have hle := h.1
  have hlen := meetB_len h
  rw [Ker.iff (by omega) (by omega), Ker.iff hi hj, Ker.iff (by omega) (by omega)]
  unfold meetB
  rw [if_pos h]
  have hz : (zipP xs ys).length = xs.length := by simp [zipP, h.1]
  obtain ⟨p1, p2⟩ := cst_mem (zipP xs ys)
  obtain ⟨c1, c2⟩ := cst_inj (zipP xs ys)
  have e1 := p2 i (by omega)
  have e2 := p2 j (by omega)
  have hcl := canon_length (zipP xs ys)
  have g2 : ∀ k (hk : k < xs.length), (canon (zipP xs ys))[k]? = some ((canon (zipP xs ys)).getD k 0) := fun k hk => by simp [List.getD_eq_getElem?_getD, hcl, hz, hk]
  have g1 : ∀ k (hk : k < xs.length), (zipP xs ys)[k]'(by omega) = (xs.getD k 0, ys.getD k 0) := fun k hk => by simp [zipP, List.getD_eq_getElem?_getD, hk, show k < ys.length by omega]
  rw [g2 i hi, g1 i hi] at e1
  rw [g2 j hj, g1 j hj] at e2
  constructor
  · intro he
    rw [← he] at e2
    have := c1 _ _ _ e1 e2
    simpa using this
  · rintro ⟨h1, h2⟩
    rw [h1, h2, e2] at e1
    simpa using e1.symm
theorem valid_join (xs ys : List Int) (hn : xs.length ≤ 4096) : ValidP (joinB xs ys) := by
  unfold joinB
  split
  · exact ⟨by rw [canon_length, rhoL_length]; exact hn, canon_canon _⟩
  · exact ⟨by simp, rfl⟩
theorem valid_meet (xs ys : List Int) (hn : xs.length ≤ 4096) : ValidP (meetB xs ys) := by
  unfold meetB
  split
  · rename_i h; exact ⟨by have h1 := h.1; rw [canon_length]; unfold zipP; rw [List.length_zip]; omega, canon_canon _⟩
  · exact ⟨by simp, rfl⟩
/-- valid lists with one kernel are equal -/
theorem eq_of_ker {xs ys : List Int} (hx : ValidP xs) (hy : ValidP ys) (hl : xs.length = ys.length) (h : ∀ i j, i < xs.length → j < xs.length → (Ker xs i j ↔ Ker ys i j)) : xs = ys := by
  rw [← hx.2, ← hy.2]; exact canon_of_ker hl h
end Go.Sx
