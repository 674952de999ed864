import Derived.Test.YtaeojcaidcjnaaaRa
set_option linter.unusedVariables false
set_option linter.unusedSimpArgs false
namespace Go.Sx
open Go.RowKit
/-! ### the finder: longest ends that are nodes -/
abbrev Wrd := List UInt8
def lsuf (N : List Wrd) : Wrd → Wrd
  | [] => []
  | a :: u => if (a :: u) ∈ N then a :: u else lsuf N u
/-- closed under prefixes -/
def PreC (N : List Wrd) : Prop := ∀ u a, u ++ [a] ∈ N → u ∈ N
theorem lsuf_mem {N : List Wrd} (h0 : [] ∈ N) : ∀ u, lsuf N u ∈ N
  | [] => h0
  | a :: u => by
    unfold lsuf; split
    · assumption
    · exact lsuf_mem h0 u
theorem lsuf_self {N : List Wrd} : ∀ {u : Wrd}, u ∈ N → lsuf N u = u
  | [], _ => rfl
  | a :: u, h => by unfold lsuf; rw [if_pos h]
theorem lsuf_len (N : List Wrd) : ∀ u, (lsuf N u).length ≤ u.length
  | [] => Nat.le_refl _
  | a :: u => by
    unfold lsuf; split
    · exact Nat.le_refl _
    · have := lsuf_len N u; simp; omega
theorem lsuf_suf (N : List Wrd) : ∀ u, lsuf N u <:+ u
  | [] => List.suffix_refl _
  | a :: u => by
    unfold lsuf; split
    · exact List.suffix_refl _
    · exact (lsuf_suf N u).trans (List.suffix_cons _ _)
theorem PreC.app {N : List Wrd} (hp : PreC N) : ∀ (v u : Wrd), u ++ v ∈ N → u ∈ N := by
  intro v
  induction v with
  | nil => intro u h; simpa using h
  | cons a v ih => intro u h; exact hp u a (ih (u ++ [a]) (by simpa using h))
theorem lsuf_snoc {N : List Wrd} (hp : PreC N) (a : UInt8) : ∀ u, lsuf N (u ++ [a]) = lsuf N (lsuf N u ++ [a])
  | [] => rfl
  | b :: u => by
    by_cases h : (b :: u) ∈ N
    · rw [lsuf_self h]
    · have h1 : lsuf N (b :: u) = lsuf N u := by conv => lhs; unfold lsuf; rw [if_neg h]
      have h2 : (b :: u) ++ [a] ∉ N := fun k => h (hp _ _ k)
      have h3 : lsuf N ((b :: u) ++ [a]) = lsuf N (u ++ [a]) := by
        show lsuf N (b :: (u ++ [a])) = _
        conv => lhs; unfold lsuf
        rw [if_neg (show b :: (u ++ [a]) ∉ N from h2)]
      rw [h1, h3, lsuf_snoc hp a u]
/-- a node that ends u ends the longest one -/
theorem suf_lsuf {N : List Wrd} {p : Wrd} (hp : p ∈ N) : ∀ u, p <:+ u → p <:+ lsuf N u
  | [], h => h
  | a :: u, h => by
    unfold lsuf; split
    · exact h
    · rcases List.suffix_cons_iff.1 h with e | k
      · subst e; contradiction
      · exact suf_lsuf hp u k
/-- the least index at which P holds, or -1 -/
def Lix (P : Nat → Prop) (n : Nat) (r : Int) : Prop := (r = -1 ∧ ∀ i, i < n → ¬ P i) ∨ ∃ i : Nat, r = (i : Int) ∧ i < n ∧ P i ∧ ∀ j, j < i → ¬ P j
theorem Lix.uniq {P : Nat → Prop} {n : Nat} {r s : Int} (h : Lix P n r) (k : Lix P n s) : r = s := by
  rcases h with ⟨rfl, h⟩ | ⟨i, rfl, hi, h1, h2⟩ <;> rcases k with ⟨rfl, k⟩ | ⟨j, rfl, hj, k1, k2⟩
  · rfl
  · exact absurd k1 (h j hj)
  · exact absurd h1 (k i hi)
  · rcases Nat.lt_trichotomy i j with e | e | e
    · exact absurd h1 (k2 i e)
    · rw [e]
    · exact absurd k1 (h2 j e)
theorem Lix.congr {P Q : Nat → Prop} {n : Nat} {r : Int} (h : Lix P n r) (e : ∀ i, i < n → (P i ↔ Q i)) : Lix Q n r := by
  rcases h with ⟨rfl, h⟩ | ⟨i, rfl, hi, h1, h2⟩
  · exact .inl ⟨rfl, fun i hi k => h i hi ((e i hi).2 k)⟩
  · exact .inr ⟨i, rfl, hi, (e i hi).1 h1, fun j hj k => h2 j hj ((e j (by omega)).2 k)⟩
theorem Lix.rng {P : Nat → Prop} {n : Nat} {r : Int} (h : Lix P n r) : -1 ≤ r ∧ r < n := by
  rcases h with ⟨rfl, h⟩ | ⟨i, rfl, hi, h1, h2⟩ <;> omega
theorem Lix.neg {P : Nat → Prop} {n : Nat} {r : Int} (h : Lix P n r) (hr : r < 0) : ∀ i, i < n → ¬ P i := by
  rcases h with ⟨_, h⟩ | ⟨i, rfl, _⟩
  · exact h
  · omega
theorem Lix.pos {P : Nat → Prop} {n : Nat} {r : Int} (h : Lix P n r) (hr : ¬ r < 0) : ∃ i : Nat, r = (i : Int) ∧ i < n ∧ P i ∧ ∀ j, j < i → ¬ P j := by
  rcases h with ⟨rfl, _⟩ | h
  · omega
  · exact h
/-- the lesser one of two -/
theorem Lix.or_new {P Q : Nat → Prop} {n : Nat} {f o : Int} (h : Lix P n f) (k : Lix Q n o) (ho : o ≥ 0 ∧ (f < 0 ∨ o < f)) : Lix (fun i => P i ∨ Q i) n o := by
  obtain ⟨j, rfl, hj, h1, h2⟩ := k.pos (by omega)
  refine .inr ⟨j, rfl, hj, .inr h1, fun i hi hpq => ?_⟩
  rcases hpq with hp | hq
  · rcases h with ⟨rfl, h⟩ | ⟨m, rfl, hm, m1, m2⟩
    · exact h i (by omega) hp
    · exact m2 i (by omega) hp
  · exact h2 i hi hq
theorem Lix.or_old {P Q : Nat → Prop} {n : Nat} {f o : Int} (h : Lix P n f) (k : Lix Q n o) (ho : ¬ (o ≥ 0 ∧ (f < 0 ∨ o < f))) : Lix (fun i => P i ∨ Q i) n f := by
  rcases h with ⟨rfl, h⟩ | ⟨m, rfl, hm, m1, m2⟩
  · exact .inl ⟨rfl, fun i hi hpq => hpq.elim (h i hi) (k.neg (by omega) i hi)⟩
  · refine .inr ⟨m, rfl, hm, .inl m1, fun j hj hpq => hpq.elim (m2 j hj) (fun hq => ?_)⟩
    rcases k with ⟨rfl, k⟩ | ⟨l, rfl, hl, l1, l2⟩
    · exact k j (by omega) hq
    · exact l2 j (by omega) hq
/-- one more -/
theorem Lix.succ_no {P : Nat → Prop} {n : Nat} {r : Int} (h : Lix P n r) (hP : ¬ P n ∨ ¬ r < 0) : Lix P (n + 1) r := by
  rcases h with ⟨rfl, h⟩ | ⟨m, rfl, hm, m1, m2⟩
  · refine .inl ⟨rfl, fun i hi => ?_⟩
    rcases Nat.lt_or_ge i n with e | e
    · exact h i e
    · rw [show i = n by omega]; rcases hP with hP | hP
      · exact hP
      · omega
  · exact .inr ⟨m, rfl, by omega, m1, m2⟩
theorem Lix.succ_yes {P : Nat → Prop} {n : Nat} {r : Int} (h : Lix P n r) (hP : P n) (hr : r < 0) : Lix P (n + 1) (n : Int) :=
  .inr ⟨n, rfl, by omega, hP, fun j hj => h.neg hr j hj⟩
/-- z is the number of the node u -/
def At (N : List Wrd) (u : Wrd) (z : Int) : Prop := ∃ t : Nat, z = (t : Int) ∧ t < N.length ∧ N.getD t [] = u
theorem At.app {N : List Wrd} {u : Wrd} {z : Int} (h : At N u z) (M : List Wrd) : At (N ++ M) u z := by
  obtain ⟨t, rfl, h1, h2⟩ := h
  exact ⟨t, rfl, by rw [List.length_append]; omega, by rw [getD_pre h1]; exact h2⟩
theorem At.mem {N : List Wrd} {u : Wrd} {z : Int} (h : At N u z) : u ∈ N := by
  obtain ⟨t, rfl, h1, h2⟩ := h
  rw [← h2]; exact getD_mem h1
theorem getD_inj {N : List Wrd} (hn : N.Nodup) {s t : Nat} (hs : s < N.length) (ht : t < N.length) (h : N.getD s [] = N.getD t []) : s = t := by
  rw [List.getD_eq_getElem?_getD, List.getElem?_eq_getElem hs, List.getD_eq_getElem?_getD, List.getElem?_eq_getElem ht] at h
  exact (List.getElem_inj hn).1 h
theorem At.uniq {N : List Wrd} (hn : N.Nodup) {u : Wrd} {z y : Int} (h : At N u z) (k : At N u y) : z = y := by
  obtain ⟨t, rfl, h1, h2⟩ := h
  obtain ⟨s, rfl, k1, k2⟩ := k
  rw [getD_inj hn h1 k1 (by rw [h2, k2])]
/-- an entry of the tree: the child, or 0 -/
def Tri (N : List Wrd) (u : Wrd) (z : Int) : Prop := At N u z ∨ (u ∉ N ∧ z = 0)
theorem ltr_inj {x y : Nat} (hx : x < 6) (hy : y < 6) (h : ltr x = ltr y) : x = y := by
  have := congrArg UInt8.toNat h
  rw [ltr_toNat (by omega), ltr_toNat (by omega)] at this; omega
theorem getD_rep0 (n i : Nat) : (List.replicate n (0 : Int)).getD i 0 = 0 := by
  rw [List.getD_eq_getElem?_getD, List.getElem?_replicate]; split <;> rfl
/-- the tree of the first k patterns -/
structure Trie (ps : List Wrd) (k : Nat) (N : List Wrd) (fl fd : List Int) : Prop where
  nd : N.Nodup
  z : 0 < N.length ∧ N.getD 0 [] = []
  pc : PreC N
  al : ∀ u ∈ N, ∀ c ∈ u, 97 ≤ c.toNat ∧ c.toNat < 103
  fll : fl.length = N.length * 6
  fdl : fd.length = N.length
  tr : ∀ s, s < N.length → ∀ x, x < 6 → Tri N (N.getD s [] ++ [ltr x]) (fl.getD (s * 6 + x) 0)
  fnd : ∀ s, s < N.length → Lix (fun i => ps.getD i [] ≠ [] ∧ ps.getD i [] = N.getD s []) k (fd.getD s 0)
  mem : ∀ i, i < k → ps.getD i [] ∈ N
theorem Trie.mem0 {ps : List Wrd} {k : Nat} {N : List Wrd} {fl fd : List Int} (h : Trie ps k N fl fd) : [] ∈ N := by
  rw [← h.z.2]; exact getD_mem h.z.1
theorem trie0 (ps : List Wrd) : Trie ps 0 [[]] (List.replicate 6 0) [-1] where
  nd := by simp
  z := by simp
  pc := fun u a h => by simp at h
  al := by simp
  fll := by simp
  fdl := by simp
  tr := fun s hs x hx => by
    have : s = 0 := by simpa using hs
    subst this
    exact .inr ⟨by simp, getD_rep0 _ _⟩
  fnd := fun s hs => by
    have : s = 0 := by simpa using hs
    subst this
    exact .inl ⟨rfl, fun i hi => by omega⟩
  mem := fun i hi => by omega
theorem Trie.skip {ps : List Wrd} {k : Nat} {N : List Wrd} {fl fd : List Int} (h : Trie ps k N fl fd) (hp : ps.getD k [] = []) : Trie ps (k + 1) N fl fd where
  nd := h.nd
  z := h.z
  pc := h.pc
  al := h.al
  fll := h.fll
  fdl := h.fdl
  tr := h.tr
  fnd := fun s hs => (h.fnd s hs).succ_no (.inl fun e => e.1 hp)
  mem := fun i hi => by
    rcases Nat.lt_or_ge i k with e | e
    · exact h.mem i e
    · rw [show i = k by omega, hp]; exact h.mem0
theorem getD_set_ne {α : Type} {xs : List α} {i j : Nat} {a d : α} (h : i ≠ j) : (xs.set i a).getD j d = xs.getD j d := by
  simp [List.getD_eq_getElem?_getD, List.getElem?_set, h]
theorem getD_set_eq {α : Type} {xs : List α} {i : Nat} {a d : α} (h : i < xs.length) : (xs.set i a).getD i d = a := by
  simp [List.getD_eq_getElem?_getD, List.getElem?_set, h]
theorem getD_app_lt {α : Type} {xs ys : List α} {i : Nat} {d : α} (h : i < xs.length) : (xs ++ ys).getD i d = xs.getD i d := by
  simp [List.getD_eq_getElem?_getD, List.getElem?_append, h]
theorem getD_app_ge {α : Type} {xs ys : List α} {i : Nat} {d : α} (h : xs.length ≤ i) : (xs ++ ys).getD i d = ys.getD (i - xs.length) d := by
  simp [List.getD_eq_getElem?_getD, List.getElem?_append, Nat.not_lt.2 h]
/-- a new node -/
theorem Trie.add {ps : List Wrd} {k : Nat} {N : List Wrd} {fl fd : List Int} (h : Trie ps k N fl fd) {s x : Nat} (hs : s < N.length) (hx : x < 6) (h0 : fl.getD (s * 6 + x) 0 = 0) :
    Trie ps k (N ++ [N.getD s [] ++ [ltr x]]) (fl.set (s * 6 + x) (N.length : Int) ++ List.replicate 6 0) (fd ++ [-1]) := by
  have hu : N.getD s [] ++ [ltr x] ∉ N := fun hm => by
    rcases h.tr s hs x hx with ⟨t, e, h1, h2⟩ | e
    · rw [h0] at e
      have : t = 0 := by omega
      rw [this, h.z.2] at h2; simp at h2
    · exact e.1 hm
  have hsN : N.getD s [] ∈ N := getD_mem hs
  have hfl : s * 6 + x < fl.length := by rw [h.fll]; omega
  have inN : ∀ w, w ∈ N ++ [N.getD s [] ++ [ltr x]] ↔ w ∈ N ∨ w = N.getD s [] ++ [ltr x] := fun w => by simp
  refine ⟨?_, ?_, ?_, ?_, ?_, ?_, ?_, ?_, ?_⟩
  · rw [List.nodup_append]
    refine ⟨h.nd, by simp, fun a ha b hb => ?_⟩
    simp at hb; subst hb; intro e; subst e; exact hu ha
  · exact ⟨by simp, by rw [getD_app_lt h.z.1]; exact h.z.2⟩
  · intro u a hm
    rw [inN] at hm ⊢
    rcases hm with hm | hm
    · exact .inl (h.pc u a hm)
    · have := List.append_inj_left' hm rfl; exact .inl (this ▸ hsN)
  · intro u hm c hc
    rw [inN] at hm
    rcases hm with hm | rfl
    · exact h.al u hm c hc
    · rcases List.mem_append.1 hc with hc | hc
      · exact h.al _ hsN c hc
      · simp at hc; subst hc; rw [ltr_toNat (by omega)]; omega
  · simp [h.fll]; omega
  · simp [h.fdl]
  · intro t ht y hy
    rw [List.length_append] at ht
    simp at ht
    rcases Nat.lt_or_ge t N.length with hlt | hge
    · rw [getD_app_lt hlt, getD_app_lt (by rw [List.length_set, h.fll]; omega)]
      by_cases e : t = s ∧ y = x
      · obtain ⟨rfl, rfl⟩ := e
        rw [getD_set_eq hfl]
        exact .inl ⟨N.length, rfl, by simp, by rw [getD_app_ge (Nat.le_refl _)]; simp⟩
      · rw [getD_set_ne (by omega)]
        rcases h.tr t hlt y hy with k1 | ⟨k1, k2⟩
        · exact .inl (k1.app _)
        · refine .inr ⟨fun hm => ?_, k2⟩
          rw [inN] at hm
          rcases hm with hm | hm
          · exact k1 hm
          · have e1 := List.append_inj_left' hm rfl
            have e2 := List.append_inj_right' hm rfl
            simp at e2
            exact e ⟨getD_inj h.nd hlt hs e1, ltr_inj hy hx e2⟩
    · have et : t = N.length := by omega
      subst et
      have e1 : (N ++ [N.getD s [] ++ [ltr x]]).getD N.length [] = N.getD s [] ++ [ltr x] := by rw [getD_app_ge (Nat.le_refl _)]; simp
      rw [e1]
      refine .inr ⟨fun hm => ?_, ?_⟩
      · rw [inN] at hm
        rcases hm with hm | hm
        · exact hu (h.pc _ _ hm)
        · have := congrArg List.length hm; simp at this
      · rw [getD_app_ge (by rw [List.length_set, h.fll]; omega)]
        exact getD_rep0 _ _
  · intro t ht
    rw [List.length_append] at ht
    simp at ht
    rcases Nat.lt_or_ge t N.length with hlt | hge
    · rw [getD_app_lt (xs := fd) (by rw [h.fdl]; exact hlt), getD_app_lt (xs := N) hlt]; exact h.fnd t hlt
    · have et : t = N.length := by omega
      subst et
      rw [getD_app_ge (xs := fd) (by rw [h.fdl]; exact Nat.le_refl _), h.fdl, Nat.sub_self]
      refine .inl ⟨rfl, fun i hi e => ?_⟩
      rw [getD_app_ge (xs := N) (Nat.le_refl _)] at e
      simp at e
      have := h.mem i hi
      simp at this
      rw [e.2] at this
      exact hu (by simpa using this)
  · intro i hi
    rw [inN]; exact .inl (h.mem i hi)
/-- a pattern ends at its node -/
theorem Trie.mark {ps : List Wrd} {k : Nat} {N : List Wrd} {fl fd : List Int} (h : Trie ps k N fl fd) {s : Nat} (hs : s < N.length) (hp : ps.getD k [] ≠ []) (he : N.getD s [] = ps.getD k []) :
    Trie ps (k + 1) N fl (if fd.getD s 0 < 0 then fd.set s (k : Int) else fd) where
  nd := h.nd
  z := h.z
  pc := h.pc
  al := h.al
  fll := h.fll
  fdl := by split <;> simp [h.fdl]
  tr := h.tr
  fnd := fun t ht => by
    by_cases e : t = s
    · subst e
      by_cases hn : fd.getD t 0 < 0
      · rw [if_pos hn, getD_set_eq (by rw [h.fdl]; exact ht)]
        exact (h.fnd t ht).succ_yes ⟨hp, he.symm⟩ hn
      · rw [if_neg hn]; exact (h.fnd t ht).succ_no (.inr hn)
    · have : (if fd.getD s 0 < 0 then fd.set s (k : Int) else fd).getD t 0 = fd.getD t 0 := by
        split
        · exact getD_set_ne (fun e' => e e'.symm)
        · rfl
      rw [this]
      exact (h.fnd t ht).succ_no (.inl fun e' => e (getD_inj h.nd ht hs (by rw [he, ← e'.2])))
  mem := fun i hi => by
    rcases Nat.lt_or_ge i k with e | e
    · exact h.mem i e
    · rw [show i = k by omega, ← he]; exact getD_mem hs
end Go.Sx
