import Derived.Test.YtdnhiinakhmhgaaGreatDoorYZf
import Derived.Test.YtdnhiinakhmhgaaGreatDoorYZe
import Derived.KernelRfl
set_option linter.unusedVariables false
set_option linter.unusedSimpArgs false
set_option linter.unusedSectionVars false
set_option maxRecDepth 100000
namespace Go.Sx
open Go.RowKit
/-! ### the finder: longest ends that are nodes -/
abbrev Wrd := List UInt8
def lsuf (N : List Wrd) : Wrd → Wrd
  | [] => []
  | a :: u => if (a :: u) ∈ N then a :: u else lsuf N u
/-- closed under prefixes -/
def PreC (N : List Wrd) : Prop := ∀ u a, u ++ [a] ∈ N → u ∈ N
theorem lsuf_self {N : List Wrd} : ∀ {u : Wrd}, u ∈ N → lsuf N u = u
  | [], _ => rfl
  | a :: u, h => by unfold lsuf; rw [if_pos h]
theorem lsuf_len (N : List Wrd) : ∀ u, (lsuf N u).length ≤ u.length
  | [] => Nat.le_refl _
  | a :: u => by
    unfold lsuf; split
    · exact Nat.le_refl _
    · have := lsuf_len N u; simp; omega
theorem lsuf_suf (N : List Wrd) : ∀ u, lsuf N u <:+ u
  | [] => List.suffix_refl _
  | a :: u => by
    unfold lsuf; split
    · exact List.suffix_refl _
    · exact (lsuf_suf N u).trans (List.suffix_cons _ _)
theorem lsuf_snoc {N : List Wrd} (hp : PreC N) (a : UInt8) : ∀ u, lsuf N (u ++ [a]) = lsuf N (lsuf N u ++ [a])
  | [] => rfl
  | b :: u => by
    by_cases h : (b :: u) ∈ N
    · rw [lsuf_self h]
    · have h1 : lsuf N (b :: u) = lsuf N u := by conv => lhs; unfold lsuf; rw [if_neg h]
      have h2 : (b :: u) ++ [a] ∉ N := fun k => h (hp _ _ k)
      have h3 : lsuf N ((b :: u) ++ [a]) = lsuf N (u ++ [a]) := by
        show lsuf N (b :: (u ++ [a])) = _
        conv => lhs; unfold lsuf
        rw [if_neg (show b :: (u ++ [a]) ∉ N from h2)]
      rw [h1, h3, lsuf_snoc hp a u]
/-- a node that ends u ends the longest one -/
theorem suf_lsuf {N : List Wrd} {p : Wrd} (hp : p ∈ N) : ∀ u, p <:+ u → p <:+ lsuf N u
  | [], h => h
  | a :: u, h => by
    unfold lsuf; split
    · exact h
    · rcases List.suffix_cons_iff.1 h with e | k
      · subst e; contradiction
      · exact suf_lsuf hp u k
/-- the least index at which P holds, or -1 -/
def Lix (P : Nat → Prop) (n : Nat) (r : Int) : Prop := (r = -1 ∧ ∀ i, i < n → ¬ P i) ∨ ∃ i : Nat, r = (i : Int) ∧ i < n ∧ P i ∧ ∀ j, j < i → ¬ P j
theorem Lix.congr {P Q : Nat → Prop} {n : Nat} {r : Int} (h : Lix P n r) (e : ∀ i, i < n → (P i ↔ Q i)) : Lix Q n r := by
  rcases h with ⟨rfl, h⟩ | ⟨i, rfl, hi, h1, h2⟩
  · exact .inl ⟨rfl, fun i hi k => h i hi ((e i hi).2 k)⟩
  · exact .inr ⟨i, rfl, hi, (e i hi).1 h1, fun j hj k => h2 j hj ((e j (by omega)).2 k)⟩
theorem Lix.neg {P : Nat → Prop} {n : Nat} {r : Int} (h : Lix P n r) (hr : r < 0) : ∀ i, i < n → ¬ P i := by
  rcases h with ⟨_, h⟩ | ⟨i, rfl, _⟩
  · exact h
  · omega
theorem Lix.pos {P : Nat → Prop} {n : Nat} {r : Int} (h : Lix P n r) (hr : ¬ r < 0) : ∃ i : Nat, r = (i : Int) ∧ i < n ∧ P i ∧ ∀ j, j < i → ¬ P j := by
  rcases h with ⟨rfl, _⟩ | h
  · omega
  · exact h
/-- the lesser one of two -/
theorem Lix.or_new {P Q : Nat → Prop} {n : Nat} {f o : Int} (h : Lix P n f) (k : Lix Q n o) (ho : o ≥ 0 ∧ (f < 0 ∨ o < f)) : Lix (fun i => P i ∨ Q i) n o := by
  obtain ⟨j, rfl, hj, h1, h2⟩ := k.pos (by omega)
  refine .inr ⟨j, rfl, hj, .inr h1, fun i hi hpq => ?_⟩
  rcases hpq with hp | hq
  · rcases h with ⟨rfl, h⟩ | ⟨m, rfl, hm, m1, m2⟩
    · exact h i (by omega) hp
    · exact m2 i (by omega) hp
  · exact h2 i hi hq
theorem Lix.or_old {P Q : Nat → Prop} {n : Nat} {f o : Int} (h : Lix P n f) (k : Lix Q n o) (ho : ¬ (o ≥ 0 ∧ (f < 0 ∨ o < f))) : Lix (fun i => P i ∨ Q i) n f := by
  rcases h with ⟨rfl, h⟩ | ⟨m, rfl, hm, m1, m2⟩
  · exact .inl ⟨rfl, fun i hi hpq => hpq.elim (h i hi) (k.neg (by omega) i hi)⟩
  · refine .inr ⟨m, rfl, hm, .inl m1, fun j hj hpq => hpq.elim (m2 j hj) (fun hq => ?_)⟩
    rcases k with ⟨rfl, k⟩ | ⟨l, rfl, hl, l1, l2⟩
    · exact k j (by omega) hq
    · exact l2 j (by omega) hq
/-- one more -/
theorem Lix.succ_no {P : Nat → Prop} {n : Nat} {r : Int} (h : Lix P n r) (hP : ¬ P n ∨ ¬ r < 0) : Lix P (n + 1) r := by
  rcases h with ⟨rfl, h⟩ | ⟨m, rfl, hm, m1, m2⟩
  · refine .inl ⟨rfl, fun i hi => ?_⟩
    rcases Nat.lt_or_ge i n with e | e
    · exact h i e
    · rw [show i = n by omega]; rcases hP with hP | hP
      · exact hP
      · omega
  · exact .inr ⟨m, rfl, by omega, m1, m2⟩
theorem Lix.succ_yes {P : Nat → Prop} {n : Nat} {r : Int} (h : Lix P n r) (hP : P n) (hr : r < 0) : Lix P (n + 1) (n : Int) :=
  .inr ⟨n, rfl, by omega, hP, fun j hj => h.neg hr j hj⟩
/-- z is the number of the node u -/
def At (N : List Wrd) (u : Wrd) (z : Int) : Prop := ∃ t : Nat, z = (t : Int) ∧ t < N.length ∧ N.getD t [] = u
theorem At.app {N : List Wrd} {u : Wrd} {z : Int} (h : At N u z) (M : List Wrd) : At (N ++ M) u z := by
  obtain ⟨t, rfl, h1, h2⟩ := h
  exact ⟨t, rfl, by rw [List.length_append]; omega, by rw [getD_pre h1]; exact h2⟩
theorem getD_inj {N : List Wrd} (hn : N.Nodup) {s t : Nat} (hs : s < N.length) (ht : t < N.length) (h : N.getD s [] = N.getD t []) : s = t := by
  rw [List.getD_eq_getElem?_getD, List.getElem?_eq_getElem hs, List.getD_eq_getElem?_getD, List.getElem?_eq_getElem ht] at h
  exact (List.getElem_inj hn).1 h
/-- an entry of the tree: the child, or 0 -/
def Tri (N : List Wrd) (u : Wrd) (z : Int) : Prop := At N u z ∨ (u ∉ N ∧ z = 0)
theorem ltr_inj {x y : Nat} (hx : x < 6) (hy : y < 6) (h : ltr x = ltr y) : x = y := by
  have := congrArg UInt8.toNat h
  rw [ltr_toNat (by omega), ltr_toNat (by omega)] at this; omega
theorem getD_rep0 (n i : Nat) : (List.replicate n (0 : Int)).getD i 0 = 0 := by
  rw [List.getD_eq_getElem?_getD, List.getElem?_replicate]; split <;> rfl
/-- the tree of the first k patterns -/
structure Trie (ps : List Wrd) (k : Nat) (N : List Wrd) (fl fd : List Int) : Prop where
  nd : N.Nodup
  z : 0 < N.length ∧ N.getD 0 [] = []
  pc : PreC N
  al : ∀ u ∈ N, ∀ c ∈ u, 97 ≤ c.toNat ∧ c.toNat < 103
  fll : fl.length = N.length * 6
  fdl : fd.length = N.length
  tr : ∀ s, s < N.length → ∀ x, x < 6 → Tri N (N.getD s [] ++ [ltr x]) (fl.getD (s * 6 + x) 0)
  fnd : ∀ s, s < N.length → Lix (fun i => ps.getD i [] ≠ [] ∧ ps.getD i [] = N.getD s []) k (fd.getD s 0)
  mem : ∀ i, i < k → ps.getD i [] ∈ N
theorem Trie.mem0 {ps : List Wrd} {k : Nat} {N : List Wrd} {fl fd : List Int} (h : Trie ps k N fl fd) : [] ∈ N := by
  rw [← h.z.2]; exact getD_mem h.z.1
theorem trie0 (ps : List Wrd) : Trie ps 0 [[]] (List.replicate 6 0) [-1] where
  nd := by simp
  z := by simp
  pc := fun u a h => by simp at h
  al := by simp
  fll := by simp
  fdl := by simp
  tr := fun s hs x hx => by
    have : s = 0 := by simpa using hs
    subst this
    exact .inr ⟨by simp, getD_rep0 _ _⟩
  fnd := fun s hs => by
    have : s = 0 := by simpa using hs
    subst this
    exact .inl ⟨rfl, fun i hi => by omega⟩
  mem := fun i hi => by omega
theorem Trie.skip {ps : List Wrd} {k : Nat} {N : List Wrd} {fl fd : List Int} (h : Trie ps k N fl fd) (hp : ps.getD k [] = []) : Trie ps (k + 1) N fl fd where
  nd := h.nd
  z := h.z
  pc := h.pc
  al := h.al
  fll := h.fll
  fdl := h.fdl
  tr := h.tr
  fnd := fun s hs => (h.fnd s hs).succ_no (.inl fun e => e.1 hp)
  mem := fun i hi => by
    rcases Nat.lt_or_ge i k with e | e
    · exact h.mem i e
    · rw [show i = k by omega, hp]; exact h.mem0
theorem getD_set_ne {α : Type} {xs : List α} {i j : Nat} {a d : α} (h : i ≠ j) : (xs.set i a).getD j d = xs.getD j d := by
  simp [List.getD_eq_getElem?_getD, List.getElem?_set, h]
theorem getD_set_eq {α : Type} {xs : List α} {i : Nat} {a d : α} (h : i < xs.length) : (xs.set i a).getD i d = a := by
  simp [List.getD_eq_getElem?_getD, List.getElem?_set, h]
theorem getD_app_lt {α : Type} {xs ys : List α} {i : Nat} {d : α} (h : i < xs.length) : (xs ++ ys).getD i d = xs.getD i d := by
  simp [List.getD_eq_getElem?_getD, List.getElem?_append, h]
theorem getD_app_ge {α : Type} {xs ys : List α} {i : Nat} {d : α} (h : xs.length ≤ i) : (xs ++ ys).getD i d = ys.getD (i - xs.length) d := by
  simp [List.getD_eq_getElem?_getD, List.getElem?_append, Nat.not_lt.2 h]
/-- a new node -/
theorem Trie.add {ps : List Wrd} {k : Nat} {N : List Wrd} {fl fd : List Int} (h : Trie ps k N fl fd) {s x : Nat} (hs : s < N.length) (hx : x < 6) (h0 : fl.getD (s * 6 + x) 0 = 0) :
    Trie ps k (N ++ [N.getD s [] ++ [ltr x]]) (fl.set (s * 6 + x) (N.length : Int) ++ List.replicate 6 0) (fd ++ [-1]) := by
  have hu : N.getD s [] ++ [ltr x] ∉ N := fun hm => by
    rcases h.tr s hs x hx with ⟨t, e, h1, h2⟩ | e
    · rw [h0] at e
      have : t = 0 := by omega
      rw [this, h.z.2] at h2; simp at h2
    · exact e.1 hm
  have hsN : N.getD s [] ∈ N := getD_mem hs
  have hfl : s * 6 + x < fl.length := by rw [h.fll]; omega
  have inN : ∀ w, w ∈ N ++ [N.getD s [] ++ [ltr x]] ↔ w ∈ N ∨ w = N.getD s [] ++ [ltr x] := fun w => by simp
  refine ⟨?_, ?_, ?_, ?_, ?_, ?_, ?_, ?_, ?_⟩
  · rw [List.nodup_append]
    refine ⟨h.nd, by simp, fun a ha b hb => ?_⟩
    simp at hb; subst hb; intro e; subst e; exact hu ha
  · exact ⟨by simp, by rw [getD_app_lt h.z.1]; exact h.z.2⟩
  · intro u a hm
    rw [inN] at hm ⊢
    rcases hm with hm | hm
    · exact .inl (h.pc u a hm)
    · have := List.append_inj_left' hm rfl; exact .inl (this ▸ hsN)
  · intro u hm c hc
    rw [inN] at hm
    rcases hm with hm | rfl
    · exact h.al u hm c hc
    · rcases List.mem_append.1 hc with hc | hc
      · exact h.al _ hsN c hc
      · simp at hc; subst hc; rw [ltr_toNat (by omega)]; omega
  · simp [h.fll]; omega
  · simp [h.fdl]
  · intro t ht y hy
    rw [List.length_append] at ht
    simp at ht
    rcases Nat.lt_or_ge t N.length with hlt | hge
    · rw [getD_app_lt hlt, getD_app_lt (by rw [List.length_set, h.fll]; omega)]
      by_cases e : t = s ∧ y = x
      · obtain ⟨rfl, rfl⟩ := e
        rw [getD_set_eq hfl]
        exact .inl ⟨N.length, rfl, by simp, by rw [getD_app_ge (Nat.le_refl _)]; simp⟩
      · rw [getD_set_ne (by omega)]
        rcases h.tr t hlt y hy with k1 | ⟨k1, k2⟩
        · exact .inl (k1.app _)
        · refine .inr ⟨fun hm => ?_, k2⟩
          rw [inN] at hm
          rcases hm with hm | hm
          · exact k1 hm
          · have e1 := List.append_inj_left' hm rfl
            have e2 := List.append_inj_right' hm rfl
            simp at e2
            exact e ⟨getD_inj h.nd hlt hs e1, ltr_inj hy hx e2⟩
    · have et : t = N.length := by omega
      subst et
      have e1 : (N ++ [N.getD s [] ++ [ltr x]]).getD N.length [] = N.getD s [] ++ [ltr x] := by rw [getD_app_ge (Nat.le_refl _)]; simp
      rw [e1]
      refine .inr ⟨fun hm => ?_, ?_⟩
      · rw [inN] at hm
        rcases hm with hm | hm
        · exact hu (h.pc _ _ hm)
        · have := congrArg List.length hm; simp at this
      · rw [getD_app_ge (by rw [List.length_set, h.fll]; omega)]
        exact getD_rep0 _ _
  · intro t ht
    rw [List.length_append] at ht
    simp at ht
    rcases Nat.lt_or_ge t N.length with hlt | hge
    · rw [getD_app_lt (xs := fd) (by rw [h.fdl]; exact hlt), getD_app_lt (xs := N) hlt]; exact h.fnd t hlt
    · have et : t = N.length := by omega
      subst et
      rw [getD_app_ge (xs := fd) (by rw [h.fdl]; exact Nat.le_refl _), h.fdl, Nat.sub_self]
      refine .inl ⟨rfl, fun i hi e => ?_⟩
      rw [getD_app_ge (xs := N) (Nat.le_refl _)] at e
      simp at e
      have := h.mem i hi
      simp at this
      rw [e.2] at this
      exact hu (by simpa using this)
  · intro i hi
    rw [inN]; exact .inl (h.mem i hi)
/-- a pattern ends at its node -/
theorem Trie.mark {ps : List Wrd} {k : Nat} {N : List Wrd} {fl fd : List Int} (h : Trie ps k N fl fd) {s : Nat} (hs : s < N.length) (hp : ps.getD k [] ≠ []) (he : N.getD s [] = ps.getD k []) :
    Trie ps (k + 1) N fl (if fd.getD s 0 < 0 then fd.set s (k : Int) else fd) where
  nd := h.nd
  z := h.z
  pc := h.pc
  al := h.al
  fll := h.fll
  fdl := by split <;> simp [h.fdl]
  tr := h.tr
  fnd := fun t ht => by
    by_cases e : t = s
    · subst e
      by_cases hn : fd.getD t 0 < 0
      · rw [if_pos hn, getD_set_eq (by rw [h.fdl]; exact ht)]
        exact (h.fnd t ht).succ_yes ⟨hp, he.symm⟩ hn
      · rw [if_neg hn]; exact (h.fnd t ht).succ_no (.inr hn)
    · have : (if fd.getD s 0 < 0 then fd.set s (k : Int) else fd).getD t 0 = fd.getD t 0 := by
        split
        · exact getD_set_ne (fun e' => e e'.symm)
        · rfl
      rw [this]
      exact (h.fnd t ht).succ_no (.inl fun e' => e (getD_inj h.nd ht hs (by rw [he, ← e'.2])))
  mem := fun i hi => by
    rcases Nat.lt_or_ge i k with e | e
    · exact h.mem i e
    · rw [show i = k by omega, ← he]; exact getD_mem hs
end Go.Sx

namespace Go.Sx
open Go.RowKit
/-- what a finder is -/
structure FinOK (ps N : List Wrd) (fl fd : List Int) : Prop where
  nd : N.Nodup
  z : 0 < N.length ∧ N.getD 0 [] = []
  pc : PreC N
  al : ∀ u ∈ N, ∀ c ∈ u, 97 ≤ c.toNat ∧ c.toNat < 103
  fll : fl.length = N.length * 6
  fdl : fd.length = N.length
  mem : ∀ i, i < ps.length → ps.getD i [] ∈ N
  go : ∀ s, s < N.length → ∀ x, x < 6 → At N (lsuf N (N.getD s [] ++ [ltr x])) (fl.getD (s * 6 + x) 0)
  fnd : ∀ s, s < N.length → Lix (fun i => ps.getD i [] ≠ [] ∧ ps.getD i [] <:+ N.getD s []) ps.length (fd.getD s 0)
/-- the search: i states done, of the next one x letters, m found -/
structure Cmp (ps N : List Wrd) (f0 d0 : List Int) (i x m : Nat) (q : List Nat) (sh fl fd : List Int) : Prop where
  le : i ≤ q.length
  x6 : x ≤ 6
  xi : 0 < x → i < q.length
  ml : m ≤ q.length
  q0 : 0 < q.length ∧ q.getD 0 0 = 0
  nd : q.Nodup
  lt : ∀ j, j < q.length → q.getD j 0 < N.length
  cl : ∀ t, t < N.length → (t ∈ q ↔ t = 0 ∨ (∃ j y, j < i ∧ y < 6 ∧ N.getD t [] = N.getD (q.getD j 0) [] ++ [ltr y]) ∨ (∃ y, y < x ∧ N.getD t [] = N.getD (q.getD i 0) [] ++ [ltr y]))
  so : ∀ a b, a ≤ b → b < q.length → (N.getD (q.getD a 0) []).length ≤ (N.getD (q.getD b 0) []).length
  shl : sh.length = N.length
  shv : ∀ j, j < q.length → At N (lsuf N (N.getD (q.getD j 0) []).tail) (sh.getD (q.getD j 0) 0)
  fll : fl.length = N.length * 6
  f1 : ∀ j y, j < i → y < 6 → At N (lsuf N (N.getD (q.getD j 0) [] ++ [ltr y])) (fl.getD (q.getD j 0 * 6 + y) 0)
  f2 : ∀ y, y < x → At N (lsuf N (N.getD (q.getD i 0) [] ++ [ltr y])) (fl.getD (q.getD i 0 * 6 + y) 0)
  f3 : ∀ s y, s < N.length → y < 6 → (∀ j, j < i → q.getD j 0 ≠ s) → (s = q.getD i 0 → i < q.length → x ≤ y) → fl.getD (s * 6 + y) 0 = f0.getD (s * 6 + y) 0
  fdl : fd.length = N.length
  d1 : ∀ j, j < m → Lix (fun i => ps.getD i [] ≠ [] ∧ ps.getD i [] <:+ N.getD (q.getD j 0) []) ps.length (fd.getD (q.getD j 0) 0)
  d2 : ∀ s, s < N.length → (∀ j, j < m → q.getD j 0 ≠ s) → fd.getD s 0 = d0.getD s 0
section
variable {ps N : List Wrd} {f0 d0 : List Int} (T : Trie ps ps.length N f0 d0)
include T
theorem nil_ix {t : Nat} (ht : t < N.length) (h : N.getD t [] = []) : t = 0 := getD_inj T.nd ht T.z.1 (by rw [h, T.z.2])
theorem At.zero {z : Int} (h : At N [] z) : z = 0 := by
  obtain ⟨t, rfl, h1, h2⟩ := h
  rw [nil_ix T h1 h2]; rfl
theorem at_nil : At N [] 0 := ⟨0, rfl, T.z.1, T.z.2⟩
theorem cmp0 : Cmp ps N f0 d0 0 0 0 [0] (List.replicate N.length 0) f0 d0 where
  le := Nat.zero_le _
  x6 := Nat.zero_le _
  xi := fun h => by omega
  ml := Nat.zero_le _
  q0 := ⟨by simp, rfl⟩
  nd := by simp
  lt := fun j hj => by
    have : j = 0 := by simpa using hj
    subst this; exact T.z.1
  cl := fun t ht => by
    constructor
    · intro h; exact .inl (by simpa using h)
    · rintro (h | ⟨j, y, h, _⟩ | ⟨y, h, _⟩)
      · simp [h]
      · omega
      · omega
  so := fun a b h hb => by
    have : b = 0 := by simpa using hb
    subst this
    have : a = 0 := by omega
    subst this; exact Nat.le_refl _
  shl := by simp
  shv := fun j hj => by
    have : j = 0 := by simpa using hj
    subst this
    rw [getD_rep0]
    show At N (lsuf N (N.getD 0 []).tail) 0
    rw [T.z.2]; exact at_nil T
  fll := T.fll
  f1 := fun j y h => by omega
  f2 := fun y h => by omega
  f3 := fun s y _ _ _ _ => rfl
  fdl := T.fdl
  d1 := fun j h => by omega
  d2 := fun s _ _ => rfl
variable {i x m : Nat} {q : List Nat} {sh fl fd : List Int} (h : Cmp ps N f0 d0 i x m q sh fl fd)
include h
theorem Cmp.inj {a b : Nat} (ha : a < q.length) (hb : b < q.length) (e : q.getD a 0 = q.getD b 0) : a = b := by
  rw [List.getD_eq_getElem?_getD, List.getElem?_eq_getElem ha, List.getD_eq_getElem?_getD, List.getElem?_eq_getElem hb] at e
  exact (List.getElem_inj h.nd).1 e
theorem Cmp.qle : q.length ≤ N.length := by
  have := nodup_sub_len (U := List.range N.length) h.nd (fun y hy => by
    obtain ⟨k, hk, e⟩ := mem_getD 0 hy
    rw [List.mem_range, ← e]; exact h.lt k hk)
  simpa using this
theorem Cmp.shorter (hi : i < q.length) : ∀ (n t : Nat), (N.getD t []).length = n → t < N.length → n < (N.getD (q.getD i 0) []).length → ∃ j, j < i ∧ q.getD j 0 = t := by
  intro n
  induction n with
  | zero =>
    intro t hn ht hlt
    have e := nil_ix T ht (List.length_eq_zero_iff.1 hn)
    subst e
    refine ⟨0, ?_, h.q0.2⟩
    rcases Nat.eq_zero_or_pos i with e | e
    · subst e; rw [h.q0.2, hn] at hlt; omega
    · exact e
  | succ n ih =>
    intro t hn ht hlt
    have hne : N.getD t [] ≠ [] := fun e => by rw [e] at hn; simp at hn
    obtain ⟨v, a, hva⟩ : ∃ v a, N.getD t [] = v ++ [a] := ⟨_, _, (List.dropLast_concat_getLast hne).symm⟩
    have htN : N.getD t [] ∈ N := getD_mem ht
    have hvN : v ∈ N := T.pc v a (hva ▸ htN)
    obtain ⟨r, hr, hrv⟩ := mem_getD [] hvN
    have hvl : v.length = n := by rw [hva] at hn; simpa using hn
    obtain ⟨j, hj, hjr⟩ := ih r (by rw [hrv, hvl]) hr (by omega)
    have hal := T.al _ htN a (by rw [hva]; simp)
    have hay : a = ltr (a.toNat - 97) := UInt8.toNat_inj.1 (by rw [ltr_toNat (by omega)]; omega)
    have hq : t ∈ q := (h.cl t ht).2 (.inr (.inl ⟨j, a.toNat - 97, hj, by omega, by rw [hjr, hrv, ← hay, hva]⟩))
    obtain ⟨b, hb, hbt⟩ := mem_getD 0 hq
    refine ⟨b, ?_, hbt⟩
    rcases Nat.lt_or_ge b i with e | e
    · exact e
    · have := h.so i b e hb
      rw [hbt] at this; omega
/-- the shorter state is done -/
theorem Cmp.short (hi : i < q.length) (hs : q.getD i 0 ≠ 0) : ∃ j, j < i ∧ sh.getD (q.getD i 0) 0 = ((q.getD j 0 : Nat) : Int) ∧ N.getD (q.getD j 0) [] = lsuf N (N.getD (q.getD i 0) []).tail ∧ N.getD (q.getD i 0) [] ≠ [] := by
  have hne : N.getD (q.getD i 0) [] ≠ [] := fun e => hs (nil_ix T (h.lt i hi) e)
  obtain ⟨t, h1, h2, h3⟩ := h.shv i hi
  obtain ⟨j, hj, e⟩ := h.shorter T hi _ t rfl h2 (by
    rw [h3]
    have := lsuf_len N (N.getD (q.getD i 0) []).tail
    rw [List.length_tail] at this
    have : 0 < (N.getD (q.getD i 0) []).length := List.length_pos_iff.2 hne
    omega)
  exact ⟨j, hj, by rw [h1, e], by rw [e]; exact h3, hne⟩
theorem Cmp.shB (hi : i < q.length) : ∃ t : Nat, sh.getD (q.getD i 0) 0 = (t : Int) ∧ t < N.length := by
  obtain ⟨t, h1, h2, h3⟩ := h.shv i hi
  exact ⟨t, h1, h2⟩
/-- the fallback -/
theorem Cmp.fall (hi : i < q.length) (hx : x < 6) (hs : q.getD i 0 ≠ 0) : At N (lsuf N ((N.getD (q.getD i 0) []).tail ++ [ltr x])) (fl.getD ((sh.getD (q.getD i 0) 0).toNat * 6 + x) 0) := by
  obtain ⟨j, hj, e1, e2, e3⟩ := h.short T hi hs
  have := h.f1 j x hj hx
  rw [e2, ← lsuf_snoc T.pc] at this
  rw [e1]; exact this
end
/-- the step of found -/
theorem Cmp.found {ps N : List Wrd} {f0 d0 : List Int} (T : Trie ps ps.length N f0 d0) {i : Nat} {q : List Nat} {sh fl fd : List Int} (h : Cmp ps N f0 d0 i 0 i q sh fl fd) (hi : i < q.length) :
    Cmp ps N f0 d0 i 0 (i + 1) q sh fl (if fd.getD (sh.getD (q.getD i 0) 0).toNat 0 ≥ 0 ∧ (fd.getD (q.getD i 0) 0 < 0 ∨ fd.getD (sh.getD (q.getD i 0) 0).toNat 0 < fd.getD (q.getD i 0) 0) then fd.set (q.getD i 0) (fd.getD (sh.getD (q.getD i 0) 0).toNat 0) else fd) := by
  have hold : fd.getD (q.getD i 0) 0 = d0.getD (q.getD i 0) 0 := h.d2 _ (h.lt i hi) (fun j hj e => by have := h.inj T (by omega) hi e; omega)
  have hF := T.fnd _ (h.lt i hi)
  rw [← hold] at hF
  have key : Lix (fun k => ps.getD k [] ≠ [] ∧ ps.getD k [] <:+ N.getD (q.getD i 0) []) ps.length (if fd.getD (sh.getD (q.getD i 0) 0).toNat 0 ≥ 0 ∧ (fd.getD (q.getD i 0) 0 < 0 ∨ fd.getD (sh.getD (q.getD i 0) 0).toNat 0 < fd.getD (q.getD i 0) 0) then fd.getD (sh.getD (q.getD i 0) 0).toNat 0 else fd.getD (q.getD i 0) 0) := by
    by_cases hs : q.getD i 0 = 0
    · have e0 : i = 0 := h.inj T hi h.q0.1 (by rw [hs, h.q0.2])
      have hsh := h.shv i hi
      rw [hs, T.z.2] at hsh
      have hsh0 := At.zero T hsh
      rw [hs] at hF ⊢
      rw [hsh0, T.z.2] at *
      have hm1 : fd.getD 0 0 = -1 := by
        rcases hF with ⟨e, _⟩ | ⟨k, _, _, h1, _⟩
        · exact e
        · exact absurd h1.2 h1.1
      rw [if_neg (fun hh => by have h1 := hh.1; rw [show (0 : Int).toNat = 0 from rfl, hm1] at h1; omega)]
      exact hF.congr fun k _ => and_congr_right fun hk => ⟨fun e => by rw [e]; exact List.suffix_refl _, fun e => List.suffix_nil.1 e⟩
    · obtain ⟨j, hj, e1, e2, e3⟩ := h.short T hi hs
      obtain ⟨a, u, hau⟩ := List.exists_cons_of_ne_nil e3
      have hO := h.d1 j hj
      rw [e2] at hO
      rw [hau] at hO hF ⊢
      have hO' : Lix (fun k => ps.getD k [] ≠ [] ∧ ps.getD k [] <:+ u) ps.length (fd.getD (q.getD j 0) 0) :=
        hO.congr fun k hk => and_congr_right fun hne => ⟨fun e => e.trans (lsuf_suf N u), fun e => suf_lsuf (T.mem k hk) u e⟩
      rw [e1]
      simp only [Int.toNat_natCast]
      have cg : ∀ k, k < ps.length → ((ps.getD k [] ≠ [] ∧ ps.getD k [] = a :: u) ∨ (ps.getD k [] ≠ [] ∧ ps.getD k [] <:+ u) ↔ (ps.getD k [] ≠ [] ∧ ps.getD k [] <:+ a :: u)) := fun k _ => by
        rw [List.suffix_cons_iff]
        constructor
        · rintro (⟨p, e⟩ | ⟨p, e⟩)
          · exact ⟨p, .inl e⟩
          · exact ⟨p, .inr e⟩
        · rintro ⟨p, e | e⟩
          · exact .inl ⟨p, e⟩
          · exact .inr ⟨p, e⟩
      by_cases hc : fd.getD (q.getD j 0) 0 ≥ 0 ∧ (fd.getD (q.getD i 0) 0 < 0 ∨ fd.getD (q.getD j 0) 0 < fd.getD (q.getD i 0) 0)
      · rw [if_pos hc]; exact (hF.or_new hO' hc).congr cg
      · rw [if_neg hc]; exact (hF.or_old hO' hc).congr cg
  generalize ho : fd.getD (sh.getD (q.getD i 0) 0).toNat 0 = o at key ⊢
  have hne : ∀ j, j < q.length → j ≠ i → q.getD i 0 ≠ q.getD j 0 := fun j hj hji e => hji (h.inj T hj hi e.symm)
  refine { le := h.le, x6 := h.x6, xi := h.xi, ml := by omega, q0 := h.q0, nd := h.nd, lt := h.lt, cl := h.cl, so := h.so, shl := h.shl, shv := h.shv, fll := h.fll, f1 := h.f1, f2 := h.f2, f3 := h.f3, fdl := ?_, d1 := ?_, d2 := ?_ }
  · split <;> simp [h.fdl]
  · intro j hj
    by_cases e : j = i
    · subst e
      split at key
      · rename_i hc; rw [if_pos hc, getD_set_eq (by rw [h.fdl]; exact h.lt j hi)]; exact key
      · rename_i hc; rw [if_neg hc]; exact key
    · have := h.d1 j (by omega)
      split
      · rw [getD_set_ne (hne j (by omega) e)]; exact this
      · exact this
  · intro s hs hj
    have := h.d2 s hs (fun j hj' => hj j (by omega))
    split
    · rw [getD_set_ne (hj i (by omega))]; exact this
    · exact this
section
variable {ps N : List Wrd} {f0 d0 : List Int} (T : Trie ps ps.length N f0 d0)
include T
variable {i x m : Nat} {q : List Nat} {sh fl fd : List Int} (h : Cmp ps N f0 d0 i x m q sh fl fd)
include h
/-- what stands at a letter that was not met -/
theorem Cmp.entry (hi : i < q.length) (hx : x < 6) : Tri N (N.getD (q.getD i 0) [] ++ [ltr x]) (fl.getD (q.getD i 0 * 6 + x) 0) := by
  rw [h.f3 _ x (h.lt i hi) hx (fun j hj e => by have := h.inj T (by omega) hi e; omega) (fun _ _ => Nat.le_refl _)]
  exact T.tr _ (h.lt i hi) x hx
/-- the fallback, for every state -/
theorem Cmp.fb (hi : i < q.length) (hx : x < 6) (hn : N.getD (q.getD i 0) [] ++ [ltr x] ∉ N) :
    At N (lsuf N (N.getD (q.getD i 0) [] ++ [ltr x])) (if q.getD i 0 = 0 then 0 else fl.getD ((sh.getD (q.getD i 0) 0).toNat * 6 + x) 0) := by
  by_cases hs : q.getD i 0 = 0
  · rw [if_pos hs, hs]
    rw [hs] at hn
    rw [T.z.2] at hn ⊢
    have : lsuf N ([] ++ [ltr x]) = [] := by
      show lsuf N (ltr x :: []) = []
      unfold lsuf
      rw [if_neg (show [ltr x] ∉ N from hn)]; rfl
    rw [this]; exact at_nil T
  · rw [if_neg hs]
    have := h.fall T hi hx hs
    obtain ⟨j, hj, e1, e2, e3⟩ := h.short T hi hs
    obtain ⟨a, u, hau⟩ := List.exists_cons_of_ne_nil e3
    rw [hau] at this hn ⊢
    have e : lsuf N (a :: u ++ [ltr x]) = lsuf N (u ++ [ltr x]) := by
      show lsuf N (a :: (u ++ [ltr x])) = _
      conv => lhs; unfold lsuf
      rw [if_neg (show a :: (u ++ [ltr x]) ∉ N from hn)]
    rw [e]; exact this
theorem Cmp.fb2 (hi : i < q.length) (hx : x < 6) :
    At N (lsuf N (N.getD (q.getD i 0) [] ++ [ltr x]).tail) (if q.getD i 0 = 0 then 0 else fl.getD ((sh.getD (q.getD i 0) 0).toNat * 6 + x) 0) := by
  by_cases hs : q.getD i 0 = 0
  · rw [if_pos hs, hs, T.z.2]; exact at_nil T
  · rw [if_neg hs]
    have := h.fall T hi hx hs
    obtain ⟨j, hj, e1, e2, e3⟩ := h.short T hi hs
    obtain ⟨a, u, hau⟩ := List.exists_cons_of_ne_nil e3
    rw [hau] at this ⊢
    exact this
/-- no child: the fallback is stored -/
theorem Cmp.none (hi : i < q.length) (hx : x < 6) (hz : fl.getD (q.getD i 0 * 6 + x) 0 = 0) :
    Cmp ps N f0 d0 i (x + 1) m q sh (fl.set (q.getD i 0 * 6 + x) (if q.getD i 0 = 0 then 0 else fl.getD ((sh.getD (q.getD i 0) 0).toNat * 6 + x) 0)) fd := by
  have hne : ∀ j, j < q.length → j ≠ i → q.getD i 0 ≠ q.getD j 0 := fun j hj hji e => hji (h.inj T hj hi e.symm)
  have hnot : N.getD (q.getD i 0) [] ++ [ltr x] ∉ N := fun hm => by
    rcases h.entry T hi hx with ⟨t, e, h1, h2⟩ | e
    · rw [hz] at e
      have : t = 0 := by omega
      rw [this, T.z.2] at h2; simp at h2
    · exact e.1 hm
  have hlt := h.lt i hi
  have hfl : q.getD i 0 * 6 + x < fl.length := by rw [h.fll]; omega
  have hfb := h.fb T hi hx hnot
  generalize (if q.getD i 0 = 0 then (0 : Int) else fl.getD ((sh.getD (q.getD i 0) 0).toNat * 6 + x) 0) = b at hfb ⊢
  refine { le := h.le, x6 := by omega, xi := fun _ => hi, ml := h.ml, q0 := h.q0, nd := h.nd, lt := h.lt, cl := ?_, so := h.so, shl := h.shl, shv := h.shv, fll := by simp [h.fll], f1 := ?_, f2 := ?_, f3 := ?_, fdl := h.fdl, d1 := h.d1, d2 := h.d2 }
  · intro t ht
    rw [h.cl t ht]
    constructor
    · rintro (e | e | ⟨y, hy, e⟩)
      · exact .inl e
      · exact .inr (.inl e)
      · exact .inr (.inr ⟨y, by omega, e⟩)
    · rintro (e | e | ⟨y, hy, e⟩)
      · exact .inl e
      · exact .inr (.inl e)
      · rcases Nat.lt_or_ge y x with k | k
        · exact .inr (.inr ⟨y, k, e⟩)
        · have : y = x := by omega
          subst this
          exact absurd (e ▸ getD_mem ht) hnot
  · intro j y hj hy
    have := hne j (by omega) (by omega)
    rw [getD_set_ne (by omega)]; exact h.f1 j y hj hy
  · intro y hy
    rcases Nat.lt_or_ge y x with k | k
    · rw [getD_set_ne (by omega)]; exact h.f2 y k
    · have : y = x := by omega
      subst this
      rw [getD_set_eq hfl]; exact hfb
  · intro s y hs hy h1 h2
    have : q.getD i 0 * 6 + x ≠ s * 6 + y := fun e => by
      have e1 : s = q.getD i 0 := by omega
      have := h2 e1 hi; omega
    rw [getD_set_ne this]
    exact h.f3 s y hs hy h1 (fun e k => by have := h2 e k; omega)
/-- a child: it waits -/
theorem Cmp.some (hi : i < q.length) (hx : x < 6) {t : Nat} (hz : fl.getD (q.getD i 0 * 6 + x) 0 = (t : Int)) (ht0 : t ≠ 0) :
    Cmp ps N f0 d0 i (x + 1) m (q ++ [t]) (sh.set t (if q.getD i 0 = 0 then 0 else fl.getD ((sh.getD (q.getD i 0) 0).toNat * 6 + x) 0)) fl fd := by
  have hne : ∀ j, j < q.length → j ≠ i → q.getD i 0 ≠ q.getD j 0 := fun j hj hji e => hji (h.inj T hj hi e.symm)
  have hat : t < N.length ∧ N.getD t [] = N.getD (q.getD i 0) [] ++ [ltr x] := by
    rcases h.entry T hi hx with ⟨t', e, h1, h2⟩ | e
    · rw [hz] at e
      have : t = t' := by omega
      rw [this]; exact ⟨h1, h2⟩
    · rw [hz] at e; omega
  obtain ⟨htN, hte⟩ := hat
  have hfb := h.fb2 T hi hx
  generalize (if q.getD i 0 = 0 then (0 : Int) else fl.getD ((sh.getD (q.getD i 0) 0).toNat * 6 + x) 0) = b at hfb ⊢
  have htq : t ∉ q := fun hm => by
    rcases (h.cl t htN).1 hm with e | ⟨j, y, hj, hy, e⟩ | ⟨y, hy, e⟩
    · exact ht0 e
    · rw [hte] at e
      have := getD_inj T.nd (h.lt i hi) (h.lt j (by omega)) (List.append_inj_left' e rfl)
      exact hne j (by omega) (by omega) this
    · rw [hte] at e
      have e2 := List.append_inj_right' e rfl
      simp at e2
      have := ltr_inj hx (by omega) e2; omega
  have gl : ∀ j, j < q.length → (q ++ [t]).getD j 0 = q.getD j 0 := fun j hj => getD_app_lt hj
  have gr : (q ++ [t]).getD q.length 0 = t := by rw [getD_app_ge (Nat.le_refl _)]; simp
  have hlen : (q ++ [t]).length = q.length + 1 := by simp
  have long : ∀ j, j < q.length → (N.getD (q.getD j 0) []).length ≤ (N.getD t []).length := fun j hj => by
    rw [hte]
    rcases (h.cl _ (h.lt j hj)).1 (getD_mem hj) with e | ⟨k, y, hk, hy, e⟩ | ⟨y, hy, e⟩
    · rw [e, T.z.2]; simp
    · rw [e]; have := h.so k i (by omega) hi; rw [List.length_append, List.length_append]; exact Nat.add_le_add_right this _
    · rw [e, List.length_append, List.length_append]; exact Nat.le_refl _
  have hsh : ∀ j, j < q.length → (sh.set t b).getD (q.getD j 0) 0 = sh.getD (q.getD j 0) 0 := fun j hj => getD_set_ne (fun e => htq (e ▸ getD_mem hj))
  refine { le := by rw [hlen]; have := h.le; omega, x6 := by omega, xi := fun _ => by rw [hlen]; omega, ml := by rw [hlen]; have := h.ml; omega, q0 := ⟨by rw [hlen]; omega, by rw [gl 0 h.q0.1]; exact h.q0.2⟩, nd := ?_, lt := ?_, cl := ?_, so := ?_, shl := by simp [h.shl], shv := ?_, fll := h.fll, f1 := ?_, f2 := ?_, f3 := ?_, fdl := h.fdl, d1 := ?_, d2 := ?_ }
  · rw [List.nodup_append]
    exact ⟨h.nd, by simp, fun a ha c hc => by simp at hc; subst hc; intro e; subst e; exact htq ha⟩
  · intro j hj
    rw [hlen] at hj
    rcases Nat.lt_or_ge j q.length with k | k
    · rw [gl j k]; exact h.lt j k
    · rw [show j = q.length by omega, gr]; exact htN
  · intro s hs
    rw [List.mem_append, h.cl s hs, gl i hi]
    constructor
    · rintro ((e | ⟨j, y, hj, hy, e⟩ | ⟨y, hy, e⟩) | e)
      · exact .inl e
      · exact .inr (.inl ⟨j, y, hj, hy, by rw [gl j (by omega)]; exact e⟩)
      · exact .inr (.inr ⟨y, by omega, e⟩)
      · simp at e; subst e; exact .inr (.inr ⟨x, by omega, hte⟩)
    · rintro (e | ⟨j, y, hj, hy, e⟩ | ⟨y, hy, e⟩)
      · exact .inl (.inl e)
      · exact .inl (.inr (.inl ⟨j, y, hj, hy, by rw [gl j (by omega)] at e; exact e⟩))
      · rcases Nat.lt_or_ge y x with k | k
        · exact .inl (.inr (.inr ⟨y, k, e⟩))
        · have : y = x := by omega
          subst this
          exact .inr (by simp; exact getD_inj T.nd hs htN (by rw [e, hte]))
  · intro a c hac hc
    rw [hlen] at hc
    rcases Nat.lt_or_ge c q.length with k | k
    · rw [gl c k, gl a (by omega)]; exact h.so a c hac k
    · have ec : c = q.length := by omega
      subst ec
      rw [gr]
      rcases Nat.lt_or_ge a q.length with k | k
      · rw [gl a k]; exact long a k
      · rw [show a = q.length by omega, gr]; exact Nat.le_refl _
  · intro j hj
    rw [hlen] at hj
    rcases Nat.lt_or_ge j q.length with k | k
    · rw [gl j k, hsh j k]; exact h.shv j k
    · have ec : j = q.length := by omega
      subst ec
      rw [gr, getD_set_eq (by rw [h.shl]; exact htN), hte]; exact hfb
  · intro j y hj hy
    rw [gl j (by omega)]; exact h.f1 j y hj hy
  · intro y hy
    rw [gl i hi]
    rcases Nat.lt_or_ge y x with k | k
    · exact h.f2 y k
    · have : y = x := by omega
      subst this
      have hm : N.getD (q.getD i 0) [] ++ [ltr y] ∈ N := hte ▸ getD_mem htN
      rw [lsuf_self hm, hz]
      exact ⟨t, rfl, htN, hte⟩
  · intro s y hs hy h1 h2
    exact h.f3 s y hs hy (fun j hj => by have := h1 j hj; rw [gl j (by omega)] at this; exact this) (fun e k => by have := h2 (by rw [gl i hi]; exact e) (by rw [hlen]; omega); omega)
  · intro j hj
    have := h.ml
    rw [gl j (by omega)]; exact h.d1 j hj
  · intro s hs hj
    have := h.ml
    exact h.d2 s hs (fun j hj' => by have := hj j hj'; rw [gl j (by omega)] at this; exact this)
end
theorem Cmp.next {ps N : List Wrd} {f0 d0 : List Int} (T : Trie ps ps.length N f0 d0) {i m : Nat} {q : List Nat} {sh fl fd : List Int} (h : Cmp ps N f0 d0 i 6 m q sh fl fd) : Cmp ps N f0 d0 (i + 1) 0 m q sh fl fd := by
  have hi := h.xi (by omega)
  refine { le := hi, x6 := by omega, xi := fun h => by omega, ml := h.ml, q0 := h.q0, nd := h.nd, lt := h.lt, cl := ?_, so := h.so, shl := h.shl, shv := h.shv, fll := h.fll, f1 := ?_, f2 := fun y hy => by omega, f3 := ?_, fdl := h.fdl, d1 := h.d1, d2 := h.d2 }
  · intro t ht
    rw [h.cl t ht]
    constructor
    · rintro (e | ⟨j, y, hj, hy, e⟩ | ⟨y, hy, e⟩)
      · exact .inl e
      · exact .inr (.inl ⟨j, y, by omega, hy, e⟩)
      · exact .inr (.inl ⟨i, y, by omega, hy, e⟩)
    · rintro (e | ⟨j, y, hj, hy, e⟩ | ⟨y, hy, e⟩)
      · exact .inl e
      · rcases Nat.lt_or_ge j i with k | k
        · exact .inr (.inl ⟨j, y, k, hy, e⟩)
        · rw [show j = i by omega] at e; exact .inr (.inr ⟨y, hy, e⟩)
      · omega
  · intro j y hj hy
    rcases Nat.lt_or_ge j i with k | k
    · exact h.f1 j y k hy
    · rw [show j = i by omega]; exact h.f2 y hy
  · intro s y hs hy h1 h2
    exact h.f3 s y hs hy (fun j hj => h1 j (by omega)) (fun e _ => absurd e.symm (h1 i (by omega)))
theorem Cmp.done {ps N : List Wrd} {f0 d0 : List Int} (T : Trie ps ps.length N f0 d0) {i : Nat} {q : List Nat} {sh fl fd : List Int} (h : Cmp ps N f0 d0 i 0 i q sh fl fd) (hi : i = q.length) : FinOK ps N fl fd := by
  have all : ∀ (n t : Nat), (N.getD t []).length = n → t < N.length → ∃ j, j < i ∧ q.getD j 0 = t := by
    intro n
    induction n with
    | zero =>
      intro t hn ht
      have e := nil_ix T ht (List.length_eq_zero_iff.1 hn)
      subst e
      exact ⟨0, by rw [hi]; exact h.q0.1, h.q0.2⟩
    | succ n ih =>
      intro t hn ht
      have hne : N.getD t [] ≠ [] := fun e => by rw [e] at hn; simp at hn
      obtain ⟨v, a, hva⟩ : ∃ v a, N.getD t [] = v ++ [a] := ⟨_, _, (List.dropLast_concat_getLast hne).symm⟩
      have htN : N.getD t [] ∈ N := getD_mem ht
      have hvN : v ∈ N := T.pc v a (hva ▸ htN)
      obtain ⟨r, hr, hrv⟩ := mem_getD [] hvN
      obtain ⟨j, hj, hjr⟩ := ih r (by rw [hrv]; rw [hva] at hn; simpa using hn) hr
      have hal := T.al _ htN a (by rw [hva]; simp)
      have hay : a = ltr (a.toNat - 97) := UInt8.toNat_inj.1 (by rw [ltr_toNat (by omega)]; omega)
      have hq : t ∈ q := (h.cl t ht).2 (.inr (.inl ⟨j, a.toNat - 97, hj, by omega, by rw [hjr, hrv, ← hay, hva]⟩))
      obtain ⟨b, hb, hbt⟩ := mem_getD 0 hq
      exact ⟨b, by omega, hbt⟩
  refine ⟨T.nd, T.z, T.pc, T.al, h.fll, h.fdl, T.mem, fun s hs x hx => ?_, fun s hs => ?_⟩
  · obtain ⟨j, hj, rfl⟩ := all _ s rfl hs
    exact h.f1 j x hj hx
  · obtain ⟨j, hj, rfl⟩ := all _ s rfl hs
    exact h.d1 j hj
end Go.Sx
namespace Go.Sx
open Go.RowKit
def qz (q : List Nat) : List Int := q.map fun t : Nat => (t : Int)
theorem qz_len (q : List Nat) : (qz q).length = q.length := by simp [qz]
theorem qz_get (q : List Nat) (i : Nat) : (qz q).getD i 0 = ((q.getD i 0 : Nat) : Int) := by
  unfold qz
  rw [List.getD_eq_getElem?_getD, List.getD_eq_getElem?_getD, List.getElem?_map]
  cases q[i]? <;> rfl
theorem qz_snoc (q : List Nat) (t : Nat) : qz (q ++ [t]) = qz q ++ [(t : Int)] := by simp [qz]
/-- a row of six, as a value -/
def av6 (fl : List Int) (s : Nat) : Value := .agg (((fl.map (Value.int .i32)).drop (s * 6)).take 6).toArray
theorem at6 {fl : List Int} {p : Nat} (h : p < fl.length) {p' : Nat} (e : p' = p) : (fl.map (Value.int .i32))[p']? = some (.int .i32 (fl.getD p 0)) := by
  subst e
  rw [List.getElem?_map, List.getD_eq_getElem?_getD, List.getElem?_eq_getElem h]; rfl
theorem av6_get {fl : List Int} {s x : Nat} (hx : x < 6) (h : s * 6 + x < fl.length) : ((((fl.map (Value.int .i32)).drop (s * 6)).take 6).toArray)[((x : Nat) : Int).toNat]? = some (.int .i32 (fl.getD (s * 6 + x) 0)) := by
  rw [Int.toNat_natCast]
  simp only [List.getElem?_toArray, List.getElem?_take, hx, if_true, List.getElem?_drop]
  exact at6 h rfl
theorem set_map6 {fl : List Int} {p p' : Nat} {b : Int} {u : Value} (e : p' = p) (hu : u = .int .i32 b) : (fl.map (Value.int .i32)).set p' u = (fl.set p b).map (Value.int .i32) := by
  subst e; subst hu; rw [List.map_set]
end Go.Sx

namespace Go.Proofs.YtdnhiinakhmhgaaGreatDoor
open Go.Sx Go.RowKit
set_option maxHeartbeats 4000000 in
theorem s_complete (w : World) (F : Nat → Prop) (bf : Nat) (vn vf : Value) (ps N : List Wrd) (f0 d0 : List Int) (T : Trie ps ps.length N f0 d0) (hN : N.length ≤ 4200000) (hA : (bigA [box bf 100 2 [vn, vf], row vn 101 6 N.length (f0.map (Value.int .i32)), row vf 21 1 N.length (d0.map (Value.int .i32))]).holds w F) : CallM Tryz.prog 92 [.pointer (some ⟨bf, 0, none⟩)] w F (fun r A o => ∃ fl fd, FinOK ps N fl fd ∧ A = bigA [box bf 100 2 [vn, vf], row vn 101 6 N.length (fl.map (Value.int .i32)), row vf 21 1 N.length (fd.map (Value.int .i32))] ∧ r = .tuple #[] ∧ o = []) := by
 refine specM_of' Tryz.func92 rfl (leb rfl) hA ?_
 refine .sr fun _ hK1 => ?_
 refine .mv rfl (.v (.nilCheck rfl) (.v (.fieldAddr fd100_0 rfl) (.v (.loadBox on97 rfl bsp rfl) (.v (.lenR sl97 rfl rdp) ?_))))
 refine AK.make1 (n := N.length) sl98 el21 rfl rfl rfl (by omega) (by omega) trivial rfl (fun mv => ?_)
 refine .as rfl (.nt hK1 ?_)
 refine .sr fun _ hK2 => ?_
 refine AK.lit (xs := [.const (.int .i32 0)]) sl98 el21 rfl rfl rfl (by intro a ha; simp at ha; subst ha; rfl) (by decide) (by decide) trivial rfl (fun lq => ?_)
 refine AK.shape 4 rfl (fun slq => ?_)
 refine .as rfl (.nt hK2 ?_)
 refine .sr fun _ hK3 => ?_
 refine .as rfl (.nt hK3 (.block ?_))
 refine AK.loopK (X := Nat × Value × List Nat × List Int × List Int × List Int) [(0, _), (2, _)] (fun x => [(3, x.2.1), (4, .int .i64 (x.1 : Int))]) (fun x => [box bf 100 2 [vn, vf], row vn 101 6 N.length (x.2.2.2.2.1.map (Value.int .i32)), row vf 21 1 N.length (x.2.2.2.2.2.map (Value.int .i32)), row mv 21 1 N.length (x.2.2.2.1.map (Value.int .i32)), row x.2.1 21 1 x.2.2.1.length ((qz x.2.2.1).map (Value.int .i32))]) (fun x => Cmp ps N f0 d0 x.1 0 x.1 x.2.2.1 x.2.2.2.1 x.2.2.2.2.1 x.2.2.2.2.2 ∧ IsSl x.2.1) (fun x => N.length - x.1) ((0, lq, [0], List.replicate N.length 0, f0, d0)) slr ?_ ?_ ?_ ?_
 ·exact ⟨cmp0 T, slq⟩
 ·exact slr
 ·exact fun w hw => by have e : (List.replicate N.length (0 : Int)).map (Value.int .i32) = List.replicate N.length (Value.int .i32 0) := (by simp); dsimp only; rw [e]; exact hw
 ·intro x hg0 _ hK4
  obtain ⟨hC, sq⟩ := hg0
  have hqle := hC.qle T
  refine .seq fun _ hK5 => ?_
  refine .sr fun _ hK6 => ?_
  refine .mv rfl (.mv rfl (.v (.lenR sl98 rfl rdp) (.v (.lss rfl rfl) (.nt hK6 ?_))))
  refine AK.condD rfl (fun hc0 => ?_) (fun hc0 => ?_)
  ·have hi : x.1 < x.2.2.1.length := by omega
   have hS := hC.lt x.1 hi
   obtain ⟨r, hr, hrN⟩ := hC.shB T hi
   have hfd0 := hC.fdl
   have hCf := hC.found T hi
   rw [hr] at hCf
   simp only [Int.toNat_natCast] at hCf
   refine .skip ?_
   refine AK.then_ (hK5 _ ?_)
   refine .seq fun _ hK7 => ?_
   refine .block ?_
   refine .sr fun _ hK8 => ?_
   refine .mv rfl (.mv rfl ?_)
   first | refine .v (.iN sl98 rfl rfl) ?_ | refine .v (.iK sl98 rfl rfl) ?_
   refine AK.val (.int .i32 (((x.2.2.1.getD x.1 0) : Nat) : Int)) (Yl.valE (Yl.loadI on21 rfl rdp (by rw [qz_len]; omega)) (congrArg (Value.int .i32) (qz_get x.2.2.1 x.1))) trivial rfl ?_
   refine .as rfl (.nt hK8 ?_)
   refine .seq fun _ hK9 => ?_
   refine .seq fun _ hK10 => ?_
   refine AK.quiet mixed krf ?_
   refine .mv rfl (.v (.nilCheck rfl) (.v (.fieldAddr fd100_1 rfl) (.v (.loadBox on98 rfl bsp rfl) (.mv rfl (.mv rfl ?_)))))
   first | refine .v (.iN sl98 rfl rfl) ?_ | refine .v (.iK sl98 rfl rfl) ?_
   refine QK.val (.int .i32 (r : Int)) (Yl.valE (Yl.loadI on21 rfl rdp (by rw [hC.shl]; omega)) (congrArg (Value.int .i32) hr)) trivial rfl ?_
   first | refine .v (.iN sl98 rfl rfl) ?_ | refine .v (.iK sl98 rfl rfl) ?_
   refine QK.val (.int .i32 (x.2.2.2.2.2.getD r 0)) (Yl.loadI on21 rfl rdp (by rw [hC.fdl]; omega)) trivial rfl ?_
   refine .as rfl ?_
   refine QK.nil (QK.fin ?_)
   refine AK.then_ (hK10 _ ?_)
   refine .sr fun _ hK11 => ?_
   refine .mv rfl (.v (.geq rfl rfl) (.mv rfl ?_))
   refine AK.splitB (g := 39) rfl (fun hg_7_2 => ?_) (fun hg_7_2 => ?_)
   ·have hg_7_2' := hg_7_2
    try simp only [bs] at hg_7_2'
    refine AK.val _ (Yl.move rfl) ⟨_, rfl, gB hg_7_2⟩ rfl ?_
    refine AK.val _ (Yl.nilCheck rfl) ⟨_, rfl, gB hg_7_2⟩ rfl ?_
    refine AK.val _ (Yl.fieldAddr fd100_1 rfl) ⟨_, rfl, gB hg_7_2⟩ rfl ?_
    refine AK.val _ (Yl.loadBox on98 rfl bsp rfl) ⟨_, rfl, gB hg_7_2⟩ rfl ?_
    refine AK.val _ (Yl.move rfl) ⟨_, rfl, gB hg_7_2⟩ rfl ?_
    first | refine AK.val _ (.iN sl98 rfl rfl) ⟨_, rfl, gB hg_7_2⟩ rfl ?_ | refine AK.val _ (.iK sl98 rfl rfl) ⟨_, rfl, gB hg_7_2⟩ rfl ?_
    refine AK.val (.int .i32 (x.2.2.2.2.2.getD (x.2.2.1.getD x.1 0) 0)) (Yl.loadI on21 rfl rdp (by rw [hC.fdl]; omega)) ⟨_, rfl, gB hg_7_2⟩ rfl ?_
    refine AK.val _ (Yl.lss rfl rfl) ⟨_, rfl, gB hg_7_2⟩ rfl ?_
    refine AK.val _ (Yl.move rfl) ⟨_, rfl, gB hg_7_2⟩ rfl ?_
    refine AK.splitB (g := 48) rfl (fun hg_7_11 => ?_) (fun hg_7_11 => ?_)
    ·have hg_7_11' := hg_7_11
     try simp only [bs] at hg_7_11'
     refine AK.pass rfl rfl (hg_7_11) rfl ?_
     refine AK.pass rfl rfl (hg_7_11) rfl ?_
     refine AK.pass rfl rfl (hg_7_11) rfl ?_
     refine AK.pass rfl rfl (hg_7_11) rfl ?_
     refine AK.pass rfl rfl (hg_7_11) rfl ?_
     refine AK.pass rfl rfl (hg_7_11) rfl ?_
     refine AK.pass rfl rfl (hg_7_11) rfl ?_
     refine AK.pass rfl rfl (hg_7_11) rfl ?_
     refine AK.pass rfl rfl (hg_7_11) rfl ?_
     refine AK.val _ (Yl.pickT rfl (hg_7_11) rfl) ⟨_, rfl, gB hg_7_2⟩ rfl ?_
     refine .v (.pickT rfl (hg_7_2) rfl) (.nt hK11 ?_)
     refine AK.cond_t rfl (rfl) ?_
     rw [if_pos (by first | omega | simpa using hc1)] at hCf
     obtain ⟨D, hD⟩ : ∃ D : List Int, D = x.2.2.2.2.2.set (x.2.2.1.getD x.1 0) (x.2.2.2.2.2.getD r 0) := ⟨_, rfl⟩
     have hCD := hCf
     rw [← hD] at hCD
     refine AK.region ?_
     refine .mv rfl (.v (.nilCheck rfl) (.v (.fieldAddr fd100_1 rfl) (.v (.loadBox on98 rfl bsp rfl) (.mv rfl (.mv rfl ?_)))))
     first | refine .v (.iN sl98 rfl rfl) ?_ | refine .v (.iK sl98 rfl rfl) ?_
     refine AK.store1e 2 rfl sz21 rfl rfl rfl rfl (by omega) (cs' := (D.map (Value.int .i32))) (by rw [hD, List.map_set]; rfl) trivial ?_
     refine .nt hK9 ?_
     refine .sr fun _ hK12 => ?_
     refine .mv rfl (.v (.nilCheck rfl) (.v (.fieldAddr fd100_0 rfl) (.v (.loadBox on97 rfl bsp rfl) (.mv rfl ?_))))
     first | refine .v (.iN sl97 rfl rfl) ?_ | refine .v (.iK sl97 rfl rfl) ?_
     refine AK.val (av6 x.2.2.2.2.1 (x.2.2.1.getD x.1 0)) (Yl.loadG ag101 rfl rdp (by omega)) trivial rfl ?_
     refine .mv rfl (.nt hK12 (.block ?_))
     refine AK.loopK (X := Nat × Value × List Nat × List Int × List Int) [(0, _), (2, _), (4, _), (5, _), (73, _)] (fun y => [(3, y.2.1), (74, .int .i64 (y.1 : Int))]) (fun y => [box bf 100 2 [vn, vf], row vn 101 6 N.length (y.2.2.2.2.map (Value.int .i32)), row vf 21 1 N.length (D.map (Value.int .i32)), row mv 21 1 N.length (y.2.2.2.1.map (Value.int .i32)), row y.2.1 21 1 y.2.2.1.length ((qz y.2.2.1).map (Value.int .i32))]) (fun y => Cmp ps N f0 d0 x.1 y.1 (x.1 + 1) y.2.2.1 y.2.2.2.1 y.2.2.2.2 D ∧ IsSl y.2.1 ∧ y.2.2.1.getD x.1 0 = (x.2.2.1.getD x.1 0) ∧ x.1 < y.2.2.1.length ∧ ∀ z, y.1 ≤ z → z < 6 → x.2.2.2.2.1.getD ((x.2.2.1.getD x.1 0) * 6 + z) 0 = y.2.2.2.2.getD ((x.2.2.1.getD x.1 0) * 6 + z) 0) (fun y => 6 - y.1) ((0, x.2.1, x.2.2.1, x.2.2.2.1, x.2.2.2.2.1)) slr ?_ ?_ ?_ ?_
     ·exact ⟨hCD, sq, rfl, hi, fun _ _ _ => rfl⟩
     ·exact slr
     ·exact fun w hw => hw
     ·intro y hg1 _ hK13
      obtain ⟨hD1, sy, hSe, hiq, hag⟩ := hg1
      have hqle2 := hD1.qle T
      have hfl2 := hD1.fll
      have hsh2 := hD1.shl
      refine .sr fun _ hK14 => ?_
      refine .v (.lss rfl rfl) (.nt hK14 ?_)
      refine .seq fun _ hK15 => ?_
      refine AK.condD rfl (fun hc2 => ?_) (fun hc2 => ?_)
      ·have hy6 : y.1 < 6 := by omega
       obtain ⟨r2, hr2, hr2N⟩ := hD1.shB T hiq
       rw [hSe] at hr2
       obtain ⟨fb, hfb⟩ : ∃ fb : Int, fb = (if (x.2.2.1.getD x.1 0) = 0 then 0 else y.2.2.2.2.getD ((y.2.2.2.1.getD (x.2.2.1.getD x.1 0) 0).toNat * 6 + y.1) 0) := ⟨_, rfl⟩
       have hE := hD1.entry T hiq hy6
       rw [hSe] at hE
       refine .skip ?_
       refine AK.then_ (hK15 _ ?_)
       refine .seq fun _ hK16 => ?_
       refine .block ?_
       refine .sr fun _ hK17 => ?_
       refine .mv rfl ?_
       refine AK.val (.int .i32 (y.2.2.2.2.getD ((x.2.2.1.getD x.1 0) * 6 + y.1) 0)) (Yl.idxAgg ar101 (by kernel_rfl) rfl rfl (by omega) (by rw [← hag y.1 (Nat.le_refl _) (by omega)]; exact av6_get (by omega) (by rw [hC.fll]; omega))) trivial rfl ?_
       refine .as rfl (.as rfl (.nt hK17 ?_))
       refine .sr fun _ hK18 => ?_
       refine .as rfl (.nt hK18 ?_)
       refine .seq fun _ hK19 => ?_
       refine .sr fun _ hK20 => ?_
       refine .mv rfl (.v (.neq rfl rfl) (.nt hK20 ?_))
       refine AK.condNe rfl (fun hc3 => ?_) (fun hc3 => ?_)
       ·refine AK.quiet mixed krf ?_
        refine .mv rfl (.v (.nilCheck rfl) (.v (.fieldAddr fd100_0 rfl) (.v (.loadBox on97 rfl bsp rfl) (.mv rfl (.mv rfl ?_)))))
        first | refine .v (.iN sl98 rfl rfl) ?_ | refine .v (.iK sl98 rfl rfl) ?_
        refine QK.val (.int .i32 (r2 : Int)) (Yl.valE (Yl.loadI on21 rfl rdp (by rw [hsh2]; omega)) (congrArg (Value.int .i32) hr2)) trivial rfl ?_
        refine .mv rfl ?_
        first | refine .v (.iN sl97 rfl rfl) ?_ | refine .v (.iK sl97 rfl rfl) ?_
        refine .v (.idxArrR ar101 rfl rfl (by omega)) ?_
        refine QK.val (.int .i32 fb) (Yl.loadAt on21 rfl rdp (by rw [hfb, if_neg (by omega), hr2]; exact at6 (by omega) (by omega))) trivial rfl ?_
        refine .as rfl ?_
        refine QK.nil (QK.fin ?_)
        refine AK.then_ (hK19 _ ?_)
        refine .seq fun _ hK21 => ?_
        refine .sr fun _ hK22 => ?_
        refine .mv rfl (.v (.eql rfl rfl) (.nt hK22 ?_))
        refine AK.condD rfl (fun hc4 => ?_) (fun hc4 => ?_)
        ·have hn1 := hD1.none T hiq hy6 (by rw [hSe]; exact hc4)
         rw [hSe, ← hfb] at hn1
         have hag1 : ∀ z, y.1 + 1 ≤ z → z < 6 → x.2.2.2.2.1.getD ((x.2.2.1.getD x.1 0) * 6 + z) 0 = (y.2.2.2.2.set ((x.2.2.1.getD x.1 0) * 6 + y.1) fb).getD ((x.2.2.1.getD x.1 0) * 6 + z) 0 := fun z hz hz6 => by rw [Go.Sx.getD_set_ne (by omega)]; exact hag z (by omega) hz6
         refine .sr fun _ hK23 => ?_
         refine .mv rfl (.v (.nilCheck rfl) (.v (.fieldAddr fd100_0 rfl) (.v (.loadBox on97 rfl bsp rfl) (.mv rfl (.mv rfl (.mv rfl ?_))))))
         first | refine .v (.iN sl97 rfl rfl) ?_ | refine .v (.iK sl97 rfl rfl) ?_
         refine .v (.idxArrR ar101 rfl rfl (by omega)) ?_
         refine AK.storeAt 1 (cs' := ((y.2.2.2.2.set ((x.2.2.1.getD x.1 0) * 6 + y.1) fb).map (Value.int .i32))) rfl sz21 rfl rfl rfl rfl (by omega) (set_map6 (by omega) (by first | rfl | (rw [hfb, if_pos (by omega)]))) trivial ?_
         refine .nt hK23 (.exit (.then_exit (.block_exit ?_)))
         refine AK.then_ (hK16 _ ?_)
         refine AK.region ?_
         refine .v (.add rfl rfl (by omega)) ?_
         refine .mv rfl (.nil ?_)
         first | refine AK.then_ (hK13 _ _ ((y.1 + 1, y.2.1, y.2.2.1, y.2.2.2.1, y.2.2.2.2.set ((x.2.2.1.getD x.1 0) * 6 + y.1) fb)) ⟨hn1, sy, hSe, hiq, hag1⟩ (by dsimp only; omega) (slr) (fun w hw => hw)) | refine AK.then_ (hK13 _ _ ((y.1 + 1, vq2, y.2.2.1 ++ [t], y.2.2.2.1.set t fb, y.2.2.2.2)) ⟨hn2, svq2, hSe2, hiq2, hag2⟩ (by dsimp only; omega) (slr) (fun w hw => by dsimp only; rw [qz_snoc, List.map_append, List.length_append]; rw [ht] at hw; exact hw))
        ·obtain ⟨t, ht, htN, -⟩ : ∃ t : Nat, y.2.2.2.2.getD ((x.2.2.1.getD x.1 0) * 6 + y.1) 0 = (t : Int) ∧ t < N.length ∧ True := by
          rcases hE with ⟨t, h1, h2, _⟩ | ⟨_, h0⟩
          ·exact ⟨t, h1, h2, trivial⟩
          ·exact absurd h0 hc4
         have hn2 := hD1.some T hiq hy6 (t := t) (by rw [hSe]; exact ht) (fun e => hc4 (by rw [ht, e]; rfl))
         rw [hSe, ← hfb] at hn2
         have hSe2 : (y.2.2.1 ++ [t]).getD x.1 0 = (x.2.2.1.getD x.1 0) := by rw [getD_app_lt hiq]; exact hSe
         have hiq2 : x.1 < (y.2.2.1 ++ [t]).length := by rw [List.length_append]; omega
         have hag2 : ∀ z, y.1 + 1 ≤ z → z < 6 → x.2.2.2.2.1.getD ((x.2.2.1.getD x.1 0) * 6 + z) 0 = y.2.2.2.2.getD ((x.2.2.1.getD x.1 0) * 6 + z) 0 := fun z hz hz6 => hag z (by omega) hz6
         refine .skip ?_
         refine AK.then_ (hK21 _ ?_)
         refine .sr fun _ hK24 => ?_
         refine .mv rfl (.mv rfl (.mv rfl ?_))
         first | refine .v (.iN sl98 rfl rfl) ?_ | refine .v (.iK sl98 rfl rfl) ?_
         refine AK.store1e 3 rfl sz21 rfl rfl rfl rfl (by omega) (cs' := ((y.2.2.2.1.set t fb).map (Value.int .i32))) (by rw [List.map_set, ht]; first | rfl | (rw [hfb, if_pos (by omega)]; rfl)) trivial ?_
         refine .nt hK24 ?_
         refine AK.region ?_
         refine .mv rfl (.mv rfl ?_)
         refine AK.append1 4 rfl sl98 el21 rfl (by decide) rfl (by intro k hk; cases hk; rfl) rfl (by intro u hu; simp [Value.cells] at hu; subst hu; rfl) (by omega) (by omega) (by decide) rfl rfl (fun vq2 _ svq2 => ?_)
         refine .as rfl (.nil (.block_normal ?_))
         refine AK.then_ (hK16 _ ?_)
         refine AK.region ?_
         refine .v (.add rfl rfl (by omega)) ?_
         refine .mv rfl (.nil ?_)
         first | refine AK.then_ (hK13 _ _ ((y.1 + 1, y.2.1, y.2.2.1, y.2.2.2.1, y.2.2.2.2.set ((x.2.2.1.getD x.1 0) * 6 + y.1) fb)) ⟨hn1, sy, hSe, hiq, hag1⟩ (by dsimp only; omega) (slr) (fun w hw => hw)) | refine AK.then_ (hK13 _ _ ((y.1 + 1, vq2, y.2.2.1 ++ [t], y.2.2.2.1.set t fb, y.2.2.2.2)) ⟨hn2, svq2, hSe2, hiq2, hag2⟩ (by dsimp only; omega) (slr) (fun w hw => by dsimp only; rw [qz_snoc, List.map_append, List.length_append]; rw [ht] at hw; exact hw))
       ·refine .skip ?_
        refine AK.then_ (hK19 _ ?_)
        refine .seq fun _ hK25 => ?_
        refine .sr fun _ hK26 => ?_
        refine .mv rfl (.v (.eql rfl rfl) (.nt hK26 ?_))
        refine AK.condD rfl (fun hc4 => ?_) (fun hc4 => ?_)
        ·have hn1 := hD1.none T hiq hy6 (by rw [hSe]; exact hc4)
         rw [hSe, ← hfb] at hn1
         have hag1 : ∀ z, y.1 + 1 ≤ z → z < 6 → x.2.2.2.2.1.getD ((x.2.2.1.getD x.1 0) * 6 + z) 0 = (y.2.2.2.2.set ((x.2.2.1.getD x.1 0) * 6 + y.1) fb).getD ((x.2.2.1.getD x.1 0) * 6 + z) 0 := fun z hz hz6 => by rw [Go.Sx.getD_set_ne (by omega)]; exact hag z (by omega) hz6
         refine .sr fun _ hK27 => ?_
         refine .mv rfl (.v (.nilCheck rfl) (.v (.fieldAddr fd100_0 rfl) (.v (.loadBox on97 rfl bsp rfl) (.mv rfl (.mv rfl (.mv rfl ?_))))))
         first | refine .v (.iN sl97 rfl rfl) ?_ | refine .v (.iK sl97 rfl rfl) ?_
         refine .v (.idxArrR ar101 rfl rfl (by omega)) ?_
         refine AK.storeAt 1 (cs' := ((y.2.2.2.2.set ((x.2.2.1.getD x.1 0) * 6 + y.1) fb).map (Value.int .i32))) rfl sz21 rfl rfl rfl rfl (by omega) (set_map6 (by omega) (by first | rfl | (rw [hfb, if_pos (by omega)]))) trivial ?_
         refine .nt hK27 (.exit (.then_exit (.block_exit ?_)))
         refine AK.then_ (hK16 _ ?_)
         refine AK.region ?_
         refine .v (.add rfl rfl (by omega)) ?_
         refine .mv rfl (.nil ?_)
         first | refine AK.then_ (hK13 _ _ ((y.1 + 1, y.2.1, y.2.2.1, y.2.2.2.1, y.2.2.2.2.set ((x.2.2.1.getD x.1 0) * 6 + y.1) fb)) ⟨hn1, sy, hSe, hiq, hag1⟩ (by dsimp only; omega) (slr) (fun w hw => hw)) | refine AK.then_ (hK13 _ _ ((y.1 + 1, vq2, y.2.2.1 ++ [t], y.2.2.2.1.set t fb, y.2.2.2.2)) ⟨hn2, svq2, hSe2, hiq2, hag2⟩ (by dsimp only; omega) (slr) (fun w hw => by dsimp only; rw [qz_snoc, List.map_append, List.length_append]; rw [ht] at hw; exact hw))
        ·obtain ⟨t, ht, htN, -⟩ : ∃ t : Nat, y.2.2.2.2.getD ((x.2.2.1.getD x.1 0) * 6 + y.1) 0 = (t : Int) ∧ t < N.length ∧ True := by
          rcases hE with ⟨t, h1, h2, _⟩ | ⟨_, h0⟩
          ·exact ⟨t, h1, h2, trivial⟩
          ·exact absurd h0 hc4
         have hn2 := hD1.some T hiq hy6 (t := t) (by rw [hSe]; exact ht) (fun e => hc4 (by rw [ht, e]; rfl))
         rw [hSe, ← hfb] at hn2
         have hSe2 : (y.2.2.1 ++ [t]).getD x.1 0 = (x.2.2.1.getD x.1 0) := by rw [getD_app_lt hiq]; exact hSe
         have hiq2 : x.1 < (y.2.2.1 ++ [t]).length := by rw [List.length_append]; omega
         have hag2 : ∀ z, y.1 + 1 ≤ z → z < 6 → x.2.2.2.2.1.getD ((x.2.2.1.getD x.1 0) * 6 + z) 0 = y.2.2.2.2.getD ((x.2.2.1.getD x.1 0) * 6 + z) 0 := fun z hz hz6 => hag z (by omega) hz6
         refine .skip ?_
         refine AK.then_ (hK25 _ ?_)
         refine .sr fun _ hK28 => ?_
         refine .mv rfl (.mv rfl (.mv rfl ?_))
         first | refine .v (.iN sl98 rfl rfl) ?_ | refine .v (.iK sl98 rfl rfl) ?_
         refine AK.store1e 3 rfl sz21 rfl rfl rfl rfl (by omega) (cs' := ((y.2.2.2.1.set t fb).map (Value.int .i32))) (by rw [List.map_set, ht]; first | rfl | (rw [hfb, if_pos (by omega)]; rfl)) trivial ?_
         refine .nt hK28 ?_
         refine AK.region ?_
         refine .mv rfl (.mv rfl ?_)
         refine AK.append1 4 rfl sl98 el21 rfl (by decide) rfl (by intro k hk; cases hk; rfl) rfl (by intro u hu; simp [Value.cells] at hu; subst hu; rfl) (by omega) (by omega) (by decide) rfl rfl (fun vq2 _ svq2 => ?_)
         refine .as rfl (.nil (.block_normal ?_))
         refine AK.then_ (hK16 _ ?_)
         refine AK.region ?_
         refine .v (.add rfl rfl (by omega)) ?_
         refine .mv rfl (.nil ?_)
         first | refine AK.then_ (hK13 _ _ ((y.1 + 1, y.2.1, y.2.2.1, y.2.2.2.1, y.2.2.2.2.set ((x.2.2.1.getD x.1 0) * 6 + y.1) fb)) ⟨hn1, sy, hSe, hiq, hag1⟩ (by dsimp only; omega) (slr) (fun w hw => hw)) | refine AK.then_ (hK13 _ _ ((y.1 + 1, vq2, y.2.2.1 ++ [t], y.2.2.2.1.set t fb, y.2.2.2.2)) ⟨hn2, svq2, hSe2, hiq2, hag2⟩ (by dsimp only; omega) (slr) (fun w hw => by dsimp only; rw [qz_snoc, List.map_append, List.length_append]; rw [ht] at hw; exact hw))
      ·refine .exit (.then_exit (.then_exit (.block_exit (.block_normal ?_))))
       refine AK.then_ (hK7 _ ?_)
       refine AK.region ?_
       refine .mv rfl ?_
       refine .v (.add rfl rfl (by omega)) ?_
       refine .as rfl (.nil ?_)
       refine AK.then_ (hK4 _ _ ((x.1 + 1, y.2.1, y.2.2.1, y.2.2.2.1, y.2.2.2.2, D)) ⟨Cmp.next T (by have hh := hD1; rw [show y.1 = 6 by have := hD1.x6; omega] at hh; exact hh), sy⟩ (by dsimp only; omega) (slr) (fun w hw => hw))
    ·have hg_7_11' := hg_7_11
     try simp only [bs] at hg_7_11'
     refine AK.val _ (Yl.move rfl) ⟨_, rfl, gB hg_7_11⟩ rfl ?_
     refine AK.val _ (Yl.move rfl) ⟨_, rfl, gB hg_7_11⟩ rfl ?_
     refine AK.val _ (Yl.nilCheck rfl) ⟨_, rfl, gB hg_7_11⟩ rfl ?_
     refine AK.val _ (Yl.fieldAddr fd100_1 rfl) ⟨_, rfl, gB hg_7_11⟩ rfl ?_
     refine AK.val _ (Yl.loadBox on98 rfl bsp rfl) ⟨_, rfl, gB hg_7_11⟩ rfl ?_
     refine AK.val _ (Yl.move rfl) ⟨_, rfl, gB hg_7_11⟩ rfl ?_
     first | refine AK.val _ (.iN sl98 rfl rfl) ⟨_, rfl, gB hg_7_11⟩ rfl ?_ | refine AK.val _ (.iK sl98 rfl rfl) ⟨_, rfl, gB hg_7_11⟩ rfl ?_
     refine AK.val (.int .i32 (x.2.2.2.2.2.getD (x.2.2.1.getD x.1 0) 0)) (Yl.loadI on21 rfl rdp (by rw [hC.fdl]; omega)) ⟨_, rfl, gB hg_7_11⟩ rfl ?_
     refine AK.val _ (Yl.lss rfl rfl) ⟨_, rfl, gB hg_7_11⟩ rfl ?_
     refine AK.val _ (Yl.pickF rfl (hg_7_11) rfl) ⟨_, rfl, gB hg_7_2⟩ rfl ?_
     refine .v (.pickT rfl (hg_7_2) rfl) (.nt hK11 ?_)
     refine AK.condD rfl (fun hc1 => ?_) (fun hc1 => ?_)
     ·rw [if_pos (by first | omega | simpa using hc1)] at hCf
      obtain ⟨D, hD⟩ : ∃ D : List Int, D = x.2.2.2.2.2.set (x.2.2.1.getD x.1 0) (x.2.2.2.2.2.getD r 0) := ⟨_, rfl⟩
      have hCD := hCf
      rw [← hD] at hCD
      refine AK.region ?_
      refine .mv rfl (.v (.nilCheck rfl) (.v (.fieldAddr fd100_1 rfl) (.v (.loadBox on98 rfl bsp rfl) (.mv rfl (.mv rfl ?_)))))
      first | refine .v (.iN sl98 rfl rfl) ?_ | refine .v (.iK sl98 rfl rfl) ?_
      refine AK.store1e 2 rfl sz21 rfl rfl rfl rfl (by omega) (cs' := (D.map (Value.int .i32))) (by rw [hD, List.map_set]; rfl) trivial ?_
      refine .nt hK9 ?_
      refine .sr fun _ hK29 => ?_
      refine .mv rfl (.v (.nilCheck rfl) (.v (.fieldAddr fd100_0 rfl) (.v (.loadBox on97 rfl bsp rfl) (.mv rfl ?_))))
      first | refine .v (.iN sl97 rfl rfl) ?_ | refine .v (.iK sl97 rfl rfl) ?_
      refine AK.val (av6 x.2.2.2.2.1 (x.2.2.1.getD x.1 0)) (Yl.loadG ag101 rfl rdp (by omega)) trivial rfl ?_
      refine .mv rfl (.nt hK29 (.block ?_))
      refine AK.loopK (X := Nat × Value × List Nat × List Int × List Int) [(0, _), (2, _), (4, _), (5, _), (73, _)] (fun y => [(3, y.2.1), (74, .int .i64 (y.1 : Int))]) (fun y => [box bf 100 2 [vn, vf], row vn 101 6 N.length (y.2.2.2.2.map (Value.int .i32)), row vf 21 1 N.length (D.map (Value.int .i32)), row mv 21 1 N.length (y.2.2.2.1.map (Value.int .i32)), row y.2.1 21 1 y.2.2.1.length ((qz y.2.2.1).map (Value.int .i32))]) (fun y => Cmp ps N f0 d0 x.1 y.1 (x.1 + 1) y.2.2.1 y.2.2.2.1 y.2.2.2.2 D ∧ IsSl y.2.1 ∧ y.2.2.1.getD x.1 0 = (x.2.2.1.getD x.1 0) ∧ x.1 < y.2.2.1.length ∧ ∀ z, y.1 ≤ z → z < 6 → x.2.2.2.2.1.getD ((x.2.2.1.getD x.1 0) * 6 + z) 0 = y.2.2.2.2.getD ((x.2.2.1.getD x.1 0) * 6 + z) 0) (fun y => 6 - y.1) ((0, x.2.1, x.2.2.1, x.2.2.2.1, x.2.2.2.2.1)) slr ?_ ?_ ?_ ?_
      ·exact ⟨hCD, sq, rfl, hi, fun _ _ _ => rfl⟩
      ·exact slr
      ·exact fun w hw => hw
      ·intro y hg1 _ hK30
       obtain ⟨hD1, sy, hSe, hiq, hag⟩ := hg1
       have hqle2 := hD1.qle T
       have hfl2 := hD1.fll
       have hsh2 := hD1.shl
       refine .sr fun _ hK31 => ?_
       refine .v (.lss rfl rfl) (.nt hK31 ?_)
       refine .seq fun _ hK32 => ?_
       refine AK.condD rfl (fun hc2 => ?_) (fun hc2 => ?_)
       ·have hy6 : y.1 < 6 := by omega
        obtain ⟨r2, hr2, hr2N⟩ := hD1.shB T hiq
        rw [hSe] at hr2
        obtain ⟨fb, hfb⟩ : ∃ fb : Int, fb = (if (x.2.2.1.getD x.1 0) = 0 then 0 else y.2.2.2.2.getD ((y.2.2.2.1.getD (x.2.2.1.getD x.1 0) 0).toNat * 6 + y.1) 0) := ⟨_, rfl⟩
        have hE := hD1.entry T hiq hy6
        rw [hSe] at hE
        refine .skip ?_
        refine AK.then_ (hK32 _ ?_)
        refine .seq fun _ hK33 => ?_
        refine .block ?_
        refine .sr fun _ hK34 => ?_
        refine .mv rfl ?_
        refine AK.val (.int .i32 (y.2.2.2.2.getD ((x.2.2.1.getD x.1 0) * 6 + y.1) 0)) (Yl.idxAgg ar101 (by kernel_rfl) rfl rfl (by omega) (by rw [← hag y.1 (Nat.le_refl _) (by omega)]; exact av6_get (by omega) (by rw [hC.fll]; omega))) trivial rfl ?_
        refine .as rfl (.as rfl (.nt hK34 ?_))
        refine .sr fun _ hK35 => ?_
        refine .as rfl (.nt hK35 ?_)
        refine .seq fun _ hK36 => ?_
        refine .sr fun _ hK37 => ?_
        refine .mv rfl (.v (.neq rfl rfl) (.nt hK37 ?_))
        refine AK.condNe rfl (fun hc3 => ?_) (fun hc3 => ?_)
        ·refine AK.quiet mixed krf ?_
         refine .mv rfl (.v (.nilCheck rfl) (.v (.fieldAddr fd100_0 rfl) (.v (.loadBox on97 rfl bsp rfl) (.mv rfl (.mv rfl ?_)))))
         first | refine .v (.iN sl98 rfl rfl) ?_ | refine .v (.iK sl98 rfl rfl) ?_
         refine QK.val (.int .i32 (r2 : Int)) (Yl.valE (Yl.loadI on21 rfl rdp (by rw [hsh2]; omega)) (congrArg (Value.int .i32) hr2)) trivial rfl ?_
         refine .mv rfl ?_
         first | refine .v (.iN sl97 rfl rfl) ?_ | refine .v (.iK sl97 rfl rfl) ?_
         refine .v (.idxArrR ar101 rfl rfl (by omega)) ?_
         refine QK.val (.int .i32 fb) (Yl.loadAt on21 rfl rdp (by rw [hfb, if_neg (by omega), hr2]; exact at6 (by omega) (by omega))) trivial rfl ?_
         refine .as rfl ?_
         refine QK.nil (QK.fin ?_)
         refine AK.then_ (hK36 _ ?_)
         refine .seq fun _ hK38 => ?_
         refine .sr fun _ hK39 => ?_
         refine .mv rfl (.v (.eql rfl rfl) (.nt hK39 ?_))
         refine AK.condD rfl (fun hc4 => ?_) (fun hc4 => ?_)
         ·have hn1 := hD1.none T hiq hy6 (by rw [hSe]; exact hc4)
          rw [hSe, ← hfb] at hn1
          have hag1 : ∀ z, y.1 + 1 ≤ z → z < 6 → x.2.2.2.2.1.getD ((x.2.2.1.getD x.1 0) * 6 + z) 0 = (y.2.2.2.2.set ((x.2.2.1.getD x.1 0) * 6 + y.1) fb).getD ((x.2.2.1.getD x.1 0) * 6 + z) 0 := fun z hz hz6 => by rw [Go.Sx.getD_set_ne (by omega)]; exact hag z (by omega) hz6
          refine .sr fun _ hK40 => ?_
          refine .mv rfl (.v (.nilCheck rfl) (.v (.fieldAddr fd100_0 rfl) (.v (.loadBox on97 rfl bsp rfl) (.mv rfl (.mv rfl (.mv rfl ?_))))))
          first | refine .v (.iN sl97 rfl rfl) ?_ | refine .v (.iK sl97 rfl rfl) ?_
          refine .v (.idxArrR ar101 rfl rfl (by omega)) ?_
          refine AK.storeAt 1 (cs' := ((y.2.2.2.2.set ((x.2.2.1.getD x.1 0) * 6 + y.1) fb).map (Value.int .i32))) rfl sz21 rfl rfl rfl rfl (by omega) (set_map6 (by omega) (by first | rfl | (rw [hfb, if_pos (by omega)]))) trivial ?_
          refine .nt hK40 (.exit (.then_exit (.block_exit ?_)))
          refine AK.then_ (hK33 _ ?_)
          refine AK.region ?_
          refine .v (.add rfl rfl (by omega)) ?_
          refine .mv rfl (.nil ?_)
          first | refine AK.then_ (hK30 _ _ ((y.1 + 1, y.2.1, y.2.2.1, y.2.2.2.1, y.2.2.2.2.set ((x.2.2.1.getD x.1 0) * 6 + y.1) fb)) ⟨hn1, sy, hSe, hiq, hag1⟩ (by dsimp only; omega) (slr) (fun w hw => hw)) | refine AK.then_ (hK30 _ _ ((y.1 + 1, vq2, y.2.2.1 ++ [t], y.2.2.2.1.set t fb, y.2.2.2.2)) ⟨hn2, svq2, hSe2, hiq2, hag2⟩ (by dsimp only; omega) (slr) (fun w hw => by dsimp only; rw [qz_snoc, List.map_append, List.length_append]; rw [ht] at hw; exact hw))
         ·obtain ⟨t, ht, htN, -⟩ : ∃ t : Nat, y.2.2.2.2.getD ((x.2.2.1.getD x.1 0) * 6 + y.1) 0 = (t : Int) ∧ t < N.length ∧ True := by
           rcases hE with ⟨t, h1, h2, _⟩ | ⟨_, h0⟩
           ·exact ⟨t, h1, h2, trivial⟩
           ·exact absurd h0 hc4
          have hn2 := hD1.some T hiq hy6 (t := t) (by rw [hSe]; exact ht) (fun e => hc4 (by rw [ht, e]; rfl))
          rw [hSe, ← hfb] at hn2
          have hSe2 : (y.2.2.1 ++ [t]).getD x.1 0 = (x.2.2.1.getD x.1 0) := by rw [getD_app_lt hiq]; exact hSe
          have hiq2 : x.1 < (y.2.2.1 ++ [t]).length := by rw [List.length_append]; omega
          have hag2 : ∀ z, y.1 + 1 ≤ z → z < 6 → x.2.2.2.2.1.getD ((x.2.2.1.getD x.1 0) * 6 + z) 0 = y.2.2.2.2.getD ((x.2.2.1.getD x.1 0) * 6 + z) 0 := fun z hz hz6 => hag z (by omega) hz6
          refine .skip ?_
          refine AK.then_ (hK38 _ ?_)
          refine .sr fun _ hK41 => ?_
          refine .mv rfl (.mv rfl (.mv rfl ?_))
          first | refine .v (.iN sl98 rfl rfl) ?_ | refine .v (.iK sl98 rfl rfl) ?_
          refine AK.store1e 3 rfl sz21 rfl rfl rfl rfl (by omega) (cs' := ((y.2.2.2.1.set t fb).map (Value.int .i32))) (by rw [List.map_set, ht]; first | rfl | (rw [hfb, if_pos (by omega)]; rfl)) trivial ?_
          refine .nt hK41 ?_
          refine AK.region ?_
          refine .mv rfl (.mv rfl ?_)
          refine AK.append1 4 rfl sl98 el21 rfl (by decide) rfl (by intro k hk; cases hk; rfl) rfl (by intro u hu; simp [Value.cells] at hu; subst hu; rfl) (by omega) (by omega) (by decide) rfl rfl (fun vq2 _ svq2 => ?_)
          refine .as rfl (.nil (.block_normal ?_))
          refine AK.then_ (hK33 _ ?_)
          refine AK.region ?_
          refine .v (.add rfl rfl (by omega)) ?_
          refine .mv rfl (.nil ?_)
          first | refine AK.then_ (hK30 _ _ ((y.1 + 1, y.2.1, y.2.2.1, y.2.2.2.1, y.2.2.2.2.set ((x.2.2.1.getD x.1 0) * 6 + y.1) fb)) ⟨hn1, sy, hSe, hiq, hag1⟩ (by dsimp only; omega) (slr) (fun w hw => hw)) | refine AK.then_ (hK30 _ _ ((y.1 + 1, vq2, y.2.2.1 ++ [t], y.2.2.2.1.set t fb, y.2.2.2.2)) ⟨hn2, svq2, hSe2, hiq2, hag2⟩ (by dsimp only; omega) (slr) (fun w hw => by dsimp only; rw [qz_snoc, List.map_append, List.length_append]; rw [ht] at hw; exact hw))
        ·refine .skip ?_
         refine AK.then_ (hK36 _ ?_)
         refine .seq fun _ hK42 => ?_
         refine .sr fun _ hK43 => ?_
         refine .mv rfl (.v (.eql rfl rfl) (.nt hK43 ?_))
         refine AK.condD rfl (fun hc4 => ?_) (fun hc4 => ?_)
         ·have hn1 := hD1.none T hiq hy6 (by rw [hSe]; exact hc4)
          rw [hSe, ← hfb] at hn1
          have hag1 : ∀ z, y.1 + 1 ≤ z → z < 6 → x.2.2.2.2.1.getD ((x.2.2.1.getD x.1 0) * 6 + z) 0 = (y.2.2.2.2.set ((x.2.2.1.getD x.1 0) * 6 + y.1) fb).getD ((x.2.2.1.getD x.1 0) * 6 + z) 0 := fun z hz hz6 => by rw [Go.Sx.getD_set_ne (by omega)]; exact hag z (by omega) hz6
          refine .sr fun _ hK44 => ?_
          refine .mv rfl (.v (.nilCheck rfl) (.v (.fieldAddr fd100_0 rfl) (.v (.loadBox on97 rfl bsp rfl) (.mv rfl (.mv rfl (.mv rfl ?_))))))
          first | refine .v (.iN sl97 rfl rfl) ?_ | refine .v (.iK sl97 rfl rfl) ?_
          refine .v (.idxArrR ar101 rfl rfl (by omega)) ?_
          refine AK.storeAt 1 (cs' := ((y.2.2.2.2.set ((x.2.2.1.getD x.1 0) * 6 + y.1) fb).map (Value.int .i32))) rfl sz21 rfl rfl rfl rfl (by omega) (set_map6 (by omega) (by first | rfl | (rw [hfb, if_pos (by omega)]))) trivial ?_
          refine .nt hK44 (.exit (.then_exit (.block_exit ?_)))
          refine AK.then_ (hK33 _ ?_)
          refine AK.region ?_
          refine .v (.add rfl rfl (by omega)) ?_
          refine .mv rfl (.nil ?_)
          first | refine AK.then_ (hK30 _ _ ((y.1 + 1, y.2.1, y.2.2.1, y.2.2.2.1, y.2.2.2.2.set ((x.2.2.1.getD x.1 0) * 6 + y.1) fb)) ⟨hn1, sy, hSe, hiq, hag1⟩ (by dsimp only; omega) (slr) (fun w hw => hw)) | refine AK.then_ (hK30 _ _ ((y.1 + 1, vq2, y.2.2.1 ++ [t], y.2.2.2.1.set t fb, y.2.2.2.2)) ⟨hn2, svq2, hSe2, hiq2, hag2⟩ (by dsimp only; omega) (slr) (fun w hw => by dsimp only; rw [qz_snoc, List.map_append, List.length_append]; rw [ht] at hw; exact hw))
         ·obtain ⟨t, ht, htN, -⟩ : ∃ t : Nat, y.2.2.2.2.getD ((x.2.2.1.getD x.1 0) * 6 + y.1) 0 = (t : Int) ∧ t < N.length ∧ True := by
           rcases hE with ⟨t, h1, h2, _⟩ | ⟨_, h0⟩
           ·exact ⟨t, h1, h2, trivial⟩
           ·exact absurd h0 hc4
          have hn2 := hD1.some T hiq hy6 (t := t) (by rw [hSe]; exact ht) (fun e => hc4 (by rw [ht, e]; rfl))
          rw [hSe, ← hfb] at hn2
          have hSe2 : (y.2.2.1 ++ [t]).getD x.1 0 = (x.2.2.1.getD x.1 0) := by rw [getD_app_lt hiq]; exact hSe
          have hiq2 : x.1 < (y.2.2.1 ++ [t]).length := by rw [List.length_append]; omega
          have hag2 : ∀ z, y.1 + 1 ≤ z → z < 6 → x.2.2.2.2.1.getD ((x.2.2.1.getD x.1 0) * 6 + z) 0 = y.2.2.2.2.getD ((x.2.2.1.getD x.1 0) * 6 + z) 0 := fun z hz hz6 => hag z (by omega) hz6
          refine .skip ?_
          refine AK.then_ (hK42 _ ?_)
          refine .sr fun _ hK45 => ?_
          refine .mv rfl (.mv rfl (.mv rfl ?_))
          first | refine .v (.iN sl98 rfl rfl) ?_ | refine .v (.iK sl98 rfl rfl) ?_
          refine AK.store1e 3 rfl sz21 rfl rfl rfl rfl (by omega) (cs' := ((y.2.2.2.1.set t fb).map (Value.int .i32))) (by rw [List.map_set, ht]; first | rfl | (rw [hfb, if_pos (by omega)]; rfl)) trivial ?_
          refine .nt hK45 ?_
          refine AK.region ?_
          refine .mv rfl (.mv rfl ?_)
          refine AK.append1 4 rfl sl98 el21 rfl (by decide) rfl (by intro k hk; cases hk; rfl) rfl (by intro u hu; simp [Value.cells] at hu; subst hu; rfl) (by omega) (by omega) (by decide) rfl rfl (fun vq2 _ svq2 => ?_)
          refine .as rfl (.nil (.block_normal ?_))
          refine AK.then_ (hK33 _ ?_)
          refine AK.region ?_
          refine .v (.add rfl rfl (by omega)) ?_
          refine .mv rfl (.nil ?_)
          first | refine AK.then_ (hK30 _ _ ((y.1 + 1, y.2.1, y.2.2.1, y.2.2.2.1, y.2.2.2.2.set ((x.2.2.1.getD x.1 0) * 6 + y.1) fb)) ⟨hn1, sy, hSe, hiq, hag1⟩ (by dsimp only; omega) (slr) (fun w hw => hw)) | refine AK.then_ (hK30 _ _ ((y.1 + 1, vq2, y.2.2.1 ++ [t], y.2.2.2.1.set t fb, y.2.2.2.2)) ⟨hn2, svq2, hSe2, hiq2, hag2⟩ (by dsimp only; omega) (slr) (fun w hw => by dsimp only; rw [qz_snoc, List.map_append, List.length_append]; rw [ht] at hw; exact hw))
       ·refine .exit (.then_exit (.then_exit (.block_exit (.block_normal ?_))))
        refine AK.then_ (hK7 _ ?_)
        refine AK.region ?_
        refine .mv rfl ?_
        refine .v (.add rfl rfl (by omega)) ?_
        refine .as rfl (.nil ?_)
        refine AK.then_ (hK4 _ _ ((x.1 + 1, y.2.1, y.2.2.1, y.2.2.2.1, y.2.2.2.2, D)) ⟨Cmp.next T (by have hh := hD1; rw [show y.1 = 6 by have := hD1.x6; omega] at hh; exact hh), sy⟩ (by dsimp only; omega) (slr) (fun w hw => hw))
     ·rw [if_neg (by first | omega | simpa using hc1)] at hCf
      obtain ⟨D, hD⟩ : ∃ D : List Int, D = x.2.2.2.2.2 := ⟨_, rfl⟩
      have hCD := hCf
      rw [← hD] at hCD
      rw [← hD]
      refine .skip ?_
      refine AK.then_ (hK9 _ ?_)
      refine .sr fun _ hK46 => ?_
      refine .mv rfl (.v (.nilCheck rfl) (.v (.fieldAddr fd100_0 rfl) (.v (.loadBox on97 rfl bsp rfl) (.mv rfl ?_))))
      first | refine .v (.iN sl97 rfl rfl) ?_ | refine .v (.iK sl97 rfl rfl) ?_
      refine AK.val (av6 x.2.2.2.2.1 (x.2.2.1.getD x.1 0)) (Yl.loadG ag101 rfl rdp (by omega)) trivial rfl ?_
      refine .mv rfl (.nt hK46 (.block ?_))
      refine AK.loopK (X := Nat × Value × List Nat × List Int × List Int) [(0, _), (2, _), (4, _), (5, _), (73, _)] (fun y => [(3, y.2.1), (74, .int .i64 (y.1 : Int))]) (fun y => [box bf 100 2 [vn, vf], row vn 101 6 N.length (y.2.2.2.2.map (Value.int .i32)), row vf 21 1 N.length (D.map (Value.int .i32)), row mv 21 1 N.length (y.2.2.2.1.map (Value.int .i32)), row y.2.1 21 1 y.2.2.1.length ((qz y.2.2.1).map (Value.int .i32))]) (fun y => Cmp ps N f0 d0 x.1 y.1 (x.1 + 1) y.2.2.1 y.2.2.2.1 y.2.2.2.2 D ∧ IsSl y.2.1 ∧ y.2.2.1.getD x.1 0 = (x.2.2.1.getD x.1 0) ∧ x.1 < y.2.2.1.length ∧ ∀ z, y.1 ≤ z → z < 6 → x.2.2.2.2.1.getD ((x.2.2.1.getD x.1 0) * 6 + z) 0 = y.2.2.2.2.getD ((x.2.2.1.getD x.1 0) * 6 + z) 0) (fun y => 6 - y.1) ((0, x.2.1, x.2.2.1, x.2.2.2.1, x.2.2.2.2.1)) slr ?_ ?_ ?_ ?_
      ·exact ⟨hCD, sq, rfl, hi, fun _ _ _ => rfl⟩
      ·exact slr
      ·exact fun w hw => hw
      ·intro y hg1 _ hK47
       obtain ⟨hD1, sy, hSe, hiq, hag⟩ := hg1
       have hqle2 := hD1.qle T
       have hfl2 := hD1.fll
       have hsh2 := hD1.shl
       refine .sr fun _ hK48 => ?_
       refine .v (.lss rfl rfl) (.nt hK48 ?_)
       refine .seq fun _ hK49 => ?_
       refine AK.condD rfl (fun hc2 => ?_) (fun hc2 => ?_)
       ·have hy6 : y.1 < 6 := by omega
        obtain ⟨r2, hr2, hr2N⟩ := hD1.shB T hiq
        rw [hSe] at hr2
        obtain ⟨fb, hfb⟩ : ∃ fb : Int, fb = (if (x.2.2.1.getD x.1 0) = 0 then 0 else y.2.2.2.2.getD ((y.2.2.2.1.getD (x.2.2.1.getD x.1 0) 0).toNat * 6 + y.1) 0) := ⟨_, rfl⟩
        have hE := hD1.entry T hiq hy6
        rw [hSe] at hE
        refine .skip ?_
        refine AK.then_ (hK49 _ ?_)
        refine .seq fun _ hK50 => ?_
        refine .block ?_
        refine .sr fun _ hK51 => ?_
        refine .mv rfl ?_
        refine AK.val (.int .i32 (y.2.2.2.2.getD ((x.2.2.1.getD x.1 0) * 6 + y.1) 0)) (Yl.idxAgg ar101 (by kernel_rfl) rfl rfl (by omega) (by rw [← hag y.1 (Nat.le_refl _) (by omega)]; exact av6_get (by omega) (by rw [hC.fll]; omega))) trivial rfl ?_
        refine .as rfl (.as rfl (.nt hK51 ?_))
        refine .sr fun _ hK52 => ?_
        refine .as rfl (.nt hK52 ?_)
        refine .seq fun _ hK53 => ?_
        refine .sr fun _ hK54 => ?_
        refine .mv rfl (.v (.neq rfl rfl) (.nt hK54 ?_))
        refine AK.condNe rfl (fun hc3 => ?_) (fun hc3 => ?_)
        ·refine AK.quiet mixed krf ?_
         refine .mv rfl (.v (.nilCheck rfl) (.v (.fieldAddr fd100_0 rfl) (.v (.loadBox on97 rfl bsp rfl) (.mv rfl (.mv rfl ?_)))))
         first | refine .v (.iN sl98 rfl rfl) ?_ | refine .v (.iK sl98 rfl rfl) ?_
         refine QK.val (.int .i32 (r2 : Int)) (Yl.valE (Yl.loadI on21 rfl rdp (by rw [hsh2]; omega)) (congrArg (Value.int .i32) hr2)) trivial rfl ?_
         refine .mv rfl ?_
         first | refine .v (.iN sl97 rfl rfl) ?_ | refine .v (.iK sl97 rfl rfl) ?_
         refine .v (.idxArrR ar101 rfl rfl (by omega)) ?_
         refine QK.val (.int .i32 fb) (Yl.loadAt on21 rfl rdp (by rw [hfb, if_neg (by omega), hr2]; exact at6 (by omega) (by omega))) trivial rfl ?_
         refine .as rfl ?_
         refine QK.nil (QK.fin ?_)
         refine AK.then_ (hK53 _ ?_)
         refine .seq fun _ hK55 => ?_
         refine .sr fun _ hK56 => ?_
         refine .mv rfl (.v (.eql rfl rfl) (.nt hK56 ?_))
         refine AK.condD rfl (fun hc4 => ?_) (fun hc4 => ?_)
         ·have hn1 := hD1.none T hiq hy6 (by rw [hSe]; exact hc4)
          rw [hSe, ← hfb] at hn1
          have hag1 : ∀ z, y.1 + 1 ≤ z → z < 6 → x.2.2.2.2.1.getD ((x.2.2.1.getD x.1 0) * 6 + z) 0 = (y.2.2.2.2.set ((x.2.2.1.getD x.1 0) * 6 + y.1) fb).getD ((x.2.2.1.getD x.1 0) * 6 + z) 0 := fun z hz hz6 => by rw [Go.Sx.getD_set_ne (by omega)]; exact hag z (by omega) hz6
          refine .sr fun _ hK57 => ?_
          refine .mv rfl (.v (.nilCheck rfl) (.v (.fieldAddr fd100_0 rfl) (.v (.loadBox on97 rfl bsp rfl) (.mv rfl (.mv rfl (.mv rfl ?_))))))
          first | refine .v (.iN sl97 rfl rfl) ?_ | refine .v (.iK sl97 rfl rfl) ?_
          refine .v (.idxArrR ar101 rfl rfl (by omega)) ?_
          refine AK.storeAt 1 (cs' := ((y.2.2.2.2.set ((x.2.2.1.getD x.1 0) * 6 + y.1) fb).map (Value.int .i32))) rfl sz21 rfl rfl rfl rfl (by omega) (set_map6 (by omega) (by first | rfl | (rw [hfb, if_pos (by omega)]))) trivial ?_
          refine .nt hK57 (.exit (.then_exit (.block_exit ?_)))
          refine AK.then_ (hK50 _ ?_)
          refine AK.region ?_
          refine .v (.add rfl rfl (by omega)) ?_
          refine .mv rfl (.nil ?_)
          first | refine AK.then_ (hK47 _ _ ((y.1 + 1, y.2.1, y.2.2.1, y.2.2.2.1, y.2.2.2.2.set ((x.2.2.1.getD x.1 0) * 6 + y.1) fb)) ⟨hn1, sy, hSe, hiq, hag1⟩ (by dsimp only; omega) (slr) (fun w hw => hw)) | refine AK.then_ (hK47 _ _ ((y.1 + 1, vq2, y.2.2.1 ++ [t], y.2.2.2.1.set t fb, y.2.2.2.2)) ⟨hn2, svq2, hSe2, hiq2, hag2⟩ (by dsimp only; omega) (slr) (fun w hw => by dsimp only; rw [qz_snoc, List.map_append, List.length_append]; rw [ht] at hw; exact hw))
         ·obtain ⟨t, ht, htN, -⟩ : ∃ t : Nat, y.2.2.2.2.getD ((x.2.2.1.getD x.1 0) * 6 + y.1) 0 = (t : Int) ∧ t < N.length ∧ True := by
           rcases hE with ⟨t, h1, h2, _⟩ | ⟨_, h0⟩
           ·exact ⟨t, h1, h2, trivial⟩
           ·exact absurd h0 hc4
          have hn2 := hD1.some T hiq hy6 (t := t) (by rw [hSe]; exact ht) (fun e => hc4 (by rw [ht, e]; rfl))
          rw [hSe, ← hfb] at hn2
          have hSe2 : (y.2.2.1 ++ [t]).getD x.1 0 = (x.2.2.1.getD x.1 0) := by rw [getD_app_lt hiq]; exact hSe
          have hiq2 : x.1 < (y.2.2.1 ++ [t]).length := by rw [List.length_append]; omega
          have hag2 : ∀ z, y.1 + 1 ≤ z → z < 6 → x.2.2.2.2.1.getD ((x.2.2.1.getD x.1 0) * 6 + z) 0 = y.2.2.2.2.getD ((x.2.2.1.getD x.1 0) * 6 + z) 0 := fun z hz hz6 => hag z (by omega) hz6
          refine .skip ?_
          refine AK.then_ (hK55 _ ?_)
          refine .sr fun _ hK58 => ?_
          refine .mv rfl (.mv rfl (.mv rfl ?_))
          first | refine .v (.iN sl98 rfl rfl) ?_ | refine .v (.iK sl98 rfl rfl) ?_
          refine AK.store1e 3 rfl sz21 rfl rfl rfl rfl (by omega) (cs' := ((y.2.2.2.1.set t fb).map (Value.int .i32))) (by rw [List.map_set, ht]; first | rfl | (rw [hfb, if_pos (by omega)]; rfl)) trivial ?_
          refine .nt hK58 ?_
          refine AK.region ?_
          refine .mv rfl (.mv rfl ?_)
          refine AK.append1 4 rfl sl98 el21 rfl (by decide) rfl (by intro k hk; cases hk; rfl) rfl (by intro u hu; simp [Value.cells] at hu; subst hu; rfl) (by omega) (by omega) (by decide) rfl rfl (fun vq2 _ svq2 => ?_)
          refine .as rfl (.nil (.block_normal ?_))
          refine AK.then_ (hK50 _ ?_)
          refine AK.region ?_
          refine .v (.add rfl rfl (by omega)) ?_
          refine .mv rfl (.nil ?_)
          first | refine AK.then_ (hK47 _ _ ((y.1 + 1, y.2.1, y.2.2.1, y.2.2.2.1, y.2.2.2.2.set ((x.2.2.1.getD x.1 0) * 6 + y.1) fb)) ⟨hn1, sy, hSe, hiq, hag1⟩ (by dsimp only; omega) (slr) (fun w hw => hw)) | refine AK.then_ (hK47 _ _ ((y.1 + 1, vq2, y.2.2.1 ++ [t], y.2.2.2.1.set t fb, y.2.2.2.2)) ⟨hn2, svq2, hSe2, hiq2, hag2⟩ (by dsimp only; omega) (slr) (fun w hw => by dsimp only; rw [qz_snoc, List.map_append, List.length_append]; rw [ht] at hw; exact hw))
        ·refine .skip ?_
         refine AK.then_ (hK53 _ ?_)
         refine .seq fun _ hK59 => ?_
         refine .sr fun _ hK60 => ?_
         refine .mv rfl (.v (.eql rfl rfl) (.nt hK60 ?_))
         refine AK.condD rfl (fun hc4 => ?_) (fun hc4 => ?_)
         ·have hn1 := hD1.none T hiq hy6 (by rw [hSe]; exact hc4)
          rw [hSe, ← hfb] at hn1
          have hag1 : ∀ z, y.1 + 1 ≤ z → z < 6 → x.2.2.2.2.1.getD ((x.2.2.1.getD x.1 0) * 6 + z) 0 = (y.2.2.2.2.set ((x.2.2.1.getD x.1 0) * 6 + y.1) fb).getD ((x.2.2.1.getD x.1 0) * 6 + z) 0 := fun z hz hz6 => by rw [Go.Sx.getD_set_ne (by omega)]; exact hag z (by omega) hz6
          refine .sr fun _ hK61 => ?_
          refine .mv rfl (.v (.nilCheck rfl) (.v (.fieldAddr fd100_0 rfl) (.v (.loadBox on97 rfl bsp rfl) (.mv rfl (.mv rfl (.mv rfl ?_))))))
          first | refine .v (.iN sl97 rfl rfl) ?_ | refine .v (.iK sl97 rfl rfl) ?_
          refine .v (.idxArrR ar101 rfl rfl (by omega)) ?_
          refine AK.storeAt 1 (cs' := ((y.2.2.2.2.set ((x.2.2.1.getD x.1 0) * 6 + y.1) fb).map (Value.int .i32))) rfl sz21 rfl rfl rfl rfl (by omega) (set_map6 (by omega) (by first | rfl | (rw [hfb, if_pos (by omega)]))) trivial ?_
          refine .nt hK61 (.exit (.then_exit (.block_exit ?_)))
          refine AK.then_ (hK50 _ ?_)
          refine AK.region ?_
          refine .v (.add rfl rfl (by omega)) ?_
          refine .mv rfl (.nil ?_)
          first | refine AK.then_ (hK47 _ _ ((y.1 + 1, y.2.1, y.2.2.1, y.2.2.2.1, y.2.2.2.2.set ((x.2.2.1.getD x.1 0) * 6 + y.1) fb)) ⟨hn1, sy, hSe, hiq, hag1⟩ (by dsimp only; omega) (slr) (fun w hw => hw)) | refine AK.then_ (hK47 _ _ ((y.1 + 1, vq2, y.2.2.1 ++ [t], y.2.2.2.1.set t fb, y.2.2.2.2)) ⟨hn2, svq2, hSe2, hiq2, hag2⟩ (by dsimp only; omega) (slr) (fun w hw => by dsimp only; rw [qz_snoc, List.map_append, List.length_append]; rw [ht] at hw; exact hw))
         ·obtain ⟨t, ht, htN, -⟩ : ∃ t : Nat, y.2.2.2.2.getD ((x.2.2.1.getD x.1 0) * 6 + y.1) 0 = (t : Int) ∧ t < N.length ∧ True := by
           rcases hE with ⟨t, h1, h2, _⟩ | ⟨_, h0⟩
           ·exact ⟨t, h1, h2, trivial⟩
           ·exact absurd h0 hc4
          have hn2 := hD1.some T hiq hy6 (t := t) (by rw [hSe]; exact ht) (fun e => hc4 (by rw [ht, e]; rfl))
          rw [hSe, ← hfb] at hn2
          have hSe2 : (y.2.2.1 ++ [t]).getD x.1 0 = (x.2.2.1.getD x.1 0) := by rw [getD_app_lt hiq]; exact hSe
          have hiq2 : x.1 < (y.2.2.1 ++ [t]).length := by rw [List.length_append]; omega
          have hag2 : ∀ z, y.1 + 1 ≤ z → z < 6 → x.2.2.2.2.1.getD ((x.2.2.1.getD x.1 0) * 6 + z) 0 = y.2.2.2.2.getD ((x.2.2.1.getD x.1 0) * 6 + z) 0 := fun z hz hz6 => hag z (by omega) hz6
          refine .skip ?_
          refine AK.then_ (hK59 _ ?_)
          refine .sr fun _ hK62 => ?_
          refine .mv rfl (.mv rfl (.mv rfl ?_))
          first | refine .v (.iN sl98 rfl rfl) ?_ | refine .v (.iK sl98 rfl rfl) ?_
          refine AK.store1e 3 rfl sz21 rfl rfl rfl rfl (by omega) (cs' := ((y.2.2.2.1.set t fb).map (Value.int .i32))) (by rw [List.map_set, ht]; first | rfl | (rw [hfb, if_pos (by omega)]; rfl)) trivial ?_
          refine .nt hK62 ?_
          refine AK.region ?_
          refine .mv rfl (.mv rfl ?_)
          refine AK.append1 4 rfl sl98 el21 rfl (by decide) rfl (by intro k hk; cases hk; rfl) rfl (by intro u hu; simp [Value.cells] at hu; subst hu; rfl) (by omega) (by omega) (by decide) rfl rfl (fun vq2 _ svq2 => ?_)
          refine .as rfl (.nil (.block_normal ?_))
          refine AK.then_ (hK50 _ ?_)
          refine AK.region ?_
          refine .v (.add rfl rfl (by omega)) ?_
          refine .mv rfl (.nil ?_)
          first | refine AK.then_ (hK47 _ _ ((y.1 + 1, y.2.1, y.2.2.1, y.2.2.2.1, y.2.2.2.2.set ((x.2.2.1.getD x.1 0) * 6 + y.1) fb)) ⟨hn1, sy, hSe, hiq, hag1⟩ (by dsimp only; omega) (slr) (fun w hw => hw)) | refine AK.then_ (hK47 _ _ ((y.1 + 1, vq2, y.2.2.1 ++ [t], y.2.2.2.1.set t fb, y.2.2.2.2)) ⟨hn2, svq2, hSe2, hiq2, hag2⟩ (by dsimp only; omega) (slr) (fun w hw => by dsimp only; rw [qz_snoc, List.map_append, List.length_append]; rw [ht] at hw; exact hw))
       ·refine .exit (.then_exit (.then_exit (.block_exit (.block_normal ?_))))
        refine AK.then_ (hK7 _ ?_)
        refine AK.region ?_
        refine .mv rfl ?_
        refine .v (.add rfl rfl (by omega)) ?_
        refine .as rfl (.nil ?_)
        refine AK.then_ (hK4 _ _ ((x.1 + 1, y.2.1, y.2.2.1, y.2.2.2.1, y.2.2.2.2, D)) ⟨Cmp.next T (by have hh := hD1; rw [show y.1 = 6 by have := hD1.x6; omega] at hh; exact hh), sy⟩ (by dsimp only; omega) (slr) (fun w hw => hw))
   ·have hg_7_2' := hg_7_2
    try simp only [bs] at hg_7_2'
    refine AK.pass rfl rfl (hg_7_2) rfl ?_
    refine AK.pass rfl rfl (hg_7_2) rfl ?_
    refine AK.pass rfl rfl (hg_7_2) rfl ?_
    refine AK.pass rfl rfl (hg_7_2) rfl ?_
    refine AK.pass rfl rfl (hg_7_2) rfl ?_
    refine AK.pass rfl rfl (hg_7_2) rfl ?_
    refine AK.pass rfl rfl (hg_7_2) rfl ?_
    refine AK.pass rfl rfl (hg_7_2) rfl ?_
    refine AK.pass rfl rfl (hg_7_2) rfl ?_
    refine AK.pass rfl rfl trivial rfl ?_
    refine AK.pass rfl rfl trivial rfl ?_
    refine AK.pass rfl rfl trivial rfl ?_
    refine AK.pass rfl rfl trivial rfl ?_
    refine AK.pass rfl rfl trivial rfl ?_
    refine AK.pass rfl rfl trivial rfl ?_
    refine AK.pass rfl rfl trivial rfl ?_
    refine AK.pass rfl rfl trivial rfl ?_
    refine AK.pass rfl rfl trivial rfl ?_
    refine AK.pass rfl rfl (hg_7_2) rfl ?_
    refine .v (.pickF rfl (hg_7_2) rfl) (.nt hK11 ?_)
    refine AK.cond_f rfl (rfl) ?_
    rw [if_neg (by first | omega | simpa using hc1)] at hCf
    obtain ⟨D, hD⟩ : ∃ D : List Int, D = x.2.2.2.2.2 := ⟨_, rfl⟩
    have hCD := hCf
    rw [← hD] at hCD
    rw [← hD]
    refine .skip ?_
    refine AK.then_ (hK9 _ ?_)
    refine .sr fun _ hK63 => ?_
    refine .mv rfl (.v (.nilCheck rfl) (.v (.fieldAddr fd100_0 rfl) (.v (.loadBox on97 rfl bsp rfl) (.mv rfl ?_))))
    first | refine .v (.iN sl97 rfl rfl) ?_ | refine .v (.iK sl97 rfl rfl) ?_
    refine AK.val (av6 x.2.2.2.2.1 (x.2.2.1.getD x.1 0)) (Yl.loadG ag101 rfl rdp (by omega)) trivial rfl ?_
    refine .mv rfl (.nt hK63 (.block ?_))
    refine AK.loopK (X := Nat × Value × List Nat × List Int × List Int) [(0, _), (2, _), (4, _), (5, _), (73, _)] (fun y => [(3, y.2.1), (74, .int .i64 (y.1 : Int))]) (fun y => [box bf 100 2 [vn, vf], row vn 101 6 N.length (y.2.2.2.2.map (Value.int .i32)), row vf 21 1 N.length (D.map (Value.int .i32)), row mv 21 1 N.length (y.2.2.2.1.map (Value.int .i32)), row y.2.1 21 1 y.2.2.1.length ((qz y.2.2.1).map (Value.int .i32))]) (fun y => Cmp ps N f0 d0 x.1 y.1 (x.1 + 1) y.2.2.1 y.2.2.2.1 y.2.2.2.2 D ∧ IsSl y.2.1 ∧ y.2.2.1.getD x.1 0 = (x.2.2.1.getD x.1 0) ∧ x.1 < y.2.2.1.length ∧ ∀ z, y.1 ≤ z → z < 6 → x.2.2.2.2.1.getD ((x.2.2.1.getD x.1 0) * 6 + z) 0 = y.2.2.2.2.getD ((x.2.2.1.getD x.1 0) * 6 + z) 0) (fun y => 6 - y.1) ((0, x.2.1, x.2.2.1, x.2.2.2.1, x.2.2.2.2.1)) slr ?_ ?_ ?_ ?_
    ·exact ⟨hCD, sq, rfl, hi, fun _ _ _ => rfl⟩
    ·exact slr
    ·exact fun w hw => hw
    ·intro y hg1 _ hK64
     obtain ⟨hD1, sy, hSe, hiq, hag⟩ := hg1
     have hqle2 := hD1.qle T
     have hfl2 := hD1.fll
     have hsh2 := hD1.shl
     refine .sr fun _ hK65 => ?_
     refine .v (.lss rfl rfl) (.nt hK65 ?_)
     refine .seq fun _ hK66 => ?_
     refine AK.condD rfl (fun hc2 => ?_) (fun hc2 => ?_)
     ·have hy6 : y.1 < 6 := by omega
      obtain ⟨r2, hr2, hr2N⟩ := hD1.shB T hiq
      rw [hSe] at hr2
      obtain ⟨fb, hfb⟩ : ∃ fb : Int, fb = (if (x.2.2.1.getD x.1 0) = 0 then 0 else y.2.2.2.2.getD ((y.2.2.2.1.getD (x.2.2.1.getD x.1 0) 0).toNat * 6 + y.1) 0) := ⟨_, rfl⟩
      have hE := hD1.entry T hiq hy6
      rw [hSe] at hE
      refine .skip ?_
      refine AK.then_ (hK66 _ ?_)
      refine .seq fun _ hK67 => ?_
      refine .block ?_
      refine .sr fun _ hK68 => ?_
      refine .mv rfl ?_
      refine AK.val (.int .i32 (y.2.2.2.2.getD ((x.2.2.1.getD x.1 0) * 6 + y.1) 0)) (Yl.idxAgg ar101 (by kernel_rfl) rfl rfl (by omega) (by rw [← hag y.1 (Nat.le_refl _) (by omega)]; exact av6_get (by omega) (by rw [hC.fll]; omega))) trivial rfl ?_
      refine .as rfl (.as rfl (.nt hK68 ?_))
      refine .sr fun _ hK69 => ?_
      refine .as rfl (.nt hK69 ?_)
      refine .seq fun _ hK70 => ?_
      refine .sr fun _ hK71 => ?_
      refine .mv rfl (.v (.neq rfl rfl) (.nt hK71 ?_))
      refine AK.condNe rfl (fun hc3 => ?_) (fun hc3 => ?_)
      ·refine AK.quiet mixed krf ?_
       refine .mv rfl (.v (.nilCheck rfl) (.v (.fieldAddr fd100_0 rfl) (.v (.loadBox on97 rfl bsp rfl) (.mv rfl (.mv rfl ?_)))))
       first | refine .v (.iN sl98 rfl rfl) ?_ | refine .v (.iK sl98 rfl rfl) ?_
       refine QK.val (.int .i32 (r2 : Int)) (Yl.valE (Yl.loadI on21 rfl rdp (by rw [hsh2]; omega)) (congrArg (Value.int .i32) hr2)) trivial rfl ?_
       refine .mv rfl ?_
       first | refine .v (.iN sl97 rfl rfl) ?_ | refine .v (.iK sl97 rfl rfl) ?_
       refine .v (.idxArrR ar101 rfl rfl (by omega)) ?_
       refine QK.val (.int .i32 fb) (Yl.loadAt on21 rfl rdp (by rw [hfb, if_neg (by omega), hr2]; exact at6 (by omega) (by omega))) trivial rfl ?_
       refine .as rfl ?_
       refine QK.nil (QK.fin ?_)
       refine AK.then_ (hK70 _ ?_)
       refine .seq fun _ hK72 => ?_
       refine .sr fun _ hK73 => ?_
       refine .mv rfl (.v (.eql rfl rfl) (.nt hK73 ?_))
       refine AK.condD rfl (fun hc4 => ?_) (fun hc4 => ?_)
       ·have hn1 := hD1.none T hiq hy6 (by rw [hSe]; exact hc4)
        rw [hSe, ← hfb] at hn1
        have hag1 : ∀ z, y.1 + 1 ≤ z → z < 6 → x.2.2.2.2.1.getD ((x.2.2.1.getD x.1 0) * 6 + z) 0 = (y.2.2.2.2.set ((x.2.2.1.getD x.1 0) * 6 + y.1) fb).getD ((x.2.2.1.getD x.1 0) * 6 + z) 0 := fun z hz hz6 => by rw [Go.Sx.getD_set_ne (by omega)]; exact hag z (by omega) hz6
        refine .sr fun _ hK74 => ?_
        refine .mv rfl (.v (.nilCheck rfl) (.v (.fieldAddr fd100_0 rfl) (.v (.loadBox on97 rfl bsp rfl) (.mv rfl (.mv rfl (.mv rfl ?_))))))
        first | refine .v (.iN sl97 rfl rfl) ?_ | refine .v (.iK sl97 rfl rfl) ?_
        refine .v (.idxArrR ar101 rfl rfl (by omega)) ?_
        refine AK.storeAt 1 (cs' := ((y.2.2.2.2.set ((x.2.2.1.getD x.1 0) * 6 + y.1) fb).map (Value.int .i32))) rfl sz21 rfl rfl rfl rfl (by omega) (set_map6 (by omega) (by first | rfl | (rw [hfb, if_pos (by omega)]))) trivial ?_
        refine .nt hK74 (.exit (.then_exit (.block_exit ?_)))
        refine AK.then_ (hK67 _ ?_)
        refine AK.region ?_
        refine .v (.add rfl rfl (by omega)) ?_
        refine .mv rfl (.nil ?_)
        first | refine AK.then_ (hK64 _ _ ((y.1 + 1, y.2.1, y.2.2.1, y.2.2.2.1, y.2.2.2.2.set ((x.2.2.1.getD x.1 0) * 6 + y.1) fb)) ⟨hn1, sy, hSe, hiq, hag1⟩ (by dsimp only; omega) (slr) (fun w hw => hw)) | refine AK.then_ (hK64 _ _ ((y.1 + 1, vq2, y.2.2.1 ++ [t], y.2.2.2.1.set t fb, y.2.2.2.2)) ⟨hn2, svq2, hSe2, hiq2, hag2⟩ (by dsimp only; omega) (slr) (fun w hw => by dsimp only; rw [qz_snoc, List.map_append, List.length_append]; rw [ht] at hw; exact hw))
       ·obtain ⟨t, ht, htN, -⟩ : ∃ t : Nat, y.2.2.2.2.getD ((x.2.2.1.getD x.1 0) * 6 + y.1) 0 = (t : Int) ∧ t < N.length ∧ True := by
         rcases hE with ⟨t, h1, h2, _⟩ | ⟨_, h0⟩
         ·exact ⟨t, h1, h2, trivial⟩
         ·exact absurd h0 hc4
        have hn2 := hD1.some T hiq hy6 (t := t) (by rw [hSe]; exact ht) (fun e => hc4 (by rw [ht, e]; rfl))
        rw [hSe, ← hfb] at hn2
        have hSe2 : (y.2.2.1 ++ [t]).getD x.1 0 = (x.2.2.1.getD x.1 0) := by rw [getD_app_lt hiq]; exact hSe
        have hiq2 : x.1 < (y.2.2.1 ++ [t]).length := by rw [List.length_append]; omega
        have hag2 : ∀ z, y.1 + 1 ≤ z → z < 6 → x.2.2.2.2.1.getD ((x.2.2.1.getD x.1 0) * 6 + z) 0 = y.2.2.2.2.getD ((x.2.2.1.getD x.1 0) * 6 + z) 0 := fun z hz hz6 => hag z (by omega) hz6
        refine .skip ?_
        refine AK.then_ (hK72 _ ?_)
        refine .sr fun _ hK75 => ?_
        refine .mv rfl (.mv rfl (.mv rfl ?_))
        first | refine .v (.iN sl98 rfl rfl) ?_ | refine .v (.iK sl98 rfl rfl) ?_
        refine AK.store1e 3 rfl sz21 rfl rfl rfl rfl (by omega) (cs' := ((y.2.2.2.1.set t fb).map (Value.int .i32))) (by rw [List.map_set, ht]; first | rfl | (rw [hfb, if_pos (by omega)]; rfl)) trivial ?_
        refine .nt hK75 ?_
        refine AK.region ?_
        refine .mv rfl (.mv rfl ?_)
        refine AK.append1 4 rfl sl98 el21 rfl (by decide) rfl (by intro k hk; cases hk; rfl) rfl (by intro u hu; simp [Value.cells] at hu; subst hu; rfl) (by omega) (by omega) (by decide) rfl rfl (fun vq2 _ svq2 => ?_)
        refine .as rfl (.nil (.block_normal ?_))
        refine AK.then_ (hK67 _ ?_)
        refine AK.region ?_
        refine .v (.add rfl rfl (by omega)) ?_
        refine .mv rfl (.nil ?_)
        first | refine AK.then_ (hK64 _ _ ((y.1 + 1, y.2.1, y.2.2.1, y.2.2.2.1, y.2.2.2.2.set ((x.2.2.1.getD x.1 0) * 6 + y.1) fb)) ⟨hn1, sy, hSe, hiq, hag1⟩ (by dsimp only; omega) (slr) (fun w hw => hw)) | refine AK.then_ (hK64 _ _ ((y.1 + 1, vq2, y.2.2.1 ++ [t], y.2.2.2.1.set t fb, y.2.2.2.2)) ⟨hn2, svq2, hSe2, hiq2, hag2⟩ (by dsimp only; omega) (slr) (fun w hw => by dsimp only; rw [qz_snoc, List.map_append, List.length_append]; rw [ht] at hw; exact hw))
      ·refine .skip ?_
       refine AK.then_ (hK70 _ ?_)
       refine .seq fun _ hK76 => ?_
       refine .sr fun _ hK77 => ?_
       refine .mv rfl (.v (.eql rfl rfl) (.nt hK77 ?_))
       refine AK.condD rfl (fun hc4 => ?_) (fun hc4 => ?_)
       ·have hn1 := hD1.none T hiq hy6 (by rw [hSe]; exact hc4)
        rw [hSe, ← hfb] at hn1
        have hag1 : ∀ z, y.1 + 1 ≤ z → z < 6 → x.2.2.2.2.1.getD ((x.2.2.1.getD x.1 0) * 6 + z) 0 = (y.2.2.2.2.set ((x.2.2.1.getD x.1 0) * 6 + y.1) fb).getD ((x.2.2.1.getD x.1 0) * 6 + z) 0 := fun z hz hz6 => by rw [Go.Sx.getD_set_ne (by omega)]; exact hag z (by omega) hz6
        refine .sr fun _ hK78 => ?_
        refine .mv rfl (.v (.nilCheck rfl) (.v (.fieldAddr fd100_0 rfl) (.v (.loadBox on97 rfl bsp rfl) (.mv rfl (.mv rfl (.mv rfl ?_))))))
        first | refine .v (.iN sl97 rfl rfl) ?_ | refine .v (.iK sl97 rfl rfl) ?_
        refine .v (.idxArrR ar101 rfl rfl (by omega)) ?_
        refine AK.storeAt 1 (cs' := ((y.2.2.2.2.set ((x.2.2.1.getD x.1 0) * 6 + y.1) fb).map (Value.int .i32))) rfl sz21 rfl rfl rfl rfl (by omega) (set_map6 (by omega) (by first | rfl | (rw [hfb, if_pos (by omega)]))) trivial ?_
        refine .nt hK78 (.exit (.then_exit (.block_exit ?_)))
        refine AK.then_ (hK67 _ ?_)
        refine AK.region ?_
        refine .v (.add rfl rfl (by omega)) ?_
        refine .mv rfl (.nil ?_)
        first | refine AK.then_ (hK64 _ _ ((y.1 + 1, y.2.1, y.2.2.1, y.2.2.2.1, y.2.2.2.2.set ((x.2.2.1.getD x.1 0) * 6 + y.1) fb)) ⟨hn1, sy, hSe, hiq, hag1⟩ (by dsimp only; omega) (slr) (fun w hw => hw)) | refine AK.then_ (hK64 _ _ ((y.1 + 1, vq2, y.2.2.1 ++ [t], y.2.2.2.1.set t fb, y.2.2.2.2)) ⟨hn2, svq2, hSe2, hiq2, hag2⟩ (by dsimp only; omega) (slr) (fun w hw => by dsimp only; rw [qz_snoc, List.map_append, List.length_append]; rw [ht] at hw; exact hw))
       ·obtain ⟨t, ht, htN, -⟩ : ∃ t : Nat, y.2.2.2.2.getD ((x.2.2.1.getD x.1 0) * 6 + y.1) 0 = (t : Int) ∧ t < N.length ∧ True := by
         rcases hE with ⟨t, h1, h2, _⟩ | ⟨_, h0⟩
         ·exact ⟨t, h1, h2, trivial⟩
         ·exact absurd h0 hc4
        have hn2 := hD1.some T hiq hy6 (t := t) (by rw [hSe]; exact ht) (fun e => hc4 (by rw [ht, e]; rfl))
        rw [hSe, ← hfb] at hn2
        have hSe2 : (y.2.2.1 ++ [t]).getD x.1 0 = (x.2.2.1.getD x.1 0) := by rw [getD_app_lt hiq]; exact hSe
        have hiq2 : x.1 < (y.2.2.1 ++ [t]).length := by rw [List.length_append]; omega
        have hag2 : ∀ z, y.1 + 1 ≤ z → z < 6 → x.2.2.2.2.1.getD ((x.2.2.1.getD x.1 0) * 6 + z) 0 = y.2.2.2.2.getD ((x.2.2.1.getD x.1 0) * 6 + z) 0 := fun z hz hz6 => hag z (by omega) hz6
        refine .skip ?_
        refine AK.then_ (hK76 _ ?_)
        refine .sr fun _ hK79 => ?_
        refine .mv rfl (.mv rfl (.mv rfl ?_))
        first | refine .v (.iN sl98 rfl rfl) ?_ | refine .v (.iK sl98 rfl rfl) ?_
        refine AK.store1e 3 rfl sz21 rfl rfl rfl rfl (by omega) (cs' := ((y.2.2.2.1.set t fb).map (Value.int .i32))) (by rw [List.map_set, ht]; first | rfl | (rw [hfb, if_pos (by omega)]; rfl)) trivial ?_
        refine .nt hK79 ?_
        refine AK.region ?_
        refine .mv rfl (.mv rfl ?_)
        refine AK.append1 4 rfl sl98 el21 rfl (by decide) rfl (by intro k hk; cases hk; rfl) rfl (by intro u hu; simp [Value.cells] at hu; subst hu; rfl) (by omega) (by omega) (by decide) rfl rfl (fun vq2 _ svq2 => ?_)
        refine .as rfl (.nil (.block_normal ?_))
        refine AK.then_ (hK67 _ ?_)
        refine AK.region ?_
        refine .v (.add rfl rfl (by omega)) ?_
        refine .mv rfl (.nil ?_)
        first | refine AK.then_ (hK64 _ _ ((y.1 + 1, y.2.1, y.2.2.1, y.2.2.2.1, y.2.2.2.2.set ((x.2.2.1.getD x.1 0) * 6 + y.1) fb)) ⟨hn1, sy, hSe, hiq, hag1⟩ (by dsimp only; omega) (slr) (fun w hw => hw)) | refine AK.then_ (hK64 _ _ ((y.1 + 1, vq2, y.2.2.1 ++ [t], y.2.2.2.1.set t fb, y.2.2.2.2)) ⟨hn2, svq2, hSe2, hiq2, hag2⟩ (by dsimp only; omega) (slr) (fun w hw => by dsimp only; rw [qz_snoc, List.map_append, List.length_append]; rw [ht] at hw; exact hw))
     ·refine .exit (.then_exit (.then_exit (.block_exit (.block_normal ?_))))
      refine AK.then_ (hK7 _ ?_)
      refine AK.region ?_
      refine .mv rfl ?_
      refine .v (.add rfl rfl (by omega)) ?_
      refine .as rfl (.nil ?_)
      refine AK.then_ (hK4 _ _ ((x.1 + 1, y.2.1, y.2.2.1, y.2.2.2.1, y.2.2.2.2, D)) ⟨Cmp.next T (by have hh := hD1; rw [show y.1 = 6 by have := hD1.x6; omega] at hh; exact hh), sy⟩ (by dsimp only; omega) (slr) (fun w hw => hw))
  ·refine .exit (.then_exit (.then_exit (.block_exit ?_)))
   refine AK.endG [] rfl (.nil) (fun w hw => ⟨_, _, _, ?_, rfl, Ret.ofBig0 (hw.pick [0, 1, 2] (by decide) rfl rfl)⟩)
   exact ⟨x.2.2.2.2.1, x.2.2.2.2.2, Cmp.done T hC (by have := hC.le; omega), rfl, rfl, rfl⟩

end Go.Proofs.YtdnhiinakhmhgaaGreatDoor

namespace Go.Sx
open Go.RowKit
def z6 : Value := .agg #[.int .i32 0, .int .i32 0, .int .i32 0, .int .i32 0, .int .i32 0, .int .i32 0]
theorem made6 : (madeCells z6.cells (1 * 6)).toList = (List.replicate 6 (0 : Int)).map (Value.int .i32) := by kernel_rfl
theorem z6_one : one' z6.cells.toList := by intro u hu; simp [z6, Value.cells] at hu; subst hu; rfl
theorem at6s {fl : List Int} {p p' : Nat} {b : Int} {zs : List Value} (h : p < fl.length) (e : p' = p) : ((fl.set p b).map (Value.int .i32) ++ zs)[p']? = some (.int .i32 b) := by
  subst e
  rw [List.getElem?_append_left (by simpa using h), at6 (by simpa using h) rfl, getD_set_eq h]
theorem ltr_of {c : UInt8} (h : 97 ≤ c.toNat ∧ c.toNat < 103) : ∃ x : Nat, x < 6 ∧ c = ltr x ∧ (c.toNat : Int) - 97 = x :=
  ⟨c.toNat - 97, by omega, UInt8.toNat_inj.1 (by rw [ltr_toNat (by omega)]; omega), by omega⟩
theorem take_ltr {p : Wrd} {j : Nat} (h : j < p.length) {x : Nat} (e : p.getD j 0 = ltr x) : p.take (j + 1) = p.take j ++ [ltr x] := by
  rw [take_snocD 0 p j h, e]
/-- a word over the six letters -/
def Al (p : Wrd) : Prop := p.length ≤ 2048 ∧ ∀ k, k < p.length → 97 ≤ (p.getD k 0).toNat ∧ (p.getD k 0).toNat < 103
/-- the letters of the first k patterns -/
def tot (ps : List Wrd) : Nat → Nat
  | 0 => 0
  | k + 1 => tot ps k + (ps.getD k []).length
theorem tot_le {ps : List Wrd} (h : ∀ k, k < ps.length → Al (ps.getD k [])) : ∀ k, k ≤ ps.length → tot ps k ≤ k * 2048
  | 0, _ => Nat.le_refl _
  | k + 1, hk => by
    have h1 := tot_le h k (by omega)
    have h2 := (h k (by omega)).1
    unfold tot; omega
end Go.Sx

namespace Go.Proofs.YtdnhiinakhmhgaaGreatDoor
open Go.Sx Go.RowKit
set_option maxHeartbeats 4000000 in
theorem s_newfinder (w : World) (v : Value) (ps : List Wrd) (h : RdL (fun _ => False) sv w v ps) (hps : ∀ k, k < ps.length → Al (ps.getD k [])) (hn0 : ps.length ≤ 2000) : CallS Tryz.prog 54 [v] w (fun r o => ∃ (bf : Nat) (vn vf : Value) (N : List Wrd) (fl fd : List Int), FinOK ps N fl fd ∧ N.length ≤ 4200000 ∧ N.length ≤ 1 + tot ps ps.length ∧ r = .pointer (some ⟨bf, 0, none⟩) ∧ o = [box bf 100 2 [vn, vf], row vn 101 6 N.length (fl.map (Value.int .i32)), row vf 21 1 N.length (fd.map (Value.int .i32))]) := by
 have hb := h.le
 unfold RdL at h
 refine spec_of Tryz.func54 rfl (leb rfl) ?_
 refine .sr fun _ hK1 => ?_
 refine .as rfl (.nt hK1 ?_)
 refine .sr fun _ hK2 => ?_
 refine AK.make (n := 1) sl97 el101 rfl rfl (by decide) (by decide) trivial rfl (fun vn => ?_)
 rw [show ((madeCells (Value.agg #[.int .i32 0, .int .i32 0, .int .i32 0, .int .i32 0, .int .i32 0, .int .i32 0]).cells (1 * 6)).toList) = (List.replicate 6 (0 : Int)).map (Value.int .i32) from made6]
 refine AK.shape 0 rfl (fun svn => ?_)
 refine AK.lit (xs := [.const (.int .i32 (-1))]) sl98 el21 rfl rfl rfl (by intro a ha; simp at ha; subst ha; rfl) (by decide) (by decide) trivial rfl (fun vf => ?_)
 refine AK.shape 1 rfl (fun svf => ?_)
 refine .v (.build (parts := [(0, .tmp 9), (1, .tmp 10)]) (cs := #[vn, vf]) rfl (by obtain ⟨_, _, _, rfl⟩ := svn; obtain ⟨_, _, _, rfl⟩ := svf; kernel_rfl)) ?_
 refine AK.box_ (E := 100) (cs := [vn, vf]) rfl rfl rfl trivial rfl (fun bx12 => ?_)
 refine .as rfl (.nt hK2 ?_)
 refine .seq fun _ hK3 => ?_
 refine .sr fun _ hK4 => ?_
 refine .mv rfl (.v (.lenR sl44 rfl rdp) (.mv rfl (.nt hK4 (.block ?_))))
 refine AK.loopK (X := Nat × Value × Value × List Wrd × List Int × List Int) [(3, _), (13, _), (14, _)] (fun x => [(15, .int .i64 (x.1 : Int))]) (fun x => [row x.2.1 101 6 x.2.2.2.1.length (x.2.2.2.2.1.map (Value.int .i32)), row x.2.2.1 21 1 x.2.2.2.1.length (x.2.2.2.2.2.map (Value.int .i32)), box bx12 100 2 [x.2.1, x.2.2.1]]) (fun x => Trie ps x.1 x.2.2.2.1 x.2.2.2.2.1 x.2.2.2.2.2 ∧ IsSl x.2.1 ∧ IsSl x.2.2.1 ∧ x.2.2.2.1.length ≤ 1 + tot ps x.1 ∧ x.1 ≤ ps.length) (fun x => ps.length - x.1) ((0, vn, vf, [[]], List.replicate 6 0, [-1])) slr ?_ ?_ ?_ ?_
 ·exact ⟨trie0 ps, svn, svf, Nat.le_add_right 1 _, Nat.zero_le _⟩
 ·exact slr
 ·exact fun w hw => hw
 ·intro x hg0 _ hK5
  obtain ⟨hT, sa, sb, hNl, hxl⟩ := hg0
  have htb := tot_le hps x.1 hxl
  have hts : tot ps (x.1 + 1) = tot ps x.1 + (ps.getD x.1 []).length := rfl
  refine .sr fun _ hK6 => ?_
  refine .v (.lss rfl rfl) (.nt hK6 ?_)
  refine .seq fun _ hK7 => ?_
  refine AK.condD rfl (fun hc0 => ?_) (fun hc0 => ?_)
  ·have hAl := hps x.1 (by omega)
   have hpl := hAl.1
   refine .skip ?_
   refine AK.then_ (hK7 _ ?_)
   refine .seq fun _ hK8 => ?_
   refine .block ?_
   refine .sr fun _ hK9 => ?_
   refine .mv rfl ?_
   first | refine .v (.iN sl44 rfl rfl) ?_ | refine .v (.iK sl44 rfl rfl) ?_
   refine .v (.loadS on9 rfl rdp (by omega)) ?_
   refine .as rfl (.as rfl (.nt hK9 ?_))
   refine .seq fun _ hK10 => ?_
   refine .sr fun _ hK11 => ?_
   refine .mv rfl (.v (.eqlS un9 rfl rfl) (.nt hK11 ?_))
   refine AK.condD rfl (fun hc1 => ?_) (fun hc1 => ?_)
   ·refine .exit (.then_exit (.block_exit ?_))
    refine AK.then_ (hK8 _ ?_)
    refine AK.region ?_
    refine .v (.add rfl rfl (by omega)) ?_
    refine .mv rfl (.nil ?_)
    first | refine AK.then_ (hK5 _ _ ((x.1 + 1, x.2.1, x.2.2.1, x.2.2.2.1, x.2.2.2.2.1, x.2.2.2.2.2)) ⟨hT.skip hc1, sa, sb, by dsimp only; omega, by dsimp only; omega⟩ (by dsimp only; omega) (slr) (fun w hw => hw)) | refine AK.then_ (hK5 _ _ ((x.1 + 1, y.2.2.1, y.2.2.2.1, y.2.2.2.2.1, y.2.2.2.2.2.1, y.2.2.2.2.2.2.set y.2.1 (x.1 : Int))) ⟨hM1, ta, tb, by dsimp only; omega, by dsimp only; omega⟩ (by dsimp only; omega) (slr) (fun w hw => hw)) | refine AK.then_ (hK5 _ _ ((x.1 + 1, y.2.2.1, y.2.2.2.1, y.2.2.2.2.1, y.2.2.2.2.2.1, y.2.2.2.2.2.2)) ⟨hM0, ta, tb, by dsimp only; omega, by dsimp only; omega⟩ (by dsimp only; omega) (slr) (fun w hw => hw))
   ·refine .skip ?_
    refine AK.then_ (hK10 _ ?_)
    refine .sr fun _ hK12 => ?_
    refine .as rfl (.nt hK12 ?_)
    refine .seq fun _ hK13 => ?_
    refine .sr fun _ hK14 => ?_
    refine .mv rfl (.v (.lenS un9 rfl) (.mv rfl (.nt hK14 (.block ?_))))
    refine AK.loopK (X := Nat × Nat × Value × Value × List Wrd × List Int × List Int) [(3, _), (4, _), (5, _), (13, _), (14, _), (15, _), (23, _)] (fun y => [(24, .int .i64 (y.1 : Int)), (6, .int .i32 (y.2.1 : Int))]) (fun y => [row y.2.2.1 101 6 y.2.2.2.2.1.length (y.2.2.2.2.2.1.map (Value.int .i32)), row y.2.2.2.1 21 1 y.2.2.2.2.1.length (y.2.2.2.2.2.2.map (Value.int .i32)), box bx12 100 2 [y.2.2.1, y.2.2.2.1]]) (fun y => Trie ps x.1 y.2.2.2.2.1 y.2.2.2.2.2.1 y.2.2.2.2.2.2 ∧ IsSl y.2.2.1 ∧ IsSl y.2.2.2.1 ∧ y.2.2.2.2.1.length ≤ 1 + tot ps x.1 + y.1 ∧ y.1 ≤ (ps.getD x.1 []).length ∧ y.2.1 < y.2.2.2.2.1.length ∧ y.2.2.2.2.1.getD y.2.1 [] = (ps.getD x.1 []).take y.1) (fun y => (ps.getD x.1 []).length - y.1) ((0, 0, x.2.1, x.2.2.1, x.2.2.2.1, x.2.2.2.2.1, x.2.2.2.2.2)) slr ?_ ?_ ?_ ?_
    ·exact ⟨hT, sa, sb, by dsimp only; omega, Nat.zero_le _, hT.z.1, by dsimp only; rw [hT.z.2]; rfl⟩
    ·exact slr
    ·exact fun w hw => hw
    ·intro y hg1 _ hK15
     obtain ⟨hU, ta, tb, hMl, hyl, hsl, hst⟩ := hg1
     have hfl := hU.fll
     have hfd := hU.fdl
     refine .sr fun _ hK16 => ?_
     refine .v (.lss rfl rfl) (.nt hK16 ?_)
     refine .seq fun _ hK17 => ?_
     refine AK.condD rfl (fun hc2 => ?_) (fun hc2 => ?_)
     ·obtain ⟨c, hc6, hcl, hcn⟩ := ltr_of (hAl.2 y.1 (by omega))
      refine .skip ?_
      refine AK.then_ (hK17 _ ?_)
      refine .seq fun _ hK18 => ?_
      refine .block ?_
      refine .sr fun _ hK19 => ?_
      refine .mv rfl (.as rfl (.nt hK19 ?_))
      refine .sr fun _ hK20 => ?_
      refine .mv rfl (.mv rfl ?_)
      first | refine .v (.idxSN un9 rfl rfl (by omega)) ?_ | refine .v (.idxS un9 rfl rfl (by omega)) ?_
      refine AK.val (.int .u8 (c : Int)) (Yl.valE (Yl.subU8 rfl rfl (by rw [hcn]; omega)) (congrArg (Value.int .u8) hcn)) trivial rfl ?_
      refine .as rfl (.nt hK20 ?_)
      refine .seq fun _ hK21 => ?_
      refine .sr fun _ hK22 => ?_
      refine .mv rfl (.v (.nilCheck rfl) (.v (.fieldAddr fd100_0 rfl) (.v (.loadBox on97 rfl bsp rfl) (.mv rfl (.mv rfl ?_)))))
      first | refine .v (.iN sl97 rfl rfl) ?_ | refine .v (.iK sl97 rfl rfl) ?_
      refine .v (.idxArrR ar101 rfl rfl (by omega)) ?_
      refine AK.val (.int .i32 (y.2.2.2.2.2.1.getD (y.2.1 * 6 + c) 0)) (Yl.loadAt on21 rfl rdp (at6 (by omega) (by omega))) trivial rfl ?_
      refine .v (.eql rfl rfl) (.nt hK22 ?_)
      refine AK.condD rfl (fun hc3 => ?_) (fun hc3 => ?_)
      ·have hA1 := hU.add hsl hc6 hc3
       refine .seq fun _ hK23 => ?_
       refine AK.stillTail 14 mixed krf (fun _ hws => ?_)
       refine .v hws (.move rfl) (.v hws (.nilCheck rfl) (.v hws (.fieldAddr fd100_0 rfl) (.v hws (.loadBox on97 rfl bsp rfl) (.v hws (.move rfl) (.v hws (.move rfl) (.v hws (.move rfl) (.v hws (.nilCheck rfl) ?_)))))))
       refine .v hws (.fieldAddr fd100_0 rfl) (.v hws (.loadBox on97 rfl bsp rfl) (.v hws (.lenR sl97 rfl rdp) ?_))
       refine .v hws (.convI (by kernel_rfl) un21 rfl (wrap_i32w (by omega))) ?_
       first | refine .v hws (.iN sl97 rfl rfl) ?_ | refine .v hws (.iK sl97 rfl rfl) ?_
       refine .v hws (.idxArrR ar101 rfl rfl (by omega)) ?_
       refine SK.nil (SK.fin hws ?_)
       refine AK.storeAt 0 (cs' := ((y.2.2.2.2.2.1.set (y.2.1 * 6 + c) (y.2.2.2.2.1.length : Int)).map (Value.int .i32))) rfl sz21 rfl rfl rfl rfl (by omega) (set_map6 (by omega) rfl) trivial ?_
       refine .nt hK23 ?_
       refine .sr fun _ hK24 => ?_
       refine .mv rfl (.mv rfl (.v (.nilCheck rfl) (.v (.fieldAddr fd100_0 rfl) (.v (.loadBox on97 rfl bsp rfl) ?_))))
       refine .v (.build (parts := []) (cs := #[.int .i32 0, .int .i32 0, .int .i32 0, .int .i32 0, .int .i32 0, .int .i32 0]) rfl (by kernel_rfl)) ?_
       refine AK.append1 0 rfl sl97 el101 rfl (by decide) rfl (by intro k hk; cases hk; rfl) rfl z6_one (by omega) (by omega) (by decide) rfl rfl (fun va2 _ sva2 => ?_)
       refine .v (.nilCheck rfl) (.v (.fieldAddr fd100_0 rfl) ?_)
       refine AK.storeBox 2 (us := [va2]) (cs' := [va2, y.2.2.2.1]) rfl sz97 rfl rfl (by rw [IsSl.cells (by assumption)]) rfl oneP (leb rfl) rfl trivial ?_
       refine .nt hK24 ?_
       refine AK.region ?_
       refine .mv rfl (.mv rfl (.v (.nilCheck rfl) (.v (.fieldAddr fd100_1 rfl) (.v (.loadBox on98 rfl bsp rfl) ?_))))
       refine AK.append1 1 rfl sl98 el21 rfl (by decide) rfl (by intro k hk; cases hk; rfl) rfl (by intro u hu; simp [Value.cells] at hu; subst hu; rfl) (by omega) (by omega) (by decide) rfl rfl (fun vb2 _ svb2 => ?_)
       refine .v (.nilCheck rfl) (.v (.fieldAddr fd100_1 rfl) ?_)
       refine AK.storeBox 2 (us := [vb2]) (cs' := [va2, vb2]) rfl sz98 rfl rfl (by rw [IsSl.cells (by assumption)]) rfl oneP (leb rfl) rfl trivial ?_
       refine .nt hK21 ?_
       refine AK.region ?_
       refine .mv rfl (.v (.nilCheck rfl) (.v (.fieldAddr fd100_0 rfl) (.v (.loadBox on97 rfl bsp rfl) (.mv rfl (.mv rfl ?_)))))
       first | refine .v (.iN sl97 rfl rfl) ?_ | refine .v (.iK sl97 rfl rfl) ?_
       refine .v (.idxArrR ar101 rfl rfl (by omega)) ?_
       refine AK.val (.int .i32 (y.2.2.2.2.1.length : Int)) (Yl.loadAt on21 rfl rdp (at6s (by omega) (by omega))) trivial rfl ?_
       refine .as rfl (.nil (.block_normal ?_))
       refine AK.then_ (hK18 _ ?_)
       refine AK.region ?_
       refine .v (.add rfl rfl (by omega)) ?_
       refine .mv rfl (.nil ?_)
       first | refine AK.then_ (hK15 _ _ ((y.1 + 1, y.2.2.2.2.1.length, va2, vb2, y.2.2.2.2.1 ++ [y.2.2.2.2.1.getD y.2.1 [] ++ [ltr c]], y.2.2.2.2.2.1.set (y.2.1 * 6 + c) (y.2.2.2.2.1.length : Int) ++ List.replicate 6 0, y.2.2.2.2.2.2 ++ [-1])) ⟨hA1, sva2, svb2, by dsimp only; rw [List.length_append]; simp; omega, by dsimp only; omega, by dsimp only; rw [List.length_append]; simp, by dsimp only; rw [getD_app_ge (Nat.le_refl _), take_ltr (by omega) hcl, ← hst]; simp⟩ (by dsimp only; omega) (slr) (fun w hw => by dsimp only; simp only [List.map_append, List.length_append]; exact hw)) | refine AK.then_ (hK15 _ _ ((y.1 + 1, t, y.2.2.1, y.2.2.2.1, y.2.2.2.2.1, y.2.2.2.2.2.1, y.2.2.2.2.2.2)) ⟨hU, ta, tb, by dsimp only; omega, by dsimp only; omega, htl, by dsimp only; rw [hte, take_ltr (by omega) hcl, hst]⟩ (by dsimp only; omega) (slr) (fun w hw => hw))
      ·obtain ⟨t, ht, htl, hte⟩ : ∃ t : Nat, y.2.2.2.2.2.1.getD (y.2.1 * 6 + c) 0 = (t : Int) ∧ t < y.2.2.2.2.1.length ∧ y.2.2.2.2.1.getD t [] = y.2.2.2.2.1.getD y.2.1 [] ++ [ltr c] := by
        rcases hU.tr y.2.1 hsl c hc6 with ⟨t, h1, h2, h3⟩ | ⟨_, h0⟩
        ·exact ⟨t, h1, h2, h3⟩
        ·exact absurd h0 hc3
       refine .skip ?_
       refine AK.then_ (hK21 _ ?_)
       refine AK.region ?_
       refine .mv rfl (.v (.nilCheck rfl) (.v (.fieldAddr fd100_0 rfl) (.v (.loadBox on97 rfl bsp rfl) (.mv rfl (.mv rfl ?_)))))
       first | refine .v (.iN sl97 rfl rfl) ?_ | refine .v (.iK sl97 rfl rfl) ?_
       refine .v (.idxArrR ar101 rfl rfl (by omega)) ?_
       refine AK.val (.int .i32 (t : Int)) (Yl.valE (Yl.loadAt on21 rfl rdp (at6 (p := (y.2.1 * 6 + c)) (by omega) (by omega))) (congrArg (Value.int .i32) ht)) trivial rfl ?_
       refine .as rfl (.nil (.block_normal ?_))
       refine AK.then_ (hK18 _ ?_)
       refine AK.region ?_
       refine .v (.add rfl rfl (by omega)) ?_
       refine .mv rfl (.nil ?_)
       first | refine AK.then_ (hK15 _ _ ((y.1 + 1, y.2.2.2.2.1.length, va2, vb2, y.2.2.2.2.1 ++ [y.2.2.2.2.1.getD y.2.1 [] ++ [ltr c]], y.2.2.2.2.2.1.set (y.2.1 * 6 + c) (y.2.2.2.2.1.length : Int) ++ List.replicate 6 0, y.2.2.2.2.2.2 ++ [-1])) ⟨hA1, sva2, svb2, by dsimp only; rw [List.length_append]; simp; omega, by dsimp only; omega, by dsimp only; rw [List.length_append]; simp, by dsimp only; rw [getD_app_ge (Nat.le_refl _), take_ltr (by omega) hcl, ← hst]; simp⟩ (by dsimp only; omega) (slr) (fun w hw => by dsimp only; simp only [List.map_append, List.length_append]; exact hw)) | refine AK.then_ (hK15 _ _ ((y.1 + 1, t, y.2.2.1, y.2.2.2.1, y.2.2.2.2.1, y.2.2.2.2.2.1, y.2.2.2.2.2.2)) ⟨hU, ta, tb, by dsimp only; omega, by dsimp only; omega, htl, by dsimp only; rw [hte, take_ltr (by omega) hcl, hst]⟩ (by dsimp only; omega) (slr) (fun w hw => hw))
     ·have hye : y.2.2.2.2.1.getD y.2.1 [] = (ps.getD x.1 []) := by rw [hst, show y.1 = (ps.getD x.1 []).length by omega, List.take_length]
      have hM := hU.mark hsl hc1 hye
      refine .exit (.then_exit (.then_exit (.block_exit ?_)))
      refine AK.then_ (hK13 _ ?_)
      refine .sr fun _ hK25 => ?_
      refine .mv rfl (.v (.nilCheck rfl) (.v (.fieldAddr fd100_1 rfl) (.v (.loadBox on98 rfl bsp rfl) (.mv rfl ?_))))
      first | refine .v (.iN sl98 rfl rfl) ?_ | refine .v (.iK sl98 rfl rfl) ?_
      refine AK.val (.int .i32 (y.2.2.2.2.2.2.getD y.2.1 0)) (Yl.loadI on21 rfl rdp (by omega)) trivial rfl ?_
      refine .v (.lss rfl rfl) (.nt hK25 ?_)
      refine AK.condD rfl (fun hc4 => ?_) (fun hc4 => ?_)
      ·have hM1 := hM
       rw [if_pos hc4] at hM1
       refine AK.region ?_
       refine .mv rfl (.v (.nilCheck rfl) (.v (.fieldAddr fd100_1 rfl) (.v (.loadBox on98 rfl bsp rfl) (.mv rfl (.mv rfl ?_)))))
       refine .v (.convI (by kernel_rfl) un21 rfl (wrap_i32w (by omega))) ?_
       first | refine .v (.iN sl98 rfl rfl) ?_ | refine .v (.iK sl98 rfl rfl) ?_
       refine AK.store1e 1 rfl sz21 rfl rfl rfl rfl (by omega) (cs' := ((y.2.2.2.2.2.2.set y.2.1 (x.1 : Int)).map (Value.int .i32))) (by rw [List.map_set]; rfl) trivial ?_
       refine .nil (.block_normal ?_)
       refine AK.then_ (hK8 _ ?_)
       refine AK.region ?_
       refine .v (.add rfl rfl (by omega)) ?_
       refine .mv rfl (.nil ?_)
       first | refine AK.then_ (hK5 _ _ ((x.1 + 1, x.2.1, x.2.2.1, x.2.2.2.1, x.2.2.2.2.1, x.2.2.2.2.2)) ⟨hT.skip hc1, sa, sb, by dsimp only; omega, by dsimp only; omega⟩ (by dsimp only; omega) (slr) (fun w hw => hw)) | refine AK.then_ (hK5 _ _ ((x.1 + 1, y.2.2.1, y.2.2.2.1, y.2.2.2.2.1, y.2.2.2.2.2.1, y.2.2.2.2.2.2.set y.2.1 (x.1 : Int))) ⟨hM1, ta, tb, by dsimp only; omega, by dsimp only; omega⟩ (by dsimp only; omega) (slr) (fun w hw => hw)) | refine AK.then_ (hK5 _ _ ((x.1 + 1, y.2.2.1, y.2.2.2.1, y.2.2.2.2.1, y.2.2.2.2.2.1, y.2.2.2.2.2.2)) ⟨hM0, ta, tb, by dsimp only; omega, by dsimp only; omega⟩ (by dsimp only; omega) (slr) (fun w hw => hw))
      ·have hM0 := hM
       rw [if_neg hc4] at hM0
       refine .skip (.block_normal ?_)
       refine AK.then_ (hK8 _ ?_)
       refine AK.region ?_
       refine .v (.add rfl rfl (by omega)) ?_
       refine .mv rfl (.nil ?_)
       first | refine AK.then_ (hK5 _ _ ((x.1 + 1, x.2.1, x.2.2.1, x.2.2.2.1, x.2.2.2.2.1, x.2.2.2.2.2)) ⟨hT.skip hc1, sa, sb, by dsimp only; omega, by dsimp only; omega⟩ (by dsimp only; omega) (slr) (fun w hw => hw)) | refine AK.then_ (hK5 _ _ ((x.1 + 1, y.2.2.1, y.2.2.2.1, y.2.2.2.2.1, y.2.2.2.2.2.1, y.2.2.2.2.2.2.set y.2.1 (x.1 : Int))) ⟨hM1, ta, tb, by dsimp only; omega, by dsimp only; omega⟩ (by dsimp only; omega) (slr) (fun w hw => hw)) | refine AK.then_ (hK5 _ _ ((x.1 + 1, y.2.2.1, y.2.2.2.1, y.2.2.2.2.1, y.2.2.2.2.2.1, y.2.2.2.2.2.2)) ⟨hM0, ta, tb, by dsimp only; omega, by dsimp only; omega⟩ (by dsimp only; omega) (slr) (fun w hw => hw))
  ·have hx0 : x.1 = ps.length := by omega
   have hT2 := hT
   rw [hx0] at hT2
   refine .exit (.then_exit (.then_exit (.block_exit ?_)))
   refine AK.then_ (hK3 _ ?_)
   refine .sr fun _ hK26 => ?_
   refine .mv rfl ?_
   refine AK.own' [bigA [box bx12 100 2 [x.2.1, x.2.2.1], row x.2.1 101 6 x.2.2.2.1.length (x.2.2.2.2.1.map (Value.int .i32)), row x.2.2.1 21 1 x.2.2.2.1.length (x.2.2.2.2.2.map (Value.int .i32))]] (fun w hw => HW.unflat (l := [_, _, _]) (own := []) (hw.pick [2, 0, 1] (by decide) rfl rfl)) ?_
   refine AK.callM 0 rfl co92 rfl (fun w F hw hA => s_complete w F bx12 x.2.1 x.2.2.1 ps x.2.2.2.1 x.2.2.2.2.1 x.2.2.2.2.2 hT2 (by omega) hA) trivial rfl ?_
   rintro r A o ⟨fl, fd, hF, rfl, rfl, rfl⟩
   refine AK.flat0 rfl ?_
   refine .nt hK26 ?_
   refine .sr fun _ hK27 => ?_
   refine .mv rfl (.as rfl (.nt hK27 (.ret ?_)))
   refine AK.ret1 rfl rfl (fun w hw => ⟨_, _, ?_, rfl, Ret.of (hw.pick [0, 1, 2] (by decide) rfl rfl)⟩)
   exact ⟨bx12, x.2.1, x.2.2.1, x.2.2.2.1, fl, fd, hF, by omega, by rw [← hx0]; exact hNl, rfl, rfl⟩

end Go.Proofs.YtdnhiinakhmhgaaGreatDoor

namespace Go.Sx
open Go.RowKit
theorem validW_al {L : Int} {u : Wrd} (h : validW L u = true) : Al u := by
  have := validW_iff.1 h
  exact ⟨this.1.2.2, fun k hk => by have := this.2 k hk; omega⟩
end Go.Sx

namespace Go.Sx
open Go.RowKit
end Go.Sx
