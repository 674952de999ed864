import Derived.Test.YtafldkjdeompjaaGreatDoorXZa
import Derived.Test.YtafldkjdeompjaaGreatDoorXZj
set_option linter.unusedVariables false
set_option linter.unusedSimpArgs false
set_option linter.unusedSectionVars false
set_option maxRecDepth 100000
namespace Go.Sx.Pt
/-! ### plain: partitions -/
theorem snoc_ind {α : Type} {p : List α → Prop} (h0 : p []) (hs : ∀ l a, p l → p (l ++ [a])) (l : List α) : p l := by
  have : ∀ r : List α, p r.reverse := by
    intro r
    induction r with
    | nil => exact h0
    | cons a r ih => rw [List.reverse_cons]; exact hs _ a ih
  have := this l.reverse
  rwa [List.reverse_reverse] at this

section canon
variable {α : Type} [DecidableEq α]

def cstep (s : List Int × List (α × Int)) (x : α) : List Int × List (α × Int) :=
  match mget s.2 x with
  | some c => (s.1 ++ [c], s.2)
  | none => (s.1 ++ [(s.2.length : Int)], mset s.2 x s.2.length)
def cst (xs : List α) : List Int × List (α × Int) := xs.foldl cstep ([], [])
def canon (xs : List α) : List Int := (cst xs).1

theorem cst_snoc (xs : List α) (x : α) : cst (xs ++ [x]) = cstep (cst xs) x := by simp [cst]
theorem cst_some {xs : List α} {x : α} {c : Int} (h : mget (cst xs).2 x = some c) : cst (xs ++ [x]) = ((cst xs).1 ++ [c], (cst xs).2) := by rw [cst_snoc]; simp [cstep, h]
theorem cst_none {xs : List α} {x : α} (h : mget (cst xs).2 x = none) : cst (xs ++ [x]) = ((cst xs).1 ++ [((cst xs).2.length : Int)], mset (cst xs).2 x (cst xs).2.length) := by rw [cst_snoc]; simp [cstep, h]
theorem canon_length (xs : List α) : (canon xs).length = xs.length := by
  induction xs using snoc_ind with
  | h0 => rfl
  | hs l a ih =>
    unfold canon at *
    cases h : mget (cst l).2 a with
    | none => rw [cst_none h]; simp [ih]
    | some c => rw [cst_some h]; simp [ih]
theorem cst_le (xs : List α) : (cst xs).2.length ≤ xs.length := by
  induction xs using snoc_ind with
  | h0 => simp [cst]
  | hs l a ih =>
    cases h : mget (cst l).2 a with
    | none => rw [cst_none h, length_mset]; simp [h]; omega
    | some c => rw [cst_some h]; simp; omega
end canon

section walk
variable {α : Type} [DecidableEq α] (d : α) {xs : List α} {k : Nat}
theorem cst_map_none (hk : (k : Int) < xs.length) (h : (mget (cst (xs.take k)).2 (xs.getD k d)).isSome = false) : (cst (xs.take (k + 1))).2 = mset (cst (xs.take k)).2 (xs.getD k d) (cst (xs.take k)).2.length := by
  have h' : mget (cst (xs.take k)).2 (xs.getD k d) = none := by simpa using h
  rw [take_snocD d xs k (by omega), cst_none h']
theorem cst_map_some (hk : (k : Int) < xs.length) (h : (mget (cst (xs.take k)).2 (xs.getD k d)).isSome = true) : (cst (xs.take (k + 1))).2 = (cst (xs.take k)).2 := by
  obtain ⟨c, hc⟩ := Option.isSome_iff_exists.1 h
  rw [take_snocD d xs k (by omega), cst_some hc]
theorem canon_fill_none (hk : (k : Int) < xs.length) (h : (mget (cst (xs.take k)).2 (xs.getD k d)).isSome = false) :
    ((canon (xs.take k) ++ List.replicate (xs.length - k) 0).map (Value.int .i64)).set k (.int .i64 ((cst (xs.take k)).2.length : Nat)) = (canon (xs.take (k + 1)) ++ List.replicate (xs.length - (k + 1)) 0).map (Value.int .i64) := by
  have h' : mget (cst (xs.take k)).2 (xs.getD k d) = none := by simpa using h
  rw [fill_set (Value.int .i64) _ 0 _ xs.length k (by rw [canon_length, List.length_take]; omega) (by omega)]
  rw [take_snocD d xs k (by omega)]
  unfold canon
  rw [cst_none h']
theorem canon_fill_some (hk : (k : Int) < xs.length) (h : (mget (cst (xs.take k)).2 (xs.getD k d)).isSome = true) :
    ((canon (xs.take k) ++ List.replicate (xs.length - k) 0).map (Value.int .i64)).set k (.int .i64 ((mget (cst (xs.take k)).2 (xs.getD k d)).getD 0)) = (canon (xs.take (k + 1)) ++ List.replicate (xs.length - (k + 1)) 0).map (Value.int .i64) := by
  obtain ⟨c, hc⟩ := Option.isSome_iff_exists.1 h
  rw [fill_set (Value.int .i64) _ 0 _ xs.length k (by rw [canon_length, List.length_take]; omega) (by omega)]
  rw [take_snocD d xs k (by omega)]
  unfold canon
  rw [cst_some hc, hc]
  rfl
end walk

/-- what Canonical answers -/
def canonB {α : Type} [DecidableEq α] (xs : List α) : List Int := if xs.length ≤ 4096 then canon xs else []

def vstep (o : Option Int) (x : Int) : Option Int := match o with
  | none => none
  | some c => if x < 0 ∨ c < x then none else if x = c then some (c + 1) else some c
def vst (xs : List Int) : Option Int := xs.foldl vstep (some 0)
theorem vst_snoc (xs : List Int) (x : Int) : vst (xs ++ [x]) = vstep (vst xs) x := by simp [vst]

theorem vst_ok (xs : List Int) : (∀ c, vst xs = some c → canon xs = xs ∧ ((cst xs).2.length : Int) = c ∧ ∀ x, mget (cst xs).2 x = if 0 ≤ x ∧ x < c then some x else none) ∧ (vst xs = none → canon xs ≠ xs) := by
  induction xs using snoc_ind with
  | h0 =>
    refine ⟨fun c h => ?_, fun h => by simp [vst] at h⟩
    simp [vst] at h
    subst h
    refine ⟨rfl, by simp [cst], fun x => ?_⟩
    rw [if_neg (by omega)]; rfl
  | hs l a ih =>
    obtain ⟨ih1, ih2⟩ := ih
    have happ : ∀ (u v : List Int) (x y : Int), u.length = v.length → u ++ [x] = v ++ [y] → u = v ∧ x = y := fun u v x y hl h => by
      have := List.append_inj h hl
      exact ⟨this.1, by simpa using this.2⟩
    have hlen := canon_length l
    cases hv : vst l with
    | none =>
      have hne := ih2 hv
      refine ⟨fun c h => by rw [vst_snoc, hv] at h; simp [vstep] at h, fun _ e => hne ?_⟩
      unfold canon at e hlen ⊢
      cases h : mget (cst l).2 a with
      | none => rw [cst_none h] at e; exact (happ _ _ _ _ hlen e).1
      | some d => rw [cst_some h] at e; exact (happ _ _ _ _ hlen e).1
    | some c =>
      obtain ⟨i1, i2, i3⟩ := ih1 c hv
      unfold canon at i1 hlen
      rw [vst_snoc, hv]
      simp only [vstep]
      have hc0 : 0 ≤ c := by omega
      by_cases hbad : a < 0 ∨ c < a
      · rw [if_pos hbad]
        refine ⟨fun d h => by simp at h, fun _ e => ?_⟩
        have hm : mget (cst l).2 a = none := by rw [i3, if_neg (by omega)]
        unfold canon at e
        rw [cst_none hm] at e
        have := (happ _ _ _ _ hlen e).2
        omega
      · rw [if_neg hbad]
        by_cases hac : a = c
        · rw [if_pos hac]
          refine ⟨fun d h => ?_, fun h => by simp at h⟩
          simp at h; subst h
          have hm : mget (cst l).2 a = none := by rw [i3, if_neg (by omega)]
          unfold canon
          rw [cst_none hm]
          refine ⟨by rw [i1, i2, hac], ?_, fun x => ?_⟩
          · rw [length_mset]; simp [hm]; omega
          · rw [mget_mset, i3]
            by_cases hx : x = a
            · rw [if_pos hx, if_pos (by omega)]; congr 1; omega
            · rw [if_neg hx]
              by_cases h0 : 0 ≤ x ∧ x < c
              · rw [if_pos h0, if_pos (by omega)]
              · rw [if_neg h0, if_neg (by omega)]
        · rw [if_neg hac]
          refine ⟨fun d h => ?_, fun h => by simp at h⟩
          simp at h; subst h
          have hm : mget (cst l).2 a = some a := by rw [i3, if_pos (by omega)]
          unfold canon
          rw [cst_some hm]
          exact ⟨by rw [i1], i2, i3⟩

theorem vst_iff (xs : List Int) : (vst xs).isSome = true ↔ canon xs = xs := by
  have h := vst_ok xs
  cases hv : vst xs with
  | none => simp; exact h.2 hv
  | some c => simp; exact (h.1 c hv).1

theorem vst_le (xs : List Int) (c : Int) (h : vst xs = some c) : 0 ≤ c ∧ c ≤ xs.length := by
  have h1 := ((vst_ok xs).1 c h).2.1
  have h2 := cst_le xs
  omega

/-- valid partitions -/
def ValidP (xs : List Int) : Prop := xs.length ≤ 4096 ∧ canon xs = xs
instance (xs : List Int) : Decidable (ValidP xs) := inferInstanceAs (Decidable (_ ∧ _))

theorem canon_canon_aux {α : Type} [DecidableEq α] (xs : List α) : vst (canon xs) = some ((cst xs).2.length : Int) ∧ ∀ x c, mget (cst xs).2 x = some c → 0 ≤ c ∧ c < (cst xs).2.length := by
  induction xs using snoc_ind with
  | h0 => exact ⟨rfl, fun x c h => by simp [cst, mget] at h⟩
  | hs l a ih =>
    obtain ⟨i1, i2⟩ := ih
    unfold canon at *
    cases h : mget (cst l).2 a with
    | none =>
      rw [cst_none h]
      refine ⟨?_, fun x c hx => ?_⟩
      · rw [vst_snoc, i1]; simp only [vstep]; rw [if_neg (by omega), if_pos trivial, length_mset]; simp [h]
      · rw [mget_mset] at hx
        rw [length_mset]; simp [h]
        split at hx
        · simp at hx; omega
        · have := i2 x c hx; omega
    | some d =>
      rw [cst_some h]
      have := i2 a d h
      refine ⟨?_, i2⟩
      rw [vst_snoc, i1]; simp only [vstep]; rw [if_neg (by omega), if_neg (by omega)]

theorem canon_canon {α : Type} [DecidableEq α] (xs : List α) : canon (canon xs) = canon xs := (vst_iff _).1 (by rw [(canon_canon_aux xs).1]; rfl)
theorem vst_none_step {xs : List Int} {k : Nat} (hk : (k : Int) < xs.length) {c : Int} (h : vst (xs.take k) = some c) (hb : xs.getD k 0 < 0 ∨ c < xs.getD k 0) : canon xs ≠ xs := by
  have hn : vst (xs.take (k + 1)) = none := by rw [take_snocD 0 xs k (by omega), vst_snoc, h]; simp only [vstep]; rw [if_pos hb]
  have hall : ∀ ys : List Int, vst (xs.take (k + 1) ++ ys) = none := by
    intro ys
    induction ys using snoc_ind with
    | h0 => simpa using hn
    | hs l a ih => rw [← List.append_assoc, vst_snoc, ih]; rfl
  have := hall (xs.drop (k + 1))
  rw [List.take_append_drop] at this
  exact (vst_ok xs).2 this
theorem vst_step {xs : List Int} {k : Nat} (hk : (k : Int) < xs.length) {c : Int} (h : vst (xs.take k) = some c) (h1 : ¬ xs.getD k 0 < 0) (h2 : ¬ c < xs.getD k 0) : vst (xs.take (k + 1)) = some (if xs.getD k 0 = c then c + 1 else c) := by
  rw [take_snocD 0 xs k (by omega), vst_snoc, h]; simp only [vstep]; rw [if_neg (by omega)]; split <;> rfl
theorem refvalid_F {xs : List Int} (h : 4096 < (xs.length : Int)) : false = decide (ValidP xs) := by
  symm; rw [decide_eq_false_iff_not]; rintro ⟨h', _⟩; omega
/-! ### one kernel, one canonical form -/
section kernel
variable {α β : Type} [DecidableEq α] [DecidableEq β]
theorem cst_mem (xs : List α) : (∀ x, mget (cst xs).2 x = none ↔ x ∉ xs) ∧ ∀ i (h : i < xs.length), mget (cst xs).2 xs[i] = (canon xs)[i]? := by
  induction xs using snoc_ind with
  | h0 => exact ⟨fun x => by simp [cst, mget], fun i h => by simp at h⟩
  | hs l a ih =>
    obtain ⟨i1, i2⟩ := ih
    have hl := canon_length l
    unfold canon at *
    cases h : mget (cst l).2 a with
    | none =>
      have hn := (i1 a).1 h
      rw [cst_none h]
      refine ⟨fun x => ?_, fun i hi => ?_⟩
      · rw [mget_mset]
        by_cases hx : x = a
        · simp [hx]
        · simp [hx, i1]
      · rw [mget_mset]
        by_cases hil : i < l.length
        · rw [List.getElem_append_left hil, List.getElem?_append_left (by omega), ← i2 i hil, if_neg (fun e : l[i] = a => hn (by rw [← e]; exact List.getElem_mem hil))]
        · have : i = l.length := by simp at hi; omega
          subst this
          simp [hl]
    | some c =>
      rw [cst_some h]
      have hm : a ∈ l := by
        by_cases hm : a ∈ l
        · exact hm
        · rw [(i1 a).2 hm] at h; cases h
      refine ⟨fun x => ?_, fun i hi => ?_⟩
      · rw [i1]
        constructor
        · intro hx hx'
          rcases List.mem_append.1 hx' with h' | h'
          · exact hx h'
          · simp at h'; exact hx (h' ▸ hm)
        · intro hx hx'; exact hx (List.mem_append_left _ hx')
      · by_cases hil : i < l.length
        · rw [List.getElem_append_left hil, List.getElem?_append_left (by omega), ← i2 i hil]
        · have : i = l.length := by simp at hi; omega
          subst this
          simp [hl, h]

theorem canon_kernel (xs : List α) : ∀ (ys : List β), xs.length = ys.length → (∀ i j (hi : i < xs.length) (hj : j < xs.length) (hi' : i < ys.length) (hj' : j < ys.length), xs[i] = xs[j] ↔ ys[i] = ys[j]) → canon xs = canon ys ∧ (cst xs).2.length = (cst ys).2.length := by
  induction xs using snoc_ind with
  | h0 => intro ys hl _; have : ys = [] := List.eq_nil_of_length_eq_zero (by simpa using hl.symm); subst this; exact ⟨rfl, rfl⟩
  | hs l a ih =>
    intro ys hl hk
    obtain ⟨m, b, rfl⟩ : ∃ m b, ys = m ++ [b] := by
      have hne : ys ≠ [] := by intro e; subst e; simp at hl
      exact ⟨ys.dropLast, ys.getLast hne, (List.dropLast_concat_getLast hne).symm⟩
    have hlm : l.length = m.length := by simpa using hl
    have hk' : ∀ i j (hi : i < l.length) (hj : j < l.length) (hi' : i < m.length) (hj' : j < m.length), l[i] = l[j] ↔ m[i] = m[j] := fun i j hi hj hi' hj' => by
      have := hk i j (by simp; omega) (by simp; omega) (by simp; omega) (by simp; omega)
      rwa [List.getElem_append_left hi, List.getElem_append_left hj, List.getElem_append_left hi', List.getElem_append_left hj'] at this
    have hka : ∀ i (hi : i < l.length) (hi' : i < m.length), l[i] = a ↔ m[i] = b := fun i hi hi' => by
      have := hk i l.length (by simp; omega) (by simp) (by simp; omega) (by simp; omega)
      rw [List.getElem_append_left hi, List.getElem_append_left hi'] at this
      simpa [hlm] using this
    obtain ⟨e1, e2⟩ := ih m hlm hk'
    obtain ⟨p1, p2⟩ := cst_mem l
    obtain ⟨q1, q2⟩ := cst_mem m
    unfold canon at *
    by_cases hm : a ∈ l
    · obtain ⟨i, hi, rfl⟩ := List.getElem_of_mem hm
      have hb := (hka i hi (by omega)).1 rfl
      have h1 := p2 i hi
      have h2 := q2 i (by omega)
      rw [← e1, hb] at h2
      cases h : (cst l).1[i]? with
      | none => rw [h] at h1; have := (p1 _).1 h1; exact absurd hm this
      | some c =>
        rw [h] at h1 h2
        rw [cst_some h1, cst_some h2, e1]
        exact ⟨rfl, e2⟩
    · have hmb : b ∉ m := by
        intro hb
        obtain ⟨i, hi, rfl⟩ := List.getElem_of_mem hb
        exact hm ((hka i (by omega) hi).2 rfl ▸ List.getElem_mem (by omega))
      have h1 := (p1 a).2 hm
      have h2 := (q1 b).2 hmb
      rw [cst_none h1, cst_none h2, e1, e2]
      refine ⟨rfl, ?_⟩
      rw [length_mset, length_mset, h1, h2, e2]
end kernel

/-! ### forests -/
def Rep (ρ : Nat → Nat) (f : List Int) (n : Nat) : Prop := f.length = n ∧ ∀ i, i < n → 0 ≤ f.getD i 0 ∧ f.getD i 0 ≤ i ∧ ρ (f.getD i 0).toNat = ρ i ∧ (f.getD i 0 = i ↔ ρ i = i) ∧ ρ i ≤ i

theorem getD_set_same {xs : List Int} {i : Nat} (h : i < xs.length) (v : Int) : (xs.set i v).getD i 0 = v := by simp [List.getD_eq_getElem?_getD, h]
theorem getD_set_other {xs : List Int} {i j : Nat} (h : i ≠ j) (v : Int) : (xs.set i v).getD j 0 = xs.getD j 0 := by simp [List.getD_eq_getElem?_getD, List.getElem?_set_ne h]

theorem Rep.halve {ρ : Nat → Nat} {f : List Int} {n i : Nat} (h : Rep ρ f n) (hi : i < n) (hne : f.getD i 0 ≠ i) : Rep ρ (f.set i (f.getD (f.getD i 0).toNat 0)) n := by
  obtain ⟨h1, h2⟩ := h
  refine ⟨by simpa using h1, fun k hk => ?_⟩
  by_cases hki : i = k
  · subst hki
    obtain ⟨a1, a2, a3, a4, a5⟩ := h2 i hk
    obtain ⟨b1, b2, b3, b4, b5⟩ := h2 (f.getD i 0).toNat (by omega)
    rw [getD_set_same (by omega)]
    refine ⟨b1, by omega, by rw [b3, a3], ?_, a5⟩
    constructor
    · intro e; omega
    · intro e; exact absurd (a4.2 e) hne
  · rw [getD_set_other hki]; exact h2 k hk

theorem Rep.union {ρ : Nat → Nat} {f : List Int} {n i j : Nat} (h : Rep ρ f n) (hi : i < n) (hj : j < n) :
    Rep (fun k => if ρ k = max (ρ i) (ρ j) then min (ρ i) (ρ j) else ρ k) (f.set (max (ρ i) (ρ j)) ((min (ρ i) (ρ j) : Nat) : Int)) n := by
  obtain ⟨h1, h2⟩ := h
  have hri : ρ i < n := by have := (h2 i hi).2.2.2.2; omega
  have hrj : ρ j < n := by have := (h2 j hj).2.2.2.2; omega
  have idem : ∀ k, k < n → ρ (ρ k) = ρ k := by
    intro k
    induction k using Nat.strongRecOn with
    | _ k ih =>
      intro hk
      obtain ⟨a1, a2, a3, a4, a5⟩ := h2 k hk
      by_cases e : f.getD k 0 = k
      · rw [a4.1 e]; exact a4.1 e
      · have := ih (f.getD k 0).toNat (by omega) (by omega)
        rw [a3] at this; exact this
  have hii := idem i hi
  have hjj := idem j hj
  have hM : max (ρ i) (ρ j) < n := by omega
  have hρM : ρ (max (ρ i) (ρ j)) = max (ρ i) (ρ j) := by
    rcases Nat.le_total (ρ i) (ρ j) with h | h
    · rw [Nat.max_eq_right h]; exact hjj
    · rw [Nat.max_eq_left h]; exact hii
  have hρm : ρ (min (ρ i) (ρ j)) = min (ρ i) (ρ j) := by
    rcases Nat.le_total (ρ i) (ρ j) with h | h
    · rw [Nat.min_eq_left h]; exact hii
    · rw [Nat.min_eq_right h]; exact hjj
  generalize hMd : max (ρ i) (ρ j) = M at *
  generalize hmd : min (ρ i) (ρ j) = m at *
  have hmM : m ≤ M := by omega
  refine ⟨by simpa using h1, fun k hk => ?_⟩
  by_cases hkM : M = k
  · subst hkM
    rw [getD_set_same (by omega)]
    simp only [hρM, if_true, Int.toNat_natCast, hρm]
    refine ⟨by omega, by omega, ?_, ?_, hmM⟩
    · split <;> rfl
    · constructor <;> intro h <;> omega
  · rw [getD_set_other hkM]
    obtain ⟨a1, a2, a3, a4, a5⟩ := h2 k hk
    simp only [a3]
    refine ⟨a1, a2, trivial, ?_, ?_⟩
    · rw [a4]
      by_cases hb : ρ k = M
      · rw [if_pos hb]
        constructor
        · intro e; omega
        · intro e; omega
      · rw [if_neg hb]
    · split <;> omega

/-- one class for two: either way to name it, one kernel -/
theorem relabel {γ : Type} [DecidableEq γ] (a b u v : γ) : ((if u = b then a else u) = (if v = b then a else v)) ↔ (u = v ∨ ((u = a ∨ u = b) ∧ (v = a ∨ v = b))) := by
  by_cases h1 : u = b <;> by_cases h2 : v = b
  · simp [h1, h2]
  · simp only [h1, h2, if_true, if_false, or_true, true_and, or_false]
    constructor
    · intro e; exact .inr e.symm
    · rintro (e | e)
      · exact absurd e.symm h2
      · exact e.symm
  · simp only [h1, h2, if_true, if_false, or_true, and_true, or_false]
    constructor
    · intro e; exact .inr e
    · rintro (e | e)
      · first | exact absurd e h1 | exact e.elim
      · exact e
  · simp only [h1, h2, if_false, or_false]
    constructor
    · intro e; exact .inl e
    · rintro (e | ⟨e, f⟩)
      · exact e
      · rw [e, f]

def idl (n : Nat) : List Int := (List.range n).map fun (i : Nat) => ((i : Nat) : Int)
theorem idl_length (n : Nat) : (idl n).length = n := by simp [idl]
theorem idl_get {n i : Nat} (h : i < n) : (idl n).getD i 0 = i := by simp [idl, List.getD_eq_getElem?_getD, h]
theorem idl_succ (n : Nat) : idl (n + 1) = idl n ++ [(n : Int)] := by simp [idl, List.range_succ]
theorem rep_id (n : Nat) : Rep id (idl n) n := ⟨idl_length n, fun i h => by rw [idl_get h]; simp⟩
def discB (n : Int) : List Int := if 0 ≤ n ∧ n ≤ 4096 then idl n.toNat else []

def ufstep (ρ : Nat → Nat) (i j : Nat) : Nat → Nat := fun k => if ρ k = max (ρ i) (ρ j) then min (ρ i) (ρ j) else ρ k
def ufs (ps : List (Int × Int)) : Nat → Nat := ps.foldl (fun ρ p => ufstep ρ p.1.toNat p.2.toNat) id
theorem ufs_snoc (ps : List (Int × Int)) (p : Int × Int) : ufs (ps ++ [p]) = ufstep (ufs ps) p.1.toNat p.2.toNat := by simp [ufs]
def okp (n : Int) (p : Int × Int) : Prop := 0 ≤ p.1 ∧ p.1 < n ∧ 0 ≤ p.2 ∧ p.2 < n
instance (n : Int) (p : Int × Int) : Decidable (okp n p) := inferInstanceAs (Decidable (_ ∧ _))
def mayP (n : Int) (ps : List (Int × Int)) : Prop := (0 ≤ n ∧ n ≤ 4096) ∧ ∀ p ∈ ps, okp n p
instance (n : Int) (ps : List (Int × Int)) : Decidable (mayP n ps) := inferInstanceAs (Decidable (_ ∧ _))
def rhoL (n : Nat) (ρ : Nat → Nat) : List Int := (List.range n).map fun (i : Nat) => ((ρ i : Nat) : Int)
theorem rhoL_length (n : Nat) (ρ : Nat → Nat) : (rhoL n ρ).length = n := by simp [rhoL]
/-- what FromPairs answers -/
def fromB (n : Int) (ps : List (Int × Int)) : List Int := if mayP n ps then canon (rhoL n.toNat (ufs ps)) else []

theorem mem_getD {α : Type} {xs : List α} {k : Nat} (d : α) (h : k < xs.length) : xs.getD k d ∈ xs := by
  rw [List.getD_eq_getElem?_getD, List.getElem?_eq_getElem h]; exact List.getElem_mem h
theorem all_take_succ {α : Type} {P : α → Prop} {xs : List α} {k : Nat} (d : α) (h : k < xs.length) (h1 : ∀ p ∈ xs.take k, P p) (h2 : P (xs.getD k d)) : ∀ p ∈ xs.take (k + 1), P p := by
  rw [take_snocD d xs k h]
  intro p hp
  rcases List.mem_append.1 hp with hp | hp
  · exact h1 p hp
  · simp at hp; exact hp ▸ h2

theorem fromB_le (n : Int) (ps : List (Int × Int)) : (fromB n ps).length ≤ 4096 := by
  unfold fromB
  split
  · rename_i h; rw [canon_length, rhoL_length]; have := h.1; omega
  · simp
/-! ### classes -/
def cntL (xs : List Int) : Int := xs.foldl (fun n x => max n (x + 1)) 0
theorem cntL_snoc (xs : List Int) (x : Int) : cntL (xs ++ [x]) = max (cntL xs) (x + 1) := by simp [cntL]
theorem cntL_vst (xs : List Int) : ∀ c, vst xs = some c → cntL xs = c ∧ ∀ x ∈ xs, 0 ≤ x ∧ x < c := by
  induction xs using snoc_ind with
  | h0 => intro c h; simp [vst] at h; subst h; exact ⟨rfl, by simp⟩
  | hs l a ih =>
    intro c h
    rw [vst_snoc] at h
    cases hv : vst l with
    | none => rw [hv] at h; simp [vstep] at h
    | some d =>
      obtain ⟨i1, i2⟩ := ih d hv
      rw [hv] at h
      simp only [vstep] at h
      split at h
      · cases h
      · rename_i hb
        rw [cntL_snoc, i1]
        split at h
        · simp at h; subst h
          refine ⟨by omega, fun x hx => ?_⟩
          rcases List.mem_append.1 hx with h' | h'
          · have := i2 x h'; omega
          · simp at h'; omega
        · simp at h; subst h
          refine ⟨by omega, fun x hx => ?_⟩
          rcases List.mem_append.1 hx with h' | h'
          · exact i2 x h'
          · simp at h'; omega
theorem valid_cnt {xs : List Int} (h : ValidP xs) : 0 ≤ cntL xs ∧ cntL xs ≤ xs.length ∧ ∀ x ∈ xs, 0 ≤ x ∧ x < cntL xs := by
  have := (vst_iff xs).2 h.2
  obtain ⟨c, hc⟩ := Option.isSome_iff_exists.1 this
  obtain ⟨h1, h2⟩ := cntL_vst xs c hc
  have h3 := vst_le xs c hc
  rw [h1]; exact ⟨h3.1, h3.2, h2⟩
theorem cntL_take_le (xs : List Int) (k : Nat) : cntL (xs.take k) ≤ cntL xs := by
  have key : ∀ (l : List Int) (a : Int), a ≤ l.foldl (fun n x => max n (x + 1)) a := by
    intro l
    induction l with
    | nil => intro a; exact Int.le_refl a
    | cons x l ih => intro a; exact Int.le_trans (by omega) (ih (max a (x + 1)))
  conv => rhs; rw [← List.take_append_drop k xs]
  unfold cntL
  rw [List.foldl_append]
  exact key _ _
theorem cntL_nonneg (xs : List Int) : 0 ≤ cntL xs := by have := cntL_take_le xs 0; simpa [cntL] using this
def countB (xs : List Int) : Int := if ValidP xs then cntL xs else 0

/-- the places of j, in order -/
def posL (j : Int) (xs : List Int) : List Int := (xs.zipIdx.filter (fun p => p.1 = j)).map fun p => (p.2 : Int)
theorem posL_snoc (j : Int) (xs : List Int) (x : Int) : posL j (xs ++ [x]) = if x = j then posL j xs ++ [(xs.length : Int)] else posL j xs := by
  unfold posL
  rw [List.zipIdx_append]
  by_cases h : x = j <;> simp [h]
theorem posL_mem (j : Int) (xs : List Int) : ∀ i, i ∈ posL j xs ↔ 0 ≤ i ∧ i < xs.length ∧ xs.getD i.toNat 0 = j := by
  induction xs using snoc_ind with
  | h0 => intro i; simp [posL]; omega
  | hs l a ih =>
    intro i
    rw [posL_snoc]
    have e : ∀ m : Nat, m < l.length → (l ++ [a]).getD m 0 = l.getD m 0 := fun m hm => by simp [List.getD_eq_getElem?_getD, List.getElem?_append_left hm]
    have e2 : (l ++ [a]).getD l.length 0 = a := by simp [List.getD_eq_getElem?_getD]
    by_cases h : a = j
    · rw [if_pos h, List.mem_append, ih]
      constructor
      · rintro (⟨h1, h2, h3⟩ | h')
        · exact ⟨h1, by simp; omega, by rw [e _ (by omega)]; exact h3⟩
        · simp at h'; subst h'; exact ⟨by omega, by simp; omega, by simpa [e2] using h⟩
      · rintro ⟨h1, h2, h3⟩
        by_cases hl : i < l.length
        · rw [e _ (by omega)] at h3; exact .inl ⟨h1, hl, h3⟩
        · right; simp at h2 ⊢; omega
    · rw [if_neg h, ih]
      constructor
      · rintro ⟨h1, h2, h3⟩; exact ⟨h1, by simp; omega, by rw [e _ (by omega)]; exact h3⟩
      · rintro ⟨h1, h2, h3⟩
        by_cases hl : i < l.length
        · rw [e _ (by omega)] at h3; exact ⟨h1, hl, h3⟩
        · have : i.toNat = l.length := by simp at h2; omega
          rw [this, e2] at h3; exact absurd h3 h
def clsK (c : Nat) (xs : List Int) : List (List Int) := (List.range c).map fun (j : Nat) => posL (j : Int) xs
theorem clsK_length (c : Nat) (xs : List Int) : (clsK c xs).length = c := by simp [clsK]
theorem clsK_get {c : Nat} {xs : List Int} {j : Nat} (h : j < c) : (clsK c xs).getD j [] = posL j xs := by simp [clsK, List.getD_eq_getElem?_getD, h]
theorem clsK_nil (c : Nat) : clsK c [] = List.replicate c [] := by
  apply List.ext_getElem?
  intro i
  by_cases h : i < c <;> simp [clsK, posL, h]
theorem clsK_snoc {c : Nat} {xs : List Int} {x : Int} (h : 0 ≤ x ∧ x < c) : clsK c (xs ++ [x]) = (clsK c xs).set x.toNat ((clsK c xs).getD x.toNat [] ++ [(xs.length : Int)]) := by
  rw [clsK_get (by omega)]
  apply List.ext_getElem?
  intro i
  rw [List.getElem?_set]
  by_cases hi : i < c
  · by_cases hx : x.toNat = i
    · rw [if_pos hx, if_pos (by rw [clsK_length]; omega)]
      have : x = (i : Int) := by omega
      simp [clsK, hi, posL_snoc, this]
    · rw [if_neg hx]
      have : ¬ x = (i : Int) := by omega
      simp [clsK, hi, posL_snoc, this]
  · rw [if_neg (by omega)]
    simp [clsK, hi]
theorem posL_length_le (j : Int) (xs : List Int) : (posL j xs).length ≤ xs.length := by
  unfold posL
  rw [List.length_map]
  exact Nat.le_trans (List.length_filter_le _ _) (by simp)
def classB (xs : List Int) : List (List Int) := if ValidP xs then clsK (cntL xs).toNat xs else []
theorem cls_own {C : Cx} {ER EI : TypeId} {w : World} {mv : Value} {c n : Nat} {rs : List Value} {xs : List Int} {k : Nat} {x : Int} {av : Value} (hrl : rs.length = c) (hk : k < xs.length) (hxk : xs.getD k 0 = x) (hx : 0 ≤ x ∧ x < c) (hn : n = ((clsK c (xs.take k)).getD x.toNat []).length)
    (hw : HW C [row mv ER 1 c (rs.set x.toNat av), bigA ((matL EI rs (clsK c (xs.take k))).set x.toNat (row av EI 1 (n + 1) (((clsK c (xs.take k)).getD x.toNat []).map (Value.int .i64) ++ [Value.int .i64 (k : Int)])))] w) :
    HW C [row mv ER 1 c (rs.set x.toNat av), bigA (matL EI (rs.set x.toNat av) (clsK c (xs.take (k + 1))))] w := by
  rw [take_snocD 0 xs k hk, hxk, clsK_snoc hx, ← matL_set (by rw [hrl, clsK_length]) (by rw [clsK_length]; omega)]
  have hl : (xs.take k).length = k := by rw [List.length_take]; omega
  rw [hl, List.length_append, List.map_append, ← hn]
  exact hw
end Go.Sx.Pt

namespace Go.Sx.Pt
/-! ### kernels -/
section ker
variable {γ : Type} [DecidableEq γ]
theorem classB_mem {xs : List Int} (hv : ValidP xs) {a : Nat} (ha : a < (classB xs).length) : ∀ i, i ∈ (classB xs).getD a [] ↔ 0 ≤ i ∧ i < xs.length ∧ xs.getD i.toNat 0 = a := by
  unfold classB at *
  rw [if_pos hv] at *
  rw [clsK_length] at ha
  rw [clsK_get ha]
  exact posL_mem _ _
theorem classB_len {xs : List Int} (hv : ValidP xs) : (classB xs).length = (cntL xs).toNat := by unfold classB; rw [if_pos hv, clsK_length]
theorem cl_at {xs : List Int} (hv : ValidP xs) {a : Nat} (ha : a < (classB xs).length) {m : Nat} (hm : m < ((classB xs).getD a []).length) : 0 ≤ ((classB xs).getD a []).getD m 0 ∧ ((classB xs).getD a []).getD m 0 < xs.length ∧ xs.getD (((classB xs).getD a []).getD m 0).toNat 0 = a :=
  (classB_mem hv ha _).1 (mem_getD 0 hm)
theorem cl_len {xs : List Int} (hv : ValidP xs) {a : Nat} (ha : a < (classB xs).length) : ((classB xs).getD a []).length ≤ 4096 := by
  unfold classB at *
  rw [if_pos hv] at *
  rw [clsK_length] at ha
  rw [clsK_get ha]
  exact Nat.le_trans (posL_length_le _ _) hv.1
end ker

end Go.Sx.Pt

namespace Go.Sx.Pt
/-! ### relations of places -/
structure Eqv (K : Nat → Nat → Prop) : Prop where
  refl : ∀ a, K a a
  symm : ∀ a b, K a b → K b a
  trans : ∀ a b c, K a b → K b c → K a c

/-- the least equivalence over R -/
def Gen (R : Nat → Nat → Prop) (i j : Nat) : Prop := ∀ E : Nat → Nat → Prop, Eqv E → (∀ a b, R a b → E a b) → E i j
theorem Gen.eqv (R : Nat → Nat → Prop) : Eqv (Gen R) := ⟨fun a E h _ => h.refl a, fun a b h E hE hR => hE.symm _ _ (h E hE hR), fun a b c h h' E hE hR => hE.trans _ _ _ (h E hE hR) (h' E hE hR)⟩
theorem Gen.of {R : Nat → Nat → Prop} {i j : Nat} (h : R i j) : Gen R i j := fun _ _ hR => hR _ _ h
theorem Gen.mono {R R' : Nat → Nat → Prop} (h : ∀ a b, R a b → Gen R' a b) {i j : Nat} (hg : Gen R i j) : Gen R' i j := hg _ (Gen.eqv R') h
theorem Gen.le {R E : Nat → Nat → Prop} (hE : Eqv E) (h : ∀ a b, R a b → E a b) {i j : Nat} (hg : Gen R i j) : E i j := hg E hE h
theorem Gen.congr {R R' : Nat → Nat → Prop} (h : ∀ a b, R a b → Gen R' a b) (h' : ∀ a b, R' a b → Gen R a b) (i j : Nat) : Gen R i j ↔ Gen R' i j := ⟨Gen.mono h, Gen.mono h'⟩

/-- the places of xs that hold the same -/
def Ker (xs : List Int) (i j : Nat) : Prop := i = j ∨ (i < xs.length ∧ j < xs.length ∧ xs.getD i 0 = xs.getD j 0)
theorem Ker.eqv (xs : List Int) : Eqv (Ker xs) := by
  refine ⟨fun a => .inl rfl, ?_, ?_⟩
  · rintro a b (rfl | ⟨h1, h2, h3⟩)
    · exact .inl rfl
    · exact .inr ⟨h2, h1, h3.symm⟩
  · rintro a b c (rfl | ⟨h1, h2, h3⟩) (rfl | ⟨h4, h5, h6⟩)
    · exact .inl rfl
    · exact .inr ⟨h4, h5, h6⟩
    · exact .inr ⟨h1, h2, h3⟩
    · exact .inr ⟨h1, h5, h3.trans h6⟩
theorem Ker.iff {xs : List Int} {i j : Nat} (hi : i < xs.length) (hj : j < xs.length) : Ker xs i j ↔ xs.getD i 0 = xs.getD j 0 := by
  constructor
  · rintro (rfl | ⟨_, _, h⟩)
    · rfl
    · exact h
  · intro h; exact .inr ⟨hi, hj, h⟩

/-- equal kernels: equal canonical forms -/
theorem canon_of_ker {xs ys : List Int} (hl : xs.length = ys.length) (h : ∀ i j, i < xs.length → j < xs.length → (Ker xs i j ↔ Ker ys i j)) : canon xs = canon ys := by
  refine (canon_kernel xs ys hl fun i j hi hj hi' hj' => ?_).1
  have := h i j hi hj
  rw [Ker.iff hi hj, Ker.iff hi' hj'] at this
  simpa [List.getD_eq_getElem?_getD, List.getElem?_eq_getElem hi, List.getElem?_eq_getElem hj, List.getElem?_eq_getElem hi', List.getElem?_eq_getElem hj'] using this
theorem cst_inj {α : Type} [DecidableEq α] (xs : List α) : (∀ x y c, mget (cst xs).2 x = some c → mget (cst xs).2 y = some c → x = y) ∧ ∀ x c, mget (cst xs).2 x = some c → 0 ≤ c ∧ c < (cst xs).2.length := by
  have hb := (canon_canon_aux xs).2
  refine ⟨?_, hb⟩
  induction xs using snoc_ind with
  | h0 => intro x y c h; simp [cst, mget] at h
  | hs l a ih =>
    have hb' := (canon_canon_aux l).2
    have ih' := ih hb'
    cases h : mget (cst l).2 a with
    | some d => rw [cst_some h]; exact ih'
    | none =>
      rw [cst_none h]
      intro x y c hx hy
      rw [mget_mset] at hx hy
      by_cases ex : x = a <;> by_cases ey : y = a
      · rw [ex, ey]
      · rw [if_pos ex] at hx; rw [if_neg ey] at hy
        simp at hx; have := hb' y c hy; omega
      · rw [if_neg ex] at hx; rw [if_pos ey] at hy
        simp at hy; have := hb' x c hx; omega
      · rw [if_neg ex] at hx; rw [if_neg ey] at hy
        exact ih' x y c hx hy
theorem ker_canon (xs : List Int) (i j : Nat) : Ker (canon xs) i j ↔ Ker xs i j := by
  have hl := canon_length xs
  have key : ∀ i j, i < xs.length → j < xs.length → ((canon xs).getD i 0 = (canon xs).getD j 0 ↔ xs.getD i 0 = xs.getD j 0) := by
    intro i j hi hj
    obtain ⟨p1, p2⟩ := cst_mem xs
    have e1 := p2 i hi
    have e2 := p2 j hj
    obtain ⟨c1, c2⟩ := cst_inj xs
    have g1 : ∀ k (hk : k < xs.length), xs.getD k 0 = xs[k] := fun k hk => by simp [List.getD_eq_getElem?_getD, hk]
    have g2 : ∀ k (hk : k < xs.length), (canon xs)[k]? = some ((canon xs).getD k 0) := fun k hk => by simp [List.getD_eq_getElem?_getD, hl, hk]
    rw [g2 i hi] at e1
    rw [g2 j hj] at e2
    rw [g1 i hi, g1 j hj]
    constructor
    · intro h; rw [← h] at e2; exact c1 _ _ _ e1 e2
    · intro h; rw [h, e2] at e1; simpa using e1.symm
  unfold Ker
  rw [hl]
  constructor
  · rintro (h | ⟨h1, h2, h3⟩)
    · exact .inl h
    · exact .inr ⟨h1, h2, (key i j h1 h2).1 h3⟩
  · rintro (h | ⟨h1, h2, h3⟩)
    · exact .inl h
    · exact .inr ⟨h1, h2, (key i j h1 h2).2 h3⟩

/-! ### folds of unions -/
def PR (ps : List (Int × Int)) (a b : Nat) : Prop := ∃ p ∈ ps, a = p.1.toNat ∧ b = p.2.toNat
/-- one union more -/
theorem gen_step {K K' R : Nat → Nat → Prop} {i j : Nat} (hE : Eqv K') (hK : ∀ k l, K k l ↔ Gen R k l) (hs : ∀ k l, K' k l ↔ (K k l ∨ ((K k i ∨ K k j) ∧ (K l i ∨ K l j)))) (k l : Nat) : K' k l ↔ Gen (fun a b => R a b ∨ (a = i ∧ b = j)) k l := by
  have gE := Gen.eqv R
  have GE := Gen.eqv (fun a b => R a b ∨ (a = i ∧ b = j))
  have sub : ∀ a b, K a b → Gen (fun a b => R a b ∨ (a = i ∧ b = j)) a b := fun a b h => Gen.mono (fun a b h => Gen.of (.inl h)) ((hK a b).1 h)
  have hij : Gen (fun a b => R a b ∨ (a = i ∧ b = j)) i j := Gen.of (.inr ⟨rfl, rfl⟩)
  constructor
  · intro h
    rcases (hs k l).1 h with h | ⟨h1, h2⟩
    · exact sub _ _ h
    · have t1 : Gen (fun a b => R a b ∨ (a = i ∧ b = j)) k i := by
        rcases h1 with h1 | h1
        · exact sub _ _ h1
        · exact GE.trans _ _ _ (sub _ _ h1) (GE.symm _ _ hij)
      have t2 : Gen (fun a b => R a b ∨ (a = i ∧ b = j)) l i := by
        rcases h2 with h2 | h2
        · exact sub _ _ h2
        · exact GE.trans _ _ _ (sub _ _ h2) (GE.symm _ _ hij)
      exact GE.trans _ _ _ t1 (GE.symm _ _ t2)
  · intro h
    refine Gen.le hE ?_ h
    rintro a b (h | ⟨rfl, rfl⟩)
    · exact (hs a b).2 (.inl ((hK a b).2 (Gen.of h)))
    · have r1 : K a a := (hK a a).2 (gE.refl a)
      have r2 : K b b := (hK b b).2 (gE.refl b)
      exact (hs a b).2 (.inr ⟨.inl r1, .inr r2⟩)

theorem PR_snoc (ps : List (Int × Int)) (p : Int × Int) (a b : Nat) : PR (ps ++ [p]) a b ↔ (PR ps a b ∨ (a = p.1.toNat ∧ b = p.2.toNat)) := by
  unfold PR
  constructor
  · rintro ⟨q, hq, h⟩
    rcases List.mem_append.1 hq with hq | hq
    · exact .inl ⟨q, hq, h⟩
    · simp at hq; subst hq; exact .inr h
  · rintro (⟨q, hq, h⟩ | h)
    · exact ⟨q, by simp [hq], h⟩
    · exact ⟨p, by simp, h⟩

def FK (f : Nat → Nat) (i j : Nat) : Prop := f i = f j
theorem FK.eqv (f : Nat → Nat) : Eqv (FK f) := ⟨fun _ => rfl, fun _ _ h => h.symm, fun _ _ _ h h' => h.trans h'⟩

theorem ufs_gen (ps : List (Int × Int)) : ∀ k l, ufs ps k = ufs ps l ↔ Gen (PR ps) k l := by
  induction ps using snoc_ind with
  | h0 =>
    intro k l
    constructor
    · intro h; simp [ufs] at h; subst h; exact (Gen.eqv _).refl k
    · intro h; exact Gen.le (FK.eqv (ufs [])) (by rintro a b ⟨p, hp, _⟩; simp at hp) h
  | hs q p ih =>
    intro k l
    have hst : ∀ k l, FK (ufs (q ++ [p])) k l ↔ (ufs q k = ufs q l ∨ ((ufs q k = ufs q p.1.toNat ∨ ufs q k = ufs q p.2.toNat) ∧ (ufs q l = ufs q p.1.toNat ∨ ufs q l = ufs q p.2.toNat))) := by
      intro k l
      unfold FK
      rw [ufs_snoc]
      unfold ufstep
      rw [relabel]
      have key : ∀ x : Nat, (x = min (ufs q p.1.toNat) (ufs q p.2.toNat) ∨ x = max (ufs q p.1.toNat) (ufs q p.2.toNat)) ↔ (x = ufs q p.1.toNat ∨ x = ufs q p.2.toNat) := by
        intro x
        rcases Nat.le_total (ufs q p.1.toNat) (ufs q p.2.toNat) with h | h
        · rw [Nat.min_eq_left h, Nat.max_eq_right h]
        · rw [Nat.min_eq_right h, Nat.max_eq_left h]; exact Or.comm
      rw [key, key]
    have := gen_step (K := FK (ufs q)) (FK.eqv (ufs (q ++ [p]))) ih hst k l
    rw [show (ufs (q ++ [p]) k = ufs (q ++ [p]) l) = FK (ufs (q ++ [p])) k l from rfl, this]
    exact Gen.congr (fun a b h => Gen.of ((PR_snoc q p a b).2 h)) (fun a b h => Gen.of ((PR_snoc q p a b).1 h)) k l

theorem ker_rho {n : Nat} {ρ : Nat → Nat} {i j : Nat} (hi : i < n) (hj : j < n) : Ker (rhoL n ρ) i j ↔ ρ i = ρ j := by
  rw [Ker.iff (by rw [rhoL_length]; exact hi) (by rw [rhoL_length]; exact hj)]
  simp [rhoL, List.getD_eq_getElem?_getD, hi, hj]
  omega

/-! ### meet and join -/
def okPQ (xs ys : List Int) : Prop := xs.length = ys.length ∧ ValidP xs ∧ ValidP ys
instance (xs ys : List Int) : Decidable (okPQ xs ys) := inferInstanceAs (Decidable (_ ∧ _))
end Go.Sx.Pt

namespace Go.Sx.Pt
/-! ### meet and join: what the walks need -/
end Go.Sx.Pt

namespace Go.Sx.Pt
/-! ### the lattice of partitions -/
theorem ker_out {xs : List Int} {i j : Nat} (h : Ker xs i j) : i = j ∨ (i < xs.length ∧ j < xs.length) := by
  rcases h with h | ⟨h1, h2, _⟩
  · exact .inl h
  · exact .inr ⟨h1, h2⟩
/-! ### the order -/
/-! ### lists of pairs -/
theorem fromB_len {n : Int} {ps : List (Int × Int)} (h : mayP n ps) : (fromB n ps).length = n.toNat := by unfold fromB; rw [if_pos h, canon_length, rhoL_length]
theorem valid_fromB (n : Int) (ps : List (Int × Int)) : ValidP (fromB n ps) := by
  refine ⟨fromB_le n ps, ?_⟩
  unfold fromB
  split
  · exact canon_canon _
  · rfl
theorem ker_fromB {n : Int} {ps : List (Int × Int)} (h : mayP n ps) {i j : Nat} : Ker (fromB n ps) i j ↔ Gen (PR ps) i j := by
  have e : fromB n ps = canon (rhoL n.toNat (ufs ps)) := by unfold fromB; rw [if_pos h]
  have hin : ∀ a b, PR ps a b → a < n.toNat ∧ b < n.toNat := by
    rintro a b ⟨p, hp, rfl, rfl⟩
    have := h.2 p hp
    unfold okp at this
    omega
  have key : ∀ {i j}, i < n.toNat → j < n.toNat → (Ker (fromB n ps) i j ↔ Gen (PR ps) i j) := by
    intro i j hi hj
    rw [e, ker_canon, ker_rho hi hj, ufs_gen]
  constructor
  · intro hk
    rcases ker_out hk with rfl | ⟨h1, h2⟩
    · exact (Gen.eqv _).refl i
    · rw [fromB_len h] at h1 h2; exact (key h1 h2).1 hk
  · refine Gen.le (Ker.eqv _) fun a b hab => ?_
    obtain ⟨h1, h2⟩ := hin a b hab
    exact (key h1 h2).2 (Gen.of hab)
end Go.Sx.Pt

namespace Go.Sx.Pt
/-! ### uniting the states of two automata -/
def sh (m : Nat) (p : Int × Int) : Int × Int := (p.1, (m : Int) + p.2)
def UR (m : Nat) (qs : List (Int × Int)) : Nat → Nat := ufs (qs.map (sh m))
abbrev USt := List (Int × Int) × Bool
def meetS (a b : Dfa) (st : USt) (p : Int × Int) : USt :=
  if UR a.fin.length st.1 p.1.toNat = UR a.fin.length st.1 ((a.fin.length : Int) + p.2).toNat then st else (st.1 ++ [p], st.2 && (finQ a p.1 == finQ b p.2))
/-- the pairs that words lead to -/
def psL (a b : Dfa) : List (Int × Int) := (PSt a b).map (sh a.fin.length)
/-- the finest partition that is closed -/
def leastL (a b : Dfa) : List Int := fromB ((a.fin.length : Int) + b.fin.length) (psL a b)
theorem ur_gen (m : Nat) (qs : List (Int × Int)) (k l : Nat) : UR m qs k = UR m qs l ↔ Gen (PR (qs.map (sh m))) k l := ufs_gen _ k l
theorem ur_mono {m : Nat} {qs : List (Int × Int)} (p : Int × Int) {k l : Nat} (h : UR m qs k = UR m qs l) : UR m (qs ++ [p]) k = UR m (qs ++ [p]) l := by
  rw [ur_gen] at h ⊢
  refine h.mono fun x y hxy => Gen.of ?_
  rw [List.map_append]
  obtain ⟨q, hq, h1⟩ := hxy
  exact ⟨q, List.mem_append_left _ hq, h1⟩
theorem ur_mem {m : Nat} {qs : List (Int × Int)} {p : Int × Int} (h : p ∈ qs) : UR m qs p.1.toNat = UR m qs ((m : Int) + p.2).toNat := by
  rw [ur_gen]
  exact Gen.of ⟨sh m p, List.mem_map_of_mem h, rfl, rfl⟩
theorem meet_mono (a b : Dfa) (st : USt) (p : Int × Int) {k l : Nat} (h : UR a.fin.length st.1 k = UR a.fin.length st.1 l) : UR a.fin.length (meetS a b st p).1 k = UR a.fin.length (meetS a b st p).1 l := by
  unfold meetS; split
  · exact h
  · exact ur_mono p h
theorem meet_unites (a b : Dfa) (st : USt) (p : Int × Int) : UR a.fin.length (meetS a b st p).1 p.1.toNat = UR a.fin.length (meetS a b st p).1 ((a.fin.length : Int) + p.2).toNat := by
  unfold meetS; split
  · assumption
  · exact ur_mem (by simp)
theorem meet_pre (a b : Dfa) (st : USt) (p : Int × Int) : ∃ ys, (meetS a b st p).1 = st.1 ++ ys := by
  unfold meetS; split
  · exact ⟨[], by simp⟩
  · exact ⟨[p], rfl⟩
structure UInv (a b : Dfa) (i k : Nat) (st : USt) : Prop where
  reach : ∀ p ∈ st.1, ∃ l, Okw a l ∧ p = (runI a a.s l, runI b b.s l)
  nd : st.1.Nodup
  same : st.2 = true ↔ ∀ p ∈ st.1, finQ a p.1 = finQ b p.2
  start : UR a.fin.length st.1 a.s.toNat = UR a.fin.length st.1 ((a.fin.length : Int) + b.s).toNat
  clo : ∀ j x : Nat, j < st.1.length → (x : Int) < a.L → (j < i ∨ (j = i ∧ x < k)) → UR a.fin.length st.1 (stepP a b (st.1.getD j (0, 0)) x).1.toNat = UR a.fin.length st.1 ((a.fin.length : Int) + (stepP a b (st.1.getD j (0, 0)) x).2).toNat
theorem reach_in {a b : Dfa} (ha : VD a) (hb : VD b) (hL : a.L = b.L) {l : List UInt8} (hl : Okw a l) : (runI a a.s l, runI b b.s l) ∈ univ2 a.fin.length b.fin.length := by
  rw [mem_univ2]
  exact ⟨runI_inr ha l _ ha.s hl, runI_inr hb l _ hb.s ((okw_L hL).1 hl)⟩
theorem UInv.len {a b : Dfa} (ha : VD a) (hb : VD b) (hL : a.L = b.L) {i k : Nat} {st : USt} (h : UInv a b i k st) : st.1.length ≤ a.fin.length * b.fin.length := by
  rw [← univ2_len]
  refine nodup_sub_len h.nd fun y hy => ?_
  obtain ⟨l, hl, rfl⟩ := h.reach y hy
  exact reach_in ha hb hL hl
theorem UInv.bd {a b : Dfa} (ha : VD a) (hb : VD b) (hL : a.L = b.L) {i k : Nat} {st : USt} (h : UInv a b i k st) {p : Int × Int} (hp : p ∈ st.1) : (0 ≤ p.1 ∧ p.1 < a.fin.length) ∧ (0 ≤ p.2 ∧ p.2 < b.fin.length) := by
  obtain ⟨l, hl, rfl⟩ := h.reach p hp
  exact mem_univ2.1 (reach_in ha hb hL hl)
theorem UInv.meet {a b : Dfa} (ha : VD a) {i k : Nat} {st : USt} (h : UInv a b i k st) (hi : i < st.1.length) (hk : (k : Int) < a.L) : UInv a b i (k + 1) (meetS a b st (stepP a b (st.1.getD i (0, 0)) k)) := by
  have hL := ha.L
  obtain ⟨l, hl, e⟩ := h.reach _ (getD_mem (d := (0, 0)) hi)
  have hr : ∃ l, Okw a l ∧ stepP a b (st.1.getD i (0, 0)) k = (runI a a.s l, runI b b.s l) := by
    refine ⟨l ++ [ltr k], okw_snoc ha hl hk, ?_⟩
    rw [e]
    show (stepQ a _ k, stepQ b _ k) = _
    rw [runI_snoc1 _ _ _ (by omega), runI_snoc1 _ _ _ (by omega)]
  generalize hp : stepP a b (st.1.getD i (0, 0)) k = p at *
  have hm := fun u v => @meet_mono a b st p u v
  have hu := meet_unites a b st p
  obtain ⟨ys, hpre⟩ := meet_pre a b st p
  have hgd : ∀ j, j < st.1.length → (meetS a b st p).1.getD j (0, 0) = st.1.getD j (0, 0) := fun j hj => by rw [hpre]; exact getD_app _ hj
  refine ⟨?_, ?_, ?_, hm _ _ h.start, ?_⟩
  · intro q hq
    unfold meetS at hq; split at hq
    · exact h.reach q hq
    · simp only [List.mem_append, List.mem_singleton] at hq
      rcases hq with hq | rfl
      · exact h.reach q hq
      · exact hr
  · unfold meetS; split
    · exact h.nd
    · rename_i hne
      simp only []
      rw [List.nodup_append]
      refine ⟨h.nd, by simp, fun x hx y hy => ?_⟩
      rw [List.mem_singleton] at hy
      subst hy
      rintro rfl
      exact hne (ur_mem hx)
  · unfold meetS; split
    · exact h.same
    · simp only [Bool.and_eq_true, beq_iff_eq, h.same, List.mem_append, List.mem_singleton]
      constructor
      · rintro ⟨h1, h2⟩ q (hq | rfl)
        · exact h1 q hq
        · exact h2
      · exact fun h1 => ⟨fun q hq => h1 q (.inl hq), h1 p (.inr rfl)⟩
  · intro j x hj hx hjx
    have hjl : j < st.1.length := by omega
    rw [hgd j hjl]
    rcases hjx with h1 | ⟨h1, h2⟩
    · exact hm _ _ (h.clo j x hjl hx (.inl h1))
    · rcases Nat.lt_or_eq_of_le (Nat.le_of_lt_succ h2) with h3 | h3
      · exact hm _ _ (h.clo j x hjl hx (.inr ⟨h1, h3⟩))
      · subst h1; subst h3; rw [hp]; exact hu
theorem UInv.next {a b : Dfa} {i k : Nat} {st : USt} (h : UInv a b i k st) (hk : a.L ≤ k) : UInv a b (i + 1) 0 st :=
  ⟨h.reach, h.nd, h.same, h.start, fun j x hj hx hjx => h.clo j x hj hx (by rcases hjx with h1 | h1; (by_cases e : j = i; (exact .inr ⟨e, by omega⟩); exact .inl (by omega)); omega)⟩
theorem UInv.init {a b : Dfa} (ha : VD a) (hb : VD b) : meetS a b ([], true) (a.s, b.s) = ([(a.s, b.s)], finQ a a.s == finQ b b.s) ∧ UInv a b 0 0 (meetS a b ([], true) (a.s, b.s)) := by
  have h1 := ha.s
  have h2 := hb.s
  have e : meetS a b ([], true) (a.s, b.s) = ([(a.s, b.s)], finQ a a.s == finQ b b.s) := by
    unfold meetS
    rw [if_neg (by show ¬ a.s.toNat = ((a.fin.length : Int) + b.s).toNat; omega)]
    simp
  refine ⟨e, ⟨?_, ?_, ?_, meet_unites a b _ _, fun j x hj hx hjx => by omega⟩⟩
  · rw [e]; intro p hp; simp at hp; subst hp; exact ⟨[], Okw.nil, rfl⟩
  · rw [e]; simp
  · rw [e]; simp
/-! the points of both -/
def sB (a b : Dfa) (x : Nat) (u : Nat) : Nat := if u < a.fin.length then (stepQ a (u : Int) x).toNat else a.fin.length + (stepQ b ((u : Int) - a.fin.length) x).toNat
def fB (a b : Dfa) (u : Nat) : Bool := if u < a.fin.length then finQ a (u : Int) else finQ b ((u : Int) - a.fin.length)
theorem sB_l {a b : Dfa} {x : Nat} {p : Int} (hp : InR a p) : sB a b x p.toNat = (stepQ a p x).toNat := by
  have h1 := hp.1; have h2 := hp.2
  unfold sB; rw [if_pos (by omega), Int.toNat_of_nonneg h1]
theorem sB_r {a b : Dfa} (hb : VD b) {x : Nat} (hx : (x : Int) < b.L) {p : Int} (hp : InR b p) : sB a b x ((a.fin.length : Int) + p).toNat = ((a.fin.length : Int) + stepQ b p x).toNat := by
  have h1 := hp.1; have h2 := hp.2
  have h3 := (stepQ_inr hb hp hx).1
  unfold sB; rw [if_neg (by omega), Int.toNat_of_nonneg (by omega), show (a.fin.length : Int) + p - a.fin.length = p by omega]; omega
theorem fB_l {a b : Dfa} {p : Int} (hp : InR a p) : fB a b p.toNat = finQ a p := by
  have h1 := hp.1; have h2 := hp.2
  unfold fB; rw [if_pos (by omega), Int.toNat_of_nonneg h1]
theorem fB_r {a b : Dfa} {p : Int} (hp : InR b p) : fB a b ((a.fin.length : Int) + p).toNat = finQ b p := by
  have h1 := hp.1; have h2 := hp.2
  unfold fB; rw [if_neg (by omega), Int.toNat_of_nonneg (by omega), show (a.fin.length : Int) + p - a.fin.length = p by omega]
/-- a relation of points that relates the start states and is closed -/
structure Clo (a b : Dfa) (K : Nat → Nat → Prop) : Prop where
  eqv : Eqv K
  start : K a.s.toNat ((a.fin.length : Int) + b.s).toNat
  step : ∀ u v (x : Nat), (x : Int) < a.L → u < a.fin.length + b.fin.length → v < a.fin.length + b.fin.length → K u v → K (sB a b x u) (sB a b x v)
theorem Clo.word {a b : Dfa} (ha : VD a) (hb : VD b) (hL : a.L = b.L) {K : Nat → Nat → Prop} (h : Clo a b K) : ∀ (l : List UInt8) (p q : Int), InR a p → InR b q → K p.toNat ((a.fin.length : Int) + q).toNat → Okw a l → K (runI a p l).toNat ((a.fin.length : Int) + runI b q l).toNat := by
  intro l
  induction l with
  | nil => intro p q _ _ h1 _; exact h1
  | cons c l ih =>
    intro p q hp hq h1 hl
    obtain ⟨h4, h5⟩ := okw_cons.1 hl
    have hx := okB_num h4
    rw [runI_cons, runI_cons]
    have hx' : ((((c.toNat : Int) - 97).toNat : Nat) : Int) < b.L := by rw [← hL]; exact hx
    refine ih _ _ (stepQ_inr ha hp hx) (stepQ_inr hb hq hx') ?_ h5
    have p1 := hp.1; have p2 := hp.2; have q1 := hq.1; have q2 := hq.2
    have := h.step _ _ _ hx (by omega) (by omega) h1
    rw [sB_l hp, sB_r hb hx' hq] at this
    exact this
theorem psL_mem {a b : Dfa} (ha : VD a) (hb : VD b) (hL : a.L = b.L) (p : Int × Int) : p ∈ PSt a b ↔ ∃ l, Okw a l ∧ p = (runI a a.s l, runI b b.s l) := by
  have hv := ha.L
  have e : ((a.L.toNat : Nat) : Int) = a.L := by omega
  have hs := start_univ2 ha hb
  have hc := step_univ2 ha hb hL
  constructor
  · intro hp
    have hlt := posN_lt hp
    have hg := getD_posN (0, 0) hp
    obtain ⟨g1, g2⟩ := gen_fold (z := (0, 0)) (by omega) hs hc hlt
    rw [e] at g2
    refine ⟨_, g2, ?_⟩
    rw [foldW_stepP] at g1
    exact hg.symm.trans g1.symm
  · rintro ⟨l, hl, rfl⟩
    have := (gen_run (g := fun _ => true) (z := (0, 0)) a.L hs hc l (a.s, b.s) ((gen_start _).2) (by rw [e]; exact hl)).2
    rw [foldW_stepP] at this
    exact this
theorem ps_in {a b : Dfa} (ha : VD a) (hb : VD b) (hL : a.L = b.L) {p : Int × Int} (hp : p ∈ PSt a b) : InR a p.1 ∧ InR b p.2 := by
  obtain ⟨l, hl, rfl⟩ := (psL_mem ha hb hL p).1 hp
  exact mem_univ2.1 (reach_in ha hb hL hl)
theorem ps_may {a b : Dfa} (ha : VD a) (hb : VD b) (hL : a.L = b.L) : mayP ((a.fin.length : Int) + b.fin.length) (psL a b) := by
  have h1 := ha.n
  have h2 := hb.n
  refine ⟨by omega, fun p hp => ?_⟩
  unfold psL at hp
  rw [List.mem_map] at hp
  obtain ⟨q, hq, rfl⟩ := hp
  obtain ⟨⟨p1, p2⟩, q1, q2⟩ := ps_in ha hb hL hq
  unfold okp sh; dsimp only
  omega
/-- the finest closed relation -/
theorem gen_clo {a b : Dfa} (ha : VD a) (hb : VD b) (hL : a.L = b.L) : Clo a b (Gen (PR (psL a b))) := by
  refine ⟨Gen.eqv _, Gen.of ⟨sh a.fin.length (a.s, b.s), List.mem_map_of_mem ((psL_mem ha hb hL _).2 ⟨[], Okw.nil, rfl⟩), rfl, rfl⟩, ?_⟩
  intro u v x hx _ _ h
  have hE : Eqv (fun u v => Gen (PR (psL a b)) (sB a b x u) (sB a b x v)) := ⟨fun u => (Gen.eqv _).refl _, fun u v h => (Gen.eqv _).symm _ _ h, fun u v w h k => (Gen.eqv _).trans _ _ _ h k⟩
  refine Gen.le hE ?_ h
  rintro u v ⟨p, hp, rfl, rfl⟩
  unfold psL at hp
  rw [List.mem_map] at hp
  obtain ⟨q, hq, rfl⟩ := hp
  obtain ⟨i1, i2⟩ := ps_in ha hb hL hq
  show Gen _ (sB a b x q.1.toNat) (sB a b x ((a.fin.length : Int) + q.2).toNat)
  rw [sB_l i1, sB_r hb (by rw [← hL]; exact hx) i2]
  obtain ⟨l, hl, e⟩ := (psL_mem ha hb hL _).1 hq
  have hv := ha.L
  refine Gen.of ⟨sh a.fin.length (stepP a b q x), List.mem_map_of_mem ((psL_mem ha hb hL _).2 ⟨l ++ [ltr x], okw_snoc ha hl hx, ?_⟩), rfl, rfl⟩
  rw [e]
  show (stepQ a _ x, stepQ b _ x) = _
  rw [runI_snoc1 _ _ _ (by omega), runI_snoc1 _ _ _ (by omega)]
theorem Clo.ge {a b : Dfa} (ha : VD a) (hb : VD b) (hL : a.L = b.L) {K : Nat → Nat → Prop} (h : Clo a b K) {u v : Nat} (hg : Gen (PR (psL a b)) u v) : K u v := by
  refine Gen.le h.eqv ?_ hg
  rintro u v ⟨p, hp, rfl, rfl⟩
  unfold psL at hp
  rw [List.mem_map] at hp
  obtain ⟨q, hq, rfl⟩ := hp
  obtain ⟨l, hl, rfl⟩ := (psL_mem ha hb hL _).1 hq
  exact h.word ha hb hL l _ _ ha.s hb.s h.start hl
/-- closed, and alike on final states: the same words -/
theorem Clo.lng {a b : Dfa} (ha : VD a) (hb : VD b) (hL : a.L = b.L) {K : Nat → Nat → Prop} (h : Clo a b K) (hf : ∀ u v, u < a.fin.length + b.fin.length → v < a.fin.length + b.fin.length → K u v → fB a b u = fB a b v) : Lng a b := by
  intro l hl
  have h1 := h.word ha hb hL l _ _ ha.s hb.s h.start hl
  obtain ⟨⟨i1, i2⟩, i3, i4⟩ := mem_univ2.1 (reach_in ha hb hL hl)
  have h2 := hf _ _ (by omega) (by omega) h1
  rw [fB_l ⟨i1, i2⟩, fB_r ⟨i3, i4⟩] at h2
  exact h2
theorem UInv.clo' {a b : Dfa} (ha : VD a) (hb : VD b) (hL : a.L = b.L) {i : Nat} {st : USt} (h : UInv a b i 0 st) (hi : st.1.length ≤ i) : Clo a b (FK (UR a.fin.length st.1)) := by
  refine ⟨FK.eqv _, h.start, fun u v x hx _ _ hk => ?_⟩
  have hE : Eqv (fun u v => FK (UR a.fin.length st.1) (sB a b x u) (sB a b x v)) := ⟨fun u => rfl, fun u v h => Eq.symm h, fun u v w h k => Eq.trans h k⟩
  refine Gen.le hE ?_ ((ur_gen _ _ _ _).1 hk)
  rintro u v ⟨p, hp, rfl, rfl⟩
  rw [List.mem_map] at hp
  obtain ⟨q, hq, rfl⟩ := hp
  obtain ⟨i1, i2⟩ := h.bd ha hb hL hq
  show UR _ _ (sB a b x q.1.toNat) = UR _ _ (sB a b x ((a.fin.length : Int) + q.2).toNat)
  rw [sB_l i1, sB_r hb (by rw [← hL]; exact hx) i2]
  obtain ⟨j, hj, e⟩ := List.getElem_of_mem hq
  have := h.clo j x hj hx (.inl (by omega))
  rw [List.getD_eq_getElem?_getD, List.getElem?_eq_getElem hj] at this
  simp only [Option.getD_some, e] at this
  exact this
theorem UInv.fin {a b : Dfa} {i k : Nat} (ha : VD a) (hb : VD b) (hL : a.L = b.L) {st : USt} (h : UInv a b i k st) (hs : st.2 = true) {u v : Nat} (hk : FK (UR a.fin.length st.1) u v) : fB a b u = fB a b v := by
  have hE : Eqv (fun u v => fB a b u = fB a b v) := ⟨fun u => rfl, fun u v h => Eq.symm h, fun u v w h k => Eq.trans h k⟩
  refine Gen.le hE ?_ ((ur_gen _ _ _ _).1 hk)
  rintro u v ⟨p, hp, rfl, rfl⟩
  rw [List.mem_map] at hp
  obtain ⟨q, hq, rfl⟩ := hp
  obtain ⟨i1, i2⟩ := h.bd ha hb hL hq
  show fB a b q.1.toNat = fB a b ((a.fin.length : Int) + q.2).toNat
  rw [fB_l i1, fB_r i2]
  exact h.same.1 hs q hq
/-- all united: the answer -/
theorem UInv.done {a b : Dfa} (ha : VD a) (hb : VD b) (hL : a.L = b.L) {i : Nat} {st : USt} (h : UInv a b i 0 st) (hi : st.1.length ≤ i) (hs : st.2 = true) : Lng a b ∧ canon (rhoL (a.fin.length + b.fin.length) (UR a.fin.length st.1)) = leastL a b := by
  have hc := h.clo' ha hb hL hi
  refine ⟨hc.lng ha hb hL (fun u v _ _ hk => h.fin ha hb hL hs hk), ?_⟩
  unfold leastL fromB
  rw [if_pos (ps_may ha hb hL)]
  have e : ((a.fin.length : Int) + b.fin.length).toNat = a.fin.length + b.fin.length := by omega
  rw [e]
  refine canon_of_ker (by rw [rhoL_length, rhoL_length]) fun u v hu hv => ?_
  rw [rhoL_length] at hu hv
  rw [ker_rho hu hv, ker_rho hu hv, ufs_gen]
  constructor
  · intro hk
    rw [ur_gen] at hk
    refine hk.mono ?_
    rintro u v ⟨p, hp, rfl, rfl⟩
    rw [List.mem_map] at hp
    obtain ⟨q, hq, rfl⟩ := hp
    exact Gen.of ⟨sh a.fin.length q, List.mem_map_of_mem ((psL_mem ha hb hL q).2 (h.reach q hq)), rfl, rfl⟩
  · exact hc.ge ha hb hL
theorem UInv.differ {a b : Dfa} {i k : Nat} {st : USt} (h : UInv a b i k st) (hs : st.2 = false) : ¬ Lng a b := by
  intro hl
  have : ¬ st.2 = true := by rw [hs]; decide
  rw [h.same] at this
  apply this
  intro p hp
  obtain ⟨l, hok, rfl⟩ := h.reach p hp
  exact hl l hok
/-! compressing -/
theorem Rep.idem {ρ : Nat → Nat} {f : List Int} {n : Nat} (h : Rep ρ f n) : ∀ k, k < n → ρ (ρ k) = ρ k := by
  intro k
  induction k using Nat.strongRecOn with
  | _ k ih =>
    intro hk
    obtain ⟨a1, a2, a3, a4, a5⟩ := h.2 k hk
    by_cases e : f.getD k 0 = k
    · rw [a4.1 e]; exact a4.1 e
    · have := ih (f.getD k 0).toNat (by omega) (by omega)
      rw [a3] at this; exact this
theorem Rep.setRoot {ρ : Nat → Nat} {f : List Int} {n i : Nat} (h : Rep ρ f n) (hi : i < n) : Rep ρ (f.set i ((ρ i : Nat) : Int)) n := by
  refine ⟨by rw [List.length_set]; exact h.1, fun k hk => ?_⟩
  by_cases e : i = k
  · subst e
    obtain ⟨a1, a2, a3, a4, a5⟩ := h.2 i hk
    rw [getD_set_same (by rw [h.1]; exact hi)]
    refine ⟨by omega, by omega, by rw [Int.toNat_natCast]; exact h.idem i hi, by omega, a5⟩
  · rw [getD_set_other e]; exact h.2 k hk
/-- those that point to their roots -/
def AtR (ρ : Nat → Nat) (f g : List Int) (n : Nat) : Prop := ∀ j, j < n → f.getD j 0 = ((ρ j : Nat) : Int) → g.getD j 0 = ((ρ j : Nat) : Int)
theorem AtR.halve {ρ : Nat → Nat} {f g : List Int} {n i : Nat} (h : AtR ρ f g n) (hr : Rep ρ g n) (hi : i < n) : AtR ρ f (g.set i (g.getD (g.getD i 0).toNat 0)) n := by
  intro j hj hf
  have hg := h j hj hf
  by_cases e : i = j
  · subst e
    rw [getD_set_same (by rw [hr.1]; exact hi), hg, Int.toNat_natCast]
    have hlt : ρ i < n := by have := (hr.2 i hi).2.2.2.2; omega
    exact (hr.2 (ρ i) hlt).2.2.2.1.2 (hr.idem i hi)
  · rw [getD_set_other e]; exact hg
theorem all_root {ρ : Nat → Nat} {f : List Int} {n : Nat} (hl : f.length = n) (h : ∀ j, j < n → f.getD j 0 = ((ρ j : Nat) : Int)) : f = rhoL n ρ := by
  apply List.ext_getElem
  · rw [rhoL_length]; exact hl
  · intro j h1 h2
    have := h j (by omega)
    rw [List.getD_eq_getElem?_getD, List.getElem?_eq_getElem h1] at this
    simp only [Option.getD_some] at this
    rw [this]
    simp [rhoL]
end Go.Sx.Pt

namespace Go.Sx.Pt
/-! ### the least word that tells two automata apart -/
def DifD (a b : Dfa) (op : Int) : List UInt8 × Bool := SrcV (stepP a b) a.L.toNat (a.s, b.s) (0, 0) (univ2 a.fin.length b.fin.length).length (finP a b op)
theorem pairE_zero {a b : Dfa} (h : pairE a b = 0) : VD a ∧ VD b ∧ a.L = b.L := by
  unfold pairE at h
  rw [← errV_iff, ← errV_iff]
  by_cases h1 : errV a = 0 <;> by_cases h2 : errV b = 0 <;> by_cases h3 : a.L = b.L <;> simp_all
theorem pairE_mk {a b : Dfa} (ha : VD a) (hb : VD b) (hL : a.L = b.L) : pairE a b = 0 := by
  unfold pairE
  simp only [(errV_iff a).2 ha, (errV_iff b).2 hb, hL, ne_eq, not_true_eq_false, if_false]
theorem byB6 (u v : Bool) : byB 6 u v = (u != v) := by cases u <;> cases v <;> decide
theorem finP6 (a b : Dfa) (p : Int × Int) : finP a b 6 p = (finQ a p.1 != finQ b p.2) := byB6 _ _
theorem dif_spec {a b : Dfa} (ha : VD a) (hb : VD b) (hL : a.L = b.L) (op : Int) :
    ((DifD a b op).2 = true → Okw a (DifD a b op).1 ∧ byB op (finQ a (runI a a.s (DifD a b op).1)) (finQ b (runI b b.s (DifD a b op).1)) = true) ∧
    (∀ l, Okw a l → byB op (finQ a (runI a a.s l)) (finQ b (runI b b.s l)) = true → (DifD a b op).2 = true ∧ sle (DifD a b op).1 l) := by
  have hv := ha.L
  have e : ((a.L.toNat : Nat) : Int) = a.L := by omega
  have h := src_spec (f := stepP a b) (L := a.L.toNat) (z := (0, 0)) (wd := finP a b op) (by omega) (start_univ2 ha hb) (step_univ2 ha hb hL)
  rw [e] at h
  have hw : ∀ l, finP a b op (foldW (stepP a b) (a.s, b.s) l) = byB op (finQ a (runI a a.s l)) (finQ b (runI b b.s l)) := fun l => by rw [foldW_stepP]; rfl
  refine ⟨fun h2 => ?_, fun l hl hne => h.2 l hl (by rw [hw]; exact hne)⟩
  obtain ⟨h3, h4⟩ := h.1 h2
  rw [hw] at h4
  exact ⟨h3, h4⟩
theorem dif_false {a b : Dfa} {op : Int} (h : (DifD a b op).2 = false) : (DifD a b op).1 = [] := by
  unfold DifD SrcV at *
  split at h
  · cases h
  · rfl
theorem dif6_iff {a b : Dfa} (ha : VD a) (hb : VD b) (hL : a.L = b.L) : (DifD a b 6).2 = false ↔ Lng a b := by
  obtain ⟨h1, h2⟩ := dif_spec ha hb hL 6
  constructor
  · intro h l hl
    apply Classical.byContradiction
    intro hne
    have := (h2 l hl (by rw [byB6]; simpa using hne)).1
    rw [h] at this; cases this
  · intro h
    cases e : (DifD a b 6).2 with
    | false => rfl
    | true =>
      obtain ⟨h3, h4⟩ := h1 e
      rw [byB6, h _ h3] at h4
      simp at h4
/-! ### both automata as one -/
def bothD (a b : Dfa) : Dfa := ⟨a.L, a.s, a.fin ++ b.fin, a.nx ++ b.nx.map fun r => r.map fun t => (a.fin.length : Int) + t⟩
theorem both_nl {a b : Dfa} (ha : VD a) {i : Nat} (hi : i < a.fin.length) : (bothD a b).nx.getD i [] = a.nx.getD i [] := by
  show (a.nx ++ _).getD i [] = _
  exact getD_app _ (by rw [ha.nx]; exact hi)
theorem getD_mapN {α β : Type} (f : α → β) {l : List α} {i : Nat} {d : α} {e : β} (hi : i < l.length) : (l.map f).getD i e = f (l.getD i d) := by
  simp [List.getD_eq_getElem?_getD, hi]
theorem getD_right {α : Type} {xs ys : List α} {d : α} (i : Nat) : (xs ++ ys).getD (xs.length + i) d = ys.getD i d := by
  simp [List.getD_eq_getElem?_getD, List.getElem?_append_right]
theorem both_nr {a b : Dfa} (ha : VD a) (hb : VD b) {i : Nat} (hi : i < b.fin.length) : (bothD a b).nx.getD (a.fin.length + i) [] = (b.nx.getD i []).map fun t => (a.fin.length : Int) + t := by
  show (a.nx ++ _).getD _ [] = _
  rw [← ha.nx, getD_right, getD_mapN _ (d := []) (by rw [hb.nx]; exact hi), ha.nx]
theorem both_step {a b : Dfa} (ha : VD a) (hb : VD b) (hL : a.L = b.L) {u : Nat} (hu : u < a.fin.length + b.fin.length) {x : Nat} (hx : (x : Int) < a.L) : stepQ (bothD a b) (u : Int) x = ((sB a b x u : Nat) : Int) := by
  unfold stepQ sB
  rw [Int.toNat_natCast]
  split
  · rename_i h
    rw [both_nl ha h]
    have := (stepQ_inr ha (q := (u : Int)) ⟨by omega, by omega⟩ hx).1
    unfold stepQ at this ⊢
    rw [Int.toNat_natCast] at this ⊢
    omega
  · rename_i h
    obtain ⟨i, rfl⟩ : ∃ i, u = a.fin.length + i := ⟨u - a.fin.length, by omega⟩
    rw [both_nr ha hb (by omega)]
    have hr := hb.row i (by omega)
    rw [getD_mapN _ (d := 0) (by omega)]
    have := (stepQ_inr hb (q := (i : Int)) ⟨by omega, by omega⟩ (by rw [← hL]; exact hx)).1
    unfold stepQ at this ⊢
    rw [Int.toNat_natCast] at this
    have e : (((a.fin.length + i : Nat) : Int) - a.fin.length).toNat = i := by omega
    rw [e]
    omega
theorem sB_lt {a b : Dfa} (ha : VD a) (hb : VD b) (hL : a.L = b.L) {u : Nat} (hu : u < a.fin.length + b.fin.length) {x : Nat} (hx : (x : Int) < a.L) : sB a b x u < a.fin.length + b.fin.length := by
  unfold sB
  split
  · rename_i h
    have := stepQ_inr ha (q := (u : Int)) ⟨by omega, by omega⟩ hx
    have h1 := this.1; have h2 := this.2
    omega
  · rename_i h
    have := stepQ_inr hb (q := (u : Int) - a.fin.length) ⟨by omega, by omega⟩ (by rw [← hL]; exact hx)
    have h1 := this.1; have h2 := this.2
    omega
/-! ### the answers -/
def FindB (a b : Dfa) : Bool := decide (pairE a b = 0) && !(DifD a b 6).2
def FindW (a b : Dfa) : List UInt8 := if pairE a b = 0 then (DifD a b 6).1 else []
def FindP (a b : Dfa) : List Int := if FindB a b = true then leastL a b else []
theorem leastL_len {a b : Dfa} (ha : VD a) (hb : VD b) (hL : a.L = b.L) : (leastL a b).length = a.fin.length + b.fin.length := by
  unfold leastL; rw [fromB_len (ps_may ha hb hL)]; omega
theorem find_bad {a b : Dfa} (h : pairE a b ≠ 0) : FindB a b = false ∧ FindW a b = [] ∧ FindP a b = [] := by
  have h1 : FindB a b = false := by unfold FindB; rw [decide_eq_false h]; rfl
  exact ⟨h1, if_neg h, by unfold FindP; rw [h1]; rfl⟩
theorem find_ok {a b : Dfa} (h : pairE a b = 0) : FindB a b = !(DifD a b 6).2 ∧ FindW a b = (DifD a b 6).1 := ⟨by unfold FindB; rw [decide_eq_true h]; rfl, if_pos h⟩
theorem find_iff {a b : Dfa} (h : pairE a b = 0) : FindB a b = true ↔ Lng a b := by
  obtain ⟨ha, hb, hL⟩ := pairE_zero h
  rw [(find_ok h).1, ← dif6_iff ha hb hL]
  simp
end Go.Sx.Pt

namespace Go.Sx.Pt
/-! ### merging classes -/
/-! ### checking -/
structure ChkP (a b : Dfa) (p : List Int) : Prop where
  ok : pairE a b = 0
  len : p.length = a.fin.length + b.fin.length
  valid : ValidP p
  start : p.getD a.s.toNat 0 = p.getD ((a.fin.length : Int) + b.s).toNat 0
  fin : ∀ u v, u < a.fin.length + b.fin.length → v < a.fin.length + b.fin.length → p.getD u 0 = p.getD v 0 → fB a b u = fB a b v
  step : ∀ u v (x : Nat), (x : Int) < a.L → u < a.fin.length + b.fin.length → v < a.fin.length + b.fin.length → p.getD u 0 = p.getD v 0 → p.getD (sB a b x u) 0 = p.getD (sB a b x v) 0
theorem ChkP.clo {a b : Dfa} {p : List Int} (h : ChkP a b p) : Clo a b (Ker p) := by
  obtain ⟨ha, hb, hL⟩ := pairE_zero h.ok
  have h1 := ha.s
  have h2 := hb.s
  have hl := h.len
  refine ⟨Ker.eqv p, (Ker.iff (by omega) (by omega)).2 h.start, fun u v x hx hu hv hk => ?_⟩
  rw [Ker.iff (by rw [hl]; exact sB_lt ha hb hL hu hx) (by rw [hl]; exact sB_lt ha hb hL hv hx)]
  exact h.step u v x hx hu hv ((Ker.iff (by omega) (by omega)).1 hk)
theorem chk_find {a b : Dfa} (h : pairE a b = 0) (hf : FindB a b = true) : ChkP a b (FindP a b) := by
  obtain ⟨ha, hb, hL⟩ := pairE_zero h
  have h1 := ha.s
  have h2 := hb.s
  have hlng := (find_iff h).1 hf
  have e : FindP a b = leastL a b := if_pos hf
  have hl := leastL_len ha hb hL
  have hm := ps_may ha hb hL
  have hk : ∀ u v, u < a.fin.length + b.fin.length → v < a.fin.length + b.fin.length → ((leastL a b).getD u 0 = (leastL a b).getD v 0 ↔ Gen (PR (psL a b)) u v) := fun u v hu hv => by
    rw [← ker_fromB hm, ← Ker.iff (by omega) (by omega)]; rfl
  have hc := gen_clo ha hb hL
  rw [e]
  refine ⟨h, hl, valid_fromB _ _, (hk _ _ (by omega) (by omega)).2 hc.start, fun u v hu hv he => ?_, fun u v x hx hu hv he => ?_⟩
  · have hE : Eqv (fun u v => fB a b u = fB a b v) := ⟨fun u => rfl, fun u v h => Eq.symm h, fun u v w h k => Eq.trans h k⟩
    refine Gen.le hE ?_ ((hk u v hu hv).1 he)
    rintro u v ⟨p, hp, rfl, rfl⟩
    unfold psL at hp
    rw [List.mem_map] at hp
    obtain ⟨q, hq, rfl⟩ := hp
    obtain ⟨i1, i2⟩ := ps_in ha hb hL hq
    obtain ⟨l, hl2, rfl⟩ := (psL_mem ha hb hL _).1 hq
    show fB a b (runI a a.s l).toNat = fB a b ((a.fin.length : Int) + runI b b.s l).toNat
    rw [fB_l i1, fB_r i2]
    exact hlng l hl2
  · exact (hk _ _ (sB_lt ha hb hL hu hx) (sB_lt ha hb hL hv hx)).2 (hc.step u v x hx hu hv ((hk u v hu hv).1 he))
end Go.Sx.Pt

namespace Go.Sx.Pt
theorem both_row {a b : Dfa} (ha : VD a) (hb : VD b) (hL : a.L = b.L) {i : Nat} (hi : i < a.fin.length + b.fin.length) : (((bothD a b).nx.getD i []).length : Int) = a.L := by
  rcases Nat.lt_or_ge i a.fin.length with h | h
  · rw [both_nl ha h]; exact ha.row i h
  · obtain ⟨j, rfl⟩ : ∃ j, i = a.fin.length + j := ⟨i - a.fin.length, by omega⟩
    rw [both_nr ha hb (by omega), List.length_map, hb.row j (by omega)]; exact hL.symm
/-- what has been compared: all pairs before (i, j), of (i, j) the letters before x -/
def CkD (a b : Dfa) (p : List Int) (u v : Nat) : Prop := p.getD u 0 = p.getD v 0 → fB a b u = fB a b v ∧ ∀ x : Nat, (x : Int) < a.L → p.getD (sB a b x u) 0 = p.getD (sB a b x v) 0
theorem chk_all {a b : Dfa} {p : List Int} (hE : pairE a b = 0) (hl : p.length = a.fin.length + b.fin.length) (hv : ValidP p) (hs : p.getD a.s.toNat 0 = p.getD ((a.fin.length : Int) + b.s).toNat 0) (h : ∀ i j, i < a.fin.length + b.fin.length → j < i → CkD a b p i j) : ChkP a b p := by
  refine ⟨hE, hl, hv, hs, fun u v hu hv' he => ?_, fun u v x hx hu hv' he => ?_⟩
  · rcases Nat.lt_trichotomy u v with h1 | rfl | h1
    · exact ((h v u hv' h1 he.symm).1).symm
    · rfl
    · exact (h u v hu h1 he).1
  · rcases Nat.lt_trichotomy u v with h1 | rfl | h1
    · exact ((h v u hv' h1 he.symm).2 x hx).symm
    · rfl
    · exact (h u v hu h1 he).2 x hx
end Go.Sx.Pt
namespace Go.Sx.Pt
/-- of the class c, its first member and its member m agree -/
def Pk (a b : Dfa) (p : List Int) (c m : Nat) : Prop := fB a b (((classB p).getD c []).getD 0 0).toNat = fB a b (((classB p).getD c []).getD m 0).toNat ∧ ∀ x : Nat, (x : Int) < a.L → p.getD (sB a b x (((classB p).getD c []).getD 0 0).toNat) 0 = p.getD (sB a b x (((classB p).getD c []).getD m 0).toNat) 0
theorem Pk.refl (a b : Dfa) (p : List Int) (c : Nat) : Pk a b p c 0 := ⟨rfl, fun _ _ => rfl⟩
theorem in_class {p : List Int} (hv : ValidP p) {u : Nat} (hu : u < p.length) : (p.getD u 0).toNat < (classB p).length ∧ ∃ m, m < ((classB p).getD (p.getD u 0).toNat []).length ∧ ((classB p).getD (p.getD u 0).toNat []).getD m 0 = (u : Int) := by
  obtain ⟨c1, c2, c3⟩ := valid_cnt hv
  have hm := c3 _ (mem_getD 0 hu)
  have hlt : (p.getD u 0).toNat < (classB p).length := by rw [classB_len hv]; omega
  refine ⟨hlt, ?_⟩
  have : (u : Int) ∈ (classB p).getD (p.getD u 0).toNat [] := (classB_mem hv hlt _).2 ⟨by omega, by omega, by rw [Int.toNat_natCast]; omega⟩
  obtain ⟨m, hm', e⟩ := List.getElem_of_mem this
  exact ⟨m, hm', by rw [List.getD_eq_getElem?_getD, List.getElem?_eq_getElem hm']; exact e⟩
theorem chk_cls {a b : Dfa} {p : List Int} (hE : pairE a b = 0) (hl : p.length = a.fin.length + b.fin.length) (hv : ValidP p) (hs : p.getD a.s.toNat 0 = p.getD ((a.fin.length : Int) + b.s).toNat 0) (h : ∀ c m, c < (classB p).length → m < ((classB p).getD c []).length → Pk a b p c m) : ChkP a b p := by
  refine chk_all hE hl hv hs fun i j hi hj he => ?_
  obtain ⟨i1, mi, i2, i3⟩ := in_class hv (show i < p.length by omega)
  obtain ⟨j1, mj, j2, j3⟩ := in_class hv (show j < p.length by omega)
  rw [← he] at j1 j2 j3
  have hi' := h _ _ i1 i2
  have hj' := h _ _ j1 j2
  unfold Pk at hi' hj'
  rw [i3, Int.toNat_natCast] at hi'
  rw [j3, Int.toNat_natCast] at hj'
  exact ⟨hi'.1.symm.trans hj'.1, fun x hx => (hi'.2 x hx).symm.trans (hj'.2 x hx)⟩
theorem chk_pk {a b : Dfa} {p : List Int} (h : ChkP a b p) {c m : Nat} (hc : c < (classB p).length) (hm : m < ((classB p).getD c []).length) : Pk a b p c m := by
  obtain ⟨u1, u2, u3⟩ := cl_at h.valid hc (show 0 < _ by omega)
  obtain ⟨v1, v2, v3⟩ := cl_at h.valid hc hm
  have hl := h.len
  have e : p.getD (((classB p).getD c []).getD 0 0).toNat 0 = p.getD (((classB p).getD c []).getD m 0).toNat 0 := by rw [u3, v3]
  exact ⟨h.fin _ _ (by omega) (by omega) e, fun x hx => h.step _ _ x hx (by omega) (by omega) e⟩
end Go.Sx.Pt
namespace Go.Sx.Pt
theorem valid_onto {xs : List Int} (h : ValidP xs) {c : Int} (h0 : 0 ≤ c) (h1 : c < cntL xs) : c ∈ xs := by
  obtain ⟨k, hk⟩ := Option.isSome_iff_exists.1 ((vst_iff xs).2 h.2)
  have e := (cntL_vst xs k hk).1
  have h2 := ((vst_ok xs).1 k hk).2.2 c
  rw [if_pos ⟨h0, by omega⟩] at h2
  apply Classical.byContradiction
  intro hn
  rw [((cst_mem xs).1 c).2 hn] at h2
  cases h2
theorem class_pos {p : List Int} (hv : ValidP p) {c : Nat} (hc : c < (classB p).length) : 0 < ((classB p).getD c []).length := by
  have hl := classB_len hv
  obtain ⟨c1, c2, c3⟩ := valid_cnt hv
  have hm := valid_onto hv (c := (c : Int)) (by omega) (by omega)
  obtain ⟨i, hi, e⟩ := List.getElem_of_mem hm
  have : (i : Int) ∈ (classB p).getD c [] := (classB_mem hv hc _).2 ⟨by omega, by omega, by rw [Int.toNat_natCast, List.getD_eq_getElem?_getD, List.getElem?_eq_getElem hi]; exact e⟩
  exact List.length_pos_of_mem this
end Go.Sx.Pt
