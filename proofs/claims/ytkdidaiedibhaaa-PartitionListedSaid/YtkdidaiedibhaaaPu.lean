import Derived.Test.YtkdidaiedibhaaaSv
namespace Go.Sx
/-! ### plain: partitions -/
theorem snoc_ind {α : Type} {p : List α → Prop} (h0 : p []) (hs : ∀ l a, p l → p (l ++ [a])) (l : List α) : p l := by
  have : ∀ r : List α, p r.reverse := by
    intro r
    induction r with
    | nil => exact h0
    | cons a r ih => rw [List.reverse_cons]; exact hs _ a ih
  have := this l.reverse
  rwa [List.reverse_reverse] at this

section canon
variable {α : Type} [DecidableEq α]

def cstep (s : List Int × List (α × Int)) (x : α) : List Int × List (α × Int) :=
  match mget s.2 x with
  | some c => (s.1 ++ [c], s.2)
  | none => (s.1 ++ [(s.2.length : Int)], mset s.2 x s.2.length)
def cst (xs : List α) : List Int × List (α × Int) := xs.foldl cstep ([], [])
def canon (xs : List α) : List Int := (cst xs).1

theorem cst_snoc (xs : List α) (x : α) : cst (xs ++ [x]) = cstep (cst xs) x := by simp [cst]
theorem cst_some {xs : List α} {x : α} {c : Int} (h : mget (cst xs).2 x = some c) : cst (xs ++ [x]) = ((cst xs).1 ++ [c], (cst xs).2) := by rw [cst_snoc]; simp [cstep, h]
theorem cst_none {xs : List α} {x : α} (h : mget (cst xs).2 x = none) : cst (xs ++ [x]) = ((cst xs).1 ++ [((cst xs).2.length : Int)], mset (cst xs).2 x (cst xs).2.length) := by rw [cst_snoc]; simp [cstep, h]
theorem canon_length (xs : List α) : (canon xs).length = xs.length := by
  induction xs using snoc_ind with
  | h0 => rfl
  | hs l a ih =>
    unfold canon at *
    cases h : mget (cst l).2 a with
    | none => rw [cst_none h]; simp [ih]
    | some c => rw [cst_some h]; simp [ih]
theorem cst_le (xs : List α) : (cst xs).2.length ≤ xs.length := by
  induction xs using snoc_ind with
  | h0 => simp [cst]
  | hs l a ih =>
    cases h : mget (cst l).2 a with
    | none => rw [cst_none h, length_mset]; simp [h]; omega
    | some c => rw [cst_some h]; simp; omega
end canon

section walk
variable {α : Type} [DecidableEq α] (d : α) {xs : List α} {k : Nat}
theorem cst_map_none (hk : (k : Int) < xs.length) (h : (mget (cst (xs.take k)).2 (xs.getD k d)).isSome = false) : (cst (xs.take (k + 1))).2 = mset (cst (xs.take k)).2 (xs.getD k d) (cst (xs.take k)).2.length := by
  have h' : mget (cst (xs.take k)).2 (xs.getD k d) = none := by simpa using h
  rw [take_snocD d xs k (by omega), cst_none h']
theorem cst_map_some (hk : (k : Int) < xs.length) (h : (mget (cst (xs.take k)).2 (xs.getD k d)).isSome = true) : (cst (xs.take (k + 1))).2 = (cst (xs.take k)).2 := by
  obtain ⟨c, hc⟩ := Option.isSome_iff_exists.1 h
  rw [take_snocD d xs k (by omega), cst_some hc]
theorem cst_len_none (hk : (k : Int) < xs.length) (h : (mget (cst (xs.take k)).2 (xs.getD k d)).isSome = false) : (((cst (xs.take k)).2.length : Int) + 1) = ((cst (xs.take (k + 1))).2.length : Nat) := by
  rw [cst_map_none d hk h, length_mset, h]; simp
theorem cst_len_some (hk : (k : Int) < xs.length) (h : (mget (cst (xs.take k)).2 (xs.getD k d)).isSome = true) : ((cst (xs.take k)).2.length : Int) = ((cst (xs.take (k + 1))).2.length : Nat) := by
  rw [cst_map_some d hk h]
theorem canon_fill_none (hk : (k : Int) < xs.length) (h : (mget (cst (xs.take k)).2 (xs.getD k d)).isSome = false) :
    ((canon (xs.take k) ++ List.replicate (xs.length - k) 0).map (Value.int .i64)).set k (.int .i64 ((cst (xs.take k)).2.length : Nat)) = (canon (xs.take (k + 1)) ++ List.replicate (xs.length - (k + 1)) 0).map (Value.int .i64) := by
  have h' : mget (cst (xs.take k)).2 (xs.getD k d) = none := by simpa using h
  rw [fill_set (Value.int .i64) _ 0 _ xs.length k (by rw [canon_length, List.length_take]; omega) (by omega)]
  rw [take_snocD d xs k (by omega)]
  unfold canon
  rw [cst_none h']
theorem canon_fill_some (hk : (k : Int) < xs.length) (h : (mget (cst (xs.take k)).2 (xs.getD k d)).isSome = true) :
    ((canon (xs.take k) ++ List.replicate (xs.length - k) 0).map (Value.int .i64)).set k (.int .i64 ((mget (cst (xs.take k)).2 (xs.getD k d)).getD 0)) = (canon (xs.take (k + 1)) ++ List.replicate (xs.length - (k + 1)) 0).map (Value.int .i64) := by
  obtain ⟨c, hc⟩ := Option.isSome_iff_exists.1 h
  rw [fill_set (Value.int .i64) _ 0 _ xs.length k (by rw [canon_length, List.length_take]; omega) (by omega)]
  rw [take_snocD d xs k (by omega)]
  unfold canon
  rw [cst_some hc, hc]
  rfl
end walk

/-- what Canonical answers -/
def canonB {α : Type} [DecidableEq α] (xs : List α) : List Int := if xs.length ≤ 4096 then canon xs else []

def vstep (o : Option Int) (x : Int) : Option Int := match o with
  | none => none
  | some c => if x < 0 ∨ c < x then none else if x = c then some (c + 1) else some c
def vst (xs : List Int) : Option Int := xs.foldl vstep (some 0)
theorem vst_snoc (xs : List Int) (x : Int) : vst (xs ++ [x]) = vstep (vst xs) x := by simp [vst]

theorem vst_ok (xs : List Int) : (∀ c, vst xs = some c → canon xs = xs ∧ ((cst xs).2.length : Int) = c ∧ ∀ x, mget (cst xs).2 x = if 0 ≤ x ∧ x < c then some x else none) ∧ (vst xs = none → canon xs ≠ xs) := by
  induction xs using snoc_ind with
  | h0 =>
    refine ⟨fun c h => ?_, fun h => by simp [vst] at h⟩
    simp [vst] at h
    subst h
    refine ⟨rfl, by simp [cst], fun x => ?_⟩
    rw [if_neg (by omega)]; rfl
  | hs l a ih =>
    obtain ⟨ih1, ih2⟩ := ih
    have happ : ∀ (u v : List Int) (x y : Int), u.length = v.length → u ++ [x] = v ++ [y] → u = v ∧ x = y := fun u v x y hl h => by
      have := List.append_inj h hl
      exact ⟨this.1, by simpa using this.2⟩
    have hlen := canon_length l
    cases hv : vst l with
    | none =>
      have hne := ih2 hv
      refine ⟨fun c h => by rw [vst_snoc, hv] at h; simp [vstep] at h, fun _ e => hne ?_⟩
      unfold canon at e hlen ⊢
      cases h : mget (cst l).2 a with
      | none => rw [cst_none h] at e; exact (happ _ _ _ _ hlen e).1
      | some d => rw [cst_some h] at e; exact (happ _ _ _ _ hlen e).1
    | some c =>
      obtain ⟨i1, i2, i3⟩ := ih1 c hv
      unfold canon at i1 hlen
      rw [vst_snoc, hv]
      simp only [vstep]
      have hc0 : 0 ≤ c := by omega
      by_cases hbad : a < 0 ∨ c < a
      · rw [if_pos hbad]
        refine ⟨fun d h => by simp at h, fun _ e => ?_⟩
        have hm : mget (cst l).2 a = none := by rw [i3, if_neg (by omega)]
        unfold canon at e
        rw [cst_none hm] at e
        have := (happ _ _ _ _ hlen e).2
        omega
      · rw [if_neg hbad]
        by_cases hac : a = c
        · rw [if_pos hac]
          refine ⟨fun d h => ?_, fun h => by simp at h⟩
          simp at h; subst h
          have hm : mget (cst l).2 a = none := by rw [i3, if_neg (by omega)]
          unfold canon
          rw [cst_none hm]
          refine ⟨by rw [i1, i2, hac], ?_, fun x => ?_⟩
          · rw [length_mset]; simp [hm]; omega
          · rw [mget_mset, i3]
            by_cases hx : x = a
            · rw [if_pos hx, if_pos (by omega)]; congr 1; omega
            · rw [if_neg hx]
              by_cases h0 : 0 ≤ x ∧ x < c
              · rw [if_pos h0, if_pos (by omega)]
              · rw [if_neg h0, if_neg (by omega)]
        · rw [if_neg hac]
          refine ⟨fun d h => ?_, fun h => by simp at h⟩
          simp at h; subst h
          have hm : mget (cst l).2 a = some a := by rw [i3, if_pos (by omega)]
          unfold canon
          rw [cst_some hm]
          exact ⟨by rw [i1], i2, i3⟩

theorem vst_iff (xs : List Int) : (vst xs).isSome = true ↔ canon xs = xs := by
  have h := vst_ok xs
  cases hv : vst xs with
  | none => simp; exact h.2 hv
  | some c => simp; exact (h.1 c hv).1

theorem vst_le (xs : List Int) (c : Int) (h : vst xs = some c) : 0 ≤ c ∧ c ≤ xs.length := by
  have h1 := ((vst_ok xs).1 c h).2.1
  have h2 := cst_le xs
  omega

/-- valid partitions -/
def ValidP (xs : List Int) : Prop := xs.length ≤ 4096 ∧ canon xs = xs
instance (xs : List Int) : Decidable (ValidP xs) := inferInstanceAs (Decidable (_ ∧ _))

theorem canon_canon_aux {α : Type} [DecidableEq α] (xs : List α) : vst (canon xs) = some ((cst xs).2.length : Int) ∧ ∀ x c, mget (cst xs).2 x = some c → 0 ≤ c ∧ c < (cst xs).2.length := by
  induction xs using snoc_ind with
  | h0 => exact ⟨rfl, fun x c h => by simp [cst, mget] at h⟩
  | hs l a ih =>
    obtain ⟨i1, i2⟩ := ih
    unfold canon at *
    cases h : mget (cst l).2 a with
    | none =>
      rw [cst_none h]
      refine ⟨?_, fun x c hx => ?_⟩
      · rw [vst_snoc, i1]; simp only [vstep]; rw [if_neg (by omega), if_pos trivial, length_mset]; simp [h]
      · rw [mget_mset] at hx
        rw [length_mset]; simp [h]
        split at hx
        · simp at hx; omega
        · have := i2 x c hx; omega
    | some d =>
      rw [cst_some h]
      have := i2 a d h
      refine ⟨?_, i2⟩
      rw [vst_snoc, i1]; simp only [vstep]; rw [if_neg (by omega), if_neg (by omega)]

theorem canon_canon {α : Type} [DecidableEq α] (xs : List α) : canon (canon xs) = canon xs := (vst_iff _).1 (by rw [(canon_canon_aux xs).1]; rfl)
theorem vst_none_step {xs : List Int} {k : Nat} (hk : (k : Int) < xs.length) {c : Int} (h : vst (xs.take k) = some c) (hb : xs.getD k 0 < 0 ∨ c < xs.getD k 0) : canon xs ≠ xs := by
  have hn : vst (xs.take (k + 1)) = none := by rw [take_snocD 0 xs k (by omega), vst_snoc, h]; simp only [vstep]; rw [if_pos hb]
  have hall : ∀ ys : List Int, vst (xs.take (k + 1) ++ ys) = none := by
    intro ys
    induction ys using snoc_ind with
    | h0 => simpa using hn
    | hs l a ih => rw [← List.append_assoc, vst_snoc, ih]; rfl
  have := hall (xs.drop (k + 1))
  rw [List.take_append_drop] at this
  exact (vst_ok xs).2 this
theorem vst_step {xs : List Int} {k : Nat} (hk : (k : Int) < xs.length) {c : Int} (h : vst (xs.take k) = some c) (h1 : ¬ xs.getD k 0 < 0) (h2 : ¬ c < xs.getD k 0) : vst (xs.take (k + 1)) = some (if xs.getD k 0 = c then c + 1 else c) := by
  rw [take_snocD 0 xs k (by omega), vst_snoc, h]; simp only [vstep]; rw [if_neg (by omega)]; split <;> rfl
theorem refvalid_T {xs : List Int} (h : (xs.length : Int) ≤ 4096) : decide (xs = canonB xs) = decide (ValidP xs) := by
  apply decide_eq_decide.2
  unfold ValidP canonB
  rw [if_pos (by omega)]
  constructor
  · intro e; exact ⟨by omega, e.symm⟩
  · intro e; exact e.2.symm
theorem refvalid_F {xs : List Int} (h : 4096 < (xs.length : Int)) : false = decide (ValidP xs) := by
  symm; rw [decide_eq_false_iff_not]; rintro ⟨h', _⟩; omega
theorem canonB_canonB (xs : List Int) : canonB (canonB xs) = canonB xs ∧ (canonB xs).length ≤ 4096 := by
  unfold canonB
  split
  · rename_i h
    rw [if_pos (by rw [canon_length]; exact h), canon_canon, canon_length]
    exact ⟨rfl, h⟩
  · simp; rfl
theorem valid_canonB {α : Type} [DecidableEq α] (xs : List α) : ValidP (canonB xs) := by
  unfold canonB
  split
  · rename_i h; exact ⟨by rw [canon_length]; exact h, canon_canon xs⟩
  · exact ⟨by simp, rfl⟩

/-! ### one kernel, one canonical form -/
section kernel
variable {α β : Type} [DecidableEq α] [DecidableEq β]
theorem cst_mem (xs : List α) : (∀ x, mget (cst xs).2 x = none ↔ x ∉ xs) ∧ ∀ i (h : i < xs.length), mget (cst xs).2 xs[i] = (canon xs)[i]? := by
  induction xs using snoc_ind with
  | h0 => exact ⟨fun x => by simp [cst, mget], fun i h => by simp at h⟩
  | hs l a ih =>
    obtain ⟨i1, i2⟩ := ih
    have hl := canon_length l
    unfold canon at *
    cases h : mget (cst l).2 a with
    | none =>
      have hn := (i1 a).1 h
      rw [cst_none h]
      refine ⟨fun x => ?_, fun i hi => ?_⟩
      · rw [mget_mset]
        by_cases hx : x = a
        · simp [hx]
        · simp [hx, i1]
      · rw [mget_mset]
        by_cases hil : i < l.length
        · rw [List.getElem_append_left hil, List.getElem?_append_left (by omega), ← i2 i hil, if_neg (fun e : l[i] = a => hn (by rw [← e]; exact List.getElem_mem hil))]
        · have : i = l.length := by simp at hi; omega
          subst this
          simp [hl]
    | some c =>
      rw [cst_some h]
      have hm : a ∈ l := by
        by_cases hm : a ∈ l
        · exact hm
        · rw [(i1 a).2 hm] at h; cases h
      refine ⟨fun x => ?_, fun i hi => ?_⟩
      · rw [i1]
        constructor
        · intro hx hx'
          rcases List.mem_append.1 hx' with h' | h'
          · exact hx h'
          · simp at h'; exact hx (h' ▸ hm)
        · intro hx hx'; exact hx (List.mem_append_left _ hx')
      · by_cases hil : i < l.length
        · rw [List.getElem_append_left hil, List.getElem?_append_left (by omega), ← i2 i hil]
        · have : i = l.length := by simp at hi; omega
          subst this
          simp [hl, h]

theorem canon_kernel (xs : List α) : ∀ (ys : List β), xs.length = ys.length → (∀ i j (hi : i < xs.length) (hj : j < xs.length) (hi' : i < ys.length) (hj' : j < ys.length), xs[i] = xs[j] ↔ ys[i] = ys[j]) → canon xs = canon ys ∧ (cst xs).2.length = (cst ys).2.length := by
  induction xs using snoc_ind with
  | h0 => intro ys hl _; have : ys = [] := List.eq_nil_of_length_eq_zero (by simpa using hl.symm); subst this; exact ⟨rfl, rfl⟩
  | hs l a ih =>
    intro ys hl hk
    obtain ⟨m, b, rfl⟩ : ∃ m b, ys = m ++ [b] := by
      have hne : ys ≠ [] := by intro e; subst e; simp at hl
      exact ⟨ys.dropLast, ys.getLast hne, (List.dropLast_concat_getLast hne).symm⟩
    have hlm : l.length = m.length := by simpa using hl
    have hk' : ∀ i j (hi : i < l.length) (hj : j < l.length) (hi' : i < m.length) (hj' : j < m.length), l[i] = l[j] ↔ m[i] = m[j] := fun i j hi hj hi' hj' => by
      have := hk i j (by simp; omega) (by simp; omega) (by simp; omega) (by simp; omega)
      rwa [List.getElem_append_left hi, List.getElem_append_left hj, List.getElem_append_left hi', List.getElem_append_left hj'] at this
    have hka : ∀ i (hi : i < l.length) (hi' : i < m.length), l[i] = a ↔ m[i] = b := fun i hi hi' => by
      have := hk i l.length (by simp; omega) (by simp) (by simp; omega) (by simp; omega)
      rw [List.getElem_append_left hi, List.getElem_append_left hi'] at this
      simpa [hlm] using this
    obtain ⟨e1, e2⟩ := ih m hlm hk'
    obtain ⟨p1, p2⟩ := cst_mem l
    obtain ⟨q1, q2⟩ := cst_mem m
    unfold canon at *
    by_cases hm : a ∈ l
    · obtain ⟨i, hi, rfl⟩ := List.getElem_of_mem hm
      have hb := (hka i hi (by omega)).1 rfl
      have h1 := p2 i hi
      have h2 := q2 i (by omega)
      rw [← e1, hb] at h2
      cases h : (cst l).1[i]? with
      | none => rw [h] at h1; have := (p1 _).1 h1; exact absurd hm this
      | some c =>
        rw [h] at h1 h2
        rw [cst_some h1, cst_some h2, e1]
        exact ⟨rfl, e2⟩
    · have hmb : b ∉ m := by
        intro hb
        obtain ⟨i, hi, rfl⟩ := List.getElem_of_mem hb
        exact hm ((hka i (by omega) hi).2 rfl ▸ List.getElem_mem (by omega))
      have h1 := (p1 a).2 hm
      have h2 := (q1 b).2 hmb
      rw [cst_none h1, cst_none h2, e1, e2]
      refine ⟨rfl, ?_⟩
      rw [length_mset, length_mset, h1, h2, e2]
end kernel

/-! ### forests -/
def Rep (ρ : Nat → Nat) (f : List Int) (n : Nat) : Prop := f.length = n ∧ ∀ i, i < n → 0 ≤ f.getD i 0 ∧ f.getD i 0 ≤ i ∧ ρ (f.getD i 0).toNat = ρ i ∧ (f.getD i 0 = i ↔ ρ i = i) ∧ ρ i ≤ i

theorem getD_set_same {xs : List Int} {i : Nat} (h : i < xs.length) (v : Int) : (xs.set i v).getD i 0 = v := by simp [List.getD_eq_getElem?_getD, h]
theorem getD_set_other {xs : List Int} {i j : Nat} (h : i ≠ j) (v : Int) : (xs.set i v).getD j 0 = xs.getD j 0 := by simp [List.getD_eq_getElem?_getD, List.getElem?_set_ne h]

theorem Rep.halve {ρ : Nat → Nat} {f : List Int} {n i : Nat} (h : Rep ρ f n) (hi : i < n) (hne : f.getD i 0 ≠ i) : Rep ρ (f.set i (f.getD (f.getD i 0).toNat 0)) n := by
  obtain ⟨h1, h2⟩ := h
  refine ⟨by simpa using h1, fun k hk => ?_⟩
  by_cases hki : i = k
  · subst hki
    obtain ⟨a1, a2, a3, a4, a5⟩ := h2 i hk
    obtain ⟨b1, b2, b3, b4, b5⟩ := h2 (f.getD i 0).toNat (by omega)
    rw [getD_set_same (by omega)]
    refine ⟨b1, by omega, by rw [b3, a3], ?_, a5⟩
    constructor
    · intro e; omega
    · intro e; exact absurd (a4.2 e) hne
  · rw [getD_set_other hki]; exact h2 k hk

theorem Rep.union {ρ : Nat → Nat} {f : List Int} {n i j : Nat} (h : Rep ρ f n) (hi : i < n) (hj : j < n) :
    Rep (fun k => if ρ k = max (ρ i) (ρ j) then min (ρ i) (ρ j) else ρ k) (f.set (max (ρ i) (ρ j)) ((min (ρ i) (ρ j) : Nat) : Int)) n := by
  obtain ⟨h1, h2⟩ := h
  have hri : ρ i < n := by have := (h2 i hi).2.2.2.2; omega
  have hrj : ρ j < n := by have := (h2 j hj).2.2.2.2; omega
  have idem : ∀ k, k < n → ρ (ρ k) = ρ k := by
    intro k
    induction k using Nat.strongRecOn with
    | _ k ih =>
      intro hk
      obtain ⟨a1, a2, a3, a4, a5⟩ := h2 k hk
      by_cases e : f.getD k 0 = k
      · rw [a4.1 e]; exact a4.1 e
      · have := ih (f.getD k 0).toNat (by omega) (by omega)
        rw [a3] at this; exact this
  have hii := idem i hi
  have hjj := idem j hj
  have hM : max (ρ i) (ρ j) < n := by omega
  have hρM : ρ (max (ρ i) (ρ j)) = max (ρ i) (ρ j) := by
    rcases Nat.le_total (ρ i) (ρ j) with h | h
    · rw [Nat.max_eq_right h]; exact hjj
    · rw [Nat.max_eq_left h]; exact hii
  have hρm : ρ (min (ρ i) (ρ j)) = min (ρ i) (ρ j) := by
    rcases Nat.le_total (ρ i) (ρ j) with h | h
    · rw [Nat.min_eq_left h]; exact hii
    · rw [Nat.min_eq_right h]; exact hjj
  generalize hMd : max (ρ i) (ρ j) = M at *
  generalize hmd : min (ρ i) (ρ j) = m at *
  have hmM : m ≤ M := by omega
  refine ⟨by simpa using h1, fun k hk => ?_⟩
  by_cases hkM : M = k
  · subst hkM
    rw [getD_set_same (by omega)]
    simp only [hρM, if_true, Int.toNat_natCast, hρm]
    refine ⟨by omega, by omega, ?_, ?_, hmM⟩
    · split <;> rfl
    · constructor <;> intro h <;> omega
  · rw [getD_set_other hkM]
    obtain ⟨a1, a2, a3, a4, a5⟩ := h2 k hk
    simp only [a3]
    refine ⟨a1, a2, trivial, ?_, ?_⟩
    · rw [a4]
      by_cases hb : ρ k = M
      · rw [if_pos hb]
        constructor
        · intro e; omega
        · intro e; omega
      · rw [if_neg hb]
    · split <;> omega

/-- one class for two: either way to name it, one kernel -/
theorem relabel {γ : Type} [DecidableEq γ] (a b u v : γ) : ((if u = b then a else u) = (if v = b then a else v)) ↔ (u = v ∨ ((u = a ∨ u = b) ∧ (v = a ∨ v = b))) := by
  by_cases h1 : u = b <;> by_cases h2 : v = b
  · simp [h1, h2]
  · simp only [h1, h2, if_true, if_false, or_true, true_and, or_false]
    constructor
    · intro e; exact .inr e.symm
    · rintro (e | e)
      · exact absurd e.symm h2
      · exact e.symm
  · simp only [h1, h2, if_true, if_false, or_true, and_true, or_false]
    constructor
    · intro e; exact .inr e
    · rintro (e | e)
      · first | exact absurd e h1 | exact e.elim
      · exact e
  · simp only [h1, h2, if_false, or_false]
    constructor
    · intro e; exact .inl e
    · rintro (e | ⟨e, f⟩)
      · exact e
      · rw [e, f]

def idl (n : Nat) : List Int := (List.range n).map fun (i : Nat) => ((i : Nat) : Int)
theorem idl_length (n : Nat) : (idl n).length = n := by simp [idl]
theorem idl_get {n i : Nat} (h : i < n) : (idl n).getD i 0 = i := by simp [idl, List.getD_eq_getElem?_getD, h]
theorem idl_succ (n : Nat) : idl (n + 1) = idl n ++ [(n : Int)] := by simp [idl, List.range_succ]
theorem rep_id (n : Nat) : Rep id (idl n) n := ⟨idl_length n, fun i h => by rw [idl_get h]; simp⟩
def discB (n : Int) : List Int := if 0 ≤ n ∧ n ≤ 4096 then idl n.toNat else []

def trivB (n : Int) : List Int := if 0 ≤ n ∧ n ≤ 4096 then List.replicate n.toNat 0 else []
def ufstep (ρ : Nat → Nat) (i j : Nat) : Nat → Nat := fun k => if ρ k = max (ρ i) (ρ j) then min (ρ i) (ρ j) else ρ k
def ufs (ps : List (Int × Int)) : Nat → Nat := ps.foldl (fun ρ p => ufstep ρ p.1.toNat p.2.toNat) id
theorem ufs_snoc (ps : List (Int × Int)) (p : Int × Int) : ufs (ps ++ [p]) = ufstep (ufs ps) p.1.toNat p.2.toNat := by simp [ufs]
def okp (n : Int) (p : Int × Int) : Prop := 0 ≤ p.1 ∧ p.1 < n ∧ 0 ≤ p.2 ∧ p.2 < n
instance (n : Int) (p : Int × Int) : Decidable (okp n p) := inferInstanceAs (Decidable (_ ∧ _))
def mayP (n : Int) (ps : List (Int × Int)) : Prop := (0 ≤ n ∧ n ≤ 4096) ∧ ∀ p ∈ ps, okp n p
instance (n : Int) (ps : List (Int × Int)) : Decidable (mayP n ps) := inferInstanceAs (Decidable (_ ∧ _))
def rhoL (n : Nat) (ρ : Nat → Nat) : List Int := (List.range n).map fun (i : Nat) => ((ρ i : Nat) : Int)
theorem rhoL_length (n : Nat) (ρ : Nat → Nat) : (rhoL n ρ).length = n := by simp [rhoL]
theorem rhoL_succ (n : Nat) (ρ : Nat → Nat) : rhoL (n + 1) ρ = rhoL n ρ ++ [((ρ n : Nat) : Int)] := by simp [rhoL, List.range_succ]
/-- what FromPairs answers -/
def fromB (n : Int) (ps : List (Int × Int)) : List Int := if mayP n ps then canon (rhoL n.toNat (ufs ps)) else []

theorem mem_getD {α : Type} {xs : List α} {k : Nat} (d : α) (h : k < xs.length) : xs.getD k d ∈ xs := by
  rw [List.getD_eq_getElem?_getD, List.getElem?_eq_getElem h]; exact List.getElem_mem h
theorem all_take_succ {α : Type} {P : α → Prop} {xs : List α} {k : Nat} (d : α) (h : k < xs.length) (h1 : ∀ p ∈ xs.take k, P p) (h2 : P (xs.getD k d)) : ∀ p ∈ xs.take (k + 1), P p := by
  rw [take_snocD d xs k h]
  intro p hp
  rcases List.mem_append.1 hp with hp | hp
  · exact h1 p hp
  · simp at hp; exact hp ▸ h2

/-- the reference's way -/
def mergeL (xs : List Int) (i j : Nat) : List Int := xs.map fun c => if c = xs.getD j 0 then xs.getD i 0 else c
def mfs (n : Nat) (ps : List (Int × Int)) : List Int := ps.foldl (fun xs p => mergeL xs p.1.toNat p.2.toNat) (idl n)
theorem mfs_snoc (n : Nat) (ps : List (Int × Int)) (p : Int × Int) : mfs n (ps ++ [p]) = mergeL (mfs n ps) p.1.toNat p.2.toNat := by simp [mfs]
theorem mergeL_length (xs : List Int) (i j : Nat) : (mergeL xs i j).length = xs.length := by simp [mergeL]
theorem mfs_length (n : Nat) (ps : List (Int × Int)) : (mfs n ps).length = n := by
  induction ps using snoc_ind with
  | h0 => simp [mfs, idl_length]
  | hs l a ih => rw [mfs_snoc, mergeL_length, ih]
theorem mergeL_get {xs : List Int} {i j k : Nat} (hk : k < xs.length) : (mergeL xs i j).getD k 0 = if xs.getD k 0 = xs.getD j 0 then xs.getD i 0 else xs.getD k 0 := by
  simp [mergeL, List.getD_eq_getElem?_getD, hk]

theorem ufs_mfs (n : Nat) (ps : List (Int × Int)) (hp : ∀ p ∈ ps, p.1.toNat < n ∧ p.2.toNat < n) : ∀ k l, k < n → l < n → (ufs ps k = ufs ps l ↔ (mfs n ps).getD k 0 = (mfs n ps).getD l 0) := by
  induction ps using snoc_ind with
  | h0 => intro k l hk hl; simp only [ufs, mfs, List.foldl_nil, id, idl_get hk, idl_get hl]; omega
  | hs q a ih =>
    intro k l hk hl
    have ih' := ih (fun p h => hp p (by simp [h]))
    obtain ⟨h1, h2⟩ := hp a (by simp)
    have hlen := mfs_length n q
    rw [ufs_snoc, mfs_snoc, mergeL_get (by omega), mergeL_get (by omega), relabel]
    unfold ufstep
    rw [relabel]
    have e1 := ih' k l hk hl
    have ka := ih' k _ hk h1
    have kb := ih' k _ hk h2
    have la := ih' l _ hl h1
    have lb := ih' l _ hl h2
    rw [← e1, ← ka, ← kb, ← la, ← lb]
    have key : ∀ x : Nat, (x = min (ufs q a.1.toNat) (ufs q a.2.toNat) ∨ x = max (ufs q a.1.toNat) (ufs q a.2.toNat)) ↔ (x = ufs q a.1.toNat ∨ x = ufs q a.2.toNat) := by
      intro x
      rcases Nat.le_total (ufs q a.1.toNat) (ufs q a.2.toNat) with h | h
      · rw [Nat.min_eq_left h, Nat.max_eq_right h]
      · rw [Nat.min_eq_right h, Nat.max_eq_left h]; exact Or.comm
    rw [key, key]

theorem fromB_ref {n : Int} {ps : List (Int × Int)} (h : mayP n ps) : fromB n ps = canonB (mfs n.toNat ps) := by
  unfold fromB canonB
  have hl := mfs_length n.toNat ps
  have hn := h.1
  rw [if_pos h, if_pos (by omega)]
  refine (canon_kernel _ _ (by rw [rhoL_length, hl]) fun i j hi hj hi' hj' => ?_).1
  have := ufs_mfs n.toNat ps (fun p hp => by have := h.2 p hp; unfold okp at this; omega) i j (by omega) (by omega)
  rw [rhoL_length] at hi hj
  simp only [List.getD_eq_getElem?_getD, List.getElem?_eq_getElem hi', List.getElem?_eq_getElem hj', Option.getD_some] at this
  rw [← this]
  simp only [rhoL, List.getElem_map, List.getElem_range]
  omega

theorem fromB_le (n : Int) (ps : List (Int × Int)) : (fromB n ps).length ≤ 4096 := by
  unfold fromB
  split
  · rename_i h; rw [canon_length, rhoL_length]; have := h.1; omega
  · simp
/-- Merge, behind k rounds -/
def mrgK (xs : List Int) (i j k : Nat) : List Int := (xs.take k).map (fun c => if c = xs.getD j 0 then xs.getD i 0 else c) ++ xs.drop k
theorem mrgK_zero (xs : List Int) (i j : Nat) : mrgK xs i j 0 = xs := by simp [mrgK]
theorem mrgK_full (xs : List Int) (i j : Nat) : mrgK xs i j xs.length = mergeL xs i j := by simp [mrgK, mergeL]
theorem mrgK_length (xs : List Int) (i j k : Nat) : (mrgK xs i j k).length = xs.length := by simp [mrgK]; omega
theorem mrgK_at {xs : List Int} {i j k : Nat} (hk : k < xs.length) : (mrgK xs i j k).getD k 0 = xs.getD k 0 := by
  unfold mrgK
  rw [List.getD_eq_getElem?_getD, List.getElem?_append_right (by simp; omega)]
  simp [List.getD_eq_getElem?_getD, show min k xs.length = k by omega]
theorem mrgK_succ {xs : List Int} {i j k : Nat} (hk : k < xs.length) : mrgK xs i j (k + 1) = (mrgK xs i j k).set k (if xs.getD k 0 = xs.getD j 0 then xs.getD i 0 else xs.getD k 0) := by
  unfold mrgK
  rw [List.set_append_right _ _ (by simp; omega)]
  rw [take_snocD 0 xs k hk, List.drop_eq_getElem_cons hk]
  simp [show min k xs.length = k by omega, -List.getElem_cons_drop]
theorem mrgK_set {xs : List Int} {i j k : Nat} (hk : k < xs.length) (h : (mrgK xs i j k).getD k 0 = xs.getD j 0) : (((mrgK xs i j k).map (Value.int .i64)).set k (.int .i64 (xs.getD i 0))) = (mrgK xs i j (k + 1)).map (Value.int .i64) := by
  rw [mrgK_at hk] at h
  rw [mrgK_succ hk, if_pos h, List.map_set]
theorem mrgK_skip {xs : List Int} {i j k : Nat} (hk : k < xs.length) (h : ¬ (mrgK xs i j k).getD k 0 = xs.getD j 0) : mrgK xs i j (k + 1) = mrgK xs i j k := by
  rw [mrgK_at hk] at h
  rw [mrgK_succ hk, if_neg h]
  have e := mrgK_at (i := i) (j := j) hk
  apply List.ext_getElem?
  intro m
  rw [List.getElem?_set]
  split
  · rename_i hm; subst hm
    rw [if_pos (by rw [mrgK_length]; exact hk), ← e, List.getD_eq_getElem?_getD, List.getElem?_eq_getElem (by rw [mrgK_length]; exact hk)]
    rfl
  · rfl

/-! ### classes -/
def cntL (xs : List Int) : Int := xs.foldl (fun n x => max n (x + 1)) 0
theorem cntL_snoc (xs : List Int) (x : Int) : cntL (xs ++ [x]) = max (cntL xs) (x + 1) := by simp [cntL]
theorem cntL_vst (xs : List Int) : ∀ c, vst xs = some c → cntL xs = c ∧ ∀ x ∈ xs, 0 ≤ x ∧ x < c := by
  induction xs using snoc_ind with
  | h0 => intro c h; simp [vst] at h; subst h; exact ⟨rfl, by simp⟩
  | hs l a ih =>
    intro c h
    rw [vst_snoc] at h
    cases hv : vst l with
    | none => rw [hv] at h; simp [vstep] at h
    | some d =>
      obtain ⟨i1, i2⟩ := ih d hv
      rw [hv] at h
      simp only [vstep] at h
      split at h
      · cases h
      · rename_i hb
        rw [cntL_snoc, i1]
        split at h
        · simp at h; subst h
          refine ⟨by omega, fun x hx => ?_⟩
          rcases List.mem_append.1 hx with h' | h'
          · have := i2 x h'; omega
          · simp at h'; omega
        · simp at h; subst h
          refine ⟨by omega, fun x hx => ?_⟩
          rcases List.mem_append.1 hx with h' | h'
          · exact i2 x h'
          · simp at h'; omega
theorem valid_cnt {xs : List Int} (h : ValidP xs) : 0 ≤ cntL xs ∧ cntL xs ≤ xs.length ∧ ∀ x ∈ xs, 0 ≤ x ∧ x < cntL xs := by
  have := (vst_iff xs).2 h.2
  obtain ⟨c, hc⟩ := Option.isSome_iff_exists.1 this
  obtain ⟨h1, h2⟩ := cntL_vst xs c hc
  have h3 := vst_le xs c hc
  rw [h1]; exact ⟨h3.1, h3.2, h2⟩
theorem cntL_take_le (xs : List Int) (k : Nat) : cntL (xs.take k) ≤ cntL xs := by
  have key : ∀ (l : List Int) (a : Int), a ≤ l.foldl (fun n x => max n (x + 1)) a := by
    intro l
    induction l with
    | nil => intro a; exact Int.le_refl a
    | cons x l ih => intro a; exact Int.le_trans (by omega) (ih (max a (x + 1)))
  conv => rhs; rw [← List.take_append_drop k xs]
  unfold cntL
  rw [List.foldl_append]
  exact key _ _
theorem cntL_nonneg (xs : List Int) : 0 ≤ cntL xs := by have := cntL_take_le xs 0; simpa [cntL] using this
def countB (xs : List Int) : Int := if ValidP xs then cntL xs else 0

/-- the places of j, in order -/
def posL (j : Int) (xs : List Int) : List Int := (xs.zipIdx.filter (fun p => p.1 = j)).map fun p => (p.2 : Int)
theorem posL_snoc (j : Int) (xs : List Int) (x : Int) : posL j (xs ++ [x]) = if x = j then posL j xs ++ [(xs.length : Int)] else posL j xs := by
  unfold posL
  rw [List.zipIdx_append]
  by_cases h : x = j <;> simp [h]
theorem posL_mem (j : Int) (xs : List Int) : ∀ i, i ∈ posL j xs ↔ 0 ≤ i ∧ i < xs.length ∧ xs.getD i.toNat 0 = j := by
  induction xs using snoc_ind with
  | h0 => intro i; simp [posL]; omega
  | hs l a ih =>
    intro i
    rw [posL_snoc]
    have e : ∀ m : Nat, m < l.length → (l ++ [a]).getD m 0 = l.getD m 0 := fun m hm => by simp [List.getD_eq_getElem?_getD, List.getElem?_append_left hm]
    have e2 : (l ++ [a]).getD l.length 0 = a := by simp [List.getD_eq_getElem?_getD]
    by_cases h : a = j
    · rw [if_pos h, List.mem_append, ih]
      constructor
      · rintro (⟨h1, h2, h3⟩ | h')
        · exact ⟨h1, by simp; omega, by rw [e _ (by omega)]; exact h3⟩
        · simp at h'; subst h'; exact ⟨by omega, by simp; omega, by simpa [e2] using h⟩
      · rintro ⟨h1, h2, h3⟩
        by_cases hl : i < l.length
        · rw [e _ (by omega)] at h3; exact .inl ⟨h1, hl, h3⟩
        · right; simp at h2 ⊢; omega
    · rw [if_neg h, ih]
      constructor
      · rintro ⟨h1, h2, h3⟩; exact ⟨h1, by simp; omega, by rw [e _ (by omega)]; exact h3⟩
      · rintro ⟨h1, h2, h3⟩
        by_cases hl : i < l.length
        · rw [e _ (by omega)] at h3; exact ⟨h1, hl, h3⟩
        · have : i.toNat = l.length := by simp at h2; omega
          rw [this, e2] at h3; exact absurd h3 h
def clsK (c : Nat) (xs : List Int) : List (List Int) := (List.range c).map fun (j : Nat) => posL (j : Int) xs
theorem clsK_length (c : Nat) (xs : List Int) : (clsK c xs).length = c := by simp [clsK]
theorem clsK_get {c : Nat} {xs : List Int} {j : Nat} (h : j < c) : (clsK c xs).getD j [] = posL j xs := by simp [clsK, List.getD_eq_getElem?_getD, h]
theorem clsK_nil (c : Nat) : clsK c [] = List.replicate c [] := by
  apply List.ext_getElem?
  intro i
  by_cases h : i < c <;> simp [clsK, posL, h]
theorem clsK_snoc {c : Nat} {xs : List Int} {x : Int} (h : 0 ≤ x ∧ x < c) : clsK c (xs ++ [x]) = (clsK c xs).set x.toNat ((clsK c xs).getD x.toNat [] ++ [(xs.length : Int)]) := by
  rw [clsK_get (by omega)]
  apply List.ext_getElem?
  intro i
  rw [List.getElem?_set]
  by_cases hi : i < c
  · by_cases hx : x.toNat = i
    · rw [if_pos hx, if_pos (by rw [clsK_length]; omega)]
      have : x = (i : Int) := by omega
      simp [clsK, hi, posL_snoc, this]
    · rw [if_neg hx]
      have : ¬ x = (i : Int) := by omega
      simp [clsK, hi, posL_snoc, this]
  · rw [if_neg (by omega)]
    simp [clsK, hi]
theorem posL_length_le (j : Int) (xs : List Int) : (posL j xs).length ≤ xs.length := by
  unfold posL
  rw [List.length_map]
  exact Nat.le_trans (List.length_filter_le _ _) (by simp)
def classB (xs : List Int) : List (List Int) := if ValidP xs then clsK (cntL xs).toNat xs else []
theorem cls_own {C : Cx} {w : World} {mv : Value} {c n : Nat} {rs : List Value} {xs : List Int} {k : Nat} {x : Int} {av : Value} (hrl : rs.length = c) (hk : k < xs.length) (hxk : xs.getD k 0 = x) (hx : 0 ≤ x ∧ x < c) (hn : n = ((clsK c (xs.take k)).getD x.toNat []).length)
    (hw : HW C [row mv 22 1 c (rs.set x.toNat av), bigA ((matL 3 rs (clsK c (xs.take k))).set x.toNat (row av 3 1 (n + 1) (((clsK c (xs.take k)).getD x.toNat []).map (Value.int .i64) ++ [Value.int .i64 (k : Int)])))] w) :
    HW C [row mv 22 1 c (rs.set x.toNat av), bigA (matL 3 (rs.set x.toNat av) (clsK c (xs.take (k + 1))))] w := by
  rw [take_snocD 0 xs k hk, hxk, clsK_snoc hx, ← matL_set (by rw [hrl, clsK_length]) (by rw [clsK_length]; omega)]
  have hl : (xs.take k).length = k := by rw [List.length_take]; omega
  rw [hl, List.length_append, List.map_append, ← hn]
  exact hw
end Go.Sx
