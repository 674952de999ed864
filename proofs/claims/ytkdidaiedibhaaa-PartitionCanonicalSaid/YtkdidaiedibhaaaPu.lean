import Derived.Test.YtkdidaiedibhaaaSz
namespace Go.Sx
/-! ### plain: partitions -/
theorem snoc_ind {α : Type} {p : List α → Prop} (h0 : p []) (hs : ∀ l a, p l → p (l ++ [a])) (l : List α) : p l := by
  have : ∀ r : List α, p r.reverse := by
    intro r
    induction r with
    | nil => exact h0
    | cons a r ih => rw [List.reverse_cons]; exact hs _ a ih
  have := this l.reverse
  rwa [List.reverse_reverse] at this

section canon
variable {α : Type} [DecidableEq α]

def cstep (s : List Int × List (α × Int)) (x : α) : List Int × List (α × Int) :=
  match mget s.2 x with
  | some c => (s.1 ++ [c], s.2)
  | none => (s.1 ++ [(s.2.length : Int)], mset s.2 x s.2.length)
def cst (xs : List α) : List Int × List (α × Int) := xs.foldl cstep ([], [])
def canon (xs : List α) : List Int := (cst xs).1

theorem cst_snoc (xs : List α) (x : α) : cst (xs ++ [x]) = cstep (cst xs) x := by simp [cst]
theorem cst_some {xs : List α} {x : α} {c : Int} (h : mget (cst xs).2 x = some c) : cst (xs ++ [x]) = ((cst xs).1 ++ [c], (cst xs).2) := by rw [cst_snoc]; simp [cstep, h]
theorem cst_none {xs : List α} {x : α} (h : mget (cst xs).2 x = none) : cst (xs ++ [x]) = ((cst xs).1 ++ [((cst xs).2.length : Int)], mset (cst xs).2 x (cst xs).2.length) := by rw [cst_snoc]; simp [cstep, h]
theorem canon_length (xs : List α) : (canon xs).length = xs.length := by
  induction xs using snoc_ind with
  | h0 => rfl
  | hs l a ih =>
    unfold canon at *
    cases h : mget (cst l).2 a with
    | none => rw [cst_none h]; simp [ih]
    | some c => rw [cst_some h]; simp [ih]
theorem cst_le (xs : List α) : (cst xs).2.length ≤ xs.length := by
  induction xs using snoc_ind with
  | h0 => simp [cst]
  | hs l a ih =>
    cases h : mget (cst l).2 a with
    | none => rw [cst_none h, length_mset]; simp [h]; omega
    | some c => rw [cst_some h]; simp; omega
end canon

section walk
variable {α : Type} [DecidableEq α] (d : α) {xs : List α} {k : Nat}
theorem cst_map_none (hk : (k : Int) < xs.length) (h : (mget (cst (xs.take k)).2 (xs.getD k d)).isSome = false) : (cst (xs.take (k + 1))).2 = mset (cst (xs.take k)).2 (xs.getD k d) (cst (xs.take k)).2.length := by
  have h' : mget (cst (xs.take k)).2 (xs.getD k d) = none := by simpa using h
  rw [take_snocD d xs k (by omega), cst_none h']
theorem cst_map_some (hk : (k : Int) < xs.length) (h : (mget (cst (xs.take k)).2 (xs.getD k d)).isSome = true) : (cst (xs.take (k + 1))).2 = (cst (xs.take k)).2 := by
  obtain ⟨c, hc⟩ := Option.isSome_iff_exists.1 h
  rw [take_snocD d xs k (by omega), cst_some hc]
theorem cst_len_none (hk : (k : Int) < xs.length) (h : (mget (cst (xs.take k)).2 (xs.getD k d)).isSome = false) : (((cst (xs.take k)).2.length : Int) + 1) = ((cst (xs.take (k + 1))).2.length : Nat) := by
  rw [cst_map_none d hk h, length_mset, h]; simp
theorem cst_len_some (hk : (k : Int) < xs.length) (h : (mget (cst (xs.take k)).2 (xs.getD k d)).isSome = true) : ((cst (xs.take k)).2.length : Int) = ((cst (xs.take (k + 1))).2.length : Nat) := by
  rw [cst_map_some d hk h]
theorem canon_fill_none (hk : (k : Int) < xs.length) (h : (mget (cst (xs.take k)).2 (xs.getD k d)).isSome = false) :
    ((canon (xs.take k) ++ List.replicate (xs.length - k) 0).map (Value.int .i64)).set k (.int .i64 ((cst (xs.take k)).2.length : Nat)) = (canon (xs.take (k + 1)) ++ List.replicate (xs.length - (k + 1)) 0).map (Value.int .i64) := by
  have h' : mget (cst (xs.take k)).2 (xs.getD k d) = none := by simpa using h
  rw [fill_set (Value.int .i64) _ 0 _ xs.length k (by rw [canon_length, List.length_take]; omega) (by omega)]
  rw [take_snocD d xs k (by omega)]
  unfold canon
  rw [cst_none h']
theorem canon_fill_some (hk : (k : Int) < xs.length) (h : (mget (cst (xs.take k)).2 (xs.getD k d)).isSome = true) :
    ((canon (xs.take k) ++ List.replicate (xs.length - k) 0).map (Value.int .i64)).set k (.int .i64 ((mget (cst (xs.take k)).2 (xs.getD k d)).getD 0)) = (canon (xs.take (k + 1)) ++ List.replicate (xs.length - (k + 1)) 0).map (Value.int .i64) := by
  obtain ⟨c, hc⟩ := Option.isSome_iff_exists.1 h
  rw [fill_set (Value.int .i64) _ 0 _ xs.length k (by rw [canon_length, List.length_take]; omega) (by omega)]
  rw [take_snocD d xs k (by omega)]
  unfold canon
  rw [cst_some hc, hc]
  rfl
end walk

/-- what Canonical answers -/
def canonB {α : Type} [DecidableEq α] (xs : List α) : List Int := if xs.length ≤ 4096 then canon xs else []

def vstep (o : Option Int) (x : Int) : Option Int := match o with
  | none => none
  | some c => if x < 0 ∨ c < x then none else if x = c then some (c + 1) else some c
def vst (xs : List Int) : Option Int := xs.foldl vstep (some 0)
theorem vst_snoc (xs : List Int) (x : Int) : vst (xs ++ [x]) = vstep (vst xs) x := by simp [vst]

theorem vst_ok (xs : List Int) : (∀ c, vst xs = some c → canon xs = xs ∧ ((cst xs).2.length : Int) = c ∧ ∀ x, mget (cst xs).2 x = if 0 ≤ x ∧ x < c then some x else none) ∧ (vst xs = none → canon xs ≠ xs) := by
  induction xs using snoc_ind with
  | h0 =>
    refine ⟨fun c h => ?_, fun h => by simp [vst] at h⟩
    simp [vst] at h
    subst h
    refine ⟨rfl, by simp [cst], fun x => ?_⟩
    rw [if_neg (by omega)]; rfl
  | hs l a ih =>
    obtain ⟨ih1, ih2⟩ := ih
    have happ : ∀ (u v : List Int) (x y : Int), u.length = v.length → u ++ [x] = v ++ [y] → u = v ∧ x = y := fun u v x y hl h => by
      have := List.append_inj h hl
      exact ⟨this.1, by simpa using this.2⟩
    have hlen := canon_length l
    cases hv : vst l with
    | none =>
      have hne := ih2 hv
      refine ⟨fun c h => by rw [vst_snoc, hv] at h; simp [vstep] at h, fun _ e => hne ?_⟩
      unfold canon at e hlen ⊢
      cases h : mget (cst l).2 a with
      | none => rw [cst_none h] at e; exact (happ _ _ _ _ hlen e).1
      | some d => rw [cst_some h] at e; exact (happ _ _ _ _ hlen e).1
    | some c =>
      obtain ⟨i1, i2, i3⟩ := ih1 c hv
      unfold canon at i1 hlen
      rw [vst_snoc, hv]
      simp only [vstep]
      have hc0 : 0 ≤ c := by omega
      by_cases hbad : a < 0 ∨ c < a
      · rw [if_pos hbad]
        refine ⟨fun d h => by simp at h, fun _ e => ?_⟩
        have hm : mget (cst l).2 a = none := by rw [i3, if_neg (by omega)]
        unfold canon at e
        rw [cst_none hm] at e
        have := (happ _ _ _ _ hlen e).2
        omega
      · rw [if_neg hbad]
        by_cases hac : a = c
        · rw [if_pos hac]
          refine ⟨fun d h => ?_, fun h => by simp at h⟩
          simp at h; subst h
          have hm : mget (cst l).2 a = none := by rw [i3, if_neg (by omega)]
          unfold canon
          rw [cst_none hm]
          refine ⟨by rw [i1, i2, hac], ?_, fun x => ?_⟩
          · rw [length_mset]; simp [hm]; omega
          · rw [mget_mset, i3]
            by_cases hx : x = a
            · rw [if_pos hx, if_pos (by omega)]; congr 1; omega
            · rw [if_neg hx]
              by_cases h0 : 0 ≤ x ∧ x < c
              · rw [if_pos h0, if_pos (by omega)]
              · rw [if_neg h0, if_neg (by omega)]
        · rw [if_neg hac]
          refine ⟨fun d h => ?_, fun h => by simp at h⟩
          simp at h; subst h
          have hm : mget (cst l).2 a = some a := by rw [i3, if_pos (by omega)]
          unfold canon
          rw [cst_some hm]
          exact ⟨by rw [i1], i2, i3⟩

theorem vst_iff (xs : List Int) : (vst xs).isSome = true ↔ canon xs = xs := by
  have h := vst_ok xs
  cases hv : vst xs with
  | none => simp; exact h.2 hv
  | some c => simp; exact (h.1 c hv).1

theorem vst_le (xs : List Int) (c : Int) (h : vst xs = some c) : 0 ≤ c ∧ c ≤ xs.length := by
  have h1 := ((vst_ok xs).1 c h).2.1
  have h2 := cst_le xs
  omega

/-- valid partitions -/
def ValidP (xs : List Int) : Prop := xs.length ≤ 4096 ∧ canon xs = xs
instance (xs : List Int) : Decidable (ValidP xs) := inferInstanceAs (Decidable (_ ∧ _))

theorem canon_canon_aux {α : Type} [DecidableEq α] (xs : List α) : vst (canon xs) = some ((cst xs).2.length : Int) ∧ ∀ x c, mget (cst xs).2 x = some c → 0 ≤ c ∧ c < (cst xs).2.length := by
  induction xs using snoc_ind with
  | h0 => exact ⟨rfl, fun x c h => by simp [cst, mget] at h⟩
  | hs l a ih =>
    obtain ⟨i1, i2⟩ := ih
    unfold canon at *
    cases h : mget (cst l).2 a with
    | none =>
      rw [cst_none h]
      refine ⟨?_, fun x c hx => ?_⟩
      · rw [vst_snoc, i1]; simp only [vstep]; rw [if_neg (by omega), if_pos trivial, length_mset]; simp [h]
      · rw [mget_mset] at hx
        rw [length_mset]; simp [h]
        split at hx
        · simp at hx; omega
        · have := i2 x c hx; omega
    | some d =>
      rw [cst_some h]
      have := i2 a d h
      refine ⟨?_, i2⟩
      rw [vst_snoc, i1]; simp only [vstep]; rw [if_neg (by omega), if_neg (by omega)]

theorem canon_canon {α : Type} [DecidableEq α] (xs : List α) : canon (canon xs) = canon xs := (vst_iff _).1 (by rw [(canon_canon_aux xs).1]; rfl)
theorem vst_none_step {xs : List Int} {k : Nat} (hk : (k : Int) < xs.length) {c : Int} (h : vst (xs.take k) = some c) (hb : xs.getD k 0 < 0 ∨ c < xs.getD k 0) : canon xs ≠ xs := by
  have hn : vst (xs.take (k + 1)) = none := by rw [take_snocD 0 xs k (by omega), vst_snoc, h]; simp only [vstep]; rw [if_pos hb]
  have hall : ∀ ys : List Int, vst (xs.take (k + 1) ++ ys) = none := by
    intro ys
    induction ys using snoc_ind with
    | h0 => simpa using hn
    | hs l a ih => rw [← List.append_assoc, vst_snoc, ih]; rfl
  have := hall (xs.drop (k + 1))
  rw [List.take_append_drop] at this
  exact (vst_ok xs).2 this
theorem vst_step {xs : List Int} {k : Nat} (hk : (k : Int) < xs.length) {c : Int} (h : vst (xs.take k) = some c) (h1 : ¬ xs.getD k 0 < 0) (h2 : ¬ c < xs.getD k 0) : vst (xs.take (k + 1)) = some (if xs.getD k 0 = c then c + 1 else c) := by
  rw [take_snocD 0 xs k (by omega), vst_snoc, h]; simp only [vstep]; rw [if_neg (by omega)]; split <;> rfl
theorem refvalid_T {xs : List Int} (h : (xs.length : Int) ≤ 4096) : decide (xs = canonB xs) = decide (ValidP xs) := by
  apply decide_eq_decide.2
  unfold ValidP canonB
  rw [if_pos (by omega)]
  constructor
  · intro e; exact ⟨by omega, e.symm⟩
  · intro e; exact e.2.symm
theorem refvalid_F {xs : List Int} (h : 4096 < (xs.length : Int)) : false = decide (ValidP xs) := by
  symm; rw [decide_eq_false_iff_not]; rintro ⟨h', _⟩; omega
theorem canonB_canonB (xs : List Int) : canonB (canonB xs) = canonB xs ∧ (canonB xs).length ≤ 4096 := by
  unfold canonB
  split
  · rename_i h
    rw [if_pos (by rw [canon_length]; exact h), canon_canon, canon_length]
    exact ⟨rfl, h⟩
  · simp; rfl
theorem valid_canonB {α : Type} [DecidableEq α] (xs : List α) : ValidP (canonB xs) := by
  unfold canonB
  split
  · rename_i h; exact ⟨by rw [canon_length]; exact h, canon_canon xs⟩
  · exact ⟨by simp, rfl⟩
end Go.Sx
