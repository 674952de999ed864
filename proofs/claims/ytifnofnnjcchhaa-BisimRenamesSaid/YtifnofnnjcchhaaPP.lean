import Derived.Test.YtifnofnnjcchhaaS1
namespace Go.Sx.Pt
/-! ### plain: partitions -/
theorem snoc_ind {α : Type} {p : List α → Prop} (h0 : p []) (hs : ∀ l a, p l → p (l ++ [a])) (l : List α) : p l := by
  have : ∀ r : List α, p r.reverse := by
    intro r
    induction r with
    | nil => exact h0
    | cons a r ih => rw [List.reverse_cons]; exact hs _ a ih
  have := this l.reverse
  rwa [List.reverse_reverse] at this

section canon
variable {α : Type} [DecidableEq α]

def cstep (s : List Int × List (α × Int)) (x : α) : List Int × List (α × Int) :=
  match mget s.2 x with
  | some c => (s.1 ++ [c], s.2)
  | none => (s.1 ++ [(s.2.length : Int)], mset s.2 x s.2.length)
def cst (xs : List α) : List Int × List (α × Int) := xs.foldl cstep ([], [])
def canon (xs : List α) : List Int := (cst xs).1

theorem cst_snoc (xs : List α) (x : α) : cst (xs ++ [x]) = cstep (cst xs) x := by simp [cst]
theorem cst_some {xs : List α} {x : α} {c : Int} (h : mget (cst xs).2 x = some c) : cst (xs ++ [x]) = ((cst xs).1 ++ [c], (cst xs).2) := by rw [cst_snoc]; simp [cstep, h]
theorem cst_none {xs : List α} {x : α} (h : mget (cst xs).2 x = none) : cst (xs ++ [x]) = ((cst xs).1 ++ [((cst xs).2.length : Int)], mset (cst xs).2 x (cst xs).2.length) := by rw [cst_snoc]; simp [cstep, h]
theorem canon_length (xs : List α) : (canon xs).length = xs.length := by
  induction xs using snoc_ind with
  | h0 => rfl
  | hs l a ih =>
    unfold canon at *
    cases h : mget (cst l).2 a with
    | none => rw [cst_none h]; simp [ih]
    | some c => rw [cst_some h]; simp [ih]
theorem cst_le (xs : List α) : (cst xs).2.length ≤ xs.length := by
  induction xs using snoc_ind with
  | h0 => simp [cst]
  | hs l a ih =>
    cases h : mget (cst l).2 a with
    | none => rw [cst_none h, length_mset]; simp [h]; omega
    | some c => rw [cst_some h]; simp; omega
end canon

section walk
variable {α : Type} [DecidableEq α] (d : α) {xs : List α} {k : Nat}
theorem cst_map_none (hk : (k : Int) < xs.length) (h : (mget (cst (xs.take k)).2 (xs.getD k d)).isSome = false) : (cst (xs.take (k + 1))).2 = mset (cst (xs.take k)).2 (xs.getD k d) (cst (xs.take k)).2.length := by
  have h' : mget (cst (xs.take k)).2 (xs.getD k d) = none := by simpa using h
  rw [take_snocD d xs k (by omega), cst_none h']
theorem cst_map_some (hk : (k : Int) < xs.length) (h : (mget (cst (xs.take k)).2 (xs.getD k d)).isSome = true) : (cst (xs.take (k + 1))).2 = (cst (xs.take k)).2 := by
  obtain ⟨c, hc⟩ := Option.isSome_iff_exists.1 h
  rw [take_snocD d xs k (by omega), cst_some hc]
theorem cst_len_none (hk : (k : Int) < xs.length) (h : (mget (cst (xs.take k)).2 (xs.getD k d)).isSome = false) : (((cst (xs.take k)).2.length : Int) + 1) = ((cst (xs.take (k + 1))).2.length : Nat) := by
  rw [cst_map_none d hk h, length_mset, h]; simp
theorem cst_len_some (hk : (k : Int) < xs.length) (h : (mget (cst (xs.take k)).2 (xs.getD k d)).isSome = true) : ((cst (xs.take k)).2.length : Int) = ((cst (xs.take (k + 1))).2.length : Nat) := by
  rw [cst_map_some d hk h]
theorem canon_fill_none (hk : (k : Int) < xs.length) (h : (mget (cst (xs.take k)).2 (xs.getD k d)).isSome = false) :
    ((canon (xs.take k) ++ List.replicate (xs.length - k) 0).map (Value.int .i64)).set k (.int .i64 ((cst (xs.take k)).2.length : Nat)) = (canon (xs.take (k + 1)) ++ List.replicate (xs.length - (k + 1)) 0).map (Value.int .i64) := by
  have h' : mget (cst (xs.take k)).2 (xs.getD k d) = none := by simpa using h
  rw [fill_set (Value.int .i64) _ 0 _ xs.length k (by rw [canon_length, List.length_take]; omega) (by omega)]
  rw [take_snocD d xs k (by omega)]
  unfold canon
  rw [cst_none h']
theorem canon_fill_some (hk : (k : Int) < xs.length) (h : (mget (cst (xs.take k)).2 (xs.getD k d)).isSome = true) :
    ((canon (xs.take k) ++ List.replicate (xs.length - k) 0).map (Value.int .i64)).set k (.int .i64 ((mget (cst (xs.take k)).2 (xs.getD k d)).getD 0)) = (canon (xs.take (k + 1)) ++ List.replicate (xs.length - (k + 1)) 0).map (Value.int .i64) := by
  obtain ⟨c, hc⟩ := Option.isSome_iff_exists.1 h
  rw [fill_set (Value.int .i64) _ 0 _ xs.length k (by rw [canon_length, List.length_take]; omega) (by omega)]
  rw [take_snocD d xs k (by omega)]
  unfold canon
  rw [cst_some hc, hc]
  rfl
end walk

/-- what Canonical answers -/
def canonB {α : Type} [DecidableEq α] (xs : List α) : List Int := if xs.length ≤ 4096 then canon xs else []

def vstep (o : Option Int) (x : Int) : Option Int := match o with
  | none => none
  | some c => if x < 0 ∨ c < x then none else if x = c then some (c + 1) else some c
def vst (xs : List Int) : Option Int := xs.foldl vstep (some 0)
theorem vst_snoc (xs : List Int) (x : Int) : vst (xs ++ [x]) = vstep (vst xs) x := by simp [vst]

theorem vst_ok (xs : List Int) : (∀ c, vst xs = some c → canon xs = xs ∧ ((cst xs).2.length : Int) = c ∧ ∀ x, mget (cst xs).2 x = if 0 ≤ x ∧ x < c then some x else none) ∧ (vst xs = none → canon xs ≠ xs) := by
  induction xs using snoc_ind with
  | h0 =>
    refine ⟨fun c h => ?_, fun h => by simp [vst] at h⟩
    simp [vst] at h
    subst h
    refine ⟨rfl, by simp [cst], fun x => ?_⟩
    rw [if_neg (by omega)]; rfl
  | hs l a ih =>
    obtain ⟨ih1, ih2⟩ := ih
    have happ : ∀ (u v : List Int) (x y : Int), u.length = v.length → u ++ [x] = v ++ [y] → u = v ∧ x = y := fun u v x y hl h => by
      have := List.append_inj h hl
      exact ⟨this.1, by simpa using this.2⟩
    have hlen := canon_length l
    cases hv : vst l with
    | none =>
      have hne := ih2 hv
      refine ⟨fun c h => by rw [vst_snoc, hv] at h; simp [vstep] at h, fun _ e => hne ?_⟩
      unfold canon at e hlen ⊢
      cases h : mget (cst l).2 a with
      | none => rw [cst_none h] at e; exact (happ _ _ _ _ hlen e).1
      | some d => rw [cst_some h] at e; exact (happ _ _ _ _ hlen e).1
    | some c =>
      obtain ⟨i1, i2, i3⟩ := ih1 c hv
      unfold canon at i1 hlen
      rw [vst_snoc, hv]
      simp only [vstep]
      have hc0 : 0 ≤ c := by omega
      by_cases hbad : a < 0 ∨ c < a
      · rw [if_pos hbad]
        refine ⟨fun d h => by simp at h, fun _ e => ?_⟩
        have hm : mget (cst l).2 a = none := by rw [i3, if_neg (by omega)]
        unfold canon at e
        rw [cst_none hm] at e
        have := (happ _ _ _ _ hlen e).2
        omega
      · rw [if_neg hbad]
        by_cases hac : a = c
        · rw [if_pos hac]
          refine ⟨fun d h => ?_, fun h => by simp at h⟩
          simp at h; subst h
          have hm : mget (cst l).2 a = none := by rw [i3, if_neg (by omega)]
          unfold canon
          rw [cst_none hm]
          refine ⟨by rw [i1, i2, hac], ?_, fun x => ?_⟩
          · rw [length_mset]; simp [hm]; omega
          · rw [mget_mset, i3]
            by_cases hx : x = a
            · rw [if_pos hx, if_pos (by omega)]; congr 1; omega
            · rw [if_neg hx]
              by_cases h0 : 0 ≤ x ∧ x < c
              · rw [if_pos h0, if_pos (by omega)]
              · rw [if_neg h0, if_neg (by omega)]
        · rw [if_neg hac]
          refine ⟨fun d h => ?_, fun h => by simp at h⟩
          simp at h; subst h
          have hm : mget (cst l).2 a = some a := by rw [i3, if_pos (by omega)]
          unfold canon
          rw [cst_some hm]
          exact ⟨by rw [i1], i2, i3⟩

theorem vst_iff (xs : List Int) : (vst xs).isSome = true ↔ canon xs = xs := by
  have h := vst_ok xs
  cases hv : vst xs with
  | none => simp; exact h.2 hv
  | some c => simp; exact (h.1 c hv).1

theorem vst_le (xs : List Int) (c : Int) (h : vst xs = some c) : 0 ≤ c ∧ c ≤ xs.length := by
  have h1 := ((vst_ok xs).1 c h).2.1
  have h2 := cst_le xs
  omega

/-- valid partitions -/
def ValidP (xs : List Int) : Prop := xs.length ≤ 4096 ∧ canon xs = xs
instance (xs : List Int) : Decidable (ValidP xs) := inferInstanceAs (Decidable (_ ∧ _))

theorem canon_canon_aux {α : Type} [DecidableEq α] (xs : List α) : vst (canon xs) = some ((cst xs).2.length : Int) ∧ ∀ x c, mget (cst xs).2 x = some c → 0 ≤ c ∧ c < (cst xs).2.length := by
  induction xs using snoc_ind with
  | h0 => exact ⟨rfl, fun x c h => by simp [cst, mget] at h⟩
  | hs l a ih =>
    obtain ⟨i1, i2⟩ := ih
    unfold canon at *
    cases h : mget (cst l).2 a with
    | none =>
      rw [cst_none h]
      refine ⟨?_, fun x c hx => ?_⟩
      · rw [vst_snoc, i1]; simp only [vstep]; rw [if_neg (by omega), if_pos trivial, length_mset]; simp [h]
      · rw [mget_mset] at hx
        rw [length_mset]; simp [h]
        split at hx
        · simp at hx; omega
        · have := i2 x c hx; omega
    | some d =>
      rw [cst_some h]
      have := i2 a d h
      refine ⟨?_, i2⟩
      rw [vst_snoc, i1]; simp only [vstep]; rw [if_neg (by omega), if_neg (by omega)]

theorem canon_canon {α : Type} [DecidableEq α] (xs : List α) : canon (canon xs) = canon xs := (vst_iff _).1 (by rw [(canon_canon_aux xs).1]; rfl)
theorem vst_none_step {xs : List Int} {k : Nat} (hk : (k : Int) < xs.length) {c : Int} (h : vst (xs.take k) = some c) (hb : xs.getD k 0 < 0 ∨ c < xs.getD k 0) : canon xs ≠ xs := by
  have hn : vst (xs.take (k + 1)) = none := by rw [take_snocD 0 xs k (by omega), vst_snoc, h]; simp only [vstep]; rw [if_pos hb]
  have hall : ∀ ys : List Int, vst (xs.take (k + 1) ++ ys) = none := by
    intro ys
    induction ys using snoc_ind with
    | h0 => simpa using hn
    | hs l a ih => rw [← List.append_assoc, vst_snoc, ih]; rfl
  have := hall (xs.drop (k + 1))
  rw [List.take_append_drop] at this
  exact (vst_ok xs).2 this
theorem vst_step {xs : List Int} {k : Nat} (hk : (k : Int) < xs.length) {c : Int} (h : vst (xs.take k) = some c) (h1 : ¬ xs.getD k 0 < 0) (h2 : ¬ c < xs.getD k 0) : vst (xs.take (k + 1)) = some (if xs.getD k 0 = c then c + 1 else c) := by
  rw [take_snocD 0 xs k (by omega), vst_snoc, h]; simp only [vstep]; rw [if_neg (by omega)]; split <;> rfl
theorem refvalid_T {xs : List Int} (h : (xs.length : Int) ≤ 4096) : decide (xs = canonB xs) = decide (ValidP xs) := by
  apply decide_eq_decide.2
  unfold ValidP canonB
  rw [if_pos (by omega)]
  constructor
  · intro e; exact ⟨by omega, e.symm⟩
  · intro e; exact e.2.symm
theorem refvalid_F {xs : List Int} (h : 4096 < (xs.length : Int)) : false = decide (ValidP xs) := by
  symm; rw [decide_eq_false_iff_not]; rintro ⟨h', _⟩; omega
theorem canonB_canonB (xs : List Int) : canonB (canonB xs) = canonB xs ∧ (canonB xs).length ≤ 4096 := by
  unfold canonB
  split
  · rename_i h
    rw [if_pos (by rw [canon_length]; exact h), canon_canon, canon_length]
    exact ⟨rfl, h⟩
  · simp; rfl
theorem valid_canonB {α : Type} [DecidableEq α] (xs : List α) : ValidP (canonB xs) := by
  unfold canonB
  split
  · rename_i h; exact ⟨by rw [canon_length]; exact h, canon_canon xs⟩
  · exact ⟨by simp, rfl⟩

/-! ### one kernel, one canonical form -/
section kernel
variable {α β : Type} [DecidableEq α] [DecidableEq β]
theorem cst_mem (xs : List α) : (∀ x, mget (cst xs).2 x = none ↔ x ∉ xs) ∧ ∀ i (h : i < xs.length), mget (cst xs).2 xs[i] = (canon xs)[i]? := by
  induction xs using snoc_ind with
  | h0 => exact ⟨fun x => by simp [cst, mget], fun i h => by simp at h⟩
  | hs l a ih =>
    obtain ⟨i1, i2⟩ := ih
    have hl := canon_length l
    unfold canon at *
    cases h : mget (cst l).2 a with
    | none =>
      have hn := (i1 a).1 h
      rw [cst_none h]
      refine ⟨fun x => ?_, fun i hi => ?_⟩
      · rw [mget_mset]
        by_cases hx : x = a
        · simp [hx]
        · simp [hx, i1]
      · rw [mget_mset]
        by_cases hil : i < l.length
        · rw [List.getElem_append_left hil, List.getElem?_append_left (by omega), ← i2 i hil, if_neg (fun e : l[i] = a => hn (by rw [← e]; exact List.getElem_mem hil))]
        · have : i = l.length := by simp at hi; omega
          subst this
          simp [hl]
    | some c =>
      rw [cst_some h]
      have hm : a ∈ l := by
        by_cases hm : a ∈ l
        · exact hm
        · rw [(i1 a).2 hm] at h; cases h
      refine ⟨fun x => ?_, fun i hi => ?_⟩
      · rw [i1]
        constructor
        · intro hx hx'
          rcases List.mem_append.1 hx' with h' | h'
          · exact hx h'
          · simp at h'; exact hx (h' ▸ hm)
        · intro hx hx'; exact hx (List.mem_append_left _ hx')
      · by_cases hil : i < l.length
        · rw [List.getElem_append_left hil, List.getElem?_append_left (by omega), ← i2 i hil]
        · have : i = l.length := by simp at hi; omega
          subst this
          simp [hl, h]

theorem canon_kernel (xs : List α) : ∀ (ys : List β), xs.length = ys.length → (∀ i j (hi : i < xs.length) (hj : j < xs.length) (hi' : i < ys.length) (hj' : j < ys.length), xs[i] = xs[j] ↔ ys[i] = ys[j]) → canon xs = canon ys ∧ (cst xs).2.length = (cst ys).2.length := by
  induction xs using snoc_ind with
  | h0 => intro ys hl _; have : ys = [] := List.eq_nil_of_length_eq_zero (by simpa using hl.symm); subst this; exact ⟨rfl, rfl⟩
  | hs l a ih =>
    intro ys hl hk
    obtain ⟨m, b, rfl⟩ : ∃ m b, ys = m ++ [b] := by
      have hne : ys ≠ [] := by intro e; subst e; simp at hl
      exact ⟨ys.dropLast, ys.getLast hne, (List.dropLast_concat_getLast hne).symm⟩
    have hlm : l.length = m.length := by simpa using hl
    have hk' : ∀ i j (hi : i < l.length) (hj : j < l.length) (hi' : i < m.length) (hj' : j < m.length), l[i] = l[j] ↔ m[i] = m[j] := fun i j hi hj hi' hj' => by
      have := hk i j (by simp; omega) (by simp; omega) (by simp; omega) (by simp; omega)
      rwa [List.getElem_append_left hi, List.getElem_append_left hj, List.getElem_append_left hi', List.getElem_append_left hj'] at this
    have hka : ∀ i (hi : i < l.length) (hi' : i < m.length), l[i] = a ↔ m[i] = b := fun i hi hi' => by
      have := hk i l.length (by simp; omega) (by simp) (by simp; omega) (by simp; omega)
      rw [List.getElem_append_left hi, List.getElem_append_left hi'] at this
      simpa [hlm] using this
    obtain ⟨e1, e2⟩ := ih m hlm hk'
    obtain ⟨p1, p2⟩ := cst_mem l
    obtain ⟨q1, q2⟩ := cst_mem m
    unfold canon at *
    by_cases hm : a ∈ l
    · obtain ⟨i, hi, rfl⟩ := List.getElem_of_mem hm
      have hb := (hka i hi (by omega)).1 rfl
      have h1 := p2 i hi
      have h2 := q2 i (by omega)
      rw [← e1, hb] at h2
      cases h : (cst l).1[i]? with
      | none => rw [h] at h1; have := (p1 _).1 h1; exact absurd hm this
      | some c =>
        rw [h] at h1 h2
        rw [cst_some h1, cst_some h2, e1]
        exact ⟨rfl, e2⟩
    · have hmb : b ∉ m := by
        intro hb
        obtain ⟨i, hi, rfl⟩ := List.getElem_of_mem hb
        exact hm ((hka i (by omega) hi).2 rfl ▸ List.getElem_mem (by omega))
      have h1 := (p1 a).2 hm
      have h2 := (q1 b).2 hmb
      rw [cst_none h1, cst_none h2, e1, e2]
      refine ⟨rfl, ?_⟩
      rw [length_mset, length_mset, h1, h2, e2]
end kernel

/-! ### forests -/
def Rep (ρ : Nat → Nat) (f : List Int) (n : Nat) : Prop := f.length = n ∧ ∀ i, i < n → 0 ≤ f.getD i 0 ∧ f.getD i 0 ≤ i ∧ ρ (f.getD i 0).toNat = ρ i ∧ (f.getD i 0 = i ↔ ρ i = i) ∧ ρ i ≤ i

theorem getD_set_same {xs : List Int} {i : Nat} (h : i < xs.length) (v : Int) : (xs.set i v).getD i 0 = v := by simp [List.getD_eq_getElem?_getD, h]
theorem getD_set_other {xs : List Int} {i j : Nat} (h : i ≠ j) (v : Int) : (xs.set i v).getD j 0 = xs.getD j 0 := by simp [List.getD_eq_getElem?_getD, List.getElem?_set_ne h]

theorem Rep.halve {ρ : Nat → Nat} {f : List Int} {n i : Nat} (h : Rep ρ f n) (hi : i < n) (hne : f.getD i 0 ≠ i) : Rep ρ (f.set i (f.getD (f.getD i 0).toNat 0)) n := by
  obtain ⟨h1, h2⟩ := h
  refine ⟨by simpa using h1, fun k hk => ?_⟩
  by_cases hki : i = k
  · subst hki
    obtain ⟨a1, a2, a3, a4, a5⟩ := h2 i hk
    obtain ⟨b1, b2, b3, b4, b5⟩ := h2 (f.getD i 0).toNat (by omega)
    rw [getD_set_same (by omega)]
    refine ⟨b1, by omega, by rw [b3, a3], ?_, a5⟩
    constructor
    · intro e; omega
    · intro e; exact absurd (a4.2 e) hne
  · rw [getD_set_other hki]; exact h2 k hk

theorem Rep.union {ρ : Nat → Nat} {f : List Int} {n i j : Nat} (h : Rep ρ f n) (hi : i < n) (hj : j < n) :
    Rep (fun k => if ρ k = max (ρ i) (ρ j) then min (ρ i) (ρ j) else ρ k) (f.set (max (ρ i) (ρ j)) ((min (ρ i) (ρ j) : Nat) : Int)) n := by
  obtain ⟨h1, h2⟩ := h
  have hri : ρ i < n := by have := (h2 i hi).2.2.2.2; omega
  have hrj : ρ j < n := by have := (h2 j hj).2.2.2.2; omega
  have idem : ∀ k, k < n → ρ (ρ k) = ρ k := by
    intro k
    induction k using Nat.strongRecOn with
    | _ k ih =>
      intro hk
      obtain ⟨a1, a2, a3, a4, a5⟩ := h2 k hk
      by_cases e : f.getD k 0 = k
      · rw [a4.1 e]; exact a4.1 e
      · have := ih (f.getD k 0).toNat (by omega) (by omega)
        rw [a3] at this; exact this
  have hii := idem i hi
  have hjj := idem j hj
  have hM : max (ρ i) (ρ j) < n := by omega
  have hρM : ρ (max (ρ i) (ρ j)) = max (ρ i) (ρ j) := by
    rcases Nat.le_total (ρ i) (ρ j) with h | h
    · rw [Nat.max_eq_right h]; exact hjj
    · rw [Nat.max_eq_left h]; exact hii
  have hρm : ρ (min (ρ i) (ρ j)) = min (ρ i) (ρ j) := by
    rcases Nat.le_total (ρ i) (ρ j) with h | h
    · rw [Nat.min_eq_left h]; exact hii
    · rw [Nat.min_eq_right h]; exact hjj
  generalize hMd : max (ρ i) (ρ j) = M at *
  generalize hmd : min (ρ i) (ρ j) = m at *
  have hmM : m ≤ M := by omega
  refine ⟨by simpa using h1, fun k hk => ?_⟩
  by_cases hkM : M = k
  · subst hkM
    rw [getD_set_same (by omega)]
    simp only [hρM, if_true, Int.toNat_natCast, hρm]
    refine ⟨by omega, by omega, ?_, ?_, hmM⟩
    · split <;> rfl
    · constructor <;> intro h <;> omega
  · rw [getD_set_other hkM]
    obtain ⟨a1, a2, a3, a4, a5⟩ := h2 k hk
    simp only [a3]
    refine ⟨a1, a2, trivial, ?_, ?_⟩
    · rw [a4]
      by_cases hb : ρ k = M
      · rw [if_pos hb]
        constructor
        · intro e; omega
        · intro e; omega
      · rw [if_neg hb]
    · split <;> omega

/-- one class for two: either way to name it, one kernel -/
theorem relabel {γ : Type} [DecidableEq γ] (a b u v : γ) : ((if u = b then a else u) = (if v = b then a else v)) ↔ (u = v ∨ ((u = a ∨ u = b) ∧ (v = a ∨ v = b))) := by
  by_cases h1 : u = b <;> by_cases h2 : v = b
  · simp [h1, h2]
  · simp only [h1, h2, if_true, if_false, or_true, true_and, or_false]
    constructor
    · intro e; exact .inr e.symm
    · rintro (e | e)
      · exact absurd e.symm h2
      · exact e.symm
  · simp only [h1, h2, if_true, if_false, or_true, and_true, or_false]
    constructor
    · intro e; exact .inr e
    · rintro (e | e)
      · first | exact absurd e h1 | exact e.elim
      · exact e
  · simp only [h1, h2, if_false, or_false]
    constructor
    · intro e; exact .inl e
    · rintro (e | ⟨e, f⟩)
      · exact e
      · rw [e, f]

def idl (n : Nat) : List Int := (List.range n).map fun (i : Nat) => ((i : Nat) : Int)
theorem idl_length (n : Nat) : (idl n).length = n := by simp [idl]
theorem idl_get {n i : Nat} (h : i < n) : (idl n).getD i 0 = i := by simp [idl, List.getD_eq_getElem?_getD, h]
theorem idl_succ (n : Nat) : idl (n + 1) = idl n ++ [(n : Int)] := by simp [idl, List.range_succ]
theorem rep_id (n : Nat) : Rep id (idl n) n := ⟨idl_length n, fun i h => by rw [idl_get h]; simp⟩
def discB (n : Int) : List Int := if 0 ≤ n ∧ n ≤ 4096 then idl n.toNat else []

def trivB (n : Int) : List Int := if 0 ≤ n ∧ n ≤ 4096 then List.replicate n.toNat 0 else []
def ufstep (ρ : Nat → Nat) (i j : Nat) : Nat → Nat := fun k => if ρ k = max (ρ i) (ρ j) then min (ρ i) (ρ j) else ρ k
def ufs (ps : List (Int × Int)) : Nat → Nat := ps.foldl (fun ρ p => ufstep ρ p.1.toNat p.2.toNat) id
theorem ufs_snoc (ps : List (Int × Int)) (p : Int × Int) : ufs (ps ++ [p]) = ufstep (ufs ps) p.1.toNat p.2.toNat := by simp [ufs]
def okp (n : Int) (p : Int × Int) : Prop := 0 ≤ p.1 ∧ p.1 < n ∧ 0 ≤ p.2 ∧ p.2 < n
instance (n : Int) (p : Int × Int) : Decidable (okp n p) := inferInstanceAs (Decidable (_ ∧ _))
def mayP (n : Int) (ps : List (Int × Int)) : Prop := (0 ≤ n ∧ n ≤ 4096) ∧ ∀ p ∈ ps, okp n p
instance (n : Int) (ps : List (Int × Int)) : Decidable (mayP n ps) := inferInstanceAs (Decidable (_ ∧ _))
def rhoL (n : Nat) (ρ : Nat → Nat) : List Int := (List.range n).map fun (i : Nat) => ((ρ i : Nat) : Int)
theorem rhoL_length (n : Nat) (ρ : Nat → Nat) : (rhoL n ρ).length = n := by simp [rhoL]
theorem rhoL_succ (n : Nat) (ρ : Nat → Nat) : rhoL (n + 1) ρ = rhoL n ρ ++ [((ρ n : Nat) : Int)] := by simp [rhoL, List.range_succ]
/-- what FromPairs answers -/
def fromB (n : Int) (ps : List (Int × Int)) : List Int := if mayP n ps then canon (rhoL n.toNat (ufs ps)) else []

theorem mem_getD {α : Type} {xs : List α} {k : Nat} (d : α) (h : k < xs.length) : xs.getD k d ∈ xs := by
  rw [List.getD_eq_getElem?_getD, List.getElem?_eq_getElem h]; exact List.getElem_mem h
theorem all_take_succ {α : Type} {P : α → Prop} {xs : List α} {k : Nat} (d : α) (h : k < xs.length) (h1 : ∀ p ∈ xs.take k, P p) (h2 : P (xs.getD k d)) : ∀ p ∈ xs.take (k + 1), P p := by
  rw [take_snocD d xs k h]
  intro p hp
  rcases List.mem_append.1 hp with hp | hp
  · exact h1 p hp
  · simp at hp; exact hp ▸ h2

/-- the reference's way -/
def mergeL (xs : List Int) (i j : Nat) : List Int := xs.map fun c => if c = xs.getD j 0 then xs.getD i 0 else c
def mfs (n : Nat) (ps : List (Int × Int)) : List Int := ps.foldl (fun xs p => mergeL xs p.1.toNat p.2.toNat) (idl n)
theorem mfs_snoc (n : Nat) (ps : List (Int × Int)) (p : Int × Int) : mfs n (ps ++ [p]) = mergeL (mfs n ps) p.1.toNat p.2.toNat := by simp [mfs]
theorem mergeL_length (xs : List Int) (i j : Nat) : (mergeL xs i j).length = xs.length := by simp [mergeL]
theorem mfs_length (n : Nat) (ps : List (Int × Int)) : (mfs n ps).length = n := by
  induction ps using snoc_ind with
  | h0 => simp [mfs, idl_length]
  | hs l a ih => rw [mfs_snoc, mergeL_length, ih]
theorem mergeL_get {xs : List Int} {i j k : Nat} (hk : k < xs.length) : (mergeL xs i j).getD k 0 = if xs.getD k 0 = xs.getD j 0 then xs.getD i 0 else xs.getD k 0 := by
  simp [mergeL, List.getD_eq_getElem?_getD, hk]

theorem ufs_mfs (n : Nat) (ps : List (Int × Int)) (hp : ∀ p ∈ ps, p.1.toNat < n ∧ p.2.toNat < n) : ∀ k l, k < n → l < n → (ufs ps k = ufs ps l ↔ (mfs n ps).getD k 0 = (mfs n ps).getD l 0) := by
  induction ps using snoc_ind with
  | h0 => intro k l hk hl; simp only [ufs, mfs, List.foldl_nil, id, idl_get hk, idl_get hl]; omega
  | hs q a ih =>
    intro k l hk hl
    have ih' := ih (fun p h => hp p (by simp [h]))
    obtain ⟨h1, h2⟩ := hp a (by simp)
    have hlen := mfs_length n q
    rw [ufs_snoc, mfs_snoc, mergeL_get (by omega), mergeL_get (by omega), relabel]
    unfold ufstep
    rw [relabel]
    have e1 := ih' k l hk hl
    have ka := ih' k _ hk h1
    have kb := ih' k _ hk h2
    have la := ih' l _ hl h1
    have lb := ih' l _ hl h2
    rw [← e1, ← ka, ← kb, ← la, ← lb]
    have key : ∀ x : Nat, (x = min (ufs q a.1.toNat) (ufs q a.2.toNat) ∨ x = max (ufs q a.1.toNat) (ufs q a.2.toNat)) ↔ (x = ufs q a.1.toNat ∨ x = ufs q a.2.toNat) := by
      intro x
      rcases Nat.le_total (ufs q a.1.toNat) (ufs q a.2.toNat) with h | h
      · rw [Nat.min_eq_left h, Nat.max_eq_right h]
      · rw [Nat.min_eq_right h, Nat.max_eq_left h]; exact Or.comm
    rw [key, key]

theorem fromB_ref {n : Int} {ps : List (Int × Int)} (h : mayP n ps) : fromB n ps = canonB (mfs n.toNat ps) := by
  unfold fromB canonB
  have hl := mfs_length n.toNat ps
  have hn := h.1
  rw [if_pos h, if_pos (by omega)]
  refine (canon_kernel _ _ (by rw [rhoL_length, hl]) fun i j hi hj hi' hj' => ?_).1
  have := ufs_mfs n.toNat ps (fun p hp => by have := h.2 p hp; unfold okp at this; omega) i j (by omega) (by omega)
  rw [rhoL_length] at hi hj
  simp only [List.getD_eq_getElem?_getD, List.getElem?_eq_getElem hi', List.getElem?_eq_getElem hj', Option.getD_some] at this
  rw [← this]
  simp only [rhoL, List.getElem_map, List.getElem_range]
  omega

theorem fromB_le (n : Int) (ps : List (Int × Int)) : (fromB n ps).length ≤ 4096 := by
  unfold fromB
  split
  · rename_i h; rw [canon_length, rhoL_length]; have := h.1; omega
  · simp
/-- Merge, behind k rounds -/
def mrgK (xs : List Int) (i j k : Nat) : List Int := (xs.take k).map (fun c => if c = xs.getD j 0 then xs.getD i 0 else c) ++ xs.drop k
theorem mrgK_zero (xs : List Int) (i j : Nat) : mrgK xs i j 0 = xs := by simp [mrgK]
theorem mrgK_full (xs : List Int) (i j : Nat) : mrgK xs i j xs.length = mergeL xs i j := by simp [mrgK, mergeL]
theorem mrgK_length (xs : List Int) (i j k : Nat) : (mrgK xs i j k).length = xs.length := by simp [mrgK]; omega
theorem mrgK_at {xs : List Int} {i j k : Nat} (hk : k < xs.length) : (mrgK xs i j k).getD k 0 = xs.getD k 0 := by
  unfold mrgK
  rw [List.getD_eq_getElem?_getD, List.getElem?_append_right (by simp; omega)]
  simp [List.getD_eq_getElem?_getD, show min k xs.length = k by omega]
theorem mrgK_succ {xs : List Int} {i j k : Nat} (hk : k < xs.length) : mrgK xs i j (k + 1) = (mrgK xs i j k).set k (if xs.getD k 0 = xs.getD j 0 then xs.getD i 0 else xs.getD k 0) := by
  unfold mrgK
  rw [List.set_append_right _ _ (by simp; omega)]
  rw [take_snocD 0 xs k hk, List.drop_eq_getElem_cons hk]
  simp [show min k xs.length = k by omega, -List.getElem_cons_drop]
theorem mrgK_set {xs : List Int} {i j k : Nat} (hk : k < xs.length) (h : (mrgK xs i j k).getD k 0 = xs.getD j 0) : (((mrgK xs i j k).map (Value.int .i64)).set k (.int .i64 (xs.getD i 0))) = (mrgK xs i j (k + 1)).map (Value.int .i64) := by
  rw [mrgK_at hk] at h
  rw [mrgK_succ hk, if_pos h, List.map_set]
theorem mrgK_skip {xs : List Int} {i j k : Nat} (hk : k < xs.length) (h : ¬ (mrgK xs i j k).getD k 0 = xs.getD j 0) : mrgK xs i j (k + 1) = mrgK xs i j k := by
  rw [mrgK_at hk] at h
  rw [mrgK_succ hk, if_neg h]
  have e := mrgK_at (i := i) (j := j) hk
  apply List.ext_getElem?
  intro m
  rw [List.getElem?_set]
  split
  · rename_i hm; subst hm
    rw [if_pos (by rw [mrgK_length]; exact hk), ← e, List.getD_eq_getElem?_getD, List.getElem?_eq_getElem (by rw [mrgK_length]; exact hk)]
    rfl
  · rfl

/-! ### classes -/
def cntL (xs : List Int) : Int := xs.foldl (fun n x => max n (x + 1)) 0
theorem cntL_snoc (xs : List Int) (x : Int) : cntL (xs ++ [x]) = max (cntL xs) (x + 1) := by simp [cntL]
theorem cntL_vst (xs : List Int) : ∀ c, vst xs = some c → cntL xs = c ∧ ∀ x ∈ xs, 0 ≤ x ∧ x < c := by
  induction xs using snoc_ind with
  | h0 => intro c h; simp [vst] at h; subst h; exact ⟨rfl, by simp⟩
  | hs l a ih =>
    intro c h
    rw [vst_snoc] at h
    cases hv : vst l with
    | none => rw [hv] at h; simp [vstep] at h
    | some d =>
      obtain ⟨i1, i2⟩ := ih d hv
      rw [hv] at h
      simp only [vstep] at h
      split at h
      · cases h
      · rename_i hb
        rw [cntL_snoc, i1]
        split at h
        · simp at h; subst h
          refine ⟨by omega, fun x hx => ?_⟩
          rcases List.mem_append.1 hx with h' | h'
          · have := i2 x h'; omega
          · simp at h'; omega
        · simp at h; subst h
          refine ⟨by omega, fun x hx => ?_⟩
          rcases List.mem_append.1 hx with h' | h'
          · exact i2 x h'
          · simp at h'; omega
theorem valid_cnt {xs : List Int} (h : ValidP xs) : 0 ≤ cntL xs ∧ cntL xs ≤ xs.length ∧ ∀ x ∈ xs, 0 ≤ x ∧ x < cntL xs := by
  have := (vst_iff xs).2 h.2
  obtain ⟨c, hc⟩ := Option.isSome_iff_exists.1 this
  obtain ⟨h1, h2⟩ := cntL_vst xs c hc
  have h3 := vst_le xs c hc
  rw [h1]; exact ⟨h3.1, h3.2, h2⟩
theorem cntL_take_le (xs : List Int) (k : Nat) : cntL (xs.take k) ≤ cntL xs := by
  have key : ∀ (l : List Int) (a : Int), a ≤ l.foldl (fun n x => max n (x + 1)) a := by
    intro l
    induction l with
    | nil => intro a; exact Int.le_refl a
    | cons x l ih => intro a; exact Int.le_trans (by omega) (ih (max a (x + 1)))
  conv => rhs; rw [← List.take_append_drop k xs]
  unfold cntL
  rw [List.foldl_append]
  exact key _ _
theorem cntL_nonneg (xs : List Int) : 0 ≤ cntL xs := by have := cntL_take_le xs 0; simpa [cntL] using this
def countB (xs : List Int) : Int := if ValidP xs then cntL xs else 0

/-- the places of j, in order -/
def posL (j : Int) (xs : List Int) : List Int := (xs.zipIdx.filter (fun p => p.1 = j)).map fun p => (p.2 : Int)
theorem posL_snoc (j : Int) (xs : List Int) (x : Int) : posL j (xs ++ [x]) = if x = j then posL j xs ++ [(xs.length : Int)] else posL j xs := by
  unfold posL
  rw [List.zipIdx_append]
  by_cases h : x = j <;> simp [h]
theorem posL_mem (j : Int) (xs : List Int) : ∀ i, i ∈ posL j xs ↔ 0 ≤ i ∧ i < xs.length ∧ xs.getD i.toNat 0 = j := by
  induction xs using snoc_ind with
  | h0 => intro i; simp [posL]; omega
  | hs l a ih =>
    intro i
    rw [posL_snoc]
    have e : ∀ m : Nat, m < l.length → (l ++ [a]).getD m 0 = l.getD m 0 := fun m hm => by simp [List.getD_eq_getElem?_getD, List.getElem?_append_left hm]
    have e2 : (l ++ [a]).getD l.length 0 = a := by simp [List.getD_eq_getElem?_getD]
    by_cases h : a = j
    · rw [if_pos h, List.mem_append, ih]
      constructor
      · rintro (⟨h1, h2, h3⟩ | h')
        · exact ⟨h1, by simp; omega, by rw [e _ (by omega)]; exact h3⟩
        · simp at h'; subst h'; exact ⟨by omega, by simp; omega, by simpa [e2] using h⟩
      · rintro ⟨h1, h2, h3⟩
        by_cases hl : i < l.length
        · rw [e _ (by omega)] at h3; exact .inl ⟨h1, hl, h3⟩
        · right; simp at h2 ⊢; omega
    · rw [if_neg h, ih]
      constructor
      · rintro ⟨h1, h2, h3⟩; exact ⟨h1, by simp; omega, by rw [e _ (by omega)]; exact h3⟩
      · rintro ⟨h1, h2, h3⟩
        by_cases hl : i < l.length
        · rw [e _ (by omega)] at h3; exact ⟨h1, hl, h3⟩
        · have : i.toNat = l.length := by simp at h2; omega
          rw [this, e2] at h3; exact absurd h3 h
def clsK (c : Nat) (xs : List Int) : List (List Int) := (List.range c).map fun (j : Nat) => posL (j : Int) xs
theorem clsK_length (c : Nat) (xs : List Int) : (clsK c xs).length = c := by simp [clsK]
theorem clsK_get {c : Nat} {xs : List Int} {j : Nat} (h : j < c) : (clsK c xs).getD j [] = posL j xs := by simp [clsK, List.getD_eq_getElem?_getD, h]
theorem clsK_nil (c : Nat) : clsK c [] = List.replicate c [] := by
  apply List.ext_getElem?
  intro i
  by_cases h : i < c <;> simp [clsK, posL, h]
theorem clsK_snoc {c : Nat} {xs : List Int} {x : Int} (h : 0 ≤ x ∧ x < c) : clsK c (xs ++ [x]) = (clsK c xs).set x.toNat ((clsK c xs).getD x.toNat [] ++ [(xs.length : Int)]) := by
  rw [clsK_get (by omega)]
  apply List.ext_getElem?
  intro i
  rw [List.getElem?_set]
  by_cases hi : i < c
  · by_cases hx : x.toNat = i
    · rw [if_pos hx, if_pos (by rw [clsK_length]; omega)]
      have : x = (i : Int) := by omega
      simp [clsK, hi, posL_snoc, this]
    · rw [if_neg hx]
      have : ¬ x = (i : Int) := by omega
      simp [clsK, hi, posL_snoc, this]
  · rw [if_neg (by omega)]
    simp [clsK, hi]
theorem posL_length_le (j : Int) (xs : List Int) : (posL j xs).length ≤ xs.length := by
  unfold posL
  rw [List.length_map]
  exact Nat.le_trans (List.length_filter_le _ _) (by simp)
def classB (xs : List Int) : List (List Int) := if ValidP xs then clsK (cntL xs).toNat xs else []
theorem cls_own {C : Cx} {ER EI : TypeId} {w : World} {mv : Value} {c n : Nat} {rs : List Value} {xs : List Int} {k : Nat} {x : Int} {av : Value} (hrl : rs.length = c) (hk : k < xs.length) (hxk : xs.getD k 0 = x) (hx : 0 ≤ x ∧ x < c) (hn : n = ((clsK c (xs.take k)).getD x.toNat []).length)
    (hw : HW C [row mv ER 1 c (rs.set x.toNat av), bigA ((matL EI rs (clsK c (xs.take k))).set x.toNat (row av EI 1 (n + 1) (((clsK c (xs.take k)).getD x.toNat []).map (Value.int .i64) ++ [Value.int .i64 (k : Int)])))] w) :
    HW C [row mv ER 1 c (rs.set x.toNat av), bigA (matL EI (rs.set x.toNat av) (clsK c (xs.take (k + 1))))] w := by
  rw [take_snocD 0 xs k hk, hxk, clsK_snoc hx, ← matL_set (by rw [hrl, clsK_length]) (by rw [clsK_length]; omega)]
  have hl : (xs.take k).length = k := by rw [List.length_take]; omega
  rw [hl, List.length_append, List.map_append, ← hn]
  exact hw
end Go.Sx.Pt

namespace Go.Sx.Pt
/-! ### kernels -/
theorem lt_succ_all {p : Nat → Prop} {a : Nat} (h : ∀ c, c < a → p c) (ha : p a) : ∀ c, c < a + 1 → p c := fun c hc => by
  rcases Nat.lt_succ_iff_lt_or_eq.1 hc with h' | rfl
  · exact h c h'
  · exact ha
section ker
variable {γ : Type} [DecidableEq γ]
def kerB (d : γ) (xs : List Int) (ys : List γ) : Bool := (List.range xs.length).all fun i => (List.range xs.length).all fun j => decide (xs.getD i 0 = xs.getD j 0 → ys.getD i d = ys.getD j d)
theorem kerB_iff {d : γ} {xs : List Int} {ys : List γ} : kerB d xs ys = true ↔ ∀ i j, i < xs.length → j < xs.length → xs.getD i 0 = xs.getD j 0 → ys.getD i d = ys.getD j d := by
  unfold kerB
  simp only [List.all_eq_true, List.mem_range, decide_eq_true_eq]
  exact ⟨fun h i j hi hj => h i hi j hj, fun h i hi j hj => h i j hi hj⟩
theorem kerB_false {d : γ} {xs : List Int} {ys : List γ} {i j : Nat} (hi : i < xs.length) (hj : j < xs.length) (h1 : xs.getD i 0 = xs.getD j 0) (h2 : ¬ ys.getD i d = ys.getD j d) : kerB d xs ys = false := by
  cases h : kerB d xs ys
  · rfl
  · exact absurd (kerB_iff.1 h i j hi hj h1) h2
/-- of a class: the first m elements agree with the first one -/
def clOK (d : γ) (ys : List γ) (cl : List Int) (m : Nat) : Prop := ∀ m', m' < m → ys.getD (cl.getD m' 0).toNat d = ys.getD (cl.getD 0 0).toNat d
theorem classB_mem {xs : List Int} (hv : ValidP xs) {a : Nat} (ha : a < (classB xs).length) : ∀ i, i ∈ (classB xs).getD a [] ↔ 0 ≤ i ∧ i < xs.length ∧ xs.getD i.toNat 0 = a := by
  unfold classB at *
  rw [if_pos hv] at *
  rw [clsK_length] at ha
  rw [clsK_get ha]
  exact posL_mem _ _
theorem classB_len {xs : List Int} (hv : ValidP xs) : (classB xs).length = (cntL xs).toNat := by unfold classB; rw [if_pos hv, clsK_length]
theorem cl_at {xs : List Int} (hv : ValidP xs) {a : Nat} (ha : a < (classB xs).length) {m : Nat} (hm : m < ((classB xs).getD a []).length) : 0 ≤ ((classB xs).getD a []).getD m 0 ∧ ((classB xs).getD a []).getD m 0 < xs.length ∧ xs.getD (((classB xs).getD a []).getD m 0).toNat 0 = a :=
  (classB_mem hv ha _).1 (mem_getD 0 hm)
theorem cl_len {xs : List Int} (hv : ValidP xs) {a : Nat} (ha : a < (classB xs).length) : ((classB xs).getD a []).length ≤ 4096 := by
  unfold classB at *
  rw [if_pos hv] at *
  rw [clsK_length] at ha
  rw [clsK_get ha]
  exact Nat.le_trans (posL_length_le _ _) hv.1
theorem kerB_cls {d : γ} {xs : List Int} {ys : List γ} (hv : ValidP xs) : kerB d xs ys = true ↔ ∀ a, a < (classB xs).length → clOK d ys ((classB xs).getD a []) ((classB xs).getD a []).length := by
  rw [kerB_iff]
  constructor
  · intro h a ha m hm
    obtain ⟨b1, b2, b3⟩ := cl_at hv ha hm
    obtain ⟨c1, c2, c3⟩ := cl_at hv ha (m := 0) (by omega)
    exact h _ _ (by omega) (by omega) (by rw [b3, c3])
  · intro h i j hi hj he
    obtain ⟨v1, v2, v3⟩ := valid_cnt hv
    have hi' := v3 _ (mem_getD 0 hi)
    have ha : (xs.getD i 0).toNat < (classB xs).length := by rw [classB_len hv]; omega
    have hk := h _ ha
    have key : ∀ i, i < xs.length → (xs.getD i 0).toNat = (xs.getD i 0).toNat → ∀ a, (xs.getD i 0) = (a : Nat) → a < (classB xs).length → clOK d ys ((classB xs).getD a []) ((classB xs).getD a []).length → ys.getD i d = ys.getD (((classB xs).getD a []).getD 0 0).toNat d := by
      intro i hi _ a hia ha hk
      have hm := (classB_mem hv ha (i : Int)).2 ⟨by omega, by omega, by simpa using hia⟩
      obtain ⟨m, hml, hme⟩ := List.getElem_of_mem hm
      have := hk m hml
      have he : ((classB xs).getD a []).getD m 0 = (i : Int) := by rw [List.getD_eq_getElem?_getD, List.getElem?_eq_getElem hml, hme]; rfl
      rw [he] at this
      exact this
    rw [key i hi rfl _ (by omega) ha hk, key j hj rfl _ (by omega) ha hk]
end ker

def refB (xs ys : List Int) : Bool := decide (xs.length = ys.length ∧ ValidP xs ∧ ValidP ys) && kerB 0 xs ys
def satB (xs : List Int) (bs : List Bool) : Bool := decide (xs.length = bs.length ∧ ValidP xs) && kerB false xs bs

theorem vst_idl (n : Nat) : vst (idl n) = some (n : Int) := by
  induction n with
  | zero => rfl
  | succ n ih => rw [idl_succ, vst_snoc, ih]; simp only [vstep]; rw [if_neg (by omega), if_pos trivial]; simp
theorem vst_rep (n : Nat) : vst (List.replicate n 0) = some (if n = 0 then 0 else 1) := by
  induction n with
  | zero => rfl
  | succ n ih =>
    rw [List.replicate_succ', vst_snoc, ih]; simp only [vstep]
    by_cases h : n = 0
    · subst h; rfl
    · simp [h]
theorem valid_discB (n : Int) : ValidP (discB n) := by
  unfold discB
  split
  · exact ⟨by rw [idl_length]; omega, (vst_iff _).1 (by rw [vst_idl]; rfl)⟩
  · exact ⟨by simp, rfl⟩
theorem valid_trivB (n : Int) : ValidP (trivB n) := by
  unfold trivB
  split
  · exact ⟨by simp; omega, (vst_iff _).1 (by rw [vst_rep]; rfl)⟩
  · exact ⟨by simp, rfl⟩
theorem ends_refB (n : Int) : refB (discB n) (trivB n) = true := by
  unfold refB
  have hl : (discB n).length = (trivB n).length := by unfold discB trivB; split <;> simp [idl_length]
  rw [decide_eq_true (⟨hl, valid_discB n, valid_trivB n⟩ : _ ∧ _ ∧ _), Bool.true_and]
  apply kerB_iff.2
  intro i j hi hj he
  by_cases h : 0 ≤ n ∧ n ≤ 4096
  · have e : discB n = idl n.toNat := by unfold discB; rw [if_pos h]
    rw [e] at hi hj he
    rw [idl_length] at hi hj
    rw [idl_get hi, idl_get hj] at he
    have : i = j := by omega
    rw [this]
  · have e : discB n = [] := by unfold discB; rw [if_neg h]
    rw [e] at hi
    simp at hi
end Go.Sx.Pt

set_option linter.unusedVariables false
namespace Go.Sx.Pt
/-! ### relations of places -/
structure Eqv (K : Nat → Nat → Prop) : Prop where
  refl : ∀ a, K a a
  symm : ∀ a b, K a b → K b a
  trans : ∀ a b c, K a b → K b c → K a c

/-- the least equivalence over R -/
def Gen (R : Nat → Nat → Prop) (i j : Nat) : Prop := ∀ E : Nat → Nat → Prop, Eqv E → (∀ a b, R a b → E a b) → E i j
theorem Gen.eqv (R : Nat → Nat → Prop) : Eqv (Gen R) := ⟨fun a E h _ => h.refl a, fun a b h E hE hR => hE.symm _ _ (h E hE hR), fun a b c h h' E hE hR => hE.trans _ _ _ (h E hE hR) (h' E hE hR)⟩
theorem Gen.of {R : Nat → Nat → Prop} {i j : Nat} (h : R i j) : Gen R i j := fun _ _ hR => hR _ _ h
theorem Gen.mono {R R' : Nat → Nat → Prop} (h : ∀ a b, R a b → Gen R' a b) {i j : Nat} (hg : Gen R i j) : Gen R' i j := hg _ (Gen.eqv R') h
theorem Gen.le {R E : Nat → Nat → Prop} (hE : Eqv E) (h : ∀ a b, R a b → E a b) {i j : Nat} (hg : Gen R i j) : E i j := hg E hE h
theorem Gen.congr {R R' : Nat → Nat → Prop} (h : ∀ a b, R a b → Gen R' a b) (h' : ∀ a b, R' a b → Gen R a b) (i j : Nat) : Gen R i j ↔ Gen R' i j := ⟨Gen.mono h, Gen.mono h'⟩

/-- the places of xs that hold the same -/
def Ker (xs : List Int) (i j : Nat) : Prop := i = j ∨ (i < xs.length ∧ j < xs.length ∧ xs.getD i 0 = xs.getD j 0)
theorem Ker.eqv (xs : List Int) : Eqv (Ker xs) := by
  refine ⟨fun a => .inl rfl, ?_, ?_⟩
  · rintro a b (rfl | ⟨h1, h2, h3⟩)
    · exact .inl rfl
    · exact .inr ⟨h2, h1, h3.symm⟩
  · rintro a b c (rfl | ⟨h1, h2, h3⟩) (rfl | ⟨h4, h5, h6⟩)
    · exact .inl rfl
    · exact .inr ⟨h4, h5, h6⟩
    · exact .inr ⟨h1, h2, h3⟩
    · exact .inr ⟨h1, h5, h3.trans h6⟩
theorem Ker.iff {xs : List Int} {i j : Nat} (hi : i < xs.length) (hj : j < xs.length) : Ker xs i j ↔ xs.getD i 0 = xs.getD j 0 := by
  constructor
  · rintro (rfl | ⟨_, _, h⟩)
    · rfl
    · exact h
  · intro h; exact .inr ⟨hi, hj, h⟩

/-- equal kernels: equal canonical forms -/
theorem canon_of_ker {xs ys : List Int} (hl : xs.length = ys.length) (h : ∀ i j, i < xs.length → j < xs.length → (Ker xs i j ↔ Ker ys i j)) : canon xs = canon ys := by
  refine (canon_kernel xs ys hl fun i j hi hj hi' hj' => ?_).1
  have := h i j hi hj
  rw [Ker.iff hi hj, Ker.iff hi' hj'] at this
  simpa [List.getD_eq_getElem?_getD, List.getElem?_eq_getElem hi, List.getElem?_eq_getElem hj, List.getElem?_eq_getElem hi', List.getElem?_eq_getElem hj'] using this
theorem cst_inj {α : Type} [DecidableEq α] (xs : List α) : (∀ x y c, mget (cst xs).2 x = some c → mget (cst xs).2 y = some c → x = y) ∧ ∀ x c, mget (cst xs).2 x = some c → 0 ≤ c ∧ c < (cst xs).2.length := by
  have hb := (canon_canon_aux xs).2
  refine ⟨?_, hb⟩
  induction xs using snoc_ind with
  | h0 => intro x y c h; simp [cst, mget] at h
  | hs l a ih =>
    have hb' := (canon_canon_aux l).2
    have ih' := ih hb'
    cases h : mget (cst l).2 a with
    | some d => rw [cst_some h]; exact ih'
    | none =>
      rw [cst_none h]
      intro x y c hx hy
      rw [mget_mset] at hx hy
      by_cases ex : x = a <;> by_cases ey : y = a
      · rw [ex, ey]
      · rw [if_pos ex] at hx; rw [if_neg ey] at hy
        simp at hx; have := hb' y c hy; omega
      · rw [if_neg ex] at hx; rw [if_pos ey] at hy
        simp at hy; have := hb' x c hx; omega
      · rw [if_neg ex] at hx; rw [if_neg ey] at hy
        exact ih' x y c hx hy
theorem ker_canon (xs : List Int) (i j : Nat) : Ker (canon xs) i j ↔ Ker xs i j := by
  have hl := canon_length xs
  have key : ∀ i j, i < xs.length → j < xs.length → ((canon xs).getD i 0 = (canon xs).getD j 0 ↔ xs.getD i 0 = xs.getD j 0) := by
    intro i j hi hj
    obtain ⟨p1, p2⟩ := cst_mem xs
    have e1 := p2 i hi
    have e2 := p2 j hj
    obtain ⟨c1, c2⟩ := cst_inj xs
    have g1 : ∀ k (hk : k < xs.length), xs.getD k 0 = xs[k] := fun k hk => by simp [List.getD_eq_getElem?_getD, hk]
    have g2 : ∀ k (hk : k < xs.length), (canon xs)[k]? = some ((canon xs).getD k 0) := fun k hk => by simp [List.getD_eq_getElem?_getD, hl, hk]
    rw [g2 i hi] at e1
    rw [g2 j hj] at e2
    rw [g1 i hi, g1 j hj]
    constructor
    · intro h; rw [← h] at e2; exact c1 _ _ _ e1 e2
    · intro h; rw [h, e2] at e1; simpa using e1.symm
  unfold Ker
  rw [hl]
  constructor
  · rintro (h | ⟨h1, h2, h3⟩)
    · exact .inl h
    · exact .inr ⟨h1, h2, (key i j h1 h2).1 h3⟩
  · rintro (h | ⟨h1, h2, h3⟩)
    · exact .inl h
    · exact .inr ⟨h1, h2, (key i j h1 h2).2 h3⟩

/-! ### folds of unions -/
def PR (ps : List (Int × Int)) (a b : Nat) : Prop := ∃ p ∈ ps, a = p.1.toNat ∧ b = p.2.toNat
/-- one union more -/
theorem gen_step {K K' R : Nat → Nat → Prop} {i j : Nat} (hE : Eqv K') (hK : ∀ k l, K k l ↔ Gen R k l) (hs : ∀ k l, K' k l ↔ (K k l ∨ ((K k i ∨ K k j) ∧ (K l i ∨ K l j)))) (k l : Nat) : K' k l ↔ Gen (fun a b => R a b ∨ (a = i ∧ b = j)) k l := by
  have gE := Gen.eqv R
  have GE := Gen.eqv (fun a b => R a b ∨ (a = i ∧ b = j))
  have sub : ∀ a b, K a b → Gen (fun a b => R a b ∨ (a = i ∧ b = j)) a b := fun a b h => Gen.mono (fun a b h => Gen.of (.inl h)) ((hK a b).1 h)
  have hij : Gen (fun a b => R a b ∨ (a = i ∧ b = j)) i j := Gen.of (.inr ⟨rfl, rfl⟩)
  constructor
  · intro h
    rcases (hs k l).1 h with h | ⟨h1, h2⟩
    · exact sub _ _ h
    · have t1 : Gen (fun a b => R a b ∨ (a = i ∧ b = j)) k i := by
        rcases h1 with h1 | h1
        · exact sub _ _ h1
        · exact GE.trans _ _ _ (sub _ _ h1) (GE.symm _ _ hij)
      have t2 : Gen (fun a b => R a b ∨ (a = i ∧ b = j)) l i := by
        rcases h2 with h2 | h2
        · exact sub _ _ h2
        · exact GE.trans _ _ _ (sub _ _ h2) (GE.symm _ _ hij)
      exact GE.trans _ _ _ t1 (GE.symm _ _ t2)
  · intro h
    refine Gen.le hE ?_ h
    rintro a b (h | ⟨rfl, rfl⟩)
    · exact (hs a b).2 (.inl ((hK a b).2 (Gen.of h)))
    · have r1 : K a a := (hK a a).2 (gE.refl a)
      have r2 : K b b := (hK b b).2 (gE.refl b)
      exact (hs a b).2 (.inr ⟨.inl r1, .inr r2⟩)

theorem PR_snoc (ps : List (Int × Int)) (p : Int × Int) (a b : Nat) : PR (ps ++ [p]) a b ↔ (PR ps a b ∨ (a = p.1.toNat ∧ b = p.2.toNat)) := by
  unfold PR
  constructor
  · rintro ⟨q, hq, h⟩
    rcases List.mem_append.1 hq with hq | hq
    · exact .inl ⟨q, hq, h⟩
    · simp at hq; subst hq; exact .inr h
  · rintro (⟨q, hq, h⟩ | h)
    · exact ⟨q, by simp [hq], h⟩
    · exact ⟨p, by simp, h⟩

def FK (f : Nat → Nat) (i j : Nat) : Prop := f i = f j
theorem FK.eqv (f : Nat → Nat) : Eqv (FK f) := ⟨fun _ => rfl, fun _ _ h => h.symm, fun _ _ _ h h' => h.trans h'⟩

theorem ufs_gen (ps : List (Int × Int)) : ∀ k l, ufs ps k = ufs ps l ↔ Gen (PR ps) k l := by
  induction ps using snoc_ind with
  | h0 =>
    intro k l
    constructor
    · intro h; simp [ufs] at h; subst h; exact (Gen.eqv _).refl k
    · intro h; exact Gen.le (FK.eqv (ufs [])) (by rintro a b ⟨p, hp, _⟩; simp at hp) h
  | hs q p ih =>
    intro k l
    have hst : ∀ k l, FK (ufs (q ++ [p])) k l ↔ (ufs q k = ufs q l ∨ ((ufs q k = ufs q p.1.toNat ∨ ufs q k = ufs q p.2.toNat) ∧ (ufs q l = ufs q p.1.toNat ∨ ufs q l = ufs q p.2.toNat))) := by
      intro k l
      unfold FK
      rw [ufs_snoc]
      unfold ufstep
      rw [relabel]
      have key : ∀ x : Nat, (x = min (ufs q p.1.toNat) (ufs q p.2.toNat) ∨ x = max (ufs q p.1.toNat) (ufs q p.2.toNat)) ↔ (x = ufs q p.1.toNat ∨ x = ufs q p.2.toNat) := by
        intro x
        rcases Nat.le_total (ufs q p.1.toNat) (ufs q p.2.toNat) with h | h
        · rw [Nat.min_eq_left h, Nat.max_eq_right h]
        · rw [Nat.min_eq_right h, Nat.max_eq_left h]; exact Or.comm
      rw [key, key]
    have := gen_step (K := FK (ufs q)) (FK.eqv (ufs (q ++ [p]))) ih hst k l
    rw [show (ufs (q ++ [p]) k = ufs (q ++ [p]) l) = FK (ufs (q ++ [p])) k l from rfl, this]
    exact Gen.congr (fun a b h => Gen.of ((PR_snoc q p a b).2 h)) (fun a b h => Gen.of ((PR_snoc q p a b).1 h)) k l

/-- the reference's merges, from any list -/
def mfsF (xs : List Int) (ps : List (Int × Int)) : List Int := ps.foldl (fun xs p => mergeL xs p.1.toNat p.2.toNat) xs
theorem mfsF_snoc (xs : List Int) (ps : List (Int × Int)) (p : Int × Int) : mfsF xs (ps ++ [p]) = mergeL (mfsF xs ps) p.1.toNat p.2.toNat := by simp [mfsF]
theorem mfsF_length (xs : List Int) (ps : List (Int × Int)) : (mfsF xs ps).length = xs.length := by
  induction ps using snoc_ind with
  | h0 => rfl
  | hs l a ih => rw [mfsF_snoc, mergeL_length, ih]
theorem mfsF_gen (xs : List Int) (ps : List (Int × Int)) (hp : ∀ p ∈ ps, p.1.toNat < xs.length ∧ p.2.toNat < xs.length) : ∀ k l, Ker (mfsF xs ps) k l ↔ Gen (fun a b => Ker xs a b ∨ PR ps a b) k l := by
  induction ps using snoc_ind with
  | h0 =>
    intro k l
    constructor
    · intro h; exact Gen.of (.inl h)
    · intro h; exact Gen.le (Ker.eqv xs) (by rintro a b (h | ⟨p, hp, _⟩); exact h; simp at hp) h
  | hs q p ih =>
    have ih' := ih (fun p h => hp p (by simp [h]))
    obtain ⟨p1, p2⟩ := hp p (by simp)
    have hl := mfsF_length xs q
    have hst : ∀ k l, Ker (mfsF xs (q ++ [p])) k l ↔ (Ker (mfsF xs q) k l ∨ ((Ker (mfsF xs q) k p.1.toNat ∨ Ker (mfsF xs q) k p.2.toNat) ∧ (Ker (mfsF xs q) l p.1.toNat ∨ Ker (mfsF xs q) l p.2.toNat))) := by
      intro k l
      by_cases hk : k < xs.length
      · by_cases hl' : l < xs.length
        · rw [Ker.iff (by rw [mfsF_length]; exact hk) (by rw [mfsF_length]; exact hl'), mfsF_snoc, mergeL_get (by omega), mergeL_get (by omega), relabel]
          rw [Ker.iff (by omega) (by omega), Ker.iff (by omega) (by omega), Ker.iff (by omega) (by omega), Ker.iff (by omega) (by omega), Ker.iff (by omega) (by omega)]
        · constructor
          · rintro (h | ⟨_, h, _⟩)
            · exact .inl (.inl h)
            · rw [mfsF_length] at h; omega
          · rintro (h | ⟨_, h | h⟩)
            · rcases h with h | ⟨_, h, _⟩
              · exact .inl h
              · omega
            · rcases h with h | ⟨h, _, _⟩ <;> omega
            · rcases h with h | ⟨h, _, _⟩ <;> omega
      · constructor
        · rintro (h | ⟨h, _, _⟩)
          · exact .inl (.inl h)
          · rw [mfsF_length] at h; omega
        · rintro (h | ⟨h | h, _⟩)
          · rcases h with h | ⟨h, _, _⟩
            · exact .inl h
            · omega
          · rcases h with h | ⟨h, _, _⟩ <;> omega
          · rcases h with h | ⟨h, _, _⟩ <;> omega
    intro k l
    rw [gen_step (Ker.eqv _) ih' hst k l]
    refine Gen.congr (fun a b h => ?_) (fun a b h => ?_) k l
    · rcases h with (h | h) | h
      · exact Gen.of (.inl h)
      · exact Gen.of (.inr ((PR_snoc q p a b).2 (.inl h)))
      · exact Gen.of (.inr ((PR_snoc q p a b).2 (.inr h)))
    · rcases h with h | h
      · exact Gen.of (.inl (.inl h))
      · rcases (PR_snoc q p a b).1 h with h | h
        · exact Gen.of (.inl (.inr h))
        · exact Gen.of (.inr h)

theorem ker_rho {n : Nat} {ρ : Nat → Nat} {i j : Nat} (hi : i < n) (hj : j < n) : Ker (rhoL n ρ) i j ↔ ρ i = ρ j := by
  rw [Ker.iff (by rw [rhoL_length]; exact hi) (by rw [rhoL_length]; exact hj)]
  simp [rhoL, List.getD_eq_getElem?_getD, hi, hj]
  omega

/-! ### meet and join -/
def zipP (xs ys : List Int) : List (Int × Int) := xs.zip ys
def okPQ (xs ys : List Int) : Prop := xs.length = ys.length ∧ ValidP xs ∧ ValidP ys
instance (xs ys : List Int) : Decidable (okPQ xs ys) := inferInstanceAs (Decidable (_ ∧ _))
def meetB (xs ys : List Int) : List Int := if okPQ xs ys then canon (zipP xs ys) else []
/-- the pairs that Join unites: of each class its first element with each -/
def clP (cl : List Int) : List (Int × Int) := cl.map fun i => (cl.getD 0 0, i)
def jp (xs : List Int) : List (Int × Int) := (classB xs).flatMap clP
def joinB (xs ys : List Int) : List Int := if okPQ xs ys then canon (rhoL xs.length (ufs (jp xs ++ jp ys))) else []

theorem jp_gen {xs : List Int} (hv : ValidP xs) (k l : Nat) : Gen (PR (jp xs)) k l ↔ Ker xs k l := by
  constructor
  · refine Gen.le (Ker.eqv xs) ?_
    rintro a b ⟨p, hp, rfl, rfl⟩
    unfold jp at hp
    rw [List.mem_flatMap] at hp
    obtain ⟨cl, hcl, hp⟩ := hp
    obtain ⟨m, hm, rfl⟩ := List.getElem_of_mem hcl
    have hce : (classB xs)[m] = (classB xs).getD m [] := by simp [List.getD_eq_getElem?_getD, hm]
    rw [hce] at hp
    unfold clP at hp
    rw [List.mem_map] at hp
    obtain ⟨i, hi, rfl⟩ := hp
    obtain ⟨b1, b2, b3⟩ := (classB_mem hv hm i).1 hi
    have h0 : 0 < ((classB xs).getD m []).length := List.length_pos_of_mem hi
    obtain ⟨c1, c2, c3⟩ := cl_at hv hm h0
    exact .inr ⟨by dsimp only; omega, by dsimp only; omega, by dsimp only; rw [b3, c3]⟩
  · rintro (rfl | ⟨hk, hl, he⟩)
    · exact (Gen.eqv _).refl k
    · obtain ⟨v1, v2, v3⟩ := valid_cnt hv
      have hi' := v3 _ (mem_getD 0 hk)
      have ha : (xs.getD k 0).toNat < (classB xs).length := by rw [classB_len hv]; omega
      have key : ∀ i, i < xs.length → xs.getD i 0 = xs.getD k 0 → Gen (PR (jp xs)) (((classB xs).getD (xs.getD k 0).toNat []).getD 0 0).toNat i := by
        intro i hi hik
        have hm := (classB_mem hv ha (i : Int)).2 ⟨by omega, by omega, by simp only [Int.toNat_natCast]; rw [hik]; omega⟩
        refine Gen.of ⟨(((classB xs).getD (xs.getD k 0).toNat []).getD 0 0, (i : Int)), ?_, rfl, by simp⟩
        unfold jp
        rw [List.mem_flatMap]
        refine ⟨_, mem_getD [] ha, ?_⟩
        unfold clP
        rw [List.mem_map]
        exact ⟨_, hm, rfl⟩
      have g1 := key k hk rfl
      have g2 := key l hl he.symm
      exact (Gen.eqv _).trans _ _ _ ((Gen.eqv _).symm _ _ g1) g2

theorem PR_append (a b : List (Int × Int)) (i j : Nat) : PR (a ++ b) i j ↔ PR a i j ∨ PR b i j := by
  unfold PR
  constructor
  · rintro ⟨p, hp, h⟩
    rcases List.mem_append.1 hp with hp | hp
    · exact .inl ⟨p, hp, h⟩
    · exact .inr ⟨p, hp, h⟩
  · rintro (⟨p, hp, h⟩ | ⟨p, hp, h⟩)
    · exact ⟨p, by simp [hp], h⟩
    · exact ⟨p, by simp [hp], h⟩

theorem joinB_len {xs ys : List Int} (h : okPQ xs ys) : (joinB xs ys).length = xs.length := by unfold joinB; rw [if_pos h, canon_length, rhoL_length]
theorem meetB_len {xs ys : List Int} (h : okPQ xs ys) : (meetB xs ys).length = xs.length := by unfold meetB; rw [if_pos h, canon_length]; simp [zipP, h.1]
theorem ker_join {xs ys : List Int} (h : okPQ xs ys) {i j : Nat} (hi : i < xs.length) (hj : j < xs.length) : Ker (joinB xs ys) i j ↔ Gen (fun a b => Ker xs a b ∨ Ker ys a b) i j := by
  unfold joinB
  rw [if_pos h, ker_canon, ker_rho hi hj, ufs_gen]
  refine Gen.congr (fun a b hab => ?_) (fun a b hab => ?_) i j
  · rcases (PR_append _ _ a b).1 hab with h' | h'
    · exact Gen.of (.inl ((jp_gen h.2.1 a b).1 (Gen.of h')))
    · exact Gen.of (.inr ((jp_gen h.2.2 a b).1 (Gen.of h')))
  · rcases hab with h' | h'
    · exact Gen.mono (fun a b h => Gen.of ((PR_append _ _ a b).2 (.inl h))) ((jp_gen h.2.1 a b).2 h')
    · exact Gen.mono (fun a b h => Gen.of ((PR_append _ _ a b).2 (.inr h))) ((jp_gen h.2.2 a b).2 h')
theorem ker_meet {xs ys : List Int} (h : okPQ xs ys) {i j : Nat} (hi : i < xs.length) (hj : j < xs.length) : Ker (meetB xs ys) i j ↔ (Ker xs i j ∧ Ker ys i j) := by
  have hle := h.1
  have hlen := meetB_len h
  rw [Ker.iff (by omega) (by omega), Ker.iff hi hj, Ker.iff (by omega) (by omega)]
  unfold meetB
  rw [if_pos h]
  have hz : (zipP xs ys).length = xs.length := by simp [zipP, h.1]
  obtain ⟨p1, p2⟩ := cst_mem (zipP xs ys)
  obtain ⟨c1, c2⟩ := cst_inj (zipP xs ys)
  have e1 := p2 i (by omega)
  have e2 := p2 j (by omega)
  have hcl := canon_length (zipP xs ys)
  have g2 : ∀ k (hk : k < xs.length), (canon (zipP xs ys))[k]? = some ((canon (zipP xs ys)).getD k 0) := fun k hk => by simp [List.getD_eq_getElem?_getD, hcl, hz, hk]
  have g1 : ∀ k (hk : k < xs.length), (zipP xs ys)[k]'(by omega) = (xs.getD k 0, ys.getD k 0) := fun k hk => by simp [zipP, List.getD_eq_getElem?_getD, hk, show k < ys.length by omega]
  rw [g2 i hi, g1 i hi] at e1
  rw [g2 j hj, g1 j hj] at e2
  constructor
  · intro he
    rw [← he] at e2
    have := c1 _ _ _ e1 e2
    simpa using this
  · rintro ⟨h1, h2⟩
    rw [h1, h2, e2] at e1
    simpa using e1.symm
theorem valid_join (xs ys : List Int) (hn : xs.length ≤ 4096) : ValidP (joinB xs ys) := by
  unfold joinB
  split
  · exact ⟨by rw [canon_length, rhoL_length]; exact hn, canon_canon _⟩
  · exact ⟨by simp, rfl⟩
theorem valid_meet (xs ys : List Int) (hn : xs.length ≤ 4096) : ValidP (meetB xs ys) := by
  unfold meetB
  split
  · rename_i h; exact ⟨by have h1 := h.1; rw [canon_length]; unfold zipP; rw [List.length_zip]; omega, canon_canon _⟩
  · exact ⟨by simp, rfl⟩
/-- valid lists with one kernel are equal -/
theorem eq_of_ker {xs ys : List Int} (hx : ValidP xs) (hy : ValidP ys) (hl : xs.length = ys.length) (h : ∀ i j, i < xs.length → j < xs.length → (Ker xs i j ↔ Ker ys i j)) : xs = ys := by
  rw [← hx.2, ← hy.2]; exact canon_of_ker hl h
end Go.Sx.Pt

set_option linter.unusedVariables false
namespace Go.Sx.Pt
/-! ### meet and join: what the walks need -/
theorem zipP_len {xs ys : List Int} (h : xs.length = ys.length) : (zipP xs ys).length = xs.length := by simp [zipP, h]
theorem zipP_tlen {xs ys : List Int} {k : Nat} (h : k ≤ xs.length) (h' : k ≤ ys.length) : (zipP (xs.take k) (ys.take k)).length = k := by simp [zipP]; omega
theorem zipP_succ {xs ys : List Int} {k : Nat} (h : k < xs.length) (h' : k < ys.length) : zipP (xs.take (k + 1)) (ys.take (k + 1)) = zipP (xs.take k) (ys.take k) ++ [(xs.getD k 0, ys.getD k 0)] := by
  unfold zipP
  rw [take_snocD 0 xs k h, take_snocD 0 ys k h', List.zip_append (by simp; omega)]
  rfl
def encL (xs ys : List Int) : List Int := (zipP xs ys).map fun p => p.1 * 4096 + p.2
theorem encL_len {xs ys : List Int} (h : xs.length = ys.length) : (encL xs ys).length = xs.length := by rw [encL, List.length_map, zipP_len h]
theorem encL_tlen {xs ys : List Int} {k : Nat} (h : k ≤ xs.length) (h' : k ≤ ys.length) : (encL (xs.take k) (ys.take k)).length = k := by rw [encL, List.length_map, zipP_tlen h h']
theorem encL_succ {xs ys : List Int} {k : Nat} (h : k < xs.length) (h' : k < ys.length) : encL (xs.take (k + 1)) (ys.take (k + 1)) = encL (xs.take k) (ys.take k) ++ [xs.getD k 0 * 4096 + ys.getD k 0] := by
  unfold encL
  rw [zipP_succ h h', List.map_append]; rfl
theorem valid_bd {xs : List Int} (h : ValidP xs) {k : Nat} (hk : k < xs.length) : 0 ≤ xs.getD k 0 ∧ xs.getD k 0 < 4096 := by
  obtain ⟨h1, h2, h3⟩ := valid_cnt h
  have := h3 _ (mem_getD 0 hk)
  have := h.1
  omega
theorem refmeet_eq {xs ys : List Int} (h : okPQ xs ys) : meetB xs ys = canonB (encL xs ys) := by
  have hn := h.2.1.1
  unfold meetB canonB
  rw [if_pos h, if_pos (by rw [encL_len h.1]; exact hn)]
  refine (canon_kernel _ _ (by rw [encL_len h.1, zipP_len h.1]) fun i j hi hj hi' hj' => ?_).1
  rw [zipP_len h.1] at hi hj
  have hle := h.1
  have g1 : ∀ k (hk : k < xs.length), (zipP xs ys)[k]'(by rw [zipP_len h.1]; exact hk) = (xs.getD k 0, ys.getD k 0) := fun k hk => by simp [zipP, List.getD_eq_getElem?_getD, hk, show k < ys.length by omega]
  have e1 : (encL xs ys)[i] = xs.getD i 0 * 4096 + ys.getD i 0 := by simp only [encL, List.getElem_map]; rw [g1 i hi]
  have e2 : (encL xs ys)[j] = xs.getD j 0 * 4096 + ys.getD j 0 := by simp only [encL, List.getElem_map]; rw [g1 j hj]
  rw [e1, e2, g1 i hi, g1 j hj]
  have a1 := valid_bd h.2.1 hi
  have a2 := valid_bd h.2.1 hj
  have a3 := valid_bd h.2.2 (k := i) (by omega)
  have a4 := valid_bd h.2.2 (k := j) (by omega)
  constructor
  · intro e; rw [Prod.mk.injEq] at e; rw [e.1, e.2]
  · intro e; rw [Prod.mk.injEq]; constructor <;> omega
/-- the pairs that the reference's Join has merged, before place k -/
def rjOK (ys : List Int) (k : Nat) (ps : List (Int × Int)) : Prop := (∀ p ∈ ps, p.1.toNat < k ∧ p.2.toNat < k ∧ ys.getD p.1.toNat 0 = ys.getD p.2.toNat 0) ∧ ∀ i j, i < k → j < k → ys.getD i 0 = ys.getD j 0 → Gen (PR ps) i j
theorem rjOK_nil {ys : List Int} : rjOK ys 0 [] := ⟨by simp, fun i j hi => absurd hi (Nat.not_lt_zero _)⟩
theorem rjOK_skip {ys : List Int} {k : Nat} {ps : List (Int × Int)} (h : rjOK ys k ps) (hn : ∀ m, m < k → ¬ ys.getD k 0 = ys.getD m 0) : rjOK ys (k + 1) ps := by
  refine ⟨fun p hp => ?_, fun i j hi hj e => ?_⟩
  · obtain ⟨h1, h2, h3⟩ := h.1 p hp; exact ⟨by omega, by omega, h3⟩
  · by_cases hik : i = k <;> by_cases hjk : j = k
    · rw [hik, hjk]; exact (Gen.eqv _).refl _
    · subst hik; exact absurd e (hn j (by omega))
    · subst hjk; exact absurd e.symm (hn i (by omega))
    · exact h.2 i j (by omega) (by omega) e
theorem rjOK_add {ys : List Int} {k m : Nat} {ps : List (Int × Int)} (h : rjOK ys k ps) (hm : m < k) (he : ys.getD k 0 = ys.getD m 0) : rjOK ys (k + 1) (ps ++ [((k : Int), (m : Int))]) := by
  have up : ∀ a b, Gen (PR ps) a b → Gen (PR (ps ++ [((k : Int), (m : Int))])) a b := fun a b => Gen.mono fun a b h => Gen.of ((PR_snoc _ _ _ _).2 (.inl h))
  have G := Gen.eqv (PR (ps ++ [((k : Int), (m : Int))]))
  have new : Gen (PR (ps ++ [((k : Int), (m : Int))])) k m := Gen.of ((PR_snoc _ _ _ _).2 (.inr ⟨by simp, by simp⟩))
  refine ⟨fun p hp => ?_, fun i j hi hj e => ?_⟩
  · rcases List.mem_append.1 hp with hp | hp
    · obtain ⟨h1, h2, h3⟩ := h.1 p hp; exact ⟨by omega, by omega, h3⟩
    · simp at hp; subst hp; exact ⟨by simp, by simp; omega, by simpa using he⟩
  · by_cases hik : i = k <;> by_cases hjk : j = k
    · rw [hik, hjk]; exact G.refl _
    · subst hik; exact G.trans _ _ _ new (up _ _ (h.2 m j hm (by omega) (he.symm.trans e)))
    · subst hjk; exact G.trans _ _ _ (up _ _ (h.2 i m (by omega) hm (e.trans he))) (G.symm _ _ new)
    · exact up _ _ (h.2 i j (by omega) (by omega) e)
theorem rjOK_gen {ys : List Int} {ps : List (Int × Int)} (h : rjOK ys ys.length ps) (i j : Nat) : Gen (PR ps) i j ↔ Ker ys i j := by
  constructor
  · refine Gen.le (Ker.eqv ys) ?_
    rintro a b ⟨p, hp, rfl, rfl⟩
    obtain ⟨h1, h2, h3⟩ := h.1 p hp
    exact .inr ⟨h1, h2, h3⟩
  · rintro (rfl | ⟨hi, hj, e⟩)
    · exact (Gen.eqv _).refl i
    · exact h.2 i j hi hj e
theorem refjoin_eq {xs ys : List Int} {ps : List (Int × Int)} (h : okPQ xs ys) (hr : rjOK ys xs.length ps) : joinB xs ys = canonB (mfsF xs ps) := by
  have hn := h.2.1.1
  have hle := h.1
  have hl := mfsF_length xs ps
  have e : canonB (mfsF xs ps) = canon (mfsF xs ps) := by unfold canonB; rw [if_pos (by omega)]
  rw [e]
  refine eq_of_ker (valid_join xs ys hn) ⟨by rw [canon_length]; omega, canon_canon _⟩ (by rw [joinB_len h, canon_length, hl]) fun i j hi hj => ?_
  rw [joinB_len h] at hi hj
  rw [ker_join h hi hj, ker_canon, mfsF_gen xs ps (fun p hp => by have := hr.1 p hp; omega)]
  rw [hle] at hr
  exact Gen.congr (fun a b h => h.elim (fun h => Gen.of (.inl h)) (fun h => Gen.mono (fun a b h => Gen.of (.inr h)) ((rjOK_gen hr a b).2 h))) (fun a b h => h.elim (fun h => Gen.of (.inl h)) (fun h => Gen.of (.inr ((rjOK_gen hr a b).1 (Gen.of h))))) i j
end Go.Sx.Pt

set_option linter.unusedVariables false
namespace Go.Sx.Pt
/-! ### the lattice of partitions -/
theorem okPQ.symm {xs ys : List Int} (h : okPQ xs ys) : okPQ ys xs := ⟨h.1.symm, h.2.2, h.2.1⟩
theorem okPQ.trans {xs ys zs : List Int} (h : okPQ xs ys) (h' : okPQ ys zs) : okPQ xs zs := ⟨h.1.trans h'.1, h.2.1, h'.2.2⟩
theorem okPQ.refl {xs : List Int} (h : ValidP xs) : okPQ xs xs := ⟨rfl, h, h⟩
theorem okPQ.meet {xs ys : List Int} (h : okPQ xs ys) : okPQ xs (meetB xs ys) := ⟨(meetB_len h).symm, h.2.1, valid_meet xs ys h.2.1.1⟩
theorem okPQ.join {xs ys : List Int} (h : okPQ xs ys) : okPQ xs (joinB xs ys) := ⟨(joinB_len h).symm, h.2.1, valid_join xs ys h.2.1.1⟩
theorem meet_none {xs ys : List Int} (h : ¬ okPQ xs ys) : meetB xs ys = [] := by unfold meetB; rw [if_neg h]
theorem join_none {xs ys : List Int} (h : ¬ okPQ xs ys) : joinB xs ys = [] := by unfold joinB; rw [if_neg h]
theorem meet_comm {xs ys : List Int} (h : okPQ xs ys) : meetB xs ys = meetB ys xs := by
  refine eq_of_ker h.meet.2.2 h.symm.meet.2.2 (by rw [meetB_len h, meetB_len h.symm, h.1]) fun i j hi hj => ?_
  rw [meetB_len h] at hi hj
  have hle := h.1
  rw [ker_meet h hi hj, ker_meet h.symm (by omega) (by omega)]
  exact And.comm
theorem join_comm {xs ys : List Int} (h : okPQ xs ys) : joinB xs ys = joinB ys xs := by
  refine eq_of_ker h.join.2.2 h.symm.join.2.2 (by rw [joinB_len h, joinB_len h.symm, h.1]) fun i j hi hj => ?_
  rw [joinB_len h] at hi hj
  have hle := h.1
  rw [ker_join h hi hj, ker_join h.symm (by omega) (by omega)]
  exact Gen.congr (fun a b h => Gen.of h.symm) (fun a b h => Gen.of h.symm) i j
theorem meet_assoc {xs ys zs : List Int} (h : okPQ xs ys) (h' : okPQ ys zs) : meetB (meetB xs ys) zs = meetB xs (meetB ys zs) := by
  have k1 : okPQ (meetB xs ys) zs := h.meet.symm.trans (h.trans h')
  have k2 : okPQ xs (meetB ys zs) := h.trans h'.meet
  have hl := meetB_len h
  have hl' := meetB_len h'
  have hle := h.1
  refine eq_of_ker k1.meet.2.2 k2.meet.2.2 (by rw [meetB_len k1, meetB_len k2, hl]) fun i j hi hj => ?_
  rw [meetB_len k1, hl] at hi hj
  rw [ker_meet k1 (by omega) (by omega), ker_meet h hi hj, ker_meet k2 hi hj, ker_meet h' (by omega) (by omega)]
  exact and_assoc
theorem ker_out {xs : List Int} {i j : Nat} (h : Ker xs i j) : i = j ∨ (i < xs.length ∧ j < xs.length) := by
  rcases h with h | ⟨h1, h2, _⟩
  · exact .inl h
  · exact .inr ⟨h1, h2⟩
theorem ker_join' {xs ys : List Int} (h : okPQ xs ys) {i j : Nat} : Ker (joinB xs ys) i j ↔ Gen (fun a b => Ker xs a b ∨ Ker ys a b) i j := by
  have hle := h.1
  constructor
  · intro hk
    rcases ker_out hk with rfl | ⟨h1, h2⟩
    · exact (Gen.eqv _).refl i
    · rw [joinB_len h] at h1 h2; exact (ker_join h h1 h2).1 hk
  · intro hg
    refine Gen.le (Ker.eqv _) ?_ hg
    intro a b hab
    have : a = b ∨ (a < xs.length ∧ b < xs.length) := by
      rcases hab with hab | hab
      · exact ker_out hab
      · have := ker_out hab; omega
    rcases this with rfl | ⟨h1, h2⟩
    · exact (Ker.eqv _).refl a
    · exact (ker_join h h1 h2).2 (Gen.of hab)
theorem ker_meet' {xs ys : List Int} (h : okPQ xs ys) {i j : Nat} : Ker (meetB xs ys) i j ↔ (Ker xs i j ∧ Ker ys i j) := by
  constructor
  · intro hk
    rcases ker_out hk with rfl | ⟨h1, h2⟩
    · exact ⟨(Ker.eqv _).refl i, (Ker.eqv _).refl i⟩
    · rw [meetB_len h] at h1 h2; exact (ker_meet h h1 h2).1 hk
  · intro hg
    rcases ker_out hg.1 with rfl | ⟨h1, h2⟩
    · exact (Ker.eqv _).refl i
    · exact (ker_meet h h1 h2).2 hg
theorem join_assoc {xs ys zs : List Int} (h : okPQ xs ys) (h' : okPQ ys zs) : joinB (joinB xs ys) zs = joinB xs (joinB ys zs) := by
  have k1 : okPQ (joinB xs ys) zs := h.join.symm.trans (h.trans h')
  have k2 : okPQ xs (joinB ys zs) := h.trans h'.join
  have hl := joinB_len h
  refine eq_of_ker k1.join.2.2 k2.join.2.2 (by rw [joinB_len k1, joinB_len k2, hl]) fun i j hi hj => ?_
  rw [ker_join' k1, ker_join' k2]
  refine Gen.congr (fun a b hab => ?_) (fun a b hab => ?_) i j
  · rcases hab with hab | hab
    · refine Gen.mono (fun a b hab => ?_) ((ker_join' h).1 hab)
      rcases hab with hab | hab
      · exact Gen.of (.inl hab)
      · exact Gen.of (.inr ((ker_join' h').2 (Gen.of (.inl hab))))
    · exact Gen.of (.inr ((ker_join' h').2 (Gen.of (.inr hab))))
  · rcases hab with hab | hab
    · exact Gen.of (.inl ((ker_join' h).2 (Gen.of (.inl hab))))
    · refine Gen.mono (fun a b hab => ?_) ((ker_join' h').1 hab)
      rcases hab with hab | hab
      · exact Gen.of (.inl ((ker_join' h).2 (Gen.of (.inr hab))))
      · exact Gen.of (.inr hab)
theorem absorb_join {xs ys : List Int} (h : okPQ xs ys) : joinB xs (meetB xs ys) = xs := by
  refine eq_of_ker h.meet.join.2.2 h.2.1 (joinB_len h.meet) fun i j hi hj => ?_
  rw [ker_join' h.meet]
  constructor
  · exact Gen.le (Ker.eqv xs) (fun a b hab => hab.elim id fun hab => ((ker_meet' h).1 hab).1)
  · intro hk; exact Gen.of (.inl hk)
theorem absorb_meet {xs ys : List Int} (h : okPQ xs ys) : meetB xs (joinB xs ys) = xs := by
  refine eq_of_ker h.join.meet.2.2 h.2.1 (meetB_len h.join) fun i j hi hj => ?_
  rw [ker_meet' h.join, ker_join' h]
  exact ⟨fun h => h.1, fun hk => ⟨hk, Gen.of (.inl hk)⟩⟩
/-! ### the order -/
theorem refB_iff {xs ys : List Int} : refB xs ys = true ↔ okPQ xs ys ∧ ∀ i j, Ker xs i j → Ker ys i j := by
  unfold refB
  rw [Bool.and_eq_true, decide_eq_true_eq, kerB_iff]
  constructor
  · rintro ⟨h, hk⟩
    refine ⟨h, fun i j hij => ?_⟩
    rcases hij with rfl | ⟨h1, h2, h3⟩
    · exact (Ker.eqv ys).refl i
    · have := h.1; exact .inr ⟨by omega, by omega, hk i j h1 h2 h3⟩
  · rintro ⟨h, hk⟩
    refine ⟨h, fun i j h1 h2 e => ?_⟩
    have := h.1
    exact (Ker.iff (by omega) (by omega)).1 (hk i j (.inr ⟨h1, h2, e⟩))
theorem ref_meet1 {xs ys : List Int} (h : okPQ xs ys) : refB (meetB xs ys) xs = true := refB_iff.2 ⟨h.meet.symm, fun i j hk => ((ker_meet' h).1 hk).1⟩
theorem ref_meet2 {xs ys : List Int} (h : okPQ xs ys) : refB (meetB xs ys) ys = true := refB_iff.2 ⟨h.meet.symm.trans h, fun i j hk => ((ker_meet' h).1 hk).2⟩
theorem ref_join1 {xs ys : List Int} (h : okPQ xs ys) : refB xs (joinB xs ys) = true := refB_iff.2 ⟨h.join, fun i j hk => (ker_join' h).2 (Gen.of (.inl hk))⟩
theorem ref_join2 {xs ys : List Int} (h : okPQ xs ys) : refB ys (joinB xs ys) = true := refB_iff.2 ⟨h.symm.trans h.join, fun i j hk => (ker_join' h).2 (Gen.of (.inr hk))⟩
theorem ref_under {xs ys zs : List Int} (h : okPQ xs ys) : (refB zs xs && refB zs ys) = refB zs (meetB xs ys) := by
  apply Bool.eq_iff_iff.2
  rw [Bool.and_eq_true, refB_iff, refB_iff, refB_iff]
  constructor
  · rintro ⟨⟨h1, h2⟩, h3, h4⟩; exact ⟨h1.trans h.meet, fun i j hk => (ker_meet' h).2 ⟨h2 i j hk, h4 i j hk⟩⟩
  · rintro ⟨h1, h2⟩
    have k := h1.trans h.meet.symm
    exact ⟨⟨k, fun i j hk => ((ker_meet' h).1 (h2 i j hk)).1⟩, k.trans h, fun i j hk => ((ker_meet' h).1 (h2 i j hk)).2⟩
theorem ref_above {xs ys zs : List Int} (h : okPQ xs ys) : (refB xs zs && refB ys zs) = refB (joinB xs ys) zs := by
  apply Bool.eq_iff_iff.2
  rw [Bool.and_eq_true, refB_iff, refB_iff, refB_iff]
  constructor
  · rintro ⟨⟨h1, h2⟩, h3, h4⟩; exact ⟨h.join.symm.trans h1, fun i j hk => Gen.le (Ker.eqv zs) (fun a b hab => hab.elim (h2 a b) (h4 a b)) ((ker_join' h).1 hk)⟩
  · rintro ⟨h1, h2⟩
    have k := h.join.trans h1
    exact ⟨⟨k, fun i j hk => h2 i j ((ker_join' h).2 (Gen.of (.inl hk)))⟩, h.symm.trans k, fun i j hk => h2 i j ((ker_join' h).2 (Gen.of (.inr hk)))⟩
/-! ### lists of pairs -/
theorem fromB_len {n : Int} {ps : List (Int × Int)} (h : mayP n ps) : (fromB n ps).length = n.toNat := by unfold fromB; rw [if_pos h, canon_length, rhoL_length]
theorem valid_fromB (n : Int) (ps : List (Int × Int)) : ValidP (fromB n ps) := by
  refine ⟨fromB_le n ps, ?_⟩
  unfold fromB
  split
  · exact canon_canon _
  · rfl
theorem ker_fromB {n : Int} {ps : List (Int × Int)} (h : mayP n ps) {i j : Nat} : Ker (fromB n ps) i j ↔ Gen (PR ps) i j := by
  have e : fromB n ps = canon (rhoL n.toNat (ufs ps)) := by unfold fromB; rw [if_pos h]
  have hin : ∀ a b, PR ps a b → a < n.toNat ∧ b < n.toNat := by
    rintro a b ⟨p, hp, rfl, rfl⟩
    have := h.2 p hp
    unfold okp at this
    omega
  have key : ∀ {i j}, i < n.toNat → j < n.toNat → (Ker (fromB n ps) i j ↔ Gen (PR ps) i j) := by
    intro i j hi hj
    rw [e, ker_canon, ker_rho hi hj, ufs_gen]
  constructor
  · intro hk
    rcases ker_out hk with rfl | ⟨h1, h2⟩
    · exact (Gen.eqv _).refl i
    · rw [fromB_len h] at h1 h2; exact (key h1 h2).1 hk
  · refine Gen.le (Ker.eqv _) fun a b hab => ?_
    obtain ⟨h1, h2⟩ := hin a b hab
    exact (key h1 h2).2 (Gen.of hab)
theorem mayP_append {n : Int} {a b : List (Int × Int)} (ha : mayP n a) (hb : mayP n b) : mayP n (a ++ b) := ⟨ha.1, fun p hp => (List.mem_append.1 hp).elim (ha.2 p) (hb.2 p)⟩
theorem ok_fromB {n : Int} {a b : List (Int × Int)} (ha : mayP n a) (hb : mayP n b) : okPQ (fromB n a) (fromB n b) := ⟨by rw [fromB_len ha, fromB_len hb], valid_fromB n a, valid_fromB n b⟩
theorem fromB_join {n : Int} {a b : List (Int × Int)} (ha : mayP n a) (hb : mayP n b) : joinB (fromB n a) (fromB n b) = fromB n (a ++ b) := by
  have hok := ok_fromB ha hb
  refine eq_of_ker hok.join.2.2 (valid_fromB _ _) (by rw [joinB_len hok, fromB_len ha, fromB_len (mayP_append ha hb)]) fun i j _ _ => ?_
  rw [ker_join' hok, ker_fromB (mayP_append ha hb)]
  refine Gen.congr (fun x y h => ?_) (fun x y h => ?_) i j
  · rcases h with h | h
    · exact Gen.mono (fun x y h => Gen.of ((PR_append a b x y).2 (.inl h))) ((ker_fromB ha).1 h)
    · exact Gen.mono (fun x y h => Gen.of ((PR_append a b x y).2 (.inr h))) ((ker_fromB hb).1 h)
  · rcases (PR_append a b x y).1 h with h | h
    · exact Gen.of (.inl ((ker_fromB ha).2 (Gen.of h)))
    · exact Gen.of (.inr ((ker_fromB hb).2 (Gen.of h)))
/-- the pairs of neighbours of a class, the first m - 1 of them -/
def nbP (cl : List Int) (m : Nat) : List (Int × Int) := (List.range (m - 1)).map fun i => (cl.getD i 0, cl.getD (i + 1) 0)
def lstP (cls : List (List Int)) : List (Int × Int) := cls.flatMap fun cl => nbP cl cl.length
theorem nbP_succ (cl : List Int) {m : Nat} (h : 1 ≤ m) : nbP cl (m + 1) = nbP cl m ++ [(cl.getD (m - 1) 0, cl.getD m 0)] := by
  unfold nbP
  rw [show m + 1 - 1 = (m - 1) + 1 from by omega, List.range_succ, List.map_append]
  simp [show m - 1 + 1 = m from by omega]
theorem nbP_length (cl : List Int) (m : Nat) : (nbP cl m).length = m - 1 := by simp [nbP]
theorem classB_ne {xs : List Int} (hv : ValidP xs) {a : Nat} (ha : a < (classB xs).length) : True := trivial
theorem lstP_may {xs : List Int} (hv : ValidP xs) : mayP (xs.length : Int) (lstP (classB xs)) := by
  refine ⟨by have := hv.1; omega, fun p hp => ?_⟩
  unfold lstP at hp
  rw [List.mem_flatMap] at hp
  obtain ⟨cl, hcl, hp⟩ := hp
  obtain ⟨m, hm, rfl⟩ := List.getElem_of_mem hcl
  have hce : (classB xs)[m] = (classB xs).getD m [] := by simp [List.getD_eq_getElem?_getD, hm]
  rw [hce] at hp
  unfold nbP at hp
  rw [List.mem_map] at hp
  obtain ⟨i, hi, rfl⟩ := hp
  rw [List.mem_range] at hi
  obtain ⟨b1, b2, _⟩ := cl_at hv hm (m := i) (by omega)
  obtain ⟨c1, c2, _⟩ := cl_at hv hm (m := i + 1) (by omega)
  exact ⟨b1, b2, c1, c2⟩
theorem fromB_lst {xs : List Int} (hv : ValidP xs) : fromB (xs.length : Int) (lstP (classB xs)) = xs := by
  have hm := lstP_may hv
  refine eq_of_ker (valid_fromB _ _) hv (by rw [fromB_len hm]; simp) fun i j hi hj => ?_
  rw [fromB_len hm] at hi hj
  rw [ker_fromB hm]
  constructor
  · refine Gen.le (Ker.eqv xs) ?_
    rintro a b ⟨p, hp, rfl, rfl⟩
    unfold lstP at hp
    rw [List.mem_flatMap] at hp
    obtain ⟨cl, hcl, hp⟩ := hp
    obtain ⟨m, hm, rfl⟩ := List.getElem_of_mem hcl
    have hce : (classB xs)[m] = (classB xs).getD m [] := by simp [List.getD_eq_getElem?_getD, hm]
    rw [hce] at hp
    unfold nbP at hp
    rw [List.mem_map] at hp
    obtain ⟨i, hi, rfl⟩ := hp
    rw [List.mem_range] at hi
    obtain ⟨b1, b2, b3⟩ := cl_at hv hm (m := i) (by omega)
    obtain ⟨c1, c2, c3⟩ := cl_at hv hm (m := i + 1) (by omega)
    exact .inr ⟨by dsimp only; omega, by dsimp only; omega, by dsimp only; rw [b3, c3]⟩
  · rintro (rfl | ⟨hk, hl, he⟩)
    · exact (Gen.eqv _).refl i
    · obtain ⟨v1, v2, v3⟩ := valid_cnt hv
      have hi' := v3 _ (mem_getD 0 hk)
      have ha : (xs.getD i 0).toNat < (classB xs).length := by rw [classB_len hv]; omega
      have G := Gen.eqv (PR (lstP (classB xs)))
      have chain : ∀ m, m < ((classB xs).getD (xs.getD i 0).toNat []).length → Gen (PR (lstP (classB xs))) (((classB xs).getD (xs.getD i 0).toNat []).getD 0 0).toNat (((classB xs).getD (xs.getD i 0).toNat []).getD m 0).toNat := by
        intro m
        induction m with
        | zero => intro _; exact G.refl _
        | succ m ih =>
          intro hm
          refine G.trans _ _ _ (ih (by omega)) (Gen.of ⟨(_, _), ?_, rfl, rfl⟩)
          unfold lstP
          rw [List.mem_flatMap]
          refine ⟨_, mem_getD [] ha, ?_⟩
          unfold nbP
          rw [List.mem_map]
          exact ⟨m, List.mem_range.2 (by omega), rfl⟩
      have key : ∀ k, k < xs.length → xs.getD k 0 = xs.getD i 0 → Gen (PR (lstP (classB xs))) (((classB xs).getD (xs.getD i 0).toNat []).getD 0 0).toNat k := by
        intro k hk' hki
        have hmem := (classB_mem hv ha (k : Int)).2 ⟨by omega, by omega, by simp only [Int.toNat_natCast]; rw [hki]; omega⟩
        obtain ⟨m, hm', e⟩ := List.getElem_of_mem hmem
        have := chain m hm'
        have e' : ((classB xs).getD (xs.getD i 0).toNat []).getD m 0 = (k : Int) := by rw [List.getD_eq_getElem?_getD, List.getElem?_eq_getElem hm', e]; rfl
        rw [e'] at this
        simpa using this
      exact G.trans _ _ _ (G.symm _ _ (key i hk rfl)) (key j hl he.symm)
end Go.Sx.Pt
