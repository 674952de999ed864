import Derived.Test.YtoikhoniogicdaaMg
import Derived.Test.YtoikhoniogicdaaSl
set_option linter.unusedVariables false
set_option linter.unusedSectionVars false
set_option linter.unusedSimpArgs false
namespace Go.Sx
/-! ### numbering by a map; when the splitting ends -/
section
variable {α : Type} [DecidableEq α]
theorem numM_len (xs : List α) : (numM xs).length = xs.length := by simp [numM]
theorem num_new {xs : List α} {x : α} (h : (mget (numM xs) x).isSome = false) : x ∉ xs ∧ ((numM xs).length : Int) = ((posN xs x : Nat) : Int) := by
  have hx : x ∉ xs := by
    rw [mget_numM] at h; intro hm; rw [if_pos hm] at h; cases h
  exact ⟨hx, by rw [numM_len, posN_not hx]⟩
theorem num_old {xs : List α} {x : α} (h : (mget (numM xs) x).isSome = true) : x ∈ xs ∧ (mget (numM xs) x).getD 0 = ((posN xs x : Nat) : Int) := by
  rw [mget_numM] at h ⊢
  by_cases hm : x ∈ xs
  · rw [if_pos hm]; exact ⟨hm, rfl⟩
  · rw [if_neg hm] at h; cases h
theorem ded_new {xs : List α} (d : α) {k : Nat} (hk : k < xs.length) (h : xs.getD k d ∉ ded (xs.take k)) : mset (numM (ded (xs.take k))) (xs.getD k d) ((numM (ded (xs.take k))).length : Int) = numM (ded (xs.take (k + 1))) := by
  rw [ded_take d hk, show insN (ded (xs.take k)) (xs.getD k d) = ded (xs.take k) ++ [xs.getD k d] from if_neg h, numM_len, mset_numM h]
theorem ded_old {xs : List α} (d : α) {k : Nat} (hk : k < xs.length) (h : xs.getD k d ∈ ded (xs.take k)) : ded (xs.take (k + 1)) = ded (xs.take k) := by
  rw [ded_take d hk, show insN (ded (xs.take k)) (xs.getD k d) = ded (xs.take k) from if_pos h]
theorem can_fill {xs : List α} (d : α) {k n : Nat} (hn : xs.length = n) (hk : k < n) {c : Int} (hc : c = ((posN (ded (xs.take k)) (xs.getD k d) : Nat) : Int)) :
    ((canN (xs.take k) ++ List.replicate (n - k) 0).map (Value.int .i64)).set k (.int .i64 c) = (canN (xs.take (k + 1)) ++ List.replicate (n - (k + 1)) 0).map (Value.int .i64) := by
  rw [canN_take d (by omega), ← hc]
  exact fill_set (Value.int .i64) _ 0 _ n k (by rw [canN_len, List.length_take]; omega) hk
end
/-- seven numbers -/
def pad7 (l : List Int) : List Int := (l ++ List.replicate 7 0).take 7
theorem pad7_len (l : List Int) : (pad7 l).length = 7 := by simp [pad7]
theorem pad7_eq {l : List Int} (h : l.length ≤ 7) : pad7 l = l ++ List.replicate (7 - l.length) 0 := by
  unfold pad7
  rw [List.take_append, List.take_of_length_le h, List.take_replicate, Nat.min_eq_left (by omega)]
theorem pad_store {A : List Int} {c : Int} {k : Nat} (hk : A.length = k) (h7 : k < 7) :
    ((pad7 A).map (Value.int .i64)).take k ++ [Value.int .i64 c] ++ ((pad7 A).map (Value.int .i64)).drop (k + 1) = (pad7 (A ++ [c])).map (Value.int .i64) := by
  rw [pad7_eq (by omega), pad7_eq (by rw [List.length_append]; simp; omega), hk, List.length_append, hk]
  obtain ⟨m, hm⟩ : ∃ m, 7 - k = m + 1 := ⟨6 - k, by omega⟩
  have e : 7 - (k + [c].length) = m := by simp; omega
  rw [e, hm, ← List.map_take, ← List.map_drop]
  have h1 : (A ++ List.replicate (m + 1) (0 : Int)).take k = A := by rw [List.take_append_of_le_length (by omega), List.take_of_length_le (by omega)]
  have h2 : (A ++ List.replicate (m + 1) (0 : Int)).drop (k + 1) = List.replicate m 0 := by
    rw [List.drop_append, List.drop_of_length_le (by omega), hk, show k + 1 - k = 1 by omega, List.replicate_succ]; rfl
  rw [h1, h2]
  simp
theorem pad7_inj {l m : List Int} (hl : l.length = m.length) (h7 : l.length ≤ 7) : pad7 l = pad7 m ↔ l = m := by
  constructor
  · intro h
    rw [pad7_eq h7, pad7_eq (by omega)] at h
    exact (List.append_inj h hl).1
  · intro h; rw [h]
def sg7 (d : Dfa) (cs : List Int) (q : Nat) : Tup 7 := ⟨pad7 (sigQ d cs q), pad7_len _⟩
def sgs7 (d : Dfa) (cs : List Int) : List (Tup 7) := (List.range d.fin.length).map (sg7 d cs)
def zero7 : Tup 7 := ⟨pad7 [], pad7_len _⟩
theorem sgs7_len (d : Dfa) (cs : List Int) : (sgs7 d cs).length = d.fin.length := by simp [sgs7]
theorem sgs7_get {d : Dfa} {cs : List Int} {q : Nat} (h : q < d.fin.length) : (sgs7 d cs).getD q zero7 = sg7 d cs q := by simp [sgs7, List.getD_eq_getElem?_getD, h]
theorem sigQ_len {d : Dfa} (hv : VD d) (cs : List Int) {q : Nat} (h : q < d.fin.length) : ((sigQ d cs q).length : Int) = d.L + 1 := by
  have := hv.row q h
  unfold sigQ; rw [List.length_cons, List.length_map]; omega
theorem sgs7_can {d : Dfa} (hv : VD d) (cs : List Int) : canN (sgs7 d cs) = canN (sigs d cs) ∧ (ded (sgs7 d cs)).length = (ded (sigs d cs)).length := by
  refine canN_ker zero7 [] (by rw [sgs7_len, sigs_len]) (fun i j hi hj => ?_)
  rw [sgs7_len] at hi hj
  rw [sgs7_get hi, sgs7_get hj, sigs_get hi, sigs_get hj]
  have h1 := sigQ_len hv cs hi
  have h2 := sigQ_len hv cs hj
  have hL := hv.L
  unfold sg7
  constructor
  · intro h; exact (pad7_inj (by omega) (by omega)).1 (congrArg Subtype.val h)
  · intro h; exact Subtype.ext ((pad7_inj (by omega) (by omega)).2 h)
theorem sigQ_take {d : Dfa} {cs : List Int} {q j : Nat} (hj : j < (d.nx.getD q []).length) : (sigQ d cs q).take (j + 2) = (sigQ d cs q).take (j + 1) ++ [cs.getD ((d.nx.getD q []).getD j 0).toNat 0] := by
  unfold sigQ
  rw [List.take_succ_cons, List.take_succ_cons, List.cons_append]
  congr 1
  rw [take_snocD 0 _ j (by rw [List.length_map]; exact hj)]
  congr 2
  generalize d.nx.getD q [] = r at *
  simp [List.getD_eq_getElem?_getD, hj]
theorem Ker.len {d : Dfa} {k : Nat} {cs : List Int} (h : Ker d k cs) : cs.length = d.fin.length := h.1
theorem cls_stop {d : Dfa} (hv : VD d) {k : Nat} {cs : List Int} (h : Ker d k cs) (he : (ded (sigs d cs)).length = (ded cs).length) : canN (sigs d cs) = clsD d := by
  have h1 := h.next hv
  have h2 : Stb d k := (h.ref h1).2 (by rw [ded_canN]; omega)
  have h3 := (cls_is hv h1 (h2.next hv)).1
  rw [canN_canN] at h3; exact h3
theorem cls_more {d : Dfa} (hv : VD d) {k : Nat} {cs : List Int} (h : Ker d k cs) (he : ¬ (ded (sigs d cs)).length = (ded cs).length) : (ded cs).length < (ded (canN (sigs d cs))).length ∧ (ded (canN (sigs d cs))).length ≤ d.fin.length := by
  have h1 := h.next hv
  have h2 := (h.ref h1).1
  have h3 := ded_le (canN (sigs d cs))
  rw [canN_len, sigs_len] at h3
  refine ⟨?_, h3⟩
  rw [ded_canN] at h2 ⊢; omega
theorem cls_fix {d : Dfa} (hv : VD d) {k : Nat} {cs : List Int} (h : Ker d k cs) (hc : canN cs = cs) : canN (sigs d cs) = cs ↔ (ded (sigs d cs)).length = (ded cs).length := by
  have h1 := h.next hv
  constructor
  · intro e
    have := ded_canN (sigs d cs)
    rw [e] at this; exact this.symm
  · intro e
    have h2 : Stb d k := (h.ref h1).2 (by rw [ded_canN]; omega)
    have h3 := (cls_is hv h1 (h2.next hv)).1
    have h4 := (cls_is hv h h2).1
    rw [canN_canN] at h3
    rw [h3, ← h4, hc]
/-- the first splitting: by the first state -/
def f0 (d : Dfa) : List Int := d.fin.map fun b => if b = d.fin.getD 0 false then 0 else 1
def diff (d : Dfa) (k : Nat) : Bool := (d.fin.take k).any fun b => decide (b ≠ d.fin.getD 0 false)
theorem f0_len (d : Dfa) : (f0 d).length = d.fin.length := by simp [f0]
theorem f0_get {d : Dfa} {q : Nat} (h : q < d.fin.length) : (f0 d).getD q 0 = if d.fin.getD q false = d.fin.getD 0 false then 0 else 1 := by
  simp [f0, List.getD_eq_getElem?_getD, h]
theorem f0_ker (d : Dfa) : Ker d 0 (f0 d) := by
  refine ⟨f0_len d, fun i j hi hj => ?_⟩
  rw [EqK.zero, finQ_nat, finQ_nat, f0_get hi, f0_get hj]
  generalize d.fin.getD i false = a
  generalize d.fin.getD j false = b
  generalize d.fin.getD 0 false = c
  cases a <;> cases b <;> cases c <;> simp
theorem f0_ded (d : Dfa) (hn : 0 < d.fin.length) : ((ded (f0 d)).length : Int) = if diff d d.fin.length then 2 else 1 := by
  have hm : ∀ x, x ∈ ded (f0 d) ↔ x = 0 ∨ (x = 1 ∧ diff d d.fin.length = true) := by
    intro x
    rw [ded_mem]
    unfold f0 diff
    rw [List.take_length, List.mem_map, List.any_eq_true]
    constructor
    · rintro ⟨b, hb, rfl⟩
      split
      · exact .inl rfl
      · rename_i h; exact .inr ⟨rfl, b, hb, by simpa using h⟩
    · rintro (rfl | ⟨rfl, b, hb, h⟩)
      · exact ⟨d.fin.getD 0 false, getD_mem hn, by simp⟩
      · exact ⟨b, hb, by rw [if_neg (by simpa using h)]⟩
  have hd := ded_nodup (f0 d)
  split
  · rename_i h
    have h1 := nodup_sub_len (U := [0, 1]) hd (fun y hy => by rcases (hm y).1 hy with h | h <;> simp [h])
    have h2 := nodup_sub_len (xs := [(0 : Int), 1]) (U := ded (f0 d)) (by decide) (fun y hy => by
      rw [hm]
      simp only [List.mem_cons, List.not_mem_nil, or_false] at hy
      rcases hy with rfl | rfl
      · exact .inl rfl
      · exact .inr ⟨rfl, h⟩)
    simp only [List.length_cons, List.length_nil] at h1 h2; omega
  · rename_i h
    have h1 := nodup_sub_len (U := [0]) hd (fun y hy => by
      rcases (hm y).1 hy with h' | h'
      · simp [h']
      · exact absurd h'.2 h)
    have h2 := nodup_sub_len (xs := [(0 : Int)]) (U := ded (f0 d)) (by decide) (fun y hy => by
      rw [hm]
      simp only [List.mem_cons, List.not_mem_nil, or_false] at hy
      exact .inl hy)
    simp only [List.length_cons, List.length_nil] at h1 h2; omega
theorem f0_take {d : Dfa} {k : Nat} (h : k < d.fin.length) : (f0 d).take (k + 1) = (f0 d).take k ++ [if d.fin.getD k false = d.fin.getD 0 false then 0 else 1] := by
  rw [take_snocD 0 _ k (by rw [f0_len]; exact h), f0_get h]
theorem diff_succ {d : Dfa} {k : Nat} (h : k < d.fin.length) : diff d (k + 1) = (diff d k || decide (d.fin.getD k false ≠ d.fin.getD 0 false)) := any_snoc _ false h
/-- two lists taken together as one number -/
def bothL (p q : List Int) : List Int := (List.range p.length).map fun i => p.getD i 0 * ((p.length : Int) + 1) + q.getD i 0
theorem bothL_len (p q : List Int) : (bothL p q).length = p.length := by simp [bothL]
theorem bothL_get {p q : List Int} {i : Nat} (h : i < p.length) : (bothL p q).getD i 0 = p.getD i 0 * ((p.length : Int) + 1) + q.getD i 0 := by
  simp [bothL, List.getD_eq_getElem?_getD, h]
def Bdn (n : Nat) (l : List Int) : Prop := l.length = n ∧ ∀ i, i < n → 0 ≤ l.getD i 0 ∧ l.getD i 0 ≤ n
theorem both_eq {n : Int} (hn : 0 ≤ n) {a b c e : Int} (hb : 0 ≤ b ∧ b ≤ n) (he : 0 ≤ e ∧ e ≤ n) : a * (n + 1) + b = c * (n + 1) + e ↔ a = c ∧ b = e := by
  constructor
  · intro h
    have hac : a = c := by
      rcases Int.lt_trichotomy a c with h1 | h1 | h1
      · have h2 : (a + 1) * (n + 1) ≤ c * (n + 1) := Int.mul_le_mul_of_nonneg_right (by omega) (by omega)
        rw [Int.add_mul] at h2; omega
      · exact h1
      · have h2 : (c + 1) * (n + 1) ≤ a * (n + 1) := Int.mul_le_mul_of_nonneg_right (by omega) (by omega)
        rw [Int.add_mul] at h2; omega
    subst hac
    exact ⟨rfl, by omega⟩
  · rintro ⟨rfl, rfl⟩; rfl
/-- the signatures by the first x letters -/
def sgx (d : Dfa) (cs : List Int) (x : Nat) : List (List Int) := (List.range d.fin.length).map fun q => cs.getD q 0 :: ((d.nx.getD q []).take x).map fun t => cs.getD t.toNat 0
def tox (d : Dfa) (cs : List Int) (x : Nat) : List Int := (List.range d.fin.length).map fun (q : Nat) => cs.getD (stepQ d (q : Int) x).toNat 0
theorem sgx_len (d : Dfa) (cs : List Int) (x : Nat) : (sgx d cs x).length = d.fin.length := by simp [sgx]
theorem sgx_get {d : Dfa} {cs : List Int} {x q : Nat} (h : q < d.fin.length) : (sgx d cs x).getD q [] = cs.getD q 0 :: ((d.nx.getD q []).take x).map fun t => cs.getD t.toNat 0 := by simp [sgx, List.getD_eq_getElem?_getD, h]
theorem tox_len (d : Dfa) (cs : List Int) (x : Nat) : (tox d cs x).length = d.fin.length := by simp [tox]
theorem tox_get {d : Dfa} {cs : List Int} {x q : Nat} (h : q < d.fin.length) : (tox d cs x).getD q 0 = cs.getD (stepQ d (q : Int) x).toNat 0 := by simp [tox, List.getD_eq_getElem?_getD, h]
theorem tox_take {d : Dfa} {cs : List Int} {x q : Nat} (h : q < d.fin.length) : (tox d cs x).take (q + 1) = (tox d cs x).take q ++ [cs.getD (stepQ d (q : Int) x).toNat 0] := by
  rw [take_snocD 0 _ q (by rw [tox_len]; exact h), tox_get h]
theorem sgx_zero {d : Dfa} {cs : List Int} (hl : cs.length = d.fin.length) (hc : canN cs = cs) : canN (sgx d cs 0) = cs := by
  conv => rhs; rw [← hc]
  refine (canN_ker [] 0 (by rw [sgx_len, hl]) (fun i j hi hj => ?_)).1
  rw [sgx_len] at hi hj
  rw [sgx_get hi, sgx_get hj]
  simp
theorem sgx_full {d : Dfa} (hv : VD d) (cs : List Int) : sgx d cs d.L.toNat = sigs d cs := by
  have hL := hv.L
  unfold sgx sigs
  apply List.map_congr_left
  intro q hq
  rw [List.mem_range] at hq
  have := hv.row q hq
  unfold sigQ
  rw [List.take_of_length_le (by omega)]
theorem bd_canN {α : Type} [DecidableEq α] (xs : List α) : Bdn xs.length (canN xs) := ⟨canN_len xs, fun i hi => by have := canN_bd hi; have := ded_le xs; omega⟩
theorem bd_tox {d : Dfa} (hv : VD d) {cs : List Int} (h : Bdn d.fin.length cs) {x : Nat} (hx : (x : Int) < d.L) : Bdn d.fin.length (tox d cs x) := ⟨tox_len _ _ _, fun i hi => by
  rw [tox_get hi]
  have h1 := stepQ_inr hv (q := (i : Int)) ⟨by omega, by omega⟩ hx
  have h2 := h1.1; have h3 := h1.2
  exact h.2 _ (by omega)⟩
theorem sgx_next {d : Dfa} (hv : VD d) {cs : List Int} (h : Bdn d.fin.length cs) {x : Nat} (hx : (x : Int) < d.L) : canN (bothL (canN (sgx d cs x)) (tox d cs x)) = canN (sgx d cs (x + 1)) := by
  have hl : (canN (sgx d cs x)).length = d.fin.length := by rw [canN_len, sgx_len]
  have hb := bd_tox hv h hx
  refine (canN_ker 0 [] (by rw [bothL_len, hl, sgx_len]) (fun i j hi hj => ?_)).1
  rw [bothL_len, hl] at hi hj
  rw [bothL_get (by omega), bothL_get (by omega), hl, both_eq (by omega) (hb.2 i hi) (hb.2 j hj), canN_eq [] (by rw [sgx_len]; exact hi) (by rw [sgx_len]; exact hj), sgx_get hi, sgx_get hj, sgx_get hi, sgx_get hj, tox_get hi, tox_get hj]
  have hs : ∀ q, q < d.fin.length → ((d.nx.getD q []).take (x + 1)).map (fun t => cs.getD t.toNat 0) = ((d.nx.getD q []).take x).map (fun t => cs.getD t.toNat 0) ++ [cs.getD (stepQ d (q : Int) x).toNat 0] := by
    intro q hq
    have hr := hv.row q hq
    rw [take_snocD 0 _ x (by omega), List.map_append]
    rfl
  rw [hs i hi, hs j hj, List.cons.injEq, List.cons.injEq]
  constructor
  · rintro ⟨⟨h1, h2⟩, h3⟩; exact ⟨h1, by rw [h2, h3]⟩
  · rintro ⟨h1, h2⟩
    have := List.append_inj' h2 rfl
    exact ⟨⟨h1, this.1⟩, by simpa using this.2⟩
end Go.Sx
namespace Go.Sx
theorem f0_fill1 {d : Dfa} {k : Nat} (h : k < d.fin.length) (hne : ¬ d.fin.getD k false = d.fin.getD 0 false) : (((f0 d).take k ++ List.replicate (d.fin.length - k) 0).map (Value.int .i64)).set k (.int .i64 1) = ((f0 d).take (k + 1) ++ List.replicate (d.fin.length - (k + 1)) 0).map (Value.int .i64) := by
  rw [f0_take h, if_neg hne]
  exact fill_set (Value.int .i64) _ 0 _ d.fin.length k (by rw [List.length_take, f0_len]; omega) h
theorem f0_fill0 {d : Dfa} {k : Nat} (h : k < d.fin.length) (he : d.fin.getD k false = d.fin.getD 0 false) : (f0 d).take k ++ List.replicate (d.fin.length - k) 0 = (f0 d).take (k + 1) ++ List.replicate (d.fin.length - (k + 1)) 0 := by
  rw [f0_take h, if_pos he, show d.fin.length - k = (d.fin.length - (k + 1)) + 1 by omega, List.replicate_succ]
  simp
theorem diff_one {d : Dfa} {k : Nat} (h : k < d.fin.length) (hne : ¬ d.fin.getD k false = d.fin.getD 0 false) : (2 : Int) = if diff d (k + 1) then 2 else 1 := by
  have e : decide (d.fin.getD k false ≠ d.fin.getD 0 false) = true := decide_eq_true hne
  rw [diff_succ h, e, Bool.or_true, if_pos rfl]
theorem diff_zero {d : Dfa} {k : Nat} (h : k < d.fin.length) (he : d.fin.getD k false = d.fin.getD 0 false) : (if diff d k then 2 else 1 : Int) = if diff d (k + 1) then 2 else 1 := by
  have e : decide (d.fin.getD k false ≠ d.fin.getD 0 false) = false := decide_eq_false (by rw [he]; exact fun h => h rfl)
  rw [diff_succ h, e, Bool.or_false]
/-- the classes that are handed back -/
def ClsV (d : Dfa) : List Int := if VD d then clsD d else []
theorem Ker.can {d : Dfa} {k : Nat} {cs : List Int} (h : Ker d k cs) : Ker d k (canN cs) := ⟨by rw [canN_len]; exact h.1, fun i j hi hj => by
  have hl := h.1
  rw [canN_eq 0 (by omega) (by omega)]; exact h.2 i j hi hj⟩
theorem Ker.bdn {d : Dfa} {k : Nat} {cs : List Int} (h : Ker d k cs) (hc : canN cs = cs) : Bdn d.fin.length cs := by
  have := bd_canN cs
  rw [hc, h.1] at this; exact this
end Go.Sx
