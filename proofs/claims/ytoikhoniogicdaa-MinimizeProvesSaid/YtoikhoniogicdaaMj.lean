import Derived.Test.YtoikhoniogicdaaMi
set_option linter.unusedVariables false
set_option linter.unusedSectionVars false
set_option linter.unusedSimpArgs false
namespace Go.Sx
/-! ### how a proof of minimality is checked -/
def StepAt (d m : Dfa) (mp : List Int) (i x : Nat) : Prop := mp.getD (stepQ d (i : Int) x).toNat 0 = stepQ m (mp.getD i 0) x
def HomAt (d m : Dfa) (mp : List Int) (i : Nat) : Prop := 0 ≤ mp.getD i 0 → finQ d (i : Int) = finQ m (mp.getD i 0) ∧ ∀ x : Nat, (x : Int) < d.L → StepAt d m mp i x
theorem MapOK.mk' {d m : Dfa} {mp : List Int} (h1 : mp.length = d.fin.length) (h2 : ∀ i, i < mp.length → -1 ≤ mp.getD i 0 ∧ mp.getD i 0 < m.fin.length) (h3 : mp.getD d.s.toNat 0 = m.s) (h4 : ∀ i, i < mp.length → HomAt d m mp i) : MapOK d m mp :=
  ⟨h1, h2, h3, fun i hi h0 => h4 i (by omega) h0⟩
theorem MapOK.at {d m : Dfa} {mp : List Int} (h : MapOK d m mp) {i : Nat} (hi : i < d.fin.length) : HomAt d m mp i := fun h0 => h.hom i hi h0
theorem all_succ {p : Nat → Prop} {k : Nat} (h : ∀ j, j < k → p j) (hk : p k) : ∀ j, j < k + 1 → p j := fun j hj => by
  rcases Nat.lt_or_eq_of_le (Nat.le_of_lt_succ hj) with h1 | rfl
  · exact h j h1
  · exact hk
/-- what the tests say of a state -/
def bitT (m : Dfa) (q : Int) (w : List UInt8) : UInt8 := if finQ m (runI m q w) then 1 else 0
def rowB (m : Dfa) (ts : List (List UInt8)) (q : Nat) : List UInt8 := ts.map (bitT m (q : Int))
theorem rowB_len (m : Dfa) (ts : List (List UInt8)) (q : Nat) : (rowB m ts q).length = ts.length := by simp [rowB]
theorem rowB_snoc (m : Dfa) (ts : List (List UInt8)) (w : List UInt8) (q : Nat) : rowB m (ts ++ [w]) q = rowB m ts q ++ [bitT m (q : Int) w] := by simp [rowB]
theorem rowB_eq {m : Dfa} {ts : List (List UInt8)} {p q : Nat} : rowB m ts p = rowB m ts q ↔ SameT m ts (p : Int) (q : Int) := by
  unfold rowB SameT
  rw [List.map_inj_left]
  refine forall_congr' fun w => imp_congr Iff.rfl ?_
  unfold bitT
  cases finQ m (runI m (p : Int) w) <;> cases finQ m (runI m (q : Int) w) <;> simp
/-- the rows while one word is being tried on the first q states -/
def matB (m : Dfa) (ts : List (List UInt8)) (w : List UInt8) (q : Nat) : List (List UInt8) := (List.range m.fin.length).map fun p => if p < q then rowB m (ts ++ [w]) p else rowB m ts p
theorem matB_len (m : Dfa) (ts : List (List UInt8)) (w : List UInt8) (q : Nat) : (matB m ts w q).length = m.fin.length := by simp [matB]
def matR (m : Dfa) (ts : List (List UInt8)) : List (List UInt8) := (List.range m.fin.length).map (rowB m ts)
theorem matR_len (m : Dfa) (ts : List (List UInt8)) : (matR m ts).length = m.fin.length := by simp [matR]
theorem matR_get {m : Dfa} {ts : List (List UInt8)} {q : Nat} (h : q < m.fin.length) : (matR m ts).getD q [] = rowB m ts q := by simp [matR, List.getD_eq_getElem?_getD, h]
theorem matB_zero (m : Dfa) (ts : List (List UInt8)) (w : List UInt8) : matB m ts w 0 = matR m ts := by simp [matB, matR]
theorem matB_full (m : Dfa) (ts : List (List UInt8)) (w : List UInt8) : matB m ts w m.fin.length = matR m (ts ++ [w]) := by
  unfold matB matR
  apply List.map_congr_left
  intro p hp
  rw [List.mem_range] at hp
  rw [if_pos hp]
theorem matB_get {m : Dfa} {ts : List (List UInt8)} {w : List UInt8} {q : Nat} (h : q < m.fin.length) : (matB m ts w q).getD q [] = rowB m ts q := by
  simp [matB, List.getD_eq_getElem?_getD, h]
theorem matB_set {m : Dfa} {ts : List (List UInt8)} {w : List UInt8} {q : Nat} (h : q < m.fin.length) : (matB m ts w q).set q (rowB m ts q ++ [bitT m (q : Int) w]) = matB m ts w (q + 1) := by
  apply List.ext_getElem
  · simp [matB]
  · intro p h1 h2
    rw [List.getElem_set]
    simp only [matB, List.getElem_map, List.getElem_range]
    by_cases e : q = p
    · subst e; rw [if_pos rfl, if_pos (Nat.lt_succ_self _), rowB_snoc]
    · rw [if_neg e]
      by_cases e2 : p < q
      · rw [if_pos e2, if_pos (by omega)]
      · rw [if_neg e2, if_neg (by omega)]
/-- a set of words as a map of truth values -/
def metS (l : List (List UInt8)) : List ((List UInt8) × Bool) := (ded l).map fun p => (p, true)
theorem mset_same {α β : Type} [DecidableEq α] : ∀ (m : List (α × β)) (a : α) (v : β), mget m a = some v → mset m a v = m
  | [], a, v, h => by cases h
  | (b, u) :: m, a, v, h => by
    unfold mget at h
    unfold mset
    by_cases e : a = b
    · subst e
      simp only [if_true] at h ⊢
      cases h; rfl
    · simp only [e, if_false] at h ⊢
      rw [mset_same m a v h]
theorem metS_get (l : List (List UInt8)) (a : List UInt8) : mget ((l).map fun p => (p, true)) a = if a ∈ l then some true else none := by
  induction l with
  | nil => rfl
  | cons b l ih =>
    rw [List.map_cons]
    unfold mget
    by_cases h : a = b
    · subst h; simp
    · rw [ih]; simp [h]
theorem metS_set (l : List (List UInt8)) (a : List UInt8) : mset (metS l) a true = metS (l ++ [a]) := by
  unfold metS
  rw [ded_snoc]
  unfold insN
  by_cases h : a ∈ ded l
  · rw [if_pos h]
    exact mset_same _ _ _ (by rw [metS_get, if_pos h])
  · rw [if_neg h, mset_none _ a true (by rw [metS_get, if_neg h]), List.map_append]; rfl
theorem metS_len (l : List (List UInt8)) : (metS l).length = (ded l).length := by simp [metS]
/-- all rows are different exactly if the tests tell all states apart -/
theorem rows_diff {m : Dfa} {ts : List (List UInt8)} : (ded (matR m ts)).length = m.fin.length ↔ ∀ p q, InR m p → InR m q → SameT m ts p q → p = q := by
  have hl := matR_len m ts
  constructor
  · intro h p q hp hq hs
    have p1 := hp.1; have p2 := hp.2; have q1 := hq.1; have q2 := hq.2
    have hr := ded_refine (xs := List.range m.fin.length) (ys := matR m ts) 0 [] (by rw [List.length_range, hl]) (fun i j hi hj e => by
      rw [List.length_range] at hi hj
      simp only [List.getD_eq_getElem?_getD, List.getElem?_range hi, List.getElem?_range hj, Option.getD_some] at e
      rw [e])
    have a1 : p.toNat < m.fin.length := by omega
    have a2 : q.toNat < m.fin.length := by omega
    have e1 : ((p.toNat : Nat) : Int) = p := by omega
    have e2 : ((q.toNat : Nat) : Int) = q := by omega
    have := hr.2 (by rw [ded_range, List.length_range]; omega) p.toNat q.toNat (by rw [List.length_range]; omega) (by rw [List.length_range]; omega) (by
      rw [matR_get a1, matR_get a2, rowB_eq, e1, e2]; exact hs)
    simp only [List.getD_eq_getElem?_getD, List.getElem?_range a1, List.getElem?_range a2, Option.getD_some] at this
    omega
  · intro h
    have hk := (canN_ker (xs := matR m ts) (ys := List.range m.fin.length) [] 0 (by rw [hl, List.length_range]) (fun i j hi hj => by
      rw [hl] at hi hj
      rw [matR_get hi, matR_get hj, rowB_eq]
      simp only [List.getD_eq_getElem?_getD, List.getElem?_range hi, List.getElem?_range hj, Option.getD_some]
      constructor
      · intro hs
        have := h (i : Int) (j : Int) ⟨by omega, by omega⟩ ⟨by omega, by omega⟩ hs
        omega
      · rintro rfl; exact fun w _ => rfl)).2
    rw [hk, ded_range, List.length_range]
end Go.Sx
