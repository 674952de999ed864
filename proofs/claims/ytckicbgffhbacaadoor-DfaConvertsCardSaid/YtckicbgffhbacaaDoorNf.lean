import Derived.Test.YtckicbgffhbacaaDoorNe
set_option linter.unusedVariables false
set_option linter.unusedSimpArgs false
namespace Go.Sx
open Go.RowKit
/-- one cell of one of many rows -/
theorem AK.storeIn {C : Cx} {sl : List (Nat × Value)} {own : List Asn} {ops : Array Oper} {Q : Exit → Act → World → Prop} {ty : TypeId} {pos : String} {aft : Array Edge} {g : Option (Nat × Bool)} {rest : List Oper} (jj ii : Nat) {l : List Asn} {t E : TypeId} {x y : Operand} {v u : Value} {n j : Nat} {cs cs' : List Value} (hj : own[jj]? = some (bigA l)) (hi : l[ii]? = some (row v E 1 n cs)) (hs1 : (C.P.info? t).map (·.size) = some 1) (hx : opv ⟨sl, own⟩ x = some (.pointer (some ((slA v).add (j * 1))))) (hy : opv ⟨sl, own⟩ y = some u)
    (hu : u.cells = #[u]) (h1 : u.oneCell' = true) (hjn : j < n) (hcs : cs.set j u = cs') (hg : Grd ops sl g) (h : AK C ⟨sl, own.set jj (bigA (l.set ii (row v E 1 n cs')))⟩ (wpList C.P ops Q rest)) :
    AK C ⟨sl, own⟩ (wpList C.P ops Q (⟨none, .store t x y, ty, pos, aft, g⟩ :: rest)) := by
  have hjl : jj < own.length := (List.getElem?_eq_some_iff.1 hj).1
  have hil : ii < l.length := (List.getElem?_eq_some_iff.1 hi).1
  have hop : ∀ o, opv ⟨sl, own.set jj (bigA (l.set ii empA)) ++ [row v E 1 n cs]⟩ o = opv ⟨sl, own⟩ o := fun o => by cases o <;> rfl
  have main : AK C ⟨sl, own.set jj (bigA (l.set ii empA)) ++ [row v E 1 n cs]⟩ (wpList C.P ops Q (⟨none, .store t x y, ty, pos, aft, g⟩ :: rest)) := by
    refine AK.store1e own.length (E := E) (v := v) (u := u) (n := n) (cs := cs) (cs' := cs') (by simp) hs1 (by rw [hop]; exact hx) (by rw [hop]; exact hy) hu h1 hjn hcs hg ?_
    intro a w hs
    refine h a w ⟨hs.size, hs.defers, hs.slot, ?_⟩
    have := hs.world
    rw [List.set_append_right _ _ (by simp)] at this
    simp only [List.length_set, Nat.sub_self, List.set_cons_zero] at this
    exact this.putback jj ii hjl hil
  intro a w hs
  exact main a w ⟨hs.size, hs.defers, hs.slot, hs.world.extract jj ii hj hi⟩
theorem matG_set {α : Type} {f : α → Value} {E : TypeId} {rs : List Value} {xss : List (List α)} (h : rs.length = xss.length) {i : Nat} (hi : i < xss.length) (ys : List α) : (matG f E rs xss).set i (row (rs.getD i undef) E 1 ys.length (ys.map f)) = matG f E rs (xss.set i ys) := by
  apply List.ext_getElem?
  intro k
  rw [List.getElem?_set]
  by_cases hk : i = k
  · subst hk
    rw [if_pos rfl, if_pos (by rw [matG_length h]; exact hi), matG_get (by simpa using h) (by simpa using hi)]
    simp [List.getD_eq_getElem?_getD, hi]
  · rw [if_neg hk]
    simp [matG, List.zip, List.getElem?_zipWith, List.getElem?_set_ne hk]
/-! ### the table of the steps -/
def mtK (n : Nfa) (k : Nat) : List (List W64) := (List.range n.L.toNat).map fun (x : Nat) => (List.range n.S.toNat).map fun (q : Nat) => rowE n.es (x : Int) (q : Int) k
theorem mtK_len (n : Nfa) (k : Nat) : (mtK n k).length = n.L.toNat := by simp [mtK]
theorem mtK_row {n : Nfa} {k x : Nat} (hx : x < n.L.toNat) : (mtK n k).getD x [] = (List.range n.S.toNat).map fun (q : Nat) => rowE n.es (x : Int) (q : Int) k := by
  simp [mtK, List.getD_eq_getElem?_getD, hx]
theorem mtK_rlen {n : Nfa} {k x : Nat} (hx : x < n.L.toNat) : ((mtK n k).getD x []).length = n.S.toNat := by rw [mtK_row hx]; simp
theorem mtK_get {n : Nfa} {k x q : Nat} (hx : x < n.L.toNat) (hq : q < n.S.toNat) : ((mtK n k).getD x []).getD q 0 = rowE n.es (x : Int) (q : Int) k := by
  rw [mtK_row hx]; simp [List.getD_eq_getElem?_getD, hq]
theorem map_rep {α β : Type} (l : List α) (f : α → β) (b : β) (h : ∀ a ∈ l, f a = b) : l.map f = List.replicate l.length b := by
  induction l with
  | nil => rfl
  | cons a l ih =>
    rw [List.map_cons, h a (by simp), ih (fun c hc => h c (by simp [hc]))]; rfl
theorem mtK_zero (n : Nfa) : mtK n 0 = List.replicate n.L.toNat (List.replicate n.S.toNat 0) := by
  unfold mtK
  rw [map_rep _ _ (List.replicate n.S.toNat 0), List.length_range]
  intro x hx
  rw [map_rep _ _ (0 : W64), List.length_range]
  intro q hq; rfl
theorem mtK_all {n : Nfa} {x : Nat} (hx : x < n.L.toNat) : (mtK n n.es.length).getD x [] = rowsN n (x : Int) := by rw [mtK_row hx]; rfl
theorem rowE_next {es : List Edg} {x q : Int} {k : Nat} : rowE es x q (k + 1) = if (es.getD k (0, 0, 0)).2.1 = x ∧ (es.getD k (0, 0, 0)).1 = q then rowE es x q k ||| bit (es.getD k (0, 0, 0)).2.2 else rowE es x q k := rfl
theorem mtK_next {n : Nfa} {k a p : Nat} (ha : (n.es.getD k (0, 0, 0)).2.1 = (a : Int)) (hp : (n.es.getD k (0, 0, 0)).1 = (p : Int)) :
    mtK n (k + 1) = (mtK n k).set a (((mtK n k).getD a []).set p (((mtK n k).getD a []).getD p 0 ||| bit (n.es.getD k (0, 0, 0)).2.2)) := by
  apply List.ext_getElem?
  intro x
  rw [List.getElem?_set]
  by_cases hx : x < n.L.toNat
  · by_cases hxa : a = x
    · subst hxa
      rw [if_pos rfl, if_pos (by rw [mtK_len]; exact hx)]
      have e1 : (mtK n (k + 1))[a]? = some ((mtK n (k + 1)).getD a []) := by
        rw [List.getD_eq_getElem?_getD, List.getElem?_eq_getElem (by rw [mtK_len]; exact hx)]; rfl
      rw [e1]
      congr 1
      apply List.ext_getElem?
      intro q
      rw [List.getElem?_set]
      by_cases hq : q < n.S.toNat
      · have e2 : ((mtK n (k + 1)).getD a [])[q]? = some (rowE n.es (a : Int) (q : Int) (k + 1)) := by rw [mtK_row hx]; simp [hq]
        rw [e2, rowE_next]
        by_cases hpq : p = q
        · subst hpq
          rw [if_pos ⟨ha, hp⟩, if_pos rfl, if_pos (by rw [mtK_rlen hx]; exact hq), mtK_get hx hq]
        · rw [if_neg hpq, if_neg (fun h => hpq (by have := h.2; rw [hp] at this; omega)), mtK_row hx]
          simp [hq]
      · rw [List.getElem?_eq_none (by rw [mtK_rlen hx]; omega)]
        split
        · rw [if_neg (by rw [mtK_rlen hx]; omega)]
        · rw [List.getElem?_eq_none (by rw [mtK_rlen hx]; omega)]
    · rw [if_neg hxa]
      have e1 : ∀ j, (mtK n j)[x]? = some ((mtK n j).getD x []) := fun j => by
        rw [List.getD_eq_getElem?_getD, List.getElem?_eq_getElem (by rw [mtK_len]; exact hx)]; rfl
      rw [e1, e1, mtK_row hx, mtK_row hx]
      congr 1
      apply List.map_congr_left
      intro q _
      rw [rowE_next, if_neg (fun h => hxa (by have := h.1; rw [ha] at this; omega))]
  · rw [List.getElem?_eq_none (by rw [mtK_len]; omega)]
    split
    · rw [if_neg (by rw [mtK_len]; omega)]
    · rw [List.getElem?_eq_none (by rw [mtK_len]; omega)]
theorem fillW {l : List Value} {z r : Value} {n i : Nat} (hl : l.length = i) (h : i < n) : (l ++ List.replicate (n - i) z).set i r = (l ++ [r]) ++ List.replicate (n - (i + 1)) z := by
  subst hl
  have := fill_set (id : Value → Value) l z r n l.length rfl h
  simpa using this
theorem rows_ok {n : Nfa} (hv : VN n) (x : Int) : (rowsN n x).length ≤ 64 ∧ ∀ j, j < (rowsN n x).length → (rowsN n x).getD j 0 &&& ~~~(below ((rowsN n x).length : Int)) = 0 := by
  have hS := hv.S
  have hlen : ((rowsN n x).length : Int) = n.S := by simp [rowsN]; omega
  refine ⟨by omega, fun j hj => ?_⟩
  rw [hlen]
  have hj' : j < n.S.toNat := by omega
  have e : (rowsN n x).getD j 0 = rowN n x (j : Int) := by simp [rowsN, List.getD_eq_getElem?_getD, hj']
  rw [e]
  apply BitVec.eq_of_getLsbD_eq
  intro i hi
  rw [BitVec.getLsbD_and, BitVec.getLsbD_not]
  cases hb : (rowN n x (j : Int)).getLsbD i with
  | false => simp
  | true =>
    obtain ⟨m, k1, k2, k3, k4⟩ := (rowE_get _ (fun j hj => by have := hv.edge hj; omega)).1 hb
    have := hv.edge k1
    have h9 : (i : Int) < n.S := by omega
    rw [below_bit hS i hi, decide_eq_true h9]; simp [hi]
end Go.Sx
