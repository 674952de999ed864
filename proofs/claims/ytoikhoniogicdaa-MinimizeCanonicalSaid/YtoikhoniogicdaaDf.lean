import Derived.Test.YtoikhoniogicdaaDe
import Derived.Laws.Cover3
set_option linter.unusedVariables false
namespace Go.Sx
/-! ### numbering, exploring -/
section
variable {α : Type} [DecidableEq α]
def insN (xs : List α) (x : α) : List α := if x ∈ xs then xs else xs ++ [x]
def posN : List α → α → Nat
  | [], _ => 0
  | b :: l, x => if x = b then 0 else posN l x + 1
def numM (xs : List α) : List (α × Int) := xs.zipIdx.map fun p => (p.1, (p.2 : Int))
theorem mget_zip (x : α) : ∀ (xs : List α) (n : Nat), mget ((xs.zipIdx n).map fun p => (p.1, (p.2 : Int))) x = if x ∈ xs then some (((n + posN xs x : Nat)) : Int) else none
  | [], n => by simp [mget]
  | b :: l, n => by
    simp only [List.zipIdx_cons, List.map_cons, mget]
    by_cases h : x = b
    · subst h; simp [posN]
    · rw [if_neg h, mget_zip x l (n + 1)]
      by_cases h2 : x ∈ l
      · have : x ∈ b :: l := List.mem_cons_of_mem _ h2
        rw [if_pos h2, if_pos this]
        simp only [posN, h, if_false]
        congr 2; omega
      · have : ¬ x ∈ b :: l := by simp [h, h2]
        rw [if_neg h2, if_neg this]
theorem mget_numM (xs : List α) (x : α) : mget (numM xs) x = if x ∈ xs then some ((posN xs x : Nat) : Int) else none := by
  have := mget_zip x xs 0
  simpa [numM] using this
omit [DecidableEq α] in
theorem numM_snoc (xs : List α) (x : α) : numM (xs ++ [x]) = numM xs ++ [(x, (xs.length : Int))] := by
  simp [numM, List.zipIdx_append]
theorem mset_numM {xs : List α} {x : α} (h : x ∉ xs) : mset (numM xs) x (xs.length : Int) = numM (xs ++ [x]) := by
  rw [mset_none _ _ _ (by rw [mget_numM, if_neg h]), numM_snoc]
theorem posN_lt {xs : List α} {x : α} (h : x ∈ xs) : posN xs x < xs.length := by
  induction xs with
  | nil => cases h
  | cons b l ih =>
    simp only [posN, List.length_cons]
    by_cases hb : x = b
    · simp [hb]
    · rw [if_neg hb]
      have := ih (by simpa [hb] using h); omega
theorem posN_not {xs : List α} {x : α} (h : x ∉ xs) : posN xs x = xs.length := by
  induction xs with
  | nil => rfl
  | cons b l ih =>
    simp only [List.mem_cons, not_or] at h
    simp only [posN, List.length_cons, if_neg h.1, ih h.2]
theorem posN_le (xs : List α) (x : α) : posN xs x ≤ xs.length := by
  by_cases h : x ∈ xs
  · exact Nat.le_of_lt (posN_lt h)
  · rw [posN_not h]; exact Nat.le_refl _
theorem getD_posN {xs : List α} {x : α} (d : α) (h : x ∈ xs) : xs.getD (posN xs x) d = x := by
  induction xs with
  | nil => cases h
  | cons b l ih =>
    simp only [posN]
    by_cases hb : x = b
    · simp [hb]
    · rw [if_neg hb]
      have := ih (by simpa [hb] using h)
      simpa [List.getD_eq_getElem?_getD] using this
theorem posN_append {xs : List α} {x : α} (ys : List α) (h : x ∈ xs) : posN (xs ++ ys) x = posN xs x := by
  induction xs with
  | nil => cases h
  | cons b l ih =>
    simp only [List.cons_append, posN]
    by_cases hb : x = b
    · simp [hb]
    · rw [if_neg hb, if_neg hb, ih (by simpa [hb] using h)]
theorem posN_at {xs : List α} (d : α) (hn : xs.Nodup) {i : Nat} (hi : i < xs.length) : posN xs (xs.getD i d) = i := by
  induction xs generalizing i with
  | nil => simp at hi
  | cons b l ih =>
    rw [List.nodup_cons] at hn
    cases i with
    | zero => simp [posN]
    | succ i =>
      have hi' : i < l.length := by simpa using hi
      have e : (b :: l).getD (i + 1) d = l.getD i d := by simp [List.getD_eq_getElem?_getD]
      have hne : l.getD i d ≠ b := fun h => hn.1 (h ▸ getD_mem hi')
      rw [e]
      simp only [posN, if_neg hne, ih hn.2 hi']
theorem insN_mem (xs : List α) (x : α) : x ∈ insN xs x := by unfold insN; split; assumption; simp
theorem insN_sub {xs : List α} {x y : α} (h : y ∈ xs) : y ∈ insN xs x := by unfold insN; split; exact h; simp [h]
theorem insN_cases {xs : List α} {x y : α} (h : y ∈ insN xs x) : y ∈ xs ∨ y = x := by
  unfold insN at h; split at h
  · exact .inl h
  · simpa using h
theorem insN_nodup {xs : List α} {x : α} (h : xs.Nodup) : (insN xs x).Nodup := by
  unfold insN; split
  · exact h
  · rename_i hx
    rw [List.nodup_append]
    refine ⟨h, by simp, fun a ha b hb => ?_⟩
    simp at hb; subst hb; exact fun e => hx (e ▸ ha)
theorem insN_pre (xs : List α) (x : α) : ∃ ys, insN xs x = xs ++ ys := by unfold insN; split; exact ⟨[], by simp⟩; exact ⟨[x], rfl⟩
/-- rounds of letters -/
def exR (f : α → Nat → α) (q : α) (l : List α) : Nat → List α
  | 0 => l
  | k + 1 => insN (exR f q l k) (f q k)
def exW (f : α → Nat → α) (q : α) (l : List α) : Nat → List Int
  | 0 => []
  | k + 1 => exW f q l k ++ [((posN (exR f q l k) (f q k) : Nat) : Int)]
def exI (f : α → Nat → α) (L : Nat) (s z : α) : Nat → List α
  | 0 => [s]
  | i + 1 => if i < (exI f L s z i).length then exR f ((exI f L s z i).getD i z) (exI f L s z i) L else exI f L s z i
def exN (f : α → Nat → α) (L : Nat) (s z : α) : Nat → List (List Int)
  | 0 => []
  | i + 1 => exN f L s z i ++ [exW f ((exI f L s z i).getD i z) (exI f L s z i) L]
def exG (f : α → Nat → α) (L : Nat) (s z : α) (g : α → Bool) : Nat → List Bool
  | 0 => []
  | i + 1 => exG f L s z g i ++ [g ((exI f L s z i).getD i z)]
theorem exI_next {f : α → Nat → α} {L : Nat} {s z : α} {i : Nat} (h : i < (exI f L s z i).length) : exI f L s z (i + 1) = exR f ((exI f L s z i).getD i z) (exI f L s z i) L := by
  simp only [exI]; rw [if_pos h]
theorem exW_len (f : α → Nat → α) (q : α) (l : List α) : ∀ k, (exW f q l k).length = k
  | 0 => rfl
  | k + 1 => by simp [exW, exW_len f q l k]
theorem exN_len (f : α → Nat → α) (L : Nat) (s z : α) : ∀ i, (exN f L s z i).length = i
  | 0 => rfl
  | i + 1 => by simp [exN, exN_len f L s z i]
theorem exG_len (f : α → Nat → α) (L : Nat) (s z : α) (g : α → Bool) : ∀ i, (exG f L s z g i).length = i
  | 0 => rfl
  | i + 1 => by simp [exG, exG_len f L s z g i]
theorem exR_pre (f : α → Nat → α) (q : α) (l : List α) : ∀ k, ∃ ys, exR f q l k = l ++ ys
  | 0 => ⟨[], by simp [exR]⟩
  | k + 1 => by
    obtain ⟨ys, h⟩ := exR_pre f q l k
    obtain ⟨zs, h2⟩ := insN_pre (exR f q l k) (f q k)
    exact ⟨ys ++ zs, by rw [exR, h2, h, List.append_assoc]⟩
theorem exR_nodup {f : α → Nat → α} {q : α} {l : List α} (h : l.Nodup) : ∀ k, (exR f q l k).Nodup
  | 0 => h
  | k + 1 => insN_nodup (exR_nodup h k)
theorem exR_sub {f : α → Nat → α} {q : α} {l U : List α} {L : Nat} (h : ∀ y ∈ l, y ∈ U) (hf : ∀ x, x < L → f q x ∈ U) : ∀ k, k ≤ L → ∀ y ∈ exR f q l k, y ∈ U
  | 0, _, y, hy => h y hy
  | k + 1, hk, y, hy => by
    rcases insN_cases hy with h' | rfl
    · exact exR_sub h hf k (by omega) y h'
    · exact hf k (by omega)
theorem exR_mono {f : α → Nat → α} {q : α} {l : List α} {y : α} (h : y ∈ l) (k : Nat) : y ∈ exR f q l k := by
  obtain ⟨ys, e⟩ := exR_pre f q l k; rw [e]; exact List.mem_append_left _ h
theorem exI_pre (f : α → Nat → α) (L : Nat) (s z : α) (i : Nat) : ∃ ys, exI f L s z (i + 1) = exI f L s z i ++ ys := by
  simp only [exI]; split
  · exact exR_pre _ _ _ _
  · exact ⟨[], by simp⟩
theorem exI_ne (f : α → Nat → α) (L : Nat) (s z : α) : ∀ i, 0 < (exI f L s z i).length
  | 0 => by simp [exI]
  | i + 1 => by
    obtain ⟨ys, e⟩ := exI_pre f L s z i
    rw [e, List.length_append]; have := exI_ne f L s z i; omega
theorem exI_ok {f : α → Nat → α} {L : Nat} {s z : α} {U : List α} (hs : s ∈ U) (hf : ∀ q ∈ U, ∀ x, x < L → f q x ∈ U) : ∀ i, (exI f L s z i).Nodup ∧ ∀ y ∈ exI f L s z i, y ∈ U
  | 0 => ⟨by simp [exI], by simp [exI, hs]⟩
  | i + 1 => by
    obtain ⟨h1, h2⟩ := exI_ok (z := z) hs hf i
    simp only [exI]; split
    · rename_i hi
      exact ⟨exR_nodup h1 L, exR_sub h2 (hf _ (h2 _ (getD_mem hi))) L (Nat.le_refl _)⟩
    · exact ⟨h1, h2⟩
theorem nodup_sub_len : ∀ {xs U : List α}, xs.Nodup → (∀ y ∈ xs, y ∈ U) → xs.length ≤ U.length
  | [], _, _, _ => Nat.zero_le _
  | x :: xs, U, hn, h => by
    rw [List.nodup_cons] at hn
    have hx := h x (by simp)
    have h1 := List.length_erase_of_mem hx
    have h2 : 0 < U.length := List.length_pos_of_mem hx
    have h3 := nodup_sub_len (xs := xs) (U := U.erase x) hn.2 (fun y hy => (List.mem_erase_of_ne (a := y) (b := x) (fun e => hn.1 (by rw [← e]; exact hy))).2 (h y (by simp [hy])))
    simp only [List.length_cons]; omega
theorem exI_bd {f : α → Nat → α} {L : Nat} {s z : α} {U : List α} (hs : s ∈ U) (hf : ∀ q ∈ U, ∀ x, x < L → f q x ∈ U) (i : Nat) : (exI f L s z i).length ≤ U.length :=
  nodup_sub_len (exI_ok hs hf i).1 (exI_ok hs hf i).2
theorem exR_bd {f : α → Nat → α} {L : Nat} {s z : α} {U : List α} (hs : s ∈ U) (hf : ∀ q ∈ U, ∀ x, x < L → f q x ∈ U) {i k : Nat} (hi : i < (exI f L s z i).length) (hk : k ≤ L) : (exR f ((exI f L s z i).getD i z) (exI f L s z i) k).length ≤ U.length :=
  nodup_sub_len (exR_nodup (exI_ok hs hf i).1 k) (exR_sub (exI_ok hs hf i).2 (hf _ ((exI_ok hs hf i).2 _ (getD_mem hi))) k hk)
theorem exR_ne {f : α → Nat → α} {q : α} {l : List α} (h : 0 < l.length) (k : Nat) : 0 < (exR f q l k).length := by
  obtain ⟨ys, e⟩ := exR_pre f q l k; rw [e, List.length_append]; omega
end
/-- maps and slices against nil -/
theorem Yl.eqlMap {C : Cx} {sl : List (Nat × Value)} {own : List Asn} {dst : Option Nat} {ty : TypeId} {pos : String} {aft : Array Edge} {g : Option (Nat × Bool)} {x : Operand} {t t' k e : TypeId} {o : Option Nat} (ht : C.P.underlying t = some (.map k e)) (hx : opv ⟨sl, own⟩ x = some (.map o)) :
    Yl C ⟨sl, own⟩ ⟨dst, .binOp .eql t x (.const (.map none)) t', ty, pos, aft, g⟩ (.bool o.isNone) :=
  fun a w hs => by
    have h := run_equal_map_nil (P := C.P) (w := w) t k e o ht
    have hc : a.eval (.const (.map none)) = .map none := rfl
    simp only [execOp, opv_eval hs hx, hc]
    simp [go_sem, binOp, h]
theorem Yl.eqlSl {C : Cx} {sl : List (Nat × Value)} {own : List Asn} {dst : Option Nat} {ty : TypeId} {pos : String} {aft : Array Edge} {g : Option (Nat × Bool)} {x : Operand} {t t' e : TypeId} {o : Option Addr} {n c : Nat} (ht : C.P.underlying t = some (.slice e)) (hx : opv ⟨sl, own⟩ x = some (.slice o n c)) :
    Yl C ⟨sl, own⟩ ⟨dst, .binOp .eql t x (.const (.slice none 0 0)) t', ty, pos, aft, g⟩ (.bool o.isNone) :=
  fun a w hs => by
    have h := run_equal_slice_nil (P := C.P) (w := w) t e o n c ht
    have hc : a.eval (.const (.slice none 0 0)) = .slice none 0 0 := rfl
    simp only [execOp, opv_eval hs hx, hc]
    simp [go_sem, binOp, h]
end Go.Sx
