import Derived.Test.YtoikhoniogicdaaDk
set_option linter.unusedVariables false
namespace Go.Sx
/-! ### shortlex; the words of the states are the first ones -/
theorem bl_irr : ∀ u : List UInt8, Op.bytesLess u u = false
  | [] => rfl
  | a :: u => by simp [Op.bytesLess, bl_irr u]
theorem bl_trans : ∀ {u v w : List UInt8}, Op.bytesLess u v = true → Op.bytesLess v w = true → Op.bytesLess u w = true
  | _, _, [], _, h => by cases h2 : ‹List UInt8› <;> simp [Op.bytesLess] at h
  | [], _, c :: w, _, _ => rfl
  | a :: u, [], c :: w, h, _ => by simp [Op.bytesLess] at h
  | a :: u, b :: v, c :: w, h, k => by
    simp only [Op.bytesLess, Bool.or_eq_true, Bool.and_eq_true, decide_eq_true_eq, beq_iff_eq] at h k ⊢
    rcases h with h | ⟨rfl, h⟩
    · rcases k with k | ⟨rfl, k⟩
      · exact .inl (UInt8.lt_trans h k)
      · exact .inl h
    · rcases k with k | ⟨rfl, k⟩
      · exact .inl k
      · exact .inr ⟨rfl, bl_trans h k⟩
theorem bl_app : ∀ {u v : List UInt8} (a b : List UInt8), u.length = v.length → Op.bytesLess u v = true → Op.bytesLess (u ++ a) (v ++ b) = true
  | [], [], a, b, _, h => by simp [Op.bytesLess] at h
  | [], _ :: _, a, b, h, _ => by simp at h
  | _ :: _, [], a, b, h, _ => by simp at h
  | x :: u, y :: v, a, b, hl, h => by
    simp only [List.cons_append, Op.bytesLess, Bool.or_eq_true, Bool.and_eq_true, decide_eq_true_eq, beq_iff_eq] at h ⊢
    rcases h with h | ⟨rfl, h⟩
    · exact .inl h
    · exact .inr ⟨rfl, bl_app a b (by simpa using hl) h⟩
theorem bl_same : ∀ (u : List UInt8) {a b : List UInt8}, Op.bytesLess (u ++ a) (u ++ b) = Op.bytesLess a b
  | [], _, _ => rfl
  | x :: u, a, b => by simp only [List.cons_append, Op.bytesLess, bl_same u, UInt8.lt_irrefl]; simp
/-- shortlex -/
def slx (u v : List UInt8) : Bool := decide (u.length < v.length) || (decide (u.length = v.length) && Op.bytesLess u v)
def CmpV (u v : List UInt8) : Int := if slx u v then -1 else if u = v then 0 else 1
theorem slx_iff {u v : List UInt8} : slx u v = true ↔ u.length < v.length ∨ (u.length = v.length ∧ Op.bytesLess u v = true) := by simp [slx]
theorem slx_irr (u : List UInt8) : slx u u = false := by simp [slx, bl_irr]
theorem slx_trans {u v w : List UInt8} (h : slx u v = true) (k : slx v w = true) : slx u w = true := by
  rw [slx_iff] at *
  rcases h with h | ⟨h, h2⟩
  · rcases k with k | ⟨k, _⟩
    · exact .inl (by omega)
    · exact .inl (by omega)
  · rcases k with k | ⟨k, k2⟩
    · exact .inl (by omega)
    · exact .inr ⟨by omega, bl_trans h2 k2⟩
theorem slx_app {u v : List UInt8} (a b : UInt8) (h : slx u v = true) : slx (u ++ [a]) (v ++ [b]) = true := by
  rw [slx_iff] at *
  simp only [List.length_append, List.length_cons, List.length_nil]
  rcases h with h | ⟨h, h2⟩
  · exact .inl (by omega)
  · exact .inr ⟨by omega, bl_app _ _ h h2⟩
theorem slx_last {u : List UInt8} {a b : UInt8} (h : a < b) : slx (u ++ [a]) (u ++ [b]) = true := by
  rw [slx_iff]; exact .inr ⟨by simp, by rw [bl_same]; simp [Op.bytesLess, h]⟩
theorem ltr_lt {x y : Nat} (h : x < y) (hy : y < 128) : ltr x < ltr y := by
  rw [UInt8.lt_iff_toNat_lt, ltr_toNat hy, ltr_toNat (by omega)]; omega
theorem CmpV_lt {u v : List UInt8} : CmpV u v < 0 ↔ slx u v = true := by
  unfold CmpV; by_cases h : slx u v = true
  · simp [h]
  · rw [if_neg h]; simp only [h]; split <;> simp
theorem CmpV_le {u v : List UInt8} : CmpV u v ≤ 0 ↔ slx u v = true ∨ u = v := by
  unfold CmpV; by_cases h : slx u v = true
  · simp [h]
  · rw [if_neg h]; simp only [h]; by_cases k : u = v <;> simp [k]
def sle (u v : List UInt8) : Prop := slx u v = true ∨ u = v
theorem sle.trans {u v w : List UInt8} (h : sle u v) (k : sle v w) : sle u w := by
  rcases h with h | rfl
  · rcases k with k | rfl
    · exact .inl (slx_trans h k)
    · exact .inl h
  · exact k
theorem sle.app {u v : List UInt8} (a : UInt8) (h : sle u v) : sle (u ++ [a]) (v ++ [a]) := by
  rcases h with h | rfl
  · exact .inl (slx_app _ _ h)
  · exact .inr rfl
def Srt (ws : List (List UInt8)) : Prop := ws.Pairwise fun u v => slx u v = true
theorem Srt.get {ws : List (List UInt8)} (h : Srt ws) {i j : Nat} (hij : i < j) (hj : j < ws.length) : slx (ws.getD i []) (ws.getD j []) = true := by
  have := List.pairwise_iff_getElem.1 h i j (by omega) hj hij
  simpa [List.getD_eq_getElem?_getD, show i < ws.length by omega, hj] using this
theorem Srt.snoc {ws : List (List UInt8)} (h : Srt ws) {w : List UInt8} (hw : ∀ u ∈ ws, slx u w = true) : Srt (ws ++ [w]) := by
  unfold Srt; rw [List.pairwise_append]
  exact ⟨h, by simp, fun a ha b hb => by simp at hb; subst hb; exact hw a ha⟩
section
variable {α : Type} [DecidableEq α]
theorem exRw_srt {f : α → Nat → α} {q : α} {wq : List UInt8} {l : List α} {ws : List (List UInt8)} (h : Srt ws) (h2 : ∀ w ∈ ws, slx w (wq ++ [ltr 0]) = true) : ∀ k, k < 128 → Srt (exRw f q wq l ws k) ∧ ∀ w ∈ exRw f q wq l ws k, slx w (wq ++ [ltr k]) = true
  | 0, _ => ⟨h, h2⟩
  | k + 1, hk => by
    obtain ⟨i1, i2⟩ := exRw_srt h h2 k (by omega)
    have hs : slx (wq ++ [ltr k]) (wq ++ [ltr (k + 1)]) = true := slx_last (ltr_lt (by omega) hk)
    simp only [exRw]
    split
    · exact ⟨i1, fun w hw => slx_trans (i2 w hw) hs⟩
    · refine ⟨i1.snoc i2, fun w hw => ?_⟩
      rcases List.mem_append.1 hw with hw | hw
      · exact slx_trans (i2 w hw) hs
      · simp at hw; subst hw; exact hs
theorem exIw_pre (f : α → Nat → α) (L : Nat) (s z : α) (i : Nat) : ∃ ys, exIw f L s z (i + 1) = exIw f L s z i ++ ys := by
  simp only [exIw]; split
  · exact exRw_pre _ _ _ _ _ _
  · exact ⟨[], by simp⟩
theorem exIw_mono (f : α → Nat → α) (L : Nat) (s z : α) (i : Nat) : ∀ m, ∃ ys, exIw f L s z (i + m) = exIw f L s z i ++ ys
  | 0 => ⟨[], by simp⟩
  | m + 1 => by
    obtain ⟨ys, e⟩ := exIw_mono f L s z i m
    obtain ⟨zs, e2⟩ := exIw_pre f L s z (i + m)
    exact ⟨ys ++ zs, by rw [show i + (m + 1) = i + m + 1 by omega, e2, e, List.append_assoc]⟩
theorem getD_pre {xs ys : List (List UInt8)} {i : Nat} (h : i < xs.length) : (xs ++ ys).getD i [] = xs.getD i [] := by
  simp [List.getD_eq_getElem?_getD, List.getElem?_append, h]
theorem exIw_srt {f : α → Nat → α} {L : Nat} (hL : L < 128) {s z : α} : ∀ i, (∀ j, j < i → j < (exI f L s z j).length) → Srt (exIw f L s z i) ∧ (i < (exI f L s z i).length → ∀ w ∈ exIw f L s z i, slx w ((exIw f L s z i).getD i [] ++ [ltr 0]) = true)
  | 0, _ => ⟨by simp [exIw, Srt], fun _ w hw => by simp [exIw] at hw; subst hw; simp [exIw, slx]⟩
  | i + 1, h => by
    have hlt := h i (by omega)
    obtain ⟨i1, i2⟩ := exIw_srt hL i fun j hj => h j (by omega)
    have hr := exRw_srt (f := f) (q := (exI f L s z i).getD i z) (l := exI f L s z i) i1 (i2 hlt) L hL
    rw [← exIw_next hlt] at hr
    refine ⟨hr.1, fun hn w hw => ?_⟩
    have hw2 := hr.2 w hw
    obtain ⟨ys, e⟩ := exIw_pre f L s z i
    have e2 : (exIw f L s z i).getD i [] = (exIw f L s z (i + 1)).getD i [] := by rw [e, getD_pre (by rw [exIw_len]; exact hlt)]
    rw [e2] at hw2
    exact slx_trans hw2 (slx_app _ _ (hr.1.get (by omega) (by rw [exIw_len]; exact hn)))
omit [DecidableEq α] in
theorem foldW_snoc (f : α → Nat → α) (q : α) (l : List UInt8) (c : UInt8) : foldW f q (l ++ [c]) = f (foldW f q l) ((c.toNat : Int) - 97).toNat := by
  unfold foldW; rw [List.foldl_append]; rfl
theorem ltr_num {x : Nat} (h : x < 128) : (((ltr x).toNat : Int) - 97).toNat = x := by rw [ltr_toNat h]; omega
theorem exRw_fold {f : α → Nat → α} {s q : α} {wq : List UInt8} {l : List α} {ws : List (List UInt8)} (h : ws.map (foldW f s) = l) (hq : foldW f s wq = q) : ∀ k, k < 128 → (exRw f q wq l ws k).map (foldW f s) = exR f q l k
  | 0, _ => h
  | k + 1, hk => by
    have ih := exRw_fold (ws := ws) h hq k (by omega)
    simp only [exRw, exR, insN]
    split
    · exact ih
    · rw [List.map_append, ih, List.map_singleton, foldW_snoc, hq, ltr_num (by omega)]
theorem exIw_fold {f : α → Nat → α} {L : Nat} (hL : L < 128) {s z : α} : ∀ i, (exIw f L s z i).map (foldW f s) = exI f L s z i
  | 0 => rfl
  | i + 1 => by
    have ih := exIw_fold hL (f := f) (s := s) (z := z) i
    simp only [exIw, exI]
    split
    · rename_i hlt
      refine exRw_fold ih ?_ L hL
      have hl : i < (exIw f L s z i).length := by rw [exIw_len]; exact hlt
      conv => rhs; rw [← ih]
      simp [List.getD_eq_getElem?_getD, hl]
    · exact ih
theorem exRw_let {f : α → Nat → α} {q : α} {wq : List UInt8} {l : List α} {ws : List (List UInt8)} {Lv : Int} (h : ∀ w ∈ ws, w.all (okB Lv) = true) (hq : wq.all (okB Lv) = true) (hLv : Lv ≤ 100) : ∀ k : Nat, (k : Int) ≤ Lv → ∀ w ∈ exRw f q wq l ws k, w.all (okB Lv) = true
  | 0, _ => h
  | k + 1, hk => by
    have ih := exRw_let (f := f) (q := q) (l := l) h hq hLv k (by omega)
    simp only [exRw]
    split
    · exact ih
    · intro w hw
      rcases List.mem_append.1 hw with hw | hw
      · exact ih w hw
      · simp at hw; subst hw
        rw [List.all_append, hq, Bool.true_and, List.all_cons, List.all_nil, Bool.and_true, okB, ltr_toNat (by omega), decide_eq_true_eq]; omega
theorem exIw_let {f : α → Nat → α} {L : Nat} (hL : L ≤ 100) {s z : α} : ∀ i, ∀ w ∈ exIw f L s z i, w.all (okB (L : Int)) = true
  | 0 => fun w hw => by simp [exIw] at hw; subst hw; rfl
  | i + 1 => by
    have ih := exIw_let hL (f := f) (s := s) (z := z) i
    simp only [exIw]
    split
    · rename_i hlt
      refine exRw_let ih (ih _ ?_) (by omega) L (Int.le_refl _)
      have hl : i < (exIw f L s z i).length := by rw [exIw_len]; exact hlt
      simp [List.getD_eq_getElem?_getD, hl]
    · exact ih
theorem exR_pre2 (f : α → Nat → α) (q : α) (l : List α) (k : Nat) : ∀ m, ∃ ys, exR f q l (k + m) = exR f q l k ++ ys
  | 0 => ⟨[], by simp⟩
  | m + 1 => by
    obtain ⟨ys, e⟩ := exR_pre2 f q l k m
    obtain ⟨zs, e2⟩ := insN_pre (exR f q l (k + m)) (f q (k + m))
    refine ⟨ys ++ zs, ?_⟩
    show insN (exR f q l (k + m)) (f q (k + m)) = _
    rw [e2, e, List.append_assoc]
theorem exRw_pre2 (f : α → Nat → α) (q : α) (wq : List UInt8) (l : List α) (ws : List (List UInt8)) (k : Nat) : ∀ m, ∃ ys, exRw f q wq l ws (k + m) = exRw f q wq l ws k ++ ys
  | 0 => ⟨[], by simp⟩
  | m + 1 => by
    obtain ⟨ys, e⟩ := exRw_pre2 f q wq l ws k m
    show ∃ ys, exRw f q wq l ws (k + m + 1) = _
    simp only [exRw]
    split
    · exact ⟨ys, e⟩
    · exact ⟨ys ++ [wq ++ [ltr (k + m)]], by rw [e, List.append_assoc]⟩
/-- the whole list begins with what every round holds -/
theorem exR_in {f : α → Nat → α} {L : Nat} {s z : α} {n i k : Nat} (hn : n = (exI f L s z n).length) (hi : i < n) (hk : k ≤ L) :
    (∃ ys, exI f L s z n = exR f ((exI f L s z i).getD i z) (exI f L s z i) k ++ ys) ∧ ∃ ys, exIw f L s z n = exRw f ((exI f L s z i).getD i z) ((exIw f L s z i).getD i []) (exI f L s z i) (exIw f L s z i) k ++ ys := by
  have hlt := exI_all hn i hi
  refine ⟨?_, ?_⟩
  · obtain ⟨ys, e⟩ := exI_mono f L s z (i + 1) (n - (i + 1))
    obtain ⟨zs, e2⟩ := exR_pre2 f ((exI f L s z i).getD i z) (exI f L s z i) k (L - k)
    rw [show i + 1 + (n - (i + 1)) = n by omega, exI_next hlt] at e
    rw [show k + (L - k) = L by omega] at e2
    exact ⟨zs ++ ys, by rw [e, e2, List.append_assoc]⟩
  · obtain ⟨ys, e⟩ := exIw_mono f L s z (i + 1) (n - (i + 1))
    obtain ⟨zs, e2⟩ := exRw_pre2 f ((exI f L s z i).getD i z) ((exIw f L s z i).getD i []) (exI f L s z i) (exIw f L s z i) k (L - k)
    rw [show i + 1 + (n - (i + 1)) = n by omega, exIw_next hlt] at e
    rw [show k + (L - k) = L by omega] at e2
    exact ⟨zs ++ ys, by rw [e, e2, List.append_assoc]⟩
theorem exI_at {f : α → Nat → α} {L : Nat} {s z : α} {n i : Nat} (hn : n = (exI f L s z n).length) (hi : i < n) : (exI f L s z n).getD i z = (exI f L s z i).getD i z ∧ (exIw f L s z n).getD i [] = (exIw f L s z i).getD i [] := by
  have hlt := exI_all hn i hi
  obtain ⟨ys, e⟩ := exI_mono f L s z i (n - i)
  obtain ⟨zs, e2⟩ := exIw_mono f L s z i (n - i)
  rw [show i + (n - i) = n by omega] at e e2
  exact ⟨by rw [e, getD_app z hlt], by rw [e2, getD_pre (by rw [exIw_len]; exact hlt)]⟩
theorem exIw_step {f : α → Nat → α} {L : Nat} (hL : L < 128) {s z : α} {n i x : Nat} (hn : n = (exI f L s z n).length) (hi : i < n) (hx : x < L) :
    sle ((exIw f L s z n).getD (posN (exI f L s z n) (f ((exI f L s z n).getD i z) x)) []) ((exIw f L s z n).getD i [] ++ [ltr x]) := by
  have hlt := exI_all hn i hi
  obtain ⟨e1, e2⟩ := exI_at hn hi
  rw [e1, e2]
  obtain ⟨⟨ys, p1⟩, zs, p2⟩ := exR_in hn hi (k := x + 1) (by omega)
  obtain ⟨s1, s2⟩ := exIw_srt (z := z) hL i fun j hj => exI_all hn j (by omega)
  have hr := exRw_srt (f := f) (q := (exI f L s z i).getD i z) (l := exI f L s z i) s1 (s2 hlt) x (by omega)
  have hl := exRw_len (f := f) (q := (exI f L s z i).getD i z) (wq := (exIw f L s z i).getD i []) (exIw_len (f := f) (L := L) (s := s) (z := z) i)
  have hm : f ((exI f L s z i).getD i z) x ∈ exR f ((exI f L s z i).getD i z) (exI f L s z i) (x + 1) := insN_mem _ _
  rw [p1, posN_append _ hm, p2, getD_pre (by rw [hl]; exact posN_lt hm)]
  simp only [exR, exRw]
  by_cases h : f ((exI f L s z i).getD i z) x ∈ exR f ((exI f L s z i).getD i z) (exI f L s z i) x
  · rw [if_pos h, show insN (exR f ((exI f L s z i).getD i z) (exI f L s z i) x) (f ((exI f L s z i).getD i z) x) = exR f ((exI f L s z i).getD i z) (exI f L s z i) x from if_pos h]
    have hp := posN_lt h
    rw [← hl x] at hp
    exact .inl (hr.2 _ (getD_mem (d := []) hp))
  · rw [if_neg h, show insN (exR f ((exI f L s z i).getD i z) (exI f L s z i) x) (f ((exI f L s z i).getD i z) x) = exR f ((exI f L s z i).getD i z) (exI f L s z i) x ++ [f ((exI f L s z i).getD i z) x] from if_neg h]
    have e : posN (exR f ((exI f L s z i).getD i z) (exI f L s z i) x ++ [f ((exI f L s z i).getD i z) x]) (f ((exI f L s z i).getD i z) x) = (exR f ((exI f L s z i).getD i z) (exI f L s z i) x).length := by
      have : ∀ (xs : List α) (y : α), y ∉ xs → posN (xs ++ [y]) y = xs.length := fun xs y hy => by
        induction xs with
        | nil => simp [posN]
        | cons b xs ih =>
          simp only [List.mem_cons, not_or] at hy
          simp only [List.cons_append, posN, if_neg hy.1, ih hy.2, List.length_cons]
      exact this _ _ h
    rw [e, ← hl x]
    refine .inr ?_
    simp [List.getD_eq_getElem?_getD]
theorem exIw_min {f : α → Nat → α} {L : Nat} (hL : L < 128) {s z : α} {n : Nat} (hn : n = (exI f L s z n).length) (hc : ∀ q ∈ exI f L s z n, ∀ x, x < L → f q x ∈ exI f L s z n) (hs0 : s ∈ exI f L s z n ∧ posN (exI f L s z n) s = 0) :
    ∀ (m : Nat) (l : List UInt8), l.length = m → l.all (okB (L : Int)) = true → foldW f s l ∈ exI f L s z n ∧ sle ((exIw f L s z n).getD (posN (exI f L s z n) (foldW f s l)) []) l
  | 0, l, hl, _ => by
    have : l = [] := List.length_eq_zero_iff.1 hl
    subst this
    refine ⟨hs0.1, ?_⟩
    show sle ((exIw f L s z n).getD (posN (exI f L s z n) s) []) []
    rw [hs0.2]
    obtain ⟨ys, e⟩ := exIw_mono f L s z 0 n
    rw [Nat.zero_add] at e
    rw [e]; exact .inr rfl
  | m + 1, l, hl, ha => by
    have hne : l ≠ [] := by intro e; subst e; simp at hl
    obtain ⟨c, l', e⟩ : ∃ c l', l = l' ++ [c] := ⟨l.getLast hne, l.dropLast, (List.dropLast_concat_getLast hne).symm⟩
    subst e
    rw [List.all_append, Bool.and_eq_true] at ha
    have ih := exIw_min hL hn hc hs0 m l' (by simpa using hl) ha.1
    have hok : okB (L : Int) c = true := by simpa using ha.2
    simp only [okB, decide_eq_true_eq] at hok
    rw [foldW_snoc]
    have hx : ((c.toNat : Int) - 97).toNat < L := by omega
    refine ⟨hc _ ih.1 _ hx, ?_⟩
    have hp := posN_lt ih.1
    have h := exIw_step (z := z) hL hn (i := posN (exI f L s z n) (foldW f s l')) (Nat.lt_of_lt_of_eq hp hn.symm) hx
    rw [getD_posN z ih.1] at h
    have ec : ltr ((c.toNat : Int) - 97).toNat = c := by
      apply UInt8.toNat_inj.1
      rw [ltr_toNat (by omega)]; omega
    rw [ec] at h
    exact h.trans (ih.2.app c)
end
/-! ### of an automaton -/
theorem tst_fix {d : Dfa} (hv : VD d) : (TSt d).length = (exI (stepQ d) d.L.toNat d.s 0 (TSt d).length).length ∧ exI (stepQ d) d.L.toNat d.s 0 (TSt d).length = TSt d ∧ exIw (stepQ d) d.L.toNat d.s 0 (TSt d).length = TWo d := by
  obtain ⟨n, hn⟩ := gen_exists (z := (0 : Int)) (start_univ hv) (step_univ hv)
  have h1 := (exI_final (start_univ hv) (step_univ hv) hn).1
  have h2 := exIw_final (start_univ hv) (step_univ hv) hn
  rw [univ_len] at h1 h2
  have e1 : TSt d = exI (stepQ d) d.L.toNat d.s 0 n := h1
  have e2 : TWo d = exIw (stepQ d) d.L.toNat d.s 0 n := h2
  have e3 : (TSt d).length = n := by rw [e1]; exact hn.symm
  rw [e3]
  exact ⟨hn, e1.symm, e2.symm⟩
theorem two_len {d : Dfa} (hv : VD d) : (TWo d).length = (TSt d).length := by
  obtain ⟨h1, h2, h3⟩ := tst_fix hv
  rw [← h3, exIw_len, h2]
theorem tst_start {d : Dfa} (hv : VD d) : d.s ∈ TSt d ∧ posN (TSt d) d.s = 0 := by
  obtain ⟨h1, h2, h3⟩ := tst_fix hv
  obtain ⟨ys, e⟩ := exI_mono (stepQ d) d.L.toNat d.s 0 0 (TSt d).length
  rw [Nat.zero_add, h2] at e
  rw [e]; simp [exI, posN]
theorem two_srt {d : Dfa} (hv : VD d) : Srt (TWo d) := by
  obtain ⟨h1, h2, h3⟩ := tst_fix hv
  rw [← h3]
  exact (exIw_srt (by have := hv.L; omega) _ fun j hj => exI_all h1 j hj).1
theorem two_run {d : Dfa} (hv : VD d) : (TWo d).map (runI d d.s) = TSt d := by
  obtain ⟨h1, h2, h3⟩ := tst_fix hv
  have h := exIw_fold (f := stepQ d) (L := d.L.toNat) (by have := hv.L; omega) (s := d.s) (z := 0) (TSt d).length
  rw [h2, h3] at h
  rw [← h]
  exact List.map_congr_left fun l _ => (foldW_stepQ d l d.s).symm
theorem two_ok {d : Dfa} (hv : VD d) {i : Nat} (hi : i < (TSt d).length) : validW d.L ((TWo d).getD i []) = true ∧ runI d d.s ((TWo d).getD i []) = (TSt d).getD i 0 := by
  obtain ⟨h1, h2, h3⟩ := tst_fix hv
  have hL := hv.L
  have hl : i < (TWo d).length := by rw [two_len hv]; exact hi
  have hm : (TWo d).getD i [] ∈ TWo d := getD_mem hl
  have e : ((d.L.toNat : Nat) : Int) = d.L := by omega
  have ha := exIw_let (f := stepQ d) (L := d.L.toNat) (by omega) (s := d.s) (z := 0) (TSt d).length _ (by rw [h3]; exact hm)
  have hd := exIw_wd' (f := stepQ d) (L := d.L.toNat) (s := d.s) (z := 0) (TSt d).length _ (by rw [h3]; exact hm)
  have hn := (TSt_ok hv).2.2.1
  have := hv.n
  rw [e] at ha
  refine ⟨by unfold validW; rw [ha, Bool.and_true, decide_eq_true_eq]; omega, ?_⟩
  have hr := two_run hv
  conv => rhs; rw [← hr]
  simp [List.getD_eq_getElem?_getD, hl]
theorem two_min {d : Dfa} (hv : VD d) {l : List UInt8} (hw : validW d.L l = true) : runI d d.s l ∈ TSt d ∧ sle ((TWo d).getD (posN (TSt d) (runI d d.s l)) []) l := by
  obtain ⟨h1, h2, h3⟩ := tst_fix hv
  have hL := hv.L
  have e : ((d.L.toNat : Nat) : Int) = d.L := by omega
  have ha : l.all (okB ((d.L.toNat : Nat) : Int)) = true := by
    rw [e]; unfold validW at hw; rw [Bool.and_eq_true] at hw; exact hw.2
  have hst := tst_start hv
  have h := exIw_min (f := stepQ d) (L := d.L.toNat) (by omega) (s := d.s) (z := 0) h1 (by rw [h2]; exact fun q hq x hx => TSt_closed hv hq hx) (by rw [h2]; exact hst) l.length l rfl ha
  rw [h2, h3, foldW_stepQ] at h
  exact h
/-- the words, the others still empty -/
def AccW (d : Dfa) : List (List UInt8) := if VD d then TWo d else []
def AW (d : Dfa) (ws : List (List UInt8)) : List (List UInt8) := if VD d then ws ++ List.replicate ((TSt d).length - ws.length) [] else []
theorem AW_zero {d : Dfa} : AW d [[]] = List.replicate (TrimV d).fin.length [] := by
  unfold AW TrimV
  by_cases hv : VD d
  · rw [if_pos hv, if_pos hv]
    have := (TSt_ok hv).2.2.2
    obtain ⟨m, e⟩ : ∃ m, (TSt d).length = m + 1 := ⟨(TSt d).length - 1, by omega⟩
    simp [trimD, e, List.replicate_succ]
  · rw [if_neg hv, if_neg hv]; rfl
theorem AW_set {d : Dfa} (hv : VD d) {ws : List (List UInt8)} (h : ws.length < (TSt d).length) (w : List UInt8) : (AW d ws).set ws.length w = AW d (ws ++ [w]) := by
  unfold AW; rw [if_pos hv, if_pos hv]
  obtain ⟨m, e⟩ : ∃ m, (TSt d).length - ws.length = m + 1 := ⟨(TSt d).length - ws.length - 1, by omega⟩
  have e2 : (TSt d).length - (ws ++ [w]).length = m := by simp; omega
  rw [e, e2, List.replicate_succ, List.set_append_right _ _ (Nat.le_refl _), Nat.sub_self, List.set_cons_zero, List.append_assoc]; rfl
theorem AW_len {d : Dfa} (hv : VD d) {ws : List (List UInt8)} (h : ws.length ≤ (TSt d).length) : (AW d ws).length = (TSt d).length := by
  unfold AW; rw [if_pos hv]; simp; omega
theorem AW_get {d : Dfa} (hv : VD d) {ws : List (List UInt8)} {i : Nat} (h : i < ws.length) : (AW d ws).getD i [] = ws.getD i [] := by
  unfold AW; rw [if_pos hv, getD_pre h]
end Go.Sx
