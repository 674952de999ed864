import Derived.Test.YtoikhoniogicdaaMd
set_option linter.unusedVariables false
set_option linter.unusedSectionVars false
set_option linter.unusedSimpArgs false
namespace Go.Sx
/-! ### the first thing that is wanted, and its least word -/
section
variable {α : Type} [DecidableEq α]
def srI (f : α → Nat → α) (L : Nat) (s z : α) (N : Nat) (wd : α → Bool) : Option Nat := (List.range (exI f L s z N).length).find? fun i => wd ((exI f L s z N).getD i z)
def SrcV (f : α → Nat → α) (L : Nat) (s z : α) (N : Nat) (wd : α → Bool) : List UInt8 × Bool := match srI f L s z N wd with
  | some i => ((exIw f L s z N).getD i [], true)
  | none => ([], false)
variable {f : α → Nat → α} {L : Nat} {s z : α} {U : List α} {wd : α → Bool}
theorem src_lt {n k : Nat} (hn : n = (exI f L s z n).length) (h : k < (exI f L s z k).length) : k < n := by
  rcases Nat.lt_or_ge k n with h1 | h1
  · exact h1
  · obtain ⟨m, rfl⟩ : ∃ m, k = n + m := ⟨k - n, by omega⟩
    rw [exI_stop (by omega) m] at h; omega
theorem src_pre {n k : Nat} (hk : k ≤ n) {j : Nat} (hj : j < (exI f L s z k).length) : (exI f L s z n).getD j z = (exI f L s z k).getD j z := by
  obtain ⟨ys, e⟩ := exI_mono f L s z k (n - k)
  rw [show k + (n - k) = n by omega] at e
  rw [e, getD_app z hj]
theorem src_prew {n k : Nat} (hk : k ≤ n) {j : Nat} (hj : j < (exI f L s z k).length) : (exIw f L s z n).getD j [] = (exIw f L s z k).getD j [] := by
  obtain ⟨ys, e⟩ := exIw_mono f L s z k (n - k)
  rw [show k + (n - k) = n by omega] at e
  rw [e, getD_pre (by rw [exIw_len]; exact hj)]
theorem src_some (hs : s ∈ U) (hf : ∀ q ∈ U, ∀ x, x < L → f q x ∈ U) {k : Nat} (hk : k < (exI f L s z k).length) (h : ∀ j, j < k → wd ((exI f L s z k).getD j z) = false) (hw : wd ((exI f L s z k).getD k z) = true) :
    SrcV f L s z U.length wd = ((exIw f L s z k).getD k [], true) := by
  obtain ⟨n, hn⟩ := gen_exists (f := f) (L := L) (z := z) hs hf
  have e1 := (exI_final hs hf hn).1
  have e2 := exIw_final hs hf hn
  have hkn := src_lt hn hk
  have e : srI f L s z U.length wd = some k := by
    unfold srI; rw [e1, List.find?_range_eq_some]
    refine ⟨by rw [src_pre (by omega) hk]; exact hw, by simp; omega, fun j hj => by rw [src_pre (k := k) (by omega) (by omega), h j hj]; rfl⟩
  unfold SrcV
  rw [e, e2]
  show ((exIw f L s z n).getD k [], true) = _
  rw [src_prew (by omega) hk]
theorem src_none (hs : s ∈ U) (hf : ∀ q ∈ U, ∀ x, x < L → f q x ∈ U) {k : Nat} (hk : k = (exI f L s z k).length) (h : ∀ j, j < k → wd ((exI f L s z k).getD j z) = false) : SrcV f L s z U.length wd = ([], false) := by
  have e1 := (exI_final hs hf hk).1
  have e : srI f L s z U.length wd = none := by
    unfold srI; rw [e1, List.find?_range_eq_none]
    intro j hj
    rw [h j (by omega)]; rfl
  unfold SrcV; rw [e]
/-- for the next round -/
theorem src_next {k : Nat} (hk : k < (exI f L s z k).length) (h : ∀ j, j < k → wd ((exI f L s z k).getD j z) = false) (hw : wd ((exI f L s z k).getD k z) = false) : ∀ j, j < k + 1 → wd ((exI f L s z (k + 1)).getD j z) = false := by
  intro j hj
  rw [src_pre (n := k + 1) (k := k) (by omega) (by omega)]
  rcases Nat.lt_or_eq_of_le (Nat.le_of_lt_succ hj) with h1 | rfl
  · exact h j h1
  · exact hw
theorem gen_fold (hL : L ≤ 100) (hs : s ∈ U) (hf : ∀ q ∈ U, ∀ x, x < L → f q x ∈ U) {i : Nat} (hi : i < (exI f L s z U.length).length) :
    foldW f s ((exIw f L s z U.length).getD i []) = (exI f L s z U.length).getD i z ∧ ((exIw f L s z U.length).getD i []).all (okB (L : Int)) = true := by
  have h := exIw_fold (f := f) (L := L) (by omega) (s := s) (z := z) U.length
  have hl : i < (exIw f L s z U.length).length := by rw [exIw_len]; exact hi
  refine ⟨?_, exIw_let (by omega) U.length _ (getD_mem hl)⟩
  conv => rhs; rw [← h]
  simp [List.getD_eq_getElem?_getD, hl]
theorem src_spec (hL : L ≤ 100) (hs : s ∈ U) (hf : ∀ q ∈ U, ∀ x, x < L → f q x ∈ U) :
    ((SrcV f L s z U.length wd).2 = true → (SrcV f L s z U.length wd).1.all (okB (L : Int)) = true ∧ wd (foldW f s (SrcV f L s z U.length wd).1) = true) ∧
    (∀ l : List UInt8, l.all (okB (L : Int)) = true → wd (foldW f s l) = true → (SrcV f L s z U.length wd).2 = true ∧ sle (SrcV f L s z U.length wd).1 l) := by
  obtain ⟨n, hn⟩ := gen_exists (f := f) (L := L) (z := z) hs hf
  have e1 := (exI_final hs hf hn).1
  have e2 := exIw_final hs hf hn
  constructor
  · intro h
    unfold SrcV at h ⊢
    cases e : srI f L s z U.length wd with
    | none => rw [e] at h; cases h
    | some i =>
      have e3 := e
      unfold srI at e3; rw [List.find?_range_eq_some] at e3
      have hi : i < (exI f L s z U.length).length := by simpa using e3.2.1
      obtain ⟨g1, g2⟩ := gen_fold (z := z) hL hs hf hi
      exact ⟨g2, by show wd (foldW f s ((exIw f L s z U.length).getD i [])) = true; rw [g1]; exact e3.1⟩
  · intro l hl hw
    have hst := gen_start (f := f) (L := L) (s := s) (z := z)
    have hn0 : 0 < (exI f L s z n).length := exI_ne _ _ _ _ _
    have hsn : s ∈ exI f L s z n ∧ posN (exI f L s z n) s = 0 := by
      obtain ⟨h1, h2⟩ := hst n
      refine ⟨h2, ?_⟩
      have h3 := posN_at z (exI_ok hs hf n).1 hn0
      rw [h1] at h3; exact h3
    have hc : ∀ q ∈ exI f L s z n, ∀ x, x < L → f q x ∈ exI f L s z n := by
      intro q hq x hx
      rw [← e1] at hq ⊢
      exact gen_closed hs hf hq hx
    obtain ⟨h1, h2⟩ := exIw_min (z := z) (by omega) hn hc hsn l.length l rfl hl
    rw [← e1, ← e2] at h2
    rw [← e1] at h1
    have hp := posN_lt h1
    have hg := getD_posN z h1
    have hsrt : Srt (exIw f L s z U.length) := by
      rw [e2]
      exact (exIw_srt (z := z) (by omega) n (fun j hj => exI_all hn j hj)).1
    unfold SrcV
    cases e : srI f L s z U.length wd with
    | none =>
      exfalso
      unfold srI at e; rw [List.find?_range_eq_none] at e
      have := e _ hp
      rw [hg, hw] at this; cases this
    | some i =>
      have e3 := e
      unfold srI at e3; rw [List.find?_range_eq_some] at e3
      refine ⟨rfl, ?_⟩
      show sle ((exIw f L s z U.length).getD i []) l
      have hip : i ≤ posN (exI f L s z U.length) (foldW f s l) := by
        rcases Nat.lt_or_ge (posN (exI f L s z U.length) (foldW f s l)) i with h3 | h3
        · have := e3.2.2 _ h3
          rw [hg, hw] at this; cases this
        · exact h3
      refine sle.trans ?_ h2
      rcases Nat.lt_or_eq_of_le hip with h3 | h3
      · exact .inl (hsrt.get h3 (by rw [exIw_len]; exact hp))
      · rw [h3]; exact .inr rfl
/-- where the queue's things come from -/
def exRb (f : α → Nat → α) (q : α) (i : Nat) (l : List α) (bs : List (Int × Int)) : Nat → List (Int × Int)
  | 0 => bs
  | k + 1 => if f q k ∈ exR f q l k then exRb f q i l bs k else exRb f q i l bs k ++ [((i : Int), (k : Int))]
def exIb (f : α → Nat → α) (L : Nat) (s z : α) : Nat → List (Int × Int)
  | 0 => [(-1, 0)]
  | i + 1 => if i < (exI f L s z i).length then exRb f ((exI f L s z i).getD i z) i (exI f L s z i) (exIb f L s z i) L else exIb f L s z i
theorem exIb_next {i : Nat} (h : i < (exI f L s z i).length) : exIb f L s z (i + 1) = exRb f ((exI f L s z i).getD i z) i (exI f L s z i) (exIb f L s z i) L := by
  simp only [exIb]; rw [if_pos h]
theorem exRb_len {q : α} {i : Nat} {l : List α} {bs : List (Int × Int)} (h : bs.length = l.length) : ∀ k, (exRb f q i l bs k).length = (exR f q l k).length
  | 0 => h
  | k + 1 => by
    have ih := exRb_len (q := q) (i := i) h k
    simp only [exRb, exR]
    unfold insN
    split
    · exact ih
    · rw [List.length_append, List.length_append, ih]; rfl
theorem exIb_len : ∀ i, (exIb f L s z i).length = (exI f L s z i).length
  | 0 => rfl
  | i + 1 => by
    have ih := exIb_len i
    simp only [exIb, exI]
    split
    · exact exRb_len ih L
    · exact ih
/-- the words are those that the steps back spell -/
def Bk (bs : List (Int × Int)) (ws : List (List UInt8)) (i : Nat) : Prop := bs.length = ws.length ∧ (∀ j, 0 < j → j < bs.length → 0 ≤ (bs.getD j (0, 0)).1 ∧ (bs.getD j (0, 0)).1 < (j : Int) ∧ (bs.getD j (0, 0)).1 ≤ (i : Int) ∧ 0 ≤ (bs.getD j (0, 0)).2 ∧ (bs.getD j (0, 0)).2 < 100 ∧ ws.getD j [] = ws.getD (bs.getD j (0, 0)).1.toNat [] ++ [ltr (bs.getD j (0, 0)).2.toNat]) ∧ bs.getD 0 (0, 0) = (-1, 0) ∧ ws.getD 0 [] = [] ∧ 0 < bs.length
theorem Bk.mono {bs : List (Int × Int)} {ws : List (List UInt8)} {i j : Nat} (h : Bk bs ws i) (hij : i ≤ j) : Bk bs ws j :=
  ⟨h.1, fun k h0 hk => by have := h.2.1 k h0 hk; exact ⟨this.1, this.2.1, by omega, this.2.2.2⟩, h.2.2⟩
theorem getD_appL {β : Type} {xs ys : List β} {d : β} {i : Nat} (h : i < xs.length) : (xs ++ ys).getD i d = xs.getD i d := by
  rw [List.getD_eq_getElem?_getD, List.getD_eq_getElem?_getD, List.getElem?_append_left h]
theorem getD_appR {β : Type} {xs : List β} {y d : β} : (xs ++ [y]).getD xs.length d = y := by
  simp [List.getD_eq_getElem?_getD]
theorem Bk.snoc {bs : List (Int × Int)} {ws : List (List UInt8)} {i x : Nat} (h : Bk bs ws i) (hi : i < bs.length) (hx : x < 100) : Bk (bs ++ [((i : Int), (x : Int))]) (ws ++ [ws.getD i [] ++ [ltr x]]) i := by
  obtain ⟨h1, h2, h3, h4, h5⟩ := h
  refine ⟨by simp [h1], ?_, by rw [getD_appL h5]; exact h3, by rw [getD_appL (by omega)]; exact h4, by simp⟩
  intro j h0 hj
  rw [List.length_append, List.length_cons, List.length_nil] at hj
  by_cases hjl : j < bs.length
  · rw [getD_appL hjl, getD_appL (by omega)]
    obtain ⟨g1, g2, g3, g4, g5, g6⟩ := h2 j h0 hjl
    refine ⟨g1, g2, g3, g4, g5, ?_⟩
    rw [getD_appL (by omega)]; exact g6
  · have e : j = bs.length := by omega
    have e2 : j = ws.length := by omega
    have eb : (bs ++ [((i : Int), (x : Int))]).getD j (0, 0) = ((i : Int), (x : Int)) := by rw [e]; exact getD_appR
    have ew : (ws ++ [ws.getD i [] ++ [ltr x]]).getD j [] = ws.getD i [] ++ [ltr x] := by rw [e2]; exact getD_appR
    rw [eb, ew]
    refine ⟨by dsimp only; omega, by dsimp only; omega, Int.le_refl _, by dsimp only; omega, by dsimp only; omega, ?_⟩
    dsimp only
    rw [Int.toNat_natCast, Int.toNat_natCast, getD_appL (by omega)]
theorem exRb_bk {q : α} {i : Nat} {l : List α} {bs : List (Int × Int)} {ws : List (List UInt8)} (h : Bk bs ws i) (hi : i < bs.length) (hl : bs.length = l.length) : ∀ k, k ≤ 100 → Bk (exRb f q i l bs k) (exRw f q (ws.getD i []) l ws k) i ∧ i < (exRb f q i l bs k).length ∧ (exRw f q (ws.getD i []) l ws k).getD i [] = ws.getD i []
  | 0, _ => ⟨h, hi, rfl⟩
  | k + 1, hk => by
    obtain ⟨h1, h2, h3⟩ := exRb_bk h hi hl k (by omega)
    simp only [exRb, exRw]
    split
    · exact ⟨h1, h2, h3⟩
    · refine ⟨?_, by rw [List.length_append]; omega, by rw [getD_appL (by have := h1.1; omega)]; exact h3⟩
      have := h1.snoc h2 (x := k) (by omega)
      rw [h3] at this; exact this
theorem exIb_bk (hL : L ≤ 100) : ∀ i, Bk (exIb f L s z i) (exIw f L s z i) i
  | 0 => ⟨rfl, fun j h0 hj => by simp [exIb] at hj; omega, rfl, rfl, by simp [exIb]⟩
  | i + 1 => by
    have ih := exIb_bk hL i
    by_cases hi : i < (exI f L s z i).length
    · rw [exIb_next hi, exIw_next hi]
      exact ((exRb_bk ih (by rw [exIb_len]; exact hi) (exIb_len i) L hL).1).mono (by omega)
    · have e1 : exIb f L s z (i + 1) = exIb f L s z i := by simp only [exIb]; rw [if_neg hi]
      have e2 := exIw_stop (f := f) (L := L) (s := s) (z := z) (n := i) (by omega) 1
      rw [e1, e2]; exact ih.mono (by omega)
end
end Go.Sx
