import Derived.Test.YtoikhoniogicdaaDh
set_option linter.unusedVariables false
namespace Go.Sx
/-! ### products -/
section
variable {α : Type} [DecidableEq α]
def genD (Lv : Int) (L : Nat) (xs : List α) (f : α → Nat → α) (g : α → Bool) : Dfa := ⟨Lv, 0, xs.map g, xs.map fun q => (List.range L).map fun x => ((posN xs (f q x) : Nat) : Int)⟩
theorem gen_is {f : α → Nat → α} {L : Nat} {s z : α} {U : List α} {g : α → Bool} (Lv : Int) (hs : s ∈ U) (hf : ∀ q ∈ U, ∀ x, x < L → f q x ∈ U) {n : Nat} (h : n = (exI f L s z n).length) :
    exI f L s z n = exI f L s z U.length ∧ (⟨Lv, 0, exG f L s z g n, exN f L s z n⟩ : Dfa) = genD Lv L (exI f L s z U.length) f g := by
  have h2 := (exI_final hs hf h).1.symm
  refine ⟨h2, ?_⟩
  have h3 := exI_all h
  have hn : n = (exI f L s z U.length).length := by rw [← h2]; exact h
  rw [exG_pos h3 n (Nat.le_refl n), exN_pos h3 n (Nat.le_refl n), h2]
  unfold genD
  conv => lhs; rw [hn]
  rw [map_range_getD z g, map_range_getD z (fun q => (List.range L).map fun x => ((posN (exI f L s z U.length) (f q x) : Nat) : Int))]
theorem gen_exists {f : α → Nat → α} {L : Nat} {s z : α} {U : List α} (hs : s ∈ U) (hf : ∀ q ∈ U, ∀ x, x < L → f q x ∈ U) : ∃ n, n = (exI f L s z n).length := by
  apply Classical.byContradiction
  intro hno
  have hall : ∀ i, i ≤ (exI f L s z i).length := by
    intro i
    induction i with
    | zero => exact Nat.zero_le _
    | succ i ih =>
      have : i < (exI f L s z i).length := Nat.lt_of_le_of_ne ih (fun e => hno ⟨i, e⟩)
      obtain ⟨ys, e⟩ := exI_pre f L s z i
      rw [e, List.length_append]; omega
  have h1 := hall (U.length + 1)
  have h2 := exI_bd (z := z) hs hf (U.length + 1)
  omega
theorem gen_closed {f : α → Nat → α} {L : Nat} {s z : α} {U : List α} (hs : s ∈ U) (hf : ∀ q ∈ U, ∀ x, x < L → f q x ∈ U) {q : α} (hq : q ∈ exI f L s z U.length) {x : Nat} (hx : x < L) : f q x ∈ exI f L s z U.length := by
  obtain ⟨n, hn⟩ := gen_exists (z := z) hs hf
  have h2 := (exI_final hs hf hn).1.symm
  rw [← h2] at hq ⊢
  obtain ⟨i, hi, e⟩ := mem_getD z hq
  have h3 := exI_all hn
  have hin : i < n := by omega
  have h1 := h3 i hin
  obtain ⟨ys, h4⟩ := exI_mono f L s z i (n - i)
  rw [show i + (n - i) = n by omega] at h4
  have hq' : (exI f L s z i).getD i z = q := by rw [← getD_app z h1 (ys := ys), ← h4]; exact e
  obtain ⟨zs, h5⟩ := exI_mono f L s z (i + 1) (n - (i + 1))
  rw [show i + 1 + (n - (i + 1)) = n by omega, exI_next h1, hq'] at h5
  rw [h5]
  apply List.mem_append_left
  have : ∀ k, x < k → f q x ∈ exR f q (exI f L s z i) k := by
    intro k
    induction k with
    | zero => intro h; omega
    | succ k ih =>
      intro h
      by_cases hxk : x = k
      · subst hxk; exact insN_mem _ _
      · exact insN_sub (ih (by omega))
  exact this _ hx
theorem gen_start {f : α → Nat → α} {L : Nat} {s z : α} : ∀ i, (exI f L s z i).getD 0 z = s ∧ s ∈ exI f L s z i
  | 0 => by simp [exI]
  | i + 1 => by
    obtain ⟨ys, e⟩ := exI_pre f L s z i
    obtain ⟨h1, h2⟩ := gen_start (f := f) (L := L) (s := s) (z := z) i
    rw [e]
    exact ⟨by rw [getD_app z (exI_ne f L s z i)]; exact h1, List.mem_append_left _ h2⟩
end
def stepP (a b : Dfa) (p : Int × Int) (x : Nat) : Int × Int := (stepQ a p.1 x, stepQ b p.2 x)
def byB (op : Int) (u v : Bool) : Bool := decide ((op / 2 ^ ((if u then 2 else 0) + (if v then 1 else 0) : Int).toNat) % 2 = 1)
def finP (a b : Dfa) (op : Int) (p : Int × Int) : Bool := byB op (finQ a p.1) (finQ b p.2)
def univ2 (m n : Nat) : List (Int × Int) := (univ m).flatMap fun i => (univ n).map fun j => (i, j)
theorem mem_univ2 {m n : Nat} {p : Int × Int} : p ∈ univ2 m n ↔ (0 ≤ p.1 ∧ p.1 < m) ∧ (0 ≤ p.2 ∧ p.2 < n) := by
  obtain ⟨i, j⟩ := p
  unfold univ2
  rw [List.mem_flatMap]
  constructor
  · rintro ⟨i', hi, hj⟩
    rw [List.mem_map] at hj
    obtain ⟨j', hj, e⟩ := hj
    cases e
    exact ⟨mem_univ.1 hi, mem_univ.1 hj⟩
  · rintro ⟨h1, h2⟩
    exact ⟨i, mem_univ.2 h1, List.mem_map.2 ⟨j, mem_univ.2 h2, rfl⟩⟩
theorem univ2_len (m n : Nat) : (univ2 m n).length = m * n := by
  unfold univ2
  rw [List.length_flatMap]
  simp only [List.length_map, univ_len]
  rw [List.map_const']
  simp [univ_len]
theorem step_univ2 {a b : Dfa} (ha : VD a) (hb : VD b) (hL : a.L = b.L) : ∀ p ∈ univ2 a.fin.length b.fin.length, ∀ x, x < a.L.toNat → stepP a b p x ∈ univ2 a.fin.length b.fin.length := by
  intro p hp x hx
  rw [mem_univ2] at hp ⊢
  exact ⟨mem_univ.1 (step_univ ha p.1 (mem_univ.2 hp.1) x hx), mem_univ.1 (step_univ hb p.2 (mem_univ.2 hp.2) x (by omega))⟩
theorem start_univ2 {a b : Dfa} (ha : VD a) (hb : VD b) : (a.s, b.s) ∈ univ2 a.fin.length b.fin.length := mem_univ2.2 ⟨ha.s, hb.s⟩
def PSt (a b : Dfa) : List (Int × Int) := exI (stepP a b) a.L.toNat (a.s, b.s) (0, 0) (univ2 a.fin.length b.fin.length).length
def prodD (a b : Dfa) (op : Int) : Dfa := genD a.L a.L.toNat (PSt a b) (stepP a b) (finP a b op)
def pairE (a b : Dfa) : Int := if errV a ≠ 0 then errV a else if errV b ≠ 0 then errV b else if a.L ≠ b.L then 1 else 0
def prodE (a b : Dfa) (op : Int) : Int := if pairE a b ≠ 0 then pairE a b else if op < 0 ∨ 15 < op then 1 else 0
def ProdV (a b : Dfa) (op : Int) : Dfa := if prodE a b op = 0 then prodD a b op else nilD
theorem prodE_zero {a b : Dfa} {op : Int} (h : prodE a b op = 0) : VD a ∧ VD b ∧ a.L = b.L ∧ 0 ≤ op ∧ op ≤ 15 := by
  unfold prodE pairE at h
  rw [← errV_iff, ← errV_iff]
  by_cases h1 : errV a = 0 <;> by_cases h2 : errV b = 0 <;> by_cases h3 : a.L = b.L <;> by_cases h4 : op < 0 ∨ 15 < op <;> simp_all <;> omega
theorem prodE_mk {a b : Dfa} {op : Int} (ha : VD a) (hb : VD b) (hL : a.L = b.L) (ho : 0 ≤ op ∧ op ≤ 15) : prodE a b op = 0 := by
  unfold prodE pairE
  simp only [(errV_iff a).2 ha, (errV_iff b).2 hb, hL, ne_eq, not_true_eq_false, if_false]
  rw [if_neg (by omega)]
end Go.Sx
namespace Go.Sx
theorem div_bd {op : Int} (ho : 0 ≤ op ∧ op ≤ 15) (k : Nat) : 0 ≤ op / 2 ^ k ∧ op / 2 ^ k ≤ 9223372036854775807 := by
  have h1 : (0 : Int) ≤ op / 2 ^ k := Int.ediv_nonneg ho.1 (Int.pow_nonneg (by decide))
  have h2 := Int.ediv_le_self (2 ^ k) ho.1
  omega
end Go.Sx
