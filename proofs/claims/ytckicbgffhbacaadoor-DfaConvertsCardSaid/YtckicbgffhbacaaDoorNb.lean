import Derived.Test.YtckicbgffhbacaaDoorNa
import Derived.Lib.TrailingZeros
set_option linter.unusedVariables false
set_option linter.unusedSimpArgs false
namespace Go.Sx
open Go.RowKit
/-! ### members of a set -/
def memF (s : W64) (i : Nat) : Nat → List Nat
  | 0 => []
  | f + 1 => if s.getLsbD i = true then i :: memF s (i + 1) f else memF s (i + 1) f
/-- the members, ascending -/
def mems (s : W64) : List Nat := memF s 0 64
theorem memF_congr {s t : W64} : ∀ (f i : Nat), (∀ j, i ≤ j → j < i + f → s.getLsbD j = t.getLsbD j) → memF s i f = memF t i f
  | 0, _, _ => rfl
  | f + 1, i, h => by
    have h1 := h i (Nat.le_refl _) (by omega)
    have h2 := memF_congr f (i + 1) (fun j h3 h4 => h j (by omega) (by omega))
    show (if s.getLsbD i = true then _ else _) = if t.getLsbD i = true then _ else _
    rw [h1, h2]
theorem memF_skip {s : W64} : ∀ (k i f : Nat), (∀ j, i ≤ j → j < i + k → s.getLsbD j = false) → memF s i (k + f) = memF s (i + k) f
  | 0, i, f, _ => by simp
  | k + 1, i, f, h => by
    rw [show k + 1 + f = (k + f) + 1 by omega]
    show (if s.getLsbD i = true then _ else _) = _
    rw [h i (Nat.le_refl _) (by omega)]
    have := memF_skip k (i + 1) f (fun j h1 h2 => h j (by omega) (by omega))
    rw [if_neg (by decide), this]; congr 1; omega
theorem memF_mem {s : W64} : ∀ (f i j : Nat), j ∈ memF s i f ↔ (i ≤ j ∧ j < i + f ∧ s.getLsbD j = true)
  | 0, i, j => by simp [memF]; omega
  | f + 1, i, j => by
    have ih := memF_mem (s := s) f (i + 1) j
    show j ∈ (if s.getLsbD i = true then i :: memF s (i + 1) f else memF s (i + 1) f) ↔ _
    split
    · rename_i h
      rw [List.mem_cons, ih]
      constructor
      · rintro (rfl | ⟨h1, h2, h3⟩)
        · exact ⟨Nat.le_refl _, by omega, h⟩
        · exact ⟨by omega, by omega, h3⟩
      · rintro ⟨h1, h2, h3⟩
        by_cases e : j = i
        · exact .inl e
        · exact .inr ⟨by omega, by omega, h3⟩
    · rename_i h
      rw [ih]
      constructor
      · rintro ⟨h1, h2, h3⟩; exact ⟨by omega, by omega, h3⟩
      · rintro ⟨h1, h2, h3⟩
        refine ⟨?_, by omega, h3⟩
        by_cases e : j = i
        · subst e; exact absurd h3 h
        · omega
theorem mem_mems {s : W64} {j : Nat} : j ∈ mems s ↔ s.getLsbD j = true := by
  unfold mems
  rw [memF_mem]
  constructor
  · exact fun h => h.2.2
  · intro h
    refine ⟨Nat.zero_le _, ?_, h⟩
    apply Classical.byContradiction
    intro hc
    rw [BitVec.getLsbD_of_ge s j (by omega)] at h; cases h
theorem mems_len (s : W64) : (mems s).length ≤ 64 := by
  have : ∀ f i, (memF s i f).length ≤ f := by
    intro f
    induction f with
    | zero => intro i; exact Nat.le_refl _
    | succ f ih =>
      intro i
      have := ih (i + 1)
      show (if s.getLsbD i = true then _ else _ : List Nat).length ≤ _
      split
      · simp; omega
      · omega
  exact this 64 0
theorem mems_zero : mems 0 = [] := by decide
theorem low_bits {s : W64} (h : s ≠ 0) : Lib.ctz 64 s.toNat < 64 ∧ s.getLsbD (Lib.ctz 64 s.toNat) = true ∧ (∀ i, i < Lib.ctz 64 s.toNat → s.getLsbD i = false) ∧ ∀ i, i < 64 → (s &&& (s - 1)).getLsbD i = (s.getLsbD i && decide (i ≠ Lib.ctz 64 s.toNat)) := by
  have h0 : s.toNat ≠ 0 := fun e => h (BitVec.eq_of_toNat_eq (by rw [e]; rfl))
  obtain ⟨m, hm, hc⟩ := Lib.ctzFrom_spec 64 s.toNat (by omega) s.isLt
  have e : Lib.ctz 64 s.toNat = Lib.ctzFrom 64 s.toNat := if_neg h0
  rw [e]
  generalize Lib.ctzFrom 64 s.toNat = c at hm hc
  have hb : ∀ i, s.getLsbD i = if i < c then false else (2 * m + 1).testBit (i - c) := fun i => by
    rw [← BitVec.testBit_toNat, hm]
    have := Nat.testBit_two_pow_mul_add (2 * m + 1) (b := 0) (i := c) (Nat.pow_pos (by omega)) i
    rw [Nat.add_zero] at this
    rw [this]
    split
    · exact Nat.zero_testBit i
    · rfl
  have hpos : 0 < 2 ^ c := Nat.pow_pos (by omega)
  have hs1 : (s - 1).toNat = 2 ^ c * (2 * m) + (2 ^ c - 1) := by
    rw [BitVec.toNat_sub]
    have h1 : (1 : W64).toNat = 1 := by decide
    have h2 := s.isLt
    have h3 : 2 ^ c * (2 * m + 1) = 2 ^ c * (2 * m) + 2 ^ c := by rw [Nat.mul_add, Nat.mul_one]
    rw [h1]; omega
  have hb1 : ∀ i, (s - 1).getLsbD i = if i < c then true else (2 * m).testBit (i - c) := fun i => by
    rw [← BitVec.testBit_toNat, hs1]
    have := Nat.testBit_two_pow_mul_add (2 * m) (b := 2 ^ c - 1) (i := c) (by omega) i
    rw [this]
    split
    · rw [Nat.testBit_two_pow_sub_one]; simp; omega
    · rfl
  refine ⟨hc, ?_, fun i hi => ?_, fun i hi => ?_⟩
  · rw [hb, if_neg (by omega), Nat.sub_self]; simp
  · rw [hb, if_pos hi]
  · rw [BitVec.getLsbD_and, hb, hb1]
    by_cases h1 : i < c
    · rw [if_pos h1]; simp
    · rw [if_neg h1, if_neg h1]
      by_cases h2 : i = c
      · subst h2; simp
      · have h3 : i - c = (i - c - 1) + 1 := by omega
        rw [h3, Nat.testBit_succ, Nat.testBit_succ]
        have e1 : (2 * m + 1) / 2 = m := by omega
        have e2 : 2 * m / 2 = m := by omega
        rw [e1, e2]; simp [h2]
theorem mems_next {s : W64} (h : s ≠ 0) : mems s = Lib.ctz 64 s.toNat :: mems (s &&& (s - 1)) := by
  obtain ⟨h1, h2, h3, h4⟩ := low_bits h
  generalize Lib.ctz 64 s.toNat = c at h1 h2 h3 h4
  unfold mems
  obtain ⟨f, hf⟩ : ∃ f, 64 = c + (f + 1) := ⟨63 - c, by omega⟩
  rw [congrArg (memF s 0) hf, congrArg (memF (s &&& (s - 1)) 0) hf, memF_skip c 0 (f + 1) (fun j _ hj => h3 j (by omega)), memF_skip c 0 (f + 1) (fun j _ hj => by rw [h4 j (by omega), h3 j (by omega)]; rfl)]
  show (if s.getLsbD (0 + c) = true then _ else _) = _ :: (if (s &&& (s - 1)).getLsbD (0 + c) = true then _ else _)
  rw [Nat.zero_add, h2, if_pos rfl, h4 c h1]
  simp only [ne_eq, not_true_eq_false, decide_false, Bool.and_false, Bool.false_eq_true, if_false]
  congr 1
  refine memF_congr _ _ fun j k1 k2 => ?_
  rw [h4 j (by omega), decide_eq_true (show j ≠ c by omega), Bool.and_true]
/-! ### steps -/
def bit (j : Int) : W64 := (1 : W64) <<< j.toNat
theorem bit_get {j : Int} (hj : 0 ≤ j ∧ j < 64) (i : Nat) : (bit j).getLsbD i = decide ((i : Int) = j) := by
  obtain ⟨m, rfl⟩ := Int.eq_ofNat_of_zero_le hj.1
  unfold bit
  rw [Int.toNat_natCast, BitVec.getLsbD_shiftLeft]
  have h1 : ∀ k, (1 : W64).getLsbD k = decide (k = 0) := fun k => by
    rw [show (1 : W64) = BitVec.ofNat 64 1 from rfl, BitVec.getLsbD_ofNat]
    by_cases hk : k = 0
    · subst hk; decide
    · have : Nat.testBit 1 k = false := by
        obtain ⟨q, rfl⟩ := Nat.exists_eq_succ_of_ne_zero hk
        rw [Nat.testBit_succ]; simp
      rw [this]; simp [hk]
  rw [h1]
  by_cases h : i = m
  · subst h
    have h2 : i < 64 := by omega
    simp [h2]
  · rw [decide_eq_false (show ¬ (i : Int) = (m : Int) by omega)]
    by_cases h2 : i < m
    · simp [h2]
    · have h3 : ¬ i - m = 0 := by omega
      simp [h3]
def has (s : W64) (j : Int) : Bool := s.getLsbD j.toNat
theorem has_shr (s : W64) (j : Nat) : (decide ((s >>> j) &&& 1 = 1)) = s.getLsbD j := by
  have h1 : ((s >>> j) &&& 1).toNat = if s.getLsbD j = true then 1 else 0 := by
    rw [BitVec.toNat_and, BitVec.toNat_ushiftRight]
    have e : (1 : W64).toNat = 1 := by decide
    rw [e, Nat.and_one_is_mod, Nat.shiftRight_eq_div_pow, ← BitVec.testBit_toNat, Nat.testBit_eq_decide_div_mod_eq]
    have := Nat.mod_lt (s.toNat / 2 ^ j) (show 0 < 2 by omega)
    split
    · rename_i h; simpa using h
    · rename_i h
      have h' : ¬ s.toNat / 2 ^ j % 2 = 1 := by simpa using h
      omega
  cases hb : s.getLsbD j with
  | true =>
    rw [hb, if_pos rfl] at h1
    exact decide_eq_true (BitVec.eq_of_toNat_eq (by rw [h1]; rfl))
  | false =>
    rw [hb, if_neg (by decide)] at h1
    refine decide_eq_false fun e => ?_
    rw [e] at h1
    exact absurd h1 (by decide)
def stpK (es : List Edg) (s : W64) (x : Int) : Nat → W64
  | 0 => 0
  | k + 1 => let e := es.getD k (0, 0, 0); if e.2.1 = x ∧ has s e.1 = true then stpK es s x k ||| bit e.2.2 else stpK es s x k
def stpN (n : Nfa) (s : W64) (x : Int) : W64 := stpK n.es s x n.es.length
def rowE (es : List Edg) (x q : Int) : Nat → W64
  | 0 => 0
  | k + 1 => let e := es.getD k (0, 0, 0); if e.2.1 = x ∧ e.1 = q then rowE es x q k ||| bit e.2.2 else rowE es x q k
def rowN (n : Nfa) (x q : Int) : W64 := rowE n.es x q n.es.length
theorem stpK_get {es : List Edg} {s : W64} {x : Int} {i : Nat} : ∀ k, (∀ j, j < k → 0 ≤ (es.getD j (0, 0, 0)).2.2 ∧ (es.getD j (0, 0, 0)).2.2 < 64) → ((stpK es s x k).getLsbD i = true ↔ ∃ j, j < k ∧ (es.getD j (0, 0, 0)).2.1 = x ∧ has s (es.getD j (0, 0, 0)).1 = true ∧ (i : Int) = (es.getD j (0, 0, 0)).2.2)
  | 0, _ => by simp [stpK]
  | k + 1, h => by
    have ih := stpK_get (es := es) (s := s) (x := x) (i := i) k (fun j hj => h j (by omega))
    show ((if _ then _ else _ : W64).getLsbD i = true) ↔ _
    split
    · rename_i hc
      rw [BitVec.getLsbD_or, Bool.or_eq_true, ih, bit_get (h k (by omega)), decide_eq_true_eq]
      constructor
      · rintro (⟨j, h1, h2⟩ | h1)
        · exact ⟨j, by omega, h2⟩
        · exact ⟨k, by omega, hc.1, hc.2, h1⟩
      · rintro ⟨j, h1, h2, h3, h4⟩
        by_cases e : j = k
        · subst e; exact .inr h4
        · exact .inl ⟨j, by omega, h2, h3, h4⟩
    · rename_i hc
      rw [ih]
      constructor
      · rintro ⟨j, h1, h2⟩; exact ⟨j, by omega, h2⟩
      · rintro ⟨j, h1, h2, h3, h4⟩
        refine ⟨j, ?_, h2, h3, h4⟩
        by_cases e : j = k
        · subst e; exact absurd ⟨h2, h3⟩ hc
        · omega
theorem rowE_get {es : List Edg} {x q : Int} {i : Nat} : ∀ k, (∀ j, j < k → 0 ≤ (es.getD j (0, 0, 0)).2.2 ∧ (es.getD j (0, 0, 0)).2.2 < 64) → ((rowE es x q k).getLsbD i = true ↔ ∃ j, j < k ∧ (es.getD j (0, 0, 0)).2.1 = x ∧ (es.getD j (0, 0, 0)).1 = q ∧ (i : Int) = (es.getD j (0, 0, 0)).2.2)
  | 0, _ => by simp [rowE]
  | k + 1, h => by
    have ih := rowE_get (es := es) (x := x) (q := q) (i := i) k (fun j hj => h j (by omega))
    show ((if _ then _ else _ : W64).getLsbD i = true) ↔ _
    split
    · rename_i hc
      rw [BitVec.getLsbD_or, Bool.or_eq_true, ih, bit_get (h k (by omega)), decide_eq_true_eq]
      constructor
      · rintro (⟨j, h1, h2⟩ | h1)
        · exact ⟨j, by omega, h2⟩
        · exact ⟨k, by omega, hc.1, hc.2, h1⟩
      · rintro ⟨j, h1, h2, h3, h4⟩
        by_cases e : j = k
        · subst e; exact .inr h4
        · exact .inl ⟨j, by omega, h2, h3, h4⟩
    · rename_i hc
      rw [ih]
      constructor
      · rintro ⟨j, h1, h2⟩; exact ⟨j, by omega, h2⟩
      · rintro ⟨j, h1, h2, h3, h4⟩
        refine ⟨j, ?_, h2, h3, h4⟩
        by_cases e : j = k
        · subst e; exact absurd ⟨h2, h3⟩ hc
        · omega
/-- the union of the rows of some members -/
def imgL (r : List W64) (acc : W64) : List Nat → W64
  | [] => acc
  | i :: l => imgL r (acc ||| r.getD i 0) l
theorem imgL_get {r : List W64} {b : Nat} : ∀ (l : List Nat) (acc : W64), ((imgL r acc l).getLsbD b = true ↔ acc.getLsbD b = true ∨ ∃ i, i ∈ l ∧ (r.getD i 0).getLsbD b = true)
  | [], acc => by simp [imgL]
  | i :: l, acc => by
    show (imgL r (acc ||| r.getD i 0) l).getLsbD b = true ↔ _
    rw [imgL_get l, BitVec.getLsbD_or, Bool.or_eq_true]
    constructor
    · rintro ((h | h) | ⟨j, h1, h2⟩)
      · exact .inl h
      · exact .inr ⟨i, by simp, h⟩
      · exact .inr ⟨j, by simp [h1], h2⟩
    · rintro (h | ⟨j, h1, h2⟩)
      · exact .inl (.inl h)
      · rcases List.mem_cons.1 h1 with rfl | h1
        · exact .inl (.inr h2)
        · exact .inr ⟨j, h1, h2⟩
def rowsN (n : Nfa) (x : Int) : List W64 := (List.range n.S.toNat).map fun (q : Nat) => rowN n x (q : Int)
def imgN (r : List W64) (s : W64) : W64 := imgL r 0 (mems (s &&& below (r.length : Int)))
theorem img_step {n : Nfa} (hv : VN n) (s : W64) (x : Int) : imgN (rowsN n x) s = stpN n s x := by
  have hS := hv.S
  have hlen : ((rowsN n x).length : Int) = n.S := by simp [rowsN]; omega
  have hto : ∀ j, j < n.es.length → 0 ≤ (n.es.getD j (0, 0, 0)).2.2 ∧ (n.es.getD j (0, 0, 0)).2.2 < 64 := fun j hj => by have := hv.edge hj; omega
  apply BitVec.eq_of_getLsbD_eq
  intro i hi
  rw [Bool.eq_iff_iff]
  unfold imgN stpN
  rw [imgL_get, stpK_get _ hto]
  constructor
  · rintro (h | ⟨q, h1, h2⟩)
    · simp at h
    · rw [mem_mems, BitVec.getLsbD_and, Bool.and_eq_true, hlen] at h1
      have hq : q < n.S.toNat := by
        apply Classical.byContradiction
        intro hc
        have h3 := h1.2
        rcases Nat.lt_or_ge q 64 with h4 | h4
        · rw [below_bit hS q h4] at h3
          have := of_decide_eq_true h3
          omega
        · rw [BitVec.getLsbD_of_ge _ _ h4] at h3; cases h3
      have e : (rowsN n x).getD q 0 = rowN n x (q : Int) := by simp [rowsN, List.getD_eq_getElem?_getD, hq]
      rw [e] at h2
      obtain ⟨j, k1, k2, k3, k4⟩ := (rowE_get _ hto).1 h2
      refine ⟨j, k1, k2, ?_, k4⟩
      unfold has
      rw [k3, Int.toNat_natCast]; exact h1.1
  · rintro ⟨j, h1, h2, h3, h4⟩
    have he := hv.edge h1
    refine .inr ⟨(n.es.getD j (0, 0, 0)).1.toNat, ?_, ?_⟩
    · rw [mem_mems, BitVec.getLsbD_and, Bool.and_eq_true, hlen]
      refine ⟨h3, ?_⟩
      rw [below_bit hS _ (by omega)]
      exact decide_eq_true (by omega)
    · have e : ∀ q : Nat, q < n.S.toNat → (rowsN n x).getD q 0 = rowN n x (q : Int) := fun q hq => by simp [rowsN, List.getD_eq_getElem?_getD, hq]
      rw [e _ (show (n.es.getD j (0, 0, 0)).1.toNat < n.S.toNat by omega)]
      exact (rowE_get _ hto).2 ⟨j, h1, h2, by omega, h4⟩
end Go.Sx
