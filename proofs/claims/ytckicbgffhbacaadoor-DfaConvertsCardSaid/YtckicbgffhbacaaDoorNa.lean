import Derived.Test.YtckicbgffhbacaaDoorSu
set_option linter.unusedVariables false
set_option linter.unusedSimpArgs false
namespace Go.Sx
open Go.RowKit
/-! ### nondeterministic automata -/
abbrev Edg := Int × Int × Int
def ecs (e : Edg) : List Value := [.int .i64 e.1, .int .i64 e.2.1, .int .i64 e.2.2]
def ev (e : Edg) : Value := .agg #[.int .i64 e.1, .int .i64 e.2.1, .int .i64 e.2.2]
def edc (es : List Edg) : List Value := es.flatMap ecs
theorem edc_length (l : List Edg) : (edc l).length = l.length * 3 := by
  induction l with
  | nil => rfl
  | cons p ps ih => simp only [edc, ecs, List.flatMap_cons, List.length_append, List.length_cons, List.length_nil] at ih ⊢; omega
theorem edc_append (a b : List Edg) : edc (a ++ b) = edc a ++ edc b := by simp [edc]
theorem edc_snoc (l : List Edg) (e : Edg) : edc (l ++ [e]) = edc l ++ ecs e := by simp [edc]
theorem edc_at (ps : List Edg) (j : Nat) (h : j < ps.length) : ((edc ps).drop (j * 3)).take 3 = ecs (ps.getD j (0, 0, 0)) := by
  have h1 : ps = ps.take j ++ ps.getD j (0, 0, 0) :: ps.drop (j + 1) := by
    rw [List.getD_eq_getElem?_getD, List.getElem?_eq_getElem h, Option.getD_some, List.getElem_cons_drop, List.take_append_drop]
  have h2 : (edc (ps.take j)).length = j * 3 := by rw [edc_length, List.length_take]; omega
  conv => lhs; rw [h1]
  rw [edc_append, ← h2, List.drop_left]
  simp [edc, ecs]
theorem ecs_one (c : Edg) : one' (ecs c) := by
  intro u hu
  simp only [ecs, List.mem_cons, List.not_mem_nil, or_false] at hu
  rcases hu with rfl | rfl | rfl <;> rfl
structure Nfa where
  L : Int
  S : Int
  st : W64
  fi : W64
  es : List Edg
def RdN (F : Nat → Prop) (w : World) (v : Value) (n : Nfa) : Prop := ∃ vE, v = .agg #[.int .i64 n.L, .int .i64 n.S, uv n.st, uv n.fi, vE] ∧ Rd (fun b => ¬ F b) w vE 3 n.es.length (edc n.es)
theorem RdN.at {C : Cx} {on : List Asn} {w : World} {v : Value} {n : Nfa} (h : RdN C.S C.W0 v n) (hw : HW C on w) : RdN (fun _ => False) w v n := by
  obtain ⟨vE, h1, h2⟩ := h
  exact ⟨vE, h1, Rd.keep h2 hw.frame (fun _ _ _ => id)⟩
/-- the set of the first n points -/
def below (n : Int) : W64 := ((1 : W64) <<< n.toNat) - 1
theorem below_bit {n : Int} (hn : 0 ≤ n ∧ n ≤ 64) (i : Nat) (hi : i < 64) : (below n).getLsbD i = decide ((i : Int) < n) := by
  obtain ⟨m, rfl⟩ := Int.eq_ofNat_of_zero_le hn.1
  have hm : m ≤ 64 := by omega
  unfold below
  rw [Int.toNat_natCast]
  have e : (1 : W64) <<< m - 1 = BitVec.ofNat 64 (2 ^ m - 1) := by
    apply BitVec.eq_of_toNat_eq
    rw [BitVec.toNat_sub, BitVec.toNat_shiftLeft, BitVec.toNat_ofNat]
    have h1 : (1 : W64).toNat = 1 := by decide
    rw [h1, Nat.shiftLeft_eq, Nat.one_mul]
    have h2 : 2 ^ m ≤ 2 ^ 64 := Nat.pow_le_pow_right (by omega) hm
    have h3 : 0 < 2 ^ m := Nat.pow_pos (by omega)
    by_cases hk : m = 64
    · subst hk; decide
    · have h4 : 2 ^ m < 2 ^ 64 := Nat.pow_lt_pow_right (by omega) (by omega)
      rw [Nat.mod_eq_of_lt h4]
      omega
  rw [e, BitVec.getLsbD_ofNat, Nat.testBit_two_pow_sub_one]
  simp [hi]
def badB (n : Nfa) (k : Nat) : Bool :=
  let e := n.es.getD k (0, 0, 0)
  decide (e.1 < 0 ∨ e.1 ≥ n.S ∨ e.2.2 < 0 ∨ e.2.2 ≥ n.S ∨ e.2.1 < 0 ∨ e.2.1 ≥ n.L)
def bef (a b : Edg) : Bool := if a.1 ≠ b.1 then decide (a.1 < b.1) else if a.2.1 ≠ b.2.1 then decide (a.2.1 < b.2.1) else decide (a.2.2 < b.2.2)
def badE (n : Nfa) (k : Nat) : Bool := badB n k || (decide (0 < k) && !bef (n.es.getD (k - 1) (0, 0, 0)) (n.es.getD k (0, 0, 0)))
def errN (n : Nfa) : Int :=
  if ¬ (1 ≤ n.L ∧ n.L ≤ 6) ∨ n.S < 0 ∨ n.S > 64 then 1
  else if (n.st ||| n.fi) &&& ~~~(below n.S) ≠ 0 then 4
  else if (List.range n.es.length).any (badE n) then 4 else 0
structure VN (n : Nfa) : Prop where
  L : 1 ≤ n.L ∧ n.L ≤ 6
  S : 0 ≤ n.S ∧ n.S ≤ 64
  st : (n.st ||| n.fi) &&& ~~~(below n.S) = 0
  ed : ∀ k, k < n.es.length → badE n k = false
theorem errN_iff {n : Nfa} : errN n = 0 ↔ VN n := by
  unfold errN
  constructor
  · intro h
    split at h
    · cases h
    · split at h
      · cases h
      · split at h
        · cases h
        · rename_i h1 h2 h3
          refine ⟨by omega, by omega, Decidable.not_not.1 h2, fun k hk => ?_⟩
          rw [Bool.not_eq_true, List.any_eq_false] at h3
          have := h3 k (List.mem_range.2 hk)
          simpa using this
  · intro h
    have h1 := h.L; have h2 := h.S
    rw [if_neg (by omega), if_neg (fun k => k h.st), if_neg]
    rw [Bool.not_eq_true, List.any_eq_false]
    intro k hk
    rw [h.ed k (List.mem_range.1 hk)]; decide
theorem VN.edge {n : Nfa} (h : VN n) {k : Nat} (hk : k < n.es.length) : 0 ≤ (n.es.getD k (0, 0, 0)).1 ∧ (n.es.getD k (0, 0, 0)).1 < n.S ∧ 0 ≤ (n.es.getD k (0, 0, 0)).2.1 ∧ (n.es.getD k (0, 0, 0)).2.1 < n.L ∧ 0 ≤ (n.es.getD k (0, 0, 0)).2.2 ∧ (n.es.getD k (0, 0, 0)).2.2 < n.S := by
  have := h.ed k hk
  unfold badE at this
  rw [Bool.or_eq_false_iff] at this
  have h1 := this.1
  unfold badB at h1
  have h2 := of_decide_eq_false h1
  omega
end Go.Sx
