import Derived.Test.YtaeojcaidcjnaaaRk
set_option linter.unusedVariables false
set_option linter.unusedSimpArgs false
namespace Go.Sx
open Go.RowKit
/-! ### critical pairs -/
abbrev Crit := Wrd × Wrd × Wrd
def ccs (c : Crit) : List Value := [sv c.1, sv c.2.1, sv c.2.2]
def cv (c : Crit) : Value := .agg #[sv c.1, sv c.2.1, sv c.2.2]
def up (P : Nat → Bool) (f : Nat → Crit) : Nat → List Crit
  | 0 => []
  | n + 1 => up P f n ++ if P n = true then [f n] else []
theorem up_yes {P : Nat → Bool} {f : Nat → Crit} {n : Nat} (h : P n = true) : up P f (n + 1) = up P f n ++ [f n] := by simp [up, h]
theorem up_no {P : Nat → Bool} {f : Nat → Crit} {n : Nat} (h : P n = false) : up P f (n + 1) = up P f n := by simp [up, h]
theorem up_skip {P : Nat → Bool} {f : Nat → Crit} {o : Nat} : ∀ (k : Nat), (∀ p, o ≤ p → p < o + k → P p = false) → up P f (o + k) = up P f o
  | 0, _ => rfl
  | k + 1, h => by
    show up P f (o + k + 1) = _
    rw [up_no (h (o + k) (by omega) (by omega)), up_skip k (fun p h1 h2 => h p h1 (by omega))]
theorem up_pre {P : Nat → Bool} {f : Nat → Crit} (n : Nat) : ∀ k, up P f n <+: up P f (n + k)
  | 0 => List.prefix_refl _
  | k + 1 => (up_pre n k).trans (List.prefix_append _ _)
def ovP (a b : Rul) (k : Nat) : Bool := decide (1 ≤ k) && decide (b.1.take k = a.1.drop (a.1.length - k))
def ovk (a b : Rul) (k : Nat) : Crit := (a.1 ++ b.1.drop k, a.2 ++ b.1.drop k, a.1.take (a.1.length - k) ++ b.2)
def ovl (a b : Rul) : List Crit := up (ovP a b) (ovk a b) (min a.1.length b.1.length)
def cnP (a b : Rul) (p : Nat) : Bool := b.1.isPrefixOf (a.1.drop p)
def cnk (a b : Rul) (p : Nat) : Crit := (a.1, a.2, a.1.take p ++ b.2 ++ a.1.drop (p + b.1.length))
def cnl (a b : Rul) : List Crit := up (cnP a b) (cnk a b) (a.1.length + 1)
theorem ovP_zero (a b : Rul) : ovP a b 0 = false := by simp [ovP]
theorem ovl_end {a b : Rul} {k : Nat} (h1 : 1 ≤ k) (h2 : k ≤ min a.1.length b.1.length ∨ k = 1) (h3 : ¬ k < min a.1.length b.1.length) : up (ovP a b) (ovk a b) k = ovl a b := by
  unfold ovl
  rcases h2 with h2 | h2
  · rw [show k = min a.1.length b.1.length by omega]
  · rcases (show min a.1.length b.1.length = 0 ∨ min a.1.length b.1.length = 1 by omega) with e | e
    · rw [e, h2]; exact up_no (ovP_zero a b)
    · rw [e, h2]
theorem ov_pre {a b : Rul} {k : Nat} (hk : k < min a.1.length b.1.length) (hP : ovP a b k = true) : up (ovP a b) (ovk a b) k ++ [ovk a b k] <+: ovl a b := by
  rw [← up_yes hP]
  have := up_pre (P := ovP a b) (f := ovk a b) (k + 1) (min a.1.length b.1.length - (k + 1))
  rw [show k + 1 + (min a.1.length b.1.length - (k + 1)) = min a.1.length b.1.length by omega] at this; exact this
theorem ovP_diff {a b : Rul} {k : Nat} (h1 : 1 ≤ k) (hk : k < min a.1.length b.1.length) (h : ¬ a.1.getD (a.1.length - k) 0 = b.1.getD 0 0) : ovP a b k = false := by
  unfold ovP
  rw [Bool.and_eq_false_iff]
  refine .inr (decide_eq_false fun e => h ?_)
  have h2 := congrArg (fun l => l.getD 0 0) e
  simp only [List.getD_eq_getElem?_getD, List.getElem?_take, List.getElem?_drop, Nat.add_zero, show (0 < k) by omega, if_true] at h2
  rw [List.getD_eq_getElem?_getD, List.getD_eq_getElem?_getD]; exact h2.symm
theorem ovP_has {a b : Rul} {k : Nat} (h1 : 1 ≤ k) (hk : k < min a.1.length b.1.length) : ovP a b k = Lib.hasPrefix b.1 (a.1.drop (a.1.length - k)) := by
  have hl : (a.1.drop (a.1.length - k)).length = k := by rw [List.length_drop]; omega
  rw [Bool.eq_iff_iff]
  unfold ovP Lib.hasPrefix
  rw [decide_eq_true h1, Bool.true_and, decide_eq_true_eq, List.isPrefixOf_iff_prefix, List.prefix_iff_eq_take, hl]
  exact ⟨fun h => h.symm, fun h => h.symm⟩
theorem cnl_end {a b : Rul} {o : Nat} (ho : o ≤ a.1.length + 1) (h : ∀ p, o ≤ p → p ≤ a.1.length → cnP a b p = false) : up (cnP a b) (cnk a b) o = cnl a b := by
  unfold cnl
  have := up_skip (P := cnP a b) (f := cnk a b) (o := o) (a.1.length + 1 - o) (fun p h1 h2 => h p h1 (by omega))
  rw [show o + (a.1.length + 1 - o) = a.1.length + 1 by omega] at this; exact this.symm
theorem cn_pre {a b : Rul} {o : Nat} (ho : o ≤ a.1.length) (hP : cnP a b o = true) : up (cnP a b) (cnk a b) o ++ [cnk a b o] <+: cnl a b := by
  rw [← up_yes hP]
  have := up_pre (P := cnP a b) (f := cnk a b) (o + 1) (a.1.length - o)
  rw [show o + 1 + (a.1.length - o) = a.1.length + 1 by omega] at this; exact this
/-- where the next one lies -/
theorem cn_index {a b : Rul} {o : Nat} (ho : o ≤ a.1.length) (hb : b.1 ≠ []) : (Lib.index (a.1.drop o) b.1 < 0 ∧ up (cnP a b) (cnk a b) o = cnl a b) ∨
    (∃ m : Nat, Lib.index (a.1.drop o) b.1 = (m : Int) ∧ o + m + b.1.length ≤ a.1.length ∧ cnP a b (o + m) = true ∧ up (cnP a b) (cnk a b) (o + m) = up (cnP a b) (cnk a b) o) := by
  rcases Lib.index_spec (a.1.drop o) b.1 with ⟨h, hn⟩ | ⟨m, h, hm, hoc, hno⟩
  · refine .inl ⟨by omega, cnl_end (by omega) fun p h1 h2 => ?_⟩
    have := hn (p - o) (by rw [List.length_drop]; omega)
    unfold Lib.occAt at this
    rw [List.drop_drop, show o + (p - o) = p by omega] at this
    exact this
  · have hoc' : cnP a b (o + m) = true := by
      unfold Lib.occAt at hoc
      rw [List.drop_drop] at hoc; exact hoc
    have hl := (List.isPrefixOf_iff_prefix.1 hoc').length_le
    rw [List.length_drop] at hl
    have hbp := List.length_pos_iff.2 hb
    refine .inr ⟨m, h, by omega, hoc', up_skip m fun p h1 h2 => ?_⟩
    have := hno (p - o) (by omega)
    unfold Lib.occAt at this
    rw [List.drop_drop, show o + (p - o) = p by omega] at this
    exact this
/-- all of them, in order -/
def crJ (rs : List Rul) (i : Nat) : Nat → List Crit
  | 0 => []
  | j + 1 => crJ rs i j ++ (ovl (rs.getD i ([], [])) (rs.getD j ([], [])) ++ if i = j then [] else cnl (rs.getD i ([], [])) (rs.getD j ([], [])))
def crI (rs : List Rul) : Nat → List Crit
  | 0 => []
  | i + 1 => crI rs i ++ crJ rs i rs.length
def crA (rs : List Rul) : List Crit := crI rs rs.length
theorem crJ_pre (rs : List Rul) (i j : Nat) : ∀ k, crJ rs i j <+: crJ rs i (j + k)
  | 0 => List.prefix_refl _
  | k + 1 => (crJ_pre rs i j k).trans (List.prefix_append _ _)
theorem crI_pre (rs : List Rul) (i : Nat) : ∀ k, crI rs i <+: crI rs (i + k)
  | 0 => List.prefix_refl _
  | k + 1 => (crI_pre rs i k).trans (List.prefix_append _ _)
theorem cr_pre {rs : List Rul} {i j : Nat} (hi : i < rs.length) (hj : j < rs.length) : crI rs i ++ crJ rs i (j + 1) <+: crA rs := by
  have h1 := crJ_pre rs i (j + 1) (rs.length - (j + 1))
  rw [show j + 1 + (rs.length - (j + 1)) = rs.length by omega] at h1
  have h2 := crI_pre rs (i + 1) (rs.length - (i + 1))
  rw [show i + 1 + (rs.length - (i + 1)) = rs.length by omega] at h2
  exact ((List.prefix_append_right_inj _).2 h1).trans h2
theorem cr_pre1 {rs : List Rul} {i j : Nat} (hi : i < rs.length) (hj : j < rs.length) {q : List Crit} (hq : q <+: ovl (rs.getD i ([], [])) (rs.getD j ([], []))) : (crI rs i ++ crJ rs i j) ++ q <+: crA rs := by
  refine List.IsPrefix.trans ?_ (cr_pre hi hj)
  rw [List.append_assoc, List.prefix_append_right_inj]
  show crJ rs i j ++ q <+: crJ rs i j ++ _
  rw [List.prefix_append_right_inj]
  exact hq.trans (List.prefix_append _ _)
theorem cr_pre2 {rs : List Rul} {i j : Nat} (hi : i < rs.length) (hj : j < rs.length) (hij : i ≠ j) {q : List Crit} (hq : q <+: cnl (rs.getD i ([], [])) (rs.getD j ([], []))) : (crI rs i ++ crJ rs i j) ++ ovl (rs.getD i ([], [])) (rs.getD j ([], [])) ++ q <+: crA rs := by
  refine List.IsPrefix.trans ?_ (cr_pre hi hj)
  rw [List.append_assoc, List.append_assoc, List.prefix_append_right_inj]
  show crJ rs i j ++ _ <+: crJ rs i j ++ _
  rw [List.prefix_append_right_inj, if_neg hij, List.prefix_append_right_inj]
  exact hq
theorem crJ_eq {rs : List Rul} {i : Nat} : crJ rs i (i + 1) = crJ rs i i ++ ovl (rs.getD i ([], [])) (rs.getD i ([], [])) := by
  show crJ rs i i ++ _ = _
  rw [if_pos rfl, List.append_nil]
theorem crJ_ne {rs : List Rul} {i j : Nat} (h : i ≠ j) : crJ rs i (j + 1) = crJ rs i j ++ ovl (rs.getD i ([], [])) (rs.getD j ([], [])) ++ cnl (rs.getD i ([], [])) (rs.getD j ([], [])) := by
  show crJ rs i j ++ _ = _
  rw [if_neg h, List.append_assoc]
def crc (l : List Crit) : List Value := l.flatMap ccs
theorem crc_length (l : List Crit) : (crc l).length = l.length * 3 := by
  induction l with
  | nil => rfl
  | cons p ps ih => simp only [crc, ccs, List.flatMap_cons, List.length_append, List.length_cons, List.length_nil] at ih ⊢; omega
theorem crc_append (a b : List Crit) : crc (a ++ b) = crc a ++ crc b := by simp [crc]
theorem crc_at (ps : List Crit) (j : Nat) (h : j < ps.length) : ((crc ps).drop (j * 3)).take 3 = ccs (ps.getD j ([], [], [])) := by
  have h1 : ps = ps.take j ++ ps.getD j ([], [], []) :: ps.drop (j + 1) := by
    rw [List.getD_eq_getElem?_getD, List.getElem?_eq_getElem h, Option.getD_some, List.getElem_cons_drop, List.take_append_drop]
  have h2 : (crc (ps.take j)).length = j * 3 := by rw [crc_length, List.length_take]; omega
  conv => lhs; rw [h1]
  rw [crc_append, ← h2, List.drop_left]
  simp [crc, ccs]
theorem ccs_one (c : Crit) : one' (ccs c) := by
  intro u hu
  simp only [ccs, List.mem_cons, List.not_mem_nil, or_false] at hu
  rcases hu with rfl | rfl | rfl <;> rfl
end Go.Sx
