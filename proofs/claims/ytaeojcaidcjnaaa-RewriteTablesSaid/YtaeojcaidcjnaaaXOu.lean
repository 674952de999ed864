import Derived.Test.YtaeojcaidcjnaaaXOd
import Derived.Test.YtaeojcaidcjnaaaXRR
set_option linter.unusedVariables false
set_option linter.unusedSimpArgs false
namespace Go.Sx
open Go.ChangeShapes Go.WideShapes Go.ChangeAt Go.RowKit
section
variable {H : Type} {enc : TypeId × Value → H} {P : Program} {W : World}
/-- the struct of a rule: its fields, as the table of types has them -/
def rulTB (P : Program) (t : TypeId) : Bool := match P.underlying t with
  | some (.struct fs) => match fs[0]?, fs[1]? with
    | some a, some b =>
      (a.offset == 0 && b.offset == 1) && (P.cellsOf a.type == 1 && P.cellsOf b.type == 1) &&
      (match P.underlying a.type, P.underlying b.type with | some .string, some .string => true | _, _ => false) &&
      (P.cellsOf t == 2)
    | _, _ => false
  | _ => false
theorem rul_cells {t : TypeId} (hB : rulTB P t = true) : P.cellsOf t = 2 := by
  unfold rulTB at hB
  split at hB
  case h_2 => cases hB
  split at hB
  case h_2 => cases hB
  simp only [Bool.and_eq_true, beq_iff_eq] at hB
  exact hB.2
theorem op_rul {t : TypeId} (hB : rulTB P t = true) {fuel : Nat} {cs : List Value} (hl2 : cs.length = 2) {x : DataW H × List MemPlace} (h : DataW.trod enc P W 0 (fun _ => true) true fuel t cs = some x) :
    ∃ r : Rul, cs = rcs r ∧ r.1.length ≤ 9223372036854775807 ∧ r.2.length ≤ 9223372036854775807 := by
  unfold rulTB at hB
  split at hB
  case h_2 => cases hB
  rename_i fs hu
  split at hB
  case h_2 => cases hB
  rename_i a b ha hb
  simp only [Bool.and_eq_true, beq_iff_eq] at hB
  obtain ⟨⟨⟨⟨oa, ob⟩, ca, cb⟩, hS⟩, ht2⟩ := hB
  split at hS
  case h_2 => cases hS
  rename_i uA uB
  obtain ⟨xs, n, _, _, hl, _, hf⟩ := DataW.trod_struct hu h
  have fa := hf 0 a ha
  have fb := hf 1 b hb
  have some_of : ∀ (i : Nat) (g : Field), fs[i]? = some g → ∃ y, xs[i]? = some y := fun i g hg => by
    have : i < xs.length := by
      have h1 := (Array.getElem?_eq_some_iff.1 hg).1
      omega
    exact ⟨xs[i], List.getElem?_eq_getElem this⟩
  obtain ⟨ya, ea⟩ := some_of 0 a ha
  obtain ⟨yb, eb⟩ := some_of 1 b hb
  rw [ea, oa, ca] at fa
  rw [eb, ob, cb] at fb
  obtain ⟨v0, v1, ecs⟩ : ∃ v0 v1, cs = [v0, v1] := by
    match cs, hl2 with
    | [v0, v1], _ => exact ⟨_, _, rfl⟩
  subst ecs
  simp at fa fb
  obtain ⟨s0, h0, _, w0⟩ := DataW.trod_string uA fa
  obtain ⟨s1, h1, _, w1⟩ := DataW.trod_string uB fb
  cases h0; cases h1
  have sz : ∀ s : ByteArray, s.size = s.data.toList.length := fun s => (by show s.data.size = _; simp)
  have e0 := sz s0
  have e1 := sz s1
  simp only [maxLen] at w0 w1
  exact ⟨(s0.data.toList, s1.data.toList), rfl, by dsimp only; omega, by dsimp only; omega⟩
open Go.Deep (open_slice choose_lt add_add) in
theorem open_ru {t e : TypeId} {a : Option Addr} {n c : Nat} {d : DataW H} {p : List MemPlace} (ht : P.underlying t = some (.slice e)) (hB : rulTB P e = true)
    (h : DataW.Trod enc P W 0 (fun _ => true) true t (.slice a n c) d p) : ∃ rs : List Rul, RdR (fun _ => False) W (.slice a n c) rs ∧ ∀ k, k < rs.length → (rs.getD k ([], [])).1.length ≤ 9223372036854775807 ∧ (rs.getD k ([], [])).2.length ≤ 9223372036854775807 := by
  have hc := rul_cells hB
  obtain ⟨fuel, hf⟩ := h
  rcases open_slice ht hf with ⟨hcs, _⟩ | ⟨y, l, cp, m, k, D, Pl, hcs, _, hl, hm, hmm, _, hx⟩
  · simp [Value.cells] at hcs
    obtain ⟨rfl, rfl, rfl⟩ := hcs
    exact ⟨[], ⟨none, 0, rfl, by simp [maxLen], rfl, fun h => by simp at h, fun a j u ha => by cases ha⟩, fun k hk => by simp at hk⟩
  · simp [Value.cells] at hcs
    obtain ⟨rfl, rfl, rfl⟩ := hcs
    have hmc : m = c := by simpa using hmm
    subst hmc
    rw [hc] at hx
    obtain ⟨B, hB⟩ := choose_lt (n := m) (p := fun i (b : Rul) => W.cell? (y.add (i * 2)) = some (sv b.1) ∧ W.cell? (y.add (i * 2 + 1)) = some (sv b.2) ∧ b.1.length ≤ 9223372036854775807 ∧ b.2.length ≤ 9223372036854775807) (fun i hi' => by
      obtain ⟨cs', h1, h2⟩ := hx i hi'
      obtain ⟨_, hlen, hcell⟩ := World.cells?_some h1
      obtain ⟨r, e, w0, w1⟩ := op_rul hB hlen h2
      subst e
      have c0 := hcell 0 (by simp)
      have c1 := hcell 1 (by simp)
      rw [add_add] at c0 c1
      simp [rcs] at c0 c1
      exact ⟨r, c0, c1, w0, w1⟩)
    refine ⟨(List.range n).map B, ⟨some y, m, ?_, ?_, ?_, fun _ _ => rfl, ?_⟩, ?_⟩
    · simp
    · simp [maxLen] at hm ⊢; omega
    · rw [rlc_length]
    · intro ad j u had hj
      cases had
      refine ⟨id, ?_⟩
      have hjn : j < n * 2 := by
        have := (List.getElem?_eq_some_iff.1 hj).1
        rw [rlc_length] at this; simpa using this
      have e := rlc_at ((List.range n).map B) (j / 2) (by simp; omega)
      have e' := congrArg (fun l => l[j % 2]?) e
      simp only [List.getElem?_take, List.getElem?_drop] at e'
      rw [if_pos (Nat.mod_lt _ (by omega)), show j / 2 * 2 + j % 2 = j from by omega, hj] at e'
      have hr : ((List.range n).map B).getD (j / 2) ([], []) = B (j / 2) := by simp [List.getD_eq_getElem?_getD, show j / 2 < n by omega]
      rw [hr] at e'
      obtain ⟨b1, b2, _⟩ := hB (j / 2) (by omega)
      rcases Nat.mod_two_eq_zero_or_one j with hm0 | hm1
      · rw [hm0] at e'
        simp [rcs] at e'
        rw [show j = j / 2 * 2 from by omega, b1, e']
      · rw [hm1] at e'
        simp [rcs] at e'
        rw [show j = j / 2 * 2 + 1 from by omega]
        rw [b2, e']
    · intro k hk
      have hk' : k < n := by simpa using hk
      have hr : ((List.range n).map B).getD k ([], []) = B k := by simp [List.getD_eq_getElem?_getD, hk']
      rw [hr]
      exact (hB k (by omega)).2.2
end
end Go.Sx
