import Derived.Test.YtckicbgffhbacaaDoorS2
import Derived.Test.YtckicbgffhbacaaDoorOp
import Derived.ProofKit
import Derived.OpenShut
import Derived.Deep.Slices
import Derived.WideShapes
namespace Go.Sx
open Go.ChangeShapes Go.WideShapes Go.ChangeAt Go.RowKit
set_option linter.unusedVariables false
section
variable {H : Type} {enc : TypeId × Value → H} {P : Program} {W : World}
open Go.Deep (open_slice1 choose_lt) in
theorem op_list {α : Type} [Inhabited α] {f : α → Value} {ok : α → Prop} {t e : TypeId} (ht : P.underlying t = some (.slice e)) (hc : P.cellsOf e = 1)
    (he : ∀ n v x, DataW.trod enc P W 0 (fun _ => true) true n e [v] = some x → ∃ a, v = f a ∧ ok a) {fuel : Nat} {cs : List Value} {x : DataW H × List MemPlace}
    (h : DataW.trod enc P W 0 (fun _ => true) true fuel t cs = some x) : ∃ v xs, cs = [v] ∧ RdL (fun _ => False) f W v xs ∧ ∀ a ∈ xs, ok a := by
  rcases open_slice1 ht hc h with ⟨rfl, _⟩ | ⟨y, l, cp, m, k, V, D, Pl, rfl, _, hl, hm, hmm, _, hx⟩
  · exact ⟨_, [], rfl, ⟨none, 0, rfl, by simp [maxLen], rfl, fun h => by simp at h, fun a j u ha => by cases ha⟩, by simp⟩
  · have hmc : m = cp := by simpa using hmm
    subst hmc
    obtain ⟨B, hB⟩ := choose_lt (n := m) (p := fun i (b : α) => V i = f b ∧ ok b) (fun i hi => he _ _ _ (hx i hi).2)
    refine ⟨_, (List.range l).map B, rfl, ⟨some y, m, ?_, ?_, ?_, fun _ _ => rfl, ?_⟩, ?_⟩
    · simp
    · simp [maxLen] at hm ⊢; omega
    · simp
    · intro ad j u had hj
      cases had
      refine ⟨id, ?_⟩
      have hjn : j < l := by
        have := (List.getElem?_eq_some_iff.1 hj).1
        simpa using this
      simp [hjn] at hj
      have := (hx j (by omega)).1
      rw [this, (hB j (by omega)).1, hj]
    · intro a ha
      simp at ha
      obtain ⟨i, hi, rfl⟩ := ha
      exact (hB i (by omega)).2
open Go.Deep (open_slice1 choose_lt) in
theorem op_rows {α : Type} {f : α → Value} {ok : α → Prop} {t e : TypeId} (ht : P.underlying t = some (.slice e)) (hc : P.cellsOf e = 1)
    (he : ∀ n cs x, DataW.trod enc P W 0 (fun _ => true) true n e cs = some x → ∃ v xs, cs = [v] ∧ RdL (fun _ => False) f W v xs ∧ ∀ a ∈ xs, ok a) {fuel : Nat} {cs : List Value} {x : DataW H × List MemPlace}
    (h : DataW.trod enc P W 0 (fun _ => true) true fuel t cs = some x) : ∃ v xss, cs = [v] ∧ RdLL (fun _ => False) f W v xss ∧ ∀ xs ∈ xss, ∀ a ∈ xs, ok a := by
  rcases open_slice1 ht hc h with ⟨rfl, _⟩ | ⟨y, l, cp, m, k, V, D, Pl, rfl, _, hl, hm, hmm, _, hx⟩
  · exact ⟨_, [], rfl, ⟨[], rfl, ⟨none, 0, rfl, by simp [maxLen], rfl, fun h => by simp at h, fun a j u ha => by cases ha⟩, fun i hi => by simp at hi⟩, by simp⟩
  · have hmc : m = cp := by simpa using hmm
    subst hmc
    obtain ⟨B, hB⟩ := choose_lt (n := m) (p := fun i (xs : List α) => RdL (fun _ => False) f W (V i) xs ∧ ∀ a ∈ xs, ok a) (fun i hi => by
      obtain ⟨v, xs, e1, e2, e3⟩ := he _ _ _ (hx i hi).2
      cases e1
      exact ⟨xs, e2, e3⟩)
    refine ⟨_, (List.range l).map B, rfl, ⟨(List.range l).map V, by simp, ⟨some y, m, ?_, ?_, ?_, fun _ _ => rfl, ?_⟩, ?_⟩, ?_⟩
    · simp
    · simp [maxLen] at hm ⊢; omega
    · simp
    · intro ad j u had hj
      cases had
      refine ⟨id, ?_⟩
      have hjn : j < l := by
        have := (List.getElem?_eq_some_iff.1 hj).1
        simpa using this
      simp [hjn] at hj
      rw [(hx j (by omega)).1, hj]
    · intro i hi
      have hi' : i < l := by simpa using hi
      have := (hB i (by omega)).1
      simpa [List.getD_eq_getElem?_getD, hi'] using this
    · intro xs hxs
      simp at hxs
      obtain ⟨i, hi, rfl⟩ := hxs
      exact (hB i (by omega)).2
theorem op_ints {t e : TypeId} (ht : P.underlying t = some (.slice e)) (he : P.underlying e = some (.int .i64)) (hc : P.cellsOf e = 1) {fuel : Nat} {cs : List Value} {x : DataW H × List MemPlace}
    (h : DataW.trod enc P W 0 (fun _ => true) true fuel t cs = some x) : ∃ v xs, cs = [v] ∧ RdL (fun _ => False) (Value.int .i64) W v xs ∧ ∀ a ∈ xs, Wf64 a :=
  op_list ht hc (fun n v x hx => by obtain ⟨a, h1, _, h3⟩ := DataW.trod_int he hx; cases h1; exact ⟨a, rfl, wf64_of h3⟩) h
theorem op_bools {t e : TypeId} (ht : P.underlying t = some (.slice e)) (he : P.underlying e = some .bool) (hc : P.cellsOf e = 1) {fuel : Nat} {cs : List Value} {x : DataW H × List MemPlace}
    (h : DataW.trod enc P W 0 (fun _ => true) true fuel t cs = some x) : ∃ v xs, cs = [v] ∧ RdL (fun _ => False) Value.bool W v xs ∧ ∀ a ∈ xs, True :=
  op_list ht hc (fun n v x hx => by obtain ⟨a, h1, _⟩ := DataW.trod_bool he hx; cases h1; exact ⟨a, rfl, trivial⟩) h
theorem op_strs {t e : TypeId} (ht : P.underlying t = some (.slice e)) (he : P.underlying e = some .string) (hc : P.cellsOf e = 1) {fuel : Nat} {cs : List Value} {x : DataW H × List MemPlace}
    (h : DataW.trod enc P W 0 (fun _ => true) true fuel t cs = some x) : ∃ v xs, cs = [v] ∧ RdL (fun _ => False) sv W v xs ∧ ∀ a ∈ xs, a.length ≤ 9223372036854775807 :=
  op_list ht hc (fun n v x hx => by
    obtain ⟨a, h1, _, h3⟩ := DataW.trod_string he hx
    cases h1
    exact ⟨a.data.toList, rfl, by have : a.size = a.data.toList.length := (by show a.data.size = _; simp)
                                  simp only [maxLen] at h3; omega⟩) h
theorem op_intss {t e ee : TypeId} (ht : P.underlying t = some (.slice e)) (hc : P.cellsOf e = 1) (he : P.underlying e = some (.slice ee)) (hee : P.underlying ee = some (.int .i64)) (hcc : P.cellsOf ee = 1) {fuel : Nat} {cs : List Value} {x : DataW H × List MemPlace}
    (h : DataW.trod enc P W 0 (fun _ => true) true fuel t cs = some x) : ∃ v xss, cs = [v] ∧ RdLL (fun _ => False) (Value.int .i64) W v xss ∧ ∀ xs ∈ xss, ∀ a ∈ xs, Wf64 a :=
  op_rows ht hc (fun n cs x hx => op_ints he hee hcc hx) h
/-- the struct of an automaton: its fields, as the table of types has them -/
def dfaTB (P : Program) (t : TypeId) : Bool := match P.underlying t with
  | some (.struct fs) => match fs[0]?, fs[1]?, fs[2]?, fs[3]? with
    | some a, some b, some c, some d =>
      (a.offset == 0 && b.offset == 1 && c.offset == 2 && d.offset == 3) && (P.cellsOf a.type == 1 && P.cellsOf b.type == 1 && P.cellsOf c.type == 1 && P.cellsOf d.type == 1) &&
      (match P.underlying a.type, P.underlying b.type with | some (.int .i64), some (.int .i64) => true | _, _ => false) &&
      (match P.underlying c.type with | some (.slice e) => P.cellsOf e == 1 && (match P.underlying e with | some .bool => true | _ => false) | _ => false) &&
      (match P.underlying d.type with | some (.slice e) => P.cellsOf e == 1 && (match P.underlying e with | some (.slice ee) => P.cellsOf ee == 1 && (match P.underlying ee with | some (.int .i64) => true | _ => false) | _ => false) | _ => false) &&
      (P.cellsOf t == 4)
    | _, _, _, _ => false
  | _ => false
theorem op_dfa {t : TypeId} (hB : dfaTB P t = true) {fuel : Nat} {cs : List Value} {x : DataW H × List MemPlace} (h : DataW.trod enc P W 0 (fun _ => true) true fuel t cs = some x) :
    ∃ (d : Dfa) (vF vN : Value), cs = [.int .i64 d.L, .int .i64 d.s, vF, vN] ∧ RdL (fun _ => False) Value.bool W vF d.fin ∧ RdLL (fun _ => False) (Value.int .i64) W vN d.nx ∧ Wf64 d.L ∧ Wf64 d.s ∧ ∀ xs ∈ d.nx, ∀ a ∈ xs, Wf64 a := by
  unfold dfaTB at hB
  split at hB
  case h_2 => cases hB
  rename_i fs hu
  split at hB
  case h_2 => cases hB
  rename_i a b c d ha hb hc hd
  simp only [Bool.and_eq_true, beq_iff_eq] at hB
  obtain ⟨⟨⟨⟨⟨⟨⟨⟨oa, ob⟩, oc⟩, od⟩, ⟨⟨ca, cb⟩, cc⟩, cd⟩, hi⟩, hF⟩, hN⟩, ht4⟩ := hB
  obtain ⟨xs, n, _, _, hl, _, hf⟩ := DataW.trod_struct hu h
  have fa := hf 0 a ha
  have fb := hf 1 b hb
  have fc := hf 2 c hc
  have fd := hf 3 d hd
  have some_of : ∀ (i : Nat) (g : Field), fs[i]? = some g → ∃ y, xs[i]? = some y := fun i g hg => by
    have : i < xs.length := by
      have h1 := (Array.getElem?_eq_some_iff.1 hg).1
      omega
    exact ⟨xs[i], List.getElem?_eq_getElem this⟩
  obtain ⟨ya, ea⟩ := some_of 0 a ha
  obtain ⟨yb, eb⟩ := some_of 1 b hb
  obtain ⟨yc, ec⟩ := some_of 2 c hc
  obtain ⟨yd, ed⟩ := some_of 3 d hd
  rw [ea, oa, ca] at fa
  rw [eb, ob, cb] at fb
  rw [ec, oc, cc] at fc
  rw [ed, od, cd] at fd
  rw [ht4] at hl
  split at hi
  case h_2 => cases hi
  rename_i ua ub
  split at hF
  case h_2 => cases hF
  rename_i eF uF
  simp only [Bool.and_eq_true, beq_iff_eq] at hF
  obtain ⟨cF, hF⟩ := hF
  split at hF
  case h_2 => cases hF
  rename_i ueF
  split at hN
  case h_2 => cases hN
  rename_i eN uN
  simp only [Bool.and_eq_true, beq_iff_eq] at hN
  obtain ⟨cN, hN⟩ := hN
  split at hN
  case h_2 => cases hN
  rename_i eNN ueN
  simp only [Bool.and_eq_true, beq_iff_eq] at hN
  obtain ⟨cNN, hN⟩ := hN
  split at hN
  case h_2 => cases hN
  rename_i ueNN
  match cs, hl with
  | [v0, v1, v2, v3], _ =>
    simp at fa fb fc fd
    obtain ⟨L, h0, _, w0⟩ := DataW.trod_int ua fa
    obtain ⟨s, h1, _, w1⟩ := DataW.trod_int ub fb
    obtain ⟨vF, fin, h2, r2, _⟩ := op_bools uF ueF cF fc
    obtain ⟨vN, nx, h3, r3, w3⟩ := op_intss uN cN ueN ueNN cNN fd
    cases h0; cases h1; cases h2; cases h3
    exact ⟨⟨L, s, fin, nx⟩, _, _, rfl, r2, r3, wf64_of w0, wf64_of w1, w3⟩
theorem open_dfa {t : TypeId} (hB : dfaTB P t = true) {v : Value} {d : DataW H} {p : List MemPlace} (hval : Value.okWide P W .any 0 t v) (h : DataW.Trod enc P W 0 (fun _ => true) true t v d p) :
    ∃ d : Dfa, RdD (fun _ => False) W v d ∧ Wf64 d.L ∧ Wf64 d.s ∧ ∀ xs ∈ d.nx, ∀ a ∈ xs, Wf64 a := by
  obtain ⟨fuel, hf⟩ := h
  have hst : ∃ fs, P.underlying t = some (.struct fs) := by
    unfold dfaTB at hB
    split at hB
    · exact ⟨_, ‹_›⟩
    · cases hB
  obtain ⟨fs, hu⟩ := hst
  obtain ⟨cs, rfl, _⟩ := okWide_struct hu hval
  have hf' : DataW.trod enc P W 0 (fun _ => true) true fuel t cs.toList = some (d, p) := by simpa [Value.cells] using hf
  obtain ⟨d, vF, vN, e, r2, r3, w0, w1, w3⟩ := op_dfa hB hf'
  have this : cs = #[.int .i64 d.L, .int .i64 d.s, vF, vN] := by
    apply Array.toList_inj.1; simpa using e
  exact ⟨d, ⟨vF, vN, by rw [this], r2, r3⟩, w0, w1, w3⟩
end
end Go.Sx
