import Derived.Test.YtckicbgffhbacaaDoorOd
import Derived.Test.YtckicbgffhbacaaDoorNc
set_option linter.unusedVariables false
set_option linter.unusedSimpArgs false
namespace Go.Sx
open Go.ChangeShapes Go.WideShapes Go.ChangeAt Go.RowKit
section
variable {H : Type} {enc : TypeId × Value → H} {P : Program} {W : World}
/-- the struct of an edge -/
def edgTB (P : Program) (t : TypeId) : Bool := match P.underlying t with
  | some (.struct fs) => match fs[0]?, fs[1]?, fs[2]? with
    | some a, some b, some c =>
      (a.offset == 0 && b.offset == 1 && c.offset == 2) && (P.cellsOf a.type == 1 && P.cellsOf b.type == 1 && P.cellsOf c.type == 1) &&
      (match P.underlying a.type, P.underlying b.type, P.underlying c.type with | some (.int .i64), some (.int .i64), some (.int .i64) => true | _, _, _ => false) &&
      (P.cellsOf t == 3)
    | _, _, _ => false
  | _ => false
theorem edg_cells {t : TypeId} (hB : edgTB P t = true) : P.cellsOf t = 3 := by
  unfold edgTB at hB
  split at hB
  case h_2 => cases hB
  split at hB
  case h_2 => cases hB
  simp only [Bool.and_eq_true, beq_iff_eq] at hB
  exact hB.2
theorem op_edg {t : TypeId} (hB : edgTB P t = true) {fuel : Nat} {cs : List Value} (hl3 : cs.length = 3) {x : DataW H × List MemPlace} (h : DataW.trod enc P W 0 (fun _ => true) true fuel t cs = some x) : ∃ e : Edg, cs = ecs e := by
  unfold edgTB at hB
  split at hB
  case h_2 => cases hB
  rename_i fs hu
  split at hB
  case h_2 => cases hB
  rename_i a b c ha hb hc
  simp only [Bool.and_eq_true, beq_iff_eq] at hB
  obtain ⟨⟨⟨⟨⟨oa, ob⟩, oc⟩, ⟨ca, cb⟩, cc⟩, hI⟩, ht3⟩ := hB
  split at hI
  case h_2 => cases hI
  rename_i uA uB uC
  obtain ⟨xs, n, _, _, hl, _, hf⟩ := DataW.trod_struct hu h
  have fa := hf 0 a ha
  have fb := hf 1 b hb
  have fc := hf 2 c hc
  have some_of : ∀ (i : Nat) (g : Field), fs[i]? = some g → ∃ y, xs[i]? = some y := fun i g hg => by
    have : i < xs.length := by
      have h1 := (Array.getElem?_eq_some_iff.1 hg).1
      omega
    exact ⟨xs[i], List.getElem?_eq_getElem this⟩
  obtain ⟨ya, ea⟩ := some_of 0 a ha
  obtain ⟨yb, eb⟩ := some_of 1 b hb
  obtain ⟨yc, ec⟩ := some_of 2 c hc
  rw [ea, oa, ca] at fa
  rw [eb, ob, cb] at fb
  rw [ec, oc, cc] at fc
  obtain ⟨v0, v1, v2, ecs'⟩ : ∃ v0 v1 v2, cs = [v0, v1, v2] := by
    match cs, hl3 with
    | [v0, v1, v2], _ => exact ⟨_, _, _, rfl⟩
  subst ecs'
  simp at fa fb fc
  obtain ⟨z0, h0, _, w0⟩ := DataW.trod_int uA fa
  obtain ⟨z1, h1, _, w1⟩ := DataW.trod_int uB fb
  obtain ⟨z2, h2, _, w2⟩ := DataW.trod_int uC fc
  cases h0; cases h1; cases h2
  exact ⟨(z0, z1, z2), rfl⟩
open Go.Deep (open_slice choose_lt add_add) in
theorem op_edges {t e : TypeId} (ht : P.underlying t = some (.slice e)) (hB : edgTB P e = true) {fuel : Nat} {cs : List Value} {x : DataW H × List MemPlace}
    (h : DataW.trod enc P W 0 (fun _ => true) true fuel t cs = some x) : ∃ v es, cs = [v] ∧ Rd (fun b => ¬ False) W v 3 es.length (edc es) := by
  have hc := edg_cells hB
  rcases open_slice ht h with ⟨hcs, _⟩ | ⟨y, l, cp, m, k, D, Pl, hcs, _, hl, hm, hmm, _, hx⟩
  · subst hcs
    exact ⟨_, [], rfl, ⟨none, 0, rfl, by simp [maxLen], rfl, fun h => by simp at h, fun a j u ha => by cases ha⟩⟩
  · subst hcs
    have hmc : m = cp := by simpa using hmm
    subst hmc
    rw [hc] at hx
    obtain ⟨B, hB⟩ := choose_lt (n := m) (p := fun i (b : Edg) => W.cell? (y.add (i * 3)) = some (.int .i64 b.1) ∧ W.cell? (y.add (i * 3 + 1)) = some (.int .i64 b.2.1) ∧ W.cell? (y.add (i * 3 + 2)) = some (.int .i64 b.2.2)) (fun i hi' => by
      obtain ⟨cs', h1, h2⟩ := hx i hi'
      obtain ⟨_, hlen, hcell⟩ := World.cells?_some h1
      obtain ⟨r, e⟩ := op_edg hB hlen h2
      subst e
      have c0 := hcell 0 (by simp)
      have c1 := hcell 1 (by simp)
      have c2 := hcell 2 (by simp)
      rw [add_add] at c0 c1 c2
      simp [ecs] at c0 c1 c2
      exact ⟨r, c0, c1, c2⟩)
    refine ⟨_, (List.range l).map B, rfl, ⟨some y, m, ?_, ?_, ?_, fun _ _ => rfl, ?_⟩⟩
    · simp
    · simp [maxLen] at hm ⊢; omega
    · rw [edc_length]
    · intro ad j u had hj
      cases had
      refine ⟨id, ?_⟩
      have hjn : j < l * 3 := by
        have := (List.getElem?_eq_some_iff.1 hj).1
        rw [edc_length] at this; simpa using this
      have e := edc_at ((List.range l).map B) (j / 3) (by simp; omega)
      have e' := congrArg (fun q => q[j % 3]?) e
      simp only [List.getElem?_take, List.getElem?_drop] at e'
      rw [if_pos (Nat.mod_lt _ (by omega)), show j / 3 * 3 + j % 3 = j from by omega, hj] at e'
      have hr : ((List.range l).map B).getD (j / 3) (0, 0, 0) = B (j / 3) := by simp [List.getD_eq_getElem?_getD, show j / 3 < l by omega]
      rw [hr] at e'
      obtain ⟨b1, b2, b3⟩ := hB (j / 3) (by omega)
      have h3 : j % 3 = 0 ∨ j % 3 = 1 ∨ j % 3 = 2 := by omega
      rcases h3 with hm0 | hm1 | hm2
      · rw [hm0] at e'
        simp [ecs] at e'
        rw [show j = j / 3 * 3 from by omega, b1, e']
      · rw [hm1] at e'
        simp [ecs] at e'
        rw [show j = j / 3 * 3 + 1 from by omega]
        rw [b2, e']
      · rw [hm2] at e'
        simp [ecs] at e'
        rw [show j = j / 3 * 3 + 2 from by omega]
        rw [b3, e']
theorem wfu_of {z : Int} (h : (Lit.int .u64 z).wf = true) : ∃ x : W64, Value.int .u64 z = uv x := by
  refine ⟨BitVec.ofInt 64 z, ?_⟩
  have h1 : 0 ≤ z ∧ z < 18446744073709551616 := by
    simp [Lit.wf, IntKind.min, IntKind.max, IntKind.bits, IntKind.signed] at h
    omega
  unfold uv
  rw [BitVec.toNat_ofInt]
  congr 1
  omega
/-- the struct of an automaton -/
def nfaTB (P : Program) (t : TypeId) : Bool := match P.underlying t with
  | some (.struct fs) => match fs[0]?, fs[1]?, fs[2]?, fs[3]?, fs[4]? with
    | some a, some b, some c, some d, some e =>
      (a.offset == 0 && b.offset == 1 && c.offset == 2 && d.offset == 3 && e.offset == 4) && (P.cellsOf a.type == 1 && P.cellsOf b.type == 1 && P.cellsOf c.type == 1 && P.cellsOf d.type == 1 && P.cellsOf e.type == 1) &&
      (match P.underlying a.type, P.underlying b.type, P.underlying c.type, P.underlying d.type with | some (.int .i64), some (.int .i64), some (.int .u64), some (.int .u64) => true | _, _, _, _ => false) &&
      (match P.underlying e.type with | some (.slice q) => edgTB P q | _ => false) &&
      (P.cellsOf t == 5)
    | _, _, _, _, _ => false
  | _ => false
theorem op_nfa {t : TypeId} (hB : nfaTB P t = true) {fuel : Nat} {cs : List Value} {x : DataW H × List MemPlace} (h : DataW.trod enc P W 0 (fun _ => true) true fuel t cs = some x) :
    ∃ (n : Nfa) (vE : Value), cs = [.int .i64 n.L, .int .i64 n.S, uv n.st, uv n.fi, vE] ∧ Rd (fun b => ¬ False) W vE 3 n.es.length (edc n.es) := by
  unfold nfaTB at hB
  split at hB
  case h_2 => cases hB
  rename_i fs hu
  split at hB
  case h_2 => cases hB
  rename_i a b c d e ha hb hc hd he
  simp only [Bool.and_eq_true, beq_iff_eq] at hB
  obtain ⟨⟨⟨⟨⟨⟨⟨⟨oa, ob⟩, oc⟩, od⟩, oe⟩, ⟨⟨⟨ca, cb⟩, cc⟩, cd⟩, ce⟩, hi⟩, hE⟩, ht5⟩ := hB
  obtain ⟨xs, n, _, _, hl, _, hf⟩ := DataW.trod_struct hu h
  have fa := hf 0 a ha
  have fb := hf 1 b hb
  have fc := hf 2 c hc
  have fd := hf 3 d hd
  have fe := hf 4 e he
  have some_of : ∀ (i : Nat) (g : Field), fs[i]? = some g → ∃ y, xs[i]? = some y := fun i g hg => by
    have : i < xs.length := by
      have h1 := (Array.getElem?_eq_some_iff.1 hg).1
      omega
    exact ⟨xs[i], List.getElem?_eq_getElem this⟩
  obtain ⟨ya, ea⟩ := some_of 0 a ha
  obtain ⟨yb, eb⟩ := some_of 1 b hb
  obtain ⟨yc, ec⟩ := some_of 2 c hc
  obtain ⟨yd, ed⟩ := some_of 3 d hd
  obtain ⟨ye, ee⟩ := some_of 4 e he
  rw [ea, oa, ca] at fa
  rw [eb, ob, cb] at fb
  rw [ec, oc, cc] at fc
  rw [ed, od, cd] at fd
  rw [ee, oe, ce] at fe
  rw [ht5] at hl
  split at hi
  case h_2 => cases hi
  rename_i ua ub uc ud
  split at hE
  case h_2 => cases hE
  rename_i q uq
  match cs, hl with
  | [v0, v1, v2, v3, v4], _ =>
    simp at fa fb fc fd fe
    obtain ⟨L, h0, _, w0⟩ := DataW.trod_int ua fa
    obtain ⟨S, h1, _, w1⟩ := DataW.trod_int ub fb
    obtain ⟨z2, h2, _, w2⟩ := DataW.trod_int uc fc
    obtain ⟨z3, h3, _, w3⟩ := DataW.trod_int ud fd
    obtain ⟨vE, es, h4, r4⟩ := op_edges uq hE fe
    obtain ⟨x2, e2⟩ := wfu_of w2
    obtain ⟨x3, e3⟩ := wfu_of w3
    cases h0; cases h1; cases h2; cases h3; cases h4
    exact ⟨⟨L, S, x2, x3, es⟩, _, by rw [e2, e3], r4⟩
theorem open_nfa {t : TypeId} (hB : nfaTB P t = true) {v : Value} {d : DataW H} {p : List MemPlace} (hval : Value.okWide P W .any 0 t v) (h : DataW.Trod enc P W 0 (fun _ => true) true t v d p) : ∃ n : Nfa, RdN (fun _ => False) W v n := by
  obtain ⟨fuel, hf⟩ := h
  have hst : ∃ fs, P.underlying t = some (.struct fs) := by
    unfold nfaTB at hB
    split at hB
    · exact ⟨_, ‹_›⟩
    · cases hB
  obtain ⟨fs, hu⟩ := hst
  obtain ⟨cs, rfl, _⟩ := okWide_struct hu hval
  have hf' : DataW.trod enc P W 0 (fun _ => true) true fuel t cs.toList = some (d, p) := by simpa [Value.cells] using hf
  obtain ⟨n, vE, e, r⟩ := op_nfa hB hf'
  have this : cs = #[.int .i64 n.L, .int .i64 n.S, uv n.st, uv n.fi, vE] := by
    apply Array.toList_inj.1; simpa using e
  exact ⟨n, ⟨vE, by rw [this], r⟩⟩
end
end Go.Sx
