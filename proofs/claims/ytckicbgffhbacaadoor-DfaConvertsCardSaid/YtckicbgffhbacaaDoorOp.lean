import Derived.Test.YtckicbgffhbacaaDoorS1
import Derived.ProofKit
import Derived.OpenShut
import Derived.Deep.Slices
namespace Go.Sx
open Go.ChangeShapes Go.WideShapes Go.ChangeAt Go.RowKit
/-! ### what came in, opened -/
def Wf64 (x : Int) : Prop := -9223372036854775808 ≤ x ∧ x ≤ 9223372036854775807

theorem wf64_of {x : Int} (h : (Lit.int .i64 x).wf = true) : Wf64 x := by
  have := bounds_i64 h
  exact this

theorem open_rdi {H : Type} {enc : TypeId × Value → H} {P : Program} {W : World} {t e : TypeId} {a : Option Addr} {n c : Nat} {d : DataW H} {p : List MemPlace} (ht : P.underlying t = some (.slice e)) (he : P.underlying e = some (.int .i64)) (hc : P.cellsOf e = 1)
    (h : DataW.Trod enc P W 0 (fun _ => true) true t (.slice a n c) d p) : ∃ xs, RdI W (.slice a n c) xs ∧ ∀ x ∈ xs, Wf64 x := by
  obtain ⟨fuel, hf⟩ := h
  rcases open_ints ht he hc hf with ⟨hcs, _⟩ | ⟨y, l, cp, zs, hcs, _, hl, hm, hz, _, hcell, hwz⟩
  · simp [Value.cells] at hcs
    obtain ⟨rfl, rfl, rfl⟩ := hcs
    exact ⟨[], ⟨none, 0, rfl, by simp [maxLen], rfl, fun h => by simp at h, fun a j u ha => by cases ha⟩, by simp⟩
  · simp [Value.cells] at hcs
    obtain ⟨rfl, rfl, rfl⟩ := hcs
    have hz' : zs.length = c := by simpa using hz
    refine ⟨zs.take n, ⟨some y, c, ?_, ?_, ?_, fun _ _ => rfl, ?_⟩, fun x hx => wf64_of (hwz x (List.mem_of_mem_take hx))⟩
    · simp; omega
    · simp [maxLen] at hm ⊢; omega
    · simp
    · intro ad j u had hj
      cases had
      refine ⟨id, ?_⟩
      rw [List.getElem?_map, List.getElem?_take] at hj
      split at hj
      · rename_i hjn
        have hjl : j < zs.length := by omega
        rw [List.getElem?_eq_getElem hjl] at hj
        simp at hj
        have := hcell j hjl
        rw [this, ← hj, List.getD_eq_getElem?_getD, List.getElem?_eq_getElem hjl]; rfl
      · simp at hj


open Go.Deep (open_slice open_slice1 choose_lt add_add) in
theorem open_rdb {H : Type} {enc : TypeId × Value → H} {P : Program} {W : World} {t e : TypeId} {a : Option Addr} {n c : Nat} {d : DataW H} {p : List MemPlace} (ht : P.underlying t = some (.slice e)) (he : P.underlying e = some .bool) (hc : P.cellsOf e = 1)
    (h : DataW.Trod enc P W 0 (fun _ => true) true t (.slice a n c) d p) : ∃ xs, RdI8 W (.slice a n c) xs := by
  obtain ⟨fuel, hf⟩ := h
  rcases open_slice1 ht hc hf with ⟨hcs, _⟩ | ⟨y, l, cp, m, k, V, D, Pl, hcs, _, hl, hm, hmm, _, hx⟩
  · simp [Value.cells] at hcs
    obtain ⟨rfl, rfl, rfl⟩ := hcs
    exact ⟨[], ⟨none, 0, rfl, by simp [maxLen], rfl, fun h => by simp at h, fun a j u ha => by cases ha⟩⟩
  · simp [Value.cells] at hcs
    obtain ⟨rfl, rfl, rfl⟩ := hcs
    have hmc : m = c := by simpa using hmm
    subst hmc
    obtain ⟨B, hB⟩ := choose_lt (n := m) (p := fun i (b : Bool) => V i = .bool b) (fun i hi => by
      obtain ⟨b, hb, _⟩ := DataW.trod_bool he (hx i hi).2
      exact ⟨b, by simpa using hb⟩)
    refine ⟨(List.range n).map B, ⟨some y, m, ?_, ?_, ?_, fun _ _ => rfl, ?_⟩⟩
    · simp
    · simp [maxLen] at hm ⊢; omega
    · simp
    · intro ad j u had hj
      cases had
      refine ⟨id, ?_⟩
      have hjn : j < n := by
        have := (List.getElem?_eq_some_iff.1 hj).1
        simpa using this
      simp [hjn] at hj
      have := (hx j (by omega)).1
      rw [this, hB j (by omega), hj]

open Go.Deep (open_slice choose_lt add_add) in
theorem open_rdp {H : Type} {enc : TypeId × Value → H} {P : Program} {W : World} {t e ei : TypeId} {a : Option Addr} {n c : Nat} {d : DataW H} {p : List MemPlace} (ht : P.underlying t = some (.slice e)) (he : P.underlying e = some (.array 2 ei)) (hi : P.underlying ei = some (.int .i64)) (hc : P.cellsOf e = 2) (hci : P.cellsOf ei = 1)
    (h : DataW.Trod enc P W 0 (fun _ => true) true t (.slice a n c) d p) : ∃ xs, RdP W (.slice a n c) xs ∧ ∀ x ∈ xs, Wf64 x.1 ∧ Wf64 x.2 := by
  obtain ⟨fuel, hf⟩ := h
  rcases open_slice ht hf with ⟨hcs, _⟩ | ⟨y, l, cp, m, k, D, Pl, hcs, _, hl, hm, hmm, _, hx⟩
  · simp [Value.cells] at hcs
    obtain ⟨rfl, rfl, rfl⟩ := hcs
    exact ⟨[], ⟨none, 0, rfl, by simp [maxLen], rfl, fun h => by simp at h, fun a j u ha => by cases ha⟩, by simp⟩
  · simp [Value.cells] at hcs
    obtain ⟨rfl, rfl, rfl⟩ := hcs
    have hmc : m = c := by simpa using hmm
    subst hmc
    rw [hc] at hx
    obtain ⟨B, hB⟩ := choose_lt (n := m) (p := fun i (b : Int × Int) => W.cell? (y.add (i * 2)) = some (.int .i64 b.1) ∧ W.cell? (y.add (i * 2 + 1)) = some (.int .i64 b.2) ∧ (Lit.int .i64 b.1).wf = true ∧ (Lit.int .i64 b.2).wf = true) (fun i hi' => by
      obtain ⟨cs', h1, h2⟩ := hx i hi'
      obtain ⟨xs, q, rfl, _, hcl, hxl, hxe⟩ := DataW.trod_array he h2
      obtain ⟨_, hlen, hcell⟩ := World.cells?_some h1
      rw [hci] at hxe
      match cs', hlen, xs, hxl with
      | [u, v], _, [r, s], _ =>
        have e0 := hxe 0 (by omega)
        have e1 := hxe 1 (by omega)
        simp at e0 e1
        obtain ⟨x0, f0, _, w0⟩ := DataW.trod_int hi e0
        obtain ⟨x1, f1, _, w1⟩ := DataW.trod_int hi e1
        simp at f0 f1
        subst f0; subst f1
        have c0 := hcell 0 (by simp)
        have c1 := hcell 1 (by simp)
        rw [add_add] at c0 c1
        simp at c0 c1
        exact ⟨(x0, x1), c0, c1, w0, w1⟩)
    refine ⟨(List.range n).map B, ⟨some y, m, ?_, ?_, ?_, fun _ _ => rfl, ?_⟩, ?_⟩
    · simp
    · simp [maxLen] at hm ⊢; omega
    · rw [pcs_length]
    · intro ad j u had hj
      cases had
      refine ⟨id, ?_⟩
      have hjn : j < n * 2 := by
        have := (List.getElem?_eq_some_iff.1 hj).1
        rw [pcs_length] at this; simpa using this
      have e := pcs_at ((List.range n).map B) (j / 2) (by simp; omega)
      have e' := congrArg (fun l => l[j % 2]?) e
      simp only [List.getElem?_take, List.getElem?_drop] at e'
      rw [if_pos (Nat.mod_lt _ (by omega)), show j / 2 * 2 + j % 2 = j from by omega, hj] at e'
      have hr : ((List.range n).map B).getD (j / 2) (0, 0) = B (j / 2) := by simp [List.getD_eq_getElem?_getD, show j / 2 < n by omega]
      rw [hr] at e'
      obtain ⟨b1, b2, _⟩ := hB (j / 2) (by omega)
      rcases Nat.mod_two_eq_zero_or_one j with hm0 | hm1
      · rw [hm0] at e'
        simp at e'
        rw [show j = j / 2 * 2 from by omega, b1, e']
      · rw [hm1] at e'
        simp at e'
        rw [show j = j / 2 * 2 + 1 from by omega]
        rw [b2, e']
    · intro x hx'
      simp at hx'
      obtain ⟨i, hin, rfl⟩ := hx'
      obtain ⟨_, _, w1, w2⟩ := hB i (by omega)
      exact ⟨wf64_of w1, wf64_of w2⟩
end Go.Sx
