import Derived.Test.YtkdidaiedibhaaaSz
import Derived.ProofKit
import Derived.OpenShut
namespace Go.Sx
open Go.ChangeShapes Go.WideShapes Go.ChangeAt Go.RowKit
/-! ### what came in, opened -/
def Wf64 (x : Int) : Prop := -9223372036854775808 ≤ x ∧ x ≤ 9223372036854775807

theorem wf64_of {x : Int} (h : (Lit.int .i64 x).wf = true) : Wf64 x := by
  have := bounds_i64 h
  exact this

theorem open_rdi {H : Type} {enc : TypeId × Value → H} {P : Program} {W : World} {t e : TypeId} {a : Option Addr} {n c : Nat} {d : DataW H} {p : List MemPlace} (ht : P.underlying t = some (.slice e)) (he : P.underlying e = some (.int .i64)) (hc : P.cellsOf e = 1)
    (h : DataW.Trod enc P W 0 (fun _ => true) true t (.slice a n c) d p) : ∃ xs, RdI W (.slice a n c) xs ∧ ∀ x ∈ xs, Wf64 x := by
  obtain ⟨fuel, hf⟩ := h
  rcases open_ints ht he hc hf with ⟨hcs, _⟩ | ⟨y, l, cp, zs, hcs, _, hl, hm, hz, _, hcell, hwz⟩
  · simp [Value.cells] at hcs
    obtain ⟨rfl, rfl, rfl⟩ := hcs
    exact ⟨[], ⟨none, 0, rfl, by simp [maxLen], rfl, fun h => by simp at h, fun a j u ha => by cases ha⟩, by simp⟩
  · simp [Value.cells] at hcs
    obtain ⟨rfl, rfl, rfl⟩ := hcs
    have hz' : zs.length = c := by simpa using hz
    refine ⟨zs.take n, ⟨some y, c, ?_, ?_, ?_, fun _ _ => rfl, ?_⟩, fun x hx => wf64_of (hwz x (List.mem_of_mem_take hx))⟩
    · simp; omega
    · simp [maxLen] at hm ⊢; omega
    · simp
    · intro ad j u had hj
      cases had
      refine ⟨id, ?_⟩
      rw [List.getElem?_map, List.getElem?_take] at hj
      split at hj
      · rename_i hjn
        have hjl : j < zs.length := by omega
        rw [List.getElem?_eq_getElem hjl] at hj
        simp at hj
        have := hcell j hjl
        rw [this, ← hj, List.getD_eq_getElem?_getD, List.getElem?_eq_getElem hjl]; rfl
      · simp at hj
end Go.Sx
