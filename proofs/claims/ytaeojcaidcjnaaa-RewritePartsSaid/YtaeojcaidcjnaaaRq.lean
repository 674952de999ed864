import Derived.Test.YtaeojcaidcjnaaaRp
set_option linter.unusedVariables false
set_option linter.unusedSimpArgs false
namespace Go.Sx
open Go.RowKit
theorem MxA.off {C : Cx} {own : List Asn} {w : World} (h : MxA C.W0) (hS : ¬ C.S 0) (hw : HW C own w) : MxA w := by
  obtain ⟨m, hm⟩ := h
  have hf := hw.frame
  have hlt : 0 < C.W0.heap.size := by
    unfold World.cell? at hm
    rcases Nat.lt_or_ge 0 C.W0.heap.size with k | k
    · exact k
    · rw [Array.getElem?_eq_none (by simpa using k)] at hm; simp at hm
  exact ⟨m, by rw [World.cell?_of_block (hf.block 0 hlt hS)]; exact hm⟩
theorem MxA.off2 {C : Cx} {w : World} (h : MxA C.W0) (hS : ¬ C.S 0) (hf : FrameX C.S C.W0 w) : MxA w := by
  obtain ⟨m, hm⟩ := h
  have hlt : 0 < C.W0.heap.size := by
    unfold World.cell? at hm
    rcases Nat.lt_or_ge 0 C.W0.heap.size with k | k
    · exact k
    · rw [Array.getElem?_eq_none (by simpa using k)] at hm; simp at hm
  exact ⟨m, by rw [World.cell?_of_block (hf.block 0 hlt hS)]; exact hm⟩
theorem MxA.lt {w : World} (h : MxA w) : 0 < w.heap.size := by
  obtain ⟨m, hm⟩ := h
  unfold World.cell? at hm
  rcases Nat.lt_or_ge 0 w.heap.size with k | k
  · exact k
  · rw [Array.getElem?_eq_none (by simpa using k)] at hm; simp at hm
theorem not_F0 {C : Cx} {Fs : Nat → Nat → Prop} {i : Nat} (h : MxA C.W0) (hS : ¬ C.S 0) (hal : ∀ k b, Fs k b → C.W0.heap.size ≤ b ∨ C.S b) : ¬ Fs i 0 :=
  fun h3 => (hal i 0 h3).elim (fun k => by have := h.lt; omega) hS
end Go.Sx
