import Derived.Test.YtifnofnnjcchhaaBc
set_option linter.unusedVariables false
set_option linter.unusedSectionVars false
set_option linter.unusedSimpArgs false
namespace Go.Sx.Pt
theorem both_row {a b : Dfa} (ha : VD a) (hb : VD b) (hL : a.L = b.L) {i : Nat} (hi : i < a.fin.length + b.fin.length) : (((bothD a b).nx.getD i []).length : Int) = a.L := by
  rcases Nat.lt_or_ge i a.fin.length with h | h
  · rw [both_nl ha h]; exact ha.row i h
  · obtain ⟨j, rfl⟩ : ∃ j, i = a.fin.length + j := ⟨i - a.fin.length, by omega⟩
    rw [both_nr ha hb (by omega), List.length_map, hb.row j (by omega)]; exact hL.symm
theorem both_nlen {a b : Dfa} (ha : VD a) (hb : VD b) : (bothD a b).nx.length = a.fin.length + b.fin.length := by
  show (a.nx ++ _).length = _
  rw [List.length_append, List.length_map, ha.nx, hb.nx]
/-- what has been compared: all pairs before (i, j), of (i, j) the letters before x -/
def CkD (a b : Dfa) (p : List Int) (u v : Nat) : Prop := p.getD u 0 = p.getD v 0 → fB a b u = fB a b v ∧ ∀ x : Nat, (x : Int) < a.L → p.getD (sB a b x u) 0 = p.getD (sB a b x v) 0
theorem chk_all {a b : Dfa} {p : List Int} (hE : pairE a b = 0) (hl : p.length = a.fin.length + b.fin.length) (hv : ValidP p) (hs : p.getD a.s.toNat 0 = p.getD ((a.fin.length : Int) + b.s).toNat 0) (h : ∀ i j, i < a.fin.length + b.fin.length → j < i → CkD a b p i j) : ChkP a b p := by
  refine ⟨hE, hl, hv, hs, fun u v hu hv' he => ?_, fun u v x hx hu hv' he => ?_⟩
  · rcases Nat.lt_trichotomy u v with h1 | rfl | h1
    · exact ((h v u hv' h1 he.symm).1).symm
    · rfl
    · exact (h u v hu h1 he).1
  · rcases Nat.lt_trichotomy u v with h1 | rfl | h1
    · exact ((h v u hv' h1 he.symm).2 x hx).symm
    · rfl
    · exact (h u v hu h1 he).2 x hx
end Go.Sx.Pt
