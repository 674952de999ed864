import Derived.Test.YtifnofnnjcchhaaBc
set_option linter.unusedVariables false
set_option linter.unusedSectionVars false
set_option linter.unusedSimpArgs false
namespace Go.Sx.Pt
theorem both_row {a b : Dfa} (ha : VD a) (hb : VD b) (hL : a.L = b.L) {i : Nat} (hi : i < a.fin.length + b.fin.length) : (((bothD a b).nx.getD i []).length : Int) = a.L := by
  rcases Nat.lt_or_ge i a.fin.length with h | h
  · rw [both_nl ha h]; exact ha.row i h
  · obtain ⟨j, rfl⟩ : ∃ j, i = a.fin.length + j := ⟨i - a.fin.length, by omega⟩
    rw [both_nr ha hb (by omega), List.length_map, hb.row j (by omega)]; exact hL.symm
theorem both_nlen {a b : Dfa} (ha : VD a) (hb : VD b) : (bothD a b).nx.length = a.fin.length + b.fin.length := by
  show (a.nx ++ _).length = _
  rw [List.length_append, List.length_map, ha.nx, hb.nx]
/-- what has been compared: all pairs before (i, j), of (i, j) the letters before x -/
def CkD (a b : Dfa) (p : List Int) (u v : Nat) : Prop := p.getD u 0 = p.getD v 0 → fB a b u = fB a b v ∧ ∀ x : Nat, (x : Int) < a.L → p.getD (sB a b x u) 0 = p.getD (sB a b x v) 0
theorem chk_all {a b : Dfa} {p : List Int} (hE : pairE a b = 0) (hl : p.length = a.fin.length + b.fin.length) (hv : ValidP p) (hs : p.getD a.s.toNat 0 = p.getD ((a.fin.length : Int) + b.s).toNat 0) (h : ∀ i j, i < a.fin.length + b.fin.length → j < i → CkD a b p i j) : ChkP a b p := by
  refine ⟨hE, hl, hv, hs, fun u v hu hv' he => ?_, fun u v x hx hu hv' he => ?_⟩
  · rcases Nat.lt_trichotomy u v with h1 | rfl | h1
    · exact ((h v u hv' h1 he.symm).1).symm
    · rfl
    · exact (h u v hu h1 he).1
  · rcases Nat.lt_trichotomy u v with h1 | rfl | h1
    · exact ((h v u hv' h1 he.symm).2 x hx).symm
    · rfl
    · exact (h u v hu h1 he).2 x hx
end Go.Sx.Pt
namespace Go.Sx.Pt
/-- of the class c, its first member and its member m agree -/
def Pk (a b : Dfa) (p : List Int) (c m : Nat) : Prop := fB a b (((classB p).getD c []).getD 0 0).toNat = fB a b (((classB p).getD c []).getD m 0).toNat ∧ ∀ x : Nat, (x : Int) < a.L → p.getD (sB a b x (((classB p).getD c []).getD 0 0).toNat) 0 = p.getD (sB a b x (((classB p).getD c []).getD m 0).toNat) 0
theorem Pk.refl (a b : Dfa) (p : List Int) (c : Nat) : Pk a b p c 0 := ⟨rfl, fun _ _ => rfl⟩
theorem in_class {p : List Int} (hv : ValidP p) {u : Nat} (hu : u < p.length) : (p.getD u 0).toNat < (classB p).length ∧ ∃ m, m < ((classB p).getD (p.getD u 0).toNat []).length ∧ ((classB p).getD (p.getD u 0).toNat []).getD m 0 = (u : Int) := by
  obtain ⟨c1, c2, c3⟩ := valid_cnt hv
  have hm := c3 _ (mem_getD 0 hu)
  have hlt : (p.getD u 0).toNat < (classB p).length := by rw [classB_len hv]; omega
  refine ⟨hlt, ?_⟩
  have : (u : Int) ∈ (classB p).getD (p.getD u 0).toNat [] := (classB_mem hv hlt _).2 ⟨by omega, by omega, by rw [Int.toNat_natCast]; omega⟩
  obtain ⟨m, hm', e⟩ := List.getElem_of_mem this
  exact ⟨m, hm', by rw [List.getD_eq_getElem?_getD, List.getElem?_eq_getElem hm']; exact e⟩
theorem chk_cls {a b : Dfa} {p : List Int} (hE : pairE a b = 0) (hl : p.length = a.fin.length + b.fin.length) (hv : ValidP p) (hs : p.getD a.s.toNat 0 = p.getD ((a.fin.length : Int) + b.s).toNat 0) (h : ∀ c m, c < (classB p).length → m < ((classB p).getD c []).length → Pk a b p c m) : ChkP a b p := by
  refine chk_all hE hl hv hs fun i j hi hj he => ?_
  obtain ⟨i1, mi, i2, i3⟩ := in_class hv (show i < p.length by omega)
  obtain ⟨j1, mj, j2, j3⟩ := in_class hv (show j < p.length by omega)
  rw [← he] at j1 j2 j3
  have hi' := h _ _ i1 i2
  have hj' := h _ _ j1 j2
  unfold Pk at hi' hj'
  rw [i3, Int.toNat_natCast] at hi'
  rw [j3, Int.toNat_natCast] at hj'
  exact ⟨hi'.1.symm.trans hj'.1, fun x hx => (hi'.2 x hx).symm.trans (hj'.2 x hx)⟩
theorem chk_pk {a b : Dfa} {p : List Int} (h : ChkP a b p) {c m : Nat} (hc : c < (classB p).length) (hm : m < ((classB p).getD c []).length) : Pk a b p c m := by
  obtain ⟨u1, u2, u3⟩ := cl_at h.valid hc (show 0 < _ by omega)
  obtain ⟨v1, v2, v3⟩ := cl_at h.valid hc hm
  have hl := h.len
  have e : p.getD (((classB p).getD c []).getD 0 0).toNat 0 = p.getD (((classB p).getD c []).getD m 0).toNat 0 := by rw [u3, v3]
  exact ⟨h.fin _ _ (by omega) (by omega) e, fun x hx => h.step _ _ x hx (by omega) (by omega) e⟩
end Go.Sx.Pt
namespace Go.Sx.Pt
theorem valid_onto {xs : List Int} (h : ValidP xs) {c : Int} (h0 : 0 ≤ c) (h1 : c < cntL xs) : c ∈ xs := by
  obtain ⟨k, hk⟩ := Option.isSome_iff_exists.1 ((vst_iff xs).2 h.2)
  have e := (cntL_vst xs k hk).1
  have h2 := ((vst_ok xs).1 k hk).2.2 c
  rw [if_pos ⟨h0, by omega⟩] at h2
  apply Classical.byContradiction
  intro hn
  rw [((cst_mem xs).1 c).2 hn] at h2
  cases h2
theorem class_pos {p : List Int} (hv : ValidP p) {c : Nat} (hc : c < (classB p).length) : 0 < ((classB p).getD c []).length := by
  have hl := classB_len hv
  obtain ⟨c1, c2, c3⟩ := valid_cnt hv
  have hm := valid_onto hv (c := (c : Int)) (by omega) (by omega)
  obtain ⟨i, hi, e⟩ := List.getElem_of_mem hm
  have : (i : Int) ∈ (classB p).getD c [] := (classB_mem hv hc _).2 ⟨by omega, by omega, by rw [Int.toNat_natCast, List.getD_eq_getElem?_getD, List.getElem?_eq_getElem hi]; exact e⟩
  exact List.length_pos_of_mem this
end Go.Sx.Pt
