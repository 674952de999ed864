import Derived.Test.YtckicbgffhbacaaDoorNh
set_option linter.unusedVariables false
set_option linter.unusedSimpArgs false
namespace Go.Sx
open Go.RowKit
/-! ### a deterministic automaton as a nondeterministic one -/
def tfi (d : Dfa) : Nat → W64
  | 0 => 0
  | k + 1 => if d.fin.getD k false = true then tfi d k ||| bit (k : Int) else tfi d k
theorem tfi_yes {d : Dfa} {k : Nat} (h : d.fin.getD k false = true) : tfi d (k + 1) = tfi d k ||| bit (k : Int) := if_pos h
theorem tfi_no {d : Dfa} {k : Nat} (h : d.fin.getD k false = false) : tfi d (k + 1) = tfi d k := if_neg (by rw [h]; decide)
def rE (d : Dfa) (p j : Nat) : List Edg := (List.range j).map fun (x : Nat) => ((p : Int), (x : Int), (d.nx.getD p []).getD x 0)
theorem rE_next (d : Dfa) (p j : Nat) : rE d p (j + 1) = rE d p j ++ [((p : Int), (j : Int), (d.nx.getD p []).getD j 0)] := by simp [rE, List.range_succ]
theorem rE_len (d : Dfa) (p j : Nat) : (rE d p j).length = j := by simp [rE]
def tes (d : Dfa) : Nat → List Edg
  | 0 => []
  | k + 1 => tes d k ++ rE d k (d.nx.getD k []).length
theorem tes_bd {d : Dfa} (hv : VD d) : ∀ k, k ≤ d.fin.length → (tes d k).length ≤ 6 * k
  | 0, _ => by simp [tes]
  | k + 1, h => by
    have h1 := tes_bd hv k (by omega)
    have h2 := hv.row k (by omega)
    have h3 := hv.L
    rw [tes, List.length_append, rE_len]; omega
def toN (d : Dfa) : Nfa := ⟨d.L, (d.fin.length : Int), bit d.s, tfi d d.fin.length, tes d d.fin.length⟩
def nilN : Nfa := ⟨0, 0, 0, 0, []⟩
def errT (d : Dfa) : Int := if errV d ≠ 0 then errV d else if (d.fin.length : Int) > 64 then 3 else 0
def ToV (d : Dfa) : Nfa := if errT d = 0 then toN d else nilN
theorem errT_bad {d : Dfa} (h : errV d ≠ 0) : errT d = errV d ∧ ToV d = nilN := by
  have e : errT d = errV d := if_pos h
  exact ⟨e, if_neg (by rw [e]; exact h)⟩
theorem errT_big {d : Dfa} (h : errV d = 0) (h2 : (d.fin.length : Int) > 64) : errT d = 3 ∧ ToV d = nilN := by
  have e : errT d = 3 := by unfold errT; rw [if_neg (fun k => k h), if_pos h2]
  exact ⟨e, if_neg (by rw [e]; decide)⟩
theorem errT_ok {d : Dfa} (h : errV d = 0) (h2 : ¬ (d.fin.length : Int) > 64) : errT d = 0 ∧ ToV d = toN d := by
  have e : errT d = 0 := by unfold errT; rw [if_neg (fun k => k h), if_neg h2]
  exact ⟨e, if_pos e⟩
theorem errT_iff {d : Dfa} : errT d = 0 ↔ VD d ∧ (d.fin.length : Int) ≤ 64 := by
  rw [← errV_iff]
  unfold errT
  constructor
  · intro h
    by_cases h1 : errV d = 0
    · rw [if_neg (fun k => k h1)] at h
      by_cases h2 : (d.fin.length : Int) > 64
      · rw [if_pos h2] at h; cases h
      · exact ⟨h1, by omega⟩
    · rw [if_pos h1] at h; exact absurd h h1
  · rintro ⟨h1, h2⟩
    rw [if_neg (fun k => k h1), if_neg (by omega)]
theorem RdN.own {C : Cx} {on : List Asn} {w : World} {vE : Value} {E : TypeId} {n : Nfa} (i : Nat) (hw : HW C on w) (hi : on[i]? = some (row vE E 3 n.es.length (edc n.es))) : RdN (fun _ => False) w (.agg #[.int .i64 n.L, .int .i64 n.S, uv n.st, uv n.fi, vE]) n :=
  ⟨vE, rfl, (RdS.own (C := C) i hi w hw).mono fun b _ _ => ⟨id, rfl⟩⟩
end Go.Sx
