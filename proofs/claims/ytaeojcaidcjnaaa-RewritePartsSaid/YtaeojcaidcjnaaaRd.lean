import Derived.Test.YtaeojcaidcjnaaaRc
import Derived.KernelRfl
set_option linter.unusedVariables false
set_option linter.unusedSimpArgs false
namespace Go.Sx
open Go.RowKit
def z6 : Value := .agg #[.int .i32 0, .int .i32 0, .int .i32 0, .int .i32 0, .int .i32 0, .int .i32 0]
theorem made6 : (madeCells z6.cells (1 * 6)).toList = (List.replicate 6 (0 : Int)).map (Value.int .i32) := by kernel_rfl
theorem z6_one : one' z6.cells.toList := by intro u hu; simp [z6, Value.cells] at hu; subst hu; rfl
theorem at6s {fl : List Int} {p p' : Nat} {b : Int} {zs : List Value} (h : p < fl.length) (e : p' = p) : ((fl.set p b).map (Value.int .i32) ++ zs)[p']? = some (.int .i32 b) := by
  subst e
  rw [List.getElem?_append_left (by simpa using h), at6 (by simpa using h) rfl, getD_set_eq h]
theorem ltr_of {c : UInt8} (h : 97 ≤ c.toNat ∧ c.toNat < 103) : ∃ x : Nat, x < 6 ∧ c = ltr x ∧ (c.toNat : Int) - 97 = x :=
  ⟨c.toNat - 97, by omega, UInt8.toNat_inj.1 (by rw [ltr_toNat (by omega)]; omega), by omega⟩
theorem take_ltr {p : Wrd} {j : Nat} (h : j < p.length) {x : Nat} (e : p.getD j 0 = ltr x) : p.take (j + 1) = p.take j ++ [ltr x] := by
  rw [take_snocD 0 p j h, e]
/-- a word over the six letters -/
def Al (p : Wrd) : Prop := p.length ≤ 2048 ∧ ∀ k, k < p.length → 97 ≤ (p.getD k 0).toNat ∧ (p.getD k 0).toNat < 103
/-- the letters of the first k patterns -/
def tot (ps : List Wrd) : Nat → Nat
  | 0 => 0
  | k + 1 => tot ps k + (ps.getD k []).length
theorem tot_le {ps : List Wrd} (h : ∀ k, k < ps.length → Al (ps.getD k [])) : ∀ k, k ≤ ps.length → tot ps k ≤ k * 2048
  | 0, _ => Nat.le_refl _
  | k + 1, hk => by
    have h1 := tot_le h k (by omega)
    have h2 := (h k (by omega)).1
    unfold tot; omega
end Go.Sx
