import Derived.Test.YtaeojcaidcjnaaaRh
set_option linter.unusedVariables false
set_option linter.unusedSimpArgs false
namespace Go.Sx
open Go.RowKit
def RedV (rs : List Rul) (u : Wrd) : Wrd := if errR 6 rs = 0 ∧ validW 6 u = true then redV rs u else []
def RedE (rs : List Rul) (u : Wrd) : Int := if errR 6 rs ≠ 0 then errR 6 rs else if validW 6 u = true then redE rs u else 1
theorem Rd.ownG {C : Cx} {on : List Asn} {w : World} {v : Value} {E : TypeId} {sz n : Nat} {cs : List Value} (i : Nat) (hw : HW C on w) (hi : on[i]? = some (row v E sz n cs)) : Rd (fun _ => ¬ False) w v sz n cs :=
  (RdS.own (C := C) i hi w hw).mono fun b _ _ => ⟨id, rfl⟩
def aRul : List Rul := [([98, 97], [97, 98])]
theorem awake_f : redF aRul 100000 [98, 97, 98] = some [97, 98, 98] := by
  rw [redF_some (f := 99999) (v := [97, 98, 98]) (by rfl)]
  exact redF_none (by rfl)
theorem awake_err : errR 6 aRul = 0 := by decide +kernel
theorem awake_val : validW 6 [98, 97, 98] = true := by decide +kernel
theorem awake_v : RedV [([98, 97], [97, 98])] [98, 97, 98] = [97, 98, 98] :=
  (if_pos ⟨awake_err, awake_val⟩).trans (red_some awake_f).1
theorem awake_e : RedE [([98, 97], [97, 98])] [98, 97, 98] = 0 :=
  (if_neg (fun h => h awake_err)).trans ((if_pos awake_val).trans (red_some awake_f).2)
end Go.Sx
