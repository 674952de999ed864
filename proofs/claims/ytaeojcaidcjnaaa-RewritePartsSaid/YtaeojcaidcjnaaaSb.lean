import Derived.Test.YtaeojcaidcjnaaaRb
import Derived.Laws.StructEq
set_option linter.unusedVariables false
set_option linter.unusedSimpArgs false
namespace Go.Sx
open Go.RowKit
/-! ### equality of structs of three strings -/
def eqT3B (P : Program) (t : TypeId) : Bool := match P.underlying t with
  | some (.struct fs) => match fs.toList with
    | [f0, f1, f2] => (match P.underlying f0.type with | some .string => true | _ => false) && (match P.underlying f1.type with | some .string => true | _ => false) && (match P.underlying f2.type with | some .string => true | _ => false) && f0.offset == 0 && f1.offset == 1 && f2.offset == 2 && f0.name != "_" && f1.name != "_" && f2.name != "_" && !P.stoodInHeld t && !P.eqGuardType P.depth t
    | _ => false
  | _ => false
def Crit' : Type := Wrd × Wrd × Wrd
def cv' (c : Wrd × Wrd × Wrd) : Value := .agg #[sv c.1, sv c.2.1, sv c.2.2]
theorem eqT3_of {P : Program} {t : TypeId} (h : eqT3B P t = true) : P.eqGuardType P.depth t = false ∧ ∀ (a b : Wrd × Wrd × Wrd) (w : World), (Op.equalIn 10000 t (cv' a) (cv' b)).run P w = .ok (decide (a = b)) w := by
  unfold eqT3B at h
  split at h
  case h_2 => cases h
  rename_i fs hu
  split at h
  case h_2 => cases h
  rename_i f0 f1 f2 hf
  simp only [Bool.and_eq_true, beq_iff_eq, bne_iff_ne, Bool.not_eq_true'] at h
  obtain ⟨⟨⟨⟨⟨⟨⟨⟨⟨⟨h0, h1⟩, h2⟩, o0⟩, o1⟩, o2⟩, n0⟩, n1⟩, n2⟩, hp⟩, hg⟩ := h
  split at h0
  case h_2 => cases h0
  rename_i u0
  split at h1
  case h_2 => cases h1
  rename_i u1
  split at h2
  case h_2 => cases h2
  rename_i u2
  refine ⟨hg, fun a b w => ?_⟩
  have hfs : P.fieldsOf t = fs := by unfold Program.fieldsOf; rw [hu]
  have hu2 : P.underlying t = some (.struct (P.fieldsOf t)) := by rw [hfs]; exact hu
  rw [show cv' a = .agg #[sv a.1, sv a.2.1, sv a.2.2] from rfl, show cv' b = .agg #[sv b.1, sv b.2.1, sv b.2.2] from rfl, run_equalIn_struct w 9999 t _ _ hu2 hp, hfs, hf]
  have p : ∀ (f : Field) (cs : Array Value) (v : Value) (w : World), P.underlying f.type = some .string → cs[f.offset]? = some v → (part f.type cs f.offset).run P w = .ok v w := fun f cs v w hs hv => by
    simp [part, isAgg, run_underlying hs, hv]
  have q : ∀ (d : Nat) (f : Field) (u v : Wrd) (w : World), P.underlying f.type = some .string → (Op.equalIn (d + 1) f.type (sv u) (sv v)).run P w = .ok (decide (u = v)) w := fun d f u v w hs => by
    unfold sv
    rw [run_equalIn_string w d f.type _ _ hs]
    congr 1
    rw [Bool.eq_iff_iff]
    simp [toList_mk]
  obtain ⟨a1, a2, a3⟩ := a
  obtain ⟨b1, b2, b3⟩ := b
  simp only [Op.eqFields, n0, n1, n2, ne_eq, not_false_eq_true, if_true, Sem.run_bind]
  rw [p f0 _ (sv a1) w u0 (by rw [o0]; rfl)]
  simp only [Result.andThen_ok]
  rw [p f0 _ (sv b1) w u0 (by rw [o0]; rfl)]
  simp only [Result.andThen_ok, q 9998 f0 _ _ _ u0]
  by_cases e1 : a1 = b1
  · rw [decide_eq_true e1]
    simp only [Bool.not_true, Bool.false_eq_true, if_false, Sem.run_bind]
    rw [p f1 _ (sv a2) w u1 (by rw [o1]; rfl)]
    simp only [Result.andThen_ok]
    rw [p f1 _ (sv b2) w u1 (by rw [o1]; rfl)]
    simp only [Result.andThen_ok, q 9998 f1 _ _ _ u1]
    by_cases e2 : a2 = b2
    · rw [decide_eq_true e2]
      simp only [Bool.not_true, Bool.false_eq_true, if_false, Sem.run_bind]
      rw [p f2 _ (sv a3) w u2 (by rw [o2]; rfl)]
      simp only [Result.andThen_ok]
      rw [p f2 _ (sv b3) w u2 (by rw [o2]; rfl)]
      simp only [Result.andThen_ok, q 9998 f2 _ _ _ u2]
      by_cases e3 : a3 = b3
      · rw [decide_eq_true e3]
        simp [e1, e2, e3]
      · rw [decide_eq_false e3]
        simp [e3]
    · rw [decide_eq_false e2]
      simp [e2]
  · rw [decide_eq_false e1]
    simp [e1]
section
variable {C : Cx} {sl : List (Nat × Value)} {own : List Asn} {dst : Option Nat} {ty : TypeId} {pos : String} {aft : Array Edge} {g : Option (Nat × Bool)}
theorem Yl.eqlC {x y : Operand} {t t' : TypeId} {a b : Wrd × Wrd × Wrd} (ht : eqT3B C.P t = true) (hx : opv ⟨sl, own⟩ x = some (cv' a)) (hy : opv ⟨sl, own⟩ y = some (cv' b)) :
    Yl C ⟨sl, own⟩ ⟨dst, .binOp .eql t x y t', ty, pos, aft, g⟩ (.bool (decide (a = b))) := fun act w hs => by
  obtain ⟨hg, hE⟩ := eqT3_of ht
  simp only [execOp, opv_eval hs hx, opv_eval hs hy]
  have h1 := run_eqGuard_agg (P := C.P) w .eql t x y #[sv a.1, sv a.2.1, sv a.2.2] #[sv b.1, sv b.2.1, sv b.2.2] hg
  have h2 := run_eql_struct (P := C.P) w t #[sv a.1, sv a.2.1, sv a.2.2] #[sv b.1, sv b.2.1, sv b.2.2]
  have h3 := hE a b w
  simp only [cv'] at h3 ⊢
  rw [h3] at h2
  simp [h1, h2]
theorem Yl.neqC {x y : Operand} {t t' : TypeId} {a b : Wrd × Wrd × Wrd} (ht : eqT3B C.P t = true) (hx : opv ⟨sl, own⟩ x = some (cv' a)) (hy : opv ⟨sl, own⟩ y = some (cv' b)) :
    Yl C ⟨sl, own⟩ ⟨dst, .binOp .neq t x y t', ty, pos, aft, g⟩ (.bool (decide (¬ a = b))) := fun act w hs => by
  obtain ⟨hg, hE⟩ := eqT3_of ht
  simp only [execOp, opv_eval hs hx, opv_eval hs hy]
  have h1 := run_eqGuard_agg (P := C.P) w .neq t x y #[sv a.1, sv a.2.1, sv a.2.2] #[sv b.1, sv b.2.1, sv b.2.2] hg
  have h2 := run_neq_struct (P := C.P) w t #[sv a.1, sv a.2.1, sv a.2.2] #[sv b.1, sv b.2.1, sv b.2.2]
  have h3 := hE a b w
  simp only [cv'] at h3 ⊢
  rw [h3] at h2
  simp [h1, h2]
end
end Go.Sx
