import Derived.Test.YtckicbgffhbacaaDoorDP
set_option linter.unusedVariables false
set_option linter.unusedSimpArgs false
namespace Go.Sx
open Go.RowKit
/-! ### uint64 as bit vectors -/
abbrev W64 := BitVec 64
def uv (x : W64) : Value := .int .u64 (x.toNat : Int)
theorem wrap_u64n (n : Nat) : IntKind.u64.wrap (n : Int) = ((n % 2 ^ 64 : Nat) : Int) := by
  simp only [IntKind.wrap, IntKind.bits, IntKind.signed, Bool.false_eq_true, if_false]
  simp [Int.emod_emod_of_dvd] 
theorem ofInt_uv (x : W64) : BitVec.ofInt 64 (x.toNat : Int) = x := by
  apply BitVec.eq_of_toNat_eq
  rw [BitVec.toNat_ofInt]
  have := x.isLt
  omega
theorem wrap_uv (x : W64) : IntKind.u64.wrap ((x.toNat : Nat) : Int) = (x.toNat : Int) := by
  rw [wrap_u64n, Nat.mod_eq_of_lt x.isLt]
section
variable {C : Cx} {sl : List (Nat × Value)} {own : List Asn} {dst : Option Nat} {ty : TypeId} {pos : String} {aft : Array Edge} {g : Option (Nat × Bool)} {x y : Operand} {t t' : TypeId} {a b : W64}
theorem Yl.andU (hx : opv ⟨sl, own⟩ x = some (uv a)) (hy : opv ⟨sl, own⟩ y = some (uv b)) : Yl C ⟨sl, own⟩ ⟨dst, .binOp .and t x y t', ty, pos, aft, g⟩ (uv (a &&& b)) :=
  fun act w hs => by
    simp only [execOp, opv_eval hs hx, opv_eval hs hy, uv]
    simp [go_sem, binOp, Op.intBits, IntKind.bits, ofInt_uv, wrap_uv, -BitVec.toNat_and]
    rfl
theorem Yl.orU (hx : opv ⟨sl, own⟩ x = some (uv a)) (hy : opv ⟨sl, own⟩ y = some (uv b)) : Yl C ⟨sl, own⟩ ⟨dst, .binOp .or t x y t', ty, pos, aft, g⟩ (uv (a ||| b)) :=
  fun act w hs => by
    simp only [execOp, opv_eval hs hx, opv_eval hs hy, uv]
    simp [go_sem, binOp, Op.intBits, IntKind.bits, ofInt_uv, wrap_uv, -BitVec.toNat_or]
    rfl
theorem Yl.andNotU (hx : opv ⟨sl, own⟩ x = some (uv a)) (hy : opv ⟨sl, own⟩ y = some (uv b)) : Yl C ⟨sl, own⟩ ⟨dst, .binOp .andNot t x y t', ty, pos, aft, g⟩ (uv (a &&& ~~~b)) :=
  fun act w hs => by
    simp only [execOp, opv_eval hs hx, opv_eval hs hy, uv]
    simp [go_sem, binOp, Op.intBits, IntKind.bits, ofInt_uv, wrap_uv, -BitVec.toNat_and, -BitVec.toNat_not]
    rfl
theorem shl_nat (a : W64) (n : Nat) : ((a.toNat * 2 ^ (min n 64)) % 2 ^ 64) = (a <<< n).toNat := by
  rw [BitVec.toNat_shiftLeft, Nat.shiftLeft_eq]
  by_cases h : n ≤ 64
  · rw [Nat.min_eq_left h]
  · rw [Nat.min_eq_right (by omega)]
    have h1 : a.toNat * 2 ^ 64 % 2 ^ 64 = 0 := Nat.mul_mod_left _ _
    have h2 : 2 ^ n = 2 ^ (n - 64) * 2 ^ 64 := by rw [← Nat.pow_add]; congr 1; omega
    rw [h1, h2, ← Nat.mul_assoc, Nat.mul_mod_left]
theorem shr_nat (a : W64) (n : Nat) : a.toNat / 2 ^ (min n 64) = (a >>> n).toNat := by
  rw [BitVec.toNat_ushiftRight, Nat.shiftRight_eq_div_pow]
  by_cases h : n ≤ 64
  · rw [Nat.min_eq_left h]
  · rw [Nat.min_eq_right (by omega)]
    have h2 : 2 ^ 64 ≤ 2 ^ n := Nat.pow_le_pow_right (by omega) (by omega)
    rw [Nat.div_eq_of_lt a.isLt, Nat.div_eq_of_lt (Nat.lt_of_lt_of_le a.isLt h2)]
theorem Yl.shlU {k : IntKind} {n : Int} (hx : opv ⟨sl, own⟩ x = some (uv a)) (hy : opv ⟨sl, own⟩ y = some (.int k n)) (hn : 0 ≤ n) : Yl C ⟨sl, own⟩ ⟨dst, .binOp .shl t x y t', ty, pos, aft, g⟩ (uv (a <<< n.toNat)) :=
  fun act w hs => by
    have h2 : ¬ n < 0 := by omega
    have h3 : IntKind.u64.wrap ((a.toNat : Int) * 2 ^ (Min.min n.toNat 64)) = ((a <<< n.toNat).toNat : Int) := by
      rw [← shl_nat, ← wrap_u64n]; simp
    simp only [execOp, opv_eval hs hx, opv_eval hs hy, uv]
    simp [go_sem, binOp, Op.shift, IntKind.bits, h2, h3, -BitVec.toNat_shiftLeft]
theorem Yl.shrU {k : IntKind} {n : Int} (hx : opv ⟨sl, own⟩ x = some (uv a)) (hy : opv ⟨sl, own⟩ y = some (.int k n)) (hn : 0 ≤ n) : Yl C ⟨sl, own⟩ ⟨dst, .binOp .shr t x y t', ty, pos, aft, g⟩ (uv (a >>> n.toNat)) :=
  fun act w hs => by
    have h2 : ¬ n < 0 := by omega
    have h3 : (a.toNat : Int).fdiv (2 ^ (Min.min n.toNat 64)) = ((a >>> n.toNat).toNat : Int) := by
      rw [Int.fdiv_eq_ediv_of_nonneg _ (Int.pow_nonneg (by decide)), ← shr_nat]; simp
    simp only [execOp, opv_eval hs hx, opv_eval hs hy, uv]
    simp [go_sem, binOp, Op.shift, IntKind.bits, h2, h3, -BitVec.toNat_ushiftRight]
theorem Yl.subU (hx : opv ⟨sl, own⟩ x = some (uv a)) (hy : opv ⟨sl, own⟩ y = some (uv b)) : Yl C ⟨sl, own⟩ ⟨dst, .binOp .sub t x y t', ty, pos, aft, g⟩ (uv (a - b)) :=
  fun act w hs => by
    have h3 : IntKind.u64.wrap ((a.toNat : Int) - b.toNat) = ((a - b).toNat : Int) := by
      have h1 := a.isLt; have h2 := b.isLt
      have h4 : IntKind.u64.wrap ((a.toNat : Int) - b.toNat) = ((a.toNat : Int) - b.toNat) % 2 ^ 64 := by simp [IntKind.wrap, IntKind.bits, IntKind.signed]
      rw [h4, BitVec.toNat_sub]
      omega
    simp only [execOp, opv_eval hs hx, opv_eval hs hy, uv]
    simp [go_sem, Op.intArith, h3, -BitVec.toNat_sub]
theorem Yl.eqlU (hx : opv ⟨sl, own⟩ x = some (uv a)) (hy : opv ⟨sl, own⟩ y = some (uv b)) : Yl C ⟨sl, own⟩ ⟨dst, .binOp .eql t x y t', ty, pos, aft, g⟩ (.bool (decide (a = b))) :=
  Yl.valE (Yl.eql hx hy) (congrArg Value.bool (decide_eq_decide.2 ⟨fun h => BitVec.eq_of_toNat_eq (by omega), fun h => by rw [h]⟩))
theorem Yl.neqU (hx : opv ⟨sl, own⟩ x = some (uv a)) (hy : opv ⟨sl, own⟩ y = some (uv b)) : Yl C ⟨sl, own⟩ ⟨dst, .binOp .neq t x y t', ty, pos, aft, g⟩ (.bool (decide (a ≠ b))) :=
  Yl.valE (Yl.neq hx hy) (congrArg Value.bool (decide_eq_decide.2 ⟨fun h e => h (by rw [e]), fun h e => h (BitVec.eq_of_toNat_eq (by omega))⟩))
end
def uz (a : W64) : Int := (a.toNat : Int)
theorem uz_inj {a b : W64} (h : uz a = uz b) : a = b := BitVec.eq_of_toNat_eq (by unfold uz at h; omega)
theorem fidx_map {α β : Type} [DecidableEq α] [DecidableEq β] (f : α → β) (hf : ∀ a b, f a = f b → a = b) (a : α) : ∀ ks : List α, fidx (f a) (ks.map f) = fidx a ks
  | [] => rfl
  | k :: ks => by
    have ih := fidx_map f hf a ks
    simp only [List.map_cons, fidx, ih]
    by_cases h : a = k
    · rw [if_pos h, if_pos (congrArg f h)]
    · rw [if_neg h, if_neg (fun e => h (hf _ _ e))]
theorem keyU {P : Program} {kt : TypeId} (hk : P.underlying kt = some (.int .u64)) : KeyL P kt uv where
  find := fun a es ks w h => by
    have h2 := (keyInt hk).find (uz a) es (ks.map uz) w (by rw [h, List.map_map]; rfl)
    rw [fidx_map uz (fun a b => uz_inj)] at h2
    exact h2
  check := fun e a w => (keyInt hk).check e (uz a) w
  same := fun a => (keyInt hk).same (uz a)
end Go.Sx
