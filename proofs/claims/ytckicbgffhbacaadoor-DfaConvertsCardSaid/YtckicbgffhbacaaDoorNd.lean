import Derived.Test.YtckicbgffhbacaaDoorNc
set_option linter.unusedVariables false
set_option linter.unusedSimpArgs false
namespace Go.Sx
open Go.RowKit
/-! ### the table of math/bits -/
def TbA (w : World) : Prop := ∀ j, j < 64 → w.cell? ⟨0, j, none⟩ = some (.int .u8 ((Lib.deBruijn64tab.getD j 0 : Nat) : Int))
theorem TbA.lt {w : World} (h : TbA w) : 0 < w.heap.size := by
  have hm := h 0 (by omega)
  unfold World.cell? at hm
  rcases Nat.lt_or_ge 0 w.heap.size with k | k
  · exact k
  · rw [Array.getElem?_eq_none (by simpa using k)] at hm; simp at hm
theorem TbA.fr {S : Nat → Prop} {w w' : World} (h : TbA w) (hf : FrameX S w w') (hS : ¬ S 0) : TbA w' := fun j hj => by
  rw [World.cell?_of_block (hf.block 0 h.lt hS)]; exact h j hj
theorem TbA.at {C : Cx} {own : List Asn} {w : World} (h : TbA C.W0) (hw : HW C own w) (hS : ¬ C.S 0 := by exact fun h => h) : TbA w := h.fr hw.frame hS
section
variable {C : Cx} {sl : List (Nat × Value)} {own : List Asn} {dst : Option Nat} {ty : TypeId} {pos : String} {aft : Array Edge} {g : Option (Nat × Bool)}
theorem Yl.negU {x : Operand} {t t' : TypeId} {a : W64} (hx : opv ⟨sl, own⟩ x = some (uv a)) : Yl C ⟨sl, own⟩ ⟨dst, .unOp .neg t x, t', pos, aft, g⟩ (uv (-a)) :=
  fun act w hs => by
    have h3 : IntKind.u64.wrap (-(a.toNat : Int)) = ((-a).toNat : Int) := by
      have h1 := a.isLt
      have h4 : IntKind.u64.wrap (-(a.toNat : Int)) = (-(a.toNat : Int)) % 2 ^ 64 := by simp [IntKind.wrap, IntKind.bits, IntKind.signed]
      rw [h4, BitVec.toNat_neg]
      omega
    simp only [execOp, opv_eval hs hx, uv]
    simp [go_sem, h3, -BitVec.toNat_neg]
theorem Yl.mulU {x y : Operand} {t t' : TypeId} {a b : W64} (hx : opv ⟨sl, own⟩ x = some (uv a)) (hy : opv ⟨sl, own⟩ y = some (uv b)) : Yl C ⟨sl, own⟩ ⟨dst, .binOp .mul t x y t', ty, pos, aft, g⟩ (uv (a * b)) :=
  fun act w hs => by
    have h3 : IntKind.u64.wrap ((a.toNat : Int) * b.toNat) = ((a * b).toNat : Int) := by
      rw [BitVec.toNat_mul, ← wrap_u64n]; simp
    simp only [execOp, opv_eval hs hx, opv_eval hs hy, uv]
    simp [go_sem, Op.intArith, h3, -BitVec.toNat_mul]
theorem Yl.idxArrU {x i : Operand} {t e n sz b off : Nat} {q : IntKind} {k : Nat} (ht : ArrT C.P t e n sz) (hx : opv ⟨sl, own⟩ x = some (.pointer (some ⟨b, off, none⟩))) (hi : opv ⟨sl, own⟩ i = some (.int q (k : Int))) (hk : k < n) :
    Yl C ⟨sl, own⟩ ⟨dst, .indexAddr t x i, ty, pos, aft, g⟩ (.pointer (some ⟨b, off + k * sz, none⟩)) :=
  fun a w hs => by
    have hs1 := run_sizeOf_of ht.2 w
    simp only [execOp, opv_eval hs hx, opv_eval hs hi, Instr.indexAt, asIntOf, Sem.run_bind, Sem.run_pure, Result.andThen_ok, run_underlying ht.1, Instr.sureAddr]
    simp [hk, hs1, run_underlying ht.1, Addr.add_lit]
theorem Yl.loadTb {x : Operand} {t : TypeId} {k : Nat} (ht : OneT C.P t) (hx : opv ⟨sl, own⟩ x = some (.pointer (some ⟨0, k, none⟩))) (hk : k < 64) (h : TbA C.W0) (hS : ¬ C.S 0 := by exact fun h => h) :
    Yl C ⟨sl, own⟩ ⟨dst, .load t x, ty, pos, aft, g⟩ (.int .u8 ((Lib.deBruijn64tab.getD k 0 : Nat) : Int)) :=
  fun a w hs => by
    have h1 := (h.at hs.world hS) k hk
    simp [execOp, opv_eval hs hx, Instr.loadAt, Instr.sureAddr, run_loadVar_one ht h1]
end
theorem tz_key {s : W64} (h : s ≠ 0) : ∃ k : Nat, k < 64 ∧ ((s &&& -s) * 285870213051353865) >>> 58 = BitVec.ofNat 64 k ∧ Lib.deBruijn64tab.getD k 0 = Lib.ctz 64 s.toNat := by
  have h0 : s.toNat ≠ 0 := fun e => h (BitVec.eq_of_toNat_eq (by rw [e]; rfl))
  obtain ⟨hlow, hk⟩ := Lib.lowest_bit 64 s.toNat h0 s.isLt
  obtain ⟨hi, htab⟩ := Lib.deBruijn64_at _ hk
  refine ⟨_, hi, ?_, htab⟩
  apply BitVec.eq_of_toNat_eq
  have e1 : (s &&& -s).toNat = 2 ^ Lib.ctz 64 s.toNat := by
    rw [BitVec.toNat_and, BitVec.toNat_neg, ← hlow]
    congr 1
    have := s.isLt
    omega
  rw [BitVec.toNat_ushiftRight, BitVec.toNat_mul, e1, BitVec.toNat_ofNat, Nat.shiftRight_eq_div_pow]
  have e2 : (285870213051353865 : W64).toNat = 285870213051353865 := by decide
  rw [e2]
  have e3 : (2 : Nat) ^ 58 = 288230376151711744 := by decide
  have e4 : (2 : Nat) ^ 64 = 18446744073709551616 := by decide
  rw [e3, e4]
  omega
theorem uv_nat {k : Nat} (h : k < 64) : uv (BitVec.ofNat 64 k) = .int .u64 (k : Int) := by
  unfold uv
  rw [BitVec.toNat_ofNat, Nat.mod_eq_of_lt (by omega)]
end Go.Sx
