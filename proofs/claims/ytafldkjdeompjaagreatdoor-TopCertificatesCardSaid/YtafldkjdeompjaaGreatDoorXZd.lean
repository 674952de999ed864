import Derived.Test.YtafldkjdeompjaaGreatDoorXZc
import Derived.Lib.TrailingZeros
import Derived.Laws.StructEq
import Derived.Test.YtafldkjdeompjaaGreatDoorRows
import Derived.ProofKit
import Derived.LaidMore
import Derived.Lib.LaidTab
import Derived.OpenShut
import Derived.Stop.Joined
import Derived.Test.YtafldkjdeompjaaGreatDoorProg
import Derived.Test.YtafldkjdeompjaaGreatDoorXZb
import Derived.KernelRfl
import Derived.ChangeKeysEq
import Derived.Laws.IdiomCopy
set_option linter.unusedVariables false
set_option linter.unusedSimpArgs false
set_option maxRecDepth 100000
namespace Go.Sx
open Go.RowKit
/-! ### members of a set -/
def memF (s : W64) (i : Nat) : Nat → List Nat
  | 0 => []
  | f + 1 => if s.getLsbD i = true then i :: memF s (i + 1) f else memF s (i + 1) f
/-- the members, ascending -/
def mems (s : W64) : List Nat := memF s 0 64
theorem memF_congr {s t : W64} : ∀ (f i : Nat), (∀ j, i ≤ j → j < i + f → s.getLsbD j = t.getLsbD j) → memF s i f = memF t i f
  | 0, _, _ => rfl
  | f + 1, i, h => by
    have h1 := h i (Nat.le_refl _) (by omega)
    have h2 := memF_congr f (i + 1) (fun j h3 h4 => h j (by omega) (by omega))
    show (if s.getLsbD i = true then _ else _) = if t.getLsbD i = true then _ else _
    rw [h1, h2]
theorem memF_skip {s : W64} : ∀ (k i f : Nat), (∀ j, i ≤ j → j < i + k → s.getLsbD j = false) → memF s i (k + f) = memF s (i + k) f
  | 0, i, f, _ => by simp
  | k + 1, i, f, h => by
    rw [show k + 1 + f = (k + f) + 1 by omega]
    show (if s.getLsbD i = true then _ else _) = _
    rw [h i (Nat.le_refl _) (by omega)]
    have := memF_skip k (i + 1) f (fun j h1 h2 => h j (by omega) (by omega))
    rw [if_neg (by decide), this]; congr 1; omega
theorem mems_len (s : W64) : (mems s).length ≤ 64 := by
  have : ∀ f i, (memF s i f).length ≤ f := by
    intro f
    induction f with
    | zero => intro i; exact Nat.le_refl _
    | succ f ih =>
      intro i
      have := ih (i + 1)
      show (if s.getLsbD i = true then _ else _ : List Nat).length ≤ _
      split
      · simp; omega
      · omega
  exact this 64 0
theorem mems_zero : mems 0 = [] := by decide
theorem low_bits {s : W64} (h : s ≠ 0) : Lib.ctz 64 s.toNat < 64 ∧ s.getLsbD (Lib.ctz 64 s.toNat) = true ∧ (∀ i, i < Lib.ctz 64 s.toNat → s.getLsbD i = false) ∧ ∀ i, i < 64 → (s &&& (s - 1)).getLsbD i = (s.getLsbD i && decide (i ≠ Lib.ctz 64 s.toNat)) := by
  have h0 : s.toNat ≠ 0 := fun e => h (BitVec.eq_of_toNat_eq (by rw [e]; rfl))
  obtain ⟨m, hm, hc⟩ := Lib.ctzFrom_spec 64 s.toNat (by omega) s.isLt
  have e : Lib.ctz 64 s.toNat = Lib.ctzFrom 64 s.toNat := if_neg h0
  rw [e]
  generalize Lib.ctzFrom 64 s.toNat = c at hm hc
  have hb : ∀ i, s.getLsbD i = if i < c then false else (2 * m + 1).testBit (i - c) := fun i => by
    rw [← BitVec.testBit_toNat, hm]
    have := Nat.testBit_two_pow_mul_add (2 * m + 1) (b := 0) (i := c) (Nat.pow_pos (by omega)) i
    rw [Nat.add_zero] at this
    rw [this]
    split
    · exact Nat.zero_testBit i
    · rfl
  have hpos : 0 < 2 ^ c := Nat.pow_pos (by omega)
  have hs1 : (s - 1).toNat = 2 ^ c * (2 * m) + (2 ^ c - 1) := by
    rw [BitVec.toNat_sub]
    have h1 : (1 : W64).toNat = 1 := by decide
    have h2 := s.isLt
    have h3 : 2 ^ c * (2 * m + 1) = 2 ^ c * (2 * m) + 2 ^ c := by rw [Nat.mul_add, Nat.mul_one]
    rw [h1]; omega
  have hb1 : ∀ i, (s - 1).getLsbD i = if i < c then true else (2 * m).testBit (i - c) := fun i => by
    rw [← BitVec.testBit_toNat, hs1]
    have := Nat.testBit_two_pow_mul_add (2 * m) (b := 2 ^ c - 1) (i := c) (by omega) i
    rw [this]
    split
    · rw [Nat.testBit_two_pow_sub_one]; simp; omega
    · rfl
  refine ⟨hc, ?_, fun i hi => ?_, fun i hi => ?_⟩
  · rw [hb, if_neg (by omega), Nat.sub_self]; simp
  · rw [hb, if_pos hi]
  · rw [BitVec.getLsbD_and, hb, hb1]
    by_cases h1 : i < c
    · rw [if_pos h1]; simp
    · rw [if_neg h1, if_neg h1]
      by_cases h2 : i = c
      · subst h2; simp
      · have h3 : i - c = (i - c - 1) + 1 := by omega
        rw [h3, Nat.testBit_succ, Nat.testBit_succ]
        have e1 : (2 * m + 1) / 2 = m := by omega
        have e2 : 2 * m / 2 = m := by omega
        rw [e1, e2]; simp [h2]
theorem mems_next {s : W64} (h : s ≠ 0) : mems s = Lib.ctz 64 s.toNat :: mems (s &&& (s - 1)) := by
  obtain ⟨h1, h2, h3, h4⟩ := low_bits h
  generalize Lib.ctz 64 s.toNat = c at h1 h2 h3 h4
  unfold mems
  obtain ⟨f, hf⟩ : ∃ f, 64 = c + (f + 1) := ⟨63 - c, by omega⟩
  rw [congrArg (memF s 0) hf, congrArg (memF (s &&& (s - 1)) 0) hf, memF_skip c 0 (f + 1) (fun j _ hj => h3 j (by omega)), memF_skip c 0 (f + 1) (fun j _ hj => by rw [h4 j (by omega), h3 j (by omega)]; rfl)]
  show (if s.getLsbD (0 + c) = true then _ else _) = _ :: (if (s &&& (s - 1)).getLsbD (0 + c) = true then _ else _)
  rw [Nat.zero_add, h2, if_pos rfl, h4 c h1]
  simp only [ne_eq, not_true_eq_false, decide_false, Bool.and_false, Bool.false_eq_true, if_false]
  congr 1
  refine memF_congr _ _ fun j k1 k2 => ?_
  rw [h4 j (by omega), decide_eq_true (show j ≠ c by omega), Bool.and_true]
/-! ### steps -/
def has (s : W64) (j : Int) : Bool := s.getLsbD j.toNat
end Go.Sx

namespace Go.Sx
open Go.RowKit
/-! ### equality of structs of three integers -/
section
variable {C : Cx} {sl : List (Nat × Value)} {own : List Asn} {dst : Option Nat} {ty : TypeId} {pos : String} {aft : Array Edge} {g : Option (Nat × Bool)}
end
section
variable {C : Cx} {sl : List (Nat × Value)} {own : List Asn} {dst : Option Nat} {ty : TypeId} {pos : String} {aft : Array Edge} {g : Option (Nat × Bool)}
theorem Yl.loadU {x : Operand} {t : TypeId} {v : Value} {n j : Nat} {xs : List W64} (ht : OneT C.P t) (hx : opv ⟨sl, own⟩ x = some (.pointer (some ((slA v).add (j * 1)))))
    (hr : RdS C own v 1 n (xs.map uv)) (hj : j < xs.length) : Yl C ⟨sl, own⟩ ⟨dst, .load t x, ty, pos, aft, g⟩ (uv (xs.getD j 0)) := Yl.load ht hx hr rfl 0 hj
end
section
variable {C : Cx} {sl : List (Nat × Value)} {own : List Asn} {dst : Option Nat} {ty : TypeId} {pos : String} {aft : Array Edge} {g : Option (Nat × Bool)}
end
/-! ### the order of edges -/
end Go.Sx

namespace Go.Sx
open Go.RowKit
/-! ### the table of math/bits -/
def TbA (w : World) : Prop := ∀ j, j < 64 → w.cell? ⟨0, j, none⟩ = some (.int .u8 ((Lib.deBruijn64tab.getD j 0 : Nat) : Int))
theorem TbA.lt {w : World} (h : TbA w) : 0 < w.heap.size := by
  have hm := h 0 (by omega)
  unfold World.cell? at hm
  rcases Nat.lt_or_ge 0 w.heap.size with k | k
  · exact k
  · rw [Array.getElem?_eq_none (by simpa using k)] at hm; simp at hm
theorem TbA.fr {S : Nat → Prop} {w w' : World} (h : TbA w) (hf : FrameX S w w') (hS : ¬ S 0) : TbA w' := fun j hj => by
  rw [World.cell?_of_block (hf.block 0 h.lt hS)]; exact h j hj
theorem TbA.at {C : Cx} {own : List Asn} {w : World} (h : TbA C.W0) (hw : HW C own w) (hS : ¬ C.S 0 := by exact fun h => h) : TbA w := h.fr hw.frame hS
section
variable {C : Cx} {sl : List (Nat × Value)} {own : List Asn} {dst : Option Nat} {ty : TypeId} {pos : String} {aft : Array Edge} {g : Option (Nat × Bool)}
theorem Yl.negU {x : Operand} {t t' : TypeId} {a : W64} (hx : opv ⟨sl, own⟩ x = some (uv a)) : Yl C ⟨sl, own⟩ ⟨dst, .unOp .neg t x, t', pos, aft, g⟩ (uv (-a)) :=
  fun act w hs => by
    have h3 : IntKind.u64.wrap (-(a.toNat : Int)) = ((-a).toNat : Int) := by
      have h1 := a.isLt
      have h4 : IntKind.u64.wrap (-(a.toNat : Int)) = (-(a.toNat : Int)) % 2 ^ 64 := by simp [IntKind.wrap, IntKind.bits, IntKind.signed]
      rw [h4, BitVec.toNat_neg]
      omega
    simp only [execOp, opv_eval hs hx, uv]
    simp [go_sem, h3, -BitVec.toNat_neg]
theorem Yl.mulU {x y : Operand} {t t' : TypeId} {a b : W64} (hx : opv ⟨sl, own⟩ x = some (uv a)) (hy : opv ⟨sl, own⟩ y = some (uv b)) : Yl C ⟨sl, own⟩ ⟨dst, .binOp .mul t x y t', ty, pos, aft, g⟩ (uv (a * b)) :=
  fun act w hs => by
    have h3 : IntKind.u64.wrap ((a.toNat : Int) * b.toNat) = ((a * b).toNat : Int) := by
      rw [BitVec.toNat_mul, ← wrap_u64n]; simp
    simp only [execOp, opv_eval hs hx, opv_eval hs hy, uv]
    simp [go_sem, Op.intArith, h3, -BitVec.toNat_mul]
theorem Yl.idxArrU {x i : Operand} {t e n sz b off : Nat} {q : IntKind} {k : Nat} (ht : ArrT C.P t e n sz) (hx : opv ⟨sl, own⟩ x = some (.pointer (some ⟨b, off, none⟩))) (hi : opv ⟨sl, own⟩ i = some (.int q (k : Int))) (hk : k < n) :
    Yl C ⟨sl, own⟩ ⟨dst, .indexAddr t x i, ty, pos, aft, g⟩ (.pointer (some ⟨b, off + k * sz, none⟩)) :=
  fun a w hs => by
    have hs1 := run_sizeOf_of ht.2 w
    simp only [execOp, opv_eval hs hx, opv_eval hs hi, Instr.indexAt, asIntOf, Sem.run_bind, Sem.run_pure, Result.andThen_ok, run_underlying ht.1, Instr.sureAddr]
    simp [hk, hs1, run_underlying ht.1, Addr.add_lit]
theorem Yl.loadTb {x : Operand} {t : TypeId} {k : Nat} (ht : OneT C.P t) (hx : opv ⟨sl, own⟩ x = some (.pointer (some ⟨0, k, none⟩))) (hk : k < 64) (h : TbA C.W0) (hS : ¬ C.S 0 := by exact fun h => h) :
    Yl C ⟨sl, own⟩ ⟨dst, .load t x, ty, pos, aft, g⟩ (.int .u8 ((Lib.deBruijn64tab.getD k 0 : Nat) : Int)) :=
  fun a w hs => by
    have h1 := (h.at hs.world hS) k hk
    simp [execOp, opv_eval hs hx, Instr.loadAt, Instr.sureAddr, run_loadVar_one ht h1]
end
theorem tz_key {s : W64} (h : s ≠ 0) : ∃ k : Nat, k < 64 ∧ ((s &&& -s) * 285870213051353865) >>> 58 = BitVec.ofNat 64 k ∧ Lib.deBruijn64tab.getD k 0 = Lib.ctz 64 s.toNat := by
  have h0 : s.toNat ≠ 0 := fun e => h (BitVec.eq_of_toNat_eq (by rw [e]; rfl))
  obtain ⟨hlow, hk⟩ := Lib.lowest_bit 64 s.toNat h0 s.isLt
  obtain ⟨hi, htab⟩ := Lib.deBruijn64_at _ hk
  refine ⟨_, hi, ?_, htab⟩
  apply BitVec.eq_of_toNat_eq
  have e1 : (s &&& -s).toNat = 2 ^ Lib.ctz 64 s.toNat := by
    rw [BitVec.toNat_and, BitVec.toNat_neg, ← hlow]
    congr 1
    have := s.isLt
    omega
  rw [BitVec.toNat_ushiftRight, BitVec.toNat_mul, e1, BitVec.toNat_ofNat, Nat.shiftRight_eq_div_pow]
  have e2 : (285870213051353865 : W64).toNat = 285870213051353865 := by decide
  rw [e2]
  have e3 : (2 : Nat) ^ 58 = 288230376151711744 := by decide
  have e4 : (2 : Nat) ^ 64 = 18446744073709551616 := by decide
  rw [e3, e4]
  omega
theorem uv_nat {k : Nat} (h : k < 64) : uv (BitVec.ofNat 64 k) = .int .u64 (k : Int) := by
  unfold uv
  rw [BitVec.toNat_ofNat, Nat.mod_eq_of_lt (by omega)]
end Go.Sx

namespace Go.Proofs.YtafldkjdeompjaaGreatDoor
open Go.ChangeShapes Go.WideShapes Go.ChangeAt Go.RowKit Go.Sx
theorem ownK : ownKnob Tryz.prog.godebug = none := by kernel_rfl
theorem laidOut : laidOutB Tryz.prog = true := by kernel_rfl
def laidT : List (String × DataW Unit) := [("math/bits.deBruijn64tab", Rows.laid_math_bits_deBruijn64tab)]
theorem gTab : Tryz.prog.globalNamed "math/bits.deBruijn64tab" = some 0 := by kernel_rfl
theorem door_met (os : Os) (args : Array Value) : laidMetH Tryz.prog laidT ((World.doorLaid Tryz.prog 400 os).forCall (fun _ _ => 0) ⟨#[], args, []⟩).memory :=
  laidMetH_of_parts3 (fuel := 8) (laidMet_of_run' 8 (by kernel_rfl) (by kernel_rfl)) (by kernel_rfl) (by kernel_rfl)
theorem laidT_is : laidT = [("math/bits.deBruijn64tab", Lib.tabData .u8 (Lib.deBruijn64tab.map fun n : Nat => (n : Int)))] := rfl
theorem of_laid {W : World} (h : laidMetH Tryz.prog laidT W) : TbA W := by
  rw [MakeChecks.laidMetH_plain _ _ _ (by kernel_rfl), laidT_is] at h
  have h1 := Lib.tabIs_of_head (n := 64) gTab (t := 156) (e := 5) (by kernel_rfl) (by kernel_rfl) (by kernel_rfl) (by kernel_rfl) (by kernel_rfl) h
  intro j hj
  have h2 := h1.cell gTab j (by simpa [Lib.deBruijn64tab] using hj)
  rw [h2]
  congr 2
  simp only [List.getD_eq_getElem?_getD, List.getElem?_map]
  cases Lib.deBruijn64tab[j]? <;> rfl
end Go.Proofs.YtafldkjdeompjaaGreatDoor

namespace Go.Proofs.YtafldkjdeompjaaGreatDoor
open Go.Sx
theorem sz1 : (Tryz.prog.info? 1).map (·.size) = some 1 := by kernel_rfl
theorem sz2 : (Tryz.prog.info? 2).map (·.size) = some 1 := by kernel_rfl
theorem el3 : ElT Tryz.prog 3 (.int .i64 0) 1 8 := by unfold ElT; kernel_rfl
theorem sz3 : (Tryz.prog.info? 3).map (·.size) = some 1 := by kernel_rfl
theorem on3 : OneT Tryz.prog 3 := by unfold OneT; kernel_rfl
theorem un3 : Tryz.prog.underlying 3 = some (.int .i64) := by kernel_rfl
theorem el4 : ElT Tryz.prog 4 (.bool false) 1 1 := by unfold ElT; kernel_rfl
theorem sz4 : (Tryz.prog.info? 4).map (·.size) = some 1 := by kernel_rfl
theorem on4 : OneT Tryz.prog 4 := by unfold OneT; kernel_rfl
theorem bo4 : Tryz.prog.underlying 4 = some .bool := by kernel_rfl
theorem el5 : ElT Tryz.prog 5 (.int .u8 0) 1 1 := by unfold ElT; kernel_rfl
theorem sz5 : (Tryz.prog.info? 5).map (·.size) = some 1 := by kernel_rfl
theorem on5 : OneT Tryz.prog 5 := by unfold OneT; kernel_rfl
theorem un5 : Tryz.prog.underlying 5 = some (.int .u8) := by kernel_rfl
theorem el9 : ElT Tryz.prog 9 (.string ByteArray.empty) 1 16 := by unfold ElT; kernel_rfl
theorem sz9 : (Tryz.prog.info? 9).map (·.size) = some 1 := by kernel_rfl
theorem on9 : OneT Tryz.prog 9 := by unfold OneT; kernel_rfl
theorem un9 : Tryz.prog.underlying 9 = some .string := by kernel_rfl
theorem un21 : Tryz.prog.underlying 21 = some (.int .i32) := by kernel_rfl
theorem sl22 : SlT Tryz.prog 22 4 1 := ⟨by kernel_rfl, by kernel_rfl⟩
theorem el22 : ElT Tryz.prog 22 (.slice none 0 0) 1 24 := by unfold ElT; kernel_rfl
theorem sz22 : (Tryz.prog.info? 22).map (·.size) = some 1 := by kernel_rfl
theorem on22 : OneT Tryz.prog 22 := by unfold OneT; kernel_rfl
theorem sl23 : SlT Tryz.prog 23 28 1 := ⟨by kernel_rfl, by kernel_rfl⟩
theorem sz23 : (Tryz.prog.info? 23).map (·.size) = some 1 := by kernel_rfl
theorem on23 : OneT Tryz.prog 23 := by unfold OneT; kernel_rfl
theorem el25 : ElT Tryz.prog 25 (.agg #[(.int .i64 0), (.int .i64 0), (.slice none 0 0), (.slice none 0 0)]) 4 64 := by unfold ElT; kernel_rfl
theorem sz25 : (Tryz.prog.info? 25).map (·.size) = some 4 := by kernel_rfl
theorem ag25 : AggT Tryz.prog 25 4 := ⟨by kernel_rfl, by kernel_rfl⟩
theorem fd25_0 : FldT Tryz.prog 25 0 0 := FldT.of (by kernel_rfl)
theorem fd25_1 : FldT Tryz.prog 25 1 1 := FldT.of (by kernel_rfl)
theorem fd25_2 : FldT Tryz.prog 25 2 2 := FldT.of (by kernel_rfl)
theorem fd25_3 : FldT Tryz.prog 25 3 3 := FldT.of (by kernel_rfl)
theorem sl28 : SlT Tryz.prog 28 3 1 := ⟨by kernel_rfl, by kernel_rfl⟩
theorem el28 : ElT Tryz.prog 28 (.slice none 0 0) 1 24 := by unfold ElT; kernel_rfl
theorem sz28 : (Tryz.prog.info? 28).map (·.size) = some 1 := by kernel_rfl
theorem on28 : OneT Tryz.prog 28 := by unfold OneT; kernel_rfl
theorem sl29 : SlT Tryz.prog 29 9 1 := ⟨by kernel_rfl, by kernel_rfl⟩
theorem on29 : OneT Tryz.prog 29 := by unfold OneT; kernel_rfl
theorem el31 : ElT Tryz.prog 31 (.agg #[(.slice none 0 0), (.slice none 0 0), (.slice none 0 0)]) 3 72 := by unfold ElT; kernel_rfl
theorem sz31 : (Tryz.prog.info? 31).map (·.size) = some 3 := by kernel_rfl
theorem ag31 : AggT Tryz.prog 31 3 := ⟨by kernel_rfl, by kernel_rfl⟩
theorem fd31_0 : FldT Tryz.prog 31 0 0 := FldT.of (by kernel_rfl)
theorem fd31_1 : FldT Tryz.prog 31 1 1 := FldT.of (by kernel_rfl)
theorem fd31_2 : FldT Tryz.prog 31 2 2 := FldT.of (by kernel_rfl)
theorem sl45 : SlT Tryz.prog 45 47 3 := ⟨by kernel_rfl, by kernel_rfl⟩
theorem sz45 : (Tryz.prog.info? 45).map (·.size) = some 1 := by kernel_rfl
theorem on45 : OneT Tryz.prog 45 := by unfold OneT; kernel_rfl
theorem el47 : ElT Tryz.prog 47 (.agg #[(.int .i64 0), (.int .i64 0), (.slice none 0 0)]) 3 40 := by unfold ElT; kernel_rfl
theorem sz47 : (Tryz.prog.info? 47).map (·.size) = some 3 := by kernel_rfl
theorem ag47 : AggT Tryz.prog 47 3 := ⟨by kernel_rfl, by kernel_rfl⟩
theorem fd47_0 : FldT Tryz.prog 47 0 0 := FldT.of (by kernel_rfl)
theorem fd47_1 : FldT Tryz.prog 47 1 1 := FldT.of (by kernel_rfl)
theorem fd47_2 : FldT Tryz.prog 47 2 2 := FldT.of (by kernel_rfl)
theorem el77 : ElT Tryz.prog 77 (.agg #[(.string ByteArray.empty)]) 1 16 := by unfold ElT; kernel_rfl
theorem sz77 : (Tryz.prog.info? 77).map (·.size) = some 1 := by kernel_rfl
theorem ag77 : AggT Tryz.prog 77 1 := ⟨by kernel_rfl, by kernel_rfl⟩
theorem fd77_0 : FldT Tryz.prog 77 0 0 := FldT.of (by kernel_rfl)
theorem sl79 : SlT Tryz.prog 79 119 1 := ⟨by kernel_rfl, by kernel_rfl⟩
theorem el79 : ElT Tryz.prog 79 (.slice none 0 0) 1 24 := by unfold ElT; kernel_rfl
theorem sz79 : (Tryz.prog.info? 79).map (·.size) = some 1 := by kernel_rfl
theorem on79 : OneT Tryz.prog 79 := by unfold OneT; kernel_rfl
theorem sl82 : SlT Tryz.prog 82 79 1 := ⟨by kernel_rfl, by kernel_rfl⟩
theorem el82 : ElT Tryz.prog 82 (.slice none 0 0) 1 24 := by unfold ElT; kernel_rfl
theorem sz82 : (Tryz.prog.info? 82).map (·.size) = some 1 := by kernel_rfl
theorem on82 : OneT Tryz.prog 82 := by unfold OneT; kernel_rfl
theorem sl85 : SlT Tryz.prog 85 22 1 := ⟨by kernel_rfl, by kernel_rfl⟩
theorem sz89 : (Tryz.prog.info? 89).map (·.size) = some 1 := by kernel_rfl
theorem on89 : OneT Tryz.prog 89 := by unfold OneT; kernel_rfl
theorem mp89 : Tryz.prog.underlying 89 = some (.map 3 3) := by kernel_rfl
theorem el91 : ElT Tryz.prog 91 (.agg #[(.slice none 0 0), (.map none)]) 2 32 := by unfold ElT; kernel_rfl
theorem fd91_0 : FldT Tryz.prog 91 0 0 := FldT.of (by kernel_rfl)
theorem fd91_1 : FldT Tryz.prog 91 1 1 := FldT.of (by kernel_rfl)
theorem el92 : ElT Tryz.prog 92 .nilFunc 1 8 := by unfold ElT; kernel_rfl
theorem sz92 : (Tryz.prog.info? 92).map (·.size) = some 1 := by kernel_rfl
theorem sl94 : SlT Tryz.prog 94 95 1 := ⟨by kernel_rfl, by kernel_rfl⟩
theorem sl95 : SlT Tryz.prog 95 5 1 := ⟨by kernel_rfl, by kernel_rfl⟩
theorem el95 : ElT Tryz.prog 95 (.slice none 0 0) 1 24 := by unfold ElT; kernel_rfl
theorem sz95 : (Tryz.prog.info? 95).map (·.size) = some 1 := by kernel_rfl
theorem on95 : OneT Tryz.prog 95 := by unfold OneT; kernel_rfl
theorem mp96 : Tryz.prog.underlying 96 = some (.map 9 4) := by kernel_rfl
theorem sl98 : SlT Tryz.prog 98 99 2 := ⟨by kernel_rfl, by kernel_rfl⟩
theorem el98 : ElT Tryz.prog 98 (.slice none 0 0) 1 24 := by unfold ElT; kernel_rfl
theorem sz98 : (Tryz.prog.info? 98).map (·.size) = some 1 := by kernel_rfl
theorem on98 : OneT Tryz.prog 98 := by unfold OneT; kernel_rfl
theorem el99 : ElT Tryz.prog 99 (.agg #[(.int .i64 0), (.int .i64 0)]) 2 16 := by unfold ElT; kernel_rfl
theorem ar99 : ArrT Tryz.prog 99 3 2 1 := ⟨by kernel_rfl, by kernel_rfl⟩
theorem el103 : ElT Tryz.prog 103 (.agg #[(.int .i64 0), (.int .i64 0), (.int .i64 0), (.int .i64 0)]) 4 32 := by unfold ElT; kernel_rfl
theorem sz103 : (Tryz.prog.info? 103).map (·.size) = some 4 := by kernel_rfl
theorem ag103 : AggT Tryz.prog 103 4 := ⟨by kernel_rfl, by kernel_rfl⟩
theorem fd103_0 : FldT Tryz.prog 103 0 0 := FldT.of (by kernel_rfl)
theorem fd103_1 : FldT Tryz.prog 103 1 1 := FldT.of (by kernel_rfl)
theorem fd103_2 : FldT Tryz.prog 103 2 2 := FldT.of (by kernel_rfl)
theorem fd103_3 : FldT Tryz.prog 103 3 3 := FldT.of (by kernel_rfl)
theorem sl104 : SlT Tryz.prog 104 103 4 := ⟨by kernel_rfl, by kernel_rfl⟩
theorem on108 : OneT Tryz.prog 108 := by unfold OneT; kernel_rfl
theorem mp108 : Tryz.prog.underlying 108 = some (.map 9 3) := by kernel_rfl
theorem fd110_0 : FldT Tryz.prog 110 0 0 := FldT.of (by kernel_rfl)
theorem fd110_1 : FldT Tryz.prog 110 1 1 := FldT.of (by kernel_rfl)
theorem fd110_2 : FldT Tryz.prog 110 2 2 := FldT.of (by kernel_rfl)
theorem fd110_3 : FldT Tryz.prog 110 3 3 := FldT.of (by kernel_rfl)
theorem fd112_0 : FldT Tryz.prog 112 0 0 := FldT.of (by kernel_rfl)
theorem fd112_1 : FldT Tryz.prog 112 1 4 := FldT.of (by kernel_rfl)
theorem un118 : Tryz.prog.underlying 118 = some (.int .u64) := by kernel_rfl
theorem el119 : ElT Tryz.prog 119 (.int .u64 0) 1 8 := by unfold ElT; kernel_rfl
theorem sz119 : (Tryz.prog.info? 119).map (·.size) = some 1 := by kernel_rfl
theorem on119 : OneT Tryz.prog 119 := by unfold OneT; kernel_rfl
theorem mp122 : Tryz.prog.underlying 122 = some (.map 124 3) := by kernel_rfl
theorem el124 : ElT Tryz.prog 124 (.agg #[(.int .i64 0), (.int .i64 0), (.int .i64 0), (.int .i64 0), (.int .i64 0), (.int .i64 0), (.int .i64 0)]) 7 56 := by unfold ElT; kernel_rfl
theorem sz124 : (Tryz.prog.info? 124).map (·.size) = some 7 := by kernel_rfl
theorem ag124 : AggT Tryz.prog 124 7 := ⟨by kernel_rfl, by kernel_rfl⟩
theorem ar124 : ArrT Tryz.prog 124 3 7 1 := ⟨by kernel_rfl, by kernel_rfl⟩
theorem mp125 : Tryz.prog.underlying 125 = some (.map 127 3) := by kernel_rfl
theorem el127 : ElT Tryz.prog 127 (.agg #[(.int .i64 0), (.bool false)]) 2 16 := by unfold ElT; kernel_rfl
theorem sz127 : (Tryz.prog.info? 127).map (·.size) = some 2 := by kernel_rfl
theorem ag127 : AggT Tryz.prog 127 2 := ⟨by kernel_rfl, by kernel_rfl⟩
theorem el136 : ElT Tryz.prog 136 (.agg #[(.int .i64 0), (.int .i64 0), (.slice none 0 0), (.int .i64 0), (.int .i64 0), (.slice none 0 0), (.bool false)]) 7 88 := by unfold ElT; kernel_rfl
theorem sz136 : (Tryz.prog.info? 136).map (·.size) = some 7 := by kernel_rfl
theorem ag136 : AggT Tryz.prog 136 7 := ⟨by kernel_rfl, by kernel_rfl⟩
theorem fd136_0 : FldT Tryz.prog 136 0 0 := FldT.of (by kernel_rfl)
theorem fd136_1 : FldT Tryz.prog 136 1 3 := FldT.of (by kernel_rfl)
theorem fd136_2 : FldT Tryz.prog 136 2 6 := FldT.of (by kernel_rfl)
theorem ag138 : AggT Tryz.prog 138 2 := ⟨by kernel_rfl, by kernel_rfl⟩
theorem fd138_0 : FldT Tryz.prog 138 0 0 := FldT.of (by kernel_rfl)
theorem fd138_1 : FldT Tryz.prog 138 1 1 := FldT.of (by kernel_rfl)
theorem sz140 : (Tryz.prog.info? 140).map (·.size) = some 1 := by kernel_rfl
theorem on140 : OneT Tryz.prog 140 := by unfold OneT; kernel_rfl
theorem el142 : ElT Tryz.prog 142 (.agg #[(.pointer none), (.slice none 0 0)]) 2 32 := by unfold ElT; kernel_rfl
theorem fd142_0 : FldT Tryz.prog 142 0 0 := FldT.of (by kernel_rfl)
theorem fd142_1 : FldT Tryz.prog 142 1 1 := FldT.of (by kernel_rfl)
theorem ar156 : ArrT Tryz.prog 156 5 64 1 := ⟨by kernel_rfl, by kernel_rfl⟩
theorem co4 : CallOk Tryz.prog 4 := by unfold CallOk; kernel_rfl
theorem co5 : CallOk Tryz.prog 5 := by unfold CallOk; kernel_rfl
theorem co6 : CallOk Tryz.prog 6 := by unfold CallOk; kernel_rfl
theorem co7 : CallOk Tryz.prog 7 := by unfold CallOk; kernel_rfl
theorem co8 : CallOk Tryz.prog 8 := by unfold CallOk; kernel_rfl
theorem co9 : CallOk Tryz.prog 9 := by unfold CallOk; kernel_rfl
theorem co10 : CallOk Tryz.prog 10 := by unfold CallOk; kernel_rfl
theorem co11 : CallOk Tryz.prog 11 := by unfold CallOk; kernel_rfl
theorem co12 : CallOk Tryz.prog 12 := by unfold CallOk; kernel_rfl
theorem co13 : CallOk Tryz.prog 13 := by unfold CallOk; kernel_rfl
theorem co14 : CallOk Tryz.prog 14 := by unfold CallOk; kernel_rfl
theorem co15 : CallOk Tryz.prog 15 := by unfold CallOk; kernel_rfl
theorem co16 : CallOk Tryz.prog 16 := by unfold CallOk; kernel_rfl
theorem co17 : CallOk Tryz.prog 17 := by unfold CallOk; kernel_rfl
theorem co18 : CallOk Tryz.prog 18 := by unfold CallOk; kernel_rfl
theorem co19 : CallOk Tryz.prog 19 := by unfold CallOk; kernel_rfl
theorem co20 : CallOk Tryz.prog 20 := by unfold CallOk; kernel_rfl
theorem co21 : CallOk Tryz.prog 21 := by unfold CallOk; kernel_rfl
theorem co22 : CallOk Tryz.prog 22 := by unfold CallOk; kernel_rfl
theorem co23 : CallOk Tryz.prog 23 := by unfold CallOk; kernel_rfl
theorem co24 : CallOk Tryz.prog 24 := by unfold CallOk; kernel_rfl
theorem co25 : CallOk Tryz.prog 25 := by unfold CallOk; kernel_rfl
theorem co26 : CallOk Tryz.prog 26 := by unfold CallOk; kernel_rfl
theorem co27 : CallOk Tryz.prog 27 := by unfold CallOk; kernel_rfl
theorem co28 : CallOk Tryz.prog 28 := by unfold CallOk; kernel_rfl
theorem co29 : CallOk Tryz.prog 29 := by unfold CallOk; kernel_rfl
theorem co30 : CallOk Tryz.prog 30 := by unfold CallOk; kernel_rfl
theorem co31 : CallOk Tryz.prog 31 := by unfold CallOk; kernel_rfl
theorem co32 : CallOk Tryz.prog 32 := by unfold CallOk; kernel_rfl
theorem co33 : CallOk Tryz.prog 33 := by unfold CallOk; kernel_rfl
theorem co34 : CallOk Tryz.prog 34 := by unfold CallOk; kernel_rfl
theorem co35 : CallOk Tryz.prog 35 := by unfold CallOk; kernel_rfl
theorem co36 : CallOk Tryz.prog 36 := by unfold CallOk; kernel_rfl
theorem co37 : CallOk Tryz.prog 37 := by unfold CallOk; kernel_rfl
theorem co38 : CallOk Tryz.prog 38 := by unfold CallOk; kernel_rfl
theorem co39 : CallOk Tryz.prog 39 := by unfold CallOk; kernel_rfl
theorem co40 : CallOk Tryz.prog 40 := by unfold CallOk; kernel_rfl
theorem co41 : CallOk Tryz.prog 41 := by unfold CallOk; kernel_rfl
theorem co42 : CallOk Tryz.prog 42 := by unfold CallOk; kernel_rfl
theorem co43 : CallOk Tryz.prog 43 := by unfold CallOk; kernel_rfl
theorem co44 : CallOk Tryz.prog 44 := by unfold CallOk; kernel_rfl
theorem co45 : CallOk Tryz.prog 45 := by unfold CallOk; kernel_rfl
theorem co46 : CallOk Tryz.prog 46 := by unfold CallOk; kernel_rfl
theorem co47 : CallOk Tryz.prog 47 := by unfold CallOk; kernel_rfl
theorem co48 : CallOk Tryz.prog 48 := by unfold CallOk; kernel_rfl
theorem co49 : CallOk Tryz.prog 49 := by unfold CallOk; kernel_rfl
theorem co50 : CallOk Tryz.prog 50 := by unfold CallOk; kernel_rfl
theorem co51 : CallOk Tryz.prog 51 := by unfold CallOk; kernel_rfl
theorem co52 : CallOk Tryz.prog 52 := by unfold CallOk; kernel_rfl
theorem co53 : CallOk Tryz.prog 53 := by unfold CallOk; kernel_rfl
theorem co54 : CallOk Tryz.prog 54 := by unfold CallOk; kernel_rfl
theorem co55 : CallOk Tryz.prog 55 := by unfold CallOk; kernel_rfl
theorem co56 : CallOk Tryz.prog 56 := by unfold CallOk; kernel_rfl
theorem co57 : CallOk Tryz.prog 57 := by unfold CallOk; kernel_rfl
theorem co58 : CallOk Tryz.prog 58 := by unfold CallOk; kernel_rfl
theorem co59 : CallOk Tryz.prog 59 := by unfold CallOk; kernel_rfl
theorem co60 : CallOk Tryz.prog 60 := by unfold CallOk; kernel_rfl
theorem co61 : CallOk Tryz.prog 61 := by unfold CallOk; kernel_rfl
theorem co62 : CallOk Tryz.prog 62 := by unfold CallOk; kernel_rfl
theorem co63 : CallOk Tryz.prog 63 := by unfold CallOk; kernel_rfl
theorem co64 : CallOk Tryz.prog 64 := by unfold CallOk; kernel_rfl
theorem co69 : CallOk Tryz.prog 69 := by unfold CallOk; kernel_rfl
theorem co70 : CallOk Tryz.prog 70 := by unfold CallOk; kernel_rfl
theorem co71 : CallOk Tryz.prog 71 := by unfold CallOk; kernel_rfl
theorem co72 : CallOk Tryz.prog 72 := by unfold CallOk; kernel_rfl
theorem co73 : CallOk Tryz.prog 73 := by unfold CallOk; kernel_rfl
theorem co74 : CallOk Tryz.prog 74 := by unfold CallOk; kernel_rfl
theorem co75 : CallOk Tryz.prog 75 := by unfold CallOk; kernel_rfl
theorem co76 : CallOk Tryz.prog 76 := by unfold CallOk; kernel_rfl
theorem co77 : CallOk Tryz.prog 77 := by unfold CallOk; kernel_rfl
theorem co78 : CallOk Tryz.prog 78 := by unfold CallOk; kernel_rfl
theorem co79 : CallOk Tryz.prog 79 := by unfold CallOk; kernel_rfl
theorem co80 : CallOk Tryz.prog 80 := by unfold CallOk; kernel_rfl
theorem co81 : CallOk Tryz.prog 81 := by unfold CallOk; kernel_rfl
theorem co84 : CallOk Tryz.prog 84 := by unfold CallOk; kernel_rfl
theorem co91 : CallOk Tryz.prog 91 := by unfold CallOk; kernel_rfl
theorem co92 : CallOk Tryz.prog 92 := by unfold CallOk; kernel_rfl
theorem co93 : CallOk Tryz.prog 93 := by unfold CallOk; kernel_rfl
theorem co94 : CallOk Tryz.prog 94 := by unfold CallOk; kernel_rfl
theorem co95 : CallOk Tryz.prog 95 := by unfold CallOk; kernel_rfl
theorem co96 : CallOk Tryz.prog 96 := by unfold CallOk; kernel_rfl
theorem co97 : CallOk Tryz.prog 97 := by unfold CallOk; kernel_rfl
theorem co98 : CallOk Tryz.prog 98 := by unfold CallOk; kernel_rfl
theorem co99 : CallOk Tryz.prog 99 := by unfold CallOk; kernel_rfl
theorem co100 : CallOk Tryz.prog 100 := by unfold CallOk; kernel_rfl
theorem co101 : CallOk Tryz.prog 101 := by unfold CallOk; kernel_rfl
theorem co102 : CallOk Tryz.prog 102 := by unfold CallOk; kernel_rfl
theorem co103 : CallOk Tryz.prog 103 := by unfold CallOk; kernel_rfl
theorem co104 : CallOk Tryz.prog 104 := by unfold CallOk; kernel_rfl
theorem co105 : CallOk Tryz.prog 105 := by unfold CallOk; kernel_rfl
theorem co106 : CallOk Tryz.prog 106 := by unfold CallOk; kernel_rfl
theorem co107 : CallOk Tryz.prog 107 := by unfold CallOk; kernel_rfl
theorem co108 : CallOk Tryz.prog 108 := by unfold CallOk; kernel_rfl
theorem co109 : CallOk Tryz.prog 109 := by unfold CallOk; kernel_rfl
theorem co110 : CallOk Tryz.prog 110 := by unfold CallOk; kernel_rfl
theorem co111 : CallOk Tryz.prog 111 := by unfold CallOk; kernel_rfl
theorem co112 : CallOk Tryz.prog 112 := by unfold CallOk; kernel_rfl
theorem co113 : CallOk Tryz.prog 113 := by unfold CallOk; kernel_rfl
theorem co115 : CallOk Tryz.prog 115 := by unfold CallOk; kernel_rfl
theorem co118 : CallOk Tryz.prog 118 := by unfold CallOk; kernel_rfl
theorem co119 : CallOk Tryz.prog 119 := by unfold CallOk; kernel_rfl
theorem co122 : CallOk Tryz.prog 122 := by unfold CallOk; kernel_rfl
theorem mixed : Tryz.prog.follows .mixedOrders = true := by kernel_rfl
end Go.Proofs.YtafldkjdeompjaaGreatDoor

namespace Go.Sx
open Go.RowKit
/-! ### rows of arrays: one cell of an element -/
section rowarr
variable {C : Cx} {sl : List (Nat × Value)} {own : List Asn} {dst : Option Nat} {ty : TypeId} {pos : String} {aft : Array Edge} {g : Option (Nat × Bool)}
end rowarr
section rowarr2
variable {C : Cx} {sl : List (Nat × Value)} {own : List Asn} {ops : Array Oper} {Q : Exit → Act → World → Prop} {ty : TypeId} {pos : String} {aft : Array Edge} {g : Option (Nat × Bool)} {rest : List Oper}
end rowarr2
end Go.Sx
namespace Go.Sx
end Go.Sx

namespace Go.Sx
open Go.RowKit
/-! ### cuts of an owned row, and copies within it -/
section cuts
variable {C : Cx} {sl : List (Nat × Value)} {own : List Asn} {dst : Option Nat} {ty : TypeId} {pos : String} {aft : Array Edge} {g : Option (Nat × Bool)}
/-- a slice of n elements -/
def CutS (C : Cx) (own : List Asn) (v : Value) (n : Nat) : Prop := ∀ w, HW C own w → ∃ ao c, v = .slice ao n c ∧ n ≤ c
theorem CutS.row (i : Nat) {v : Value} {E : TypeId} {sz n : Nat} {cs : List Value} (hi : own[i]? = some (row v E sz n cs)) : CutS C own v n := fun w hw => by
  obtain ⟨_, Fs, hhp, _⟩ := hw
  obtain ⟨hown, _⟩ := hhp.at_ i _ hi
  rcases hown.2 with ⟨rfl, rfl⟩ | ⟨gb, cp, cur, rfl, _, _, hnc, _⟩
  · exact ⟨none, 0, rfl, Nat.le_refl _⟩
  · exact ⟨_, cp, rfl, hnc⟩
/-- s[m:] -/
def slFr (v : Value) (sz m : Nat) : Value := match v with
  | .slice a n c => .slice (if c = m then a else a.map (·.add (m * sz))) (n - m) (c - m)
  | v => v
theorem Yl.sliceFr {x l : Operand} {t E : TypeId} {sz n : Nat} {v : Value} {m : Int} (hc : CutS C own v n) (ht : SlT C.P t E sz) (hx : opv ⟨sl, own⟩ x = some v) (hh : opv ⟨sl, own⟩ l = some (.int .i64 m)) (hm : 0 ≤ m ∧ m ≤ n) :
    Yl C ⟨sl, own⟩ ⟨dst, .slice t x (some l) none none, ty, pos, aft, g⟩ (slFr v sz m.toNat) :=
  fun a w hs => by
    obtain ⟨ao, c, rfl, hnc⟩ := hc w hs.world
    obtain ⟨inf, hi1, hi2⟩ := ht.inf
    simp only [execOp, opv_eval hs hx, Option.map_none, Option.map_some, opv_eval hs hh]
    simp [Instr.sliceAt, Instr.slice, Instr.sliceBounds, Instr.sliceBound, asIntOf, run_underlying ht.1, hm.1, hm.2, sizeOf, typeInfo, hi1, slFr, hi2]
end cuts
section cuts2
variable {C : Cx} {sl : List (Nat × Value)} {own : List Asn} {ops : Array Oper} {Q : Exit → Act → World → Prop} {ty : TypeId} {pos : String} {aft : Array Edge} {g : Option (Nat × Bool)} {rest : List Oper}
end cuts2
end Go.Sx
