import Derived.Test.YtdnhiinakhmhgaaGreatDoorYZc
import Derived.Lib.TrailingZeros
import Derived.Laws.StructEq
import Derived.Test.YtdnhiinakhmhgaaGreatDoorYZa
import Derived.ProofKit
import Derived.OpenShut
import Derived.Deep.Slices
import Derived.Test.YtdnhiinakhmhgaaGreatDoorYZb
import Derived.WideShapes
import Derived.Test.YtdnhiinakhmhgaaGreatDoorRows
import Derived.LaidMore
import Derived.Lib.LaidTab
import Derived.Stop.Joined
set_option linter.unusedVariables false
set_option linter.unusedSimpArgs false
set_option maxRecDepth 100000
namespace Go.Sx
open Go.RowKit
/-! ### members of a set -/
def memF (s : W64) (i : Nat) : Nat → List Nat
  | 0 => []
  | f + 1 => if s.getLsbD i = true then i :: memF s (i + 1) f else memF s (i + 1) f
/-- the members, ascending -/
def mems (s : W64) : List Nat := memF s 0 64
theorem memF_congr {s t : W64} : ∀ (f i : Nat), (∀ j, i ≤ j → j < i + f → s.getLsbD j = t.getLsbD j) → memF s i f = memF t i f
  | 0, _, _ => rfl
  | f + 1, i, h => by
    have h1 := h i (Nat.le_refl _) (by omega)
    have h2 := memF_congr f (i + 1) (fun j h3 h4 => h j (by omega) (by omega))
    show (if s.getLsbD i = true then _ else _) = if t.getLsbD i = true then _ else _
    rw [h1, h2]
theorem memF_skip {s : W64} : ∀ (k i f : Nat), (∀ j, i ≤ j → j < i + k → s.getLsbD j = false) → memF s i (k + f) = memF s (i + k) f
  | 0, i, f, _ => by simp
  | k + 1, i, f, h => by
    rw [show k + 1 + f = (k + f) + 1 by omega]
    show (if s.getLsbD i = true then _ else _) = _
    rw [h i (Nat.le_refl _) (by omega)]
    have := memF_skip k (i + 1) f (fun j h1 h2 => h j (by omega) (by omega))
    rw [if_neg (by decide), this]; congr 1; omega
theorem mems_len (s : W64) : (mems s).length ≤ 64 := by
  have : ∀ f i, (memF s i f).length ≤ f := by
    intro f
    induction f with
    | zero => intro i; exact Nat.le_refl _
    | succ f ih =>
      intro i
      have := ih (i + 1)
      show (if s.getLsbD i = true then _ else _ : List Nat).length ≤ _
      split
      · simp; omega
      · omega
  exact this 64 0
theorem mems_zero : mems 0 = [] := by decide
theorem low_bits {s : W64} (h : s ≠ 0) : Lib.ctz 64 s.toNat < 64 ∧ s.getLsbD (Lib.ctz 64 s.toNat) = true ∧ (∀ i, i < Lib.ctz 64 s.toNat → s.getLsbD i = false) ∧ ∀ i, i < 64 → (s &&& (s - 1)).getLsbD i = (s.getLsbD i && decide (i ≠ Lib.ctz 64 s.toNat)) := by
  have h0 : s.toNat ≠ 0 := fun e => h (BitVec.eq_of_toNat_eq (by rw [e]; rfl))
  obtain ⟨m, hm, hc⟩ := Lib.ctzFrom_spec 64 s.toNat (by omega) s.isLt
  have e : Lib.ctz 64 s.toNat = Lib.ctzFrom 64 s.toNat := if_neg h0
  rw [e]
  generalize Lib.ctzFrom 64 s.toNat = c at hm hc
  have hb : ∀ i, s.getLsbD i = if i < c then false else (2 * m + 1).testBit (i - c) := fun i => by
    rw [← BitVec.testBit_toNat, hm]
    have := Nat.testBit_two_pow_mul_add (2 * m + 1) (b := 0) (i := c) (Nat.pow_pos (by omega)) i
    rw [Nat.add_zero] at this
    rw [this]
    split
    · exact Nat.zero_testBit i
    · rfl
  have hpos : 0 < 2 ^ c := Nat.pow_pos (by omega)
  have hs1 : (s - 1).toNat = 2 ^ c * (2 * m) + (2 ^ c - 1) := by
    rw [BitVec.toNat_sub]
    have h1 : (1 : W64).toNat = 1 := by decide
    have h2 := s.isLt
    have h3 : 2 ^ c * (2 * m + 1) = 2 ^ c * (2 * m) + 2 ^ c := by rw [Nat.mul_add, Nat.mul_one]
    rw [h1]; omega
  have hb1 : ∀ i, (s - 1).getLsbD i = if i < c then true else (2 * m).testBit (i - c) := fun i => by
    rw [← BitVec.testBit_toNat, hs1]
    have := Nat.testBit_two_pow_mul_add (2 * m) (b := 2 ^ c - 1) (i := c) (by omega) i
    rw [this]
    split
    · rw [Nat.testBit_two_pow_sub_one]; simp; omega
    · rfl
  refine ⟨hc, ?_, fun i hi => ?_, fun i hi => ?_⟩
  · rw [hb, if_neg (by omega), Nat.sub_self]; simp
  · rw [hb, if_pos hi]
  · rw [BitVec.getLsbD_and, hb, hb1]
    by_cases h1 : i < c
    · rw [if_pos h1]; simp
    · rw [if_neg h1, if_neg h1]
      by_cases h2 : i = c
      · subst h2; simp
      · have h3 : i - c = (i - c - 1) + 1 := by omega
        rw [h3, Nat.testBit_succ, Nat.testBit_succ]
        have e1 : (2 * m + 1) / 2 = m := by omega
        have e2 : 2 * m / 2 = m := by omega
        rw [e1, e2]; simp [h2]
theorem mems_next {s : W64} (h : s ≠ 0) : mems s = Lib.ctz 64 s.toNat :: mems (s &&& (s - 1)) := by
  obtain ⟨h1, h2, h3, h4⟩ := low_bits h
  generalize Lib.ctz 64 s.toNat = c at h1 h2 h3 h4
  unfold mems
  obtain ⟨f, hf⟩ : ∃ f, 64 = c + (f + 1) := ⟨63 - c, by omega⟩
  rw [congrArg (memF s 0) hf, congrArg (memF (s &&& (s - 1)) 0) hf, memF_skip c 0 (f + 1) (fun j _ hj => h3 j (by omega)), memF_skip c 0 (f + 1) (fun j _ hj => by rw [h4 j (by omega), h3 j (by omega)]; rfl)]
  show (if s.getLsbD (0 + c) = true then _ else _) = _ :: (if (s &&& (s - 1)).getLsbD (0 + c) = true then _ else _)
  rw [Nat.zero_add, h2, if_pos rfl, h4 c h1]
  simp only [ne_eq, not_true_eq_false, decide_false, Bool.and_false, Bool.false_eq_true, if_false]
  congr 1
  refine memF_congr _ _ fun j k1 k2 => ?_
  rw [h4 j (by omega), decide_eq_true (show j ≠ c by omega), Bool.and_true]
/-! ### steps -/
def has (s : W64) (j : Int) : Bool := s.getLsbD j.toNat
end Go.Sx

namespace Go.Sx
open Go.RowKit
/-! ### equality of structs of three integers -/
abbrev iv (n : Int) : Value := .int .i64 n
section
variable {C : Cx} {sl : List (Nat × Value)} {own : List Asn} {dst : Option Nat} {ty : TypeId} {pos : String} {aft : Array Edge} {g : Option (Nat × Bool)}
end
section
variable {C : Cx} {sl : List (Nat × Value)} {own : List Asn} {dst : Option Nat} {ty : TypeId} {pos : String} {aft : Array Edge} {g : Option (Nat × Bool)}
theorem Yl.loadU {x : Operand} {t : TypeId} {v : Value} {n j : Nat} {xs : List W64} (ht : OneT C.P t) (hx : opv ⟨sl, own⟩ x = some (.pointer (some ((slA v).add (j * 1)))))
    (hr : RdS C own v 1 n (xs.map uv)) (hj : j < xs.length) : Yl C ⟨sl, own⟩ ⟨dst, .load t x, ty, pos, aft, g⟩ (uv (xs.getD j 0)) := Yl.load ht hx hr rfl 0 hj
end
section
variable {C : Cx} {sl : List (Nat × Value)} {own : List Asn} {dst : Option Nat} {ty : TypeId} {pos : String} {aft : Array Edge} {g : Option (Nat × Bool)}
end
/-! ### the order of edges -/
end Go.Sx

namespace Go.Sx
open Go.RowKit
/-! ### the table of math/bits -/
def TbA (w : World) : Prop := ∀ j, j < 64 → w.cell? ⟨0, j, none⟩ = some (.int .u8 ((Lib.deBruijn64tab.getD j 0 : Nat) : Int))
theorem TbA.lt {w : World} (h : TbA w) : 0 < w.heap.size := by
  have hm := h 0 (by omega)
  unfold World.cell? at hm
  rcases Nat.lt_or_ge 0 w.heap.size with k | k
  · exact k
  · rw [Array.getElem?_eq_none (by simpa using k)] at hm; simp at hm
theorem TbA.fr {S : Nat → Prop} {w w' : World} (h : TbA w) (hf : FrameX S w w') (hS : ¬ S 0) : TbA w' := fun j hj => by
  rw [World.cell?_of_block (hf.block 0 h.lt hS)]; exact h j hj
theorem TbA.at {C : Cx} {own : List Asn} {w : World} (h : TbA C.W0) (hw : HW C own w) (hS : ¬ C.S 0 := by exact fun h => h) : TbA w := h.fr hw.frame hS
section
variable {C : Cx} {sl : List (Nat × Value)} {own : List Asn} {dst : Option Nat} {ty : TypeId} {pos : String} {aft : Array Edge} {g : Option (Nat × Bool)}
theorem Yl.negU {x : Operand} {t t' : TypeId} {a : W64} (hx : opv ⟨sl, own⟩ x = some (uv a)) : Yl C ⟨sl, own⟩ ⟨dst, .unOp .neg t x, t', pos, aft, g⟩ (uv (-a)) :=
  fun act w hs => by
    have h3 : IntKind.u64.wrap (-(a.toNat : Int)) = ((-a).toNat : Int) := by
      have h1 := a.isLt
      have h4 : IntKind.u64.wrap (-(a.toNat : Int)) = (-(a.toNat : Int)) % 2 ^ 64 := by simp [IntKind.wrap, IntKind.bits, IntKind.signed]
      rw [h4, BitVec.toNat_neg]
      omega
    simp only [execOp, opv_eval hs hx, uv]
    simp [go_sem, h3, -BitVec.toNat_neg]
theorem Yl.mulU {x y : Operand} {t t' : TypeId} {a b : W64} (hx : opv ⟨sl, own⟩ x = some (uv a)) (hy : opv ⟨sl, own⟩ y = some (uv b)) : Yl C ⟨sl, own⟩ ⟨dst, .binOp .mul t x y t', ty, pos, aft, g⟩ (uv (a * b)) :=
  fun act w hs => by
    have h3 : IntKind.u64.wrap ((a.toNat : Int) * b.toNat) = ((a * b).toNat : Int) := by
      rw [BitVec.toNat_mul, ← wrap_u64n]; simp
    simp only [execOp, opv_eval hs hx, opv_eval hs hy, uv]
    simp [go_sem, Op.intArith, h3, -BitVec.toNat_mul]
theorem Yl.idxArrU {x i : Operand} {t e n sz b off : Nat} {q : IntKind} {k : Nat} (ht : ArrT C.P t e n sz) (hx : opv ⟨sl, own⟩ x = some (.pointer (some ⟨b, off, none⟩))) (hi : opv ⟨sl, own⟩ i = some (.int q (k : Int))) (hk : k < n) :
    Yl C ⟨sl, own⟩ ⟨dst, .indexAddr t x i, ty, pos, aft, g⟩ (.pointer (some ⟨b, off + k * sz, none⟩)) :=
  fun a w hs => by
    have hs1 := run_sizeOf_of ht.2 w
    simp only [execOp, opv_eval hs hx, opv_eval hs hi, Instr.indexAt, asIntOf, Sem.run_bind, Sem.run_pure, Result.andThen_ok, run_underlying ht.1, Instr.sureAddr]
    simp [hk, hs1, run_underlying ht.1, Addr.add_lit]
theorem Yl.loadTb {x : Operand} {t : TypeId} {k : Nat} (ht : OneT C.P t) (hx : opv ⟨sl, own⟩ x = some (.pointer (some ⟨0, k, none⟩))) (hk : k < 64) (h : TbA C.W0) (hS : ¬ C.S 0 := by exact fun h => h) :
    Yl C ⟨sl, own⟩ ⟨dst, .load t x, ty, pos, aft, g⟩ (.int .u8 ((Lib.deBruijn64tab.getD k 0 : Nat) : Int)) :=
  fun a w hs => by
    have h1 := (h.at hs.world hS) k hk
    simp [execOp, opv_eval hs hx, Instr.loadAt, Instr.sureAddr, run_loadVar_one ht h1]
end
theorem tz_key {s : W64} (h : s ≠ 0) : ∃ k : Nat, k < 64 ∧ ((s &&& -s) * 285870213051353865) >>> 58 = BitVec.ofNat 64 k ∧ Lib.deBruijn64tab.getD k 0 = Lib.ctz 64 s.toNat := by
  have h0 : s.toNat ≠ 0 := fun e => h (BitVec.eq_of_toNat_eq (by rw [e]; rfl))
  obtain ⟨hlow, hk⟩ := Lib.lowest_bit 64 s.toNat h0 s.isLt
  obtain ⟨hi, htab⟩ := Lib.deBruijn64_at _ hk
  refine ⟨_, hi, ?_, htab⟩
  apply BitVec.eq_of_toNat_eq
  have e1 : (s &&& -s).toNat = 2 ^ Lib.ctz 64 s.toNat := by
    rw [BitVec.toNat_and, BitVec.toNat_neg, ← hlow]
    congr 1
    have := s.isLt
    omega
  rw [BitVec.toNat_ushiftRight, BitVec.toNat_mul, e1, BitVec.toNat_ofNat, Nat.shiftRight_eq_div_pow]
  have e2 : (285870213051353865 : W64).toNat = 285870213051353865 := by decide
  rw [e2]
  have e3 : (2 : Nat) ^ 58 = 288230376151711744 := by decide
  have e4 : (2 : Nat) ^ 64 = 18446744073709551616 := by decide
  rw [e3, e4]
  omega
theorem uv_nat {k : Nat} (h : k < 64) : uv (BitVec.ofNat 64 k) = .int .u64 (k : Int) := by
  unfold uv
  rw [BitVec.toNat_ofNat, Nat.mod_eq_of_lt (by omega)]
end Go.Sx

namespace Go.Sx
open Go.ChangeShapes Go.WideShapes Go.ChangeAt Go.RowKit
/-! ### what came in, opened -/
def Wf64 (x : Int) : Prop := -9223372036854775808 ≤ x ∧ x ≤ 9223372036854775807

theorem wf64_of {x : Int} (h : (Lit.int .i64 x).wf = true) : Wf64 x := by
  have := bounds_i64 h
  exact this

end Go.Sx

namespace Go.Sx
open Go.ChangeShapes Go.WideShapes Go.ChangeAt Go.RowKit
section
variable {H : Type} {enc : TypeId × Value → H} {P : Program} {W : World}
open Go.Deep (open_slice1 choose_lt) in
theorem op_list {α : Type} [Inhabited α] {f : α → Value} {ok : α → Prop} {t e : TypeId} (ht : P.underlying t = some (.slice e)) (hc : P.cellsOf e = 1)
    (he : ∀ n v x, DataW.trod enc P W 0 (fun _ => true) true n e [v] = some x → ∃ a, v = f a ∧ ok a) {fuel : Nat} {cs : List Value} {x : DataW H × List MemPlace}
    (h : DataW.trod enc P W 0 (fun _ => true) true fuel t cs = some x) : ∃ v xs, cs = [v] ∧ RdL (fun _ => False) f W v xs ∧ ∀ a ∈ xs, ok a := by
  rcases open_slice1 ht hc h with ⟨rfl, _⟩ | ⟨y, l, cp, m, k, V, D, Pl, rfl, _, hl, hm, hmm, _, hx⟩
  · exact ⟨_, [], rfl, ⟨none, 0, rfl, by simp [maxLen], rfl, fun h => by simp at h, fun a j u ha => by cases ha⟩, by simp⟩
  · have hmc : m = cp := by simpa using hmm
    subst hmc
    obtain ⟨B, hB⟩ := choose_lt (n := m) (p := fun i (b : α) => V i = f b ∧ ok b) (fun i hi => he _ _ _ (hx i hi).2)
    refine ⟨_, (List.range l).map B, rfl, ⟨some y, m, ?_, ?_, ?_, fun _ _ => rfl, ?_⟩, ?_⟩
    · simp
    · simp [maxLen] at hm ⊢; omega
    · simp
    · intro ad j u had hj
      cases had
      refine ⟨id, ?_⟩
      have hjn : j < l := by
        have := (List.getElem?_eq_some_iff.1 hj).1
        simpa using this
      simp [hjn] at hj
      have := (hx j (by omega)).1
      rw [this, (hB j (by omega)).1, hj]
    · intro a ha
      simp at ha
      obtain ⟨i, hi, rfl⟩ := ha
      exact (hB i (by omega)).2
open Go.Deep (open_slice1 choose_lt) in
theorem op_rows {α : Type} {f : α → Value} {ok : α → Prop} {t e : TypeId} (ht : P.underlying t = some (.slice e)) (hc : P.cellsOf e = 1)
    (he : ∀ n cs x, DataW.trod enc P W 0 (fun _ => true) true n e cs = some x → ∃ v xs, cs = [v] ∧ RdL (fun _ => False) f W v xs ∧ ∀ a ∈ xs, ok a) {fuel : Nat} {cs : List Value} {x : DataW H × List MemPlace}
    (h : DataW.trod enc P W 0 (fun _ => true) true fuel t cs = some x) : ∃ v xss, cs = [v] ∧ RdLL (fun _ => False) f W v xss ∧ ∀ xs ∈ xss, ∀ a ∈ xs, ok a := by
  rcases open_slice1 ht hc h with ⟨rfl, _⟩ | ⟨y, l, cp, m, k, V, D, Pl, rfl, _, hl, hm, hmm, _, hx⟩
  · exact ⟨_, [], rfl, ⟨[], rfl, ⟨none, 0, rfl, by simp [maxLen], rfl, fun h => by simp at h, fun a j u ha => by cases ha⟩, fun i hi => by simp at hi⟩, by simp⟩
  · have hmc : m = cp := by simpa using hmm
    subst hmc
    obtain ⟨B, hB⟩ := choose_lt (n := m) (p := fun i (xs : List α) => RdL (fun _ => False) f W (V i) xs ∧ ∀ a ∈ xs, ok a) (fun i hi => by
      obtain ⟨v, xs, e1, e2, e3⟩ := he _ _ _ (hx i hi).2
      cases e1
      exact ⟨xs, e2, e3⟩)
    refine ⟨_, (List.range l).map B, rfl, ⟨(List.range l).map V, by simp, ⟨some y, m, ?_, ?_, ?_, fun _ _ => rfl, ?_⟩, ?_⟩, ?_⟩
    · simp
    · simp [maxLen] at hm ⊢; omega
    · simp
    · intro ad j u had hj
      cases had
      refine ⟨id, ?_⟩
      have hjn : j < l := by
        have := (List.getElem?_eq_some_iff.1 hj).1
        simpa using this
      simp [hjn] at hj
      rw [(hx j (by omega)).1, hj]
    · intro i hi
      have hi' : i < l := by simpa using hi
      have := (hB i (by omega)).1
      simpa [List.getD_eq_getElem?_getD, hi'] using this
    · intro xs hxs
      simp at hxs
      obtain ⟨i, hi, rfl⟩ := hxs
      exact (hB i (by omega)).2
theorem op_ints {t e : TypeId} (ht : P.underlying t = some (.slice e)) (he : P.underlying e = some (.int .i64)) (hc : P.cellsOf e = 1) {fuel : Nat} {cs : List Value} {x : DataW H × List MemPlace}
    (h : DataW.trod enc P W 0 (fun _ => true) true fuel t cs = some x) : ∃ v xs, cs = [v] ∧ RdL (fun _ => False) (Value.int .i64) W v xs ∧ ∀ a ∈ xs, Wf64 a :=
  op_list ht hc (fun n v x hx => by obtain ⟨a, h1, _, h3⟩ := DataW.trod_int he hx; cases h1; exact ⟨a, rfl, wf64_of h3⟩) h
theorem op_intss {t e ee : TypeId} (ht : P.underlying t = some (.slice e)) (hc : P.cellsOf e = 1) (he : P.underlying e = some (.slice ee)) (hee : P.underlying ee = some (.int .i64)) (hcc : P.cellsOf ee = 1) {fuel : Nat} {cs : List Value} {x : DataW H × List MemPlace}
    (h : DataW.trod enc P W 0 (fun _ => true) true fuel t cs = some x) : ∃ v xss, cs = [v] ∧ RdLL (fun _ => False) (Value.int .i64) W v xss ∧ ∀ xs ∈ xss, ∀ a ∈ xs, Wf64 a :=
  op_rows ht hc (fun n cs x hx => op_ints he hee hcc hx) h
end
end Go.Sx

namespace Go.Sx
open Go.ChangeShapes Go.WideShapes Go.ChangeAt Go.RowKit
/-! ### what came in, opened: rows of bytes -/
variable {H : Type} {enc : TypeId × Value → H} {P : Program} {W : World}
end Go.Sx

namespace Go.Proofs.YtdnhiinakhmhgaaGreatDoor
open Go.ChangeShapes Go.WideShapes Go.ChangeAt Go.RowKit Go.Sx
theorem ownK : ownKnob Tryz.prog.godebug = none := by kernel_rfl
theorem laidOut : laidOutB Tryz.prog = true := by kernel_rfl
def laidT : List (String × DataW Unit) := [("math/bits.deBruijn64tab", Rows.laid_math_bits_deBruijn64tab)]
theorem gTab : Tryz.prog.globalNamed "math/bits.deBruijn64tab" = some 0 := by kernel_rfl
theorem door_met (os : Os) (args : Array Value) : laidMetH Tryz.prog laidT ((World.doorLaid Tryz.prog 400 os).forCall (fun _ _ => 0) ⟨#[], args, []⟩).memory :=
  laidMetH_of_parts3 (fuel := 8) (laidMet_of_run' 8 (by kernel_rfl) (by kernel_rfl)) (by kernel_rfl) (by kernel_rfl)
theorem laidT_is : laidT = [("math/bits.deBruijn64tab", Lib.tabData .u8 (Lib.deBruijn64tab.map fun n : Nat => (n : Int)))] := rfl
theorem of_laid {W : World} (h : laidMetH Tryz.prog laidT W) : TbA W := by
  rw [MakeChecks.laidMetH_plain _ _ _ (by kernel_rfl), laidT_is] at h
  have h1 := Lib.tabIs_of_head (n := 64) gTab (t := 220) (e := 5) (by kernel_rfl) (by kernel_rfl) (by kernel_rfl) (by kernel_rfl) (by kernel_rfl) h
  intro j hj
  have h2 := h1.cell gTab j (by simpa [Lib.deBruijn64tab] using hj)
  rw [h2]
  congr 2
  simp only [List.getD_eq_getElem?_getD, List.getElem?_map]
  cases Lib.deBruijn64tab[j]? <;> rfl
end Go.Proofs.YtdnhiinakhmhgaaGreatDoor
