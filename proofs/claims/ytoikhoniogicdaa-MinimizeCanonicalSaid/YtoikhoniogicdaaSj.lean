import Derived.Test.YtoikhoniogicdaaSk
set_option linter.unusedVariables false
set_option linter.unusedSimpArgs false
namespace Go.Sx
open Go.RowKit
/-! ### short forms -/
section
variable {C : Cx} {sl : List (Nat × Value)} {own : List Asn} {ops : Array Oper} {Q : Exit → Act → World → Prop} {Qq : Act → Prop} {d : Nat} {op : Op} {ty : TypeId} {pos : String} {aft : Array Edge} {g : Option (Nat × Bool)} {rest : List Oper} {u : Value} {y : Operand}
theorem AK.v (hy : Yl C ⟨sl, own⟩ ⟨some d, op, ty, pos, aft, none⟩ u) (h : AK C ⟨(d, u) :: sl, own⟩ (wpList C.P ops Q rest)) (hd : Nat.blt d C.N = true := by exact rfl) : AK C ⟨sl, own⟩ (wpList C.P ops Q (⟨some d, op, ty, pos, aft, none⟩ :: rest)) := AK.val u hy trivial hd h
theorem QK.v (hy : Yl C ⟨sl, own⟩ ⟨some d, op, ty, pos, aft, none⟩ u) (h : QK C ⟨(d, u) :: sl, own⟩ (wpQuiet C.P ops (HW C own) Qq rest)) (hd : Nat.blt d C.N = true := by exact rfl) : QK C ⟨sl, own⟩ (wpQuiet C.P ops (HW C own) Qq (⟨some d, op, ty, pos, aft, none⟩ :: rest)) := QK.val u hy trivial hd h
theorem SK.v {w : World} (hw : HW C own w) (hy : Yl C ⟨sl, own⟩ ⟨some d, op, ty, pos, aft, none⟩ u) (h : SK C ⟨(d, u) :: sl, own⟩ (wpStill C.P ops w Qq rest)) (hd : Nat.blt d C.N = true := by exact rfl) : SK C ⟨sl, own⟩ (wpStill C.P ops w Qq (⟨some d, op, ty, pos, aft, none⟩ :: rest)) := SK.val hw u hy trivial hd h
theorem AK.mv (hx : opv ⟨sl, own⟩ y = some u) (h : AK C ⟨(d, u) :: sl, own⟩ (wpList C.P ops Q rest)) (hd : Nat.blt d C.N = true := by exact rfl) : AK C ⟨sl, own⟩ (wpList C.P ops Q (⟨some d, .move y, ty, pos, aft, none⟩ :: rest)) := AK.v (.move hx) h hd
theorem AK.as (hx : opv ⟨sl, own⟩ y = some u) (h : AK C ⟨(d, u) :: sl, own⟩ (wpList C.P ops Q rest)) (hd : Nat.blt d C.N = true := by exact rfl) : AK C ⟨sl, own⟩ (wpList C.P ops Q (⟨some d, .assign y, ty, pos, aft, none⟩ :: rest)) := AK.v (.assign hx) h hd
theorem QK.mv (hx : opv ⟨sl, own⟩ y = some u) (h : QK C ⟨(d, u) :: sl, own⟩ (wpQuiet C.P ops (HW C own) Qq rest)) (hd : Nat.blt d C.N = true := by exact rfl) : QK C ⟨sl, own⟩ (wpQuiet C.P ops (HW C own) Qq (⟨some d, .move y, ty, pos, aft, none⟩ :: rest)) := QK.v (.move hx) h hd
theorem QK.as (hx : opv ⟨sl, own⟩ y = some u) (h : QK C ⟨(d, u) :: sl, own⟩ (wpQuiet C.P ops (HW C own) Qq rest)) (hd : Nat.blt d C.N = true := by exact rfl) : QK C ⟨sl, own⟩ (wpQuiet C.P ops (HW C own) Qq (⟨some d, .assign y, ty, pos, aft, none⟩ :: rest)) := QK.v (.assign hx) h hd
/-- behind a region, and into the next -/
theorem AK.nt {J : Act → World → Prop} {K : Act → World → Prop} (hK : ∀ st', AK C st' J → AK C st' K) (h : AK C ⟨sl, own⟩ J) : AK C ⟨sl, own⟩ (wpList C.P ops (Exit.then K Q) []) := AK.nil (AK.then_ (hK _ h))
theorem AK.sr {id : Nat} {l : List Oper} {z : Code} {st : St} (h : ∀ K : Act → World → Prop, (∀ st', AK C st' (z.wp C.P Q) → AK C st' K) → AK C st (wpList C.P l.toArray (Exit.then K Q) l)) : AK C st ((Code.seq (Code.region id l.toArray false) z).wp C.P Q) := AK.seq fun K hK => AK.region (h K hK)
/-- a set of numbers as an array -/
def lb (n m : Nat) : Array Bool := ((List.range n).map fun i => m.testBit i).toArray
theorem HeldK.f {n : Nat} (i k m : Nat) {fuel : Nat} {listed : Array Bool} {o : Oper} {d : Nat} (hi : ops[i]? = some o) (hod : o.dst = some d) (hy : Yl C ⟨sl, own⟩ o u) (hg : Grd ops sl o.guard)
    (h : AK C ⟨(d, u) :: sl, own⟩ (HeldK C ops Q own n fuel (lb k m))) (hB : heldB ops listed n i = true := by kernel_rfl) (hl : listed.setIfInBounds i true = lb k m := by kernel_rfl) (hd : Nat.blt d C.N = true := by exact rfl) : AK C ⟨sl, own⟩ (HeldK C ops Q own n (fuel + 1) listed) := HeldK.first i u hi hB hl hod hy hg hd h
end
theorem krf {α : Type} {a b : α} (h : a = b := by kernel_rfl) : a = b := h
theorem rdp {C : Cx} {own : List Asn} {v : Value} {sz n : Nat} {cs : List Value} (h : RdS C own v sz n cs := by first | exact .arg ‹_› | ((repeat (first | exact .hd | apply RdS.tl)); done) | assumption) : RdS C own v sz n cs := h
theorem bsp {C : Cx} {own : List Asn} {b : Nat} {cs : List Value} (h : BoxS C own b cs := by first | ((repeat (first | exact .hd | apply BoxS.tl)); done) | assumption | exact BoxS.arg (by assumption)) : BoxS C own b cs := h
theorem msp {C : Cx} {own : List Asn} {v : Value} {kvs : List (Value × Value)} (h : MapS C own v kvs := by first | ((repeat (first | exact .hd | apply MapS.tl)); done) | assumption) : MapS C own v kvs := h
theorem hle {l l' : List Asn} (h : HWle l l' := by ((repeat (first | refine HWle.cons Ale.rfl ?_ | refine HWle.cons Ale.fst ?_ | exact HWle.nil)) <;> fail)) : HWle l l' := h
theorem slr {sl l : List (Nat × Value)} (h : SlLe sl l := by ((repeat (first | refine SlLe.cons rfl ?_ | exact SlLe.nil)) <;> fail)) : SlLe sl l := h
theorem oneP {us : List Value} (h : one' us := by ((repeat (first | refine one'_cons (by first | rfl | exact IsSl.one (by assumption) | exact IsSl.one nilSl) ?_ | exact one'_nil)) <;> fail)) : one' us := h
theorem pkl {own1 L : List Asn} {σ : List Nat} (h : PickLe own1 L σ := by ((repeat (first | refine PickLe.cons rfl Ale.rfl ?_ | refine PickLe.cons rfl Ale.snd ?_ | refine PickLe.cons rfl Ale.fst ?_ | exact PickLe.nil)) <;> fail)) : PickLe own1 L σ := h
section
variable {C : Cx} {sl : List (Nat × Value)} {own : List Asn} {dst : Option Nat} {ty : TypeId} {pos : String} {aft : Array Edge} {g : Option (Nat × Bool)} {x i : Operand} {t e : TypeId} {sz : Nat} {v : Value} {n : Nat} {cs : List Value}
theorem Yl.iN {k : Nat} (ht : SlT C.P t e sz) (hx : opv ⟨sl, own⟩ x = some v) (hi : opv ⟨sl, own⟩ i = some (.int .i64 (k : Int)))
    (hr : RdS C own v sz n cs := by first | exact .arg ‹_› | ((repeat (first | exact .hd | apply RdS.tl)); done) | assumption) (hz : 0 < sz := by decide) (h0 : k < n := by omega) : Yl C ⟨sl, own⟩ ⟨dst, .indexAddr t x i, ty, pos, aft, g⟩ (.pointer (some ((slA v).add (k * sz)))) := Yl.idxN ht hx hi hr hz h0
theorem Yl.iK {q : IntKind} {k : Int} (ht : SlT C.P t e sz) (hx : opv ⟨sl, own⟩ x = some v) (hi : opv ⟨sl, own⟩ i = some (.int q k))
    (hr : RdS C own v sz n cs := by first | exact .arg ‹_› | ((repeat (first | exact .hd | apply RdS.tl)); done) | assumption) (hz : 0 < sz := by decide) (h0 : 0 ≤ k ∧ k < n := by omega) : Yl C ⟨sl, own⟩ ⟨dst, .indexAddr t x i, ty, pos, aft, g⟩ (.pointer (some ((slA v).add (k.toNat * sz)))) := Yl.idxK ht hx hi hr hz h0
end
theorem bs : (∀ (p : Prop) [Decidable p], (decide p = true) = p) ∧ (∀ (p : Prop) [Decidable p], (decide p = false) = ¬ p) ∧ (∀ b : Bool, ((!b) = true) = (b = false)) ∧ (∀ b : Bool, ((!b) = false) = (b = true)) ∧ (∀ b : Bool, (!!b) = b) ∧ (∀ {α : Type} (a b : α), (a ≠ b) = ¬ a = b) ∧ (∀ (p : Prop) [Decidable p], (¬ ¬ p) = p) ∧ (∀ a b : Int, (¬ a < b) = (b ≤ a)) ∧ (∀ a b : Int, (¬ a ≤ b) = (b < a)) ∧ (∀ {α : Type} [BEq α] [LawfulBEq α] (a b : α), ((a == b) = true) = (a = b)) ∧ (∀ {α : Type} [BEq α] [LawfulBEq α] (a b : α), ((a != b) = true) = (a ≠ b)) ∧ (∀ a b : Bool, ((a && b) = true) = (a = true ∧ b = true)) ∧ (∀ a b : Bool, ((a || b) = true) = (a = true ∨ b = true)) ∧ (∀ a b : Bool, ((a || b) = false) = (a = false ∧ b = false)) ∧ ((!false) = true) ∧ ((!true) = false) ∧ ((true = false) = False) ∧ ((false = true) = False) ∧ ((¬ True) = False) ∧ ((¬ False) = True) := by
  refine ⟨?_, ?_, ?_, ?_, ?_, ?_, ?_, ?_, ?_, ?_, ?_, ?_, ?_, ?_, ?_, ?_, ?_, ?_, ?_, ?_⟩ <;> intros <;> simp
theorem tmod_bd (m : Int) {n : Int} (hn : 0 < n) : -n < m.tmod n ∧ m.tmod n < n := by
  have h1 := Int.tmod_lt_of_pos m hn
  have h2 : -(m.tmod n) < n := by rw [← Int.neg_tmod]; exact Int.tmod_lt_of_pos (-m) hn
  omega
section
variable {C : Cx} {sl : List (Nat × Value)} {own : List Asn} {dst : Option Nat} {ty : TypeId} {pos : String} {aft : Array Edge} {g : Option (Nat × Bool)}
theorem Yl.remT {x y : Operand} {t t' : TypeId} {m n : Int} (hx : opv ⟨sl, own⟩ x = some (.int .i64 m)) (hy : opv ⟨sl, own⟩ y = some (.int .i64 n)) (hm : -9223372036854775808 ≤ m ∧ m ≤ 9223372036854775807) (hn : 0 < n ∧ n ≤ 9223372036854775807) :
    Yl C ⟨sl, own⟩ ⟨dst, .binOp .rem t x y t', ty, pos, aft, g⟩ (.int .i64 (m.tmod n)) :=
  fun a w hs => by
    have h1 := tmod_bd m hn.1
    have h2 : IntKind.i64.wrap (m.tmod n) = m.tmod n := by rw [IntKind.wrap_i64]; omega
    have h3 : n ≠ 0 := by omega
    simp only [execOp, opv_eval hs hx, opv_eval hs hy]
    simp [go_sem, h2, h3]
def andZ (m n : Int) : Int := IntKind.i64.wrap (BitVec.toNat (BitVec.ofInt 64 m &&& BitVec.ofInt 64 n) : Int)
theorem Yl.andAny {x y : Operand} {t t' : TypeId} {m n : Int} (hx : opv ⟨sl, own⟩ x = some (.int .i64 m)) (hy : opv ⟨sl, own⟩ y = some (.int .i64 n)) : Yl C ⟨sl, own⟩ ⟨dst, .binOp .and t x y t', ty, pos, aft, g⟩ (.int .i64 (andZ m n)) :=
  fun a w hs => by
    simp only [execOp, opv_eval hs hx, opv_eval hs hy]
    simp only [go_sem, Op.intBits, IntKind.bits]
    rfl
end
theorem idx_ok (m : Int) {n : Nat} (hn : 0 < n) : ∃ i : Nat, (m.tmod (n : Int) + (n : Int)) % (n : Int) = (i : Int) ∧ i < n ∧ 0 ≤ m.tmod (n : Int) + (n : Int) ∧ m.tmod (n : Int) + (n : Int) < 2 * n := by
  have h1 := tmod_bd m (n := (n : Int)) (by omega)
  have h2 := Int.emod_nonneg (m.tmod (n : Int) + (n : Int)) (b := (n : Int)) (by omega)
  have h3 := Int.emod_lt_of_pos (m.tmod (n : Int) + (n : Int)) (b := (n : Int)) (by omega)
  exact ⟨((m.tmod (n : Int) + (n : Int)) % (n : Int)).toNat, by omega, by omega, by omega, by omega⟩
theorem set_len {ls : List (List UInt8)} {i : Nat} {l : List UInt8} (h : ∀ a ∈ ls, a.length ≤ 9223372036854775807) (hl : l.length ≤ 9223372036854775807) : ∀ a ∈ ls.set i l, a.length ≤ 9223372036854775807 := fun a ha => by
  rcases List.mem_or_eq_of_mem_set ha with h1 | rfl
  · exact h a h1
  · exact hl
theorem app_len {ls : List (List UInt8)} {l : List UInt8} (h : ∀ a ∈ ls, a.length ≤ 9223372036854775807) (hl : l.length ≤ 9223372036854775807) : ∀ a ∈ ls ++ [l], a.length ≤ 9223372036854775807 := fun a ha => by
  rcases List.mem_append.1 ha with h1 | h1
  · exact h a h1
  · rw [List.mem_singleton] at h1; subst h1; exact hl
end Go.Sx
