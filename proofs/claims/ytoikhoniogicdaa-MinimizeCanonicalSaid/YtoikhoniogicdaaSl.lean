import Derived.Test.YtoikhoniogicdaaSn
set_option linter.unusedVariables false
set_option linter.unusedSimpArgs false
namespace Go.Sx
open Go.RowKit
/-! ### keys: arrays of numbers, a number and a truth value -/
def Tup (n : Nat) : Type := { l : List Int // l.length = n }
instance (n : Nat) : DecidableEq (Tup n) := inferInstanceAs (DecidableEq { l : List Int // l.length = n })
def tv {n : Nat} (a : Tup n) : Value := .agg (a.1.map (Value.int .i64)).toArray
theorem run_eqItems_ints {P : Program} {e : TypeId} (he : P.underlying e = some (.int .i64)) (d : Nat) (xs ys : List Int) (w : World) : ∀ is : List Nat, (∀ i ∈ is, i < xs.length ∧ i < ys.length) →
    (Op.eqItems (d + 1) e 1 (xs.map (Value.int .i64)).toArray (ys.map (Value.int .i64)).toArray is).run P w = .ok (decide (∀ i ∈ is, xs.getD i 0 = ys.getD i 0)) w
  | [], _ => by simp [Op.eqItems]
  | j :: is, h => by
    have hagg : ∀ w, (isAgg e).run P w = .ok false w := fun w => by simp [isAgg, run_underlying he]
    have hpart : ∀ (cs : Array Value) (off : Nat) (v : Value) (w : World), cs[off]? = some v → (part e cs off).run P w = .ok v w := fun cs off v w h => by simp [part, hagg, h]
    obtain ⟨h1, h2⟩ := h j (List.mem_cons_self ..)
    have p1 := hpart (xs.map (Value.int .i64)).toArray (j * 1) (.int .i64 (xs.getD j 0)) w (by simp [List.getD_eq_getElem?_getD, h1])
    have p2 := hpart (ys.map (Value.int .i64)).toArray (j * 1) (.int .i64 (ys.getD j 0)) w (by simp [List.getD_eq_getElem?_getD, h2])
    have ih := run_eqItems_ints he d xs ys w is (fun i hi => h i (List.mem_cons_of_mem _ hi))
    simp only [Op.eqItems, Sem.run_bind, p1, p2, Result.andThen_ok, run_equalIn_int w d e .i64 .i64 _ _ he]
    by_cases hj : xs.getD j 0 = ys.getD j 0
    · have e1 : (xs.getD j 0 == ys.getD j 0) = true := by rw [beq_iff_eq]; exact hj
      rw [e1]
      simp only [Bool.not_true, Bool.false_eq_true, if_false]
      rw [ih]
      congr 1
      simp only [List.mem_cons, forall_eq_or_imp, hj, true_and]
    · have e1 : (xs.getD j 0 == ys.getD j 0) = false := by rw [beq_eq_false_iff_ne]; exact hj
      rw [e1]
      simp only [Bool.not_false, if_true, Sem.run_pure]
      congr 1
      symm
      rw [decide_eq_false_iff_not]
      intro hh
      exact hj (hh j (List.mem_cons_self ..))
theorem keyTup {P : Program} {kt e : TypeId} {n : Nat} (hk : P.underlying kt = some (.array n e)) (he : P.underlying e = some (.int .i64)) (hs : (P.info? e).map (·.size) = some 1) : KeyL P kt (tv : Tup n → Value) := by
  obtain ⟨i, hi⟩ : ∃ i, P.info? e = some i := by cases h : P.info? e with
    | none => simp [h] at hs
    | some i => exact ⟨i, rfl⟩
  have hsz : i.size = 1 := by simpa [hi] using hs
  have hco : P.cellsOf e = 1 := by simp [Program.cellsOf, hi, hsz]
  have hagg : ∀ w, (isAgg e).run P w = .ok false w := fun w => by simp [isAgg, run_underlying he]
  have hpart : ∀ (cs : Array Value) (off : Nat) (v : Value) (w : World), cs[off]? = some v → (part e cs off).run P w = .ok v w := fun cs off v w h => by simp [part, hagg, h]
  refine keyOfEqual hk (fun a b => rfl) (fun a b w => ?_) (fun em a w => ?_) (fun a => ?_)
  · show (Op.equalIn (9999 + 1) kt (tv a) (tv b)).run P w = _
    unfold tv
    rw [run_equalIn_array (w := w) 9999 _ _ hk hi, hco, run_eqItems_ints he 9998 a.1 b.1 w (List.range n) (fun i hi => by rw [List.mem_range] at hi; rw [a.2, b.2]; exact ⟨hi, hi⟩)]
    congr 1
    rw [decide_eq_decide]
    constructor
    · intro h
      apply Subtype.ext
      apply List.ext_getElem
      · rw [a.2, b.2]
      · intro k h1 h2
        have := h k (by rw [List.mem_range, ← a.2]; exact h1)
        simpa [List.getD_eq_getElem?_getD, h1, h2] using this
    · intro h i _; rw [h]
  · show (Instr.checkKey em (9999 + 1) kt (tv a)).run P w = _
    have hs' : ∀ w, (sizeOf e).run P w = .ok 1 w := fun w => run_sizeOf_of hs w
    have hc0 : ∀ (n : Nat) (x : Int) (w : World), (Instr.checkKey em (n + 1) e (.int .i64 x)).run P w = .ok () w := fun n x w => by simp [Instr.checkKey, run_underlying he]
    have hc : ∀ (x : Int) (w : World), (Instr.checkKey em 9999 e (.int .i64 x)).run P w = .ok () w := fun x w => hc0 9998 x w
    unfold tv Instr.checkKey
    simp only [Sem.run_bind, run_underlying hk, Result.andThen_ok, Std.Legacy.Range.forIn_eq_forIn_range', Std.Legacy.Range.size, Nat.sub_zero, Nat.add_one_sub_one, Nat.div_one]
    have hm : ∀ i ∈ List.range' 0 n, i < n := fun i hi => by rw [List.mem_range'_1] at hi; omega
    revert hm
    generalize List.range' 0 n = is
    intro hm
    induction is with
    | nil => simp
    | cons j is ih =>
      have hj := hm j (List.mem_cons_self ..)
      have p1 := hpart (a.1.map (Value.int .i64)).toArray (j * 1) (.int .i64 (a.1.getD j 0)) w (by simp [List.getD_eq_getElem?_getD, show j < a.1.length by rw [a.2]; exact hj])
      simp only [List.forIn_cons, Sem.run_bind, hs', p1, hc, Result.andThen_ok, Sem.run_pure]
      exact ih (fun i hi => hm i (List.mem_cons_of_mem _ hi))
  · have h0 : ∀ (n : Nat) (v : Int), Instr.sameBits (n + 1) (.int .i64 v) (.int .i64 v) = true := fun n v => by simp [Instr.sameBits]
    have h1 : ∀ n, Instr.sameBits (n + 2) (tv a) (tv a) = true := fun n => by
      unfold tv
      simp only [Instr.sameBits, beq_self_eq_true, Bool.true_and, List.size_toArray, Array.all_eq_true, Array.toList_zip]
      simp
      intro x y hxy
      obtain ⟨i, hi, e⟩ := List.mem_iff_getElem.1 hxy
      rw [List.getElem_zip, List.getElem_map, Prod.mk.injEq] at e
      rw [← e.1, ← e.2]; exact h0 n _
    exact h1 9998
theorem Yl.loadTup {C : Cx} {sl : List (Nat × Value)} {own : List Asn} {dst : Option Nat} {ty : TypeId} {pos : String} {aft : Array Edge} {g : Option (Nat × Bool)} {x : Operand} {t b n : Nat} {a : Tup n} (ht : AggT C.P t n) (hx : opv ⟨sl, own⟩ x = some (.pointer (some ⟨b, 0, none⟩))) (hb : BoxS C own b (a.1.map (Value.int .i64))) :
    Yl C ⟨sl, own⟩ ⟨dst, .load t x, ty, pos, aft, g⟩ (tv a) :=
  Yl.loadBoxG ht hx hb (by rw [List.drop_zero, List.take_of_length_le (by rw [List.length_map, a.2]; exact Nat.le_refl _)]) (by rw [List.length_map, a.2])
/-- a number and a truth value -/
def hbv (p : Int × Bool) : Value := .agg #[.int .i64 p.1, .bool p.2]
theorem keyHalf {P : Program} {kt : TypeId} {f0 f1 : Field} (hk : P.underlying kt = some (.struct #[f0, f1])) (h0 : P.underlying f0.type = some (.int .i64)) (h1 : P.underlying f1.type = some .bool) (o0 : f0.offset = 0) (o1 : f1.offset = 1) (n0 : f0.name ≠ "_") (n1 : f1.name ≠ "_") (hp : P.stoodInHeld kt = false) : KeyL P kt hbv := by
  have hag0 : ∀ w, (isAgg f0.type).run P w = .ok false w := fun w => by simp [isAgg, run_underlying h0]
  have hag1 : ∀ w, (isAgg f1.type).run P w = .ok false w := fun w => by simp [isAgg, run_underlying h1]
  have hp0 : ∀ (x y : Value) (w : World), (part f0.type #[x, y] f0.offset).run P w = .ok x w := fun x y w => by simp [part, hag0, o0]
  have hp1 : ∀ (x y : Value) (w : World), (part f1.type #[x, y] f1.offset).run P w = .ok y w := fun x y w => by simp [part, hag1, o1]
  have hfs : P.fieldsOf kt = #[f0, f1] := by simp [Program.fieldsOf, hk]
  refine keyOfEqual hk (fun a b => rfl) (fun a b w => ?_) (fun em a w => ?_) (fun a => ?_)
  · show (Op.equalIn (9999 + 1) kt (hbv a) (hbv b)).run P w = _
    unfold hbv
    rw [run_equalIn_struct w 9999 kt _ _ (by rw [hfs]; exact hk) hp, hfs]
    have q0 : ∀ (x y : Int) (w : World), (Op.equalIn 9999 f0.type (.int .i64 x) (.int .i64 y)).run P w = .ok (x == y) w := fun x y w => run_equalIn_int w 9998 f0.type .i64 .i64 x y h0
    have q1 : ∀ (x y : Bool) (w : World), (Op.equalIn 9999 f1.type (.bool x) (.bool y)).run P w = .ok (x == y) w := fun x y w => run_equalIn_bool w 9998 f1.type x y h1
    obtain ⟨a1, a2⟩ := a
    obtain ⟨b1, b2⟩ := b
    simp only [Op.eqFields, n0, n1, ne_eq, not_false_eq_true, if_true, Sem.run_bind, hp0, hp1, Result.andThen_ok, q0, q1]
    by_cases e1 : a1 = b1 <;> by_cases e2 : a2 = b2 <;> simp [e1, e2, hp0, hp1, q0, q1]
  · show (Instr.checkKey em (9999 + 1) kt (hbv a)).run P w = _
    have c0 : ∀ (n : Nat) (x : Int) (w : World), (Instr.checkKey em (n + 1) f0.type (.int .i64 x)).run P w = .ok () w := fun n x w => by simp [Instr.checkKey, run_underlying h0]
    have c1 : ∀ (n : Nat) (x : Bool) (w : World), (Instr.checkKey em (n + 1) f1.type (.bool x)).run P w = .ok () w := fun n x w => by simp [Instr.checkKey, run_underlying h1]
    have h : ∀ n, (Instr.checkKey em (n + 2) kt (hbv a)).run P w = .ok () w := fun n => by
      unfold hbv Instr.checkKey
      simp only [Sem.run_bind, run_underlying hk, Result.andThen_ok]
      simp [n0, n1, hp0, hp1, c0, c1]
    exact h 9998
  · have h : ∀ n, Instr.sameBits (n + 2) (hbv a) (hbv a) = true := fun n => by
      unfold hbv
      simp [Instr.sameBits]
    exact h 9998
/-! ### a field of a struct by value -/
def FldQ (P : Program) (s f off : Nat) : Prop := ∃ fs fd, P.underlying s = some (.struct fs) ∧ fs[f]? = some fd ∧ OneT P fd.type ∧ fd.offset = off
def fldQB (P : Program) (s f off : Nat) : Bool := match P.underlying s with
  | some (.struct fs) => match fs[f]? with
    | some fd => ((P.underlying fd.type).map oneD == some true) && fd.offset == off
    | none => false
  | _ => false
theorem FldQ.of {P : Program} {s f off : Nat} (h : fldQB P s f off = true) : FldQ P s f off := by
  unfold fldQB at h
  split at h
  · rename_i fs h1
    split at h
    · rename_i fd h2
      rw [Bool.and_eq_true] at h
      exact ⟨fs, fd, h1, h2, by unfold OneT; simpa using h.1, by simpa using h.2⟩
    · cases h
  · cases h
theorem Yl.fieldQ {C : Cx} {sl : List (Nat × Value)} {own : List Asn} {dst : Option Nat} {ty : TypeId} {pos : String} {aft : Array Edge} {g : Option (Nat × Bool)} {x : Operand} {s f off : Nat} {cs : List Value} {u : Value} (h : FldQ C.P s f off) (hx : opv ⟨sl, own⟩ x = some (.agg cs.toArray)) (hu : cs[off]? = some u) :
    Yl C ⟨sl, own⟩ ⟨dst, .field s x f, ty, pos, aft, g⟩ u := by
  obtain ⟨fs, fd, h1, h2, h3, rfl⟩ := h
  exact Yl.field h1 h2 h3 hx hu
end Go.Sx
