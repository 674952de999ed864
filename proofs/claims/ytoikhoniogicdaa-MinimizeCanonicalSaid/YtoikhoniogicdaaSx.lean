import Derived.WalkKit
import Derived.Still
import Derived.Deep.Quiet
import Derived.Deep.LoopGhost
namespace Go.Sx
open Go.RowKit

/-! ### assertions with a footprint -/
structure Asn where
  holds : World → (Nat → Prop) → Prop
  loc : ∀ w w' F, holds w F → (∀ b, F b → w'.heap[b]? = w.heap[b]?) → holds w' F
  lt : ∀ w F, holds w F → ∀ b, F b → b < w.heap.size

structure Cx where
  P : Program
  N : Nat
  W0 : World
  S : Nat → Prop

/-- what lay there is as it was, but for the blocks of F -/
structure FrameX (F : Nat → Prop) (w w' : World) : Prop where
  os : w'.os = w.os
  tape : w'.tape = w.tape
  output : w'.output = w.output
  size : w.heap.size ≤ w'.heap.size
  block : ∀ k, k < w.heap.size → ¬ F k → w'.heap[k]? = w.heap[k]?

theorem FrameX.refl (F : Nat → Prop) (w : World) : FrameX F w w := ⟨rfl, rfl, rfl, Nat.le_refl _, fun _ _ _ => rfl⟩

theorem FrameX.toBelow {w w' : World} (h : FrameX (fun _ => False) w w') : Below w.heap.size w w' :=
  ⟨h.os, h.tape, h.output, h.size, fun k hk => h.block k hk id⟩

theorem FrameX.ofBelow {w w' : World} (h : Below w.heap.size w w') : FrameX (fun _ => False) w w' :=
  ⟨h.os, h.tape, h.output, h.size, fun k hk _ => h.block k hk⟩

/-- a step: blocks outside F and old are kept; F lies in S or behind the start -/
theorem FrameX.step {S F : Nat → Prop} {w0 w w' : World} (h : FrameX S w0 w) (k : FrameX F w w') (hF : ∀ b, F b → b < w0.heap.size → S b) : FrameX S w0 w' :=
  ⟨k.os.trans h.os, k.tape.trans h.tape, k.output.trans h.output, Nat.le_trans h.size k.size,
   fun b hb hs => (k.block b (Nat.lt_of_lt_of_le hb h.size) (fun hf => hs (hF b hf hb))).trans (h.block b hb hs)⟩

theorem FrameX.mono {F G : Nat → Prop} {w w' : World} (h : FrameX F w w') (hFG : ∀ b, F b → b < w.heap.size → G b) : FrameX G w w' :=
  ⟨h.os, h.tape, h.output, h.size, fun k hk hg => h.block k hk (fun hf => hg (hFG k hf hk))⟩

/-- the owned assertions, each with its footprint -/
structure HeapAt (own : List Asn) (Fs : Nat → Nat → Prop) (w : World) : Prop where
  at_ : ∀ (i : Nat) (A : Asn), own[i]? = some A → A.holds w (Fs i)
  out : ∀ i, own.length ≤ i → ∀ b, ¬ Fs i b
  apart : ∀ i j b, Fs i b → Fs j b → i = j

def uni (Fs : Nat → Nat → Prop) (b : Nat) : Prop := ∃ i, Fs i b

theorem HeapAt.lt {own : List Asn} {Fs : Nat → Nat → Prop} {w : World} (h : HeapAt own Fs w) {i b : Nat} (hb : Fs i b) : b < w.heap.size := by
  by_cases hi : i < own.length
  · exact (own[i]).lt w _ (h.at_ i own[i] (by simp [hi])) b hb
  · exact absurd hb (h.out i (by omega) b)

theorem HeapAt.nil (w : World) : HeapAt [] (fun _ _ => False) w := ⟨by simp, fun _ _ _ => id, fun _ _ _ h => h.elim⟩

/-- the world: framed, and the owned assertions hold apart -/
structure HW (C : Cx) (own : List Asn) (w : World) : Prop where
  frame : FrameX C.S C.W0 w
  heap : ∃ Fs, HeapAt own Fs w ∧ ∀ i b, Fs i b → C.W0.heap.size ≤ b ∨ C.S b

structure St where
  sl : List (Nat × Value)
  own : List Asn

def get : List (Nat × Value) → Nat → Option Value
  | [], _ => none
  | (i, v) :: l, k => if i = k then some v else get l k

structure Sim (C : Cx) (st : St) (a : Act) (w : World) : Prop where
  size : a.tmps.size = C.N
  defers : a.defers = []
  slot : ∀ i v, get st.sl i = some v → a.tmps.getD i undef = v
  world : HW C st.own w

/-- the goal of the walk -/
def AK (C : Cx) (st : St) (K : Act → World → Prop) : Prop := ∀ a w, Sim C st a w → K a w

def St.put (st : St) (d : Option Nat) (v : Value) : St :=
  match d with
  | some d => ⟨(d, v) :: st.sl, st.own⟩
  | none => st

def opv (st : St) : Operand → Option Value
  | .tmp t => get st.sl t
  | .const v => some v
  | .global g => some (.pointer (some ⟨g, 0, none⟩))
  | .func f => some (.func (.func f) #[] #[])

theorem opv_eval {C : Cx} {st : St} {a : Act} {w : World} (h : Sim C st a w) {x : Operand} {v : Value} (hx : opv st x = some v) : a.eval x = v := by
  cases x with
  | tmp t => exact h.slot t v hx
  | const u => simpa [opv, Act.eval] using hx
  | global g => simpa [opv, Act.eval] using hx
  | func f => simpa [opv, Act.eval] using hx

theorem Sim.put {C : Cx} {st : St} {a : Act} {w w' : World} (h : Sim C st a w) {own' : List Asn} (hw : HW C own' w') {d : Option Nat} (hd : ∀ i, d = some i → i < C.N) (v : Value) :
    Sim C ⟨(st.put d v).sl, own'⟩ (a.put d v) w' := by
  cases d with
  | none => exact ⟨h.size, h.defers, h.slot, hw⟩
  | some i =>
    refine ⟨by simp [Act.put, h.size], h.defers, fun j u hj => ?_, hw⟩
    simp only [St.put, get] at hj
    have hi := hd i rfl
    rw [← h.size] at hi
    simp only [Act.put]
    split at hj
    · rename_i e; subst e
      simp only [Option.some.injEq] at hj
      subst hj
      simp [hi]
    · rename_i e
      have := h.slot j u hj
      simp only [Array.getD_eq_getD_getElem?] at this ⊢
      rw [Array.getElem?_setIfInBounds, if_neg e]
      exact this

/-! ### operations that only compute -/
def Yl (C : Cx) (st : St) (o : Oper) (v : Value) : Prop := ∀ a w, Sim C st a w → (execOp a.eval o).run C.P w = .ok (.value v) w

theorem AK.pure {C : Cx} {st : St} {ops : Array Oper} {Q : Exit → Act → World → Prop} {o : Oper} {rest : List Oper} (v : Value) (hy : Yl C st o v) (hg : o.guard = none)
    (hd : (match o.dst with | some i => decide (i < C.N) | none => true) = true) (h : AK C (st.put o.dst v) (wpList C.P ops Q rest)) : AK C st (wpList C.P ops Q (o :: rest)) := by
  intro a w hs
  refine wpList_plain hg fun K hK => ?_
  simp only [Oper.wp, hy a w hs, Oper.upon]
  refine hK _ _ (h _ _ ?_)
  have := hs.put hs.world (d := o.dst) (fun i hi => by rw [hi] at hd; simpa using hd) v
  cases hd' : o.dst <;> simpa [St.put, hd'] using this

theorem AK.nil {C : Cx} {st : St} {ops : Array Oper} {Q : Exit → Act → World → Prop} (h : AK C st (Q .normal)) : AK C st (wpList C.P ops Q []) :=
  fun a w hs => wpList_nil (h a w hs)

theorem AK.region {C : Cx} {st : St} {id : Nat} {l : List Oper} {Q : Exit → Act → World → Prop} (h : AK C st (wpList C.P l.toArray Q l)) : AK C st ((Code.region id l.toArray false).wp C.P Q) :=
  fun a w hs => wp_region_lit (h a w hs)

theorem AK.seq {C : Cx} {st : St} {x y : Code} {Q : Exit → Act → World → Prop}
    (h : ∀ K : Act → World → Prop, (∀ st', AK C st' (y.wp C.P Q) → AK C st' K) → AK C st (x.wp C.P (Exit.then K Q))) : AK C st ((Code.seq x y).wp C.P Q) :=
  fun a w hs => wp_seq (h _ (fun _ h => h) a w hs)

theorem AK.then_ {C : Cx} {st : St} {K : Act → World → Prop} {Q : Exit → Act → World → Prop} (h : AK C st K) : AK C st (Exit.then K Q .normal) := h

theorem AK.block {C : Cx} {st : St} {id : Nat} {c : Code} {Q : Exit → Act → World → Prop} (h : AK C st (c.wp C.P (Exit.inBlock id Q))) : AK C st ((Code.block id c).wp C.P Q) :=
  fun a w hs => wp_block (h a w hs)

theorem AK.skip {C : Cx} {st : St} {Q : Exit → Act → World → Prop} (h : AK C st (Q .normal)) : AK C st (Code.skip.wp C.P Q) := fun a w hs => wp_skip (h a w hs)
theorem AK.exit {C : Cx} {st : St} {id : Nat} {Q : Exit → Act → World → Prop} (h : AK C st (Q (.exit id))) : AK C st ((Code.exit id).wp C.P Q) := fun a w hs => wp_exit (h a w hs)
theorem AK.ret {C : Cx} {st : St} {Q : Exit → Act → World → Prop} (h : AK C st (Q .ret)) : AK C st (Code.ret.wp C.P Q) := fun a w hs => wp_ret (h a w hs)

theorem AK.cond {C : Cx} {st : St} {c : Operand} {x y : Code} {Q : Exit → Act → World → Prop} {t : Bool} (hc : opv st c = some (.bool t)) (hx : t = true → AK C st (x.wp C.P Q)) (hy : t = false → AK C st (y.wp C.P Q)) :
    AK C st ((Code.cond c x y).wp C.P Q) :=
  fun a w hs => wp_cond_split (opv_eval hs hc) (fun h => hx h a w hs) (fun h => hy h a w hs)
theorem AK.cond_t {C : Cx} {st : St} {c : Operand} {x y : Code} {Q : Exit → Act → World → Prop} {t : Bool} (hc : opv st c = some (.bool t)) (ht : t = true) (hx : AK C st (x.wp C.P Q)) :
    AK C st ((Code.cond c x y).wp C.P Q) := AK.cond hc (fun _ => hx) (fun h => by rw [ht] at h; cases h)
theorem AK.cond_f {C : Cx} {st : St} {c : Operand} {x y : Code} {Q : Exit → Act → World → Prop} {t : Bool} (hc : opv st c = some (.bool t)) (ht : t = false) (hx : AK C st (y.wp C.P Q)) :
    AK C st ((Code.cond c x y).wp C.P Q) := AK.cond hc (fun h => by rw [ht] at h; cases h) (fun _ => hx)

/-! ### weakening of what is known -/
def St.le (st st' : St) : Prop := (∀ i v, get st'.sl i = some v → get st.sl i = some v) ∧ ∀ C w, HW C st.own w → HW C st'.own w

theorem Sim.weaken {C : Cx} {st st' : St} {a : Act} {w : World} (h : Sim C st a w) (hl : st.le st') : Sim C st' a w :=
  ⟨h.size, h.defers, fun i v hv => h.slot i v (hl.1 i v hv), hl.2 C w h.world⟩

theorem AK.weaken {C : Cx} {st st' : St} {K : Act → World → Prop} (hl : st.le st') (h : AK C st' K) : AK C st K := fun a w hs => h a w (hs.weaken hl)

/-- a loop: a family of states, and a measure -/
theorem AK.loop {C : Cx} {st : St} {c : Code} {Q : Exit → Act → World → Prop} {X : Type} (I : X → St) (good : X → Prop) (μ : X → Nat) (x0 : X) (h0 : good x0) (hl : st.le (I x0))
    (round : ∀ x, good x → ∀ K : Act → World → Prop, (∀ st' x', good x' → μ x' < μ x → st'.le (I x') → AK C st' K) → AK C (I x) (c.wp C.P (Exit.then K Q))) : AK C st ((Code.loop c).wp C.P Q) := by
  intro a w hs
  refine wp_loop_ghost (fun n a w => ∃ x, good x ∧ μ x = n ∧ Sim C (I x) a w) (μ x0) ⟨x0, h0, rfl, hs.weaken hl⟩ ?_
  rintro n a w ⟨x, hg, rfl, hs⟩
  exact round x hg _ (fun st' x' hg' hlt hle a w hs' => ⟨μ x', hlt, x', hg', rfl, hs'.weaken hle⟩) a w hs

/-! ### guards, one operation -/
def Grd (ops : Array Oper) (sl : List (Nat × Value)) : Option (Nat × Bool) → Prop
  | none => True
  | some (j, want) => ∃ d, (ops[j]?).bind (·.dst) = some d ∧ get sl d = some (.bool want)

def NotB (v : Value) (want : Bool) : Prop := match v with | .bool b => b = !want | _ => True

theorem wanted_of_Grd {C : Cx} {st : St} {a : Act} {w : World} (hs : Sim C st a w) {ops : Array Oper} {o : Oper} (hg : Grd ops st.sl o.guard) : Region.wanted o (yielded ops a.tmps) = true := by
  unfold Region.wanted
  split
  · rfl
  · rename_i j want h
    rw [h] at hg
    obtain ⟨d, h1, h2⟩ := hg
    have h3 := hs.slot d _ h2
    cases ho : ops[j]? with
    | none => simp [ho] at h1
    | some o' =>
      simp only [ho, Option.bind_some] at h1
      simp [yielded, ho, h1]
      simp only [Array.getD_eq_getD_getElem?] at h3
      cases hq : a.tmps[d]? with
      | none => simp [hq, undef] at h3
      | some u => simp [hq] at h3; simp [h3]

theorem AK.val {C : Cx} {sl : List (Nat × Value)} {own : List Asn} {ops : Array Oper} {Q : Exit → Act → World → Prop} {d : Nat} {op : Op} {ty : TypeId} {pos : String} {aft : Array Edge} {g : Option (Nat × Bool)} {rest : List Oper} (v : Value)
    (hy : Yl C ⟨sl, own⟩ ⟨some d, op, ty, pos, aft, g⟩ v) (hg : Grd ops sl g) (hd : Nat.blt d C.N = true) (h : AK C ⟨(d, v) :: sl, own⟩ (wpList C.P ops Q rest)) :
    AK C ⟨sl, own⟩ (wpList C.P ops Q (⟨some d, op, ty, pos, aft, g⟩ :: rest)) := by
  intro a w hs
  refine wpList_step fun K hK => ?_
  rw [if_pos (wanted_of_Grd hs hg)]
  simp only [Oper.wp, hy a w hs, Oper.upon]
  refine hK _ _ (h _ _ ?_)
  exact hs.put hs.world (d := some d) (fun i hi => by cases hi; exact by simpa [Nat.blt_eq] using hd) v

/-- an operation whose guard says no -/
theorem AK.pass {C : Cx} {sl : List (Nat × Value)} {own : List Asn} {ops : Array Oper} {Q : Exit → Act → World → Prop} {d : Nat} {op : Op} {ty : TypeId} {pos : String} {aft : Array Edge} {j : Nat} {want : Bool} {rest : List Oper} {gd : Nat} {gv : Value}
    (h1 : (ops[j]?).bind (·.dst) = some gd) (h2 : get sl gd = some gv) (h3 : NotB gv want) (hd : Nat.blt d C.N = true) (h : AK C ⟨(d, undef) :: sl, own⟩ (wpList C.P ops Q rest)) :
    AK C ⟨sl, own⟩ (wpList C.P ops Q (⟨some d, op, ty, pos, aft, some (j, want)⟩ :: rest)) := by
  intro a w hs
  refine wpList_step fun K hK => ?_
  have hw : Region.wanted (⟨some d, op, ty, pos, aft, some (j, want)⟩ : Oper) (yielded ops a.tmps) = false := by
    have h4 := hs.slot gd _ h2
    cases ho : ops[j]? with
    | none => simp [ho] at h1
    | some o' =>
      simp only [ho, Option.bind_some] at h1
      simp only [Array.getD_eq_getD_getElem?] at h4
      simp only [Region.wanted, yielded, ho, Option.bind_some, h1]
      cases hq : a.tmps[gd]? with
      | none => simp [hq] at h4 ⊢
      | some u =>
        simp [hq] at h4
        subst h4
        cases u <;> simp [NotB] at h3 ⊢
        subst h3
        cases want <;> simp
  rw [hw]
  simp only [Bool.false_eq_true, if_false]
  refine hK _ _ (h _ _ ?_)
  exact hs.put hs.world (d := some d) (fun i hi => by cases hi; exact by simpa [Nat.blt_eq] using hd) undef

section ops
variable {C : Cx} {sl : List (Nat × Value)} {own : List Asn} {dst : Option Nat} {ty : TypeId} {pos : String} {aft : Array Edge} {g : Option (Nat × Bool)}

theorem Yl.move {x : Operand} {v : Value} (hx : opv ⟨sl, own⟩ x = some v) : Yl C ⟨sl, own⟩ ⟨dst, .move x, ty, pos, aft, g⟩ v :=
  fun a w hs => by simp [execOp, opv_eval hs hx]
theorem Yl.assign {x : Operand} {v : Value} (hx : opv ⟨sl, own⟩ x = some v) : Yl C ⟨sl, own⟩ ⟨dst, .assign x, ty, pos, aft, g⟩ v :=
  fun a w hs => by simp [execOp, opv_eval hs hx]
theorem Yl.pick {c x y : Operand} {b : Bool} {u : Value} (hc : opv ⟨sl, own⟩ c = some (.bool b)) (hx : opv ⟨sl, own⟩ (if b then x else y) = some u) : Yl C ⟨sl, own⟩ ⟨dst, .pick c x y, ty, pos, aft, g⟩ u :=
  fun a w hs => by
    have h := opv_eval hs hx
    cases b <;> simp at h <;> simp [execOp, opv_eval hs hc, asBool, h]

theorem wrap_in {n : Int} (h1 : -9223372036854775808 ≤ n) (h2 : n ≤ 9223372036854775807) : IntKind.i64.wrap n = n := by
  rw [IntKind.wrap_i64]; omega

theorem Yl.add {x y : Operand} {t t' : TypeId} {m n : Int} (hx : opv ⟨sl, own⟩ x = some (.int .i64 m)) (hy : opv ⟨sl, own⟩ y = some (.int .i64 n)) (h1 : -9223372036854775808 ≤ m + n ∧ m + n ≤ 9223372036854775807) :
    Yl C ⟨sl, own⟩ ⟨dst, .binOp .add t x y t', ty, pos, aft, g⟩ (.int .i64 (m + n)) :=
  fun a w hs => by (simp only [execOp, opv_eval hs hx, opv_eval hs hy]; simp [go_sem, Op.intArith, wrap_in h1.1 h1.2])
theorem Yl.sub {x y : Operand} {t t' : TypeId} {m n : Int} (hx : opv ⟨sl, own⟩ x = some (.int .i64 m)) (hy : opv ⟨sl, own⟩ y = some (.int .i64 n)) (h1 : -9223372036854775808 ≤ m - n ∧ m - n ≤ 9223372036854775807) :
    Yl C ⟨sl, own⟩ ⟨dst, .binOp .sub t x y t', ty, pos, aft, g⟩ (.int .i64 (m - n)) :=
  fun a w hs => by (simp only [execOp, opv_eval hs hx, opv_eval hs hy]; simp [go_sem, Op.intArith, wrap_in h1.1 h1.2])
theorem Yl.mul {x y : Operand} {t t' : TypeId} {m n : Int} (hx : opv ⟨sl, own⟩ x = some (.int .i64 m)) (hy : opv ⟨sl, own⟩ y = some (.int .i64 n)) (h1 : -9223372036854775808 ≤ m * n ∧ m * n ≤ 9223372036854775807) :
    Yl C ⟨sl, own⟩ ⟨dst, .binOp .mul t x y t', ty, pos, aft, g⟩ (.int .i64 (m * n)) :=
  fun a w hs => by (simp only [execOp, opv_eval hs hx, opv_eval hs hy]; simp [go_sem, Op.intArith, wrap_in h1.1 h1.2])
theorem Yl.lss {x y : Operand} {t t' : TypeId} {k : IntKind} {m n : Int} (hx : opv ⟨sl, own⟩ x = some (.int k m)) (hy : opv ⟨sl, own⟩ y = some (.int k n)) : Yl C ⟨sl, own⟩ ⟨dst, .binOp .lss t x y t', ty, pos, aft, g⟩ (.bool (decide (m < n))) :=
  fun a w hs => by (simp only [execOp, opv_eval hs hx, opv_eval hs hy]; simp [go_sem])
theorem Yl.leq {x y : Operand} {t t' : TypeId} {k : IntKind} {m n : Int} (hx : opv ⟨sl, own⟩ x = some (.int k m)) (hy : opv ⟨sl, own⟩ y = some (.int k n)) : Yl C ⟨sl, own⟩ ⟨dst, .binOp .leq t x y t', ty, pos, aft, g⟩ (.bool (decide (m ≤ n))) :=
  fun a w hs => by (simp only [execOp, opv_eval hs hx, opv_eval hs hy]; simp [go_sem])
theorem Yl.gtr {x y : Operand} {t t' : TypeId} {k : IntKind} {m n : Int} (hx : opv ⟨sl, own⟩ x = some (.int k m)) (hy : opv ⟨sl, own⟩ y = some (.int k n)) : Yl C ⟨sl, own⟩ ⟨dst, .binOp .gtr t x y t', ty, pos, aft, g⟩ (.bool (decide (n < m))) :=
  fun a w hs => by (simp only [execOp, opv_eval hs hx, opv_eval hs hy]; simp [go_sem])
theorem Yl.geq {x y : Operand} {t t' : TypeId} {k : IntKind} {m n : Int} (hx : opv ⟨sl, own⟩ x = some (.int k m)) (hy : opv ⟨sl, own⟩ y = some (.int k n)) : Yl C ⟨sl, own⟩ ⟨dst, .binOp .geq t x y t', ty, pos, aft, g⟩ (.bool (decide (n ≤ m))) :=
  fun a w hs => by (simp only [execOp, opv_eval hs hx, opv_eval hs hy]; simp [go_sem])
theorem Yl.eql {x y : Operand} {t t' : TypeId} {k : IntKind} {m n : Int} (hx : opv ⟨sl, own⟩ x = some (.int k m)) (hy : opv ⟨sl, own⟩ y = some (.int k n)) : Yl C ⟨sl, own⟩ ⟨dst, .binOp .eql t x y t', ty, pos, aft, g⟩ (.bool (decide (m = n))) :=
  fun a w hs => by (simp only [execOp, opv_eval hs hx, opv_eval hs hy]; simp [go_sem]); rfl
theorem Yl.neq {x y : Operand} {t t' : TypeId} {k : IntKind} {m n : Int} (hx : opv ⟨sl, own⟩ x = some (.int k m)) (hy : opv ⟨sl, own⟩ y = some (.int k n)) : Yl C ⟨sl, own⟩ ⟨dst, .binOp .neq t x y t', ty, pos, aft, g⟩ (.bool (decide (m ≠ n))) :=
  fun a w hs => by
    (simp only [execOp, opv_eval hs hx, opv_eval hs hy]; simp [go_sem])
    rw [Bool.eq_iff_iff]; simp
theorem Yl.eqlB {x y : Operand} {t t' : TypeId} {m n : Bool} (ht : C.P.underlying t = some .bool) (hx : opv ⟨sl, own⟩ x = some (.bool m)) (hy : opv ⟨sl, own⟩ y = some (.bool n)) : Yl C ⟨sl, own⟩ ⟨dst, .binOp .eql t x y t', ty, pos, aft, g⟩ (.bool (m == n)) :=
  fun a w hs => by (simp only [execOp, opv_eval hs hx, opv_eval hs hy]; simp [go_sem, ht])
theorem Yl.neqB {x y : Operand} {t t' : TypeId} {m n : Bool} (ht : C.P.underlying t = some .bool) (hx : opv ⟨sl, own⟩ x = some (.bool m)) (hy : opv ⟨sl, own⟩ y = some (.bool n)) : Yl C ⟨sl, own⟩ ⟨dst, .binOp .neq t x y t', ty, pos, aft, g⟩ (.bool (m != n)) :=
  fun a w hs => by
    have h := run_equal_bool (P := C.P) w t m n ht
    (simp only [execOp, opv_eval hs hx, opv_eval hs hy]; simp [go_sem, binOp, h])
    cases m <;> cases n <;> rfl
theorem Yl.not {x : Operand} {t : TypeId} {b : Bool} (hx : opv ⟨sl, own⟩ x = some (.bool b)) : Yl C ⟨sl, own⟩ ⟨dst, .unOp .not t x, ty, pos, aft, g⟩ (.bool (!b)) :=
  fun a w hs => by simp [execOp, opv_eval hs hx, Op.unary]

/-- a slice type: its element's type -/
def SlT (P : Program) (t e : TypeId) (sz : Nat) : Prop := P.underlying t = some (.slice e) ∧ (P.info? e).map (·.size) = some sz
theorem SlT.inf {P : Program} {t e : TypeId} {sz : Nat} (h : SlT P t e sz) : ∃ i, P.info? e = some i ∧ i.size = sz := by
  have := h.2
  cases hi : P.info? e with
  | none => simp [hi] at this
  | some i => exact ⟨i, rfl, by simpa [hi] using this⟩
/-- a type: its zero, its cells, its bytes -/
def ElT (P : Program) (e : TypeId) (z : Value) (sz by_ : Nat) : Prop := (P.info? e).map (fun i => (i.zero, i.size, i.bytes)) = some (some z, sz, by_)
theorem ElT.inf {P : Program} {e : TypeId} {z : Value} {sz by_ : Nat} (h : ElT P e z sz by_) : ∃ i, P.info? e = some i ∧ i.zero = some z ∧ i.size = sz ∧ i.bytes = by_ := by
  unfold ElT at h
  cases hi : P.info? e with
  | none => simp [hi] at h
  | some i => exact ⟨i, rfl, by simpa [hi] using h⟩

theorem Yl.len {x : Operand} {t : TypeId} {e : TypeId} {sz : Nat} {ao : Option Addr} {n c : Nat} (ht : SlT C.P t e sz) (hx : opv ⟨sl, own⟩ x = some (.slice ao n c)) :
    Yl C ⟨sl, own⟩ ⟨dst, .call ⟨.builtin .len, #[x], #[t]⟩, ty, pos, aft, g⟩ (.int .i64 n) :=
  fun a w hs => by
    simp [execOp, resolve, invoke, builtin, opv_eval hs hx, Builtin.len_, run_underlying ht.1, goInt]

theorem Yl.max {x y : Operand} {t t' : TypeId} {k : IntKind} {m n : Int} (hx : opv ⟨sl, own⟩ x = some (.int k m)) (hy : opv ⟨sl, own⟩ y = some (.int k n)) :
    Yl C ⟨sl, own⟩ ⟨dst, .call ⟨.builtin .max, #[x, y], #[t, t']⟩, ty, pos, aft, g⟩ (.int k (max m n)) :=
  fun a w hs => by
    simp [execOp, resolve, invoke, builtin, opv_eval hs hx, opv_eval hs hy, Builtin.max_, Builtin.max2]
    split <;> omega
theorem Yl.min {x y : Operand} {t t' : TypeId} {k : IntKind} {m n : Int} (hx : opv ⟨sl, own⟩ x = some (.int k m)) (hy : opv ⟨sl, own⟩ y = some (.int k n)) :
    Yl C ⟨sl, own⟩ ⟨dst, .call ⟨.builtin .min, #[x, y], #[t, t']⟩, ty, pos, aft, g⟩ (.int k (min m n)) :=
  fun a w hs => by
    simp [execOp, resolve, invoke, builtin, opv_eval hs hx, opv_eval hs hy, Builtin.min_, Builtin.min2]
    split <;> omega

theorem Yl.extract {x : Operand} {i : Nat} {vs : Array Value} {v : Value} (hx : opv ⟨sl, own⟩ x = some (.tuple vs)) (hv : vs[i]? = some v) : Yl C ⟨sl, own⟩ ⟨dst, .extract x i, ty, pos, aft, g⟩ v :=
  fun a w hs => by simp [execOp, opv_eval hs hx, Instr.extract, hv]

/-! ### reading -/
/-- the address of a slice that is not nil -/
def slA : Value → Addr
  | .slice (some a) _ _ => a
  | _ => default

/-- v is a slice of n elements, of sz cells each, that reads as cs, in blocks of G -/
def Rd (G : Nat → Prop) (w : World) (v : Value) (sz n : Nat) (cs : List Value) : Prop :=
  ∃ oa cap, v = .slice oa n cap ∧ n ≤ maxLen ∧ cs.length = n * sz ∧ (0 < n → 0 < sz → oa.isSome) ∧ (∀ a j u, oa = some a → cs[j]? = some u → G a.block ∧ w.cell? (a.add j) = some u)

/-- read at the start, in blocks that stay; or among what is owned -/
def RdS (C : Cx) (own : List Asn) (v : Value) (sz n : Nat) (cs : List Value) : Prop := ∀ w, HW C own w → Rd (fun _ => True) w v sz n cs

theorem Rd.mono {G G' : Nat → Prop} {w w' : World} {v : Value} {sz n : Nat} {cs : List Value} (h : Rd G w v sz n cs) (hG : ∀ b, G b → b < w.heap.size → G' b ∧ w'.heap[b]? = w.heap[b]?) : Rd G' w' v sz n cs := by
  obtain ⟨oa, cap, h1, h2, h3, h4, h5⟩ := h
  refine ⟨oa, cap, h1, h2, h3, h4, fun a j u ha hj => ?_⟩
  obtain ⟨g1, g2⟩ := h5 a j u ha hj
  have hlt := World.block_lt_of_cell? w _ g2
  have hb : (a.add j).block = a.block := by unfold Addr.add; split <;> rfl
  rw [hb] at hlt
  obtain ⟨g3, g4⟩ := hG a.block g1 hlt
  exact ⟨g3, by rw [World.cell?_of_block (w := w) (w' := w') (by rw [hb]; exact g4)]; exact g2⟩

theorem RdS.arg {v : Value} {sz n : Nat} {cs : List Value} (h : Rd (fun b => ¬ C.S b) C.W0 v sz n cs) : RdS C own v sz n cs :=
  fun _ hw => h.mono fun b hb hlt => ⟨trivial, hw.frame.block b hlt hb⟩

theorem Yl.idx {x i : Operand} {t e : TypeId} {sz : Nat} {v : Value} {n : Nat} {k : Int} {cs : List Value} (ht : SlT C.P t e sz) (hx : opv ⟨sl, own⟩ x = some v) (hi : opv ⟨sl, own⟩ i = some (.int .i64 k))
    (hr : RdS C own v sz n cs) (hz : 0 < sz) (h0 : 0 ≤ k ∧ k < n) : Yl C ⟨sl, own⟩ ⟨dst, .indexAddr t x i, ty, pos, aft, g⟩ (.pointer (some ((slA v).add (k.toNat * sz)))) :=
  fun a w hs => by
    obtain ⟨oa, cap, rfl, _, _, h4, _⟩ := hr w hs.world
    have := h4 (by omega) hz
    obtain ⟨ad, rfl⟩ := Option.isSome_iff_exists.1 this
    have h1 := ht.1
    obtain ⟨inf, h2, h3⟩ := ht.inf
    simp [execOp, opv_eval hs hx, opv_eval hs hi, Instr.indexAt, asIntOf, run_underlying h1, h0.1, h0.2, sizeOf, typeInfo, h2, h3, slA]

theorem Yl.idxN {x i : Operand} {t e : TypeId} {sz : Nat} {v : Value} {n : Nat} {k : Nat} {cs : List Value} (ht : SlT C.P t e sz) (hx : opv ⟨sl, own⟩ x = some v) (hi : opv ⟨sl, own⟩ i = some (.int .i64 (k : Int)))
    (hr : RdS C own v sz n cs) (hz : 0 < sz) (h0 : k < n) : Yl C ⟨sl, own⟩ ⟨dst, .indexAddr t x i, ty, pos, aft, g⟩ (.pointer (some ((slA v).add (k * sz)))) :=
  Yl.idx ht hx hi hr hz (by omega)

/-- a type of one cell that is no struct or array -/
def oneD : TypeDesc → Bool
  | .struct _ | .array _ _ => false
  | _ => true
def OneT (P : Program) (t : TypeId) : Prop := (P.underlying t).map oneD = some true
def AggT (P : Program) (t : TypeId) (sz : Nat) : Prop := (P.underlying t).map oneD = some false ∧ (P.info? t).map (·.size) = some sz
theorem run_isAgg_one {P : Program} {t : TypeId} (ht : OneT P t) (w : World) : (isAgg t).run P w = .ok false w := by
  unfold OneT at ht
  cases hd : P.underlying t with
  | none => simp [hd] at ht
  | some d =>
    simp only [isAgg, Sem.run_bind, run_underlying hd, Result.andThen_ok]
    cases d <;> simp [hd, oneD] at ht ⊢
theorem run_isAgg_agg {P : Program} {t : TypeId} {sz : Nat} (ht : AggT P t sz) (w : World) : (isAgg t).run P w = .ok true w := by
  obtain ⟨ht, _⟩ := ht
  cases hd : P.underlying t with
  | none => simp [hd] at ht
  | some d =>
    simp only [isAgg, Sem.run_bind, run_underlying hd, Result.andThen_ok]
    cases d <;> simp [hd, oneD] at ht ⊢
theorem run_sizeOf_of {P : Program} {t : TypeId} {sz : Nat} (h : (P.info? t).map (·.size) = some sz) (w : World) : (sizeOf t).run P w = .ok sz w := by
  cases hi : P.info? t with
  | none => simp [hi] at h
  | some i => simp [hi] at h; simp [sizeOf, typeInfo, hi, h]

theorem run_loadVar_one {P : Program} {t : TypeId} (ht : OneT P t) {w : World} {a : Addr} {v : Value} (h : w.cell? a = some v) : (loadVar t a).run P w = .ok v w := by
  have := run_isAgg_one ht w
  simp [loadVar, this, h]

theorem rd_cell {G : Nat → Prop} {w : World} {v : Value} {sz n : Nat} {cs : List Value} (h : Rd G w v sz n cs) {j : Nat} {u : Value} (hj : cs[j]? = some u) : w.cell? ((slA v).add j) = some u ∧ G (slA v).block := by
  obtain ⟨oa, cap, rfl, _, h3, h4, h5⟩ := h
  have hlt : j < cs.length := by
    rcases Nat.lt_or_ge j cs.length with h | h
    · exact h
    · rw [List.getElem?_eq_none h] at hj; cases hj
  have hn : 0 < n := Nat.pos_of_ne_zero (fun e => by subst e; simp at h3; simp [h3] at hlt)
  have hz : 0 < sz := Nat.pos_of_ne_zero (fun e => by subst e; simp at h3; simp [h3] at hlt)
  obtain ⟨ad, rfl⟩ := Option.isSome_iff_exists.1 (h4 hn hz)
  exact ⟨(h5 ad j u rfl hj).2, (h5 ad j u rfl hj).1⟩

theorem Yl.load {x : Operand} {t : TypeId} {v : Value} {n j : Nat} {cs : List Value} {α : Type} {xs : List α} {f : α → Value} (ht : OneT C.P t) (hx : opv ⟨sl, own⟩ x = some (.pointer (some ((slA v).add (j * 1)))))
    (hr : RdS C own v 1 n cs) (hc : cs = xs.map f) (d : α) (hj : j < xs.length) : Yl C ⟨sl, own⟩ ⟨dst, .load t x, ty, pos, aft, g⟩ (f (xs.getD j d)) :=
  fun a w hs => by
    have hu : cs[j]? = some (f (xs.getD j d)) := by
      subst hc
      simp [List.getElem?_map, List.getElem?_eq_getElem hj, List.getD_eq_getElem?_getD]
    have h1 := (rd_cell (hr w hs.world) hu).1
    simp only [Nat.mul_one] at hx
    simp [execOp, opv_eval hs hx, Instr.loadAt, Instr.sureAddr, run_loadVar_one ht h1]

theorem Yl.loadI {x : Operand} {t : TypeId} {v : Value} {n j : Nat} {xs : List Int} {k : IntKind} (ht : OneT C.P t) (hx : opv ⟨sl, own⟩ x = some (.pointer (some ((slA v).add (j * 1)))))
    (hr : RdS C own v 1 n (xs.map (Value.int k))) (hj : j < xs.length) : Yl C ⟨sl, own⟩ ⟨dst, .load t x, ty, pos, aft, g⟩ (.int k (xs.getD j 0)) := Yl.load ht hx hr rfl 0 hj
theorem Yl.loadB {x : Operand} {t : TypeId} {v : Value} {n j : Nat} {xs : List Bool} (ht : OneT C.P t) (hx : opv ⟨sl, own⟩ x = some (.pointer (some ((slA v).add (j * 1)))))
    (hr : RdS C own v 1 n (xs.map Value.bool)) (hj : j < xs.length) : Yl C ⟨sl, own⟩ ⟨dst, .load t x, ty, pos, aft, g⟩ (.bool (xs.getD j false)) := Yl.load ht hx hr rfl false hj
theorem Yl.loadV {x : Operand} {t : TypeId} {v : Value} {n j : Nat} {cs : List Value} (ht : OneT C.P t) (hx : opv ⟨sl, own⟩ x = some (.pointer (some ((slA v).add (j * 1)))))
    (hr : RdS C own v 1 n cs) (hj : j < cs.length) : Yl C ⟨sl, own⟩ ⟨dst, .load t x, ty, pos, aft, g⟩ (cs.getD j undef) := Yl.load (f := id) ht hx hr (by simp) undef hj

/-- a value of several cells, read -/
theorem Yl.loadG {x : Operand} {t : TypeId} {v : Value} {n j sz : Nat} {cs : List Value} (ht : AggT C.P t sz) (hx : opv ⟨sl, own⟩ x = some (.pointer (some ((slA v).add (j * sz)))))
    (hr : RdS C own v sz n cs) (hj : j < n) : Yl C ⟨sl, own⟩ ⟨dst, .load t x, ty, pos, aft, g⟩ (.agg ((cs.drop (j * sz)).take sz).toArray) :=
  fun a w hs => by
    have hr := hr w hs.world
    have hlen : cs.length = n * sz := by obtain ⟨_, _, _, _, h, _⟩ := hr; exact h
    have hfit : j * sz + sz ≤ n * sz := by rw [← Nat.succ_mul]; exact Nat.mul_le_mul_right _ hj
    have hl := run_loadCells_list (P := C.P) (w := w) ((slA v).add (j * sz)) ((cs.drop (j * sz)).take sz) (fun i u hi => by
      rw [List.getElem?_take] at hi
      split at hi
      · rw [List.getElem?_drop] at hi
        have := (rd_cell hr hi).1
        rw [show ((slA v).add (j * sz)).add i = (slA v).add (j * sz + i) from ?_]
        · exact this
        · unfold Addr.add; repeat' split
          all_goals first | rfl | omega | (simp; omega) | (simp_all; done) | (congr 1; omega)
      · cases hi)
    have hlen2 : ((cs.drop (j * sz)).take sz).length = sz := by simp; omega
    rw [hlen2] at hl
    simp only [execOp, opv_eval hs hx]
    simp [Instr.loadAt, Instr.sureAddr, loadVar, run_isAgg_agg ht, run_sizeOf_of ht.2, hl]

end ops

/-! ### steps of the heap -/
theorem HW.update {C : Cx} {own : List Asn} {w w' : World} {i : Nat} {A' : Asn} {own2 : List Asn} {Fs Fs' : Nat → Nat → Prop} (hf : FrameX C.S C.W0 w) (hh : HeapAt own Fs w) (hal : ∀ i b, Fs i b → C.W0.heap.size ≤ b ∨ C.S b)
    (hi : i < own.length) (hx : FrameX (Fs i) w w') (hh' : HeapAt (A' :: own2) Fs' w') (hin : ∀ j b, Fs' j b → Fs i b ∨ w.heap.size ≤ b) : HW C (own.set i A' ++ own2) w' := by
  refine ⟨hf.step hx (fun b hb hlt => (hal i b hb).resolve_left (by omega)), ⟨fun k b => if k = i then Fs' 0 b else if k < own.length then Fs k b else Fs' (k - own.length + 1) b, ⟨?_, ?_, ?_⟩, ?_⟩⟩
  · intro k A hk
    by_cases hki : k = i
    · subst hki
      rw [List.getElem?_append_left (by simpa using hi)] at hk
      simp [hi] at hk
      subst hk
      simpa using hh'.at_ 0 A' (by simp)
    · by_cases hkl : k < own.length
      · rw [List.getElem?_append_left (by simpa using hkl), List.getElem?_set_ne (Ne.symm hki)] at hk
        simp only [hki, if_false, hkl, if_true]
        refine A.loc w w' (Fs k) (hh.at_ k A hk) fun b hb => hx.block b (hh.lt hb) fun hb' => hki (hh.apart k i b hb hb')
      · rw [List.getElem?_append_right (by simp; omega)] at hk
        simp only [hki, if_false, hkl]
        exact hh'.at_ _ A (by simpa using hk)
  · intro k hk b hb
    have hkl : ¬ k < own.length := by simp at hk; omega
    have hki : k ≠ i := by omega
    simp only [hki, if_false, hkl] at hb
    exact hh'.out _ (by simp at hk ⊢; omega) b hb
  · have cross : ∀ k j b, k ≠ i → Fs k b → Fs' j b → False := fun k j b hki h1 h2 => by
      rcases hin j b h2 with h | h
      · exact hki (hh.apart k i b h1 h)
      · have := hh.lt h1; omega
    intro k j b hk hj
    by_cases hki : k = i <;> by_cases hji : j = i
    · omega
    · simp only [hki, if_true] at hk
      simp only [hji, if_false] at hj
      split at hj
      · exact (cross j 0 b hji hj hk).elim
      · have := hh'.apart _ _ b hk hj; omega
    · simp only [hji, if_true] at hj
      simp only [hki, if_false] at hk
      split at hk
      · exact (cross k 0 b hki hk hj).elim
      · have := hh'.apart _ _ b hk hj; omega
    · simp only [hki, if_false] at hk
      simp only [hji, if_false] at hj
      split at hk <;> split at hj
      · exact hh.apart k j b hk hj
      · exact (cross k _ b hki hk hj).elim
      · exact (cross j _ b hji hj hk).elim
      · have := hh'.apart _ _ b hk hj; omega
  · intro k b hb
    have hsz := hf.size
    have one : ∀ j, Fs' j b → C.W0.heap.size ≤ b ∨ C.S b := fun j h => by
      rcases hin j b h with h | h
      · exact hal i b h
      · exact .inl (by omega)
    split at hb
    · exact one _ hb
    · split at hb
      · exact hal k b hb
      · exact one _ hb

theorem HW.push {C : Cx} {own : List Asn} {w w' : World} {own2 : List Asn} {Fs' : Nat → Nat → Prop} (hw : HW C own w)
    (hx : FrameX (fun _ => False) w w') (hh' : HeapAt own2 Fs' w') (hin : ∀ j b, Fs' j b → w.heap.size ≤ b) : HW C (own ++ own2) w' := by
  obtain ⟨hf, Fs, hh, hal⟩ := hw
  refine ⟨hf.step hx (fun b hb _ => hb.elim), ⟨fun k b => if k < own.length then Fs k b else Fs' (k - own.length) b, ⟨?_, ?_, ?_⟩, ?_⟩⟩
  · intro k A hk
    by_cases hkl : k < own.length
    · rw [List.getElem?_append_left hkl] at hk
      simp only [hkl, if_true]
      exact A.loc w w' (Fs k) (hh.at_ k A hk) fun b hb => hx.block b (hh.lt hb) id
    · rw [List.getElem?_append_right (by omega)] at hk
      simp only [hkl, if_false]
      exact hh'.at_ _ A hk
  · intro k hk b hb
    have hkl : ¬ k < own.length := by simp at hk; omega
    simp only [hkl, if_false] at hb
    exact hh'.out _ (by simp at hk ⊢; omega) b hb
  · have cross : ∀ k j b, Fs k b → Fs' j b → False := fun k j b h1 h2 => by
      have := hin j b h2; have := hh.lt h1; omega
    intro k j b hk hj
    split at hk <;> split at hj
    · exact hh.apart k j b hk hj
    · exact (cross k _ b hk hj).elim
    · exact (cross j _ b hj hk).elim
    · have := hh'.apart _ _ b hk hj; omega
  · intro k b hb
    have hsz := hf.size
    split at hb
    · exact hal k b hb
    · have := hin _ b hb; exact .inl (by omega)

theorem HeapAt.one {A : Asn} {F : Nat → Prop} {w : World} (h : A.holds w F) : HeapAt [A] (fun k b => k = 0 ∧ F b) w := by
  refine ⟨?_, ?_, ?_⟩
  · intro i A' hi
    cases i with
    | zero => simp at hi; subst hi; simpa using h
    | succ n => simp at hi
  · rintro i hi b ⟨rfl, _⟩; simp at hi
  · rintro i j b ⟨rfl, _⟩ ⟨rfl, _⟩; rfl

/-- some of what is owned, in some order -/
theorem HW.pick {C : Cx} {own own' : List Asn} {w : World} (hw : HW C own w) (σ : List Nat) (hn : σ.Nodup) (he : own' = σ.filterMap (own[·]?)) (hl : own'.length = σ.length) : HW C own' w := by
  obtain ⟨hf, Fs, hh, hal⟩ := hw
  have hat : ∀ (k i : Nat) (A : Asn), own'[k]? = some A → σ[k]? = some i → own[i]? = some A := by
    subst he
    clear hn hal hh
    induction σ with
    | nil => intro k i A h; simp at h
    | cons s σ ih =>
      intro k i A h1 h2
      cases ho : own[s]? with
      | none =>
        simp [ho] at hl
        have := List.length_filterMap_le (own[·]?) σ
        omega
      | some B =>
        simp only [List.filterMap_cons, ho] at h1 hl
        cases k with
        | zero => simp at h1 h2; subst h1; subst h2; exact ho
        | succ k => exact ih (by simpa using hl) k i A (by simpa using h1) (by simpa using h2)
  refine ⟨hf, fun k b => ∃ i, σ[k]? = some i ∧ Fs i b, ⟨?_, ?_, ?_⟩, ?_⟩
  · intro k A hk
    have hkl : k < σ.length := by
      have := (List.getElem?_eq_some_iff.1 hk).1; omega
    have hs : σ[k]? = some σ[k] := List.getElem?_eq_getElem hkl
    have h1 := hh.at_ _ A (hat k _ A hk hs)
    have : (fun b => ∃ i, σ[k]? = some i ∧ Fs i b) = Fs σ[k] := by
      funext b; apply propext; rw [hs]; constructor
      · rintro ⟨i, hi, hb⟩; cases hi; exact hb
      · intro hb; exact ⟨_, rfl, hb⟩
    rw [this]; exact h1
  · rintro k hk b ⟨i, hi, _⟩
    rw [List.getElem?_eq_none (by omega)] at hi; cases hi
  · rintro k j b ⟨i, hi, hb⟩ ⟨i', hi', hb'⟩
    have := hh.apart i i' b hb hb'
    subst this
    obtain ⟨h1, h2⟩ := List.getElem?_eq_some_iff.1 hi
    obtain ⟨h3, h4⟩ := List.getElem?_eq_some_iff.1 hi'
    rcases Nat.lt_trichotomy k j with hlt | heq | hlt
    · exact absurd (h2.trans h4.symm) (List.pairwise_iff_getElem.1 hn k j h1 h3 hlt)
    · exact heq
    · exact absurd (h4.trans h2.symm) (List.pairwise_iff_getElem.1 hn j k h3 h1 hlt)
  · rintro k b ⟨i, _, hb⟩; exact hal i b hb

/-! ### a slice that is owned -/
def row (v : Value) (E : TypeId) (sz n : Nat) (cs : List Value) : Asn where
  holds w F := w.ownsRow 0 E sz v n cs ∧ ∀ b, F b ↔ v.ownBlock = some b
  loc := by
    rintro w w' F ⟨h, hF⟩ hb
    refine ⟨⟨h.1, ?_⟩, hF⟩
    rcases h.2 with h2 | ⟨gb, cap, cur, hv, hg, hh, r⟩
    · exact .inl h2
    · exact .inr ⟨gb, cap, cur, hv, hg, by rw [hb gb ((hF gb).2 (by rw [hv]; rfl))]; exact hh, r⟩
  lt := by
    rintro w F ⟨h, hF⟩ b hb
    exact (h.lt b ((hF b).1 hb)).2

theorem row_rd {w : World} {F : Nat → Prop} {v : Value} {E : TypeId} {sz n : Nat} {cs : List Value} (h : (row v E sz n cs).holds w F) : Rd F w v sz n cs := by
  obtain ⟨h, hF⟩ := h
  rcases h.2 with ⟨rfl, rfl⟩ | ⟨gb, cap, cur, rfl, hg, hh, hnc, hcm, r⟩
  · exact ⟨none, 0, rfl, by simp [maxLen], h.1, fun h => by omega, fun a j u ha => by cases ha⟩
  · refine ⟨_, cap, rfl, Nat.le_trans hnc hcm, h.1, fun _ _ => rfl, fun a j u ha hj => ?_⟩
    cases ha
    refine ⟨(hF gb).2 rfl, ?_⟩
    have hj' : j < n * sz := by rw [← h.1]; exact (List.getElem?_eq_some_iff.1 hj).1
    have := h.cellAt j hj'
    simpa [Addr.add_lit] using this.trans hj

theorem RdS.own {C : Cx} {own : List Asn} {v : Value} {E : TypeId} {sz n : Nat} {cs : List Value} (i : Nat) (hi : own[i]? = some (row v E sz n cs)) : RdS C own v sz n cs := fun w hw => by
  obtain ⟨_, Fs, hh, _⟩ := hw
  have := row_rd (hh.at_ i _ hi)
  exact this.mono fun b _ _ => ⟨trivial, rfl⟩

theorem Yl.lenR {C : Cx} {sl : List (Nat × Value)} {own : List Asn} {dst : Option Nat} {ty : TypeId} {pos : String} {aft : Array Edge} {g : Option (Nat × Bool)} {x : Operand} {t : TypeId} {e : TypeId} {sz s1 : Nat} {v : Value} {n : Nat} {cs : List Value} (ht : SlT C.P t e sz) (hx : opv ⟨sl, own⟩ x = some v)
    (hr : RdS C own v s1 n cs) : Yl C ⟨sl, own⟩ ⟨dst, .call ⟨.builtin .len, #[x], #[t]⟩, ty, pos, aft, g⟩ (.int .i64 (n : Int)) :=
  fun a w hs => by
    obtain ⟨oa, cap, rfl, _⟩ := hr w hs.world
    exact Yl.len ht hx a w hs

/-! ### results: what a call hands back -/
def Ret (F : Nat → Prop) (w w' : World) (own : List Asn) : Prop := FrameX F w w' ∧ ∃ Fs, HeapAt own Fs w' ∧ ∀ i b, Fs i b → F b ∨ w.heap.size ≤ b

/-- a call that leaves all that lay there: it hands back v, and owns own' -/
def CallS (P : Program) (f : FuncId) (vs : List Value) (w : World) (φ : Value → List Asn → Prop) : Prop :=
  Calls P f vs.toArray w fun e w' => ∃ v own', φ v own' ∧ e = .returned v ∧ Ret (fun _ => False) w w' own'

/-- a call that may write what A owns -/
def CallM (P : Program) (f : FuncId) (vs : List Value) (w : World) (F : Nat → Prop) (φ : Value → Asn → List Asn → Prop) : Prop :=
  Calls P f vs.toArray w fun e w' => ∃ v A' own', φ v A' own' ∧ e = .returned v ∧ Ret F w w' (A' :: own')

def CallOk (P : Program) (f : FuncId) : Prop := (P.funcs[f]?).map (fun fn => (fn.name == "runtime.NumGoroutine", fn.body.isNone)) = some (false, false)
theorem CallOk.fn {P : Program} {f : FuncId} (h : CallOk P f) : ∃ fn, P.funcs[f]? = some fn ∧ (fn.name == "runtime.NumGoroutine") = false ∧ fn.body.isNone = false := by
  unfold CallOk at h
  cases hi : P.funcs[f]? with
  | none => rw [hi] at h; cases h
  | some i => rw [hi] at h; simp only [Option.map_some, Option.some.injEq, Prod.mk.injEq] at h; exact ⟨i, rfl, h⟩

def opvs (st : St) : List Operand → Option (List Value)
  | [] => some []
  | x :: l => match opv st x, opvs st l with
    | some v, some vs => some (v :: vs)
    | _, _ => none

theorem opvs_eval {C : Cx} {st : St} {a : Act} {w : World} (h : Sim C st a w) : ∀ {xs : List Operand} {vs : List Value}, opvs st xs = some vs → xs.map a.eval = vs
  | [], vs, hx => by simp [opvs] at hx; simp [hx]
  | x :: l, vs, hx => by
    simp only [opvs] at hx
    cases h1 : opv st x with
    | none => simp [h1] at hx
    | some v =>
      cases h2 : opvs st l with
      | none => simp [h1, h2] at hx
      | some us =>
        simp [h1, h2] at hx
        subst hx
        simp [opv_eval h h1, opvs_eval h h2]

theorem run_call {C : Cx} {sl : List (Nat × Value)} {own : List Asn} {a : Act} {w : World} (hs : Sim C ⟨sl, own⟩ a w) {f : FuncId} {xs : List Operand} {tys : Array TypeId} {vs : List Value} {dst : Option Nat} {ty : TypeId} {pos : String} {aft : Array Edge} {g : Option (Nat × Bool)}
    (hf : CallOk C.P f) (hx : opvs ⟨sl, own⟩ xs = some vs) : (execOp a.eval ⟨dst, .call ⟨.value (.func f), xs.toArray, tys⟩, ty, pos, aft, g⟩).run C.P w = .ok (.enter f vs.toArray) w := by
  obtain ⟨fn, h1, h2, h3⟩ := hf.fn
  have := opvs_eval hs hx
  subst this
  have h2' : ¬ fn.name = "runtime.NumGoroutine" := by simpa using h2
  have h3' : ¬ fn.body = none := by intro e; simp [e] at h3
  simp [execOp, resolve, Act.eval, Deferred.ofValue, invoke, callFunc, h1, h2', h3']

section calls
variable {C : Cx} {sl : List (Nat × Value)} {own : List Asn} {ops : Array Oper} {Q : Exit → Act → World → Prop} {d : Nat} {ty : TypeId} {pos : String} {aft : Array Edge} {g : Option (Nat × Bool)} {rest : List Oper}

/-- a call -/
theorem AK.call {f : FuncId} {xs : List Operand} {tys : Array TypeId} {vs : List Value} {φ : Value → List Asn → Prop} (hf : CallOk C.P f) (hx : opvs ⟨sl, own⟩ xs = some vs) (hspec : ∀ w, HW C own w → CallS C.P f vs w φ) (hg : Grd ops sl g) (hd : Nat.blt d C.N = true)
    (h : ∀ v own', φ v own' → AK C ⟨(d, v) :: sl, own ++ own'⟩ (wpList C.P ops Q rest)) : AK C ⟨sl, own⟩ (wpList C.P ops Q (⟨some d, .call ⟨.value (.func f), xs.toArray, tys⟩, ty, pos, aft, g⟩ :: rest)) := by
  intro a w hs
  refine wpList_step fun K hK => ?_
  rw [if_pos (wanted_of_Grd hs hg)]
  simp only [Oper.wp, run_call hs hf hx, Oper.upon]
  refine (hspec w hs.world).mono ?_
  rintro e w' ⟨v, own', hφ, rfl, hx', Fs, hh, hin⟩
  refine hK _ _ (h v own' hφ _ _ ?_)
  exact hs.put (hs.world.push hx' hh (fun j b hb => (hin j b hb).resolve_left id)) (d := some d) (fun i hi => by cases hi; simpa [Nat.blt_eq] using hd) v

/-- a call that may write what number i owns -/
theorem AK.callM (i : Nat) {A : Asn} {f : FuncId} {xs : List Operand} {tys : Array TypeId} {vs : List Value} {φ : Value → Asn → List Asn → Prop} (hi : own[i]? = some A) (hf : CallOk C.P f) (hx : opvs ⟨sl, own⟩ xs = some vs) (hspec : ∀ w F, HW C own w → A.holds w F → CallM C.P f vs w F φ) (hg : Grd ops sl g) (hd : Nat.blt d C.N = true)
    (h : ∀ v A' own', φ v A' own' → AK C ⟨(d, v) :: sl, own.set i A' ++ own'⟩ (wpList C.P ops Q rest)) : AK C ⟨sl, own⟩ (wpList C.P ops Q (⟨some d, .call ⟨.value (.func f), xs.toArray, tys⟩, ty, pos, aft, g⟩ :: rest)) := by
  intro a w hs
  refine wpList_step fun K hK => ?_
  rw [if_pos (wanted_of_Grd hs hg)]
  simp only [Oper.wp, run_call hs hf hx, Oper.upon]
  obtain ⟨hf', Fs, hh, hal⟩ := hs.world
  refine (hspec w (Fs i) hs.world (hh.at_ i A hi)).mono ?_
  rintro e w' ⟨v, A', own', hφ, rfl, hx', Fs', hh', hin⟩
  refine hK _ _ (h v A' own' hφ _ _ ?_)
  exact hs.put (HW.update hf' hh hal (List.getElem?_eq_some_iff.1 hi).1 hx' hh' hin) (d := some d) (fun i hi => by cases hi; simpa [Nat.blt_eq] using hd) v

end calls

/-! ### entering and leaving a function -/
def argSl : Nat → List Value → List (Nat × Value)
  | _, [] => []
  | i, v :: l => (i, v) :: argSl (i + 1) l

theorem get_argSl : ∀ (l : List Value) (i k : Nat) (v : Value), get (argSl i l) k = some v → i ≤ k ∧ l[k - i]? = some v
  | [], _, _, _, h => by simp [argSl, get] at h
  | u :: l, i, k, v, h => by
    simp only [argSl, get] at h
    split at h
    · rename_i e; subst e; simp at h; simp [h]
    · rename_i e
      obtain ⟨h1, h2⟩ := get_argSl l (i + 1) k v h
      refine ⟨by omega, ?_⟩
      have : k - i = (k - (i + 1)) + 1 := by omega
      rw [this]; simpa using h2

theorem spec_of {P : Program} {f : FuncId} {fn : Func} {c : Code} {vs : List Value} {w : World} {φ : Value → List Asn → Prop} (hf : P.funcs[f]? = some fn) (hb : fn.body = some c) (hN : vs.length ≤ fn.ntmps)
    (h : AK ⟨P, fn.ntmps, w, fun _ => False⟩ ⟨argSl 0 vs, []⟩ (c.wp P (bodyPost P fn fun e w' => ∃ v own', φ v own' ∧ e = .returned v ∧ Ret (fun _ => False) w w' own'))) : CallS P f vs w φ := by
  refine calls_of_wp hf hb (h _ _ ⟨by simp; omega, rfl, ?_, ⟨FrameX.refl _ _, _, HeapAt.nil w, fun _ _ h => h.elim⟩⟩)
  intro i v hv
  obtain ⟨_, h2⟩ := get_argSl vs 0 i v hv
  simp only [Nat.sub_zero] at h2
  have hlt := (List.getElem?_eq_some_iff.1 h2).1
  simp only [Array.getD_eq_getD_getElem?]
  rw [Array.getElem?_append_left (by simpa using hlt)]
  simp [h2]

theorem specM_of {P : Program} {f : FuncId} {fn : Func} {c : Code} {vs : List Value} {w : World} {F : Nat → Prop} {A : Asn} {φ : Value → Asn → List Asn → Prop} (hf : P.funcs[f]? = some fn) (hb : fn.body = some c) (hN : vs.length ≤ fn.ntmps) (hA : A.holds w F)
    (h : AK ⟨P, fn.ntmps, w, F⟩ ⟨argSl 0 vs, [A]⟩ (c.wp P (bodyPost P fn fun e w' => ∃ v A' own', φ v A' own' ∧ e = .returned v ∧ Ret F w w' (A' :: own')))) : CallM P f vs w F φ := by
  refine calls_of_wp hf hb (h _ _ ⟨by simp; omega, rfl, ?_, ⟨FrameX.refl _ _, _, HeapAt.one hA, fun i b hb => .inr hb.2⟩⟩)
  intro i v hv
  obtain ⟨_, h2⟩ := get_argSl vs 0 i v hv
  simp only [Nat.sub_zero] at h2
  have hlt := (List.getElem?_eq_some_iff.1 h2).1
  simp only [Array.getD_eq_getD_getElem?]
  rw [Array.getElem?_append_left (by simpa using hlt)]
  simp [h2]

theorem Ret.of {C : Cx} {own : List Asn} {w : World} (h : HW C own w) : Ret C.S C.W0 w own := by
  obtain ⟨hf, Fs, hh, hal⟩ := h
  exact ⟨hf, Fs, hh, fun i b hb => (hal i b hb).symm⟩

/-- one result -/
theorem AK.ret1 {C : Cx} {sl : List (Nat × Value)} {own : List Asn} {fn : Func} {R : Ending → World → Prop} {t : Nat} {v : Value} (hr : fn.results = #[.tmp t]) (hv : get sl t = some v) (h : ∀ w, HW C own w → R (.returned v) w) : AK C ⟨sl, own⟩ (bodyPost C.P fn R .ret) := by
  intro a w hs
  exact ⟨hs.defers, _, results_tmp hr _ _ _, by rw [hs.slot t v hv]; exact h w hs.world⟩
theorem AK.end1 {C : Cx} {sl : List (Nat × Value)} {own : List Asn} {fn : Func} {R : Ending → World → Prop} {t : Nat} {v : Value} (hr : fn.results = #[.tmp t]) (hv : get sl t = some v) (h : ∀ w, HW C own w → R (.returned v) w) : AK C ⟨sl, own⟩ (bodyPost C.P fn R .normal) := by
  intro a w hs
  exact ⟨hs.defers, _, results_tmp hr _ _ _, by rw [hs.slot t v hv]; exact h w hs.world⟩
theorem AK.ret0 {C : Cx} {sl : List (Nat × Value)} {own : List Asn} {fn : Func} {R : Ending → World → Prop} (hr : fn.results = #[]) (h : ∀ w, HW C own w → R (.returned (.tuple #[])) w) : AK C ⟨sl, own⟩ (bodyPost C.P fn R .ret) := by
  intro a w hs
  exact ⟨hs.defers, _, results_none hr _ _ _, h w hs.world⟩
theorem AK.end0 {C : Cx} {sl : List (Nat × Value)} {own : List Asn} {fn : Func} {R : Ending → World → Prop} (hr : fn.results = #[]) (h : ∀ w, HW C own w → R (.returned (.tuple #[])) w) : AK C ⟨sl, own⟩ (bodyPost C.P fn R .normal) := by
  intro a w hs
  exact ⟨hs.defers, _, results_none hr _ _ _, h w hs.world⟩
theorem AK.ret2 {C : Cx} {sl : List (Nat × Value)} {own : List Asn} {fn : Func} {R : Ending → World → Prop} {t u : Nat} {v z : Value} (hr : fn.results = #[.tmp t, .tmp u]) (hv : get sl t = some v) (hz : get sl u = some z) (h : ∀ w, HW C own w → R (.returned (.tuple #[v, z])) w) : AK C ⟨sl, own⟩ (bodyPost C.P fn R .ret) := by
  intro a w hs
  exact ⟨hs.defers, _, results_tmp2 hr _ _ _, by rw [hs.slot t v hv, hs.slot u z hz]; exact h w hs.world⟩

/-! ### ways through blocks -/
theorem AK.then_exit {C : Cx} {st : St} {K : Act → World → Prop} {Q : Exit → Act → World → Prop} {id : Nat} (h : AK C st (Q (.exit id))) : AK C st (Exit.then K Q (.exit id)) := h
theorem AK.then_ret {C : Cx} {st : St} {K : Act → World → Prop} {Q : Exit → Act → World → Prop} (h : AK C st (Q .ret)) : AK C st (Exit.then K Q .ret) := h
theorem AK.block_ret {C : Cx} {st : St} {Q : Exit → Act → World → Prop} {id : Nat} (h : AK C st (Q .ret)) : AK C st (Exit.inBlock id Q .ret) := h
theorem AK.block_normal {C : Cx} {st : St} {Q : Exit → Act → World → Prop} {id : Nat} (h : AK C st (Q .normal)) : AK C st (Exit.inBlock id Q .normal) := h
theorem AK.block_exit {C : Cx} {st : St} {Q : Exit → Act → World → Prop} {id : Nat} (h : AK C st (Q .normal)) : AK C st (Exit.inBlock id Q (.exit id)) := fun a w hs => by
  simp only [Exit.inBlock, if_true]; exact h a w hs
theorem AK.block_other {C : Cx} {st : St} {Q : Exit → Act → World → Prop} {id id' : Nat} (hne : (id' == id) = false) (h : AK C st (Q (.exit id'))) : AK C st (Exit.inBlock id Q (.exit id')) := fun a w hs => by
  simp only [beq_eq_false_iff_ne, ne_eq] at hne
  simp only [Exit.inBlock, hne, if_false]; exact h a w hs

/-! ### loops -/
def keep : List Nat → List (Nat × Value) → List (Nat × Value)
  | [], _ => []
  | k :: ks, sl => match get sl k with
    | some v => (k, v) :: keep ks sl
    | none => keep ks sl

def SlLe (sl : List (Nat × Value)) : List (Nat × Value) → Prop
  | [] => True
  | (i, v) :: l => get sl i = some v ∧ SlLe sl l

theorem SlLe.get {sl : List (Nat × Value)} : ∀ {l : List (Nat × Value)}, SlLe sl l → ∀ i v, Sx.get l i = some v → Sx.get sl i = some v
  | [], _, i, v, h => by simp [Sx.get] at h
  | (j, u) :: l, h, i, v, hv => by
    simp only [Sx.get] at hv
    split at hv
    · rename_i e; subst e; simp at hv; subst hv; exact h.1
    · exact SlLe.get h.2 i v hv

theorem St.le_of {sl sl' : List (Nat × Value)} {own own' : List Asn} (h1 : SlLe sl sl') (h2 : ∀ C w, HW C own w → HW C own' w) : St.le ⟨sl, own⟩ ⟨sl', own'⟩ := ⟨h1.get, h2⟩

theorem SlLe.keep {sl : List (Nat × Value)} : ∀ (ks : List Nat), SlLe sl (keep ks sl)
  | [] => trivial
  | k :: ks => by
    unfold Sx.keep
    split
    · rename_i v hv; exact ⟨hv, SlLe.keep ks⟩
    · exact SlLe.keep ks

theorem SlLe.append {sl l l' : List (Nat × Value)} (h : SlLe sl l) (h' : SlLe sl l') : SlLe sl (l ++ l') := by
  induction l with
  | nil => exact h'
  | cons p l ih => exact ⟨h.1, ih h.2⟩

/-- a loop: 'ch x': the slots that change; 'ks': those that stay; 'ow x': what is owned -/
theorem AK.loopS {C : Cx} {sl : List (Nat × Value)} {own : List Asn} {c : Code} {Q : Exit → Act → World → Prop} {X : Type} (ks : List Nat) (ch : X → List (Nat × Value)) (ow : X → List Asn) (good : X → Prop) (μ : X → Nat) (x0 : X) (h0 : good x0) (h1 : SlLe sl (ch x0)) (h2 : ∀ w, HW C own w → HW C (ow x0) w)
    (round : ∀ x, good x → ∀ K : Act → World → Prop, (∀ sl' own' x', good x' → μ x' < μ x → SlLe sl' (ch x' ++ keep ks sl) → (∀ w, HW C own' w → HW C (ow x') w) → AK C ⟨sl', own'⟩ K) → AK C ⟨ch x ++ keep ks sl, ow x⟩ (c.wp C.P (Exit.then K Q))) :
    AK C ⟨sl, own⟩ ((Code.loop c).wp C.P Q) := by
  intro a w hs
  refine wp_loop_ghost (fun n a w => ∃ x, good x ∧ μ x = n ∧ Sim C ⟨ch x ++ Sx.keep ks sl, ow x⟩ a w) (μ x0) ⟨x0, h0, rfl, ⟨hs.size, hs.defers, fun i v hv => hs.slot i v ((h1.append (.keep ks)).get i v hv), h2 w hs.world⟩⟩ ?_
  rintro n a w ⟨x, hg, rfl, hs⟩
  exact round x hg _ (fun sl' own' x' hg' hlt hsl how a w hs' => ⟨μ x', hlt, x', hg', rfl, ⟨hs'.size, hs'.defers, fun i v hv => hs'.slot i v (hsl.get i v hv), how w hs'.world⟩⟩) a w hs

theorem AK.weakenS {C : Cx} {sl sl' : List (Nat × Value)} {own own' : List Asn} {K : Act → World → Prop} (h1 : SlLe sl sl') (h2 : ∀ w, HW C own w → HW C own' w) (h : AK C ⟨sl', own'⟩ K) : AK C ⟨sl, own⟩ K :=
  fun a w hs => h a w ⟨hs.size, hs.defers, fun i v hv => hs.slot i v (h1.get i v hv), h2 w hs.world⟩


end Go.Sx
