import Derived.Test.YtaeojcaidcjnaaaS2
import Derived.RangeFuncIn
import Derived.RangeFuncLeaves
import Derived.RangeFuncRecord
import Derived.RangeFuncCalls
import Derived.RangeFuncSeq
import Derived.TacticsIn
import Derived.AtR
set_option linter.unusedVariables false
set_option linter.unusedSimpArgs false
namespace Go.Sx
open Go.RowKit
/-! ### a range over a function -/
def objA (b : Nat) (o : Obj) : Asn where
  holds w F := w.heap[b]? = some o ∧ ∀ c, F c ↔ c = b
  loc := by
    rintro w w' F ⟨h1, hF⟩ hb
    exact ⟨by rw [hb b ((hF b).2 rfl)]; exact h1, hF⟩
  lt := by
    rintro w F ⟨h1, hF⟩ c hc
    rw [(hF c).1 hc]
    exact (Array.getElem?_eq_some_iff.1 h1).1
def exA {X : Type} (p : X → Prop) (A : X → Asn) : Asn where
  holds w F := ∃ x, p x ∧ (A x).holds w F
  loc := by
    rintro w w' F ⟨x, hp, hx⟩ hb
    exact ⟨x, hp, (A x).loc w w' F hx hb⟩
  lt := by
    rintro w F ⟨x, hp, hx⟩ c hc
    exact (A x).lt w F hx c hc
theorem HW.exE {C : Cx} {own : List Asn} {w : World} {X : Type} {p : X → Prop} {A : X → Asn} (i : Nat) (hi : own[i]? = some (exA p A)) (h : HW C own w) : ∃ x, p x ∧ HW C (own.set i (A x)) w := by
  obtain ⟨hf, Fs, hh, hal⟩ := h
  obtain ⟨x, hp, hx⟩ := hh.at_ i _ hi
  refine ⟨x, hp, hf, Fs, ⟨fun k B hk => ?_, fun k hk b hb => hh.out k (by simpa using hk) b hb, hh.apart⟩, hal⟩
  by_cases hki : i = k
  · subst hki
    have hlt := (List.getElem?_eq_some_iff.1 hi).1
    simp [hlt] at hk
    subst hk
    exact hx
  · rw [List.getElem?_set_ne hki] at hk; exact hh.at_ k B hk
theorem HW.exI {C : Cx} {own : List Asn} {w : World} {X : Type} {p : X → Prop} {A : X → Asn} (i : Nat) (x : X) (hp : p x) (hi : own[i]? = some (A x)) (h : HW C own w) : HW C (own.set i (exA p A)) w :=
  HW.elem i hi (fun F hA => ⟨x, hp, hA⟩) h
theorem HW.setObj {C : Cx} {own : List Asn} {w : World} {b : Nat} {o : Obj} (i : Nat) (o' : Obj) (hi : own[i]? = some (objA b o)) (h : HW C own w) : HW C (own.set i (objA b o')) (w.putObj b o') := by
  obtain ⟨hf, Fs, hh, hal⟩ := h
  obtain ⟨hb, hF⟩ := hh.at_ i _ hi
  have hbl : b < w.heap.size := (Array.getElem?_eq_some_iff.1 hb).1
  have hlt : i < own.length := (List.getElem?_eq_some_iff.1 hi).1
  have hfr : FrameX (Fs i) w (w.putObj b o') := ⟨rfl, rfl, rfl, by simp, fun j _ hj => World.putObj_heap_other (fun e => hj ((hF j).2 e))⟩
  have hup := HW.update (own2 := []) (A' := objA b o') hf hh hal hlt hfr (HeapAt.one (⟨World.putObj_heap_same hbl, hF⟩ : (objA b o').holds _ (Fs i))) (fun j b hb => .inl hb.2)
  rw [List.append_nil] at hup
  exact hup
abbrev WR (l : Nat) : Fence := Fence.wide.inRound l
def noDefer (l : List Oper) : Bool := l.all fun o => match o.op with | .defer _ => false | _ => true
theorem noDefer_of {l : List Oper} (h : noDefer l = true) : ∀ o ∈ l, ∀ c, o.op ≠ .defer c := fun o ho c e => by
  have := List.all_eq_true.1 h o ho
  rw [e] at this; cases this
theorem wpList_round {P : Program} {ops : Array Oper} {Q : Exit → Act → World → Prop} (lr : Nat) (hQ : ∀ a w, ¬ Q .outgrown a w) : ∀ (l : List Oper), (∀ o ∈ l, ∀ c, o.op ≠ .defer c) → ∀ a w, wpList P ops Q l a w → wpListIn (WR lr) 0 P ops Q l a w
  | [], _, _, _, h => h
  | o :: l, hl, a, w, h => by
    have ih := wpList_round (P := P) (ops := ops) lr hQ l (fun o ho => hl o (List.mem_cons_of_mem _ ho))
    unfold wpList at h
    unfold wpListIn
    by_cases hw : Region.wanted o (yielded ops a.tmps) = true
    · rw [if_pos hw] at h ⊢
      have h1 : o.wp P a w (wpList P ops Q l) Q := h.resolve_right (fun ⟨_, a', w', k⟩ => hQ a' w' k)
      refine ⟨fun _ _ => trivial, ?_⟩
      rw [Oper.semAt_eq _ _ _ (hl o (by simp))]
      unfold Oper.wp at h1
      generalize (execOp a.eval o).run P w = res at h1 ⊢
      cases res with
      | ok nx w' =>
        cases nx with
        | value v => exact ih _ _ h1
        | skip => exact ih _ _ h1
        | defer d => exact ih _ _ h1
        | enter f args =>
          refine ⟨fun h => (by cases h), CallsIn.inRound lr (callsIn_wide.2 (Calls.mono h1 ?_))⟩
          rintro e w'' he
          cases e with
          | returned v => exact ih _ _ he
          | panicked ch => exact he
          | outgrown => exact he
        | row r args =>
          refine ⟨fun h => (by cases h), fun c cs _ => ?_⟩
          obtain ⟨v, w'', h2, h3⟩ := h1 c cs
          exact ⟨v, w'', ih _ _ h2, stepsIn_wide.2 h3⟩
        | _ => exact h1.elim
      | halt hh => cases hh with
        | panic v => exact h1
        | _ => exact h1.elim
    · rw [if_neg hw] at h ⊢
      exact ⟨fun _ _ => trivial, ih _ _ h⟩
section codes
variable {C : Cx} {st : St} {sl : List (Nat × Value)} {own : List Asn} {Q : Exit → Act → World → Prop} {l : Nat}
theorem AK.regionR {id : Nat} {ops : List Oper} (hQ : ∀ a w, ¬ Q .outgrown a w) (hd : noDefer ops = true) (h : AK C st (wpList C.P ops.toArray Q ops)) : AK C st ((Code.region id ops.toArray false).wpIn (WR l) 0 C.P Q) :=
  fun a w hs => wpIn_region_lit (wpList_round l hQ ops (noDefer_of hd) a w (h a w hs))
theorem AK.seqR {x y : Code} (h : ∀ K : Act → World → Prop, (∀ st', AK C st' (y.wpIn (WR l) 0 C.P Q) → AK C st' K) → AK C st (x.wpIn (WR l) 0 C.P (Exit.then K Q))) : AK C st ((Code.seq x y).wpIn (WR l) 0 C.P Q) :=
  fun a w hs => wpIn_seq (h _ (fun _ h => h) a w hs)
theorem AK.blockR {id : Nat} {c : Code} (h : AK C st (c.wpIn (WR l) 0 C.P (Exit.inBlock id Q))) : AK C st ((Code.block id c).wpIn (WR l) 0 C.P Q) := fun a w hs => wpIn_block (h a w hs)
theorem AK.skipR (h : AK C st (Q .normal)) : AK C st (Code.skip.wpIn (WR l) 0 C.P Q) := fun a w hs => wpIn_skip (h a w hs)
theorem AK.retR (h : AK C st (Q .ret)) : AK C st (Code.ret.wpIn (WR l) 0 C.P Q) := fun a w hs => wpIn_ret (h a w hs)
theorem AK.condR {c : Operand} {x y : Code} {t : Bool} (hc : opv st c = some (.bool t)) (hx : t = true → AK C st (x.wpIn (WR l) 0 C.P Q)) (hy : t = false → AK C st (y.wpIn (WR l) 0 C.P Q)) : AK C st ((Code.cond c x y).wpIn (WR l) 0 C.P Q) :=
  fun a w hs => wpIn_cond_split (opv_eval hs hc) (fun h => hx h a w hs) (fun h => hy h a w hs)
theorem AK.condRD {c : Operand} {x y : Code} {p : Prop} [Decidable p] (hc : opv st c = some (.bool (decide p))) (hx : p → AK C st (x.wpIn (WR l) 0 C.P Q)) (hy : ¬ p → AK C st (y.wpIn (WR l) 0 C.P Q)) : AK C st ((Code.cond c x y).wpIn (WR l) 0 C.P Q) :=
  AK.condR hc (fun h => hx (of_decide_eq_true h)) (fun h => hy (of_decide_eq_false h))
theorem AK.condRNe {c : Operand} {x y : Code} {p : Prop} [Decidable p] (hc : opv st c = some (.bool (decide (¬ p)))) (hx : ¬ p → AK C st (x.wpIn (WR l) 0 C.P Q)) (hy : p → AK C st (y.wpIn (WR l) 0 C.P Q)) : AK C st ((Code.cond c x y).wpIn (WR l) 0 C.P Q) :=
  AK.condR hc (fun h => hx (of_decide_eq_true h)) (fun h => hy (Decidable.not_not.1 (of_decide_eq_false h)))
theorem AK.condR_t {c : Operand} {x y : Code} {t : Bool} (hc : opv st c = some (.bool t)) (ht : t = true) (hx : AK C st (x.wpIn (WR l) 0 C.P Q)) : AK C st ((Code.cond c x y).wpIn (WR l) 0 C.P Q) := AK.condR hc (fun _ => hx) (fun h => by rw [ht] at h; cases h)
theorem AK.condR_f {c : Operand} {x y : Code} {t : Bool} (hc : opv st c = some (.bool t)) (ht : t = false) (hx : AK C st (y.wpIn (WR l) 0 C.P Q)) : AK C st ((Code.cond c x y).wpIn (WR l) 0 C.P Q) := AK.condR hc (fun h => by rw [ht] at h; cases h) (fun _ => hx)
/-- what a round ends in -/
def RQ {α : Type} (C : Cx) (l D : Nat) (r : Loop) (J : List α → Asn) (Jx : Code → List α → Asn) (pre : List α) (x : α) : Exit → Act → World → Prop
  | .normal, _, w => HW C [J (pre ++ [x]), objA D (.deferred (some [])), objA l (.loop { r with state := .busy })] w
  | .ret, _, w => HW C [Jx .ret (pre ++ [x]), objA D (.deferred (some [])), objA l (.loop { r with state := .busy })] w
  | .exit id, _, w => HW C [Jx (.exit id) (pre ++ [x]), objA D (.deferred (some [])), objA l (.loop { r with state := .busy })] w
  | _, _, _ => False
def BeginK (P : Program) (l : Nat) (body : Code) (Q : Exit → Act → World → Prop) (a : Act) (w : World) : Prop := ∃ w2, (Instr.beginRound l).run P w = .ok () w2 ∧ body.wpIn (WR l) 0 P Q a w2
theorem AK.begin_ {body : Code} {r : Loop} (i : Nat) (hi : own[i]? = some (objA l (.loop r))) (hr : r.state = .ready) (h : AK C ⟨sl, own.set i (objA l (.loop { r with state := .busy }))⟩ (body.wpIn (WR l) 0 C.P Q)) : AK C ⟨sl, own⟩ (BeginK C.P l body Q) := by
  intro a w hs
  obtain ⟨hf, Fs, hh, hal⟩ := id hs.world
  exact ⟨_, run_beginRound (hh.at_ i _ hi).1 hr, h a _ ⟨hs.size, hs.defers, hs.slot, hs.world.setObj i _ hi⟩⟩
end codes
/-! ### yield -/
def YC {α : Type} (P : Program) (l : Nat) (enc : α → Value) (T : List α → Prop) (J Jx : List α → Asn) (W0 : World) (S : Nat → Prop) : Prop :=
  ∀ (pre : List α) (x : α) (w : World) (F : Nat → Prop), T (pre ++ [x]) → FrameX S W0 w → (∀ b, F b → W0.heap.size ≤ b ∨ S b) → (J pre).holds w F →
    YieldAt Fence.wide 0 P l #[enc x] w (fun e w' => ∃ (b : Bool) (A' : Asn), e = .returned (.bool b) ∧ A' = (if b = true then J (pre ++ [x]) else Jx (pre ++ [x])) ∧ Ret F w w' [A'])
theorem YC.later {α : Type} {P : Program} {l : Nat} {enc : α → Value} {T : List α → Prop} {J Jx : List α → Asn} {W0 w1 : World} {S S1 : Nat → Prop} (h : YC P l enc T J Jx W0 S) (hf : FrameX S W0 w1) (hS : ∀ b, S1 b → W0.heap.size ≤ b ∨ S b) : YC P l enc T J Jx w1 S1 :=
  fun pre x w F hT hfr hF hJ => h pre x w F hT (hf.step hfr (fun b hb hlt => (hS b hb).resolve_left (by omega))) (fun b hb => (hF b hb).elim (fun k => .inl (Nat.le_trans hf.size k)) (fun k => hS b k)) hJ
section yields
variable {C : Cx} {sl : List (Nat × Value)} {own : List Asn} {ops : Array Oper} {Q : Exit → Act → World → Prop} {ty : TypeId} {pos : String} {aft : Array Edge} {g : Option (Nat × Bool)} {rest : List Oper}
theorem AK.regionI {st : St} {id : Nat} {l : List Oper} (h : AK C st (wpListIn Fence.wide 0 C.P l.toArray Q l)) : AK C st ((Code.region id l.toArray false).wp C.P Q) := fun a w hs => wpIn_wide.1 (wpIn_region_lit (h a w hs))
theorem AK.nilI {st : St} (h : AK C st (Q .normal)) : AK C st (wpListIn Fence.wide 0 C.P ops Q []) := h
theorem AK.valI {d : Nat} {op : Op} (v : Value) (hy : Yl C ⟨sl, own⟩ ⟨some d, op, ty, pos, aft, g⟩ v) (hg : Grd ops sl g) (hd : Nat.blt d C.N = true) (h : AK C ⟨(d, v) :: sl, own⟩ (wpListIn Fence.wide 0 C.P ops Q rest)) :
    AK C ⟨sl, own⟩ (wpListIn Fence.wide 0 C.P ops Q (⟨some d, op, ty, pos, aft, g⟩ :: rest)) := by
  intro a w hs
  refine wpListIn_step fun K hK => ?_
  rw [if_pos (wanted_of_Grd hs hg)]
  refine ⟨fun _ _ => trivial, ?_⟩
  have hrun := hy a w hs
  rw [show (Fence.wide.round) = none from rfl, Oper.semAt_none, hrun]
  exact hK _ _ (h _ _ (hs.put hs.world (d := some d) (fun i hi => by cases hi; simpa [Nat.blt_eq] using hd) v))
theorem AK.yieldI {α : Type} (i : Nat) {d l : Nat} {x0 y : Operand} {tys : Array TypeId} {enc : α → Value} {T : List α → Prop} {J Jx : List α → Asn} {pre : List α} (x : α) (hY : YC C.P l enc T J Jx C.W0 C.S) (hT : T (pre ++ [x])) (hi : own[i]? = some (J pre)) (hx0 : opv ⟨sl, own⟩ x0 = some (.func (.yield l) #[] #[])) (hx : opv ⟨sl, own⟩ y = some (enc x)) (hg : Grd ops sl g) (hd : Nat.blt d C.N = true)
    (h1 : AK C ⟨(d, .bool true) :: sl, own.set i (J (pre ++ [x]))⟩ (wpListIn Fence.wide 0 C.P ops Q rest)) (h2 : AK C ⟨(d, .bool false) :: sl, own.set i (Jx (pre ++ [x]))⟩ (wpListIn Fence.wide 0 C.P ops Q rest)) :
    AK C ⟨sl, own⟩ (wpListIn Fence.wide 0 C.P ops Q (⟨some d, .call ⟨.value x0, #[y], tys⟩, ty, pos, aft, g⟩ :: rest)) := by
  intro a w hs
  refine wpListIn_step fun K hK => ?_
  rw [if_pos (wanted_of_Grd hs hg)]
  refine ⟨fun _ _ => trivial, ?_⟩
  obtain ⟨hf, Fs, hh, hal⟩ := hs.world
  obtain ⟨fn, tmps, assign, body, hy, hR⟩ := hY pre x w (Fs i) hT hf (hal i) (hh.at_ i _ hi)
  have hrun : (execOp a.eval ⟨some d, .call ⟨.value x0, #[y], tys⟩, ty, pos, aft, g⟩).run C.P w = .ok (.round l fn tmps assign body) w := by
    simp [execOp, resolve, opv_eval hs hx0, opv_eval hs hx, Deferred.ofValue, invoke, hy]
  rw [show (Fence.wide.round) = none from rfl, Oper.semAt_none, hrun]
  refine ⟨fun h => (by cases h), hR.mono ?_⟩
  rintro e w' ⟨b, A', rfl, rfl, hx', Fs', hh', hin⟩
  have hlt := (List.getElem?_eq_some_iff.1 hi).1
  have hup := HW.update (own2 := []) hf hh hal hlt hx' hh' hin
  rw [List.append_nil] at hup
  have hp := hs.put hup (d := some d) (fun i hi => by cases hi; simpa [Nat.blt_eq] using hd) (.bool b)
  cases b with
  | true => exact hK _ _ (h1 _ _ hp)
  | false => exact hK _ _ (h2 _ _ hp)
end yields
/-! ### behind the loop: the mark among the deferred calls -/
def markD (D : Nat) : Deferred := { target := .collected D, args := #[] }
def AKd (C : Cx) (D : Nat) (st : St) (K : Act → World → Prop) : Prop := ∀ a w, Sim C st { a with defers := [] } w → a.defers = [markD D] → K a w
theorem wpList_frame {P : Program} {ops : Array Oper} {Q : Exit → Act → World → Prop} (Ds : List Deferred) : ∀ (l : List Oper) (a : Act) (w : World), (∀ a w, ¬ Q .outgrown a w) → wpList P ops Q l a w →
    wpList P ops (fun e a w => ∃ a0, Q e a0 w ∧ a = { a0 with defers := a0.defers ++ Ds }) l { a with defers := a.defers ++ Ds } w
  | [], a, w, _, h => ⟨a, h, rfl⟩
  | o :: l, a, w, hQ, h => by
    have ih := fun a w => wpList_frame (P := P) (ops := ops) (Q := Q) Ds l a w hQ
    unfold wpList at h ⊢
    have hput : ∀ v, ({ a with defers := a.defers ++ Ds } : Act).put o.dst v = { (a.put o.dst v) with defers := (a.put o.dst v).defers ++ Ds } := fun v => by cases o.dst <;> rfl
    by_cases hw : Region.wanted o (yielded ops a.tmps) = true
    · rw [if_pos hw] at h ⊢
      have h1 : o.wp P a w (wpList P ops Q l) Q := h.resolve_right (fun ⟨_, a', w', k⟩ => hQ a' w' k)
      refine .inl ?_
      unfold Oper.wp at h1 ⊢
      have hev : ({ a with defers := a.defers ++ Ds } : Act).eval = a.eval := by funext x; cases x <;> rfl
      rw [hev]
      generalize (execOp a.eval o).run P w = res at h1 ⊢
      cases res with
      | ok nx w' =>
        cases nx with
        | value v => simp only [Oper.upon] at h1 ⊢; rw [hput]; exact ih _ _ h1
        | skip => simp only [Oper.upon] at h1 ⊢; rw [hput]; exact ih _ _ h1
        | defer d =>
          simp only [Oper.upon] at h1 ⊢
          have := ih _ _ h1
          have e : ({ tmps := a.tmps, defers := d :: (a.defers ++ Ds) } : Act).put o.dst undef = { (({ tmps := a.tmps, defers := d :: a.defers } : Act).put o.dst undef) with defers := (({ tmps := a.tmps, defers := d :: a.defers } : Act).put o.dst undef).defers ++ Ds } := by cases o.dst <;> rfl
          exact e ▸ this
        | enter f args =>
          simp only [Oper.upon] at h1 ⊢
          refine Calls.mono h1 ?_
          rintro e w'' he
          cases e with
          | returned v => have h5 := ih _ _ he; rw [← hput] at h5; exact h5
          | panicked ch => exact ⟨a, he, rfl⟩
          | outgrown => obtain ⟨a', w', k⟩ := he; exact absurd k (hQ a' w')
        | row r args =>
          simp only [Oper.upon] at h1 ⊢
          intro c cs
          obtain ⟨v, w'', h2, h3⟩ := h1 c cs
          have h5 := ih _ _ h2
          rw [← hput] at h5
          exact ⟨v, w'', h5, h3⟩
        | _ => exact h1.elim
      | halt hh => cases hh with
        | panic v => exact ⟨a, h1, rfl⟩
        | _ => exact h1.elim
    · rw [if_neg hw] at h ⊢
      have := ih _ _ h
      show wpList P ops _ l (({ a with defers := a.defers ++ Ds } : Act).put o.dst undef) w
      rw [hput]; exact this
def simQ (C : Cx) (st : St) : Exit → Act → World → Prop
  | .normal, a, w => Sim C st a w
  | _, _, _ => False
section behind
variable {C : Cx} {st : St} {sl : List (Nat × Value)} {own : List Asn} {Q : Exit → Act → World → Prop} {D : Nat}
theorem AKd.region {id : Nat} {l : List Oper} (st' : St) (h : AK C st (wpList C.P l.toArray (simQ C st') l)) (h2 : AKd C D st' (Q .normal)) : AKd C D st ((Code.region id l.toArray false).wp C.P Q) := by
  intro a w hs hd
  refine wp_region_lit ?_
  have := wpList_frame [markD D] l _ w (fun _ _ h => h) (h _ w hs)
  have ea : ({ ({ a with defers := [] } : Act) with defers := ({ a with defers := [] } : Act).defers ++ [markD D] } : Act) = a := by
    cases a; simp only at hd; subst hd; rfl
  rw [ea] at this
  have mono : ∀ (l' : List Oper) (a : Act) (w : World), wpList C.P l.toArray (fun e a w => ∃ a0, simQ C st' e a0 w ∧ a = { a0 with defers := a0.defers ++ [markD D] }) l' a w → wpList C.P l.toArray Q l' a w := by
    intro l'
    induction l' with
    | nil =>
      rintro a w ⟨a0, hs0, rfl⟩
      have hd0 := hs0.defers
      refine h2 _ w ?_ (by show a0.defers ++ _ = _; rw [hd0]; rfl)
      have : ({ ({ a0 with defers := a0.defers ++ [markD D] } : Act) with defers := [] } : Act) = a0 := by cases a0; simp only at hd0; subst hd0; rfl
      rw [this]; exact hs0
    | cons o l' ih =>
      intro a w h
      unfold wpList at h ⊢
      by_cases hw : Region.wanted o (yielded l.toArray a.tmps) = true
      · rw [if_pos hw] at h ⊢
        have h1 := h.resolve_right (fun ⟨_, a', w', k⟩ => by obtain ⟨a0, k, _⟩ := k; exact k)
        refine .inl ?_
        unfold Oper.wp at h1 ⊢
        generalize (execOp a.eval o).run C.P w = res at h1 ⊢
        cases res with
        | ok nx w' =>
          cases nx with
          | value v => exact ih _ _ h1
          | skip => exact ih _ _ h1
          | defer d => exact ih _ _ h1
          | enter f args =>
            refine Calls.mono h1 ?_
            rintro e w'' he
            cases e with
            | returned v => exact ih _ _ he
            | panicked ch => obtain ⟨a0, k, _⟩ := he; exact k.elim
            | outgrown => obtain ⟨a', w', a0, k, _⟩ := he; exact k.elim
          | row r args =>
            intro c cs
            obtain ⟨v, w'', h2, h3⟩ := h1 c cs
            exact ⟨v, w'', ih _ _ h2, h3⟩
          | _ => exact h1.elim
        | halt hh => cases hh with
          | panic v => obtain ⟨a0, k, _⟩ := h1; exact k.elim
          | _ => exact h1.elim
      · rw [if_neg hw] at h ⊢
        exact ih _ _ h
  exact mono l a w this
theorem AKd.seq {x y : Code} (h : AKd C D st (x.wp C.P (Exit.then (y.wp C.P Q) Q))) : AKd C D st ((Code.seq x y).wp C.P Q) := fun a w hs hd => wp_seq (h a w hs hd)
theorem AKd.retC (h : AKd C D st (Q .ret)) : AKd C D st (Code.ret.wp C.P Q) := fun a w hs hd => wp_ret (h a w hs hd)
def bodyPostW (P : Program) (fn : Func) (R : Ending → World → Prop) : Exit → Act → World → Prop := bodyPostM Fence.wide 0 P fn R
theorem AKd.fin {fn : Func} {R : Ending → World → Prop} (i : Nat) (hi : own[i]? = some (objA D (.deferred (some [])))) (h : AK C ⟨sl, own.set i (objA D (.deferred none))⟩ (bodyPost C.P fn R .ret)) : AKd C D ⟨sl, own⟩ (bodyPostW C.P fn R .ret) := by
  intro a w hs hd
  obtain ⟨hf, Fs, hh, hal⟩ := id hs.world
  obtain ⟨_, v, hr, hR⟩ := h _ _ ⟨hs.size, rfl, hs.slot, hs.world.setObj i (.deferred none) hi⟩
  show LeavesInM Fence.wide 0 C.P fn a.tmps R a.defers .returning w
  rw [hd]
  exact ⟨by simp, .inl ⟨D, _, rfl, run_takeDeferred (hh.at_ i _ hi).1, v, hr, hR⟩⟩
theorem AK.toW {fn : Func} {R : Ending → World → Prop} (h : AK C st (bodyPost C.P fn R .ret)) : AK C st (bodyPostW C.P fn R .ret) := by
  intro a w hs
  obtain ⟨hd, v, hr, hR⟩ := h a w hs
  show LeavesInM Fence.wide 0 C.P fn a.tmps R a.defers .returning w
  rw [hd]
  exact ⟨v, hr, hR⟩
theorem AK.seqD {x y : Code} (h : ∀ K : Act → World → Prop, (∀ a w, y.wp C.P Q a w → K a w) → AK C st (x.wp C.P (Exit.then K Q))) : AK C st ((Code.seq x y).wp C.P Q) := fun a w hs => wp_seq (h _ (fun _ _ h => h) a w hs)
theorem AK.seqW {x y : Code} (h : ∀ K : Act → World → Prop, (∀ a w, y.wp C.P Q a w → K a w) → (∀ st', AK C st' (y.wp C.P Q) → AK C st' K) → AK C st (x.wp C.P (Exit.then K Q))) : AK C st ((Code.seq x y).wp C.P Q) := fun a w hs => wp_seq (h _ (fun _ _ h => h) (fun _ h => h) a w hs)
end behind
theorem specW_of {P : Program} {f : FuncId} {fn : Func} {c : Code} {vs : List Value} {w : World} {φ : Value → List Asn → Prop} (hf : P.funcs[f]? = some fn) (hb : fn.body = some c) (hN : vs.length ≤ fn.ntmps)
    (h : AK ⟨P, fn.ntmps, w, fun _ => False⟩ ⟨argSl 0 vs, []⟩ (c.wp P (bodyPostW P fn fun e w' => ∃ v own', φ v own' ∧ e = .returned v ∧ Ret (fun _ => False) w w' own'))) : CallS P f vs w φ := by
  refine (callsIn_wide (n := 0)).1 (callsIn_of_wp_marks hf hb trivial (wpIn_wide.2 (h _ _ ⟨by simp; omega, rfl, ?_, ⟨FrameX.refl _ _, _, HeapAt.nil w, fun _ _ h => h.elim⟩⟩)))
  intro i v hv
  obtain ⟨_, h2⟩ := get_argSl vs 0 i v hv
  simp only [Nat.sub_zero] at h2
  have hlt := (List.getElem?_eq_some_iff.1 h2).1
  simp only [Array.getD_eq_getD_getElem?]
  rw [Array.getElem?_append_left (by simpa using hlt)]
  simp [h2]
theorem AKd.thenK {C : Cx} {st : St} {D : Nat} {y : Code} {Q : Exit → Act → World → Prop} {K : Act → World → Prop} (hK : ∀ a w, y.wp C.P Q a w → K a w) (h : AKd C D st (y.wp C.P Q)) : AKd C D st K := fun a w hs hd => hK a w (h a w hs hd)
theorem AKd.exE {C : Cx} {sl : List (Nat × Value)} {own : List Asn} {D : Nat} {X : Type} {p : X → Prop} {A : X → Asn} {K : Act → World → Prop} (i : Nat) (hi : own[i]? = some (exA p A)) (h : ∀ x, p x → AKd C D ⟨sl, own.set i (A x)⟩ K) : AKd C D ⟨sl, own⟩ K := by
  intro a w hs hd
  obtain ⟨x, hp, hx⟩ := HW.exE i hi hs.world
  exact h x hp a w ⟨hs.size, hs.defers, hs.slot, hx⟩ hd
theorem AK.exE {C : Cx} {sl : List (Nat × Value)} {own : List Asn} {X : Type} {p : X → Prop} {A : X → Asn} {K : Act → World → Prop} (i : Nat) (hi : own[i]? = some (exA p A)) (h : ∀ x, p x → AK C ⟨sl, own.set i (A x)⟩ K) : AK C ⟨sl, own⟩ K := by
  intro a w hs
  obtain ⟨x, hp, hx⟩ := HW.exE i hi hs.world
  exact h x hp a w ⟨hs.size, hs.defers, hs.slot, hx⟩
theorem AKd.own' {C : Cx} {sl : List (Nat × Value)} {own : List Asn} {D : Nat} {K : Act → World → Prop} (L : List Asn) (hL : ∀ w, HW C own w → HW C L w) (h : AKd C D ⟨sl, L⟩ K) : AKd C D ⟨sl, own⟩ K := fun a w hs hd => h a w ⟨hs.size, hs.defers, hs.slot, hL w hs.world⟩ hd
def botA : Asn := exA (fun _ : Unit => False) (fun _ => empA)
theorem AKd.bot {C : Cx} {sl : List (Nat × Value)} {own : List Asn} {D : Nat} {K : Act → World → Prop} (i : Nat) (hi : own[i]? = some botA) : AKd C D ⟨sl, own⟩ K := AKd.exE i hi (fun _ h => h.elim)
end Go.Sx
