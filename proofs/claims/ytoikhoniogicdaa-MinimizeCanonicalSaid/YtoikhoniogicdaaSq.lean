import Derived.Test.YtoikhoniogicdaaSv
import Derived.StillTail
set_option linter.unusedVariables false
namespace Go.Sx
/-! ### regions that draw, where a plain move may come late -/
def Qn (Q : Exit → Act → World → Prop) : Exit → Act → World → Prop := fun e a w => e = .normal ∧ Q .normal a w
theorem Qn_out {Q : Exit → Act → World → Prop} : ¬ LetsOut (Qn Q) := fun ⟨_, _, h, _⟩ => by cases h

section
variable {P : Program} {ops : Array Oper} {Q : Exit → Act → World → Prop}
theorem wp_of_Qn {o : Oper} {a : Act} {w : World} {K : Act → World → Prop} (h : o.wp P a w K (Qn Q)) : o.wp P a w K Q := by
  unfold Oper.wp at *
  generalize (execOp a.eval o).run P w = r at *
  cases r with
  | ok n w' =>
    cases n <;> simp only [Oper.upon] at h ⊢ <;>
      first
        | exact h
        | exact Calls.mono h (fun e w'' he => by
            cases e
            · exact he
            · exact absurd he.1 (by simp)
            · exact absurd he Qn_out)
  | halt x w' => cases x <;> simp only [Oper.upon] at h ⊢ <;> exact absurd h.1 (by simp)

theorem wpOp_of_Qn {i : Nat} {a : Act} {w : World} {K : Act → World → Prop} (h : wpOp P ops (Qn Q) i K a w) : wpOp P ops Q i K a w := by
  unfold wpOp at *
  split
  · simpa [*] using h
  · rename_i o ho
    simp only [ho] at h
    split
    · rename_i hw
      simp only [hw, if_true] at h
      rcases h with h | h
      · exact .inl (wp_of_Qn h)
      · exact absurd h.2 Qn_out
    · rename_i hw; simp only [hw] at h; exact h

theorem wpAny_of_Qn {md : Region.Mode} : ∀ (n : Nat) (listed : Array Bool) (a : Act) (w : World), wpAny P md ops (Qn Q) n listed a w → wpAny P md ops Q n listed a w
  | 0, _, _, _, h => ⟨h.1, h.2.2⟩
  | n + 1, listed, a, w, h => ⟨fun hr => (h.1 hr).2, fun i hi => wpOp_of_Qn (wpOp_mono (fun a' w' h' => wpAny_of_Qn n _ a' w' h') (h.2 i hi))⟩

theorem put_defers {a : Act} {d : Option Tmp} {v : Value} {x : Deferred} : { (a.put d v) with defers := x :: (a.put d v).defers } = ({ a with defers := x :: a.defers } : Act).put d v := by
  cases d <;> rfl

theorem wpOp_put {j : Nat} {oi oj : Oper} {v : Value} (hj : ops[j]? = some oj) (hap : oi.apart ops oj = true)
    (hsi : ∀ cs b, oi.op ≠ .select cs b) (hsj : ∀ cs b, oj.op ≠ .select cs b) {K : Act → World → Prop} {a : Act} {w : World}
    (hy : ∀ w, YieldsAt P ops w oi v a) (h : wpOp P ops (Qn Q) j K (a.put oi.dst v) w) :
    wpOp P ops (Qn Q) j (fun a' w' => (∀ w, YieldsAt P ops w oi v a') ∧ K (a'.put oi.dst v) w') a w := by
  obtain ⟨h1, h2, h3⟩ := Oper.apart_spec hap
  have keep : ∀ (a : Act), (∀ w, YieldsAt P ops w oi v a) → ∀ u w, YieldsAt P ops w oi v (a.put oj.dst u) := fun a hy u w =>
    (hy w).of_same (execOp_put oi hsi a oj.dst u h3) (wanted_put oi a oj.dst u h3)
  unfold wpOp at *
  simp only [hj] at *
  rw [wanted_put oj a oi.dst v h1] at h
  split
  · rename_i hw
    simp only [hw, if_true] at h
    rcases h with h | h
    · left
      unfold Oper.wp at *
      rw [execOp_put oj hsj a oi.dst v h1] at h
      generalize (execOp a.eval oj).run P w = r at *
      have fin : ∀ u w'', K ((a.put oi.dst v).put oj.dst u) w'' → (∀ w, YieldsAt P ops w oi v (a.put oj.dst u)) ∧ K ((a.put oj.dst u).put oi.dst v) w'' := fun u w'' hk => ⟨keep a hy u, by rw [← Act.put_comm a v u h2]; exact hk⟩
      cases r with
      | ok n w' =>
        cases n <;> simp only [Oper.upon] at h ⊢
        case value u => exact fin u _ h
        case skip => exact fin _ _ h
        case enter f args => exact Calls.mono h (fun e w'' he => by
            cases e
            · exact fin _ _ he
            · exact absurd he.1 (by simp)
            · exact absurd he Qn_out)
        case row r args => exact Rows.mono h (fun _ _ he => fin _ _ he)
        case defer x =>
          rw [put_defers] at h
          refine ⟨keep { a with defers := x :: a.defers } (fun w => (hy w).of_same rfl rfl) undef, ?_⟩
          rw [← Act.put_comm _ v undef h2]; exact h
      | halt x w' => cases x <;> simp only [Oper.upon] at h <;> exact absurd h.1 (by simp)
    · exact absurd h.2 Qn_out
  · rename_i hw
    simp only [hw] at h
    exact ⟨keep a hy undef, by rw [← Act.put_comm a v undef h2]; exact h⟩

theorem wpAny_first {md : Region.Mode} {i : Nat} {oi : Oper} {v : Value} (hi : ops[i]? = some oi) (hsel : ∀ (j : Nat) (o : Oper) cs b, ops[j]? = some o → o.op ≠ .select cs b) :
    ∀ (fuel : Nat) (listed : Array Bool) (a : Act) (w : World),
      (∀ j oj, ops[j]? = some oj → j ≠ i → listed.getD j true = false → (∀ e ∈ oj.after, Region.binds md e = true → e.on ≠ i) → oi.apart ops oj = true) →
      i ∈ Region.ready md ops listed → (∀ w, YieldsAt P ops w oi v a) →
      wpAny P md ops (Qn Q) fuel (listed.setIfInBounds i true) (a.put oi.dst v) w → wpAny P md ops (Qn Q) (fuel + 1) listed a w := by
  intro fuel
  induction fuel with
  | zero =>
    intro listed a w _ hr hy H
    refine ⟨fun h => (by rw [h] at hr; cases hr), fun j hj => ?_⟩
    by_cases hji : j = i
    · subst hji; exact wpOp_of_stOp (K := fun a' => wpAny P md ops (Qn Q) 0 (listed.setIfInBounds j true) a' w) (fun _ h => h) ((hy w).stOp hi H)
    · have := ready_mono hj hji
      rw [H.1] at this
      cases this
  | succ fuel ih =>
    intro listed a w hfree hr hy H
    refine ⟨fun h => (by rw [h] at hr; cases hr), fun j hj => ?_⟩
    by_cases hji : j = i
    · subst hji; exact wpOp_of_stOp (K := fun a' => wpAny P md ops (Qn Q) (fuel + 1) (listed.setIfInBounds j true) a' w) (fun _ h => h) ((hy w).stOp hi H)
    · have h1 := H.2 j (ready_mono hj hji)
      obtain ⟨hjun, oj, hoj, hall⟩ := mem_ready.1 hj
      have hnot : ∀ e ∈ oj.after, Region.binds md e = true → e.on ≠ i := fun e he hb heq => by
        have h1 := hall e he hb
        have h0 := (mem_ready.1 hr).1
        rw [heq] at h1
        rcases Nat.lt_or_ge i listed.size with h' | h'
        · simp [h'] at h0 h1; rw [h0] at h1; cases h1
        · simp [Array.getElem?_eq_none h'] at h1
      have h2 := wpOp_put hoj (hfree j oj hoj hji hjun hnot) (fun cs b => hsel i oi cs b hi) (fun cs b => hsel j oj cs b hoj) hy h1
      have hfree' : ∀ k ok, ops[k]? = some ok → k ≠ i → (listed.setIfInBounds j true).getD k true = false →
          (∀ e ∈ ok.after, Region.binds md e = true → e.on ≠ i) → oi.apart ops ok = true := fun k ok hk hki hun hno => by
        refine hfree k ok hk hki ?_ hno
        by_cases hjk : j = k
        · subst hjk; exact hjun
        · rw [getD_set_ne true hjk] at hun; exact hun
      refine wpOp_mono (fun a' w' h3 => ih (listed.setIfInBounds j true) a' w' hfree' (ready_mono hr (Ne.symm hji)) h3.1 ?_) h2
      rw [Array.setIfInBounds_comm _ _ hji]
      exact h3.2
end

section
variable {C : Cx} {sl : List (Nat × Value)} {own : List Asn} {ops : Array Oper} {Q : Exit → Act → World → Prop}
/-- an operation that yields v whatever the memory is -/
def PY (C : Cx) (sl : List (Nat × Value)) (o : Oper) (v : Value) : Prop := ∀ a w, SimF C sl a → (execOp a.eval o).run C.P w = .ok (.value v) w
theorem opv_evalF {a : Act} (h : SimF C sl a) {x : Operand} {v : Value} (hx : opv ⟨sl, own⟩ x = some v) : a.eval x = v := by
  cases x with
  | tmp t => exact h.slot t v hx
  | const u => simpa [opv, Act.eval] using hx
  | global g => simpa [opv, Act.eval] using hx
  | func f => simpa [opv, Act.eval] using hx
theorem PY.move {dst : Option Nat} {ty : TypeId} {pos : String} {aft : Array Edge} {g : Option (Nat × Bool)} {x : Operand} {v : Value} (hx : opv ⟨sl, []⟩ x = some v) : PY C sl ⟨dst, .move x, ty, pos, aft, g⟩ v :=
  fun a w hs => by simp [execOp, opv_evalF hs hx]
theorem PY.sub {dst : Option Nat} {ty : TypeId} {pos : String} {aft : Array Edge} {g : Option (Nat × Bool)} {x y : Operand} {t t' : TypeId} {m n : Int} (hx : opv ⟨sl, []⟩ x = some (.int .i64 m)) (hy : opv ⟨sl, []⟩ y = some (.int .i64 n)) (h1 : -9223372036854775808 ≤ m - n ∧ m - n ≤ 9223372036854775807) :
    PY C sl ⟨dst, .binOp .sub t x y t', ty, pos, aft, g⟩ (.int .i64 (m - n)) :=
  fun a w hs => by (simp only [execOp, opv_evalF hs hx, opv_evalF hs hy]; simp [go_sem, Op.intArith, wrap_in h1.1 h1.2])

/-- what is left of a region that draws -/
def AnyK (C : Cx) (ops : Array Oper) (Q : Exit → Act → World → Prop) (n : Nat) (listed : Array Bool) : Act → World → Prop := fun a w => wpAny C.P .any ops (Qn Q) n listed a w

theorem AK.any {id : Nat} {l : List Oper} (hm : C.P.follows .mixedOrders = true) (h : AK C ⟨sl, own⟩ (AnyK C l.toArray Q l.length (Array.replicate l.length false))) : AK C ⟨sl, own⟩ ((Code.region id l.toArray true).wp C.P Q) := by
  intro a w hs
  refine wp_region_any hm ?_
  have hp := hs.world.push (w' := { w with drawn := w.drawn + 1 }) (own2 := []) ⟨rfl, rfl, rfl, Nat.le_refl _, fun _ _ _ => rfl⟩ (HeapAt.nil _) (fun _ _ h => h.elim)
  rw [List.append_nil] at hp
  have := wpAny_of_Qn _ _ _ _ (h a _ ⟨hs.size, hs.defers, hs.slot, hp⟩)
  simpa using this

def firstB (ops : Array Oper) (listed : Array Bool) (i : Nat) : Bool := Region.noSelect ops && (Region.ready .any ops listed).contains i && Region.free .any ops listed i
/-- a pure operation may come first -/
theorem AnyK.first (i : Nat) {n : Nat} {listed listed' : Array Bool} {o : Oper} {d : Nat} (v : Value) (hi : ops[i]? = some o) (hB : firstB ops listed i = true) (hl : listed.setIfInBounds i true = listed') (hod : o.dst = some d) (hy : PY C sl o v) (hg : Grd ops sl o.guard) (hd : Nat.blt d C.N = true)
    (h : AK C ⟨(d, v) :: sl, own⟩ (AnyK C ops Q n listed')) : AK C ⟨sl, own⟩ (AnyK C ops Q (n + 1) listed) := by
  intro a w hs
  simp only [firstB, Bool.and_eq_true] at hB
  obtain ⟨⟨hsel, hr⟩, hf⟩ := hB
  refine wpAny_first hi (Region.noSelect_spec hsel) n listed a w (Region.free_spec hi hf) (by simpa using hr) (v := v) (fun w' => .inl ⟨wanted_of_GrdF hs.simF hg, .inl (hy a w' hs.simF)⟩) ?_
  rw [hl, hod]
  exact h _ _ (hs.put (own' := own) hs.world (d := some d) (fun i hi => by cases hi; simpa [Nat.blt_eq] using hd) v)

/-- all that are ready -/
theorem AnyK.all {n : Nat} {listed : Array Bool} (is : List Nat) (hr : Region.ready .any ops listed = is) (hne : is.isEmpty = false)
    (h : ∀ i ∈ is, AK C ⟨sl, own⟩ (fun a w => wpOp C.P ops (Qn Q) i (AnyK C ops Q n (listed.setIfInBounds i true)) a w)) : AK C ⟨sl, own⟩ (AnyK C ops Q (n + 1) listed) := by
  intro a w hs
  refine ⟨fun h0 => ?_, fun i hi => h i (by rw [← hr]; exact hi) a w hs⟩
  rw [hr] at h0; rw [h0] at hne; cases hne

theorem AnyK.one {n : Nat} {listed : Array Bool} {i : Nat} (hr : Region.ready .any ops listed = [i])
    (h : AK C ⟨sl, own⟩ (fun a w => wpOp C.P ops (Qn Q) i (AnyK C ops Q n (listed.setIfInBounds i true)) a w)) : AK C ⟨sl, own⟩ (AnyK C ops Q (n + 1) listed) :=
  AnyK.all [i] hr rfl (fun j hj => by simp at hj; subst hj; exact h)
theorem AnyK.two {n : Nat} {listed : Array Bool} {i j : Nat} (hr : Region.ready .any ops listed = [i, j])
    (h : AK C ⟨sl, own⟩ (fun a w => wpOp C.P ops (Qn Q) i (AnyK C ops Q n (listed.setIfInBounds i true)) a w)) (h' : AK C ⟨sl, own⟩ (fun a w => wpOp C.P ops (Qn Q) j (AnyK C ops Q n (listed.setIfInBounds j true)) a w)) : AK C ⟨sl, own⟩ (AnyK C ops Q (n + 1) listed) :=
  AnyK.all [i, j] hr rfl (fun k hk => by simp at hk; rcases hk with rfl | rfl; exact h; exact h')

/-- one operation that reads -/
theorem AnyK.val {i : Nat} {o : Oper} {d : Nat} {K : Act → World → Prop} (v : Value) (hi : ops[i]? = some o) (hod : o.dst = some d) (hy : Yl C ⟨sl, own⟩ o v) (hg : Grd ops sl o.guard) (hd : Nat.blt d C.N = true)
    (h : AK C ⟨(d, v) :: sl, own⟩ K) : AK C ⟨sl, own⟩ (fun a w => wpOp C.P ops (Qn Q) i K a w) := by
  intro a w hs
  have hyy : YieldsAt C.P ops w o v a := .inl ⟨wanted_of_Grd hs hg, .inl (hy a w hs)⟩
  refine wpOp_of_stOp (K := fun a' => K a' w) (fun _ h => h) (hyy.stOp hi ?_)
  rw [hod]
  exact h _ _ (hs.put (own' := own) hs.world (d := some d) (fun i hi => by cases hi; simpa [Nat.blt_eq] using hd) v)

/-- the rest in order -/
theorem AnyK.seq (k : Nat) {l : List Oper} {n : Nat} {listed : Array Bool} (hn : (l.drop k).length = n) (hB : Region.seqB .any l.toArray n k listed = true)
    (h : AK C ⟨sl, own⟩ (wpList C.P l.toArray (Qn Q) (l.drop k))) : AK C ⟨sl, own⟩ (AnyK C l.toArray Q n listed) := by
  intro a w hs
  subst hn
  exact wpAny_of_seq (l.drop k) k listed a w (fun j => by simp [List.getElem?_drop]) hB (h a w hs)
theorem AK.fromQn (h : AK C ⟨sl, own⟩ (fun a w => Q .normal a w)) : AK C ⟨sl, own⟩ (fun a w => Qn Q .normal a w) := fun a w hs => ⟨rfl, h a w hs⟩
end
end Go.Sx
