import Derived.Test.YtoikhoniogicdaaSr
import Derived.OrdersHeld
set_option linter.unusedVariables false
set_option linter.unusedSimpArgs false
namespace Go.Sx
open Go.RowKit
/-! ### regions that draw: reading operations first, the others in every order that is left -/
def waitsD (ops : Array Oper) (j i : Nat) : Bool := match ops[j]? with
  | none => false
  | some o => o.after.any fun e => Region.binds .any e && (e.on == i)
def waitsT (ops : Array Oper) : Nat → Nat → Nat → Bool
  | 0, _, _ => false
  | f + 1, n, i => waitsD ops n i || (List.range n).any fun b => decide (i < b) && (waitsD ops b i && waitsT ops f n b)
def DepsIn (ops : Array Oper) (listed : Array Bool) (k : Nat) : Prop := ∀ o, ops[k]? = some o → ∀ e ∈ o.after, Region.binds .any e = true → listed.getD e.on false = true
def Closed (ops : Array Oper) (listed : Array Bool) : Prop := listed.size = ops.size ∧ ∀ k, listed.getD k false = true → DepsIn ops listed k
def closedB (ops : Array Oper) (listed : Array Bool) : Bool := (listed.size == ops.size) && (List.range ops.size).all fun k => !listed.getD k false || ((ops[k]?).map fun o => o.after.all fun e => !Region.binds .any e || listed.getD e.on false).getD true
theorem closedB_spec {ops : Array Oper} {listed : Array Bool} (h : closedB ops listed = true) : Closed ops listed := by
  simp only [closedB, Bool.and_eq_true, beq_iff_eq, List.all_eq_true, List.mem_range] at h
  refine ⟨h.1, fun k hk o ho e he hb => ?_⟩
  have hlt : k < ops.size := (Array.getElem?_eq_some_iff.1 ho).1
  have := h.2 k hlt
  simp only [hk, ho, Bool.not_true, Bool.false_or, Option.map_some, Option.getD_some, ← Array.all_toList, List.all_eq_true] at this
  have := this e (by simpa using he)
  simpa [hb] using this
theorem waitsD_spec {ops : Array Oper} {listed : Array Bool} {j i : Nat} (h : waitsD ops j i = true) (hd : DepsIn ops listed j) : listed.getD i false = true := by
  unfold waitsD at h
  split at h
  · cases h
  · rename_i o ho
    simp only [← Array.any_toList, List.any_eq_true] at h
    obtain ⟨e, he, h⟩ := h
    have he : e ∈ o.after := by simpa using he
    simp only [Bool.and_eq_true, beq_iff_eq] at h
    rw [← h.2]
    exact hd o ho e he h.1
theorem waitsT_spec {ops : Array Oper} {listed : Array Bool} (hc : Closed ops listed) {n : Nat} (hd : DepsIn ops listed n) : ∀ (f i : Nat), waitsT ops f n i = true → listed.getD i false = true
  | 0, i, h => by cases h
  | f + 1, i, h => by
    simp only [waitsT, Bool.or_eq_true, List.any_eq_true, Bool.and_eq_true] at h
    rcases h with h | ⟨b, _, _, h1, h2⟩
    · exact waitsD_spec h hd
    · exact waitsD_spec h1 (hc.2 b (waitsT_spec hc hd f b h2))
theorem ready_deps {ops : Array Oper} {listed : Array Bool} {j : Nat} (h : j ∈ Region.ready .any ops listed) : DepsIn ops listed j ∧ j < ops.size ∧ listed.getD j true = false := by
  obtain ⟨h1, o, ho, h2⟩ := mem_ready.1 h
  refine ⟨fun o' ho' e he hb => ?_, (Array.getElem?_eq_some_iff.1 ho).1, h1⟩
  rw [ho] at ho'
  cases ho'
  exact h2 e he hb
theorem Closed.set {ops : Array Oper} {listed : Array Bool} (h : Closed ops listed) {j : Nat} (hj : j ∈ Region.ready .any ops listed) : Closed ops (listed.setIfInBounds j true) := by
  have hup : ∀ k, listed.getD k false = true → (listed.setIfInBounds j true).getD k false = true := fun k hk => by
    by_cases e : j = k
    · subst e
      have : j < listed.size := by rw [h.1]; exact (ready_deps hj).2.1
      simp [this]
    · rw [getD_set_ne false e]; exact hk
  refine ⟨by simp [h.1], fun k hk o ho e he hb => ?_⟩
  by_cases hkj : j = k
  · subst hkj; exact hup _ ((ready_deps hj).1 o ho e he hb)
  · rw [getD_set_ne false hkj] at hk; exact hup _ (h.2 k hk o ho e he hb)

/-- whatever order is picked, and S holds behind each operation as long as number n has not come -/
def wpAnyN (P : Program) (ops : Array Oper) (Q : Exit → Act → World → Prop) (S : World → Prop) (n : Nat) : Nat → Array Bool → Act → World → Prop
  | 0, listed, a, w => Region.ready .any ops listed = [] ∧ Q .normal a w
  | fuel + 1, listed, a, w =>
    (Region.ready .any ops listed = [] → Q .normal a w) ∧
    ∀ i ∈ Region.ready .any ops listed, wpOp P ops Q i (fun a' w' => ((listed.setIfInBounds i true).getD n false = false → S w') ∧ wpAnyN P ops Q S n fuel (listed.setIfInBounds i true) a' w') a w

section
variable {P : Program} {ops : Array Oper} {Q : Exit → Act → World → Prop} {S : World → Prop} {n : Nat}
theorem wpAny_of_N : ∀ (fuel : Nat) (listed : Array Bool) (a : Act) (w : World), wpAnyN P ops Q S n fuel listed a w → wpAny P .any ops Q fuel listed a w
  | 0, _, _, _, h => h
  | fuel + 1, _, _, _, h => ⟨h.1, fun i hi => wpOp_mono (fun a' w' h' => wpAny_of_N fuel _ a' w' h'.2) (h.2 i hi)⟩
theorem wpAnyN_mono {S' : World → Prop} (hS : ∀ w, S w → S' w) : ∀ (fuel : Nat) (listed : Array Bool) (a : Act) (w : World), wpAnyN P ops Q S n fuel listed a w → wpAnyN P ops Q S' n fuel listed a w
  | 0, _, _, _, h => h
  | fuel + 1, _, _, _, h => ⟨h.1, fun i hi => wpOp_mono (fun a' w' h' => ⟨fun e => hS _ (h'.1 e), wpAnyN_mono hS fuel _ a' w' h'.2⟩) (h.2 i hi)⟩
theorem set_still {listed : Array Bool} {n i : Nat} (h : listed.getD n false = true) : (listed.setIfInBounds i true).getD n false = true := by
  by_cases e : i = n
  · subst e
    by_cases hl : i < listed.size
    · simp [hl]
    · simp [hl] at h
  · rw [getD_set_ne false e]; exact h
theorem wpAnyN_of_any : ∀ (fuel : Nat) (listed : Array Bool) (a : Act) (w : World), listed.getD n false = true → wpAny P .any ops Q fuel listed a w → wpAnyN P ops Q S n fuel listed a w
  | 0, _, _, _, _, h => h
  | fuel + 1, _, _, _, hn, h => ⟨h.1, fun i hi => wpOp_mono (fun a' w' h' => ⟨fun e => by rw [set_still hn] at e; (cases e), wpAnyN_of_any fuel _ a' w' (set_still hn) h'⟩) (h.2 i hi)⟩

theorem wpAnyN_first {i : Nat} {oi : Oper} {v : Value} (hi : ops[i]? = some oi) (hsel : ∀ (j : Nat) (o : Oper) cs b, ops[j]? = some o → o.op ≠ .select cs b)
    (hQ : ∀ c a w, Q (.panic c) (a.put oi.dst v) w → Q (.panic c) a w) (hn : n = ops.size ∨ ∃ f, waitsT ops f n i = true) :
    ∀ (fuel : Nat) (listed : Array Bool) (a : Act) (w : World), Closed ops listed →
      (∀ j oj, ops[j]? = some oj → j ≠ i → listed.getD j true = false → (∀ e ∈ oj.after, Region.binds .any e = true → e.on ≠ i) → oi.apart ops oj = true) →
      i ∈ Region.ready .any ops listed → YieldsIf P ops S oi v a → S w →
      wpAnyN P ops Q S n fuel (listed.setIfInBounds i true) (a.put oi.dst v) w → wpAnyN P ops Q S n (fuel + 1) listed a w := by
  have hnn : ∀ listed : Array Bool, Closed ops listed → i ∈ Region.ready .any ops listed → (n ∈ Region.ready .any ops listed → False) ∧ listed.getD n false = false := fun listed hc hr => by
    have hil : listed.getD i false = false := by
      have := (ready_deps hr).2.2
      cases h : listed.getD i false with
      | false => rfl
      | true =>
        have hlt : i < listed.size := by
          rcases Nat.lt_or_ge i listed.size with h' | h'
          · exact h'
          · simp [Array.getElem?_eq_none h'] at h
        simp [hlt] at h this
        rw [h] at this; cases this
    rcases hn with rfl | ⟨f, hf⟩
    · refine ⟨fun h => ?_, ?_⟩
      · have := (ready_deps h).2.1; omega
      · simp [Array.getElem?_eq_none (show listed.size ≤ ops.size by rw [hc.1]; exact Nat.le_refl _)]
    · refine ⟨fun h => ?_, ?_⟩
      · have := waitsT_spec hc (ready_deps h).1 f i hf
        rw [hil] at this; cases this
      · cases h : listed.getD n false with
        | false => rfl
        | true =>
          have := waitsT_spec hc (hc.2 n h) f i hf
          rw [hil] at this; cases this
  intro fuel
  induction fuel with
  | zero =>
    intro listed a w hc _ hr hy hS H
    refine ⟨fun h => (by rw [h] at hr; cases hr), fun j hj => ?_⟩
    by_cases hji : j = i
    · subst hji; exact hy.wpOp hi hS ⟨fun _ => hS, H⟩
    · have := ready_mono hj hji
      rw [H.1] at this
      cases this
  | succ fuel ih =>
    intro listed a w hc hfree hr hy hS H
    refine ⟨fun h => (by rw [h] at hr; cases hr), fun j hj => ?_⟩
    by_cases hji : j = i
    · subst hji; exact hy.wpOp hi hS ⟨fun _ => hS, H⟩
    · have h1 := H.2 j (ready_mono hj hji)
      obtain ⟨hjun, oj, hoj, hall⟩ := mem_ready.1 hj
      have hnot : ∀ e ∈ oj.after, Region.binds .any e = true → e.on ≠ i := fun e he hb heq => by
        have h1 := hall e he hb
        have h0 := (mem_ready.1 hr).1
        rw [heq] at h1
        rcases Nat.lt_or_ge i listed.size with h' | h'
        · simp [h'] at h0 h1; rw [h0] at h1; cases h1
        · simp [Array.getElem?_eq_none h'] at h1
      have h2 := wpOp_putIf hoj (hfree j oj hoj hji hjun hnot) (fun cs b => hsel i oi cs b hi) (fun cs b => hsel j oj cs b hoj) hQ hy h1
      have hfree' : ∀ k ok, ops[k]? = some ok → k ≠ i → (listed.setIfInBounds j true).getD k true = false →
          (∀ e ∈ ok.after, Region.binds .any e = true → e.on ≠ i) → oi.apart ops ok = true := fun k ok hk hki hun hno => by
        refine hfree k ok hk hki ?_ hno
        by_cases hjk : j = k
        · subst hjk; exact hjun
        · rw [getD_set_ne true hjk] at hun; exact hun
      obtain ⟨hnr, hnl⟩ := hnn listed hc hr
      have hni : i ≠ n := fun e => hnr (e ▸ hr)
      have hnj : j ≠ n := fun e => hnr (e ▸ hj)
      have hset : ∀ i', i' ≠ n → ∀ l : Array Bool, l.getD n false = false → (l.setIfInBounds i' true).getD n false = false := fun i' h l hl => by rw [getD_set_ne false h]; exact hl
      refine wpOp_mono (fun a' w' h3 => ?_) h2
      have hS' := h3.2.1 (hset j hnj _ (hset i hni _ hnl))
      refine ⟨fun _ => hS', ih (listed.setIfInBounds j true) a' w' (hc.set hj) hfree' (ready_mono hr (Ne.symm hji)) h3.1 hS' ?_⟩
      rw [Array.setIfInBounds_comm _ _ hji]
      exact h3.2.2

theorem wp_anyQ {Q Q' : Exit → Act → World → Prop} {o : Oper} {a : Act} {w : World} {K : Act → World → Prop} (h : o.wp P a w K (Qn Q)) : o.wp P a w K Q' := by
  unfold Oper.wp at *
  generalize (execOp a.eval o).run P w = r at *
  cases r with
  | ok n w' =>
    cases n <;> simp only [Oper.upon] at h ⊢ <;>
      first
        | exact h
        | exact Calls.mono h (fun e w'' he => by
            cases e
            · exact he
            · exact absurd he.1 (by simp)
            · exact absurd he Qn_out)
  | halt x w' => cases x <;> simp only [Oper.upon] at h ⊢ <;> exact absurd h.1 (by simp)

/-- one operation, by the rules of a plain region -/
theorem wpOp_of_list {i : Nat} {o : Oper} {K : Act → World → Prop} {a : Act} {w : World} (hi : ops[i]? = some o) (h : wpList P ops (Qn fun _ a w => K a w) [o] a w) : wpOp P ops Q i K a w := by
  unfold wpOp
  simp only [hi]
  unfold wpList at h
  split
  · rename_i hw
    simp only [hw, if_true] at h
    rcases h with h | h
    · exact .inl (wp_anyQ (Oper.wp_mono (fun a w (h : wpList P ops (Qn fun _ a w => K a w) [] a w) => h.2) h))
    · exact absurd h.2 Qn_out
  · rename_i hw
    simp only [hw] at h
    exact h.2
end

/-- an assertion that says less -/
def Ale (A B : Asn) : Prop := ∀ w F, B.holds w F → ∃ G, (∀ b, G b → F b) ∧ A.holds w G
theorem Ale.rfl {A : Asn} : Ale A A := fun _ F h => ⟨F, fun _ h => h, h⟩
/-- a row, and the same row grown: both are there -/
def row2 (v v' : Value) (E : TypeId) (sz n m : Nat) (cs cs' : List Value) : Asn where
  holds w F := ∃ F1 F2, (row v E sz n cs).holds w F1 ∧ (row v' E sz m cs').holds w F2 ∧ ∀ b, F b ↔ (F1 b ∨ F2 b)
  loc := by
    rintro w w' F ⟨F1, F2, h1, h2, hF⟩ hb
    exact ⟨F1, F2, (row v E sz n cs).loc w w' F1 h1 (fun b h => hb b ((hF b).2 (.inl h))), (row v' E sz m cs').loc w w' F2 h2 (fun b h => hb b ((hF b).2 (.inr h))), hF⟩
  lt := by
    rintro w F ⟨F1, F2, h1, h2, hF⟩ b hb
    rcases (hF b).1 hb with h | h
    · exact (row v E sz n cs).lt w F1 h1 b h
    · exact (row v' E sz m cs').lt w F2 h2 b h
theorem Ale.fst {v v' : Value} {E : TypeId} {sz n m : Nat} {cs cs' : List Value} : Ale (row v E sz n cs) (row2 v v' E sz n m cs cs') := fun w F ⟨F1, F2, h1, h2, hF⟩ => ⟨F1, fun b h => (hF b).2 (.inl h), h1⟩
theorem Ale.snd {v v' : Value} {E : TypeId} {sz n m : Nat} {cs cs' : List Value} : Ale (row v' E sz m cs') (row2 v v' E sz n m cs cs') := fun w F ⟨F1, F2, h1, h2, hF⟩ => ⟨F2, fun b h => (hF b).2 (.inr h), h2⟩

/-- some of what is owned, each perhaps less -/
inductive PickLe (own1 : List Asn) : List Asn → List Nat → Prop
  | nil : PickLe own1 [] []
  | cons {A B : Asn} {L : List Asn} {σ : List Nat} {i : Nat} : own1[i]? = some B → Ale A B → PickLe own1 L σ → PickLe own1 (A :: L) (i :: σ)
theorem PickLe.get {own1 L : List Asn} {σ : List Nat} (h : PickLe own1 L σ) : L.length = σ.length ∧ ∀ (k : Nat) (A : Asn), L[k]? = some A → ∃ i B, σ[k]? = some i ∧ own1[i]? = some B ∧ Ale A B := by
  induction h with
  | nil => exact ⟨rfl, fun k A h => by simp at h⟩
  | cons h1 h2 h3 ih =>
    refine ⟨by simp [ih.1], fun k A hk => ?_⟩
    cases k with
    | zero => simp at hk; subst hk; exact ⟨_, _, rfl, h1, h2⟩
    | succ k => simpa using ih.2 k A (by simpa using hk)
theorem HW.pickLe {C : Cx} {own1 L : List Asn} {w : World} (σ : List Nat) (hn : σ.Nodup) (h : PickLe own1 L σ) (hw : HW C own1 w) : HW C L w := by
  obtain ⟨hl, hg⟩ := h.get
  obtain ⟨hf, Fs, hh, hal⟩ := hw
  have hch : ∀ k : Nat, ∃ G : Nat → Prop, (∀ A, L[k]? = some A → ∃ i, σ[k]? = some i ∧ (∀ b, G b → Fs i b) ∧ A.holds w G) ∧ (L[k]? = none → ∀ b, ¬ G b) := fun k => by
    cases hk : L[k]? with
    | none => exact ⟨fun _ => False, fun A h => (by cases h), fun _ _ h => h⟩
    | some A =>
      obtain ⟨i, B, h1, h2, h3⟩ := hg k A hk
      obtain ⟨G, h4, h5⟩ := h3 w (Fs i) (hh.at_ i B h2)
      exact ⟨G, fun A' h' => by cases h'; exact ⟨i, h1, h4, h5⟩, fun h => by cases h⟩
  refine ⟨hf, fun k => (hch k).choose, ⟨?_, ?_, ?_⟩, ?_⟩
  · intro k A hk
    obtain ⟨_, _, _, h⟩ := (hch k).choose_spec.1 A hk
    exact h
  · intro k hk
    exact (hch k).choose_spec.2 (List.getElem?_eq_none hk)
  · intro k j b h1 h2
    have inL : ∀ k b, (hch k).choose b → ∃ i, σ[k]? = some i ∧ Fs i b := fun k b hb => by
      cases hk : L[k]? with
      | none => exact ((hch k).choose_spec.2 hk b hb).elim
      | some A =>
        obtain ⟨i, e, e2, _⟩ := (hch k).choose_spec.1 A hk
        exact ⟨i, e, e2 b hb⟩
    obtain ⟨i, e1, f1⟩ := inL k b h1
    obtain ⟨i', e2, f2⟩ := inL j b h2
    have := hh.apart i i' b f1 f2
    subst this
    obtain ⟨h1, h2⟩ := List.getElem?_eq_some_iff.1 e1
    obtain ⟨h3, h4⟩ := List.getElem?_eq_some_iff.1 e2
    rcases Nat.lt_trichotomy k j with hlt | heq | hlt
    · exact absurd (h2.trans h4.symm) (List.pairwise_iff_getElem.1 hn k j h1 h3 hlt)
    · exact heq
    · exact absurd (h4.trans h2.symm) (List.pairwise_iff_getElem.1 hn j k h3 h1 hlt)
  · intro k b hb
    cases hk : L[k]? with
    | none => exact ((hch k).choose_spec.2 hk b hb).elim
    | some A =>
      obtain ⟨i, e, e2, _⟩ := (hch k).choose_spec.1 A hk
      exact hal i b (e2 b hb)
inductive HWle : List Asn → List Asn → Prop
  | nil {l : List Asn} : HWle [] l
  | cons {A B : Asn} {l l' : List Asn} : Ale A B → HWle l l' → HWle (A :: l) (B :: l')
theorem HWle.pick {own own1 : List Asn} (h : HWle own own1) : ∀ (pre : List Asn), PickLe (pre ++ own1) own (List.range' pre.length own.length) := by
  induction h with
  | nil => intro pre; exact .nil
  | @cons A B l l' h1 h2 ih =>
    intro pre
    have := ih (pre ++ [B])
    refine .cons (B := B) (by simp) h1 ?_
    simpa using this
theorem HWle.hw {C : Cx} {own own1 : List Asn} (h : HWle own own1) {w : World} (hw : HW C own1 w) : HW C own w :=
  HW.pickLe (List.range' 0 own.length) List.nodup_range' (by simpa using h.pick []) hw

section
variable {C : Cx} {sl : List (Nat × Value)} {own : List Asn} {ops : Array Oper} {Q : Exit → Act → World → Prop} {n : Nat}
/-- what is left of a region that draws; what is owned stays as it is until number n comes -/
def HeldK (C : Cx) (ops : Array Oper) (Q : Exit → Act → World → Prop) (own : List Asn) (n fuel : Nat) (listed : Array Bool) : Act → World → Prop := fun a w => wpAnyN C.P ops (Qn Q) (HW C own) n fuel listed a w

theorem AK.held (n : Nat) {id : Nat} {l : List Oper} (hm : C.P.follows .mixedOrders = true) (h : AK C ⟨sl, own⟩ (HeldK C l.toArray Q own n l.length (Array.replicate l.length false))) : AK C ⟨sl, own⟩ ((Code.region id l.toArray true).wp C.P Q) := by
  intro a w hs
  refine wp_region_any hm ?_
  have hp := hs.world.push (w' := { w with drawn := w.drawn + 1 }) (own2 := []) ⟨rfl, rfl, rfl, Nat.le_refl _, fun _ _ _ => rfl⟩ (HeapAt.nil _) (fun _ _ h => h.elim)
  rw [List.append_nil] at hp
  have := wpAny_of_Qn _ _ _ _ (wpAny_of_N _ _ _ _ (h a _ ⟨hs.size, hs.defers, hs.slot, hp⟩))
  simpa using this

def heldB (ops : Array Oper) (listed : Array Bool) (n i : Nat) : Bool :=
  Region.noSelect ops && ((Region.ready .any ops listed).contains i && (Region.free .any ops listed i && (closedB ops listed && (n == ops.size || waitsT ops ops.size n i))))
theorem HeldK.firstY (i : Nat) {fuel : Nat} {listed listed' : Array Bool} {o : Oper} {d : Nat} (v : Value) (hi : ops[i]? = some o) (hB : heldB ops listed n i = true) (hl : listed.setIfInBounds i true = listed') (hod : o.dst = some d)
    (hy : ∀ a, SimF C sl a → YieldsIf C.P ops (HW C own) o v a) (hd : Nat.blt d C.N = true)
    (h : AK C ⟨(d, v) :: sl, own⟩ (HeldK C ops Q own n fuel listed')) : AK C ⟨sl, own⟩ (HeldK C ops Q own n (fuel + 1) listed) := by
  intro a w hs
  simp only [heldB, Bool.and_eq_true, Bool.or_eq_true, beq_iff_eq] at hB
  obtain ⟨hsel, hr, hf, hc, hn⟩ := hB
  refine wpAnyN_first hi (Region.noSelect_spec hsel) (fun c a w hq => absurd hq.1 (by simp)) (hn.imp id fun h => ⟨_, h⟩) fuel listed a w (closedB_spec hc) (Region.free_spec hi hf) (by simpa using hr) (hy a hs.simF) hs.world ?_
  rw [hl, hod]
  exact h _ _ (hs.put (own' := own) hs.world (d := some d) (fun i hi => by cases hi; simpa [Nat.blt_eq] using hd) v)
theorem HeldK.first (i : Nat) {fuel : Nat} {listed listed' : Array Bool} {o : Oper} {d : Nat} (v : Value) (hi : ops[i]? = some o) (hB : heldB ops listed n i = true) (hl : listed.setIfInBounds i true = listed') (hod : o.dst = some d)
    (hy : Yl C ⟨sl, own⟩ o v) (hg : Grd ops sl o.guard) (hd : Nat.blt d C.N = true)
    (h : AK C ⟨(d, v) :: sl, own⟩ (HeldK C ops Q own n fuel listed')) : AK C ⟨sl, own⟩ (HeldK C ops Q own n (fuel + 1) listed) :=
  HeldK.firstY i v hi hB hl hod (fun a hs => .inl ⟨wanted_of_GrdF hs hg, fun w hw => hy a w (hs.sim hw)⟩) hd h
theorem HeldK.pass (i : Nat) {fuel : Nat} {listed listed' : Array Bool} {d : Nat} {op : Op} {ty : TypeId} {pos : String} {aft : Array Edge} {j : Nat} {want : Bool} {gd : Nat} {gv : Value} (hi : ops[i]? = some ⟨some d, op, ty, pos, aft, some (j, want)⟩) (hB : heldB ops listed n i = true) (hl : listed.setIfInBounds i true = listed')
    (h1 : (ops[j]?).bind (·.dst) = some gd) (h2 : get sl gd = some gv) (h3 : NotB gv want) (hd : Nat.blt d C.N = true)
    (h : AK C ⟨(d, undef) :: sl, own⟩ (HeldK C ops Q own n fuel listed')) : AK C ⟨sl, own⟩ (HeldK C ops Q own n (fuel + 1) listed) :=
  HeldK.firstY i undef hi hB hl rfl (fun a hs => .inr ⟨unwanted_of hs h1 h2 h3, rfl⟩) hd h
theorem HeldK.all {oS : List Asn} {fuel : Nat} {listed : Array Bool} (is : List Nat) (hr : Region.ready .any ops listed = is) (hne : is.isEmpty = false)
    (h : ∀ i ∈ is, AK C ⟨sl, own⟩ (fun a w => wpOp C.P ops (Qn Q) i (fun a' w' => ((listed.setIfInBounds i true).getD n false = false → HW C oS w') ∧ HeldK C ops Q oS n fuel (listed.setIfInBounds i true) a' w') a w)) : AK C ⟨sl, own⟩ (HeldK C ops Q oS n (fuel + 1) listed) := by
  intro a w hs
  refine ⟨fun h0 => ?_, fun i hi => h i (by rw [← hr]; exact hi) a w hs⟩
  rw [hr] at h0; rw [h0] at hne; cases hne
/-- what comes behind one operation -/
def HNext (C : Cx) (ops : Array Oper) (Q : Exit → Act → World → Prop) (oS : List Asn) (n fuel : Nat) (listed : Array Bool) : Act → World → Prop := fun a w => (listed.getD n false = false → HW C oS w) ∧ HeldK C ops Q oS n fuel listed a w
/-- one operation alone is ready -/
theorem HeldK.one {oS : List Asn} (i : Nat) {fuel : Nat} {listed listed' : Array Bool} {o : Oper} (hr : Region.ready .any ops listed = [i]) (hi : ops[i]? = some o) (hl : listed.setIfInBounds i true = listed')
    (h : AK C ⟨sl, own⟩ (wpList C.P ops (Qn fun _ => HNext C ops Q oS n fuel listed') [o])) : AK C ⟨sl, own⟩ (HeldK C ops Q oS n (fuel + 1) listed) :=
  HeldK.all [i] hr rfl (fun j hj => by simp at hj; subst hj; exact fun a w hs => wpOp_of_list hi (by rw [hl]; exact h a w hs))
theorem HeldK.two {oS : List Asn} (i j : Nat) {fuel : Nat} {listed listed1 listed2 : Array Bool} {o o' : Oper} (hr : Region.ready .any ops listed = [i, j]) (hi : ops[i]? = some o) (hj : ops[j]? = some o') (hl : listed.setIfInBounds i true = listed1) (hl' : listed.setIfInBounds j true = listed2)
    (h : AK C ⟨sl, own⟩ (wpList C.P ops (Qn fun _ => HNext C ops Q oS n fuel listed1) [o])) (h' : AK C ⟨sl, own⟩ (wpList C.P ops (Qn fun _ => HNext C ops Q oS n fuel listed2) [o'])) : AK C ⟨sl, own⟩ (HeldK C ops Q oS n (fuel + 1) listed) :=
  HeldK.all [i, j] hr rfl (fun k hk => by
    simp at hk
    rcases hk with rfl | rfl
    · exact fun a w hs => wpOp_of_list hi (by rw [hl]; exact h a w hs)
    · exact fun a w hs => wpOp_of_list hj (by rw [hl']; exact h' a w hs))
theorem HeldK.three {oS : List Asn} (i j k : Nat) {fuel : Nat} {listed listed1 listed2 listed3 : Array Bool} {o o' o'' : Oper} (hr : Region.ready .any ops listed = [i, j, k]) (hi : ops[i]? = some o) (hj : ops[j]? = some o') (hk : ops[k]? = some o'') (hl : listed.setIfInBounds i true = listed1) (hl' : listed.setIfInBounds j true = listed2) (hl'' : listed.setIfInBounds k true = listed3)
    (h : AK C ⟨sl, own⟩ (wpList C.P ops (Qn fun _ => HNext C ops Q oS n fuel listed1) [o])) (h' : AK C ⟨sl, own⟩ (wpList C.P ops (Qn fun _ => HNext C ops Q oS n fuel listed2) [o'])) (h'' : AK C ⟨sl, own⟩ (wpList C.P ops (Qn fun _ => HNext C ops Q oS n fuel listed3) [o''])) : AK C ⟨sl, own⟩ (HeldK C ops Q oS n (fuel + 1) listed) :=
  HeldK.all [i, j, k] hr rfl (fun m hm => by
    simp at hm
    rcases hm with rfl | rfl | rfl
    · exact fun a w hs => wpOp_of_list hi (by rw [hl]; exact h a w hs)
    · exact fun a w hs => wpOp_of_list hj (by rw [hl']; exact h' a w hs)
    · exact fun a w hs => wpOp_of_list hk (by rw [hl'']; exact h'' a w hs))
/-- and on: the old is still there -/
theorem HeldK.back {own1 : List Asn} {fuel : Nat} {listed : Array Bool} (hle : HWle own own1) (h : AK C ⟨sl, own1⟩ (HeldK C ops Q own1 n fuel listed)) : AK C ⟨sl, own1⟩ (fun a w => (Qn fun _ => HNext C ops Q own n fuel listed) .normal a w) :=
  fun a w hs => ⟨rfl, fun _ => hle.hw hs.world, wpAnyN_mono (fun w hw => hle.hw hw) _ _ _ _ (h a w hs)⟩
/-- number n has come: the rest in order -/
theorem HeldK.backN (k : Nat) {own1 : List Asn} {fuel : Nat} {l : List Oper} {listed : Array Bool} (hl : listed.getD n false = true) (hn : (l.drop k).length = fuel) (hB : Region.seqB .any l.toArray fuel k listed = true) (h : AK C ⟨sl, own1⟩ (wpList C.P l.toArray (Qn Q) (l.drop k))) :
    AK C ⟨sl, own1⟩ (fun a w => (Qn fun _ => HNext C l.toArray Q own n fuel listed) .normal a w) :=
  fun a w hs => ⟨rfl, fun e => (by rw [hl] at e; cases e), wpAnyN_of_any _ _ _ _ hl (by subst hn; exact wpAny_of_seq (l.drop k) k listed a w (fun j => by simp [List.getElem?_drop]) hB (h a w hs))⟩
/-- the rest in order; nothing more is read -/
theorem HeldK.done {oS : List Asn} {fuel : Nat} {listed : Array Bool} (hr : Region.ready .any ops listed = []) (h : AK C ⟨sl, own⟩ (Q .normal)) : AK C ⟨sl, own⟩ (HeldK C ops Q oS n fuel listed) := by
  intro a w hs
  cases fuel with
  | zero => exact ⟨hr, rfl, h a w hs⟩
  | succ f => exact ⟨fun _ => ⟨rfl, h a w hs⟩, by rw [hr]; simp⟩

/-- the same, where only a part of what is owned is kept in sight -/
theorem AK.heldS (oS : List Asn) (n : Nat) {id : Nat} {l : List Oper} (hle : ∀ w, HW C own w → HW C oS w) (hm : C.P.follows .mixedOrders = true) (h : AK C ⟨sl, own⟩ (HeldK C l.toArray Q oS n l.length (Array.replicate l.length false))) : AK C ⟨sl, own⟩ ((Code.region id l.toArray true).wp C.P Q) := by
  intro a w hs
  refine wp_region_any hm ?_
  have hp := hs.world.push (w' := { w with drawn := w.drawn + 1 }) (own2 := []) ⟨rfl, rfl, rfl, Nat.le_refl _, fun _ _ _ => rfl⟩ (HeapAt.nil _) (fun _ _ h => h.elim)
  rw [List.append_nil] at hp
  have := wpAny_of_Qn _ _ _ _ (wpAny_of_N _ _ _ _ (h a _ ⟨hs.size, hs.defers, hs.slot, hp⟩))
  simpa using this
theorem HeldK.firstS {oS : List Asn} (hle : ∀ w, HW C own w → HW C oS w) (i : Nat) {fuel : Nat} {listed listed' : Array Bool} {o : Oper} {d : Nat} (v : Value) (hi : ops[i]? = some o) (hB : heldB ops listed n i = true) (hl : listed.setIfInBounds i true = listed') (hod : o.dst = some d)
    (hy : Yl C ⟨sl, oS⟩ o v) (hg : Grd ops sl o.guard) (hd : Nat.blt d C.N = true)
    (h : AK C ⟨(d, v) :: sl, own⟩ (HeldK C ops Q oS n fuel listed')) : AK C ⟨sl, own⟩ (HeldK C ops Q oS n (fuel + 1) listed) := by
  intro a w hs
  simp only [heldB, Bool.and_eq_true, Bool.or_eq_true, beq_iff_eq] at hB
  obtain ⟨hsel, hr, hf, hc, hn⟩ := hB
  refine wpAnyN_first hi (Region.noSelect_spec hsel) (fun c a w hq => absurd hq.1 (by simp)) (hn.imp id fun h => ⟨_, h⟩) fuel listed a w (closedB_spec hc) (Region.free_spec hi hf) (by simpa using hr)
    (.inl ⟨wanted_of_GrdF hs.simF hg, fun w hw => hy a w (hs.simF.sim hw)⟩) (hle w hs.world) ?_
  rw [hl, hod]
  exact h _ _ (hs.put (own' := own) hs.world (d := some d) (fun i hi => by cases hi; simpa [Nat.blt_eq] using hd) v)
theorem HeldK.backS {oS own1 : List Asn} {fuel : Nat} {listed : Array Bool} (hle : ∀ w, HW C own1 w → HW C oS w) (h : AK C ⟨sl, own1⟩ (HeldK C ops Q oS n fuel listed)) : AK C ⟨sl, own1⟩ (fun a w => (Qn fun _ => HNext C ops Q oS n fuel listed) .normal a w) :=
  fun a w hs => ⟨rfl, fun _ => hle _ hs.world, h a w hs⟩

/-- several ways meet behind a region -/
theorem AK.joinR {id : Nat} {l : Array Oper} {dr : Bool} {X : Type} (ks : List Nat) (ch : X → List (Nat × Value)) (ow : X → List Asn) (good : X → Prop)
    (main : ∀ Q' : Exit → Act → World → Prop, (∀ sl' own' x, good x → SlLe sl' (ch x ++ keep ks sl) → (∀ w, HW C own' w → HW C (ow x) w) → AK C ⟨sl', own'⟩ (Q' .normal)) → AK C ⟨sl, own⟩ ((Code.region id l dr).wp C.P Q'))
    (h : ∀ x, good x → AK C ⟨ch x ++ keep ks sl, ow x⟩ (Q .normal)) : AK C ⟨sl, own⟩ ((Code.region id l dr).wp C.P Q) :=
  main Q (fun sl' own' x hg h1 h2 => AK.weakenS h1 h2 (h x hg))
end

/-! ### append that keeps the old row in sight -/
theorem run_append_at2 {P : Program} (w : World) (t ty e : TypeId) (i : TypeInfo) (z : Value) (size bytes : Nat) (ht : P.underlying t = some (.slice e)) (hi : P.info? e = some i) (hz : i.zero = some z)
    (hsize : i.size = size) (hby : i.bytes = bytes) (hzs : z.cells.size = size) (hsz : 0 < size)
    (v : Value) (n : Nat) (xs : List Value) (hown : w.ownsRow 0 e size v n xs)
    (a : Addr) (m c : Nat) (news : List Value) (hl : news.length = m * size) (hnews : ∀ j u, news[j]? = some u → w.cell? (a.add j) = some u) (h1 : ∀ u ∈ news, u.oneCell' = true)
    (h63 : n + m ≤ maxLen) (hbytes : (n + m) * bytes ≤ 140737488355328) :
    ∃ v' w', (Builtin.append_ #[t, t] ty #[v, .slice (some a) m c]).run P w = .ok v' w' ∧ w'.ownsRow 0 e size v' (n + m) (xs ++ news) ∧ w.grownBy w' v.ownBlock ∧
      (∀ b, v'.ownBlock = some b → v.ownBlock = some b ∨ w.heap.size ≤ b) ∧ w'.ownsRow 0 e size v n xs := by
  by_cases hfit : (∃ gb cap, v = .slice (some ⟨gb, 0, none⟩) n cap ∧ n + m ≤ cap)
  · obtain ⟨gb, cap, rfl, hroom⟩ := hfit
    rcases hown.2 with ⟨h, _⟩ | ⟨g', cap', cur, h', _, hg, hnc, hcm, hcs, htake⟩
    · simp at h
    · simp only [Value.slice.injEq, Option.some.injEq, Addr.mk.injEq, and_true, true_and] at h'
      obtain ⟨rfl, rfl⟩ := h'
      subst hsize
      have hlen : (xs ++ news).length = (n + m) * i.size := by rw [List.length_append, hown.1, hl, Nat.add_mul]
      have hfit : n * i.size + news.length ≤ cur.size := by rw [hl, hcs, ← Nat.add_mul]; exact Nat.mul_le_mul_right _ hroom
      have hr := run_append_room (P := P) w t ty e i ht hi gb n cap cur hg a m c news hl hnews h1 hroom hfit
      refine ⟨_, _, hr, ⟨hlen, .inr ⟨gb, cap, _, rfl, Nat.zero_le _, setRow_heap w gb cur _ e _ hg, hroom, hcm, ?_, ?_⟩⟩, ⟨rfl, rfl, rfl, by simp, fun k _ hk => setRow_other w gb k _ (fun e => hk (by simp [Value.ownBlock, e]))⟩, fun b hb => .inl hb,
        ⟨hown.1, .inr ⟨gb, cap, _, rfl, Nat.zero_le _, setRow_heap w gb cur _ e _ hg, hnc, hcm, ?_, ?_⟩⟩⟩
      · simp only [List.size_toArray, List.length_append, List.length_take, List.length_drop, Array.length_toList]
        omega
      · rw [htake, ← hlen]
        exact List.take_left
      · simp only [List.size_toArray, List.length_append, List.length_take, List.length_drop, Array.length_toList]
        omega
      · rw [htake]
        have : xs.length = n * i.size := hown.1
        rw [List.append_assoc, ← this]
        exact List.take_left
  · rcases hown.2 with ⟨rfl, rfl⟩ | ⟨gb, cap, cur, rfl, _, hg, hnc, hcm, hcs, htake⟩
    · obtain ⟨v', w', e1, e2, e3, _⟩ := run_append_own (P := P) w w.heap.size t ty e i z size bytes ht hi hz hsize hby hzs hsz _ 0 xs (ownsRow_base hown (by simp [Value.ownBlock])) a m c news hl hnews h1 h63 hbytes (Nat.le_refl _)
      have hx : xs = [] := List.eq_nil_of_length_eq_zero (by have := hown.1; simpa using this)
      refine ⟨v', w', e1, ownsRow_base e2 (fun b _ => Nat.zero_le _), e3, fun b hb => .inr (e2.lt b hb).1, ?_⟩
      rw [hx]; exact World.ownsRow_nil w' 0 e size
    · subst hsize
      subst hby
      have hno : ¬ n + m ≤ cap := fun h => hfit ⟨gb, cap, rfl, h⟩
      have hsmall : n + m ≤ 9223372036854775807 := by simp only [maxLen] at h63; omega
      have holds : ∀ j u, xs[j]? = some u → w.cell? ((⟨gb, 0, none⟩ : Addr).add j) = some u := hown.cells (g := gb) rfl
      have hr := run_append_grow (P := P) w t ty e i z ht hi hz ⟨gb, 0, none⟩ n cap xs hown.1 holds a m c news hl hnews (by omega) (by omega) (growslice_fits (by omega) hbytes)
      have hlen : (xs ++ news).length = (n + m) * i.size := by rw [List.length_append, hown.1, hl, Nat.add_mul]
      have hge := grownCap_ge w (n + m) cap e
      have hcm' : grownCap w (n + m) cap e ≤ maxLen := grownCap_le_maxLen w (n + m) cap e h63
      refine ⟨_, _, hr, ⟨hlen, .inr ⟨w.heap.size, _, _, rfl, Nat.zero_le _, heap_alloc_new w.drew _, hge, hcm', ?_, ?_⟩⟩, ⟨rfl, rfl, rfl, by simp, fun k hk _ => Below.heap_alloc w.drew _ k hk⟩, fun b hb => .inr (by simp [Value.ownBlock] at hb; omega),
        ⟨hown.1, .inr ⟨gb, cap, cur, rfl, Nat.zero_le _, ?_, hnc, hcm, hcs, htake⟩⟩⟩
      · simp only [Array.size_append, List.size_toArray, size_zeroCells, hzs, hown.1, hl, ← Nat.add_mul]
        congr 1
        omega
      · simp only [Array.toList_append, List.append_assoc]
        rw [← List.append_assoc, ← hlen]
        exact List.take_left
      · rw [Below.heap_alloc w.drew _ gb (Array.getElem?_eq_some_iff.1 hg).1]; exact hg

section
variable {C : Cx} {sl : List (Nat × Value)} {own : List Asn} {ops : Array Oper} {Q : Exit → Act → World → Prop} {ty : TypeId} {pos : String} {aft : Array Edge} {g : Option (Nat × Bool)} {rest : List Oper}
theorem AK.appendH (i : Nat) {d : Nat} {s x : Operand} {t t' E : TypeId} {sz by_ : Nat} {z v v2 : Value} {n m : Nat} {cs cs2 : List Value} (hi : own[i]? = some (row v E sz n cs)) (ht : SlT C.P t E sz) (hE : ElT C.P E z sz by_) (hz : z.cells.size = sz) (hsz : 0 < sz) (htt : t' = t)
    (hx : opv ⟨sl, own⟩ s = some v) (hy : opv ⟨sl, own⟩ x = some v2) (hr : RdS C own v2 sz m cs2) (h1 : one' cs2) (hm : n + m ≤ 9223372036854775807) (hb : (n + m) * by_ ≤ 140737488355328) (hg : Grd ops sl g) (hd : Nat.blt d C.N = true)
    (h : ∀ v', IsSl v' → AK C ⟨(d, v') :: sl, own.set i (row2 v v' E sz n (n + m) cs (cs ++ cs2))⟩ (wpList C.P ops Q rest)) :
    AK C ⟨sl, own⟩ (wpList C.P ops Q (⟨some d, .call ⟨.builtin .append, #[s, x], #[t, t']⟩, ty, pos, aft, g⟩ :: rest)) := by
  subst htt
  intro a w hs
  refine wpList_step fun K hK => ?_
  rw [if_pos (wanted_of_Grd hs hg)]
  obtain ⟨inf, hi1, hi2, hi3, hi4⟩ := hE.inf
  obtain ⟨hf, Fs, hh, hal⟩ := hs.world
  obtain ⟨hown, hFs⟩ := hh.at_ i _ hi
  have hrd := hr w hs.world
  have key : ∃ v' w', (Builtin.append_ #[t', t'] ty #[v, v2]).run C.P w = .ok v' w' ∧ w'.ownsRow 0 E sz v' (n + m) (cs ++ cs2) ∧ w.grownBy w' v.ownBlock ∧ (∀ b, v'.ownBlock = some b → v.ownBlock = some b ∨ w.heap.size ≤ b) ∧ w'.ownsRow 0 E sz v n cs := by
    obtain ⟨oa, cap, rfl, hmm, hl2, hnn, hc2⟩ := hrd
    cases oa with
    | some ad =>
      exact run_append_at2 (P := C.P) w t' ty E inf z sz by_ ht.1 hi1 hi2 hi3 hi4 hz hsz v n cs hown ad m cap cs2 hl2 (fun j u hj => (hc2 ad j u rfl hj).2) h1 (by simpa [maxLen] using hm) hb
    | none =>
      have hm0 : m = 0 := by
        rcases Nat.eq_zero_or_pos m with h | h
        · exact h
        · have := hnn h hsz; simp at this
      subst hm0
      have hcs2 : cs2 = [] := List.eq_nil_of_length_eq_zero (by simpa using hl2)
      subst hcs2
      have : n ≤ (match v with | .slice _ _ c => c | _ => 0) ∧ ∃ ao c, v = .slice ao n c ∧ n ≤ c := by
        rcases hown.2 with ⟨rfl, rfl⟩ | ⟨gb, cp, cur, rfl, _, _, hnc, _⟩
        · exact ⟨Nat.le_refl _, none, 0, rfl, Nat.le_refl _⟩
        · exact ⟨hnc, _, cp, rfl, hnc⟩
      obtain ⟨_, ao, c, rfl, hnc⟩ := this
      refine ⟨.slice ao n c, w, ?_, by simpa using hown, ⟨rfl, rfl, rfl, Nat.le_refl _, fun _ _ _ => rfl⟩, fun b hb => .inl hb, hown⟩
      cases ao with
      | none => simp [Builtin.append_, run_underlying ht.1, sizeOf, typeInfo, hi1, Builtin.lenOf, hnc, Builtin.firstCells]
      | some a0 => simp [Builtin.append_, run_underlying ht.1, sizeOf, typeInfo, hi1, Builtin.lenOf, hnc, Builtin.firstCells, storeCells]
  obtain ⟨v', w', e1, e2, e3, e4, e5⟩ := key
  have hrun : (execOp a.eval ⟨some d, .call ⟨.builtin .append, #[s, x], #[t', t']⟩, ty, pos, aft, g⟩).run C.P w = .ok (.value v') w' := by
    simp [execOp, resolve, invoke, builtin, opv_eval hs hx, opv_eval hs hy, e1]
  simp only [Oper.wp, hrun, Oper.upon]
  have hr1 := row_of e2
  have hr0 := row_of e5
  refine hK _ _ (h v' (row_sl hr1) _ _ ?_)
  have hlt : i < own.length := (List.getElem?_eq_some_iff.1 hi).1
  have hup := HW.update (w' := w') (own2 := []) (A' := row2 v v' E sz n (n + m) cs (cs ++ cs2)) hf hh hal hlt (.ofGrown e3 (fun k hk => (hFs k).2 hk.symm))
    (HeapAt.one (F := fun b => v.ownBlock = some b ∨ v'.ownBlock = some b) ⟨_, _, hr0, hr1, fun b => Iff.rfl⟩)
    (fun j b hb => by
      rcases hb.2 with h | h
      · exact .inl ((hFs b).2 h)
      · rcases e4 b h with h | h
        · exact .inl ((hFs b).2 h)
        · exact .inr h)
  rw [List.append_nil] at hup
  exact hs.put hup (d := some d) (fun i hi => by cases hi; simpa [Nat.blt_eq] using hd) v'
/-- back to the grown row alone -/
theorem AK.grown {K : Act → World → Prop} (L : List Asn) (σ : List Nat) (hn : σ.Nodup) (hp : PickLe own L σ) (h : AK C ⟨sl, L⟩ K) : AK C ⟨sl, own⟩ K := fun a w hs => h a w ⟨hs.size, hs.defers, hs.slot, HW.pickLe σ hn hp hs.world⟩
end
end Go.Sx
