import Derived.Test.YtaeojcaidcjnaaaSe
set_option linter.unusedVariables false
set_option linter.unusedSimpArgs false
namespace Go.Sx
open Go.RowKit
theorem get_zip1 (tmps : Array Value) (p : Tmp) (v : Value) : ((#[p]).zip #[v]).foldl (fun t (x : Tmp × Value) => t.setIfInBounds x.1 x.2) tmps = tmps.setIfInBounds p v := by simp [Array.zip]
theorem AK.rangeFunc {C : Cx} {sl : List (Nat × Value)} {own : List Asn} {Q : Exit → Act → World → Prop} {α : Type} {g : Operand} {p : Tmp} {assign body : Code} {gf : FuncId} {lb : List Value} {enc : α → Value} (J : List α → Asn) (Jx : Code → List α → Asn) (T S Sp : List α → Prop) (R : Asn)
    (hg : opv ⟨sl, own⟩ g = some (.func (.func gf) #[] lb.toArray)) (hok : CallOk C.P gf) (hp : Nat.blt p C.N = true)
    (h0 : ∀ w, HW C own w → HW C [J [], R] w)
    (hseq : ∀ (w : World) (Fs : Nat → Nat → Prop) (l : Nat) (J' Jx' : List α → Asn), HW C [J' [], R] w → HeapAt [J' [], R] Fs w → FrameX C.S C.W0 w → (∀ k b, Fs k b → C.W0.heap.size ≤ b ∨ C.S b) → YC C.P l enc T J' Jx' w (Fs 0) →
      CallM C.P gf (.func (.yield l) #[] #[] :: lb) w (Fs 0) (fun r A o => o = [] ∧ ((∃ xs, S xs ∧ A = J' xs) ∨ (∃ q, Sp q ∧ A = Jx' q))))
    (hround : ∀ (l D : Nat) (r : Loop) (pre : List α) (x : α) (w : World) (F : Nat → Prop), r.state = .ready → T (pre ++ [x]) → FrameX C.S C.W0 w → (∀ b, F b → C.W0.heap.size ≤ b ∨ C.S b) →
      AK ⟨C.P, C.N, w, F⟩ ⟨(p, enc x) :: sl, [J pre, objA D (.deferred (some [])), objA l (.loop r)]⟩ (assign.wpIn (WR l) 0 C.P (Exit.then (BeginK C.P l body (RQ ⟨C.P, C.N, w, F⟩ l D r J Jx pre x)) (fun _ _ _ => False))))
    (hdone : ∀ (D : Nat) (xs : List α), S xs → AKd C D ⟨sl, [J xs, R, objA D (.deferred (some []))]⟩ (Q .normal))
    (hstop : ∀ (D : Nat) (c : Code) (q : List α), Sp q → AKd C D ⟨sl, [Jx c q, R, objA D (.deferred (some []))]⟩ (c.wp C.P Q)) :
    AK C ⟨sl, own⟩ ((Code.rangeFunc g #[p] assign body).wp C.P Q) := by
  intro a w hs
  have hw0 := h0 w hs.world
  refine (wpIn_wide (n := 0)).1 (wpIn_rangeFunc ?_)
  intro fn hfn
  obtain ⟨r0, hr0⟩ : ∃ r0 : Loop, r0 = { state := .ready, pending := none, fn, tmps := a.tmps, params := #[p], assign, body, defers := w.heap.size } := ⟨_, rfl⟩
  obtain ⟨W1, hW1⟩ : ∃ W1, (w.alloc (.deferred (some []))).alloc (.loop r0) = W1 := ⟨_, rfl⟩
  obtain ⟨D, hD⟩ : ∃ D, D = w.heap.size := ⟨_, rfl⟩
  have f1 : FrameX (fun _ => False) w (w.alloc (.deferred (some []))) := ⟨rfl, rfl, rfl, by show w.heap.size ≤ (w.heap.push _).size; simp, fun k hk _ => by show (w.heap.push _)[k]? = _; simp [Array.getElem?_push, Nat.ne_of_lt hk]⟩
  have hw1 := hw0.push f1 (HeapAt.one (show (objA w.heap.size (.deferred (some []))).holds (w.alloc (.deferred (some []))) (fun c => c = w.heap.size) from ⟨World.alloc_heap_new w _, fun _ => Iff.rfl⟩)) (fun j b hb => by rw [hb.2]; exact Nat.le_refl _)
  have f2 : FrameX (fun _ => False) (w.alloc (.deferred (some []))) W1 := by
    rw [← hW1]
    exact ⟨rfl, rfl, rfl, by show (w.alloc _).heap.size ≤ ((w.alloc _).heap.push _).size; simp, fun k hk _ => by show ((w.alloc _).heap.push _)[k]? = _; rw [Array.getElem?_push, if_neg (Nat.ne_of_lt hk)]⟩
  have hnew : (w.alloc (.deferred (some []))).heap.size = w.heap.size + 1 := by show (w.heap.push _).size = _; simp
  have hw2 := hw1.push f2 (HeapAt.one (show (objA (w.heap.size + 1) (.loop r0)).holds W1 (fun c => c = w.heap.size + 1) from ⟨by rw [← hW1, ← hnew]; exact World.alloc_heap_new _ _, fun _ => Iff.rfl⟩)) (fun j b hb => by rw [hb.2, hnew]; exact Nat.le_refl _)
  rw [← hD] at hw2
  obtain ⟨l, hl⟩ : ∃ l, l = D + 1 := ⟨_, rfl⟩
  rw [← hl] at hw2
  obtain ⟨J', hJ'⟩ : ∃ J' : List α → Asn, J' = fun pre => bigA [J pre, objA D (.deferred (some [])), objA l (.loop r0)] := ⟨_, rfl⟩
  obtain ⟨Jx', hJx'⟩ : ∃ Jx' : List α → Asn, Jx' = fun q => exA (fun _ : Code => True) (fun c => bigA [Jx c q, objA D (.deferred (some [])), objA l (.loop { r0 with state := .done, pending := some c })]) := ⟨_, rfl⟩
  have hw3 : HW C [J' [], R] W1 := by
    rw [hJ']
    exact HW.unflat (l := [_, _, _]) (own := [_]) (hw2.pick [0, 2, 3, 1] (by decide) rfl rfl)
  obtain ⟨hf1, Fs1, hh1, hal1⟩ := id hw3
  have hYC : YC C.P l enc T J' Jx' W1 (Fs1 0) := by
    intro pre x W F hT hfr hF hJ
    rw [hJ'] at hJ
    obtain ⟨Gs, gh, gF⟩ := hJ
    have hl2 := (gh.at_ 2 _ rfl).1
    have hy := run_yield (P := C.P) (args := #[enc x]) hl2 (by rw [hr0]; rfl)
    rw [hr0] at hy
    refine ⟨fn, _, assign, body, hy, roundIn_of_wpIn trivial ?_⟩
    have hsim : Sim ⟨C.P, C.N, W, F⟩ ⟨(p, enc x) :: sl, [J pre, objA D (.deferred (some [])), objA l (.loop r0)]⟩ { tmps := ((#[p]).zip #[enc x]).foldl (fun t (y : Tmp × Value) => t.setIfInBounds y.1 y.2) a.tmps, defers := [] } W := by
      rw [get_zip1]
      have hput := hs.put hs.world (d := some p) (fun i hi => by cases hi; simpa [Nat.blt_eq] using hp) (enc x)
      refine ⟨hput.size, rfl, hput.slot, ⟨FrameX.refl _ _, Gs, gh, fun i b hb => .inr ((gF b).2 ⟨i, hb⟩)⟩⟩
    have hrd := hround l D r0 pre x W F (by rw [hr0]) hT (hf1.step hfr (fun b hb hlt => (hal1 0 b hb).resolve_left (by omega))) (fun b hb => (hF b hb).elim (fun k => .inl (Nat.le_trans hf1.size k)) (fun k => hal1 0 b k)) _ _ hsim
    refine wpIn_mono hrd ?_
    rintro e a1 w1 he
    cases e with
    | normal =>
      obtain ⟨w2, hb2, hbody⟩ := he
      refine ⟨w2, hb2, wpIn_mono hbody ?_⟩
      have key : ∀ (jump : Option Code) (A : Asn) (w3 : World), HW ⟨C.P, C.N, W, F⟩ [A, objA D (.deferred (some [])), objA l (.loop { r0 with state := .busy })] w3 →
          (Instr.endRound l jump).run C.P w3 = .ok (.bool jump.isNone) (w3.putObj l (.loop { r0 with state := if jump.isNone then .ready else .done, pending := jump })) ∧
          Ret F W (w3.putObj l (.loop { r0 with state := if jump.isNone then .ready else .done, pending := jump })) [bigA [A, objA D (.deferred (some [])), objA l (.loop { r0 with state := if jump.isNone then .ready else .done, pending := jump })]] := by
        intro jump A w3 h3
        obtain ⟨_, Hs, hhs, _⟩ := id h3
        have hre := run_endRound (P := C.P) jump (hhs.at_ 2 _ rfl).1
        refine ⟨hre, ?_⟩
        have h4 := h3.setObj 2 (.loop { r0 with state := if jump.isNone then .ready else .done, pending := jump }) rfl
        exact Ret.of (HW.unflat (l := [_, _, _]) (own := []) h4)
      rintro e2 a3 w3 h3
      cases e2 with
      | normal =>
        obtain ⟨k1, k2⟩ := key none _ w3 h3
        refine ⟨_, _, k1, true, _, rfl, rfl, ?_⟩
        rw [if_pos rfl, hJ']
        have e : ({ r0 with state := if (none : Option Code).isNone = true then .ready else .done, pending := none } : Loop) = r0 := by rw [hr0]; rfl
        rw [e] at k2 ⊢
        exact k2
      | ret =>
        obtain ⟨k1, k2⟩ := key (some .ret) _ w3 h3
        refine ⟨_, _, k1, false, _, rfl, rfl, ?_⟩
        rw [if_neg (by simp), hJx']
        obtain ⟨q1, Ks, q2, q3⟩ := k2
        exact ⟨q1, Ks, ⟨(fun i B hi => by
          have := q2.at_ i
          cases i with
          | zero => cases hi; exact ⟨.ret, trivial, this _ rfl⟩
          | succ i => cases hi), q2.out, q2.apart⟩, q3⟩
      | exit id =>
        obtain ⟨k1, k2⟩ := key (some (.exit id)) _ w3 h3
        refine ⟨_, _, k1, false, _, rfl, rfl, ?_⟩
        rw [if_neg (by simp), hJx']
        obtain ⟨q1, Ks, q2, q3⟩ := k2
        exact ⟨q1, Ks, ⟨(fun i B hi => by
          have := q2.at_ i
          cases i with
          | zero => cases hi; exact ⟨.exit id, trivial, this _ rfl⟩
          | succ i => cases hi), q2.out, q2.apart⟩, q3⟩
      | goto t => exact h3.elim
      | panic ch => exact h3.elim
      | outgrown => exact h3.elim
    | ret => exact he.elim
    | exit id => exact he.elim
    | goto t => exact he.elim
    | panic ch => exact he.elim
    | outgrown => exact he.elim
  have hcall := hseq W1 Fs1 l J' Jx' hw3 hh1 hf1 hal1 hYC
  unfold CallM at hcall
  obtain ⟨fg, hfg1, hfg2, hfg3⟩ := hok.fn
  have hfg2' : ¬ fg.name = "runtime.NumGoroutine" := by simpa using hfg2
  have hfg3' : ¬ fg.body = none := by intro e; simp [e] at hfg3
  have hge := opv_eval hs hg
  refine ⟨l, [markD D], W1, { target := .fn (.func gf) lb.toArray, args := #[.func (.yield l) #[] #[]] }, W1, gf, (.func (.yield l) #[] #[] :: lb).toArray, W1, ?_, ?_, fun _ _ => trivial, ?_, fun h => (by cases h), callsIn_wide.2 (Calls.mono hcall ?_)⟩
  · have := run_enterLoop_outer (P := C.P) (w := w) fn a.tmps #[p] assign body
    rw [show (Fence.wide.round) = none from rfl, this, hl, hD, ← hW1, hr0]; rfl
  · simp only [resolve, hge]
    simp [Deferred.ofValue, Act.eval]
  · simp [invoke, callFunc, hfg1, hfg2', hfg3']
  · rintro e W2 ⟨v, A', own', ⟨rfl, hA⟩, rfl, hx', Fs', hh', hin⟩
    have hup := HW.update (own2 := []) hf1 hh1 hal1 (show 0 < [J' [], R].length by simp) hx' hh' hin
    have hsim : ∀ (own3 : List Asn) (w' : World), HW C own3 w' → Sim C ⟨sl, own3⟩ { ({ a with defers := [markD D] ++ a.defers } : Act) with defers := [] } w' := fun own3 w' h3 => ⟨hs.size, rfl, hs.slot, h3⟩
    have hd1 : ({ a with defers := [markD D] ++ a.defers } : Act).defers = [markD D] := by show [markD D] ++ a.defers = _; rw [hs.defers]; rfl
    rcases hA with ⟨xs, hS, rfl⟩ | ⟨q, hS, rfl⟩
    · rw [hJ'] at hup
      have hfl : HW C ([J xs, objA D (.deferred (some [])), objA l (.loop r0)] ++ [R]) W2 := HW.flat (l := [_, _, _]) (own := [R]) hup
      obtain ⟨_, Hs, hhs, _⟩ := id hfl
      have hpn : r0.pending = none := by rw [hr0]
      have h6 := run_endLoop (P := C.P) (hhs.at_ 2 _ rfl).1 (by rw [hr0]; simp)
      have h7 : (Instr.endLoop l).run C.P W2 = .ok none (W2.putObj l (.loop { r0 with state := .exhausted })) := h6.trans (by rw [hpn])
      refine ⟨none, _, h7, ?_⟩
      have h5 := hfl.setObj 2 (.loop { r0 with state := .exhausted }) rfl
      exact hdone D xs hS _ _ (hsim _ _ (h5.pick [0, 3, 1] (by decide) rfl rfl)) hd1
    · rw [hJx'] at hup
      obtain ⟨c, _, hup⟩ := HW.exE 0 rfl hup
      have hfl : HW C ([Jx c q, objA D (.deferred (some [])), objA l (.loop { r0 with state := .done, pending := some c })] ++ [R]) W2 := HW.flat (l := [_, _, _]) (own := [R]) hup
      obtain ⟨_, Hs, hhs, _⟩ := id hfl
      refine ⟨some c, _, by have := run_endLoop (P := C.P) (hhs.at_ 2 _ rfl).1 (by simp); exact this, ?_⟩
      have h5 := hfl.setObj 2 (.loop { ({ r0 with state := .done, pending := some c } : Loop) with state := .exhausted }) rfl
      exact wpIn_wide.2 (hstop D c q hS _ _ (hsim _ _ (h5.pick [0, 3, 1] (by decide) rfl rfl)) hd1)
end Go.Sx
