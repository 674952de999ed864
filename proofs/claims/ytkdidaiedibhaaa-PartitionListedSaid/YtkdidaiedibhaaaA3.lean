import Derived.Test.YtkdidaiedibhaaaA2
set_option linter.unusedVariables false
set_option linter.unusedSimpArgs false
namespace Go.Proofs.Ytkdidaiedibhaaa
open Go.Sx Go.RowKit
set_option maxRecDepth 100000 in
theorem s_count (w : World) (v : Value) (xs : List Int) (h : RdI w v xs) : CallS Try.prog 21 [v] w (fun r o => r = .int .i64 (countB xs) ∧ o = []) := by
  have h0 := h
  unfold RdI at h
  refine spec_of Try.func21 rfl (Nat.le_of_ble_eq_true rfl) ?_
  refine AK.seq (fun _ hK1 => ?_)
  refine AK.region ?_
  refine AK.val _ (Yl.assign rfl) trivial rfl ?_
  refine AK.nil ?_
  refine AK.then_ (hK1 _ ?_)
  refine AK.seq (fun _ hK2 => ?_)
  refine AK.seq (fun _ hK3 => ?_)
  refine AK.region ?_
  refine AK.val _ (Yl.move rfl) trivial rfl ?_
  refine AK.call co18 rfl (fun w hw => s_valid w v xs (RdI.at h0 hw)) trivial rfl ?_
  rintro r o ⟨rfl, rfl⟩
  refine AK.val _ (Yl.not rfl) trivial rfl ?_
  refine AK.nil ?_
  refine AK.then_ (hK3 _ ?_)
  refine AK.condB rfl (fun hc0 => ?_) (fun hc0 => ?_)
  · refine AK.seq (fun _ hK4 => ?_)
    refine AK.region ?_
    refine AK.val _ (Yl.assign rfl) trivial rfl ?_
    refine AK.nil ?_
    refine AK.then_ (hK4 _ ?_)
    refine AK.ret ?_
    refine AK.then_ret ?_
    refine AK.ret1 rfl rfl (fun w hw => ⟨_, _, ?_, rfl, Ret.of (hw.pick [] (by decide) rfl rfl)⟩)
    exact ⟨by unfold countB; rw [if_neg (of_decide_eq_false hc0)], rfl⟩
  · have hvp := of_decide_eq_true hc0
    have hv := valid_cnt hvp
    have hl := hvp.1
    refine AK.skip ?_
    refine AK.then_ (hK2 _ ?_)
    refine AK.seq (fun _ hK5 => ?_)
    refine AK.region ?_
    refine AK.val _ (Yl.assign rfl) trivial rfl ?_
    refine AK.nil ?_
    refine AK.then_ (hK5 _ ?_)
    refine AK.seq (fun _ hK6 => ?_)
    refine AK.seq (fun _ hK7 => ?_)
    refine AK.region ?_
    refine AK.val _ (Yl.move rfl) trivial rfl ?_
    refine AK.val _ (Yl.lenR sl22 rfl (by first | exact .arg ‹_› | exact .own 0 rfl | exact .own 1 rfl | exact .own 2 rfl | exact .own 3 rfl | exact .own 4 rfl | exact .own 5 rfl | exact .own 6 rfl | exact .own 7 rfl | exact .own 8 rfl | assumption)) trivial rfl ?_
    refine AK.val _ (Yl.move rfl) trivial rfl ?_
    refine AK.nil ?_
    refine AK.then_ (hK7 _ ?_)
    refine AK.block ?_
    refine AK.loopS (X := Nat) [9, 10] (fun k => [(3, .int .i64 (cntL (xs.take k))), (11, .int .i64 (k : Int))]) (fun k => []) (fun k => k ≤ xs.length) (fun k => xs.length - k) (0) ?_ ?_ ?_ ?_
    · exact Nat.zero_le _
    · exact .cons (rfl) (.cons (rfl) (.nil))
    · exact fun w hw => hw
    · intro k hg0 _ hK8
      have hb := cntL_nonneg (xs.take k)
      have hb2 := cntL_take_le xs k
      have hm : k < xs.length → 0 ≤ xs.getD k 0 ∧ xs.getD k 0 < cntL xs := fun h => hv.2.2 _ (mem_getD 0 h)
      refine AK.seq (fun _ hK9 => ?_)
      refine AK.region ?_
      refine AK.val _ (Yl.lss rfl rfl) trivial rfl ?_
      refine AK.nil ?_
      refine AK.then_ (hK9 _ ?_)
      refine AK.seq (fun _ hK10 => ?_)
      refine AK.condD rfl (fun hc1 => ?_) (fun hc1 => ?_)
      · refine AK.skip ?_
        refine AK.then_ (hK10 _ ?_)
        refine AK.seq (fun _ hK11 => ?_)
        refine AK.block ?_
        refine AK.seq (fun _ hK12 => ?_)
        refine AK.region ?_
        first | refine AK.val _ (Yl.idxN sl22 rfl rfl (by first | exact .arg ‹_› | exact .own 0 rfl | exact .own 1 rfl | exact .own 2 rfl | exact .own 3 rfl | exact .own 4 rfl | exact .own 5 rfl | exact .own 6 rfl | exact .own 7 rfl | exact .own 8 rfl | assumption) (by decide) (by omega)) trivial rfl ?_ | refine AK.val _ (Yl.idx sl22 rfl rfl (by first | exact .arg ‹_› | exact .own 0 rfl | exact .own 1 rfl | exact .own 2 rfl | exact .own 3 rfl | exact .own 4 rfl | exact .own 5 rfl | exact .own 6 rfl | exact .own 7 rfl | exact .own 8 rfl | assumption) (by decide) (by omega)) trivial rfl ?_
        refine AK.val _ (Yl.loadI on3 rfl (by first | exact .arg ‹_› | exact .own 0 rfl | exact .own 1 rfl | exact .own 2 rfl | exact .own 3 rfl | exact .own 4 rfl | exact .own 5 rfl | exact .own 6 rfl | exact .own 7 rfl | exact .own 8 rfl | assumption) (by omega)) trivial rfl ?_
        refine AK.val _ (Yl.assign rfl) trivial rfl ?_
        refine AK.nil ?_
        refine AK.then_ (hK12 _ ?_)
        refine AK.region ?_
        refine AK.val _ (Yl.move rfl) trivial rfl ?_
        refine AK.val _ (Yl.move rfl) trivial rfl ?_
        refine AK.val _ (Yl.add rfl rfl (by omega)) trivial rfl ?_
        refine AK.val _ (Yl.max rfl rfl) trivial rfl ?_
        refine AK.val _ (Yl.assign rfl) trivial rfl ?_
        refine AK.nil ?_
        refine AK.block_normal ?_
        refine AK.then_ (hK11 _ ?_)
        refine AK.region ?_
        refine AK.val _ (Yl.add rfl rfl (by omega)) trivial rfl ?_
        refine AK.val _ (Yl.move rfl) trivial rfl ?_
        refine AK.nil ?_
        refine AK.then_ (hK8 _ _ (k + 1) (by omega) (by omega) (.cons (slI rfl (by rw [take_snocD 0 xs k (by omega), cntL_snoc])) (.cons (rfl) (.cons rfl (.cons rfl (.nil))))) (fun w hw => hw))
      · refine AK.exit ?_
        refine AK.then_exit ?_
        refine AK.then_exit ?_
        refine AK.block_exit ?_
        refine AK.then_ (hK6 _ ?_)
        refine AK.seq (fun _ hK13 => ?_)
        refine AK.region ?_
        refine AK.val _ (Yl.move rfl) trivial rfl ?_
        refine AK.val _ (Yl.assign rfl) trivial rfl ?_
        refine AK.nil ?_
        refine AK.then_ (hK13 _ ?_)
        refine AK.ret ?_
        refine AK.ret1 rfl rfl (fun w hw => ⟨_, _, ?_, rfl, Ret.of (hw.pick [] (by decide) rfl rfl)⟩)
        have hk : k = xs.length := (by omega)
        exact ⟨by unfold countB; rw [if_pos hvp, hk, List.take_length], rfl⟩

set_option maxRecDepth 100000 in
theorem s_refcount (w : World) (v : Value) (xs : List Int) (h : RdI w v xs) (hvp : ValidP xs) : CallS Try.prog 23 [v] w (fun r o => r = .int .i64 (cntL xs) ∧ o = []) := by
  have h0 := h
  unfold RdI at h
  have hv := valid_cnt hvp
  have hl := hvp.1
  refine spec_of Try.func23 rfl (Nat.le_of_ble_eq_true rfl) ?_
  refine AK.seq (fun _ hK1 => ?_)
  refine AK.region ?_
  refine AK.val _ (Yl.assign rfl) trivial rfl ?_
  refine AK.nil ?_
  refine AK.then_ (hK1 _ ?_)
  refine AK.seq (fun _ hK2 => ?_)
  refine AK.region ?_
  refine AK.val _ (Yl.assign rfl) trivial rfl ?_
  refine AK.nil ?_
  refine AK.then_ (hK2 _ ?_)
  refine AK.seq (fun _ hK3 => ?_)
  refine AK.seq (fun _ hK4 => ?_)
  refine AK.region ?_
  refine AK.val _ (Yl.move rfl) trivial rfl ?_
  refine AK.val _ (Yl.lenR sl22 rfl (by first | exact .arg ‹_› | exact .own 0 rfl | exact .own 1 rfl | exact .own 2 rfl | exact .own 3 rfl | exact .own 4 rfl | exact .own 5 rfl | exact .own 6 rfl | exact .own 7 rfl | exact .own 8 rfl | assumption)) trivial rfl ?_
  refine AK.val _ (Yl.move rfl) trivial rfl ?_
  refine AK.nil ?_
  refine AK.then_ (hK4 _ ?_)
  refine AK.block ?_
  refine AK.loopS (X := Nat) [6, 7] (fun k => [(3, .int .i64 (cntL (xs.take k))), (8, .int .i64 (k : Int))]) (fun k => []) (fun k => k ≤ xs.length) (fun k => xs.length - k) (0) ?_ ?_ ?_ ?_
  · exact Nat.zero_le _
  · exact .cons (rfl) (.cons (rfl) (.nil))
  · exact fun w hw => hw
  · intro k hg0 _ hK5
    have hb := cntL_nonneg (xs.take k)
    have hb2 := cntL_take_le xs k
    have hm : k < xs.length → 0 ≤ xs.getD k 0 ∧ xs.getD k 0 < cntL xs := fun h => hv.2.2 _ (mem_getD 0 h)
    refine AK.seq (fun _ hK6 => ?_)
    refine AK.region ?_
    refine AK.val _ (Yl.lss rfl rfl) trivial rfl ?_
    refine AK.nil ?_
    refine AK.then_ (hK6 _ ?_)
    refine AK.seq (fun _ hK7 => ?_)
    refine AK.condD rfl (fun hc0 => ?_) (fun hc0 => ?_)
    · refine AK.skip ?_
      refine AK.then_ (hK7 _ ?_)
      refine AK.seq (fun _ hK8 => ?_)
      refine AK.block ?_
      refine AK.seq (fun _ hK9 => ?_)
      refine AK.region ?_
      first | refine AK.val _ (Yl.idxN sl22 rfl rfl (by first | exact .arg ‹_› | exact .own 0 rfl | exact .own 1 rfl | exact .own 2 rfl | exact .own 3 rfl | exact .own 4 rfl | exact .own 5 rfl | exact .own 6 rfl | exact .own 7 rfl | exact .own 8 rfl | assumption) (by decide) (by omega)) trivial rfl ?_ | refine AK.val _ (Yl.idx sl22 rfl rfl (by first | exact .arg ‹_› | exact .own 0 rfl | exact .own 1 rfl | exact .own 2 rfl | exact .own 3 rfl | exact .own 4 rfl | exact .own 5 rfl | exact .own 6 rfl | exact .own 7 rfl | exact .own 8 rfl | assumption) (by decide) (by omega)) trivial rfl ?_
      refine AK.val _ (Yl.loadI on3 rfl (by first | exact .arg ‹_› | exact .own 0 rfl | exact .own 1 rfl | exact .own 2 rfl | exact .own 3 rfl | exact .own 4 rfl | exact .own 5 rfl | exact .own 6 rfl | exact .own 7 rfl | exact .own 8 rfl | assumption) (by omega)) trivial rfl ?_
      refine AK.val _ (Yl.assign rfl) trivial rfl ?_
      refine AK.nil ?_
      refine AK.then_ (hK9 _ ?_)
      refine AK.region ?_
      refine AK.val _ (Yl.move rfl) trivial rfl ?_
      refine AK.val _ (Yl.move rfl) trivial rfl ?_
      refine AK.val _ (Yl.add rfl rfl (by omega)) trivial rfl ?_
      refine AK.val _ (Yl.max rfl rfl) trivial rfl ?_
      refine AK.val _ (Yl.assign rfl) trivial rfl ?_
      refine AK.nil ?_
      refine AK.block_normal ?_
      refine AK.then_ (hK8 _ ?_)
      refine AK.region ?_
      refine AK.val _ (Yl.add rfl rfl (by omega)) trivial rfl ?_
      refine AK.val _ (Yl.move rfl) trivial rfl ?_
      refine AK.nil ?_
      refine AK.then_ (hK5 _ _ (k + 1) (by omega) (by omega) (.cons (slI rfl (by rw [take_snocD 0 xs k (by omega), cntL_snoc])) (.cons (rfl) (.cons rfl (.cons rfl (.nil))))) (fun w hw => hw))
    · refine AK.exit ?_
      refine AK.then_exit ?_
      refine AK.then_exit ?_
      refine AK.block_exit ?_
      refine AK.then_ (hK3 _ ?_)
      refine AK.seq (fun _ hK10 => ?_)
      refine AK.region ?_
      refine AK.val _ (Yl.move rfl) trivial rfl ?_
      refine AK.val _ (Yl.assign rfl) trivial rfl ?_
      refine AK.nil ?_
      refine AK.then_ (hK10 _ ?_)
      refine AK.ret ?_
      refine AK.ret1 rfl rfl (fun w hw => ⟨_, _, ?_, rfl, Ret.of (hw.pick [] (by decide) rfl rfl)⟩)
      have hk : k = xs.length := (by omega)
      exact ⟨by rw [hk, List.take_length], rfl⟩

set_option maxRecDepth 100000 in
theorem s_classes (w : World) (v : Value) (xs : List Int) (h : RdI w v xs) : CallS Try.prog 22 [v] w (fun r o => ∃ rs, rs.length = (classB xs).length ∧ o = [row r 22 1 (classB xs).length rs, bigA (matL 3 rs (classB xs))]) := by
  have h0 := h
  unfold RdI at h
  refine spec_of Try.func22 rfl (Nat.le_of_ble_eq_true rfl) ?_
  refine AK.seq (fun _ hK1 => ?_)
  refine AK.region ?_
  refine AK.val _ (Yl.assign rfl) trivial rfl ?_
  refine AK.nil ?_
  refine AK.then_ (hK1 _ ?_)
  refine AK.seq (fun _ hK2 => ?_)
  refine AK.seq (fun _ hK3 => ?_)
  refine AK.region ?_
  refine AK.val _ (Yl.move rfl) trivial rfl ?_
  refine AK.call co18 rfl (fun w hw => s_valid w v xs (RdI.at h0 hw)) trivial rfl ?_
  rintro r o ⟨rfl, rfl⟩
  refine AK.val _ (Yl.not rfl) trivial rfl ?_
  refine AK.nil ?_
  refine AK.then_ (hK3 _ ?_)
  refine AK.condB rfl (fun hc0 => ?_) (fun hc0 => ?_)
  · refine AK.seq (fun _ hK4 => ?_)
    refine AK.region ?_
    refine AK.val _ (Yl.assign rfl) trivial rfl ?_
    refine AK.nil ?_
    refine AK.then_ (hK4 _ ?_)
    refine AK.ret ?_
    refine AK.then_ret ?_
    refine AK.ghost 22 1 ?_
    refine AK.ghostM 3 ?_
    refine AK.ret1 rfl rfl (fun w hw => ⟨_, _, ?_, rfl, Ret.of (hw.pick [0, 1] (by decide) rfl rfl)⟩)
    have e : classB xs = [] := (by unfold classB; rw [if_neg (of_decide_eq_false hc0)])
    refine ⟨[], by rw [e]; rfl, ?_⟩
    rw [e]; rfl
  · have hvp := of_decide_eq_true hc0
    have hv := valid_cnt hvp
    have hl := hvp.1
    refine AK.skip ?_
    refine AK.then_ (hK2 _ ?_)
    refine AK.seq (fun _ hK5 => ?_)
    refine AK.region ?_
    refine AK.val _ (Yl.move rfl) trivial rfl ?_
    refine AK.call co21 rfl (fun w hw => s_count w v xs (RdI.at h0 hw)) trivial rfl ?_
    rintro r o ⟨rfl, rfl⟩
    have hce : countB xs = cntL xs := (by unfold countB; rw [if_pos hvp])
    rw [hce]
    refine AK.make1Z sl28 el22 rfl rfl rfl (by omega) (by omega) (by omega) trivial rfl (fun mv0 => ?_)
    refine AK.val _ (Yl.assign rfl) trivial rfl ?_
    refine AK.nil ?_
    refine AK.then_ (hK5 _ ?_)
    refine AK.seq (fun _ hK6 => ?_)
    refine AK.seq (fun _ hK7 => ?_)
    refine AK.region ?_
    refine AK.val _ (Yl.move rfl) trivial rfl ?_
    refine AK.val _ (Yl.lenR sl22 rfl (by first | exact .arg ‹_› | exact .own 0 rfl | exact .own 1 rfl | exact .own 2 rfl | exact .own 3 rfl | exact .own 4 rfl | exact .own 5 rfl | exact .own 6 rfl | exact .own 7 rfl | exact .own 8 rfl | assumption)) trivial rfl ?_
    refine AK.val _ (Yl.move rfl) trivial rfl ?_
    refine AK.nil ?_
    refine AK.then_ (hK7 _ ?_)
    refine AK.block ?_
    refine AK.loopS (X := Nat × List Value) [3, 12, 13] (fun x => [(14, .int .i64 (x.1 : Int))]) (fun x => [row mv0 22 1 (cntL xs).toNat x.2, bigA (matL 3 x.2 (clsK (cntL xs).toNat (xs.take x.1)))]) (fun x => x.1 ≤ xs.length ∧ x.2.length = (cntL xs).toNat) (fun x => xs.length - x.1) ((0, List.replicate (cntL xs).toNat (.slice none 0 0))) ?_ ?_ ?_ ?_
    · exact ⟨Nat.zero_le _, by simp⟩
    · exact .cons (rfl) (.nil)
    · exact fun w hw => by have := hw.ghostMat 3 (cntL xs).toNat; rw [← clsK_nil] at this; exact this
    · intro x hg0 _ hK8
      obtain ⟨hk1, hrl⟩ := hg0
      have hm : x.1 < xs.length → 0 ≤ xs.getD x.1 0 ∧ xs.getD x.1 0 < cntL xs := fun h => hv.2.2 _ (mem_getD 0 h)
      have hcl := clsK_length (cntL xs).toNat (xs.take x.1)
      refine AK.seq (fun _ hK9 => ?_)
      refine AK.region ?_
      refine AK.val _ (Yl.lss rfl rfl) trivial rfl ?_
      refine AK.nil ?_
      refine AK.then_ (hK9 _ ?_)
      refine AK.seq (fun _ hK10 => ?_)
      refine AK.condD rfl (fun hc1 => ?_) (fun hc1 => ?_)
      · refine AK.skip ?_
        refine AK.then_ (hK10 _ ?_)
        refine AK.seq (fun _ hK11 => ?_)
        refine AK.block ?_
        refine AK.seq (fun _ hK12 => ?_)
        refine AK.region ?_
        refine AK.val _ (Yl.move rfl) trivial rfl ?_
        first | refine AK.val _ (Yl.idxN sl22 rfl rfl (by first | exact .arg ‹_› | exact .own 0 rfl | exact .own 1 rfl | exact .own 2 rfl | exact .own 3 rfl | exact .own 4 rfl | exact .own 5 rfl | exact .own 6 rfl | exact .own 7 rfl | exact .own 8 rfl | assumption) (by decide) (by omega)) trivial rfl ?_ | refine AK.val _ (Yl.idx sl22 rfl rfl (by first | exact .arg ‹_› | exact .own 0 rfl | exact .own 1 rfl | exact .own 2 rfl | exact .own 3 rfl | exact .own 4 rfl | exact .own 5 rfl | exact .own 6 rfl | exact .own 7 rfl | exact .own 8 rfl | assumption) (by decide) (by omega)) trivial rfl ?_
        refine AK.val _ (Yl.loadI on3 rfl (by first | exact .arg ‹_› | exact .own 0 rfl | exact .own 1 rfl | exact .own 2 rfl | exact .own 3 rfl | exact .own 4 rfl | exact .own 5 rfl | exact .own 6 rfl | exact .own 7 rfl | exact .own 8 rfl | assumption) (by omega)) trivial rfl ?_
        refine AK.val _ (Yl.assign rfl) trivial rfl ?_
        refine AK.val _ (Yl.assign rfl) trivial rfl ?_
        refine AK.nil ?_
        refine AK.then_ (hK12 _ ?_)
        refine AK.region ?_
        refine AK.val _ (Yl.move rfl) trivial rfl ?_
        refine AK.val _ (Yl.move rfl) trivial rfl ?_
        refine AK.val _ (Yl.move rfl) trivial rfl ?_
        refine AK.val _ (Yl.move rfl) trivial rfl ?_
        first | refine AK.val _ (Yl.idxN sl28 rfl rfl (by first | exact .arg ‹_› | exact .own 0 rfl | exact .own 1 rfl | exact .own 2 rfl | exact .own 3 rfl | exact .own 4 rfl | exact .own 5 rfl | exact .own 6 rfl | exact .own 7 rfl | exact .own 8 rfl | assumption) (by decide) (by omega)) trivial rfl ?_ | refine AK.val _ (Yl.idx sl28 rfl rfl (by first | exact .arg ‹_› | exact .own 0 rfl | exact .own 1 rfl | exact .own 2 rfl | exact .own 3 rfl | exact .own 4 rfl | exact .own 5 rfl | exact .own 6 rfl | exact .own 7 rfl | exact .own 8 rfl | assumption) (by decide) (by omega)) trivial rfl ?_
        refine AK.val _ (Yl.loadV on22 rfl (by first | exact .arg ‹_› | exact .own 0 rfl | exact .own 1 rfl | exact .own 2 rfl | exact .own 3 rfl | exact .own 4 rfl | exact .own 5 rfl | exact .own 6 rfl | exact .own 7 rfl | exact .own 8 rfl | assumption) (by omega)) trivial rfl ?_
        refine AK.val _ (Yl.move rfl) trivial rfl ?_
        refine AK.append1In 1 (xs.getD x.1 0).toNat rfl (matL_get (by rw [hrl, hcl]) (by rw [hcl]; omega)) sl22 el3 rfl (by decide) rfl (by intro k hk; cases hk; rfl) rfl (by intro u hu; simp [Value.cells] at hu; subst hu; rfl) (by rw [clsK_get (by omega)]; have := posL_length_le (((xs.getD x.1 0).toNat : Nat) : Int) (xs.take x.1); rw [List.length_take] at this; omega) (by rw [clsK_get (by omega)]; have := posL_length_le (((xs.getD x.1 0).toNat : Nat) : Int) (xs.take x.1); rw [List.length_take] at this; omega) (by decide) rfl rfl (fun av _ hsl => ?_)
        first | refine AK.val _ (Yl.idxN sl28 rfl rfl (by first | exact .arg ‹_› | exact .own 0 rfl | exact .own 1 rfl | exact .own 2 rfl | exact .own 3 rfl | exact .own 4 rfl | exact .own 5 rfl | exact .own 6 rfl | exact .own 7 rfl | exact .own 8 rfl | assumption) (by decide) (by omega)) trivial rfl ?_ | refine AK.val _ (Yl.idx sl28 rfl rfl (by first | exact .arg ‹_› | exact .own 0 rfl | exact .own 1 rfl | exact .own 2 rfl | exact .own 3 rfl | exact .own 4 rfl | exact .own 5 rfl | exact .own 6 rfl | exact .own 7 rfl | exact .own 8 rfl | assumption) (by decide) (by omega)) trivial rfl ?_
        refine AK.store1 0 rfl sz22 rfl rfl hsl.cells hsl.one (by omega) trivial ?_
        refine AK.nil ?_
        refine AK.block_normal ?_
        refine AK.then_ (hK11 _ ?_)
        refine AK.region ?_
        refine AK.val _ (Yl.add rfl rfl (by omega)) trivial rfl ?_
        refine AK.val _ (Yl.move rfl) trivial rfl ?_
        refine AK.nil ?_
        refine AK.then_ (hK8 _ _ ((x.1 + 1, x.2.set (xs.getD x.1 0).toNat av)) ⟨by dsimp only; omega, by simpa using hrl⟩ (by dsimp only; omega) (.cons (rfl) (.cons rfl (.cons rfl (.cons rfl (.nil))))) (fun w hw => cls_own hrl (by omega) rfl (by omega) rfl hw))
      · refine AK.exit ?_
        refine AK.then_exit ?_
        refine AK.then_exit ?_
        refine AK.block_exit ?_
        refine AK.then_ (hK6 _ ?_)
        refine AK.seq (fun _ hK13 => ?_)
        refine AK.region ?_
        refine AK.val _ (Yl.move rfl) trivial rfl ?_
        refine AK.val _ (Yl.assign rfl) trivial rfl ?_
        refine AK.nil ?_
        refine AK.then_ (hK13 _ ?_)
        refine AK.ret ?_
        refine AK.ret1 rfl rfl (fun w hw => ⟨_, _, ?_, rfl, Ret.of (hw.pick [0, 1] (by decide) rfl rfl)⟩)
        have hk : x.1 = xs.length := (by omega)
        have e : classB xs = clsK (cntL xs).toNat xs := (by unfold classB; rw [if_pos hvp])
        refine ⟨x.2, by rw [e, clsK_length]; exact hrl, ?_⟩
        rw [e, clsK_length, hk, List.take_length]; rfl

set_option maxRecDepth 100000 in
theorem s_refclasses (w : World) (v : Value) (xs : List Int) (h : RdI w v xs) (hvp : ValidP xs) : CallS Try.prog 25 [v] w (fun r o => ∃ rs, rs.length = (classB xs).length ∧ o = [row r 22 1 (classB xs).length rs, bigA (matL 3 rs (classB xs))]) := by
  have h0 := h
  unfold RdI at h
  have hv := valid_cnt hvp
  have hl := hvp.1
  refine spec_of Try.func25 rfl (Nat.le_of_ble_eq_true rfl) ?_
  refine AK.seq (fun _ hK1 => ?_)
  refine AK.region ?_
  refine AK.val _ (Yl.assign rfl) trivial rfl ?_
  refine AK.nil ?_
  refine AK.then_ (hK1 _ ?_)
  refine AK.seq (fun _ hK2 => ?_)
  refine AK.region ?_
  refine AK.val _ (Yl.move rfl) trivial rfl ?_
  refine AK.call co23 rfl (fun w hw => s_refcount w v xs (RdI.at h0 hw) hvp) trivial rfl ?_
  rintro r o ⟨rfl, rfl⟩
  refine AK.make1Z sl28 el22 rfl rfl rfl (by omega) (by omega) (by omega) trivial rfl (fun mv0 => ?_)
  refine AK.val _ (Yl.assign rfl) trivial rfl ?_
  refine AK.nil ?_
  refine AK.then_ (hK2 _ ?_)
  refine AK.seq (fun _ hK3 => ?_)
  refine AK.seq (fun _ hK4 => ?_)
  refine AK.region ?_
  refine AK.val _ (Yl.move rfl) trivial rfl ?_
  refine AK.val _ (Yl.lenR sl22 rfl (by first | exact .arg ‹_› | exact .own 0 rfl | exact .own 1 rfl | exact .own 2 rfl | exact .own 3 rfl | exact .own 4 rfl | exact .own 5 rfl | exact .own 6 rfl | exact .own 7 rfl | exact .own 8 rfl | assumption)) trivial rfl ?_
  refine AK.val _ (Yl.move rfl) trivial rfl ?_
  refine AK.nil ?_
  refine AK.then_ (hK4 _ ?_)
  refine AK.block ?_
  refine AK.loopS (X := Nat × List Value) [3, 9, 10] (fun x => [(11, .int .i64 (x.1 : Int))]) (fun x => [row mv0 22 1 (cntL xs).toNat x.2, bigA (matL 3 x.2 (clsK (cntL xs).toNat (xs.take x.1)))]) (fun x => x.1 ≤ xs.length ∧ x.2.length = (cntL xs).toNat) (fun x => xs.length - x.1) ((0, List.replicate (cntL xs).toNat (.slice none 0 0))) ?_ ?_ ?_ ?_
  · exact ⟨Nat.zero_le _, by simp⟩
  · exact .cons (rfl) (.nil)
  · exact fun w hw => by have := hw.ghostMat 3 (cntL xs).toNat; rw [← clsK_nil] at this; exact this
  · intro x hg0 _ hK5
    obtain ⟨hk1, hrl⟩ := hg0
    have hm : x.1 < xs.length → 0 ≤ xs.getD x.1 0 ∧ xs.getD x.1 0 < cntL xs := fun h => hv.2.2 _ (mem_getD 0 h)
    have hcl := clsK_length (cntL xs).toNat (xs.take x.1)
    refine AK.seq (fun _ hK6 => ?_)
    refine AK.region ?_
    refine AK.val _ (Yl.lss rfl rfl) trivial rfl ?_
    refine AK.nil ?_
    refine AK.then_ (hK6 _ ?_)
    refine AK.seq (fun _ hK7 => ?_)
    refine AK.condD rfl (fun hc0 => ?_) (fun hc0 => ?_)
    · refine AK.skip ?_
      refine AK.then_ (hK7 _ ?_)
      refine AK.seq (fun _ hK8 => ?_)
      refine AK.block ?_
      refine AK.seq (fun _ hK9 => ?_)
      refine AK.region ?_
      refine AK.val _ (Yl.move rfl) trivial rfl ?_
      first | refine AK.val _ (Yl.idxN sl22 rfl rfl (by first | exact .arg ‹_› | exact .own 0 rfl | exact .own 1 rfl | exact .own 2 rfl | exact .own 3 rfl | exact .own 4 rfl | exact .own 5 rfl | exact .own 6 rfl | exact .own 7 rfl | exact .own 8 rfl | assumption) (by decide) (by omega)) trivial rfl ?_ | refine AK.val _ (Yl.idx sl22 rfl rfl (by first | exact .arg ‹_› | exact .own 0 rfl | exact .own 1 rfl | exact .own 2 rfl | exact .own 3 rfl | exact .own 4 rfl | exact .own 5 rfl | exact .own 6 rfl | exact .own 7 rfl | exact .own 8 rfl | assumption) (by decide) (by omega)) trivial rfl ?_
      refine AK.val _ (Yl.loadI on3 rfl (by first | exact .arg ‹_› | exact .own 0 rfl | exact .own 1 rfl | exact .own 2 rfl | exact .own 3 rfl | exact .own 4 rfl | exact .own 5 rfl | exact .own 6 rfl | exact .own 7 rfl | exact .own 8 rfl | assumption) (by omega)) trivial rfl ?_
      refine AK.val _ (Yl.assign rfl) trivial rfl ?_
      refine AK.val _ (Yl.assign rfl) trivial rfl ?_
      refine AK.nil ?_
      refine AK.then_ (hK9 _ ?_)
      refine AK.region ?_
      refine AK.val _ (Yl.move rfl) trivial rfl ?_
      refine AK.val _ (Yl.move rfl) trivial rfl ?_
      refine AK.val _ (Yl.move rfl) trivial rfl ?_
      refine AK.val _ (Yl.move rfl) trivial rfl ?_
      first | refine AK.val _ (Yl.idxN sl28 rfl rfl (by first | exact .arg ‹_› | exact .own 0 rfl | exact .own 1 rfl | exact .own 2 rfl | exact .own 3 rfl | exact .own 4 rfl | exact .own 5 rfl | exact .own 6 rfl | exact .own 7 rfl | exact .own 8 rfl | assumption) (by decide) (by omega)) trivial rfl ?_ | refine AK.val _ (Yl.idx sl28 rfl rfl (by first | exact .arg ‹_› | exact .own 0 rfl | exact .own 1 rfl | exact .own 2 rfl | exact .own 3 rfl | exact .own 4 rfl | exact .own 5 rfl | exact .own 6 rfl | exact .own 7 rfl | exact .own 8 rfl | assumption) (by decide) (by omega)) trivial rfl ?_
      refine AK.val _ (Yl.loadV on22 rfl (by first | exact .arg ‹_› | exact .own 0 rfl | exact .own 1 rfl | exact .own 2 rfl | exact .own 3 rfl | exact .own 4 rfl | exact .own 5 rfl | exact .own 6 rfl | exact .own 7 rfl | exact .own 8 rfl | assumption) (by omega)) trivial rfl ?_
      refine AK.val _ (Yl.move rfl) trivial rfl ?_
      refine AK.append1In 1 (xs.getD x.1 0).toNat rfl (matL_get (by rw [hrl, hcl]) (by rw [hcl]; omega)) sl22 el3 rfl (by decide) rfl (by intro k hk; cases hk; rfl) rfl (by intro u hu; simp [Value.cells] at hu; subst hu; rfl) (by rw [clsK_get (by omega)]; have := posL_length_le (((xs.getD x.1 0).toNat : Nat) : Int) (xs.take x.1); rw [List.length_take] at this; omega) (by rw [clsK_get (by omega)]; have := posL_length_le (((xs.getD x.1 0).toNat : Nat) : Int) (xs.take x.1); rw [List.length_take] at this; omega) (by decide) rfl rfl (fun av _ hsl => ?_)
      first | refine AK.val _ (Yl.idxN sl28 rfl rfl (by first | exact .arg ‹_› | exact .own 0 rfl | exact .own 1 rfl | exact .own 2 rfl | exact .own 3 rfl | exact .own 4 rfl | exact .own 5 rfl | exact .own 6 rfl | exact .own 7 rfl | exact .own 8 rfl | assumption) (by decide) (by omega)) trivial rfl ?_ | refine AK.val _ (Yl.idx sl28 rfl rfl (by first | exact .arg ‹_› | exact .own 0 rfl | exact .own 1 rfl | exact .own 2 rfl | exact .own 3 rfl | exact .own 4 rfl | exact .own 5 rfl | exact .own 6 rfl | exact .own 7 rfl | exact .own 8 rfl | assumption) (by decide) (by omega)) trivial rfl ?_
      refine AK.store1 0 rfl sz22 rfl rfl hsl.cells hsl.one (by omega) trivial ?_
      refine AK.nil ?_
      refine AK.block_normal ?_
      refine AK.then_ (hK8 _ ?_)
      refine AK.region ?_
      refine AK.val _ (Yl.add rfl rfl (by omega)) trivial rfl ?_
      refine AK.val _ (Yl.move rfl) trivial rfl ?_
      refine AK.nil ?_
      refine AK.then_ (hK5 _ _ ((x.1 + 1, x.2.set (xs.getD x.1 0).toNat av)) ⟨by dsimp only; omega, by simpa using hrl⟩ (by dsimp only; omega) (.cons (rfl) (.cons rfl (.cons rfl (.cons rfl (.nil))))) (fun w hw => cls_own hrl (by omega) rfl (by omega) rfl hw))
    · refine AK.exit ?_
      refine AK.then_exit ?_
      refine AK.then_exit ?_
      refine AK.block_exit ?_
      refine AK.then_ (hK3 _ ?_)
      refine AK.seq (fun _ hK10 => ?_)
      refine AK.region ?_
      refine AK.val _ (Yl.move rfl) trivial rfl ?_
      refine AK.val _ (Yl.assign rfl) trivial rfl ?_
      refine AK.nil ?_
      refine AK.then_ (hK10 _ ?_)
      refine AK.ret ?_
      refine AK.ret1 rfl rfl (fun w hw => ⟨_, _, ?_, rfl, Ret.of (hw.pick [0, 1] (by decide) rfl rfl)⟩)
      have hk : x.1 = xs.length := (by omega)
      have e : classB xs = clsK (cntL xs).toNat xs := (by unfold classB; rw [if_pos hvp])
      refine ⟨x.2, by rw [e, clsK_length]; exact hrl, ?_⟩
      rw [e, clsK_length, hk, List.take_length]; rfl

set_option maxRecDepth 100000 in
theorem s_samerows (w : World) (u v : Value) (xss yss : List (List Int)) (hu : RdM w u xss) (hv : RdM w v yss) : CallS Try.prog 24 [u, v] w (fun r o => r = .bool (decide (xss = yss)) ∧ o = []) := by
  obtain ⟨us, hul, hu1, hu2⟩ := hu
  obtain ⟨vs, hvl, hv1, hv2⟩ := hv
  have hmx := Rd.le hu1
  have hmy := Rd.le hv1
  refine spec_of Try.func24 rfl (Nat.le_of_ble_eq_true rfl) ?_
  refine AK.seq (fun _ hK1 => ?_)
  refine AK.region ?_
  refine AK.val _ (Yl.assign rfl) trivial rfl ?_
  refine AK.nil ?_
  refine AK.then_ (hK1 _ ?_)
  refine AK.seq (fun _ hK2 => ?_)
  refine AK.seq (fun _ hK3 => ?_)
  refine AK.region ?_
  refine AK.val _ (Yl.move rfl) trivial rfl ?_
  refine AK.val _ (Yl.lenR sl28 rfl (by first | exact .arg ‹_› | exact .own 0 rfl | exact .own 1 rfl | exact .own 2 rfl | exact .own 3 rfl | exact .own 4 rfl | exact .own 5 rfl | exact .own 6 rfl | exact .own 7 rfl | exact .own 8 rfl | assumption)) trivial rfl ?_
  refine AK.val _ (Yl.move rfl) trivial rfl ?_
  refine AK.val _ (Yl.lenR sl28 rfl (by first | exact .arg ‹_› | exact .own 0 rfl | exact .own 1 rfl | exact .own 2 rfl | exact .own 3 rfl | exact .own 4 rfl | exact .own 5 rfl | exact .own 6 rfl | exact .own 7 rfl | exact .own 8 rfl | assumption)) trivial rfl ?_
  refine AK.val _ (Yl.neq rfl rfl) trivial rfl ?_
  refine AK.nil ?_
  refine AK.then_ (hK3 _ ?_)
  refine AK.condNe rfl (fun hc0 => ?_) (fun hc0 => ?_)
  · refine AK.seq (fun _ hK4 => ?_)
    refine AK.region ?_
    refine AK.val _ (Yl.assign rfl) trivial rfl ?_
    refine AK.nil ?_
    refine AK.then_ (hK4 _ ?_)
    refine AK.ret ?_
    refine AK.then_ret ?_
    refine AK.ret1 rfl rfl (fun w hw => ⟨_, _, ?_, rfl, Ret.of (hw.pick [] (by decide) rfl rfl)⟩)
    exact ⟨by simp; intro e; subst e; omega, rfl⟩
  · refine AK.skip ?_
    refine AK.then_ (hK2 _ ?_)
    refine AK.seq (fun _ hK5 => ?_)
    refine AK.seq (fun _ hK6 => ?_)
    refine AK.region ?_
    refine AK.val _ (Yl.move rfl) trivial rfl ?_
    refine AK.val _ (Yl.lenR sl28 rfl (by first | exact .arg ‹_› | exact .own 0 rfl | exact .own 1 rfl | exact .own 2 rfl | exact .own 3 rfl | exact .own 4 rfl | exact .own 5 rfl | exact .own 6 rfl | exact .own 7 rfl | exact .own 8 rfl | assumption)) trivial rfl ?_
    refine AK.val _ (Yl.move rfl) trivial rfl ?_
    refine AK.nil ?_
    refine AK.then_ (hK6 _ ?_)
    refine AK.block ?_
    refine AK.loopS (X := Nat) [0, 1, 12] (fun k => [(13, .int .i64 (k : Int))]) (fun k => []) (fun k => k ≤ xss.length ∧ xss.length = yss.length ∧ xss.take k = yss.take k) (fun k => xss.length - k) (0) ?_ ?_ ?_ ?_
    · exact ⟨Nat.zero_le _, by omega, by simp⟩
    · exact .cons (rfl) (.nil)
    · exact fun w hw => hw
    · intro k hg0 _ hK7
      obtain ⟨hk, hl, ht⟩ := hg0
      refine AK.seq (fun _ hK8 => ?_)
      refine AK.region ?_
      refine AK.val _ (Yl.lss rfl rfl) trivial rfl ?_
      refine AK.nil ?_
      refine AK.then_ (hK8 _ ?_)
      refine AK.seq (fun _ hK9 => ?_)
      refine AK.condD rfl (fun hc1 => ?_) (fun hc1 => ?_)
      · refine AK.skip ?_
        refine AK.then_ (hK9 _ ?_)
        refine AK.seq (fun _ hK10 => ?_)
        refine AK.block ?_
        refine AK.seq (fun _ hK11 => ?_)
        refine AK.region ?_
        refine AK.val _ (Yl.move rfl) trivial rfl ?_
        refine AK.val _ (Yl.assign rfl) trivial rfl ?_
        refine AK.nil ?_
        refine AK.then_ (hK11 _ ?_)
        refine AK.seq (fun _ hK12 => ?_)
        refine AK.quiet mixed (by kernel_rfl) ?_
        refine QK.val _ (Yl.move rfl) trivial rfl ?_
        refine QK.val _ (Yl.move rfl) trivial rfl ?_
        first | refine QK.val _ (Yl.idxN sl28 rfl rfl (by first | exact .arg ‹_› | exact .own 0 rfl | exact .own 1 rfl | exact .own 2 rfl | exact .own 3 rfl | exact .own 4 rfl | exact .own 5 rfl | exact .own 6 rfl | exact .own 7 rfl | exact .own 8 rfl | assumption) (by decide) (by omega)) trivial rfl ?_ | refine QK.val _ (Yl.idx sl28 rfl rfl (by first | exact .arg ‹_› | exact .own 0 rfl | exact .own 1 rfl | exact .own 2 rfl | exact .own 3 rfl | exact .own 4 rfl | exact .own 5 rfl | exact .own 6 rfl | exact .own 7 rfl | exact .own 8 rfl | assumption) (by decide) (by omega)) trivial rfl ?_
        refine QK.val _ (Yl.loadV on22 rfl (by first | exact .arg ‹_› | exact .own 0 rfl | exact .own 1 rfl | exact .own 2 rfl | exact .own 3 rfl | exact .own 4 rfl | exact .own 5 rfl | exact .own 6 rfl | exact .own 7 rfl | exact .own 8 rfl | assumption) (by omega)) trivial rfl ?_
        refine QK.val _ (Yl.move rfl) trivial rfl ?_
        refine QK.val _ (Yl.move rfl) trivial rfl ?_
        first | refine QK.val _ (Yl.idxN sl28 rfl rfl (by first | exact .arg ‹_› | exact .own 0 rfl | exact .own 1 rfl | exact .own 2 rfl | exact .own 3 rfl | exact .own 4 rfl | exact .own 5 rfl | exact .own 6 rfl | exact .own 7 rfl | exact .own 8 rfl | assumption) (by decide) (by omega)) trivial rfl ?_ | refine QK.val _ (Yl.idx sl28 rfl rfl (by first | exact .arg ‹_› | exact .own 0 rfl | exact .own 1 rfl | exact .own 2 rfl | exact .own 3 rfl | exact .own 4 rfl | exact .own 5 rfl | exact .own 6 rfl | exact .own 7 rfl | exact .own 8 rfl | assumption) (by decide) (by omega)) trivial rfl ?_
        refine QK.val _ (Yl.loadV on22 rfl (by first | exact .arg ‹_› | exact .own 0 rfl | exact .own 1 rfl | exact .own 2 rfl | exact .own 3 rfl | exact .own 4 rfl | exact .own 5 rfl | exact .own 6 rfl | exact .own 7 rfl | exact .own 8 rfl | assumption) (by omega)) trivial rfl ?_
        refine QK.call (.bool (decide (xss.getD k [] = yss.getD k []))) co16 rfl (fun w hw => s_same w (us.getD k undef) (vs.getD k undef) (xss.getD k []) (yss.getD k []) (RdI.at (hu2 k (by omega)) hw) (RdI.at (hv2 k (by omega)) hw) (Rd.le (hu2 k (by omega)))) (fun _ _ h => h.1) trivial rfl ?_
        refine QK.val _ (Yl.not rfl) trivial rfl ?_
        refine QK.nil (QK.fin ?_)
        refine AK.then_ (hK12 _ ?_)
        refine AK.condB rfl (fun hc2 => ?_) (fun hc2 => ?_)
        · refine AK.seq (fun _ hK13 => ?_)
          refine AK.region ?_
          refine AK.val _ (Yl.assign rfl) trivial rfl ?_
          refine AK.nil ?_
          refine AK.then_ (hK13 _ ?_)
          refine AK.ret ?_
          refine AK.block_ret ?_
          refine AK.then_ret ?_
          refine AK.then_ret ?_
          refine AK.block_ret ?_
          refine AK.then_ret ?_
          refine AK.ret1 rfl rfl (fun w hw => ⟨_, _, ?_, rfl, Ret.of (hw.pick [] (by decide) rfl rfl)⟩)
          exact ⟨by simp; intro e; subst e; simp at *, rfl⟩
        · refine AK.skip ?_
          refine AK.block_normal ?_
          refine AK.then_ (hK10 _ ?_)
          refine AK.region ?_
          refine AK.val _ (Yl.add rfl rfl (by omega)) trivial rfl ?_
          refine AK.val _ (Yl.move rfl) trivial rfl ?_
          refine AK.nil ?_
          refine AK.then_ (hK7 _ _ (k + 1) ⟨by omega, by omega, (beq_takeD [] hl k (by omega) ht).2 (of_decide_eq_true hc2)⟩ (by omega) (.cons (rfl) (.cons rfl (.cons rfl (.cons rfl (.nil))))) (fun w hw => hw))
      · refine AK.exit ?_
        refine AK.then_exit ?_
        refine AK.then_exit ?_
        refine AK.block_exit ?_
        refine AK.then_ (hK5 _ ?_)
        refine AK.seq (fun _ hK14 => ?_)
        refine AK.region ?_
        refine AK.val _ (Yl.assign rfl) trivial rfl ?_
        refine AK.nil ?_
        refine AK.then_ (hK14 _ ?_)
        refine AK.ret ?_
        refine AK.ret1 rfl rfl (fun w hw => ⟨_, _, ?_, rfl, Ret.of (hw.pick [] (by decide) rfl rfl)⟩)
        have : k = xss.length := by omega
        subst this
        exact ⟨by simp; rw [List.take_length, hl, List.take_length] at ht; exact ht, rfl⟩

set_option maxRecDepth 100000 in
theorem l_lists (w : World) (v : Value) (xs : List Int) (h : RdI w v xs) : CallS Try.prog 4 [v] w (fun r o => r = .bool true ∧ o = []) := by
  refine spec_of Try.func4 rfl (Nat.le_of_ble_eq_true rfl) ?_
  refine AK.seq (fun _ hK1 => ?_)
  refine AK.region ?_
  refine AK.val _ (Yl.assign rfl) trivial rfl ?_
  refine AK.nil ?_
  refine AK.then_ (hK1 _ ?_)
  refine AK.seq (fun _ hK2 => ?_)
  refine AK.region ?_
  refine AK.val _ (Yl.move rfl) trivial rfl ?_
  refine AK.call co21 rfl (fun w hw => s_count w v xs (RdI.at h hw)) trivial rfl ?_
  rintro r o ⟨rfl, rfl⟩
  refine AK.val _ (Yl.move rfl) trivial rfl ?_
  refine AK.call co22 rfl (fun w hw => s_classes w v xs (RdI.at h hw)) trivial rfl ?_
  rintro cv o ⟨rs, hrl, rfl⟩
  refine AK.val _ (Yl.assign rfl) trivial rfl ?_
  refine AK.val _ (Yl.assign rfl) trivial rfl ?_
  refine AK.nil ?_
  refine AK.then_ (hK2 _ ?_)
  refine AK.seq (fun _ hK3 => ?_)
  refine AK.seq (fun _ hK4 => ?_)
  refine AK.region ?_
  refine AK.val _ (Yl.move rfl) trivial rfl ?_
  refine AK.call co19 rfl (fun w hw => s_refvalid w v xs (RdI.at h hw)) trivial rfl ?_
  rintro r o ⟨rfl, rfl⟩
  refine AK.val _ (Yl.not rfl) trivial rfl ?_
  refine AK.nil ?_
  refine AK.then_ (hK4 _ ?_)
  refine AK.condB rfl (fun hc0 => ?_) (fun hc0 => ?_)
  · refine AK.seq (fun _ hK5 => ?_)
    refine AK.region ?_
    refine AK.val _ (Yl.move rfl) trivial rfl ?_
    refine AK.val _ (Yl.eql rfl rfl) trivial rfl ?_
    refine AK.val _ (Yl.move rfl) trivial rfl ?_
    refine AK.knownT (g := 14) rfl (decide_eq_true (by unfold countB; rw [if_neg (of_decide_eq_false hc0)])) (fun hg_3_2 => ?_)
    refine AK.val _ (Yl.move rfl) ⟨_, rfl, congrArg (fun b => some (Value.bool b)) hg_3_2⟩ rfl ?_
    refine AK.val _ (Yl.lenR sl28 rfl (by first | exact .arg ‹_› | exact .own 0 rfl | exact .own 1 rfl | exact .own 2 rfl | exact .own 3 rfl | exact .own 4 rfl | exact .own 5 rfl | exact .own 6 rfl | exact .own 7 rfl | exact .own 8 rfl | assumption)) ⟨_, rfl, congrArg (fun b => some (Value.bool b)) hg_3_2⟩ rfl ?_
    refine AK.val _ (Yl.eql rfl rfl) ⟨_, rfl, congrArg (fun b => some (Value.bool b)) hg_3_2⟩ rfl ?_
    refine AK.val _ (Yl.pickT rfl (hg_3_2) rfl) trivial rfl ?_
    refine AK.val _ (Yl.move rfl) trivial rfl ?_
    refine AK.knownT (g := 19) rfl (decide_eq_true (by unfold classB; rw [if_neg (of_decide_eq_false hc0)]; rfl)) (fun hg_3_7 => ?_)
    refine AK.call co20 rfl (fun w hw => s_awake w) ⟨_, rfl, congrArg (fun b => some (Value.bool b)) hg_3_7⟩ rfl ?_
    rintro r2 o2 ⟨rfl, rfl⟩
    refine AK.val _ (Yl.pickT rfl (hg_3_7) rfl) trivial rfl ?_
    refine AK.val _ (Yl.assign rfl) trivial rfl ?_
    refine AK.nil ?_
    refine AK.then_ (hK5 _ ?_)
    refine AK.ret ?_
    refine AK.then_ret ?_
    refine AK.ret1 rfl rfl (fun w hw => ⟨_, _, ?_, rfl, Ret.of (hw.pick [] (by decide) rfl rfl)⟩)
    exact ⟨rfl, rfl⟩
  · refine AK.skip ?_
    refine AK.then_ (hK3 _ ?_)
    refine AK.seq (fun _ hK6 => ?_)
    refine AK.region ?_
    refine AK.val _ (Yl.move rfl) trivial rfl ?_
    refine AK.val _ (Yl.move rfl) trivial rfl ?_
    refine AK.call co23 rfl (fun w hw => s_refcount w v xs (RdI.at h hw) (of_decide_eq_true hc0)) trivial rfl ?_
    rintro r o ⟨rfl, rfl⟩
    refine AK.val _ (Yl.eql rfl rfl) trivial rfl ?_
    refine AK.val _ (Yl.move rfl) trivial rfl ?_
    refine AK.knownT (g := 26) rfl (decide_eq_true (by unfold countB; rw [if_pos (of_decide_eq_true hc0)])) (fun hg_4_4 => ?_)
    refine AK.val _ (Yl.move rfl) ⟨_, rfl, congrArg (fun b => some (Value.bool b)) hg_4_4⟩ rfl ?_
    refine AK.val _ (Yl.move rfl) ⟨_, rfl, congrArg (fun b => some (Value.bool b)) hg_4_4⟩ rfl ?_
    refine AK.call co25 rfl (fun w hw => s_refclasses w v xs (RdI.at h hw) (of_decide_eq_true hc0)) ⟨_, rfl, congrArg (fun b => some (Value.bool b)) hg_4_4⟩ rfl ?_
    rintro cv2 o ⟨rs2, hrl2, rfl⟩
    refine AK.call co24 rfl (fun w hw => s_samerows w cv cv2 (classB xs) (classB xs) (RdM.own 0 1 hw hrl rfl rfl) (RdM.own 2 3 hw hrl2 rfl rfl)) ⟨_, rfl, congrArg (fun b => some (Value.bool b)) hg_4_4⟩ rfl ?_
    rintro r o ⟨rfl, rfl⟩
    refine AK.val _ (Yl.pickT rfl (hg_4_4) rfl) trivial rfl ?_
    refine AK.val _ (Yl.move rfl) trivial rfl ?_
    refine AK.knownT (g := 32) rfl (by simp) (fun hg_4_10 => ?_)
    refine AK.call co20 rfl (fun w hw => s_awake w) ⟨_, rfl, congrArg (fun b => some (Value.bool b)) hg_4_10⟩ rfl ?_
    rintro r2 o2 ⟨rfl, rfl⟩
    refine AK.val _ (Yl.pickT rfl (hg_4_10) rfl) trivial rfl ?_
    refine AK.val _ (Yl.assign rfl) trivial rfl ?_
    refine AK.nil ?_
    refine AK.then_ (hK6 _ ?_)
    refine AK.ret ?_
    refine AK.ret1 rfl rfl (fun w hw => ⟨_, _, ?_, rfl, Ret.of (hw.pick [] (by decide) rfl rfl)⟩)
    exact ⟨rfl, rfl⟩

end Go.Proofs.Ytkdidaiedibhaaa
