import Derived.Test.YtkdidaiedibhaaaA8
import Derived.Test.YtkdidaiedibhaaaPt
set_option linter.unusedVariables false
set_option linter.unusedSimpArgs false
namespace Go.Proofs.Ytkdidaiedibhaaa
open Go.Sx Go.RowKit
attribute [local irreducible] allB
set_option maxRecDepth 100000 in
theorem s_less (w : World) (u v : Value) (xs ys : List Int) (hu : RdI w u xs) (hv : RdI w v ys) : CallS Try.prog 31 [u, v] w (fun r o => r = .bool (lessB xs ys) ∧ o = []) := by
  have hu0 := hu
  have hv0 := hv
  unfold RdI at hu hv
  have hmx := Rd.le hu
  have hmy := Rd.le hv
  refine spec_of Try.func31 rfl (Nat.le_of_ble_eq_true rfl) ?_
  refine AK.seq (fun _ hK1 => ?_)
  refine AK.region ?_
  refine AK.val _ (Yl.assign rfl) trivial rfl ?_
  refine AK.nil ?_
  refine AK.then_ (hK1 _ ?_)
  refine AK.seq (fun _ hK2 => ?_)
  refine AK.seq (fun _ hK3 => ?_)
  refine AK.region ?_
  refine AK.val _ (Yl.assign rfl) trivial rfl ?_
  refine AK.nil ?_
  refine AK.then_ (hK3 _ ?_)
  refine AK.block ?_
  refine AK.loopS (X := Nat) [0, 1] (fun k => [(5, .int .i64 (k : Int))]) (fun k => []) (fun k => k ≤ xs.length ∧ k ≤ ys.length ∧ lessB (xs.drop k) (ys.drop k) = lessB xs ys) (fun k => xs.length - k) (0) ?_ ?_ ?_ ?_
  · exact ⟨Nat.zero_le _, Nat.zero_le _, by simp⟩
  · exact .cons (rfl) (.nil)
  · exact fun w hw => hw
  · intro k hg0 _ hK4
    obtain ⟨hk1, hk2, hkl⟩ := hg0
    refine AK.seq (fun _ hK5 => ?_)
    refine AK.seq (fun _ hK6 => ?_)
    refine AK.region ?_
    refine AK.val _ (Yl.move rfl) trivial rfl ?_
    refine AK.val _ (Yl.move rfl) trivial rfl ?_
    refine AK.val _ (Yl.lenR sl22 rfl (by first | exact .arg ‹_› | exact .own 0 rfl | exact .own 1 rfl | exact .own 2 rfl | exact .own 3 rfl | exact .own 4 rfl | exact .own 5 rfl | exact .own 6 rfl | exact .own 7 rfl | exact .own 8 rfl | assumption)) trivial rfl ?_
    refine AK.val _ (Yl.lss rfl rfl) trivial rfl ?_
    refine AK.val _ (Yl.move rfl) trivial rfl ?_
    refine AK.splitB (g := 10) rfl (fun hg_2_4 => ?_) (fun hg_2_4 => ?_)
    · have hg_2_4' := hg_2_4
      try simp only [decide_eq_true_eq, decide_eq_false_iff_not, Bool.not_eq_true', Bool.not_eq_false', Bool.not_not, ne_eq, Decidable.not_not, Int.not_lt, Int.not_le, beq_iff_eq, bne_iff_ne, Bool.and_eq_true, Bool.or_eq_true, Bool.or_eq_false_iff, Bool.not_false, Bool.not_true, reduceCtorEq, not_true_eq_false, not_false_eq_true] at hg_2_4'
      refine AK.val _ (Yl.move rfl) ⟨_, rfl, congrArg (fun b => some (Value.bool b)) hg_2_4⟩ rfl ?_
      refine AK.val _ (Yl.move rfl) ⟨_, rfl, congrArg (fun b => some (Value.bool b)) hg_2_4⟩ rfl ?_
      refine AK.val _ (Yl.lenR sl22 rfl (by first | exact .arg ‹_› | exact .own 0 rfl | exact .own 1 rfl | exact .own 2 rfl | exact .own 3 rfl | exact .own 4 rfl | exact .own 5 rfl | exact .own 6 rfl | exact .own 7 rfl | exact .own 8 rfl | assumption)) ⟨_, rfl, congrArg (fun b => some (Value.bool b)) hg_2_4⟩ rfl ?_
      refine AK.val _ (Yl.lss rfl rfl) ⟨_, rfl, congrArg (fun b => some (Value.bool b)) hg_2_4⟩ rfl ?_
      refine AK.val _ (Yl.pickT rfl (hg_2_4) rfl) trivial rfl ?_
      refine AK.nil ?_
      refine AK.then_ (hK6 _ ?_)
      refine AK.condD rfl (fun hc0 => ?_) (fun hc0 => ?_)
      · refine AK.skip ?_
        refine AK.then_ (hK5 _ ?_)
        refine AK.seq (fun _ hK7 => ?_)
        refine AK.block ?_
        refine AK.seq (fun _ hK8 => ?_)
        refine AK.quiet mixed (by kernel_rfl) ?_
        refine QK.val _ (Yl.move rfl) trivial rfl ?_
        refine QK.val _ (Yl.move rfl) trivial rfl ?_
        first | refine QK.val _ (Yl.idxN sl22 rfl rfl (by first | exact .arg ‹_› | exact .own 0 rfl | exact .own 1 rfl | exact .own 2 rfl | exact .own 3 rfl | exact .own 4 rfl | exact .own 5 rfl | exact .own 6 rfl | exact .own 7 rfl | exact .own 8 rfl | assumption) (by decide) (by omega)) trivial rfl ?_ | refine QK.val _ (Yl.idx sl22 rfl rfl (by first | exact .arg ‹_› | exact .own 0 rfl | exact .own 1 rfl | exact .own 2 rfl | exact .own 3 rfl | exact .own 4 rfl | exact .own 5 rfl | exact .own 6 rfl | exact .own 7 rfl | exact .own 8 rfl | assumption) (by decide) (by omega)) trivial rfl ?_
        refine QK.val _ (Yl.loadI on3 rfl (by first | exact .arg ‹_› | exact .own 0 rfl | exact .own 1 rfl | exact .own 2 rfl | exact .own 3 rfl | exact .own 4 rfl | exact .own 5 rfl | exact .own 6 rfl | exact .own 7 rfl | exact .own 8 rfl | assumption) (by omega)) trivial rfl ?_
        refine QK.val _ (Yl.move rfl) trivial rfl ?_
        refine QK.val _ (Yl.move rfl) trivial rfl ?_
        first | refine QK.val _ (Yl.idxN sl22 rfl rfl (by first | exact .arg ‹_› | exact .own 0 rfl | exact .own 1 rfl | exact .own 2 rfl | exact .own 3 rfl | exact .own 4 rfl | exact .own 5 rfl | exact .own 6 rfl | exact .own 7 rfl | exact .own 8 rfl | assumption) (by decide) (by omega)) trivial rfl ?_ | refine QK.val _ (Yl.idx sl22 rfl rfl (by first | exact .arg ‹_› | exact .own 0 rfl | exact .own 1 rfl | exact .own 2 rfl | exact .own 3 rfl | exact .own 4 rfl | exact .own 5 rfl | exact .own 6 rfl | exact .own 7 rfl | exact .own 8 rfl | assumption) (by decide) (by omega)) trivial rfl ?_
        refine QK.val _ (Yl.loadI on3 rfl (by first | exact .arg ‹_› | exact .own 0 rfl | exact .own 1 rfl | exact .own 2 rfl | exact .own 3 rfl | exact .own 4 rfl | exact .own 5 rfl | exact .own 6 rfl | exact .own 7 rfl | exact .own 8 rfl | assumption) (by omega)) trivial rfl ?_
        refine QK.val _ (Yl.neq rfl rfl) trivial rfl ?_
        refine QK.nil (QK.fin ?_)
        refine AK.then_ (hK8 _ ?_)
        refine AK.condNe rfl (fun hc1 => ?_) (fun hc1 => ?_)
        · refine AK.seq (fun _ hK9 => ?_)
          refine AK.quiet mixed (by kernel_rfl) ?_
          refine QK.val _ (Yl.move rfl) trivial rfl ?_
          refine QK.val _ (Yl.move rfl) trivial rfl ?_
          first | refine QK.val _ (Yl.idxN sl22 rfl rfl (by first | exact .arg ‹_› | exact .own 0 rfl | exact .own 1 rfl | exact .own 2 rfl | exact .own 3 rfl | exact .own 4 rfl | exact .own 5 rfl | exact .own 6 rfl | exact .own 7 rfl | exact .own 8 rfl | assumption) (by decide) (by omega)) trivial rfl ?_ | refine QK.val _ (Yl.idx sl22 rfl rfl (by first | exact .arg ‹_› | exact .own 0 rfl | exact .own 1 rfl | exact .own 2 rfl | exact .own 3 rfl | exact .own 4 rfl | exact .own 5 rfl | exact .own 6 rfl | exact .own 7 rfl | exact .own 8 rfl | assumption) (by decide) (by omega)) trivial rfl ?_
          refine QK.val _ (Yl.loadI on3 rfl (by first | exact .arg ‹_› | exact .own 0 rfl | exact .own 1 rfl | exact .own 2 rfl | exact .own 3 rfl | exact .own 4 rfl | exact .own 5 rfl | exact .own 6 rfl | exact .own 7 rfl | exact .own 8 rfl | assumption) (by omega)) trivial rfl ?_
          refine QK.val _ (Yl.move rfl) trivial rfl ?_
          refine QK.val _ (Yl.move rfl) trivial rfl ?_
          first | refine QK.val _ (Yl.idxN sl22 rfl rfl (by first | exact .arg ‹_› | exact .own 0 rfl | exact .own 1 rfl | exact .own 2 rfl | exact .own 3 rfl | exact .own 4 rfl | exact .own 5 rfl | exact .own 6 rfl | exact .own 7 rfl | exact .own 8 rfl | assumption) (by decide) (by omega)) trivial rfl ?_ | refine QK.val _ (Yl.idx sl22 rfl rfl (by first | exact .arg ‹_› | exact .own 0 rfl | exact .own 1 rfl | exact .own 2 rfl | exact .own 3 rfl | exact .own 4 rfl | exact .own 5 rfl | exact .own 6 rfl | exact .own 7 rfl | exact .own 8 rfl | assumption) (by decide) (by omega)) trivial rfl ?_
          refine QK.val _ (Yl.loadI on3 rfl (by first | exact .arg ‹_› | exact .own 0 rfl | exact .own 1 rfl | exact .own 2 rfl | exact .own 3 rfl | exact .own 4 rfl | exact .own 5 rfl | exact .own 6 rfl | exact .own 7 rfl | exact .own 8 rfl | assumption) (by omega)) trivial rfl ?_
          refine QK.val _ (Yl.lss rfl rfl) trivial rfl ?_
          refine QK.val _ (Yl.assign rfl) trivial rfl ?_
          refine QK.nil (QK.fin ?_)
          refine AK.then_ (hK9 _ ?_)
          refine AK.ret ?_
          refine AK.block_ret ?_
          refine AK.then_ret ?_
          refine AK.then_ret ?_
          refine AK.block_ret ?_
          refine AK.then_ret ?_
          refine AK.ret1 rfl rfl (fun w hw => ⟨_, _, ?_, rfl, Ret.of (hw.pick [] (by decide) rfl rfl)⟩)
          exact ⟨by rw [← hkl, lessB_ne (by omega) (by omega) hc1], rfl⟩
        · refine AK.skip ?_
          refine AK.block_normal ?_
          refine AK.then_ (hK7 _ ?_)
          refine AK.region ?_
          refine AK.val _ (Yl.move rfl) trivial rfl ?_
          refine AK.val _ (Yl.add rfl rfl (by omega)) trivial rfl ?_
          refine AK.val _ (Yl.assign rfl) trivial rfl ?_
          refine AK.nil ?_
          refine AK.then_ (hK4 _ _ (k + 1) ⟨by omega, by omega, by rw [lessB_step (by omega) (by omega) hc1]; exact hkl⟩ (by omega) (.cons (rfl) (.cons rfl (.cons rfl (.nil)))) (fun w hw => hw))
      · refine AK.exit ?_
        refine AK.then_exit ?_
        refine AK.then_exit ?_
        refine AK.block_exit ?_
        refine AK.then_ (hK2 _ ?_)
        refine AK.seq (fun _ hK10 => ?_)
        refine AK.region ?_
        refine AK.val _ (Yl.move rfl) trivial rfl ?_
        refine AK.val _ (Yl.lenR sl22 rfl (by first | exact .arg ‹_› | exact .own 0 rfl | exact .own 1 rfl | exact .own 2 rfl | exact .own 3 rfl | exact .own 4 rfl | exact .own 5 rfl | exact .own 6 rfl | exact .own 7 rfl | exact .own 8 rfl | assumption)) trivial rfl ?_
        refine AK.val _ (Yl.move rfl) trivial rfl ?_
        refine AK.val _ (Yl.lenR sl22 rfl (by first | exact .arg ‹_› | exact .own 0 rfl | exact .own 1 rfl | exact .own 2 rfl | exact .own 3 rfl | exact .own 4 rfl | exact .own 5 rfl | exact .own 6 rfl | exact .own 7 rfl | exact .own 8 rfl | assumption)) trivial rfl ?_
        refine AK.val _ (Yl.lss rfl rfl) trivial rfl ?_
        refine AK.val _ (Yl.assign rfl) trivial rfl ?_
        refine AK.nil ?_
        refine AK.then_ (hK10 _ ?_)
        refine AK.ret ?_
        refine AK.ret1 rfl rfl (fun w hw => ⟨_, _, ?_, rfl, Ret.of (hw.pick [] (by decide) rfl rfl)⟩)
        refine ⟨congrArg Value.bool ?_, rfl⟩
        rw [← hkl, lessB_end (by omega) (by omega) (by omega)]
        exact decide_eq_decide.2 (by omega)
    · have hg_2_4' := hg_2_4
      try simp only [decide_eq_true_eq, decide_eq_false_iff_not, Bool.not_eq_true', Bool.not_eq_false', Bool.not_not, ne_eq, Decidable.not_not, Int.not_lt, Int.not_le, beq_iff_eq, bne_iff_ne, Bool.and_eq_true, Bool.or_eq_true, Bool.or_eq_false_iff, Bool.not_false, Bool.not_true, reduceCtorEq, not_true_eq_false, not_false_eq_true] at hg_2_4'
      refine AK.pass rfl rfl (hg_2_4) rfl ?_
      refine AK.pass rfl rfl (hg_2_4) rfl ?_
      refine AK.pass rfl rfl (hg_2_4) rfl ?_
      refine AK.pass rfl rfl (hg_2_4) rfl ?_
      refine AK.val _ (Yl.pickF rfl (hg_2_4) rfl) trivial rfl ?_
      refine AK.nil ?_
      refine AK.then_ (hK6 _ ?_)
      refine AK.cond_f rfl (rfl) ?_
      refine AK.exit ?_
      refine AK.then_exit ?_
      refine AK.then_exit ?_
      refine AK.block_exit ?_
      refine AK.then_ (hK2 _ ?_)
      refine AK.seq (fun _ hK11 => ?_)
      refine AK.region ?_
      refine AK.val _ (Yl.move rfl) trivial rfl ?_
      refine AK.val _ (Yl.lenR sl22 rfl (by first | exact .arg ‹_› | exact .own 0 rfl | exact .own 1 rfl | exact .own 2 rfl | exact .own 3 rfl | exact .own 4 rfl | exact .own 5 rfl | exact .own 6 rfl | exact .own 7 rfl | exact .own 8 rfl | assumption)) trivial rfl ?_
      refine AK.val _ (Yl.move rfl) trivial rfl ?_
      refine AK.val _ (Yl.lenR sl22 rfl (by first | exact .arg ‹_› | exact .own 0 rfl | exact .own 1 rfl | exact .own 2 rfl | exact .own 3 rfl | exact .own 4 rfl | exact .own 5 rfl | exact .own 6 rfl | exact .own 7 rfl | exact .own 8 rfl | assumption)) trivial rfl ?_
      refine AK.val _ (Yl.lss rfl rfl) trivial rfl ?_
      refine AK.val _ (Yl.assign rfl) trivial rfl ?_
      refine AK.nil ?_
      refine AK.then_ (hK11 _ ?_)
      refine AK.ret ?_
      refine AK.ret1 rfl rfl (fun w hw => ⟨_, _, ?_, rfl, Ret.of (hw.pick [] (by decide) rfl rfl)⟩)
      refine ⟨congrArg Value.bool ?_, rfl⟩
      rw [← hkl, lessB_end (by omega) (by omega) (by omega)]
      exact decide_eq_decide.2 (by omega)

set_option maxHeartbeats 1000000 in
set_option maxRecDepth 100000 in
theorem l_listed (w : World) (u : Value) (xs : List Int) (hu : RdI w u xs) : CallS Try.prog 7 [u] w (fun r o => r = .bool true ∧ o = []) := by
  have hu0 := hu
  unfold RdI at hu
  have hmx := Rd.le hu
  refine spec_of Try.func7 rfl (Nat.le_of_ble_eq_true rfl) ?_
  refine AK.seq (fun _ hK1 => ?_)
  refine AK.region ?_
  refine AK.val _ (Yl.assign rfl) trivial rfl ?_
  refine AK.nil ?_
  refine AK.then_ (hK1 _ ?_)
  refine AK.seq (fun _ hK2 => ?_)
  refine AK.seq (fun _ hK3 => ?_)
  refine AK.region ?_
  refine AK.val _ (Yl.move rfl) trivial rfl ?_
  refine AK.call co19 rfl (fun w hw => s_refvalid w u xs (RdI.at hu0 hw)) trivial rfl ?_
  rintro r o ⟨rfl, rfl⟩
  refine AK.val _ (Yl.not rfl) trivial rfl ?_
  refine AK.val _ (Yl.move rfl) trivial rfl ?_
  refine AK.splitB (g := 10) rfl (fun hg_1_3 => ?_) (fun hg_1_3 => ?_)
  · have hg_1_3' := hg_1_3
    try simp only [decide_eq_true_eq, decide_eq_false_iff_not, Bool.not_eq_true', Bool.not_eq_false', Bool.not_not, ne_eq, Decidable.not_not, Int.not_lt, Int.not_le, beq_iff_eq, bne_iff_ne, Bool.and_eq_true, Bool.or_eq_true, Bool.or_eq_false_iff, Bool.not_false, Bool.not_true, reduceCtorEq, not_true_eq_false, not_false_eq_true] at hg_1_3'
    refine AK.pass rfl rfl (hg_1_3) rfl ?_
    refine AK.pass rfl rfl (hg_1_3) rfl ?_
    refine AK.pass rfl rfl (hg_1_3) rfl ?_
    refine AK.val _ (Yl.pickT rfl (hg_1_3) rfl) trivial rfl ?_
    refine AK.nil ?_
    refine AK.then_ (hK3 _ ?_)
    refine AK.cond_t rfl (rfl) ?_
    refine AK.seq (fun _ hK4 => ?_)
    refine AK.region ?_
    refine AK.call co20 rfl (fun w hw => s_awake w) trivial rfl ?_
    rintro r o ⟨rfl, rfl⟩
    refine AK.val _ (Yl.assign rfl) trivial rfl ?_
    refine AK.nil ?_
    refine AK.then_ (hK4 _ ?_)
    refine AK.ret ?_
    refine AK.then_ret ?_
    refine AK.ret1 rfl rfl (fun w hw => ⟨_, _, ?_, rfl, Ret.of (hw.pick [] (by decide) rfl rfl)⟩)
    exact ⟨rfl, rfl⟩
  · have hg_1_3' := hg_1_3
    try simp only [decide_eq_true_eq, decide_eq_false_iff_not, Bool.not_eq_true', Bool.not_eq_false', Bool.not_not, ne_eq, Decidable.not_not, Int.not_lt, Int.not_le, beq_iff_eq, bne_iff_ne, Bool.and_eq_true, Bool.or_eq_true, Bool.or_eq_false_iff, Bool.not_false, Bool.not_true, reduceCtorEq, not_true_eq_false, not_false_eq_true] at hg_1_3'
    refine AK.val _ (Yl.move rfl) ⟨_, rfl, congrArg (fun b => some (Value.bool b)) hg_1_3⟩ rfl ?_
    refine AK.val _ (Yl.lenR sl22 rfl (by first | exact .arg ‹_› | exact .own 0 rfl | exact .own 1 rfl | exact .own 2 rfl | exact .own 3 rfl | exact .own 4 rfl | exact .own 5 rfl | exact .own 6 rfl | exact .own 7 rfl | exact .own 8 rfl | assumption | exact .big 1 _ rfl (matL_get hrl (by omega)))) ⟨_, rfl, congrArg (fun b => some (Value.bool b)) hg_1_3⟩ rfl ?_
    refine AK.val _ (Yl.gtr rfl rfl) ⟨_, rfl, congrArg (fun b => some (Value.bool b)) hg_1_3⟩ rfl ?_
    refine AK.val _ (Yl.pickF rfl (hg_1_3) rfl) trivial rfl ?_
    refine AK.nil ?_
    refine AK.then_ (hK3 _ ?_)
    refine AK.condD rfl (fun hc0 => ?_) (fun hc0 => ?_)
    · refine AK.seq (fun _ hK5 => ?_)
      refine AK.region ?_
      refine AK.call co20 rfl (fun w hw => s_awake w) trivial rfl ?_
      rintro r o ⟨rfl, rfl⟩
      refine AK.val _ (Yl.assign rfl) trivial rfl ?_
      refine AK.nil ?_
      refine AK.then_ (hK5 _ ?_)
      refine AK.ret ?_
      refine AK.then_ret ?_
      refine AK.ret1 rfl rfl (fun w hw => ⟨_, _, ?_, rfl, Ret.of (hw.pick [] (by decide) rfl rfl)⟩)
      exact ⟨rfl, rfl⟩
    · have hvp : ValidP xs := hg_1_3'
      have eall : allQ (xs.length : Int) = allB xs.length := (by unfold allQ; rw [if_pos (by omega)]; rfl)
      have hal := allB_len7 xs.length (by omega)
      refine AK.skip ?_
      refine AK.then_ (hK2 _ ?_)
      refine AK.seq (fun _ hK6 => ?_)
      refine AK.region ?_
      refine AK.val _ (Yl.assign rfl) trivial rfl ?_
      refine AK.nil ?_
      refine AK.then_ (hK6 _ ?_)
      refine AK.seq (fun _ hK7 => ?_)
      refine AK.region ?_
      refine AK.val _ (Yl.move rfl) trivial rfl ?_
      refine AK.val _ (Yl.lenR sl22 rfl (by first | exact .arg ‹_› | exact .own 0 rfl | exact .own 1 rfl | exact .own 2 rfl | exact .own 3 rfl | exact .own 4 rfl | exact .own 5 rfl | exact .own 6 rfl | exact .own 7 rfl | exact .own 8 rfl | assumption | exact .big 1 _ rfl (matL_get hrl (by omega)))) trivial rfl ?_
      refine AK.call co29 rfl (fun w hw => s_all w (xs.length : Int)) trivial rfl ?_
      rintro av o ⟨rs, hrl, rfl⟩
      rw [eall] at hrl ⊢
      refine AK.val _ (Yl.assign rfl) trivial rfl ?_
      refine AK.nil ?_
      refine AK.then_ (hK7 _ ?_)
      refine AK.seq (fun _ hK8 => ?_)
      refine AK.seq (fun _ hK9 => ?_)
      refine AK.region ?_
      refine AK.val _ (Yl.move rfl) trivial rfl ?_
      refine AK.val _ (Yl.lenR sl28 rfl (by first | exact .arg ‹_› | exact .own 0 rfl | exact .own 1 rfl | exact .own 2 rfl | exact .own 3 rfl | exact .own 4 rfl | exact .own 5 rfl | exact .own 6 rfl | exact .own 7 rfl | exact .own 8 rfl | assumption | exact .big 1 _ rfl (matL_get hrl (by omega)))) trivial rfl ?_
      refine AK.val _ (Yl.move rfl) trivial rfl ?_
      refine AK.nil ?_
      refine AK.then_ (hK9 _ ?_)
      refine AK.block ?_
      refine AK.loopS (X := Nat × Nat) [0, 4, 19, 20] (fun x => [(3, .int .i64 (x.2 : Int)), (21, .int .i64 (x.1 : Int))]) (fun x => [row av 22 1 (allB xs.length).length rs, bigA (matL 3 rs (allB xs.length))]) (fun x => x.1 ≤ (allB xs.length).length ∧ x.2 = cntE xs ((allB xs.length).take x.1)) (fun x => (allB xs.length).length - x.1) ((0, 0)) ?_ ?_ ?_ ?_
      · exact ⟨Nat.zero_le _, by simp [cntE]⟩
      · exact .cons (rfl) (.cons (rfl) (.nil))
      · exact fun w hw => hw
      · intro x hg0 _ hK10
        obtain ⟨hx1, hx2⟩ := hg0
        refine AK.seq (fun _ hK11 => ?_)
        refine AK.region ?_
        refine AK.val _ (Yl.lss rfl rfl) trivial rfl ?_
        refine AK.nil ?_
        refine AK.then_ (hK11 _ ?_)
        refine AK.seq (fun _ hK12 => ?_)
        refine AK.condD rfl (fun hc1 => ?_) (fun hc1 => ?_)
        · have hxi : x.1 < (allB xs.length).length := (by omega)
          obtain ⟨hqc1, hqc2, hqv⟩ := allB_cnt (k := xs.length) hxi (by omega)
          have hql := (allB_ok hxi).1
          have hcq := cntE_snoc xs ((allB xs.length).take x.1) ((allB xs.length).getD x.1 [])
          rw [← take_snocD [] (allB xs.length) x.1 hxi] at hcq
          have hcle := cntE_le xs ((allB xs.length).take x.1)
          rw [List.length_take] at hcle
          refine AK.skip ?_
          refine AK.then_ (hK12 _ ?_)
          refine AK.seq (fun _ hK13 => ?_)
          refine AK.block ?_
          refine AK.seq (fun _ hK14 => ?_)
          refine AK.region ?_
          refine AK.val _ (Yl.move rfl) trivial rfl ?_
          first | refine AK.val _ (Yl.idxN sl28 rfl rfl (by first | exact .arg ‹_› | exact .own 0 rfl | exact .own 1 rfl | exact .own 2 rfl | exact .own 3 rfl | exact .own 4 rfl | exact .own 5 rfl | exact .own 6 rfl | exact .own 7 rfl | exact .own 8 rfl | assumption | exact .big 1 _ rfl (matL_get hrl (by omega))) (by decide) (by omega)) trivial rfl ?_ | refine AK.val _ (Yl.idx sl28 rfl rfl (by first | exact .arg ‹_› | exact .own 0 rfl | exact .own 1 rfl | exact .own 2 rfl | exact .own 3 rfl | exact .own 4 rfl | exact .own 5 rfl | exact .own 6 rfl | exact .own 7 rfl | exact .own 8 rfl | assumption | exact .big 1 _ rfl (matL_get hrl (by omega))) (by decide) (by omega)) trivial rfl ?_
          refine AK.val _ (Yl.loadV on22 rfl (by first | exact .arg ‹_› | exact .own 0 rfl | exact .own 1 rfl | exact .own 2 rfl | exact .own 3 rfl | exact .own 4 rfl | exact .own 5 rfl | exact .own 6 rfl | exact .own 7 rfl | exact .own 8 rfl | assumption | exact .big 1 _ rfl (matL_get hrl (by omega))) (by omega)) trivial rfl ?_
          refine AK.val _ (Yl.assign rfl) trivial rfl ?_
          refine AK.val _ (Yl.assign rfl) trivial rfl ?_
          refine AK.nil ?_
          refine AK.then_ (hK14 _ ?_)
          refine AK.seq (fun _ hK15 => ?_)
          refine AK.seq (fun _ hK16 => ?_)
          refine AK.region ?_
          refine AK.val _ (Yl.move rfl) trivial rfl ?_
          refine AK.val _ (Yl.gtr rfl rfl) trivial rfl ?_
          refine AK.val _ (Yl.move rfl) trivial rfl ?_
          refine AK.splitB (g := 28) rfl (fun hg_8_2 => ?_) (fun hg_8_2 => ?_)
          · have hg_8_2' := hg_8_2
            try simp only [decide_eq_true_eq, decide_eq_false_iff_not, Bool.not_eq_true', Bool.not_eq_false', Bool.not_not, ne_eq, Decidable.not_not, Int.not_lt, Int.not_le, beq_iff_eq, bne_iff_ne, Bool.and_eq_true, Bool.or_eq_true, Bool.or_eq_false_iff, Bool.not_false, Bool.not_true, reduceCtorEq, not_true_eq_false, not_false_eq_true] at hg_8_2'
            refine AK.val _ (Yl.move rfl) ⟨_, rfl, congrArg (fun b => some (Value.bool b)) hg_8_2⟩ rfl ?_
            refine AK.val _ (Yl.move rfl) ⟨_, rfl, congrArg (fun b => some (Value.bool b)) hg_8_2⟩ rfl ?_
            refine AK.val _ (Yl.sub rfl rfl (by omega)) ⟨_, rfl, congrArg (fun b => some (Value.bool b)) hg_8_2⟩ rfl ?_
            first | refine AK.val _ (Yl.idxN sl28 rfl rfl (by first | exact .arg ‹_› | exact .own 0 rfl | exact .own 1 rfl | exact .own 2 rfl | exact .own 3 rfl | exact .own 4 rfl | exact .own 5 rfl | exact .own 6 rfl | exact .own 7 rfl | exact .own 8 rfl | assumption | exact .big 1 _ rfl (matL_get hrl (by omega))) (by decide) (by omega)) ⟨_, rfl, congrArg (fun b => some (Value.bool b)) hg_8_2⟩ rfl ?_ | refine AK.val _ (Yl.idx sl28 rfl rfl (by first | exact .arg ‹_› | exact .own 0 rfl | exact .own 1 rfl | exact .own 2 rfl | exact .own 3 rfl | exact .own 4 rfl | exact .own 5 rfl | exact .own 6 rfl | exact .own 7 rfl | exact .own 8 rfl | assumption | exact .big 1 _ rfl (matL_get hrl (by omega))) (by decide) (by omega)) ⟨_, rfl, congrArg (fun b => some (Value.bool b)) hg_8_2⟩ rfl ?_
            refine AK.val _ (Yl.loadV on22 rfl (by first | exact .arg ‹_› | exact .own 0 rfl | exact .own 1 rfl | exact .own 2 rfl | exact .own 3 rfl | exact .own 4 rfl | exact .own 5 rfl | exact .own 6 rfl | exact .own 7 rfl | exact .own 8 rfl | assumption | exact .big 1 _ rfl (matL_get hrl (by omega))) (by omega)) ⟨_, rfl, congrArg (fun b => some (Value.bool b)) hg_8_2⟩ rfl ?_
            refine AK.val _ (Yl.move rfl) ⟨_, rfl, congrArg (fun b => some (Value.bool b)) hg_8_2⟩ rfl ?_
            refine AK.call co31 rfl (fun w hw => s_less w (rs.getD ((x.1 : Int) - 1).toNat undef) (rs.getD x.1 undef) ((allB xs.length).getD ((x.1 : Int) - 1).toNat []) ((allB xs.length).getD x.1 []) (rdi_big 1 ((x.1 : Int) - 1).toNat hw rfl hrl (by omega)) (rdi_big 1 x.1 hw rfl hrl hxi)) ⟨_, rfl, congrArg (fun b => some (Value.bool b)) hg_8_2⟩ rfl ?_
            rintro r o ⟨rfl, rfl⟩
            refine AK.val _ (Yl.not rfl) ⟨_, rfl, congrArg (fun b => some (Value.bool b)) hg_8_2⟩ rfl ?_
            refine AK.val _ (Yl.pickT rfl (hg_8_2) rfl) trivial rfl ?_
            refine AK.val _ (Yl.move rfl) trivial rfl ?_
            refine AK.knownF (g := 38) rfl (by first | (have hs := sortedB_at (allB xs.length) (allB_sorted xs.length (by omega)) (x.1 - 1) (by omega); rw [show x.1 - 1 + 1 = x.1 from by omega] at hs; rw [show ((x.1 : Int) - 1).toNat = x.1 - 1 from by omega, hs]; rfl) | rfl) (fun hg_8_12 => ?_)
            refine AK.val _ (Yl.move rfl) ⟨_, rfl, congrArg (fun b => some (Value.bool b)) hg_8_12⟩ rfl ?_
            refine AK.call co18 rfl (fun w hw => s_valid w (rs.getD x.1 undef) ((allB xs.length).getD x.1 []) (rdi_big 1 x.1 hw rfl hrl hxi)) ⟨_, rfl, congrArg (fun b => some (Value.bool b)) hg_8_12⟩ rfl ?_
            rintro r o ⟨rfl, rfl⟩
            refine AK.val _ (Yl.not rfl) ⟨_, rfl, congrArg (fun b => some (Value.bool b)) hg_8_12⟩ rfl ?_
            refine AK.val _ (Yl.pickF rfl (hg_8_12) rfl) trivial rfl ?_
            refine AK.val _ (Yl.move rfl) trivial rfl ?_
            refine AK.knownF (g := 43) rfl (by rw [decide_eq_true hqv]; rfl) (fun hg_8_17 => ?_)
            refine AK.val _ (Yl.move rfl) ⟨_, rfl, congrArg (fun b => some (Value.bool b)) hg_8_17⟩ rfl ?_
            refine AK.val _ (Yl.lenR sl22 rfl (by first | exact .arg ‹_› | exact .own 0 rfl | exact .own 1 rfl | exact .own 2 rfl | exact .own 3 rfl | exact .own 4 rfl | exact .own 5 rfl | exact .own 6 rfl | exact .own 7 rfl | exact .own 8 rfl | assumption | exact .big 1 _ rfl (matL_get hrl (by omega)))) ⟨_, rfl, congrArg (fun b => some (Value.bool b)) hg_8_17⟩ rfl ?_
            refine AK.val _ (Yl.move rfl) ⟨_, rfl, congrArg (fun b => some (Value.bool b)) hg_8_17⟩ rfl ?_
            refine AK.val _ (Yl.lenR sl22 rfl (by first | exact .arg ‹_› | exact .own 0 rfl | exact .own 1 rfl | exact .own 2 rfl | exact .own 3 rfl | exact .own 4 rfl | exact .own 5 rfl | exact .own 6 rfl | exact .own 7 rfl | exact .own 8 rfl | assumption | exact .big 1 _ rfl (matL_get hrl (by omega)))) ⟨_, rfl, congrArg (fun b => some (Value.bool b)) hg_8_17⟩ rfl ?_
            refine AK.val _ (Yl.neq rfl rfl) ⟨_, rfl, congrArg (fun b => some (Value.bool b)) hg_8_17⟩ rfl ?_
            refine AK.val _ (Yl.pickF rfl (hg_8_17) rfl) trivial rfl ?_
            refine AK.nil ?_
            refine AK.then_ (hK16 _ ?_)
            refine AK.cond_f rfl (decide_eq_false (by omega)) ?_
            refine AK.skip ?_
            refine AK.then_ (hK15 _ ?_)
            refine AK.seq (fun _ hK17 => ?_)
            refine AK.region ?_
            refine AK.val _ (Yl.move rfl) trivial rfl ?_
            refine AK.val _ (Yl.move rfl) trivial rfl ?_
            refine AK.call co16 rfl (fun w hw => s_same w u (rs.getD x.1 undef) xs ((allB xs.length).getD x.1 []) (RdI.at hu0 hw) (rdi_big 1 x.1 hw rfl hrl hxi) (by omega)) trivial rfl ?_
            rintro r o ⟨rfl, rfl⟩
            refine AK.nil ?_
            refine AK.then_ (hK17 _ ?_)
            refine AK.cond rfl (fun hc3 => ?_) (fun hc3 => ?_)
            · try simp only [decide_eq_true_eq, decide_eq_false_iff_not, Bool.not_eq_true', Bool.not_eq_false', Bool.not_not, ne_eq, Decidable.not_not, Int.not_lt, Int.not_le, beq_iff_eq, bne_iff_ne, Bool.and_eq_true, Bool.or_eq_true, Bool.or_eq_false_iff, Bool.not_false, Bool.not_true, reduceCtorEq, not_true_eq_false, not_false_eq_true] at hc3
              refine AK.region ?_
              refine AK.val _ (Yl.move rfl) trivial rfl ?_
              refine AK.val _ (Yl.add rfl rfl (by omega)) trivial rfl ?_
              refine AK.val _ (Yl.assign rfl) trivial rfl ?_
              refine AK.nil ?_
              refine AK.block_normal ?_
              refine AK.then_ (hK13 _ ?_)
              refine AK.region ?_
              refine AK.val _ (Yl.add rfl rfl (by omega)) trivial rfl ?_
              refine AK.val _ (Yl.move rfl) trivial rfl ?_
              refine AK.nil ?_
              first | refine AK.then_ (hK10 _ _ ((x.1 + 1, x.2 + 1)) ⟨by dsimp only; omega, by dsimp only; rw [hcq, if_pos hc3.symm, hx2]⟩ (by dsimp only; omega) (.cons (rfl) (.cons (rfl) (.cons rfl (.cons rfl (.cons rfl (.cons rfl (.nil))))))) (fun w hw => hw)) | refine AK.then_ (hK10 _ _ ((x.1 + 1, x.2)) ⟨by dsimp only; omega, by dsimp only; rw [hcq, if_neg (fun h => hc3 h.symm), hx2]; rfl⟩ (by dsimp only; omega) (.cons (rfl) (.cons (rfl) (.cons rfl (.cons rfl (.cons rfl (.cons rfl (.nil))))))) (fun w hw => hw))
            · try simp only [decide_eq_true_eq, decide_eq_false_iff_not, Bool.not_eq_true', Bool.not_eq_false', Bool.not_not, ne_eq, Decidable.not_not, Int.not_lt, Int.not_le, beq_iff_eq, bne_iff_ne, Bool.and_eq_true, Bool.or_eq_true, Bool.or_eq_false_iff, Bool.not_false, Bool.not_true, reduceCtorEq, not_true_eq_false, not_false_eq_true] at hc3
              refine AK.skip ?_
              refine AK.block_normal ?_
              refine AK.then_ (hK13 _ ?_)
              refine AK.region ?_
              refine AK.val _ (Yl.add rfl rfl (by omega)) trivial rfl ?_
              refine AK.val _ (Yl.move rfl) trivial rfl ?_
              refine AK.nil ?_
              first | refine AK.then_ (hK10 _ _ ((x.1 + 1, x.2 + 1)) ⟨by dsimp only; omega, by dsimp only; rw [hcq, if_pos hc3.symm, hx2]⟩ (by dsimp only; omega) (.cons (rfl) (.cons (rfl) (.cons rfl (.cons rfl (.cons rfl (.cons rfl (.nil))))))) (fun w hw => hw)) | refine AK.then_ (hK10 _ _ ((x.1 + 1, x.2)) ⟨by dsimp only; omega, by dsimp only; rw [hcq, if_neg (fun h => hc3 h.symm), hx2]; rfl⟩ (by dsimp only; omega) (.cons (rfl) (.cons (rfl) (.cons rfl (.cons rfl (.cons rfl (.cons rfl (.nil))))))) (fun w hw => hw))
          · have hg_8_2' := hg_8_2
            try simp only [decide_eq_true_eq, decide_eq_false_iff_not, Bool.not_eq_true', Bool.not_eq_false', Bool.not_not, ne_eq, Decidable.not_not, Int.not_lt, Int.not_le, beq_iff_eq, bne_iff_ne, Bool.and_eq_true, Bool.or_eq_true, Bool.or_eq_false_iff, Bool.not_false, Bool.not_true, reduceCtorEq, not_true_eq_false, not_false_eq_true] at hg_8_2'
            refine AK.pass rfl rfl (hg_8_2) rfl ?_
            refine AK.pass rfl rfl (hg_8_2) rfl ?_
            refine AK.pass rfl rfl (hg_8_2) rfl ?_
            refine AK.pass rfl rfl (hg_8_2) rfl ?_
            refine AK.pass rfl rfl (hg_8_2) rfl ?_
            refine AK.pass rfl rfl (hg_8_2) rfl ?_
            refine AK.pass rfl rfl (hg_8_2) rfl ?_
            refine AK.pass rfl rfl (hg_8_2) rfl ?_
            refine AK.val _ (Yl.pickF rfl (hg_8_2) rfl) trivial rfl ?_
            refine AK.val _ (Yl.move rfl) trivial rfl ?_
            refine AK.val _ (Yl.move rfl) ⟨_, rfl, rfl⟩ rfl ?_
            refine AK.call co18 rfl (fun w hw => s_valid w (rs.getD x.1 undef) ((allB xs.length).getD x.1 []) (rdi_big 1 x.1 hw rfl hrl hxi)) ⟨_, rfl, rfl⟩ rfl ?_
            rintro r o ⟨rfl, rfl⟩
            refine AK.val _ (Yl.not rfl) ⟨_, rfl, rfl⟩ rfl ?_
            refine AK.val _ (Yl.pickF rfl (rfl) rfl) trivial rfl ?_
            refine AK.val _ (Yl.move rfl) trivial rfl ?_
            refine AK.knownF (g := 43) rfl (by rw [decide_eq_true hqv]; rfl) (fun hg_8_17 => ?_)
            refine AK.val _ (Yl.move rfl) ⟨_, rfl, congrArg (fun b => some (Value.bool b)) hg_8_17⟩ rfl ?_
            refine AK.val _ (Yl.lenR sl22 rfl (by first | exact .arg ‹_› | exact .own 0 rfl | exact .own 1 rfl | exact .own 2 rfl | exact .own 3 rfl | exact .own 4 rfl | exact .own 5 rfl | exact .own 6 rfl | exact .own 7 rfl | exact .own 8 rfl | assumption | exact .big 1 _ rfl (matL_get hrl (by omega)))) ⟨_, rfl, congrArg (fun b => some (Value.bool b)) hg_8_17⟩ rfl ?_
            refine AK.val _ (Yl.move rfl) ⟨_, rfl, congrArg (fun b => some (Value.bool b)) hg_8_17⟩ rfl ?_
            refine AK.val _ (Yl.lenR sl22 rfl (by first | exact .arg ‹_› | exact .own 0 rfl | exact .own 1 rfl | exact .own 2 rfl | exact .own 3 rfl | exact .own 4 rfl | exact .own 5 rfl | exact .own 6 rfl | exact .own 7 rfl | exact .own 8 rfl | assumption | exact .big 1 _ rfl (matL_get hrl (by omega)))) ⟨_, rfl, congrArg (fun b => some (Value.bool b)) hg_8_17⟩ rfl ?_
            refine AK.val _ (Yl.neq rfl rfl) ⟨_, rfl, congrArg (fun b => some (Value.bool b)) hg_8_17⟩ rfl ?_
            refine AK.val _ (Yl.pickF rfl (hg_8_17) rfl) trivial rfl ?_
            refine AK.nil ?_
            refine AK.then_ (hK16 _ ?_)
            refine AK.cond_f rfl (decide_eq_false (by omega)) ?_
            refine AK.skip ?_
            refine AK.then_ (hK15 _ ?_)
            refine AK.seq (fun _ hK18 => ?_)
            refine AK.region ?_
            refine AK.val _ (Yl.move rfl) trivial rfl ?_
            refine AK.val _ (Yl.move rfl) trivial rfl ?_
            refine AK.call co16 rfl (fun w hw => s_same w u (rs.getD x.1 undef) xs ((allB xs.length).getD x.1 []) (RdI.at hu0 hw) (rdi_big 1 x.1 hw rfl hrl hxi) (by omega)) trivial rfl ?_
            rintro r o ⟨rfl, rfl⟩
            refine AK.nil ?_
            refine AK.then_ (hK18 _ ?_)
            refine AK.cond rfl (fun hc3 => ?_) (fun hc3 => ?_)
            · try simp only [decide_eq_true_eq, decide_eq_false_iff_not, Bool.not_eq_true', Bool.not_eq_false', Bool.not_not, ne_eq, Decidable.not_not, Int.not_lt, Int.not_le, beq_iff_eq, bne_iff_ne, Bool.and_eq_true, Bool.or_eq_true, Bool.or_eq_false_iff, Bool.not_false, Bool.not_true, reduceCtorEq, not_true_eq_false, not_false_eq_true] at hc3
              refine AK.region ?_
              refine AK.val _ (Yl.move rfl) trivial rfl ?_
              refine AK.val _ (Yl.add rfl rfl (by omega)) trivial rfl ?_
              refine AK.val _ (Yl.assign rfl) trivial rfl ?_
              refine AK.nil ?_
              refine AK.block_normal ?_
              refine AK.then_ (hK13 _ ?_)
              refine AK.region ?_
              refine AK.val _ (Yl.add rfl rfl (by omega)) trivial rfl ?_
              refine AK.val _ (Yl.move rfl) trivial rfl ?_
              refine AK.nil ?_
              first | refine AK.then_ (hK10 _ _ ((x.1 + 1, x.2 + 1)) ⟨by dsimp only; omega, by dsimp only; rw [hcq, if_pos hc3.symm, hx2]⟩ (by dsimp only; omega) (.cons (rfl) (.cons (rfl) (.cons rfl (.cons rfl (.cons rfl (.cons rfl (.nil))))))) (fun w hw => hw)) | refine AK.then_ (hK10 _ _ ((x.1 + 1, x.2)) ⟨by dsimp only; omega, by dsimp only; rw [hcq, if_neg (fun h => hc3 h.symm), hx2]; rfl⟩ (by dsimp only; omega) (.cons (rfl) (.cons (rfl) (.cons rfl (.cons rfl (.cons rfl (.cons rfl (.nil))))))) (fun w hw => hw))
            · try simp only [decide_eq_true_eq, decide_eq_false_iff_not, Bool.not_eq_true', Bool.not_eq_false', Bool.not_not, ne_eq, Decidable.not_not, Int.not_lt, Int.not_le, beq_iff_eq, bne_iff_ne, Bool.and_eq_true, Bool.or_eq_true, Bool.or_eq_false_iff, Bool.not_false, Bool.not_true, reduceCtorEq, not_true_eq_false, not_false_eq_true] at hc3
              refine AK.skip ?_
              refine AK.block_normal ?_
              refine AK.then_ (hK13 _ ?_)
              refine AK.region ?_
              refine AK.val _ (Yl.add rfl rfl (by omega)) trivial rfl ?_
              refine AK.val _ (Yl.move rfl) trivial rfl ?_
              refine AK.nil ?_
              first | refine AK.then_ (hK10 _ _ ((x.1 + 1, x.2 + 1)) ⟨by dsimp only; omega, by dsimp only; rw [hcq, if_pos hc3.symm, hx2]⟩ (by dsimp only; omega) (.cons (rfl) (.cons (rfl) (.cons rfl (.cons rfl (.cons rfl (.cons rfl (.nil))))))) (fun w hw => hw)) | refine AK.then_ (hK10 _ _ ((x.1 + 1, x.2)) ⟨by dsimp only; omega, by dsimp only; rw [hcq, if_neg (fun h => hc3 h.symm), hx2]; rfl⟩ (by dsimp only; omega) (.cons (rfl) (.cons (rfl) (.cons rfl (.cons rfl (.cons rfl (.cons rfl (.nil))))))) (fun w hw => hw))
        · refine AK.exit ?_
          refine AK.then_exit ?_
          refine AK.then_exit ?_
          refine AK.block_exit ?_
          refine AK.then_ (hK8 _ ?_)
          refine AK.seq (fun _ hK19 => ?_)
          refine AK.region ?_
          refine AK.val _ (Yl.move rfl) trivial rfl ?_
          refine AK.val _ (Yl.eql rfl rfl) trivial rfl ?_
          refine AK.val _ (Yl.move rfl) trivial rfl ?_
          refine AK.knownT (g := 58) rfl (decide_eq_true (by rw [hx2, show x.1 = (allB xs.length).length from by omega, List.take_length, allB_once xs.length (by omega) xs ((allB_mem _ xs).2 ⟨rfl, hvp.2⟩)]; rfl)) (fun hg_13_2 => ?_)
          refine AK.call co20 rfl (fun w hw => s_awake w) ⟨_, rfl, congrArg (fun b => some (Value.bool b)) hg_13_2⟩ rfl ?_
          rintro r o ⟨rfl, rfl⟩
          refine AK.val _ (Yl.pickT rfl (hg_13_2) rfl) trivial rfl ?_
          refine AK.val _ (Yl.assign rfl) trivial rfl ?_
          refine AK.nil ?_
          refine AK.then_ (hK19 _ ?_)
          refine AK.ret ?_
          refine AK.ret1 rfl rfl (fun w hw => ⟨_, _, ?_, rfl, Ret.of (hw.pick [] (by decide) rfl rfl)⟩)
          exact ⟨rfl, rfl⟩

end Go.Proofs.Ytkdidaiedibhaaa
