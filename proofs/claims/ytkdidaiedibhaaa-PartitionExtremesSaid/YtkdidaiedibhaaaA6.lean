import Derived.Test.YtkdidaiedibhaaaA5
import Derived.Test.YtkdidaiedibhaaaPy
set_option linter.unusedVariables false
set_option linter.unusedSimpArgs false
namespace Go.Proofs.Ytkdidaiedibhaaa
open Go.Sx Go.RowKit
set_option maxRecDepth 100000 in
theorem l_bounds (w : World) (u v : Value) (xs ys : List Int) (hu : RdI w u xs) (hv : RdI w v ys) : CallS Try.prog 11 [u, v] w (fun r o => r = .bool true ∧ o = []) := by
  have hu0 := hu
  have hv0 := hv
  unfold RdI at hu hv
  have hmx := Rd.le hu
  have hmy := Rd.le hv
  refine spec_of Try.func11 rfl (Nat.le_of_ble_eq_true rfl) ?_
  refine AK.seq (fun _ hK1 => ?_)
  refine AK.region ?_
  refine AK.val _ (Yl.assign rfl) trivial rfl ?_
  refine AK.nil ?_
  refine AK.then_ (hK1 _ ?_)
  refine AK.seq (fun _ hK2 => ?_)
  refine AK.region ?_
  refine AK.val _ (Yl.move rfl) trivial rfl ?_
  refine AK.val _ (Yl.move rfl) trivial rfl ?_
  refine AK.call co38 rfl (fun w hw => s_meet w u v xs ys (RdI.at hu0 hw) (RdI.at hv0 hw)) trivial rfl ?_
  rintro mv o rfl
  refine AK.val _ (Yl.move rfl) trivial rfl ?_
  refine AK.val _ (Yl.move rfl) trivial rfl ?_
  refine AK.call co39 rfl (fun w hw => s_join w u v xs ys (RdI.at hu0 hw) (RdI.at hv0 hw)) trivial rfl ?_
  rintro jv o rfl
  refine AK.val _ (Yl.assign rfl) trivial rfl ?_
  refine AK.val _ (Yl.assign rfl) trivial rfl ?_
  refine AK.nil ?_
  refine AK.then_ (hK2 _ ?_)
  refine AK.seq (fun _ hK3 => ?_)
  refine AK.seq (fun _ hK4 => ?_)
  refine AK.region ?_
  refine AK.val _ (Yl.move rfl) trivial rfl ?_
  refine AK.call co19 rfl (fun w hw => s_refvalid w u xs (RdI.at hu0 hw)) trivial rfl ?_
  rintro r o ⟨rfl, rfl⟩
  refine AK.val _ (Yl.not rfl) trivial rfl ?_
  refine AK.val _ (Yl.move rfl) trivial rfl ?_
  refine AK.splitB (g := 16) rfl (fun hg_2_3 => ?_) (fun hg_2_3 => ?_)
  · have hg_2_3' := hg_2_3
    try simp only [decide_eq_true_eq, decide_eq_false_iff_not, Bool.not_eq_true', Bool.not_eq_false', Bool.not_not, ne_eq, Decidable.not_not, Int.not_lt, Int.not_le, beq_iff_eq, bne_iff_ne, Bool.and_eq_true, Bool.or_eq_true, Bool.or_eq_false_iff, Bool.not_false, Bool.not_true, reduceCtorEq, not_true_eq_false, not_false_eq_true] at hg_2_3'
    refine AK.pass rfl rfl (hg_2_3) rfl ?_
    refine AK.pass rfl rfl (hg_2_3) rfl ?_
    refine AK.pass rfl rfl (hg_2_3) rfl ?_
    refine AK.val _ (Yl.pickT rfl (hg_2_3) rfl) trivial rfl ?_
    refine AK.val _ (Yl.move rfl) trivial rfl ?_
    refine AK.pass rfl rfl rfl rfl ?_
    refine AK.pass rfl rfl rfl rfl ?_
    refine AK.pass rfl rfl rfl rfl ?_
    refine AK.pass rfl rfl rfl rfl ?_
    refine AK.pass rfl rfl rfl rfl ?_
    refine AK.val _ (Yl.pickT rfl (rfl) rfl) trivial rfl ?_
    refine AK.nil ?_
    refine AK.then_ (hK4 _ ?_)
    refine AK.cond_t rfl (rfl) ?_
    have hbad : ¬ okPQ xs ys := by
      rintro ⟨h1, h2, h3⟩
      first | exact hg_2_3' h2 | exact hg_2_8' h3 | omega
    refine AK.seq (fun _ hK5 => ?_)
    refine AK.region ?_
    refine AK.val _ (Yl.move rfl) trivial rfl ?_
    refine AK.val _ (Yl.lenR sl22 rfl (by first | exact .arg ‹_› | exact .own 0 rfl | exact .own 1 rfl | exact .own 2 rfl | exact .own 3 rfl | exact .own 4 rfl | exact .own 5 rfl | exact .own 6 rfl | exact .own 7 rfl | exact .own 8 rfl | assumption)) trivial rfl ?_
    refine AK.val _ (Yl.eql rfl rfl) trivial rfl ?_
    refine AK.val _ (Yl.move rfl) trivial rfl ?_
    refine AK.knownT (g := 31) rfl (decide_eq_true (by rw [meet_none hbad]; rfl)) (fun hg_3_3 => ?_)
    refine AK.val _ (Yl.move rfl) ⟨_, rfl, congrArg (fun b => some (Value.bool b)) hg_3_3⟩ rfl ?_
    refine AK.val _ (Yl.lenR sl22 rfl (by first | exact .arg ‹_› | exact .own 0 rfl | exact .own 1 rfl | exact .own 2 rfl | exact .own 3 rfl | exact .own 4 rfl | exact .own 5 rfl | exact .own 6 rfl | exact .own 7 rfl | exact .own 8 rfl | assumption)) ⟨_, rfl, congrArg (fun b => some (Value.bool b)) hg_3_3⟩ rfl ?_
    refine AK.val _ (Yl.eql rfl rfl) ⟨_, rfl, congrArg (fun b => some (Value.bool b)) hg_3_3⟩ rfl ?_
    refine AK.val _ (Yl.pickT rfl (hg_3_3) rfl) trivial rfl ?_
    refine AK.val _ (Yl.move rfl) trivial rfl ?_
    refine AK.knownT (g := 36) rfl (decide_eq_true (by rw [join_none hbad]; rfl)) (fun hg_3_8 => ?_)
    refine AK.call co20 rfl (fun w hw => s_awake w) ⟨_, rfl, congrArg (fun b => some (Value.bool b)) hg_3_8⟩ rfl ?_
    rintro r o ⟨rfl, rfl⟩
    refine AK.val _ (Yl.pickT rfl (hg_3_8) rfl) trivial rfl ?_
    refine AK.val _ (Yl.assign rfl) trivial rfl ?_
    refine AK.nil ?_
    refine AK.then_ (hK5 _ ?_)
    refine AK.ret ?_
    refine AK.then_ret ?_
    refine AK.ret1 rfl rfl (fun w hw => ⟨_, _, ?_, rfl, Ret.of (hw.pick [] (by decide) rfl rfl)⟩)
    exact ⟨rfl, rfl⟩
  · have hg_2_3' := hg_2_3
    try simp only [decide_eq_true_eq, decide_eq_false_iff_not, Bool.not_eq_true', Bool.not_eq_false', Bool.not_not, ne_eq, Decidable.not_not, Int.not_lt, Int.not_le, beq_iff_eq, bne_iff_ne, Bool.and_eq_true, Bool.or_eq_true, Bool.or_eq_false_iff, Bool.not_false, Bool.not_true, reduceCtorEq, not_true_eq_false, not_false_eq_true] at hg_2_3'
    refine AK.val _ (Yl.move rfl) ⟨_, rfl, congrArg (fun b => some (Value.bool b)) hg_2_3⟩ rfl ?_
    refine AK.call co19 rfl (fun w hw => s_refvalid w v ys (RdI.at hv0 hw)) ⟨_, rfl, congrArg (fun b => some (Value.bool b)) hg_2_3⟩ rfl ?_
    rintro r o ⟨rfl, rfl⟩
    refine AK.val _ (Yl.not rfl) ⟨_, rfl, congrArg (fun b => some (Value.bool b)) hg_2_3⟩ rfl ?_
    refine AK.val _ (Yl.pickF rfl (hg_2_3) rfl) trivial rfl ?_
    refine AK.val _ (Yl.move rfl) trivial rfl ?_
    refine AK.splitB (g := 21) rfl (fun hg_2_8 => ?_) (fun hg_2_8 => ?_)
    · have hg_2_8' := hg_2_8
      try simp only [decide_eq_true_eq, decide_eq_false_iff_not, Bool.not_eq_true', Bool.not_eq_false', Bool.not_not, ne_eq, Decidable.not_not, Int.not_lt, Int.not_le, beq_iff_eq, bne_iff_ne, Bool.and_eq_true, Bool.or_eq_true, Bool.or_eq_false_iff, Bool.not_false, Bool.not_true, reduceCtorEq, not_true_eq_false, not_false_eq_true] at hg_2_8'
      refine AK.pass rfl rfl (hg_2_8) rfl ?_
      refine AK.pass rfl rfl (hg_2_8) rfl ?_
      refine AK.pass rfl rfl (hg_2_8) rfl ?_
      refine AK.pass rfl rfl (hg_2_8) rfl ?_
      refine AK.pass rfl rfl (hg_2_8) rfl ?_
      refine AK.val _ (Yl.pickT rfl (hg_2_8) rfl) trivial rfl ?_
      refine AK.nil ?_
      refine AK.then_ (hK4 _ ?_)
      refine AK.cond_t rfl (rfl) ?_
      have hbad : ¬ okPQ xs ys := by
        rintro ⟨h1, h2, h3⟩
        first | exact hg_2_3' h2 | exact hg_2_8' h3 | omega
      refine AK.seq (fun _ hK6 => ?_)
      refine AK.region ?_
      refine AK.val _ (Yl.move rfl) trivial rfl ?_
      refine AK.val _ (Yl.lenR sl22 rfl (by first | exact .arg ‹_› | exact .own 0 rfl | exact .own 1 rfl | exact .own 2 rfl | exact .own 3 rfl | exact .own 4 rfl | exact .own 5 rfl | exact .own 6 rfl | exact .own 7 rfl | exact .own 8 rfl | assumption)) trivial rfl ?_
      refine AK.val _ (Yl.eql rfl rfl) trivial rfl ?_
      refine AK.val _ (Yl.move rfl) trivial rfl ?_
      refine AK.knownT (g := 31) rfl (decide_eq_true (by rw [meet_none hbad]; rfl)) (fun hg_3_3 => ?_)
      refine AK.val _ (Yl.move rfl) ⟨_, rfl, congrArg (fun b => some (Value.bool b)) hg_3_3⟩ rfl ?_
      refine AK.val _ (Yl.lenR sl22 rfl (by first | exact .arg ‹_› | exact .own 0 rfl | exact .own 1 rfl | exact .own 2 rfl | exact .own 3 rfl | exact .own 4 rfl | exact .own 5 rfl | exact .own 6 rfl | exact .own 7 rfl | exact .own 8 rfl | assumption)) ⟨_, rfl, congrArg (fun b => some (Value.bool b)) hg_3_3⟩ rfl ?_
      refine AK.val _ (Yl.eql rfl rfl) ⟨_, rfl, congrArg (fun b => some (Value.bool b)) hg_3_3⟩ rfl ?_
      refine AK.val _ (Yl.pickT rfl (hg_3_3) rfl) trivial rfl ?_
      refine AK.val _ (Yl.move rfl) trivial rfl ?_
      refine AK.knownT (g := 36) rfl (decide_eq_true (by rw [join_none hbad]; rfl)) (fun hg_3_8 => ?_)
      refine AK.call co20 rfl (fun w hw => s_awake w) ⟨_, rfl, congrArg (fun b => some (Value.bool b)) hg_3_8⟩ rfl ?_
      rintro r o ⟨rfl, rfl⟩
      refine AK.val _ (Yl.pickT rfl (hg_3_8) rfl) trivial rfl ?_
      refine AK.val _ (Yl.assign rfl) trivial rfl ?_
      refine AK.nil ?_
      refine AK.then_ (hK6 _ ?_)
      refine AK.ret ?_
      refine AK.then_ret ?_
      refine AK.ret1 rfl rfl (fun w hw => ⟨_, _, ?_, rfl, Ret.of (hw.pick [] (by decide) rfl rfl)⟩)
      exact ⟨rfl, rfl⟩
    · have hg_2_8' := hg_2_8
      try simp only [decide_eq_true_eq, decide_eq_false_iff_not, Bool.not_eq_true', Bool.not_eq_false', Bool.not_not, ne_eq, Decidable.not_not, Int.not_lt, Int.not_le, beq_iff_eq, bne_iff_ne, Bool.and_eq_true, Bool.or_eq_true, Bool.or_eq_false_iff, Bool.not_false, Bool.not_true, reduceCtorEq, not_true_eq_false, not_false_eq_true] at hg_2_8'
      refine AK.val _ (Yl.move rfl) ⟨_, rfl, congrArg (fun b => some (Value.bool b)) hg_2_8⟩ rfl ?_
      refine AK.val _ (Yl.lenR sl22 rfl (by first | exact .arg ‹_› | exact .own 0 rfl | exact .own 1 rfl | exact .own 2 rfl | exact .own 3 rfl | exact .own 4 rfl | exact .own 5 rfl | exact .own 6 rfl | exact .own 7 rfl | exact .own 8 rfl | assumption)) ⟨_, rfl, congrArg (fun b => some (Value.bool b)) hg_2_8⟩ rfl ?_
      refine AK.val _ (Yl.move rfl) ⟨_, rfl, congrArg (fun b => some (Value.bool b)) hg_2_8⟩ rfl ?_
      refine AK.val _ (Yl.lenR sl22 rfl (by first | exact .arg ‹_› | exact .own 0 rfl | exact .own 1 rfl | exact .own 2 rfl | exact .own 3 rfl | exact .own 4 rfl | exact .own 5 rfl | exact .own 6 rfl | exact .own 7 rfl | exact .own 8 rfl | assumption)) ⟨_, rfl, congrArg (fun b => some (Value.bool b)) hg_2_8⟩ rfl ?_
      refine AK.val _ (Yl.neq rfl rfl) ⟨_, rfl, congrArg (fun b => some (Value.bool b)) hg_2_8⟩ rfl ?_
      refine AK.val _ (Yl.pickF rfl (hg_2_8) rfl) trivial rfl ?_
      refine AK.nil ?_
      refine AK.then_ (hK4 _ ?_)
      refine AK.condNe rfl (fun hc0 => ?_) (fun hc0 => ?_)
      · have hbad : ¬ okPQ xs ys := by
          rintro ⟨h1, h2, h3⟩
          first | exact hg_2_3' h2 | exact hg_2_8' h3 | omega
        refine AK.seq (fun _ hK7 => ?_)
        refine AK.region ?_
        refine AK.val _ (Yl.move rfl) trivial rfl ?_
        refine AK.val _ (Yl.lenR sl22 rfl (by first | exact .arg ‹_› | exact .own 0 rfl | exact .own 1 rfl | exact .own 2 rfl | exact .own 3 rfl | exact .own 4 rfl | exact .own 5 rfl | exact .own 6 rfl | exact .own 7 rfl | exact .own 8 rfl | assumption)) trivial rfl ?_
        refine AK.val _ (Yl.eql rfl rfl) trivial rfl ?_
        refine AK.val _ (Yl.move rfl) trivial rfl ?_
        refine AK.knownT (g := 31) rfl (decide_eq_true (by rw [meet_none hbad]; rfl)) (fun hg_3_3 => ?_)
        refine AK.val _ (Yl.move rfl) ⟨_, rfl, congrArg (fun b => some (Value.bool b)) hg_3_3⟩ rfl ?_
        refine AK.val _ (Yl.lenR sl22 rfl (by first | exact .arg ‹_› | exact .own 0 rfl | exact .own 1 rfl | exact .own 2 rfl | exact .own 3 rfl | exact .own 4 rfl | exact .own 5 rfl | exact .own 6 rfl | exact .own 7 rfl | exact .own 8 rfl | assumption)) ⟨_, rfl, congrArg (fun b => some (Value.bool b)) hg_3_3⟩ rfl ?_
        refine AK.val _ (Yl.eql rfl rfl) ⟨_, rfl, congrArg (fun b => some (Value.bool b)) hg_3_3⟩ rfl ?_
        refine AK.val _ (Yl.pickT rfl (hg_3_3) rfl) trivial rfl ?_
        refine AK.val _ (Yl.move rfl) trivial rfl ?_
        refine AK.knownT (g := 36) rfl (decide_eq_true (by rw [join_none hbad]; rfl)) (fun hg_3_8 => ?_)
        refine AK.call co20 rfl (fun w hw => s_awake w) ⟨_, rfl, congrArg (fun b => some (Value.bool b)) hg_3_8⟩ rfl ?_
        rintro r o ⟨rfl, rfl⟩
        refine AK.val _ (Yl.pickT rfl (hg_3_8) rfl) trivial rfl ?_
        refine AK.val _ (Yl.assign rfl) trivial rfl ?_
        refine AK.nil ?_
        refine AK.then_ (hK7 _ ?_)
        refine AK.ret ?_
        refine AK.then_ret ?_
        refine AK.ret1 rfl rfl (fun w hw => ⟨_, _, ?_, rfl, Ret.of (hw.pick [] (by decide) rfl rfl)⟩)
        exact ⟨rfl, rfl⟩
      · have hok : okPQ xs ys := ⟨by omega, hg_2_3', hg_2_8'⟩
        have hml := meetB_len hok
        have hjl := joinB_len hok
        refine AK.skip ?_
        refine AK.then_ (hK3 _ ?_)
        refine AK.seq (fun _ hK8 => ?_)
        refine AK.seq (fun _ hK9 => ?_)
        refine AK.region ?_
        refine AK.val _ (Yl.move rfl) trivial rfl ?_
        refine AK.val _ (Yl.lenR sl22 rfl (by first | exact .arg ‹_› | exact .own 0 rfl | exact .own 1 rfl | exact .own 2 rfl | exact .own 3 rfl | exact .own 4 rfl | exact .own 5 rfl | exact .own 6 rfl | exact .own 7 rfl | exact .own 8 rfl | assumption)) trivial rfl ?_
        refine AK.val _ (Yl.gtr rfl rfl) trivial rfl ?_
        refine AK.nil ?_
        refine AK.then_ (hK9 _ ?_)
        refine AK.condD rfl (fun hc1 => ?_) (fun hc1 => ?_)
        · refine AK.seq (fun _ hK10 => ?_)
          refine AK.region ?_
          refine AK.call co20 rfl (fun w hw => s_awake w) trivial rfl ?_
          rintro r o ⟨rfl, rfl⟩
          refine AK.val _ (Yl.assign rfl) trivial rfl ?_
          refine AK.nil ?_
          refine AK.then_ (hK10 _ ?_)
          refine AK.ret ?_
          refine AK.then_ret ?_
          refine AK.ret1 rfl rfl (fun w hw => ⟨_, _, ?_, rfl, Ret.of (hw.pick [] (by decide) rfl rfl)⟩)
          exact ⟨rfl, rfl⟩
        · refine AK.skip ?_
          refine AK.then_ (hK8 _ ?_)
          refine AK.seq (fun _ hK11 => ?_)
          refine AK.region ?_
          refine AK.val _ (Yl.move rfl) trivial rfl ?_
          refine AK.val _ (Yl.move rfl) trivial rfl ?_
          refine AK.val _ (Yl.move rfl) trivial rfl ?_
          refine AK.call co40 rfl (fun w hw => s_refmeet w u v xs ys (RdI.at hu0 hw) (RdI.at hv0 hw) hok) trivial rfl ?_
          rintro m2 o rfl
          refine AK.call co16 rfl (fun w hw => s_same w mv m2 (meetB xs ys) (meetB xs ys) (RdI.own 0 hw rfl) (RdI.own 2 hw rfl) (by omega)) trivial rfl ?_
          rintro r o ⟨rfl, rfl⟩
          refine AK.val _ (Yl.move rfl) trivial rfl ?_
          refine AK.knownT (g := 48) rfl (by simp) (fun hg_6_5 => ?_)
          refine AK.val _ (Yl.move rfl) ⟨_, rfl, congrArg (fun b => some (Value.bool b)) hg_6_5⟩ rfl ?_
          refine AK.val _ (Yl.move rfl) ⟨_, rfl, congrArg (fun b => some (Value.bool b)) hg_6_5⟩ rfl ?_
          refine AK.val _ (Yl.move rfl) ⟨_, rfl, congrArg (fun b => some (Value.bool b)) hg_6_5⟩ rfl ?_
          refine AK.call co41 rfl (fun w hw => s_refjoin w u v xs ys (RdI.at hu0 hw) (RdI.at hv0 hw) hok) ⟨_, rfl, congrArg (fun b => some (Value.bool b)) hg_6_5⟩ rfl ?_
          rintro j2 o rfl
          refine AK.call co16 rfl (fun w hw => s_same w jv j2 (joinB xs ys) (joinB xs ys) (RdI.own 1 hw rfl) (RdI.own 3 hw rfl) (by omega)) ⟨_, rfl, congrArg (fun b => some (Value.bool b)) hg_6_5⟩ rfl ?_
          rintro r o ⟨rfl, rfl⟩
          refine AK.val _ (Yl.pickT rfl (hg_6_5) rfl) trivial rfl ?_
          refine AK.val _ (Yl.move rfl) trivial rfl ?_
          refine AK.knownT (g := 55) rfl (by simp) (fun hg_6_12 => ?_)
          refine AK.call co20 rfl (fun w hw => s_awake w) ⟨_, rfl, congrArg (fun b => some (Value.bool b)) hg_6_12⟩ rfl ?_
          rintro r o ⟨rfl, rfl⟩
          refine AK.val _ (Yl.pickT rfl (hg_6_12) rfl) trivial rfl ?_
          refine AK.val _ (Yl.assign rfl) trivial rfl ?_
          refine AK.nil ?_
          refine AK.then_ (hK11 _ ?_)
          refine AK.ret ?_
          refine AK.ret1 rfl rfl (fun w hw => ⟨_, _, ?_, rfl, Ret.of (hw.pick [] (by decide) rfl rfl)⟩)
          exact ⟨rfl, rfl⟩

set_option maxHeartbeats 1600000 in
set_option maxRecDepth 100000 in
theorem l_lattice (w : World) (u v t : Value) (xs ys zs : List Int) (hu : RdI w u xs) (hv : RdI w v ys) (ht : RdI w t zs) : CallS Try.prog 12 [u, v, t] w (fun r o => r = .bool true ∧ o = []) := by
  have hu0 := hu
  have hv0 := hv
  have ht0 := ht
  unfold RdI at hu hv ht
  have hmx := Rd.le hu
  have hmy := Rd.le hv
  have hmz := Rd.le ht
  refine spec_of Try.func12 rfl (Nat.le_of_ble_eq_true rfl) ?_
  refine AK.seq (fun _ hK1 => ?_)
  refine AK.region ?_
  refine AK.val _ (Yl.assign rfl) trivial rfl ?_
  refine AK.nil ?_
  refine AK.then_ (hK1 _ ?_)
  refine AK.seq (fun _ hK2 => ?_)
  refine AK.seq (fun _ hK3 => ?_)
  refine AK.region ?_
  refine AK.val _ (Yl.move rfl) trivial rfl ?_
  refine AK.val _ (Yl.move rfl) trivial rfl ?_
  refine AK.call co42 rfl (fun w hw => s_pair w u v xs ys (RdI.at hu0 hw) (RdI.at hv0 hw) 60 (by omega)) trivial rfl ?_
  rintro r o ⟨rfl, rfl⟩
  refine AK.val _ (Yl.not rfl) trivial rfl ?_
  refine AK.val _ (Yl.move rfl) trivial rfl ?_
  refine AK.splitB (g := 13) rfl (fun hg_1_4 => ?_) (fun hg_1_4 => ?_)
  · have hg_1_4' := hg_1_4
    try simp only [decide_eq_true_eq, decide_eq_false_iff_not, Bool.not_eq_true', Bool.not_eq_false', Bool.not_not, ne_eq, Decidable.not_not, Int.not_lt, Int.not_le, beq_iff_eq, bne_iff_ne, Bool.and_eq_true, Bool.or_eq_true, Bool.or_eq_false_iff, Bool.not_false, Bool.not_true, reduceCtorEq, not_true_eq_false, not_false_eq_true] at hg_1_4'
    refine AK.pass rfl rfl (hg_1_4) rfl ?_
    refine AK.pass rfl rfl (hg_1_4) rfl ?_
    refine AK.pass rfl rfl (hg_1_4) rfl ?_
    refine AK.pass rfl rfl (hg_1_4) rfl ?_
    refine AK.val _ (Yl.pickT rfl (hg_1_4) rfl) trivial rfl ?_
    refine AK.nil ?_
    refine AK.then_ (hK3 _ ?_)
    refine AK.cond_t rfl (rfl) ?_
    refine AK.seq (fun _ hK4 => ?_)
    refine AK.region ?_
    refine AK.call co20 rfl (fun w hw => s_awake w) trivial rfl ?_
    rintro r o ⟨rfl, rfl⟩
    refine AK.val _ (Yl.assign rfl) trivial rfl ?_
    refine AK.nil ?_
    refine AK.then_ (hK4 _ ?_)
    refine AK.ret ?_
    refine AK.then_ret ?_
    refine AK.ret1 rfl rfl (fun w hw => ⟨_, _, ?_, rfl, Ret.of (hw.pick [] (by decide) rfl rfl)⟩)
    exact ⟨rfl, rfl⟩
  · have hg_1_4' := hg_1_4
    try simp only [decide_eq_true_eq, decide_eq_false_iff_not, Bool.not_eq_true', Bool.not_eq_false', Bool.not_not, ne_eq, Decidable.not_not, Int.not_lt, Int.not_le, beq_iff_eq, bne_iff_ne, Bool.and_eq_true, Bool.or_eq_true, Bool.or_eq_false_iff, Bool.not_false, Bool.not_true, reduceCtorEq, not_true_eq_false, not_false_eq_true] at hg_1_4'
    refine AK.val _ (Yl.move rfl) ⟨_, rfl, congrArg (fun b => some (Value.bool b)) hg_1_4⟩ rfl ?_
    refine AK.val _ (Yl.move rfl) ⟨_, rfl, congrArg (fun b => some (Value.bool b)) hg_1_4⟩ rfl ?_
    refine AK.call co42 rfl (fun w hw => s_pair w v t ys zs (RdI.at hv0 hw) (RdI.at ht0 hw) 60 (by omega)) ⟨_, rfl, congrArg (fun b => some (Value.bool b)) hg_1_4⟩ rfl ?_
    rintro r o ⟨rfl, rfl⟩
    refine AK.val _ (Yl.not rfl) ⟨_, rfl, congrArg (fun b => some (Value.bool b)) hg_1_4⟩ rfl ?_
    refine AK.val _ (Yl.pickF rfl (hg_1_4) rfl) trivial rfl ?_
    refine AK.nil ?_
    refine AK.then_ (hK3 _ ?_)
    refine AK.condB rfl (fun hc0 => ?_) (fun hc0 => ?_)
    · refine AK.seq (fun _ hK5 => ?_)
      refine AK.region ?_
      refine AK.call co20 rfl (fun w hw => s_awake w) trivial rfl ?_
      rintro r o ⟨rfl, rfl⟩
      refine AK.val _ (Yl.assign rfl) trivial rfl ?_
      refine AK.nil ?_
      refine AK.then_ (hK5 _ ?_)
      refine AK.ret ?_
      refine AK.then_ret ?_
      refine AK.ret1 rfl rfl (fun w hw => ⟨_, _, ?_, rfl, Ret.of (hw.pick [] (by decide) rfl rfl)⟩)
      exact ⟨rfl, rfl⟩
    · obtain ⟨hok, hn1⟩ := hg_1_4'
      obtain ⟨hok2, hn2⟩ := of_decide_eq_true hc0
      have hok3 := hok.trans hok2
      have hml := meetB_len hok
      have hjl := joinB_len hok
      have ho1 := hok.1
      have ho2 := hok2.1
      refine AK.skip ?_
      refine AK.then_ (hK2 _ ?_)
      refine AK.seq (fun _ hK6 => ?_)
      refine AK.region ?_
      refine AK.val _ (Yl.move rfl) trivial rfl ?_
      refine AK.val _ (Yl.move rfl) trivial rfl ?_
      refine AK.call co38 rfl (fun w hw => s_meet w u v xs ys (RdI.at hu0 hw) (RdI.at hv0 hw)) trivial rfl ?_
      rintro mv o rfl
      refine AK.val _ (Yl.move rfl) trivial rfl ?_
      refine AK.val _ (Yl.move rfl) trivial rfl ?_
      refine AK.call co39 rfl (fun w hw => s_join w u v xs ys (RdI.at hu0 hw) (RdI.at hv0 hw)) trivial rfl ?_
      rintro jv o rfl
      refine AK.val _ (Yl.assign rfl) trivial rfl ?_
      refine AK.val _ (Yl.assign rfl) trivial rfl ?_
      refine AK.nil ?_
      refine AK.then_ (hK6 _ ?_)
      refine AK.seq (fun _ hK7 => ?_)
      refine AK.seq (fun _ hK8 => ?_)
      refine AK.region ?_
      refine AK.val _ (Yl.move rfl) trivial rfl ?_
      refine AK.val _ (Yl.lenR sl22 rfl (by first | exact .arg ‹_› | exact .own 0 rfl | exact .own 1 rfl | exact .own 2 rfl | exact .own 3 rfl | exact .own 4 rfl | exact .own 5 rfl | exact .own 6 rfl | exact .own 7 rfl | exact .own 8 rfl | assumption)) trivial rfl ?_
      refine AK.val _ (Yl.move rfl) trivial rfl ?_
      refine AK.val _ (Yl.lenR sl22 rfl (by first | exact .arg ‹_› | exact .own 0 rfl | exact .own 1 rfl | exact .own 2 rfl | exact .own 3 rfl | exact .own 4 rfl | exact .own 5 rfl | exact .own 6 rfl | exact .own 7 rfl | exact .own 8 rfl | assumption)) trivial rfl ?_
      refine AK.val _ (Yl.neq rfl rfl) trivial rfl ?_
      refine AK.val _ (Yl.move rfl) trivial rfl ?_
      refine AK.knownF (g := 31) rfl (decide_eq_false (by omega)) (fun hg_4_5 => ?_)
      refine AK.val _ (Yl.move rfl) ⟨_, rfl, congrArg (fun b => some (Value.bool b)) hg_4_5⟩ rfl ?_
      refine AK.val _ (Yl.lenR sl22 rfl (by first | exact .arg ‹_› | exact .own 0 rfl | exact .own 1 rfl | exact .own 2 rfl | exact .own 3 rfl | exact .own 4 rfl | exact .own 5 rfl | exact .own 6 rfl | exact .own 7 rfl | exact .own 8 rfl | assumption)) ⟨_, rfl, congrArg (fun b => some (Value.bool b)) hg_4_5⟩ rfl ?_
      refine AK.val _ (Yl.move rfl) ⟨_, rfl, congrArg (fun b => some (Value.bool b)) hg_4_5⟩ rfl ?_
      refine AK.val _ (Yl.lenR sl22 rfl (by first | exact .arg ‹_› | exact .own 0 rfl | exact .own 1 rfl | exact .own 2 rfl | exact .own 3 rfl | exact .own 4 rfl | exact .own 5 rfl | exact .own 6 rfl | exact .own 7 rfl | exact .own 8 rfl | assumption)) ⟨_, rfl, congrArg (fun b => some (Value.bool b)) hg_4_5⟩ rfl ?_
      refine AK.val _ (Yl.neq rfl rfl) ⟨_, rfl, congrArg (fun b => some (Value.bool b)) hg_4_5⟩ rfl ?_
      refine AK.val _ (Yl.pickF rfl (hg_4_5) rfl) trivial rfl ?_
      refine AK.val _ (Yl.move rfl) trivial rfl ?_
      refine AK.knownF (g := 38) rfl (decide_eq_false (by omega)) (fun hg_4_12 => ?_)
      refine AK.val _ (Yl.move rfl) ⟨_, rfl, congrArg (fun b => some (Value.bool b)) hg_4_12⟩ rfl ?_
      refine AK.val _ (Yl.move rfl) ⟨_, rfl, congrArg (fun b => some (Value.bool b)) hg_4_12⟩ rfl ?_
      refine AK.val _ (Yl.move rfl) ⟨_, rfl, congrArg (fun b => some (Value.bool b)) hg_4_12⟩ rfl ?_
      refine AK.call co38 rfl (fun w hw => s_meet w v u ys xs (RdI.at hv0 hw) (RdI.at hu0 hw)) ⟨_, rfl, congrArg (fun b => some (Value.bool b)) hg_4_12⟩ rfl ?_
      rintro m2 o rfl
      refine AK.call co16 rfl (fun w hw => s_same w mv m2 (meetB xs ys) (meetB ys xs) (RdI.own 0 hw rfl) (RdI.own 2 hw rfl) (by omega)) ⟨_, rfl, congrArg (fun b => some (Value.bool b)) hg_4_12⟩ rfl ?_
      rintro r o ⟨rfl, rfl⟩
      refine AK.val _ (Yl.not rfl) ⟨_, rfl, congrArg (fun b => some (Value.bool b)) hg_4_12⟩ rfl ?_
      refine AK.val _ (Yl.pickF rfl (hg_4_12) rfl) trivial rfl ?_
      refine AK.val _ (Yl.move rfl) trivial rfl ?_
      refine AK.knownF (g := 46) rfl (by rw [decide_eq_true (meet_comm hok)]; rfl) (fun hg_4_20 => ?_)
      refine AK.val _ (Yl.move rfl) ⟨_, rfl, congrArg (fun b => some (Value.bool b)) hg_4_20⟩ rfl ?_
      refine AK.val _ (Yl.move rfl) ⟨_, rfl, congrArg (fun b => some (Value.bool b)) hg_4_20⟩ rfl ?_
      refine AK.val _ (Yl.move rfl) ⟨_, rfl, congrArg (fun b => some (Value.bool b)) hg_4_20⟩ rfl ?_
      refine AK.call co39 rfl (fun w hw => s_join w v u ys xs (RdI.at hv0 hw) (RdI.at hu0 hw)) ⟨_, rfl, congrArg (fun b => some (Value.bool b)) hg_4_20⟩ rfl ?_
      rintro j2 o rfl
      refine AK.call co16 rfl (fun w hw => s_same w jv j2 (joinB xs ys) (joinB ys xs) (RdI.own 1 hw rfl) (RdI.own 3 hw rfl) (by omega)) ⟨_, rfl, congrArg (fun b => some (Value.bool b)) hg_4_20⟩ rfl ?_
      rintro r o ⟨rfl, rfl⟩
      refine AK.val _ (Yl.not rfl) ⟨_, rfl, congrArg (fun b => some (Value.bool b)) hg_4_20⟩ rfl ?_
      refine AK.val _ (Yl.pickF rfl (hg_4_20) rfl) trivial rfl ?_
      refine AK.nil ?_
      refine AK.then_ (hK8 _ ?_)
      refine AK.cond_f rfl (by rw [decide_eq_true (join_comm hok)]; rfl) ?_
      refine AK.skip ?_
      refine AK.then_ (hK7 _ ?_)
      refine AK.seq (fun _ hK9 => ?_)
      refine AK.seq (fun _ hK10 => ?_)
      refine AK.region ?_
      refine AK.val _ (Yl.move rfl) trivial rfl ?_
      refine AK.val _ (Yl.move rfl) trivial rfl ?_
      refine AK.call co38 rfl (fun w hw => s_meet w mv t (meetB xs ys) zs (RdI.own 0 hw rfl) (RdI.at ht0 hw)) trivial rfl ?_
      rintro m3 o rfl
      refine AK.val _ (Yl.move rfl) trivial rfl ?_
      refine AK.val _ (Yl.move rfl) trivial rfl ?_
      refine AK.val _ (Yl.move rfl) trivial rfl ?_
      refine AK.call co38 rfl (fun w hw => s_meet w v t ys zs (RdI.at hv0 hw) (RdI.at ht0 hw)) trivial rfl ?_
      rintro m4 o rfl
      refine AK.call co38 rfl (fun w hw => s_meet w u m4 xs (meetB ys zs) (RdI.at hu0 hw) (RdI.own 5 hw rfl)) trivial rfl ?_
      rintro m5 o rfl
      refine AK.call co16 rfl (fun w hw => s_same w m3 m5 (meetB (meetB xs ys) zs) (meetB xs (meetB ys zs)) (RdI.own 4 hw rfl) (RdI.own 6 hw rfl) (by rw [meet_assoc hok hok2, meetB_len (hok.trans hok2.meet)]; omega)) trivial rfl ?_
      rintro r o ⟨rfl, rfl⟩
      refine AK.val _ (Yl.not rfl) trivial rfl ?_
      refine AK.val _ (Yl.move rfl) trivial rfl ?_
      refine AK.knownF (g := 64) rfl (by rw [decide_eq_true (meet_assoc hok hok2)]; rfl) (fun hg_6_10 => ?_)
      refine AK.val _ (Yl.move rfl) ⟨_, rfl, congrArg (fun b => some (Value.bool b)) hg_6_10⟩ rfl ?_
      refine AK.val _ (Yl.move rfl) ⟨_, rfl, congrArg (fun b => some (Value.bool b)) hg_6_10⟩ rfl ?_
      refine AK.call co39 rfl (fun w hw => s_join w jv t (joinB xs ys) zs (RdI.own 1 hw rfl) (RdI.at ht0 hw)) ⟨_, rfl, congrArg (fun b => some (Value.bool b)) hg_6_10⟩ rfl ?_
      rintro j3 o rfl
      refine AK.val _ (Yl.move rfl) ⟨_, rfl, congrArg (fun b => some (Value.bool b)) hg_6_10⟩ rfl ?_
      refine AK.val _ (Yl.move rfl) ⟨_, rfl, congrArg (fun b => some (Value.bool b)) hg_6_10⟩ rfl ?_
      refine AK.val _ (Yl.move rfl) ⟨_, rfl, congrArg (fun b => some (Value.bool b)) hg_6_10⟩ rfl ?_
      refine AK.call co39 rfl (fun w hw => s_join w v t ys zs (RdI.at hv0 hw) (RdI.at ht0 hw)) ⟨_, rfl, congrArg (fun b => some (Value.bool b)) hg_6_10⟩ rfl ?_
      rintro j4 o rfl
      refine AK.call co39 rfl (fun w hw => s_join w u j4 xs (joinB ys zs) (RdI.at hu0 hw) (RdI.own 8 hw rfl)) ⟨_, rfl, congrArg (fun b => some (Value.bool b)) hg_6_10⟩ rfl ?_
      rintro j5 o rfl
      refine AK.call co16 rfl (fun w hw => s_same w j3 j5 (joinB (joinB xs ys) zs) (joinB xs (joinB ys zs)) (RdI.own 7 hw rfl) (RdI.own 9 hw rfl) (by rw [join_assoc hok hok2, joinB_len (hok.trans hok2.join)]; omega)) ⟨_, rfl, congrArg (fun b => some (Value.bool b)) hg_6_10⟩ rfl ?_
      rintro r o ⟨rfl, rfl⟩
      refine AK.val _ (Yl.not rfl) ⟨_, rfl, congrArg (fun b => some (Value.bool b)) hg_6_10⟩ rfl ?_
      refine AK.val _ (Yl.pickF rfl (hg_6_10) rfl) trivial rfl ?_
      refine AK.nil ?_
      refine AK.then_ (hK10 _ ?_)
      refine AK.cond_f rfl (by rw [decide_eq_true (join_assoc hok hok2)]; rfl) ?_
      refine AK.skip ?_
      refine AK.then_ (hK9 _ ?_)
      refine AK.seq (fun _ hK11 => ?_)
      refine AK.region ?_
      refine AK.val _ (Yl.move rfl) trivial rfl ?_
      refine AK.val _ (Yl.move rfl) trivial rfl ?_
      refine AK.call co39 rfl (fun w hw => s_join w u mv xs (meetB xs ys) (RdI.at hu0 hw) (RdI.own 0 hw rfl)) trivial rfl ?_
      rintro a1 o rfl
      refine AK.val _ (Yl.move rfl) trivial rfl ?_
      refine AK.call co16 rfl (fun w hw => s_same w a1 u (joinB xs (meetB xs ys)) xs (RdI.own 10 hw rfl) (RdI.at hu0 hw) (by rw [absorb_join hok]; omega)) trivial rfl ?_
      rintro r o ⟨rfl, rfl⟩
      refine AK.val _ (Yl.move rfl) trivial rfl ?_
      refine AK.knownT (g := 81) rfl (decide_eq_true (absorb_join hok)) (fun hg_8_5 => ?_)
      refine AK.val _ (Yl.move rfl) ⟨_, rfl, congrArg (fun b => some (Value.bool b)) hg_8_5⟩ rfl ?_
      refine AK.val _ (Yl.move rfl) ⟨_, rfl, congrArg (fun b => some (Value.bool b)) hg_8_5⟩ rfl ?_
      refine AK.call co38 rfl (fun w hw => s_meet w u jv xs (joinB xs ys) (RdI.at hu0 hw) (RdI.own 1 hw rfl)) ⟨_, rfl, congrArg (fun b => some (Value.bool b)) hg_8_5⟩ rfl ?_
      rintro a2 o rfl
      refine AK.val _ (Yl.move rfl) ⟨_, rfl, congrArg (fun b => some (Value.bool b)) hg_8_5⟩ rfl ?_
      refine AK.call co16 rfl (fun w hw => s_same w a2 u (meetB xs (joinB xs ys)) xs (RdI.own 11 hw rfl) (RdI.at hu0 hw) (by rw [absorb_meet hok]; omega)) ⟨_, rfl, congrArg (fun b => some (Value.bool b)) hg_8_5⟩ rfl ?_
      rintro r o ⟨rfl, rfl⟩
      refine AK.val _ (Yl.pickT rfl (hg_8_5) rfl) trivial rfl ?_
      refine AK.val _ (Yl.move rfl) trivial rfl ?_
      refine AK.knownT (g := 88) rfl (decide_eq_true (absorb_meet hok)) (fun hg_8_12 => ?_)
      refine AK.call co20 rfl (fun w hw => s_awake w) ⟨_, rfl, congrArg (fun b => some (Value.bool b)) hg_8_12⟩ rfl ?_
      rintro r o ⟨rfl, rfl⟩
      refine AK.val _ (Yl.pickT rfl (hg_8_12) rfl) trivial rfl ?_
      refine AK.val _ (Yl.assign rfl) trivial rfl ?_
      refine AK.nil ?_
      refine AK.then_ (hK11 _ ?_)
      refine AK.ret ?_
      refine AK.ret1 rfl rfl (fun w hw => ⟨_, _, ?_, rfl, Ret.of (hw.pick [] (by decide) rfl rfl)⟩)
      exact ⟨rfl, rfl⟩

set_option maxHeartbeats 1600000 in
set_option maxRecDepth 100000 in
theorem l_extremes (w : World) (u v t : Value) (xs ys zs : List Int) (hu : RdI w u xs) (hv : RdI w v ys) (ht : RdI w t zs) : CallS Try.prog 14 [u, v, t] w (fun r o => r = .bool true ∧ o = []) := by
  have hu0 := hu
  have hv0 := hv
  have ht0 := ht
  unfold RdI at hu hv ht
  have hmx := Rd.le hu
  have hmy := Rd.le hv
  have hmz := Rd.le ht
  refine spec_of Try.func14 rfl (Nat.le_of_ble_eq_true rfl) ?_
  refine AK.seq (fun _ hK1 => ?_)
  refine AK.region ?_
  refine AK.val _ (Yl.assign rfl) trivial rfl ?_
  refine AK.nil ?_
  refine AK.then_ (hK1 _ ?_)
  refine AK.seq (fun _ hK2 => ?_)
  refine AK.seq (fun _ hK3 => ?_)
  refine AK.region ?_
  refine AK.val _ (Yl.move rfl) trivial rfl ?_
  refine AK.val _ (Yl.move rfl) trivial rfl ?_
  refine AK.call co42 rfl (fun w hw => s_pair w u v xs ys (RdI.at hu0 hw) (RdI.at hv0 hw) 60 (by omega)) trivial rfl ?_
  rintro r o ⟨rfl, rfl⟩
  refine AK.val _ (Yl.not rfl) trivial rfl ?_
  refine AK.val _ (Yl.move rfl) trivial rfl ?_
  refine AK.splitB (g := 15) rfl (fun hg_1_4 => ?_) (fun hg_1_4 => ?_)
  · have hg_1_4' := hg_1_4
    try simp only [decide_eq_true_eq, decide_eq_false_iff_not, Bool.not_eq_true', Bool.not_eq_false', Bool.not_not, ne_eq, Decidable.not_not, Int.not_lt, Int.not_le, beq_iff_eq, bne_iff_ne, Bool.and_eq_true, Bool.or_eq_true, Bool.or_eq_false_iff, Bool.not_false, Bool.not_true, reduceCtorEq, not_true_eq_false, not_false_eq_true] at hg_1_4'
    refine AK.pass rfl rfl (hg_1_4) rfl ?_
    refine AK.pass rfl rfl (hg_1_4) rfl ?_
    refine AK.pass rfl rfl (hg_1_4) rfl ?_
    refine AK.pass rfl rfl (hg_1_4) rfl ?_
    refine AK.val _ (Yl.pickT rfl (hg_1_4) rfl) trivial rfl ?_
    refine AK.nil ?_
    refine AK.then_ (hK3 _ ?_)
    refine AK.cond_t rfl (rfl) ?_
    refine AK.seq (fun _ hK4 => ?_)
    refine AK.region ?_
    refine AK.call co20 rfl (fun w hw => s_awake w) trivial rfl ?_
    rintro r o ⟨rfl, rfl⟩
    refine AK.val _ (Yl.assign rfl) trivial rfl ?_
    refine AK.nil ?_
    refine AK.then_ (hK4 _ ?_)
    refine AK.ret ?_
    refine AK.then_ret ?_
    refine AK.ret1 rfl rfl (fun w hw => ⟨_, _, ?_, rfl, Ret.of (hw.pick [] (by decide) rfl rfl)⟩)
    exact ⟨rfl, rfl⟩
  · have hg_1_4' := hg_1_4
    try simp only [decide_eq_true_eq, decide_eq_false_iff_not, Bool.not_eq_true', Bool.not_eq_false', Bool.not_not, ne_eq, Decidable.not_not, Int.not_lt, Int.not_le, beq_iff_eq, bne_iff_ne, Bool.and_eq_true, Bool.or_eq_true, Bool.or_eq_false_iff, Bool.not_false, Bool.not_true, reduceCtorEq, not_true_eq_false, not_false_eq_true] at hg_1_4'
    refine AK.val _ (Yl.move rfl) ⟨_, rfl, congrArg (fun b => some (Value.bool b)) hg_1_4⟩ rfl ?_
    refine AK.val _ (Yl.move rfl) ⟨_, rfl, congrArg (fun b => some (Value.bool b)) hg_1_4⟩ rfl ?_
    refine AK.call co42 rfl (fun w hw => s_pair w v t ys zs (RdI.at hv0 hw) (RdI.at ht0 hw) 60 (by omega)) ⟨_, rfl, congrArg (fun b => some (Value.bool b)) hg_1_4⟩ rfl ?_
    rintro r o ⟨rfl, rfl⟩
    refine AK.val _ (Yl.not rfl) ⟨_, rfl, congrArg (fun b => some (Value.bool b)) hg_1_4⟩ rfl ?_
    refine AK.val _ (Yl.pickF rfl (hg_1_4) rfl) trivial rfl ?_
    refine AK.nil ?_
    refine AK.then_ (hK3 _ ?_)
    refine AK.condB rfl (fun hc0 => ?_) (fun hc0 => ?_)
    · refine AK.seq (fun _ hK5 => ?_)
      refine AK.region ?_
      refine AK.call co20 rfl (fun w hw => s_awake w) trivial rfl ?_
      rintro r o ⟨rfl, rfl⟩
      refine AK.val _ (Yl.assign rfl) trivial rfl ?_
      refine AK.nil ?_
      refine AK.then_ (hK5 _ ?_)
      refine AK.ret ?_
      refine AK.then_ret ?_
      refine AK.ret1 rfl rfl (fun w hw => ⟨_, _, ?_, rfl, Ret.of (hw.pick [] (by decide) rfl rfl)⟩)
      exact ⟨rfl, rfl⟩
    · obtain ⟨hok, hn1⟩ := hg_1_4'
      obtain ⟨hok2, hn2⟩ := of_decide_eq_true hc0
      have hok3 := hok.trans hok2
      have hml := meetB_len hok
      have hjl := joinB_len hok
      have ho1 := hok.1
      have ho2 := hok2.1
      refine AK.skip ?_
      refine AK.then_ (hK2 _ ?_)
      refine AK.seq (fun _ hK6 => ?_)
      refine AK.region ?_
      refine AK.val _ (Yl.move rfl) trivial rfl ?_
      refine AK.val _ (Yl.move rfl) trivial rfl ?_
      refine AK.call co38 rfl (fun w hw => s_meet w u v xs ys (RdI.at hu0 hw) (RdI.at hv0 hw)) trivial rfl ?_
      rintro mv o rfl
      refine AK.val _ (Yl.move rfl) trivial rfl ?_
      refine AK.val _ (Yl.move rfl) trivial rfl ?_
      refine AK.call co39 rfl (fun w hw => s_join w u v xs ys (RdI.at hu0 hw) (RdI.at hv0 hw)) trivial rfl ?_
      rintro jv o rfl
      refine AK.val _ (Yl.assign rfl) trivial rfl ?_
      refine AK.val _ (Yl.assign rfl) trivial rfl ?_
      refine AK.nil ?_
      refine AK.then_ (hK6 _ ?_)
      refine AK.seq (fun _ hK7 => ?_)
      refine AK.seq (fun _ hK8 => ?_)
      refine AK.region ?_
      refine AK.val _ (Yl.move rfl) trivial rfl ?_
      refine AK.val _ (Yl.move rfl) trivial rfl ?_
      refine AK.call co33 rfl (fun w hw => s_refines w mv u (meetB xs ys) xs (RdI.own 0 hw rfl) (RdI.at hu0 hw)) trivial rfl ?_
      rintro r o ⟨rfl, rfl⟩
      refine AK.val _ (Yl.not rfl) trivial rfl ?_
      refine AK.val _ (Yl.move rfl) trivial rfl ?_
      refine AK.knownF (g := 32) rfl (by rw [ref_meet1 hok]; rfl) (fun hg_4_4 => ?_)
      refine AK.val _ (Yl.move rfl) ⟨_, rfl, congrArg (fun b => some (Value.bool b)) hg_4_4⟩ rfl ?_
      refine AK.val _ (Yl.move rfl) ⟨_, rfl, congrArg (fun b => some (Value.bool b)) hg_4_4⟩ rfl ?_
      refine AK.call co33 rfl (fun w hw => s_refines w mv v (meetB xs ys) ys (RdI.own 0 hw rfl) (RdI.at hv0 hw)) ⟨_, rfl, congrArg (fun b => some (Value.bool b)) hg_4_4⟩ rfl ?_
      rintro r o ⟨rfl, rfl⟩
      refine AK.val _ (Yl.not rfl) ⟨_, rfl, congrArg (fun b => some (Value.bool b)) hg_4_4⟩ rfl ?_
      refine AK.val _ (Yl.pickF rfl (hg_4_4) rfl) trivial rfl ?_
      refine AK.val _ (Yl.move rfl) trivial rfl ?_
      refine AK.knownF (g := 38) rfl (by rw [ref_meet2 hok]; rfl) (fun hg_4_10 => ?_)
      refine AK.val _ (Yl.move rfl) ⟨_, rfl, congrArg (fun b => some (Value.bool b)) hg_4_10⟩ rfl ?_
      refine AK.val _ (Yl.move rfl) ⟨_, rfl, congrArg (fun b => some (Value.bool b)) hg_4_10⟩ rfl ?_
      refine AK.call co33 rfl (fun w hw => s_refines w u jv xs (joinB xs ys) (RdI.at hu0 hw) (RdI.own 1 hw rfl)) ⟨_, rfl, congrArg (fun b => some (Value.bool b)) hg_4_10⟩ rfl ?_
      rintro r o ⟨rfl, rfl⟩
      refine AK.val _ (Yl.not rfl) ⟨_, rfl, congrArg (fun b => some (Value.bool b)) hg_4_10⟩ rfl ?_
      refine AK.val _ (Yl.pickF rfl (hg_4_10) rfl) trivial rfl ?_
      refine AK.val _ (Yl.move rfl) trivial rfl ?_
      refine AK.knownF (g := 44) rfl (by rw [ref_join1 hok]; rfl) (fun hg_4_16 => ?_)
      refine AK.val _ (Yl.move rfl) ⟨_, rfl, congrArg (fun b => some (Value.bool b)) hg_4_16⟩ rfl ?_
      refine AK.val _ (Yl.move rfl) ⟨_, rfl, congrArg (fun b => some (Value.bool b)) hg_4_16⟩ rfl ?_
      refine AK.call co33 rfl (fun w hw => s_refines w v jv ys (joinB xs ys) (RdI.at hv0 hw) (RdI.own 1 hw rfl)) ⟨_, rfl, congrArg (fun b => some (Value.bool b)) hg_4_16⟩ rfl ?_
      rintro r o ⟨rfl, rfl⟩
      refine AK.val _ (Yl.not rfl) ⟨_, rfl, congrArg (fun b => some (Value.bool b)) hg_4_16⟩ rfl ?_
      refine AK.val _ (Yl.pickF rfl (hg_4_16) rfl) trivial rfl ?_
      refine AK.nil ?_
      refine AK.then_ (hK8 _ ?_)
      refine AK.cond_f rfl (by rw [ref_join2 hok]; rfl) ?_
      refine AK.skip ?_
      refine AK.then_ (hK7 _ ?_)
      refine AK.seq (fun _ hK9 => ?_)
      refine AK.region ?_
      refine AK.val _ (Yl.move rfl) trivial rfl ?_
      refine AK.val _ (Yl.move rfl) trivial rfl ?_
      refine AK.call co33 rfl (fun w hw => s_refines w t u zs xs (RdI.at ht0 hw) (RdI.at hu0 hw)) trivial rfl ?_
      rintro r o ⟨rfl, rfl⟩
      refine AK.val _ (Yl.move rfl) trivial rfl ?_
      refine AK.splitB (g := 53) rfl (fun hg_6_3 => ?_) (fun hg_6_3 => ?_)
      · have hg_6_3' := hg_6_3
        try simp only [decide_eq_true_eq, decide_eq_false_iff_not, Bool.not_eq_true', Bool.not_eq_false', Bool.not_not, ne_eq, Decidable.not_not, Int.not_lt, Int.not_le, beq_iff_eq, bne_iff_ne, Bool.and_eq_true, Bool.or_eq_true, Bool.or_eq_false_iff, Bool.not_false, Bool.not_true, reduceCtorEq, not_true_eq_false, not_false_eq_true] at hg_6_3'
        refine AK.val _ (Yl.move rfl) ⟨_, rfl, congrArg (fun b => some (Value.bool b)) hg_6_3⟩ rfl ?_
        refine AK.val _ (Yl.move rfl) ⟨_, rfl, congrArg (fun b => some (Value.bool b)) hg_6_3⟩ rfl ?_
        refine AK.call co33 rfl (fun w hw => s_refines w t v zs ys (RdI.at ht0 hw) (RdI.at hv0 hw)) ⟨_, rfl, congrArg (fun b => some (Value.bool b)) hg_6_3⟩ rfl ?_
        rintro r o ⟨rfl, rfl⟩
        refine AK.val _ (Yl.pickT rfl (hg_6_3) rfl) trivial rfl ?_
        refine AK.val _ (Yl.assign rfl) trivial rfl ?_
        refine AK.nil ?_
        refine AK.then_ (hK9 _ ?_)
        refine AK.seq (fun _ hK10 => ?_)
        refine AK.region ?_
        refine AK.val _ (Yl.move rfl) trivial rfl ?_
        refine AK.val _ (Yl.move rfl) trivial rfl ?_
        refine AK.call co33 rfl (fun w hw => s_refines w u t xs zs (RdI.at hu0 hw) (RdI.at ht0 hw)) trivial rfl ?_
        rintro r o ⟨rfl, rfl⟩
        refine AK.val _ (Yl.move rfl) trivial rfl ?_
        refine AK.splitB (g := 61) rfl (fun hg_7_3 => ?_) (fun hg_7_3 => ?_)
        · have hg_7_3' := hg_7_3
          try simp only [decide_eq_true_eq, decide_eq_false_iff_not, Bool.not_eq_true', Bool.not_eq_false', Bool.not_not, ne_eq, Decidable.not_not, Int.not_lt, Int.not_le, beq_iff_eq, bne_iff_ne, Bool.and_eq_true, Bool.or_eq_true, Bool.or_eq_false_iff, Bool.not_false, Bool.not_true, reduceCtorEq, not_true_eq_false, not_false_eq_true] at hg_7_3'
          refine AK.val _ (Yl.move rfl) ⟨_, rfl, congrArg (fun b => some (Value.bool b)) hg_7_3⟩ rfl ?_
          refine AK.val _ (Yl.move rfl) ⟨_, rfl, congrArg (fun b => some (Value.bool b)) hg_7_3⟩ rfl ?_
          refine AK.call co33 rfl (fun w hw => s_refines w v t ys zs (RdI.at hv0 hw) (RdI.at ht0 hw)) ⟨_, rfl, congrArg (fun b => some (Value.bool b)) hg_7_3⟩ rfl ?_
          rintro r o ⟨rfl, rfl⟩
          refine AK.val _ (Yl.pickT rfl (hg_7_3) rfl) trivial rfl ?_
          refine AK.val _ (Yl.assign rfl) trivial rfl ?_
          refine AK.nil ?_
          refine AK.then_ (hK10 _ ?_)
          refine AK.seq (fun _ hK11 => ?_)
          refine AK.region ?_
          refine AK.val _ (Yl.move rfl) trivial rfl ?_
          refine AK.val _ (Yl.move rfl) trivial rfl ?_
          refine AK.val _ (Yl.move rfl) trivial rfl ?_
          refine AK.call co33 rfl (fun w hw => s_refines w t mv zs (meetB xs ys) (RdI.at ht0 hw) (RdI.own 0 hw rfl)) trivial rfl ?_
          rintro r o ⟨rfl, rfl⟩
          refine AK.val _ (Yl.eqlB bo4 rfl rfl) trivial rfl ?_
          refine AK.val _ (Yl.move rfl) trivial rfl ?_
          refine AK.knownT (g := 71) rfl (by rw [← ref_under hok, hg_6_3]; simp) (fun hg_8_5 => ?_)
          refine AK.val _ (Yl.move rfl) ⟨_, rfl, congrArg (fun b => some (Value.bool b)) hg_8_5⟩ rfl ?_
          refine AK.val _ (Yl.move rfl) ⟨_, rfl, congrArg (fun b => some (Value.bool b)) hg_8_5⟩ rfl ?_
          refine AK.val _ (Yl.move rfl) ⟨_, rfl, congrArg (fun b => some (Value.bool b)) hg_8_5⟩ rfl ?_
          refine AK.call co33 rfl (fun w hw => s_refines w jv t (joinB xs ys) zs (RdI.own 1 hw rfl) (RdI.at ht0 hw)) ⟨_, rfl, congrArg (fun b => some (Value.bool b)) hg_8_5⟩ rfl ?_
          rintro r o ⟨rfl, rfl⟩
          refine AK.val _ (Yl.eqlB bo4 rfl rfl) ⟨_, rfl, congrArg (fun b => some (Value.bool b)) hg_8_5⟩ rfl ?_
          refine AK.val _ (Yl.pickT rfl (hg_8_5) rfl) trivial rfl ?_
          refine AK.val _ (Yl.move rfl) trivial rfl ?_
          refine AK.knownT (g := 78) rfl (by rw [← ref_above hok, hg_7_3]; simp) (fun hg_8_12 => ?_)
          refine AK.call co20 rfl (fun w hw => s_awake w) ⟨_, rfl, congrArg (fun b => some (Value.bool b)) hg_8_12⟩ rfl ?_
          rintro r o ⟨rfl, rfl⟩
          refine AK.val _ (Yl.pickT rfl (hg_8_12) rfl) trivial rfl ?_
          refine AK.val _ (Yl.assign rfl) trivial rfl ?_
          refine AK.nil ?_
          refine AK.then_ (hK11 _ ?_)
          refine AK.ret ?_
          refine AK.ret1 rfl rfl (fun w hw => ⟨_, _, ?_, rfl, Ret.of (hw.pick [] (by decide) rfl rfl)⟩)
          exact ⟨rfl, rfl⟩
        · have hg_7_3' := hg_7_3
          try simp only [decide_eq_true_eq, decide_eq_false_iff_not, Bool.not_eq_true', Bool.not_eq_false', Bool.not_not, ne_eq, Decidable.not_not, Int.not_lt, Int.not_le, beq_iff_eq, bne_iff_ne, Bool.and_eq_true, Bool.or_eq_true, Bool.or_eq_false_iff, Bool.not_false, Bool.not_true, reduceCtorEq, not_true_eq_false, not_false_eq_true] at hg_7_3'
          refine AK.pass rfl rfl (hg_7_3) rfl ?_
          refine AK.pass rfl rfl (hg_7_3) rfl ?_
          refine AK.pass rfl rfl (hg_7_3) rfl ?_
          refine AK.val _ (Yl.pickF rfl (hg_7_3) rfl) trivial rfl ?_
          refine AK.val _ (Yl.assign rfl) trivial rfl ?_
          refine AK.nil ?_
          refine AK.then_ (hK10 _ ?_)
          refine AK.seq (fun _ hK12 => ?_)
          refine AK.region ?_
          refine AK.val _ (Yl.move rfl) trivial rfl ?_
          refine AK.val _ (Yl.move rfl) trivial rfl ?_
          refine AK.val _ (Yl.move rfl) trivial rfl ?_
          refine AK.call co33 rfl (fun w hw => s_refines w t mv zs (meetB xs ys) (RdI.at ht0 hw) (RdI.own 0 hw rfl)) trivial rfl ?_
          rintro r o ⟨rfl, rfl⟩
          refine AK.val _ (Yl.eqlB bo4 rfl rfl) trivial rfl ?_
          refine AK.val _ (Yl.move rfl) trivial rfl ?_
          refine AK.knownT (g := 71) rfl (by rw [← ref_under hok, hg_6_3]; simp) (fun hg_8_5 => ?_)
          refine AK.val _ (Yl.move rfl) ⟨_, rfl, congrArg (fun b => some (Value.bool b)) hg_8_5⟩ rfl ?_
          refine AK.val _ (Yl.move rfl) ⟨_, rfl, congrArg (fun b => some (Value.bool b)) hg_8_5⟩ rfl ?_
          refine AK.val _ (Yl.move rfl) ⟨_, rfl, congrArg (fun b => some (Value.bool b)) hg_8_5⟩ rfl ?_
          refine AK.call co33 rfl (fun w hw => s_refines w jv t (joinB xs ys) zs (RdI.own 1 hw rfl) (RdI.at ht0 hw)) ⟨_, rfl, congrArg (fun b => some (Value.bool b)) hg_8_5⟩ rfl ?_
          rintro r o ⟨rfl, rfl⟩
          refine AK.val _ (Yl.eqlB bo4 rfl rfl) ⟨_, rfl, congrArg (fun b => some (Value.bool b)) hg_8_5⟩ rfl ?_
          refine AK.val _ (Yl.pickT rfl (hg_8_5) rfl) trivial rfl ?_
          refine AK.val _ (Yl.move rfl) trivial rfl ?_
          refine AK.knownT (g := 78) rfl (by rw [← ref_above hok, hg_7_3]; simp) (fun hg_8_12 => ?_)
          refine AK.call co20 rfl (fun w hw => s_awake w) ⟨_, rfl, congrArg (fun b => some (Value.bool b)) hg_8_12⟩ rfl ?_
          rintro r o ⟨rfl, rfl⟩
          refine AK.val _ (Yl.pickT rfl (hg_8_12) rfl) trivial rfl ?_
          refine AK.val _ (Yl.assign rfl) trivial rfl ?_
          refine AK.nil ?_
          refine AK.then_ (hK12 _ ?_)
          refine AK.ret ?_
          refine AK.ret1 rfl rfl (fun w hw => ⟨_, _, ?_, rfl, Ret.of (hw.pick [] (by decide) rfl rfl)⟩)
          exact ⟨rfl, rfl⟩
      · have hg_6_3' := hg_6_3
        try simp only [decide_eq_true_eq, decide_eq_false_iff_not, Bool.not_eq_true', Bool.not_eq_false', Bool.not_not, ne_eq, Decidable.not_not, Int.not_lt, Int.not_le, beq_iff_eq, bne_iff_ne, Bool.and_eq_true, Bool.or_eq_true, Bool.or_eq_false_iff, Bool.not_false, Bool.not_true, reduceCtorEq, not_true_eq_false, not_false_eq_true] at hg_6_3'
        refine AK.pass rfl rfl (hg_6_3) rfl ?_
        refine AK.pass rfl rfl (hg_6_3) rfl ?_
        refine AK.pass rfl rfl (hg_6_3) rfl ?_
        refine AK.val _ (Yl.pickF rfl (hg_6_3) rfl) trivial rfl ?_
        refine AK.val _ (Yl.assign rfl) trivial rfl ?_
        refine AK.nil ?_
        refine AK.then_ (hK9 _ ?_)
        refine AK.seq (fun _ hK13 => ?_)
        refine AK.region ?_
        refine AK.val _ (Yl.move rfl) trivial rfl ?_
        refine AK.val _ (Yl.move rfl) trivial rfl ?_
        refine AK.call co33 rfl (fun w hw => s_refines w u t xs zs (RdI.at hu0 hw) (RdI.at ht0 hw)) trivial rfl ?_
        rintro r o ⟨rfl, rfl⟩
        refine AK.val _ (Yl.move rfl) trivial rfl ?_
        refine AK.splitB (g := 61) rfl (fun hg_7_3 => ?_) (fun hg_7_3 => ?_)
        · have hg_7_3' := hg_7_3
          try simp only [decide_eq_true_eq, decide_eq_false_iff_not, Bool.not_eq_true', Bool.not_eq_false', Bool.not_not, ne_eq, Decidable.not_not, Int.not_lt, Int.not_le, beq_iff_eq, bne_iff_ne, Bool.and_eq_true, Bool.or_eq_true, Bool.or_eq_false_iff, Bool.not_false, Bool.not_true, reduceCtorEq, not_true_eq_false, not_false_eq_true] at hg_7_3'
          refine AK.val _ (Yl.move rfl) ⟨_, rfl, congrArg (fun b => some (Value.bool b)) hg_7_3⟩ rfl ?_
          refine AK.val _ (Yl.move rfl) ⟨_, rfl, congrArg (fun b => some (Value.bool b)) hg_7_3⟩ rfl ?_
          refine AK.call co33 rfl (fun w hw => s_refines w v t ys zs (RdI.at hv0 hw) (RdI.at ht0 hw)) ⟨_, rfl, congrArg (fun b => some (Value.bool b)) hg_7_3⟩ rfl ?_
          rintro r o ⟨rfl, rfl⟩
          refine AK.val _ (Yl.pickT rfl (hg_7_3) rfl) trivial rfl ?_
          refine AK.val _ (Yl.assign rfl) trivial rfl ?_
          refine AK.nil ?_
          refine AK.then_ (hK13 _ ?_)
          refine AK.seq (fun _ hK14 => ?_)
          refine AK.region ?_
          refine AK.val _ (Yl.move rfl) trivial rfl ?_
          refine AK.val _ (Yl.move rfl) trivial rfl ?_
          refine AK.val _ (Yl.move rfl) trivial rfl ?_
          refine AK.call co33 rfl (fun w hw => s_refines w t mv zs (meetB xs ys) (RdI.at ht0 hw) (RdI.own 0 hw rfl)) trivial rfl ?_
          rintro r o ⟨rfl, rfl⟩
          refine AK.val _ (Yl.eqlB bo4 rfl rfl) trivial rfl ?_
          refine AK.val _ (Yl.move rfl) trivial rfl ?_
          refine AK.knownT (g := 71) rfl (by rw [← ref_under hok, hg_6_3]; simp) (fun hg_8_5 => ?_)
          refine AK.val _ (Yl.move rfl) ⟨_, rfl, congrArg (fun b => some (Value.bool b)) hg_8_5⟩ rfl ?_
          refine AK.val _ (Yl.move rfl) ⟨_, rfl, congrArg (fun b => some (Value.bool b)) hg_8_5⟩ rfl ?_
          refine AK.val _ (Yl.move rfl) ⟨_, rfl, congrArg (fun b => some (Value.bool b)) hg_8_5⟩ rfl ?_
          refine AK.call co33 rfl (fun w hw => s_refines w jv t (joinB xs ys) zs (RdI.own 1 hw rfl) (RdI.at ht0 hw)) ⟨_, rfl, congrArg (fun b => some (Value.bool b)) hg_8_5⟩ rfl ?_
          rintro r o ⟨rfl, rfl⟩
          refine AK.val _ (Yl.eqlB bo4 rfl rfl) ⟨_, rfl, congrArg (fun b => some (Value.bool b)) hg_8_5⟩ rfl ?_
          refine AK.val _ (Yl.pickT rfl (hg_8_5) rfl) trivial rfl ?_
          refine AK.val _ (Yl.move rfl) trivial rfl ?_
          refine AK.knownT (g := 78) rfl (by rw [← ref_above hok, hg_7_3]; simp) (fun hg_8_12 => ?_)
          refine AK.call co20 rfl (fun w hw => s_awake w) ⟨_, rfl, congrArg (fun b => some (Value.bool b)) hg_8_12⟩ rfl ?_
          rintro r o ⟨rfl, rfl⟩
          refine AK.val _ (Yl.pickT rfl (hg_8_12) rfl) trivial rfl ?_
          refine AK.val _ (Yl.assign rfl) trivial rfl ?_
          refine AK.nil ?_
          refine AK.then_ (hK14 _ ?_)
          refine AK.ret ?_
          refine AK.ret1 rfl rfl (fun w hw => ⟨_, _, ?_, rfl, Ret.of (hw.pick [] (by decide) rfl rfl)⟩)
          exact ⟨rfl, rfl⟩
        · have hg_7_3' := hg_7_3
          try simp only [decide_eq_true_eq, decide_eq_false_iff_not, Bool.not_eq_true', Bool.not_eq_false', Bool.not_not, ne_eq, Decidable.not_not, Int.not_lt, Int.not_le, beq_iff_eq, bne_iff_ne, Bool.and_eq_true, Bool.or_eq_true, Bool.or_eq_false_iff, Bool.not_false, Bool.not_true, reduceCtorEq, not_true_eq_false, not_false_eq_true] at hg_7_3'
          refine AK.pass rfl rfl (hg_7_3) rfl ?_
          refine AK.pass rfl rfl (hg_7_3) rfl ?_
          refine AK.pass rfl rfl (hg_7_3) rfl ?_
          refine AK.val _ (Yl.pickF rfl (hg_7_3) rfl) trivial rfl ?_
          refine AK.val _ (Yl.assign rfl) trivial rfl ?_
          refine AK.nil ?_
          refine AK.then_ (hK13 _ ?_)
          refine AK.seq (fun _ hK15 => ?_)
          refine AK.region ?_
          refine AK.val _ (Yl.move rfl) trivial rfl ?_
          refine AK.val _ (Yl.move rfl) trivial rfl ?_
          refine AK.val _ (Yl.move rfl) trivial rfl ?_
          refine AK.call co33 rfl (fun w hw => s_refines w t mv zs (meetB xs ys) (RdI.at ht0 hw) (RdI.own 0 hw rfl)) trivial rfl ?_
          rintro r o ⟨rfl, rfl⟩
          refine AK.val _ (Yl.eqlB bo4 rfl rfl) trivial rfl ?_
          refine AK.val _ (Yl.move rfl) trivial rfl ?_
          refine AK.knownT (g := 71) rfl (by rw [← ref_under hok, hg_6_3]; simp) (fun hg_8_5 => ?_)
          refine AK.val _ (Yl.move rfl) ⟨_, rfl, congrArg (fun b => some (Value.bool b)) hg_8_5⟩ rfl ?_
          refine AK.val _ (Yl.move rfl) ⟨_, rfl, congrArg (fun b => some (Value.bool b)) hg_8_5⟩ rfl ?_
          refine AK.val _ (Yl.move rfl) ⟨_, rfl, congrArg (fun b => some (Value.bool b)) hg_8_5⟩ rfl ?_
          refine AK.call co33 rfl (fun w hw => s_refines w jv t (joinB xs ys) zs (RdI.own 1 hw rfl) (RdI.at ht0 hw)) ⟨_, rfl, congrArg (fun b => some (Value.bool b)) hg_8_5⟩ rfl ?_
          rintro r o ⟨rfl, rfl⟩
          refine AK.val _ (Yl.eqlB bo4 rfl rfl) ⟨_, rfl, congrArg (fun b => some (Value.bool b)) hg_8_5⟩ rfl ?_
          refine AK.val _ (Yl.pickT rfl (hg_8_5) rfl) trivial rfl ?_
          refine AK.val _ (Yl.move rfl) trivial rfl ?_
          refine AK.knownT (g := 78) rfl (by rw [← ref_above hok, hg_7_3]; simp) (fun hg_8_12 => ?_)
          refine AK.call co20 rfl (fun w hw => s_awake w) ⟨_, rfl, congrArg (fun b => some (Value.bool b)) hg_8_12⟩ rfl ?_
          rintro r o ⟨rfl, rfl⟩
          refine AK.val _ (Yl.pickT rfl (hg_8_12) rfl) trivial rfl ?_
          refine AK.val _ (Yl.assign rfl) trivial rfl ?_
          refine AK.nil ?_
          refine AK.then_ (hK15 _ ?_)
          refine AK.ret ?_
          refine AK.ret1 rfl rfl (fun w hw => ⟨_, _, ?_, rfl, Ret.of (hw.pick [] (by decide) rfl rfl)⟩)
          exact ⟨rfl, rfl⟩

end Go.Proofs.Ytkdidaiedibhaaa
