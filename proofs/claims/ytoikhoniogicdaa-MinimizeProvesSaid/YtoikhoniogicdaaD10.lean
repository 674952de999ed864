import Derived.Test.YtoikhoniogicdaaD9
set_option linter.unusedVariables false
set_option linter.unusedSimpArgs false
namespace Go.Proofs.Ytoikhoniogicdaa
open Go.Sx Go.RowKit
set_option maxHeartbeats 600000 in
set_option maxRecDepth 100000 in
theorem s_sameD (w : World) (u v : Value) (a b : Dfa) (hu : RdD (fun _ => False) w u a) (hv : RdD (fun _ => False) w v b) : CallS Try.prog 20 [u, v] w (fun r o => r = .bool (decide (a = b)) ∧ o = []) := by
  obtain ⟨uF, uN, rfl, huF, huN⟩ := hu
  obtain ⟨vF, vN, rfl, hvF, hvN⟩ := hv
  obtain ⟨ru, hru, huNr, huNi⟩ := huN
  obtain ⟨rv, hrv, hvNr, hvNi⟩ := hvN
  have mu1 := huF.le
  have mu2 := huNr.le
  unfold RdL at huF hvF
  refine spec_of Try.func20 rfl (Nat.le_of_ble_eq_true rfl) ?_
  refine AK.seq (fun _ hK1 => ?_)
  refine AK.region ?_
  refine AK.box_ (E := 25) (cs := [.int .i64 a.L, .int .i64 a.s, uF, uN]) rfl rfl rfl trivial rfl (fun bx2 => ?_)
  refine AK.box_ (E := 25) (cs := [.int .i64 b.L, .int .i64 b.s, vF, vN]) rfl rfl rfl trivial rfl (fun bx3 => ?_)
  refine AK.val _ (Yl.assign rfl) trivial rfl ?_
  refine AK.nil ?_
  refine AK.then_ (hK1 _ ?_)
  refine AK.seq (fun _ hK2 => ?_)
  refine AK.seq (fun _ hK3 => ?_)
  refine AK.region ?_
  refine AK.val _ (Yl.fieldAddr fd25_0 rfl) trivial rfl ?_
  refine AK.val _ (Yl.loadBox on3 rfl (by first | ((repeat (first | exact .hd | apply BoxS.tl | apply MapS.tl)); done) | assumption | exact BoxS.arg (by assumption)) rfl) trivial rfl ?_
  refine AK.val _ (Yl.fieldAddr fd25_0 rfl) trivial rfl ?_
  refine AK.val _ (Yl.loadBox on3 rfl (by first | ((repeat (first | exact .hd | apply BoxS.tl | apply MapS.tl)); done) | assumption | exact BoxS.arg (by assumption)) rfl) trivial rfl ?_
  refine AK.val _ (Yl.neq rfl rfl) trivial rfl ?_
  refine AK.val _ (Yl.move rfl) trivial rfl ?_
  refine AK.splitB (g := 13) rfl (fun hg_1_5 => ?_) (fun hg_1_5 => ?_)
  · have hg_1_5' := hg_1_5
    try simp only [decide_eq_true_eq, decide_eq_false_iff_not, Bool.not_eq_true', Bool.not_eq_false', Bool.not_not, ne_eq, Decidable.not_not, Int.not_lt, Int.not_le, beq_iff_eq, bne_iff_ne, Bool.and_eq_true, Bool.or_eq_true, Bool.or_eq_false_iff, Bool.not_false, Bool.not_true, reduceCtorEq, not_true_eq_false, not_false_eq_true] at hg_1_5'
    refine AK.pass rfl rfl (hg_1_5) rfl ?_
    refine AK.pass rfl rfl (hg_1_5) rfl ?_
    refine AK.pass rfl rfl (hg_1_5) rfl ?_
    refine AK.pass rfl rfl (hg_1_5) rfl ?_
    refine AK.pass rfl rfl (hg_1_5) rfl ?_
    refine AK.val _ (Yl.pickT rfl (hg_1_5) rfl) trivial rfl ?_
    refine AK.val _ (Yl.move rfl) trivial rfl ?_
    refine AK.pass rfl rfl rfl rfl ?_
    refine AK.pass rfl rfl rfl rfl ?_
    refine AK.pass rfl rfl rfl rfl ?_
    refine AK.pass rfl rfl rfl rfl ?_
    refine AK.pass rfl rfl rfl rfl ?_
    refine AK.pass rfl rfl rfl rfl ?_
    refine AK.pass rfl rfl rfl rfl ?_
    refine AK.val _ (Yl.pickT rfl (rfl) rfl) trivial rfl ?_
    refine AK.val _ (Yl.move rfl) trivial rfl ?_
    refine AK.pass rfl rfl rfl rfl ?_
    refine AK.pass rfl rfl rfl rfl ?_
    refine AK.pass rfl rfl rfl rfl ?_
    refine AK.pass rfl rfl rfl rfl ?_
    refine AK.pass rfl rfl rfl rfl ?_
    refine AK.pass rfl rfl rfl rfl ?_
    refine AK.pass rfl rfl rfl rfl ?_
    refine AK.val _ (Yl.pickT rfl (rfl) rfl) trivial rfl ?_
    refine AK.nil ?_
    refine AK.then_ (hK3 _ ?_)
    refine AK.cond_t rfl (rfl) ?_
    refine AK.seq (fun _ hK4 => ?_)
    refine AK.region ?_
    refine AK.val _ (Yl.assign rfl) trivial rfl ?_
    refine AK.nil ?_
    refine AK.then_ (hK4 _ ?_)
    refine AK.ret ?_
    refine AK.then_ret ?_
    refine AK.ret1 rfl rfl (fun w hw => ⟨_, _, ?_, rfl, Ret.of (hw.pick [] (by decide) rfl rfl)⟩)
    refine ⟨congrArg Value.bool ?_, rfl⟩
    symm; rw [decide_eq_false_iff_not]; intro e; subst e
    omega
  · have hg_1_5' := hg_1_5
    try simp only [decide_eq_true_eq, decide_eq_false_iff_not, Bool.not_eq_true', Bool.not_eq_false', Bool.not_not, ne_eq, Decidable.not_not, Int.not_lt, Int.not_le, beq_iff_eq, bne_iff_ne, Bool.and_eq_true, Bool.or_eq_true, Bool.or_eq_false_iff, Bool.not_false, Bool.not_true, reduceCtorEq, not_true_eq_false, not_false_eq_true] at hg_1_5'
    refine AK.val _ (Yl.fieldAddr fd25_1 rfl) ⟨_, rfl, congrArg (fun b => some (Value.bool b)) hg_1_5⟩ rfl ?_
    refine AK.val _ (Yl.loadBox on3 rfl (by first | ((repeat (first | exact .hd | apply BoxS.tl | apply MapS.tl)); done) | assumption | exact BoxS.arg (by assumption)) rfl) ⟨_, rfl, congrArg (fun b => some (Value.bool b)) hg_1_5⟩ rfl ?_
    refine AK.val _ (Yl.fieldAddr fd25_1 rfl) ⟨_, rfl, congrArg (fun b => some (Value.bool b)) hg_1_5⟩ rfl ?_
    refine AK.val _ (Yl.loadBox on3 rfl (by first | ((repeat (first | exact .hd | apply BoxS.tl | apply MapS.tl)); done) | assumption | exact BoxS.arg (by assumption)) rfl) ⟨_, rfl, congrArg (fun b => some (Value.bool b)) hg_1_5⟩ rfl ?_
    refine AK.val _ (Yl.neq rfl rfl) ⟨_, rfl, congrArg (fun b => some (Value.bool b)) hg_1_5⟩ rfl ?_
    refine AK.val _ (Yl.pickF rfl (hg_1_5) rfl) trivial rfl ?_
    refine AK.val _ (Yl.move rfl) trivial rfl ?_
    refine AK.splitB (g := 20) rfl (fun hg_1_12 => ?_) (fun hg_1_12 => ?_)
    · have hg_1_12' := hg_1_12
      try simp only [decide_eq_true_eq, decide_eq_false_iff_not, Bool.not_eq_true', Bool.not_eq_false', Bool.not_not, ne_eq, Decidable.not_not, Int.not_lt, Int.not_le, beq_iff_eq, bne_iff_ne, Bool.and_eq_true, Bool.or_eq_true, Bool.or_eq_false_iff, Bool.not_false, Bool.not_true, reduceCtorEq, not_true_eq_false, not_false_eq_true] at hg_1_12'
      refine AK.pass rfl rfl (hg_1_12) rfl ?_
      refine AK.pass rfl rfl (hg_1_12) rfl ?_
      refine AK.pass rfl rfl (hg_1_12) rfl ?_
      refine AK.pass rfl rfl (hg_1_12) rfl ?_
      refine AK.pass rfl rfl (hg_1_12) rfl ?_
      refine AK.pass rfl rfl (hg_1_12) rfl ?_
      refine AK.pass rfl rfl (hg_1_12) rfl ?_
      refine AK.val _ (Yl.pickT rfl (hg_1_12) rfl) trivial rfl ?_
      refine AK.val _ (Yl.move rfl) trivial rfl ?_
      refine AK.pass rfl rfl rfl rfl ?_
      refine AK.pass rfl rfl rfl rfl ?_
      refine AK.pass rfl rfl rfl rfl ?_
      refine AK.pass rfl rfl rfl rfl ?_
      refine AK.pass rfl rfl rfl rfl ?_
      refine AK.pass rfl rfl rfl rfl ?_
      refine AK.pass rfl rfl rfl rfl ?_
      refine AK.val _ (Yl.pickT rfl (rfl) rfl) trivial rfl ?_
      refine AK.nil ?_
      refine AK.then_ (hK3 _ ?_)
      refine AK.cond_t rfl (rfl) ?_
      refine AK.seq (fun _ hK5 => ?_)
      refine AK.region ?_
      refine AK.val _ (Yl.assign rfl) trivial rfl ?_
      refine AK.nil ?_
      refine AK.then_ (hK5 _ ?_)
      refine AK.ret ?_
      refine AK.then_ret ?_
      refine AK.ret1 rfl rfl (fun w hw => ⟨_, _, ?_, rfl, Ret.of (hw.pick [] (by decide) rfl rfl)⟩)
      refine ⟨congrArg Value.bool ?_, rfl⟩
      symm; rw [decide_eq_false_iff_not]; intro e; subst e
      omega
    · have hg_1_12' := hg_1_12
      try simp only [decide_eq_true_eq, decide_eq_false_iff_not, Bool.not_eq_true', Bool.not_eq_false', Bool.not_not, ne_eq, Decidable.not_not, Int.not_lt, Int.not_le, beq_iff_eq, bne_iff_ne, Bool.and_eq_true, Bool.or_eq_true, Bool.or_eq_false_iff, Bool.not_false, Bool.not_true, reduceCtorEq, not_true_eq_false, not_false_eq_true] at hg_1_12'
      refine AK.val _ (Yl.fieldAddr fd25_2 rfl) ⟨_, rfl, congrArg (fun b => some (Value.bool b)) hg_1_12⟩ rfl ?_
      refine AK.val _ (Yl.loadBox on22 rfl (by first | ((repeat (first | exact .hd | apply BoxS.tl | apply MapS.tl)); done) | assumption | exact BoxS.arg (by assumption)) rfl) ⟨_, rfl, congrArg (fun b => some (Value.bool b)) hg_1_12⟩ rfl ?_
      refine AK.val _ (Yl.lenR sl22 rfl (by first | exact .arg ‹_› | ((repeat (first | exact .hd | apply RdS.tl)); done) | assumption | exact .arg huF | exact .arg hvF | exact .arg huNr | exact .arg hvNr | exact .arg (huNi _ (by omega)) | exact .arg (hvNi _ (by omega)))) ⟨_, rfl, congrArg (fun b => some (Value.bool b)) hg_1_12⟩ rfl ?_
      refine AK.val _ (Yl.fieldAddr fd25_2 rfl) ⟨_, rfl, congrArg (fun b => some (Value.bool b)) hg_1_12⟩ rfl ?_
      refine AK.val _ (Yl.loadBox on22 rfl (by first | ((repeat (first | exact .hd | apply BoxS.tl | apply MapS.tl)); done) | assumption | exact BoxS.arg (by assumption)) rfl) ⟨_, rfl, congrArg (fun b => some (Value.bool b)) hg_1_12⟩ rfl ?_
      refine AK.val _ (Yl.lenR sl22 rfl (by first | exact .arg ‹_› | ((repeat (first | exact .hd | apply RdS.tl)); done) | assumption | exact .arg huF | exact .arg hvF | exact .arg huNr | exact .arg hvNr | exact .arg (huNi _ (by omega)) | exact .arg (hvNi _ (by omega)))) ⟨_, rfl, congrArg (fun b => some (Value.bool b)) hg_1_12⟩ rfl ?_
      refine AK.val _ (Yl.neq rfl rfl) ⟨_, rfl, congrArg (fun b => some (Value.bool b)) hg_1_12⟩ rfl ?_
      refine AK.val _ (Yl.pickF rfl (hg_1_12) rfl) trivial rfl ?_
      refine AK.val _ (Yl.move rfl) trivial rfl ?_
      refine AK.splitB (g := 29) rfl (fun hg_1_21 => ?_) (fun hg_1_21 => ?_)
      · have hg_1_21' := hg_1_21
        try simp only [decide_eq_true_eq, decide_eq_false_iff_not, Bool.not_eq_true', Bool.not_eq_false', Bool.not_not, ne_eq, Decidable.not_not, Int.not_lt, Int.not_le, beq_iff_eq, bne_iff_ne, Bool.and_eq_true, Bool.or_eq_true, Bool.or_eq_false_iff, Bool.not_false, Bool.not_true, reduceCtorEq, not_true_eq_false, not_false_eq_true] at hg_1_21'
        refine AK.pass rfl rfl (hg_1_21) rfl ?_
        refine AK.pass rfl rfl (hg_1_21) rfl ?_
        refine AK.pass rfl rfl (hg_1_21) rfl ?_
        refine AK.pass rfl rfl (hg_1_21) rfl ?_
        refine AK.pass rfl rfl (hg_1_21) rfl ?_
        refine AK.pass rfl rfl (hg_1_21) rfl ?_
        refine AK.pass rfl rfl (hg_1_21) rfl ?_
        refine AK.val _ (Yl.pickT rfl (hg_1_21) rfl) trivial rfl ?_
        refine AK.nil ?_
        refine AK.then_ (hK3 _ ?_)
        refine AK.cond_t rfl (rfl) ?_
        refine AK.seq (fun _ hK6 => ?_)
        refine AK.region ?_
        refine AK.val _ (Yl.assign rfl) trivial rfl ?_
        refine AK.nil ?_
        refine AK.then_ (hK6 _ ?_)
        refine AK.ret ?_
        refine AK.then_ret ?_
        refine AK.ret1 rfl rfl (fun w hw => ⟨_, _, ?_, rfl, Ret.of (hw.pick [] (by decide) rfl rfl)⟩)
        refine ⟨congrArg Value.bool ?_, rfl⟩
        symm; rw [decide_eq_false_iff_not]; intro e; subst e
        omega
      · have hg_1_21' := hg_1_21
        try simp only [decide_eq_true_eq, decide_eq_false_iff_not, Bool.not_eq_true', Bool.not_eq_false', Bool.not_not, ne_eq, Decidable.not_not, Int.not_lt, Int.not_le, beq_iff_eq, bne_iff_ne, Bool.and_eq_true, Bool.or_eq_true, Bool.or_eq_false_iff, Bool.not_false, Bool.not_true, reduceCtorEq, not_true_eq_false, not_false_eq_true] at hg_1_21'
        refine AK.val _ (Yl.fieldAddr fd25_3 rfl) ⟨_, rfl, congrArg (fun b => some (Value.bool b)) hg_1_21⟩ rfl ?_
        refine AK.val _ (Yl.loadBox on23 rfl (by first | ((repeat (first | exact .hd | apply BoxS.tl | apply MapS.tl)); done) | assumption | exact BoxS.arg (by assumption)) rfl) ⟨_, rfl, congrArg (fun b => some (Value.bool b)) hg_1_21⟩ rfl ?_
        refine AK.val _ (Yl.lenR sl23 rfl (by first | exact .arg ‹_› | ((repeat (first | exact .hd | apply RdS.tl)); done) | assumption | exact .arg huF | exact .arg hvF | exact .arg huNr | exact .arg hvNr | exact .arg (huNi _ (by omega)) | exact .arg (hvNi _ (by omega)))) ⟨_, rfl, congrArg (fun b => some (Value.bool b)) hg_1_21⟩ rfl ?_
        refine AK.val _ (Yl.fieldAddr fd25_3 rfl) ⟨_, rfl, congrArg (fun b => some (Value.bool b)) hg_1_21⟩ rfl ?_
        refine AK.val _ (Yl.loadBox on23 rfl (by first | ((repeat (first | exact .hd | apply BoxS.tl | apply MapS.tl)); done) | assumption | exact BoxS.arg (by assumption)) rfl) ⟨_, rfl, congrArg (fun b => some (Value.bool b)) hg_1_21⟩ rfl ?_
        refine AK.val _ (Yl.lenR sl23 rfl (by first | exact .arg ‹_› | ((repeat (first | exact .hd | apply RdS.tl)); done) | assumption | exact .arg huF | exact .arg hvF | exact .arg huNr | exact .arg hvNr | exact .arg (huNi _ (by omega)) | exact .arg (hvNi _ (by omega)))) ⟨_, rfl, congrArg (fun b => some (Value.bool b)) hg_1_21⟩ rfl ?_
        refine AK.val _ (Yl.neq rfl rfl) ⟨_, rfl, congrArg (fun b => some (Value.bool b)) hg_1_21⟩ rfl ?_
        refine AK.val _ (Yl.pickF rfl (hg_1_21) rfl) trivial rfl ?_
        refine AK.nil ?_
        refine AK.then_ (hK3 _ ?_)
        refine AK.condNe rfl (fun hc0 => ?_) (fun hc0 => ?_)
        · refine AK.seq (fun _ hK7 => ?_)
          refine AK.region ?_
          refine AK.val _ (Yl.assign rfl) trivial rfl ?_
          refine AK.nil ?_
          refine AK.then_ (hK7 _ ?_)
          refine AK.ret ?_
          refine AK.then_ret ?_
          refine AK.ret1 rfl rfl (fun w hw => ⟨_, _, ?_, rfl, Ret.of (hw.pick [] (by decide) rfl rfl)⟩)
          refine ⟨congrArg Value.bool ?_, rfl⟩
          symm; rw [decide_eq_false_iff_not]; intro e; subst e
          omega
        · have hL : a.L = b.L := (by simpa using hg_1_5')
          have hs : a.s = b.s := (by simpa using hg_1_12')
          have hlF : a.fin.length = b.fin.length := (by have := hg_1_21'; omega)
          have hlN : a.nx.length = b.nx.length := (by omega)
          refine AK.skip ?_
          refine AK.then_ (hK2 _ ?_)
          refine AK.seq (fun _ hK8 => ?_)
          refine AK.seq (fun _ hK9 => ?_)
          refine AK.region ?_
          refine AK.val _ (Yl.fieldAddr fd25_2 rfl) trivial rfl ?_
          refine AK.val _ (Yl.loadBox on22 rfl (by first | ((repeat (first | exact .hd | apply BoxS.tl | apply MapS.tl)); done) | assumption | exact BoxS.arg (by assumption)) rfl) trivial rfl ?_
          refine AK.val _ (Yl.lenR sl22 rfl (by first | exact .arg ‹_› | ((repeat (first | exact .hd | apply RdS.tl)); done) | assumption | exact .arg huF | exact .arg hvF | exact .arg huNr | exact .arg hvNr | exact .arg (huNi _ (by omega)) | exact .arg (hvNi _ (by omega)))) trivial rfl ?_
          refine AK.val _ (Yl.move rfl) trivial rfl ?_
          refine AK.nil ?_
          refine AK.then_ (hK9 _ ?_)
          refine AK.block ?_
          refine AK.loopS (X := Nat) [2, 3, 40] (fun k => [(41, .int .i64 (k : Int))]) (fun k => [box bx2 25 4 [.int .i64 a.L, .int .i64 a.s, uF, uN], box bx3 25 4 [.int .i64 b.L, .int .i64 b.s, vF, vN]]) (fun k => k ≤ a.fin.length ∧ a.fin.take k = b.fin.take k) (fun k => a.fin.length - k) (0) ?_ ?_ ?_ ?_
          · exact ⟨Nat.zero_le _, by simp⟩
          · exact .cons (rfl) (.nil)
          · exact fun w hw => hw
          · intro k hg0 _ hK10
            obtain ⟨hk, ht⟩ := hg0
            refine AK.seq (fun _ hK11 => ?_)
            refine AK.region ?_
            refine AK.val _ (Yl.lss rfl rfl) trivial rfl ?_
            refine AK.nil ?_
            refine AK.then_ (hK11 _ ?_)
            refine AK.seq (fun _ hK12 => ?_)
            refine AK.condD rfl (fun hc1 => ?_) (fun hc1 => ?_)
            · refine AK.skip ?_
              refine AK.then_ (hK12 _ ?_)
              refine AK.seq (fun _ hK13 => ?_)
              refine AK.block ?_
              refine AK.seq (fun _ hK14 => ?_)
              refine AK.region ?_
              refine AK.val _ (Yl.move rfl) trivial rfl ?_
              refine AK.val _ (Yl.assign rfl) trivial rfl ?_
              refine AK.nil ?_
              refine AK.then_ (hK14 _ ?_)
              refine AK.seq (fun _ hK15 => ?_)
              refine AK.quiet mixed (by kernel_rfl) ?_
              refine QK.val _ (Yl.fieldAddr fd25_2 rfl) trivial rfl ?_
              refine QK.val _ (Yl.loadBox on22 rfl (by first | ((repeat (first | exact .hd | apply BoxS.tl | apply MapS.tl)); done) | assumption | exact BoxS.arg (by assumption)) rfl) trivial rfl ?_
              refine QK.val _ (Yl.move rfl) trivial rfl ?_
              first | refine QK.val _ (Yl.idxN sl22 rfl rfl (by first | exact .arg ‹_› | ((repeat (first | exact .hd | apply RdS.tl)); done) | assumption | exact .arg huF | exact .arg hvF | exact .arg huNr | exact .arg hvNr | exact .arg (huNi _ (by omega)) | exact .arg (hvNi _ (by omega))) (by decide) (by omega)) trivial rfl ?_ | refine QK.val _ (Yl.idx sl22 rfl rfl (by first | exact .arg ‹_› | ((repeat (first | exact .hd | apply RdS.tl)); done) | assumption | exact .arg huF | exact .arg hvF | exact .arg huNr | exact .arg hvNr | exact .arg (huNi _ (by omega)) | exact .arg (hvNi _ (by omega))) (by decide) (by omega)) trivial rfl ?_ | refine QK.val _ (Yl.idxK sl22 rfl rfl (by first | exact .arg ‹_› | ((repeat (first | exact .hd | apply RdS.tl)); done) | assumption | exact .arg huF | exact .arg hvF | exact .arg huNr | exact .arg hvNr | exact .arg (huNi _ (by omega)) | exact .arg (hvNi _ (by omega))) (by decide) (by omega)) trivial rfl ?_
              refine QK.val _ (Yl.loadB on4 rfl (by first | exact .arg ‹_› | ((repeat (first | exact .hd | apply RdS.tl)); done) | assumption | exact .arg huF | exact .arg hvF | exact .arg huNr | exact .arg hvNr | exact .arg (huNi _ (by omega)) | exact .arg (hvNi _ (by omega))) (by omega)) trivial rfl ?_
              refine QK.val _ (Yl.fieldAddr fd25_2 rfl) trivial rfl ?_
              refine QK.val _ (Yl.loadBox on22 rfl (by first | ((repeat (first | exact .hd | apply BoxS.tl | apply MapS.tl)); done) | assumption | exact BoxS.arg (by assumption)) rfl) trivial rfl ?_
              refine QK.val _ (Yl.move rfl) trivial rfl ?_
              first | refine QK.val _ (Yl.idxN sl22 rfl rfl (by first | exact .arg ‹_› | ((repeat (first | exact .hd | apply RdS.tl)); done) | assumption | exact .arg huF | exact .arg hvF | exact .arg huNr | exact .arg hvNr | exact .arg (huNi _ (by omega)) | exact .arg (hvNi _ (by omega))) (by decide) (by omega)) trivial rfl ?_ | refine QK.val _ (Yl.idx sl22 rfl rfl (by first | exact .arg ‹_› | ((repeat (first | exact .hd | apply RdS.tl)); done) | assumption | exact .arg huF | exact .arg hvF | exact .arg huNr | exact .arg hvNr | exact .arg (huNi _ (by omega)) | exact .arg (hvNi _ (by omega))) (by decide) (by omega)) trivial rfl ?_ | refine QK.val _ (Yl.idxK sl22 rfl rfl (by first | exact .arg ‹_› | ((repeat (first | exact .hd | apply RdS.tl)); done) | assumption | exact .arg huF | exact .arg hvF | exact .arg huNr | exact .arg hvNr | exact .arg (huNi _ (by omega)) | exact .arg (hvNi _ (by omega))) (by decide) (by omega)) trivial rfl ?_
              refine QK.val _ (Yl.loadB on4 rfl (by first | exact .arg ‹_› | ((repeat (first | exact .hd | apply RdS.tl)); done) | assumption | exact .arg huF | exact .arg hvF | exact .arg huNr | exact .arg hvNr | exact .arg (huNi _ (by omega)) | exact .arg (hvNi _ (by omega))) (by omega)) trivial rfl ?_
              refine QK.val _ (Yl.neqB bo4 rfl rfl) trivial rfl ?_
              refine QK.nil (QK.fin ?_)
              refine AK.then_ (hK15 _ ?_)
              refine AK.cond rfl (fun hc2 => ?_) (fun hc2 => ?_)
              · try simp only [decide_eq_true_eq, decide_eq_false_iff_not, Bool.not_eq_true', Bool.not_eq_false', Bool.not_not, ne_eq, Decidable.not_not, Int.not_lt, Int.not_le, beq_iff_eq, bne_iff_ne, Bool.and_eq_true, Bool.or_eq_true, Bool.or_eq_false_iff, Bool.not_false, Bool.not_true, reduceCtorEq, not_true_eq_false, not_false_eq_true] at hc2
                refine AK.seq (fun _ hK16 => ?_)
                refine AK.region ?_
                refine AK.val _ (Yl.assign rfl) trivial rfl ?_
                refine AK.nil ?_
                refine AK.then_ (hK16 _ ?_)
                refine AK.ret ?_
                refine AK.block_ret ?_
                refine AK.then_ret ?_
                refine AK.then_ret ?_
                refine AK.block_ret ?_
                refine AK.then_ret ?_
                refine AK.ret1 rfl rfl (fun w hw => ⟨_, _, ?_, rfl, Ret.of (hw.pick [] (by decide) rfl rfl)⟩)
                refine ⟨congrArg Value.bool ?_, rfl⟩
                symm; rw [decide_eq_false_iff_not]; intro e; subst e
                simp at hc2
              · try simp only [decide_eq_true_eq, decide_eq_false_iff_not, Bool.not_eq_true', Bool.not_eq_false', Bool.not_not, ne_eq, Decidable.not_not, Int.not_lt, Int.not_le, beq_iff_eq, bne_iff_ne, Bool.and_eq_true, Bool.or_eq_true, Bool.or_eq_false_iff, Bool.not_false, Bool.not_true, reduceCtorEq, not_true_eq_false, not_false_eq_true] at hc2
                refine AK.skip ?_
                refine AK.block_normal ?_
                refine AK.then_ (hK13 _ ?_)
                refine AK.region ?_
                refine AK.val _ (Yl.add rfl rfl (by omega)) trivial rfl ?_
                refine AK.val _ (Yl.move rfl) trivial rfl ?_
                refine AK.nil ?_
                refine AK.then_ (hK10 _ _ (k + 1) ⟨by omega, (beq_takeD false hlF k (by omega) ht).2 (by simpa using hc2)⟩ (by omega) (.cons (rfl) (.cons rfl (.cons rfl (.cons rfl (.nil))))) (fun w hw => hw))
            · have hFin : a.fin = b.fin := (by rw [show k = a.fin.length by omega, List.take_length, hlF, List.take_length] at ht; exact ht)
              refine AK.exit ?_
              refine AK.then_exit ?_
              refine AK.then_exit ?_
              refine AK.block_exit ?_
              refine AK.then_ (hK8 _ ?_)
              refine AK.seq (fun _ hK17 => ?_)
              refine AK.seq (fun _ hK18 => ?_)
              refine AK.region ?_
              refine AK.val _ (Yl.fieldAddr fd25_3 rfl) trivial rfl ?_
              refine AK.val _ (Yl.loadBox on23 rfl (by first | ((repeat (first | exact .hd | apply BoxS.tl | apply MapS.tl)); done) | assumption | exact BoxS.arg (by assumption)) rfl) trivial rfl ?_
              refine AK.val _ (Yl.lenR sl23 rfl (by first | exact .arg ‹_› | ((repeat (first | exact .hd | apply RdS.tl)); done) | assumption | exact .arg huF | exact .arg hvF | exact .arg huNr | exact .arg hvNr | exact .arg (huNi _ (by omega)) | exact .arg (hvNi _ (by omega)))) trivial rfl ?_
              refine AK.val _ (Yl.move rfl) trivial rfl ?_
              refine AK.nil ?_
              refine AK.then_ (hK18 _ ?_)
              refine AK.block ?_
              refine AK.loopS (X := Nat) [2, 3, 58] (fun k => [(59, .int .i64 (k : Int))]) (fun k => [box bx2 25 4 [.int .i64 a.L, .int .i64 a.s, uF, uN], box bx3 25 4 [.int .i64 b.L, .int .i64 b.s, vF, vN]]) (fun k => k ≤ a.nx.length ∧ a.nx.take k = b.nx.take k) (fun k => a.nx.length - k) (0) ?_ ?_ ?_ ?_
              · exact ⟨Nat.zero_le _, by simp⟩
              · exact .cons (rfl) (.nil)
              · exact fun w hw => hw
              · intro k hg1 _ hK19
                obtain ⟨hk2, ht2⟩ := hg1
                have hmr := fun h => (huNi k h).le
                refine AK.seq (fun _ hK20 => ?_)
                refine AK.region ?_
                refine AK.val _ (Yl.lss rfl rfl) trivial rfl ?_
                refine AK.nil ?_
                refine AK.then_ (hK20 _ ?_)
                refine AK.seq (fun _ hK21 => ?_)
                refine AK.condD rfl (fun hc3 => ?_) (fun hc3 => ?_)
                · refine AK.skip ?_
                  refine AK.then_ (hK21 _ ?_)
                  refine AK.seq (fun _ hK22 => ?_)
                  refine AK.block ?_
                  refine AK.seq (fun _ hK23 => ?_)
                  refine AK.region ?_
                  refine AK.val _ (Yl.move rfl) trivial rfl ?_
                  refine AK.val _ (Yl.assign rfl) trivial rfl ?_
                  refine AK.nil ?_
                  refine AK.then_ (hK23 _ ?_)
                  refine AK.seq (fun _ hK24 => ?_)
                  refine AK.seq (fun _ hK25 => ?_)
                  refine AK.quiet mixed (by kernel_rfl) ?_
                  refine QK.val _ (Yl.fieldAddr fd25_3 rfl) trivial rfl ?_
                  refine QK.val _ (Yl.loadBox on23 rfl (by first | ((repeat (first | exact .hd | apply BoxS.tl | apply MapS.tl)); done) | assumption | exact BoxS.arg (by assumption)) rfl) trivial rfl ?_
                  refine QK.val _ (Yl.move rfl) trivial rfl ?_
                  first | refine QK.val _ (Yl.idxN sl23 rfl rfl (by first | exact .arg ‹_› | ((repeat (first | exact .hd | apply RdS.tl)); done) | assumption | exact .arg huF | exact .arg hvF | exact .arg huNr | exact .arg hvNr | exact .arg (huNi _ (by omega)) | exact .arg (hvNi _ (by omega))) (by decide) (by omega)) trivial rfl ?_ | refine QK.val _ (Yl.idx sl23 rfl rfl (by first | exact .arg ‹_› | ((repeat (first | exact .hd | apply RdS.tl)); done) | assumption | exact .arg huF | exact .arg hvF | exact .arg huNr | exact .arg hvNr | exact .arg (huNi _ (by omega)) | exact .arg (hvNi _ (by omega))) (by decide) (by omega)) trivial rfl ?_ | refine QK.val _ (Yl.idxK sl23 rfl rfl (by first | exact .arg ‹_› | ((repeat (first | exact .hd | apply RdS.tl)); done) | assumption | exact .arg huF | exact .arg hvF | exact .arg huNr | exact .arg hvNr | exact .arg (huNi _ (by omega)) | exact .arg (hvNi _ (by omega))) (by decide) (by omega)) trivial rfl ?_
                  refine QK.val _ (Yl.loadV on26 rfl (by first | exact .arg ‹_› | ((repeat (first | exact .hd | apply RdS.tl)); done) | assumption | exact .arg huF | exact .arg hvF | exact .arg huNr | exact .arg hvNr | exact .arg (huNi _ (by omega)) | exact .arg (hvNi _ (by omega))) (by omega)) trivial rfl ?_
                  refine QK.val _ (Yl.lenR sl26 rfl (by first | exact .arg ‹_› | ((repeat (first | exact .hd | apply RdS.tl)); done) | assumption | exact .arg huF | exact .arg hvF | exact .arg huNr | exact .arg hvNr | exact .arg (huNi _ (by omega)) | exact .arg (hvNi _ (by omega)))) trivial rfl ?_
                  refine QK.val _ (Yl.fieldAddr fd25_3 rfl) trivial rfl ?_
                  refine QK.val _ (Yl.loadBox on23 rfl (by first | ((repeat (first | exact .hd | apply BoxS.tl | apply MapS.tl)); done) | assumption | exact BoxS.arg (by assumption)) rfl) trivial rfl ?_
                  refine QK.val _ (Yl.move rfl) trivial rfl ?_
                  first | refine QK.val _ (Yl.idxN sl23 rfl rfl (by first | exact .arg ‹_› | ((repeat (first | exact .hd | apply RdS.tl)); done) | assumption | exact .arg huF | exact .arg hvF | exact .arg huNr | exact .arg hvNr | exact .arg (huNi _ (by omega)) | exact .arg (hvNi _ (by omega))) (by decide) (by omega)) trivial rfl ?_ | refine QK.val _ (Yl.idx sl23 rfl rfl (by first | exact .arg ‹_› | ((repeat (first | exact .hd | apply RdS.tl)); done) | assumption | exact .arg huF | exact .arg hvF | exact .arg huNr | exact .arg hvNr | exact .arg (huNi _ (by omega)) | exact .arg (hvNi _ (by omega))) (by decide) (by omega)) trivial rfl ?_ | refine QK.val _ (Yl.idxK sl23 rfl rfl (by first | exact .arg ‹_› | ((repeat (first | exact .hd | apply RdS.tl)); done) | assumption | exact .arg huF | exact .arg hvF | exact .arg huNr | exact .arg hvNr | exact .arg (huNi _ (by omega)) | exact .arg (hvNi _ (by omega))) (by decide) (by omega)) trivial rfl ?_
                  refine QK.val _ (Yl.loadV on26 rfl (by first | exact .arg ‹_› | ((repeat (first | exact .hd | apply RdS.tl)); done) | assumption | exact .arg huF | exact .arg hvF | exact .arg huNr | exact .arg hvNr | exact .arg (huNi _ (by omega)) | exact .arg (hvNi _ (by omega))) (by omega)) trivial rfl ?_
                  refine QK.val _ (Yl.lenR sl26 rfl (by first | exact .arg ‹_› | ((repeat (first | exact .hd | apply RdS.tl)); done) | assumption | exact .arg huF | exact .arg hvF | exact .arg huNr | exact .arg hvNr | exact .arg (huNi _ (by omega)) | exact .arg (hvNi _ (by omega)))) trivial rfl ?_
                  refine QK.val _ (Yl.neq rfl rfl) trivial rfl ?_
                  refine QK.nil (QK.fin ?_)
                  refine AK.then_ (hK25 _ ?_)
                  refine AK.condNe rfl (fun hc4 => ?_) (fun hc4 => ?_)
                  · refine AK.seq (fun _ hK26 => ?_)
                    refine AK.region ?_
                    refine AK.val _ (Yl.assign rfl) trivial rfl ?_
                    refine AK.nil ?_
                    refine AK.then_ (hK26 _ ?_)
                    refine AK.ret ?_
                    refine AK.then_ret ?_
                    refine AK.block_ret ?_
                    refine AK.then_ret ?_
                    refine AK.then_ret ?_
                    refine AK.block_ret ?_
                    refine AK.then_ret ?_
                    refine AK.ret1 rfl rfl (fun w hw => ⟨_, _, ?_, rfl, Ret.of (hw.pick [] (by decide) rfl rfl)⟩)
                    refine ⟨congrArg Value.bool ?_, rfl⟩
                    symm; rw [decide_eq_false_iff_not]; intro e; subst e
                    omega
                  · refine AK.skip ?_
                    refine AK.then_ (hK24 _ ?_)
                    refine AK.seq (fun _ hK27 => ?_)
                    refine AK.region ?_
                    refine AK.val _ (Yl.fieldAddr fd25_3 rfl) trivial rfl ?_
                    refine AK.val _ (Yl.loadBox on23 rfl (by first | ((repeat (first | exact .hd | apply BoxS.tl | apply MapS.tl)); done) | assumption | exact BoxS.arg (by assumption)) rfl) trivial rfl ?_
                    refine AK.val _ (Yl.move rfl) trivial rfl ?_
                    first | refine AK.val _ (Yl.idxN sl23 rfl rfl (by first | exact .arg ‹_› | ((repeat (first | exact .hd | apply RdS.tl)); done) | assumption | exact .arg huF | exact .arg hvF | exact .arg huNr | exact .arg hvNr | exact .arg (huNi _ (by omega)) | exact .arg (hvNi _ (by omega))) (by decide) (by omega)) trivial rfl ?_ | refine AK.val _ (Yl.idx sl23 rfl rfl (by first | exact .arg ‹_› | ((repeat (first | exact .hd | apply RdS.tl)); done) | assumption | exact .arg huF | exact .arg hvF | exact .arg huNr | exact .arg hvNr | exact .arg (huNi _ (by omega)) | exact .arg (hvNi _ (by omega))) (by decide) (by omega)) trivial rfl ?_ | refine AK.val _ (Yl.idxK sl23 rfl rfl (by first | exact .arg ‹_› | ((repeat (first | exact .hd | apply RdS.tl)); done) | assumption | exact .arg huF | exact .arg hvF | exact .arg huNr | exact .arg hvNr | exact .arg (huNi _ (by omega)) | exact .arg (hvNi _ (by omega))) (by decide) (by omega)) trivial rfl ?_
                    refine AK.val _ (Yl.loadV on26 rfl (by first | exact .arg ‹_› | ((repeat (first | exact .hd | apply RdS.tl)); done) | assumption | exact .arg huF | exact .arg hvF | exact .arg huNr | exact .arg hvNr | exact .arg (huNi _ (by omega)) | exact .arg (hvNi _ (by omega))) (by omega)) trivial rfl ?_
                    refine AK.val _ (Yl.lenR sl26 rfl (by first | exact .arg ‹_› | ((repeat (first | exact .hd | apply RdS.tl)); done) | assumption | exact .arg huF | exact .arg hvF | exact .arg huNr | exact .arg hvNr | exact .arg (huNi _ (by omega)) | exact .arg (hvNi _ (by omega)))) trivial rfl ?_
                    refine AK.val _ (Yl.move rfl) trivial rfl ?_
                    refine AK.nil ?_
                    refine AK.then_ (hK27 _ ?_)
                    refine AK.block ?_
                    refine AK.loopS (X := Nat) [2, 3, 6, 58, 59, 80] (fun j => [(81, .int .i64 (j : Int))]) (fun j => [box bx2 25 4 [.int .i64 a.L, .int .i64 a.s, uF, uN], box bx3 25 4 [.int .i64 b.L, .int .i64 b.s, vF, vN]]) (fun j => j ≤ (a.nx.getD k []).length ∧ (a.nx.getD k []).take j = (b.nx.getD k []).take j) (fun j => (a.nx.getD k []).length - j) (0) ?_ ?_ ?_ ?_
                    · exact ⟨Nat.zero_le _, by simp⟩
                    · exact .cons (rfl) (.nil)
                    · exact fun w hw => hw
                    · intro j hg2 _ hK28
                      obtain ⟨hj, ht3⟩ := hg2
                      have hmr2 := hmr (by omega)
                      refine AK.seq (fun _ hK29 => ?_)
                      refine AK.region ?_
                      refine AK.val _ (Yl.lss rfl rfl) trivial rfl ?_
                      refine AK.nil ?_
                      refine AK.then_ (hK29 _ ?_)
                      refine AK.seq (fun _ hK30 => ?_)
                      refine AK.condD rfl (fun hc5 => ?_) (fun hc5 => ?_)
                      · refine AK.skip ?_
                        refine AK.then_ (hK30 _ ?_)
                        refine AK.seq (fun _ hK31 => ?_)
                        refine AK.block ?_
                        refine AK.seq (fun _ hK32 => ?_)
                        refine AK.region ?_
                        refine AK.val _ (Yl.move rfl) trivial rfl ?_
                        refine AK.val _ (Yl.assign rfl) trivial rfl ?_
                        refine AK.nil ?_
                        refine AK.then_ (hK32 _ ?_)
                        refine AK.seq (fun _ hK33 => ?_)
                        refine AK.quiet mixed (by kernel_rfl) ?_
                        refine QK.val _ (Yl.fieldAddr fd25_3 rfl) trivial rfl ?_
                        refine QK.val _ (Yl.loadBox on23 rfl (by first | ((repeat (first | exact .hd | apply BoxS.tl | apply MapS.tl)); done) | assumption | exact BoxS.arg (by assumption)) rfl) trivial rfl ?_
                        refine QK.val _ (Yl.move rfl) trivial rfl ?_
                        first | refine QK.val _ (Yl.idxN sl23 rfl rfl (by first | exact .arg ‹_› | ((repeat (first | exact .hd | apply RdS.tl)); done) | assumption | exact .arg huF | exact .arg hvF | exact .arg huNr | exact .arg hvNr | exact .arg (huNi _ (by omega)) | exact .arg (hvNi _ (by omega))) (by decide) (by omega)) trivial rfl ?_ | refine QK.val _ (Yl.idx sl23 rfl rfl (by first | exact .arg ‹_› | ((repeat (first | exact .hd | apply RdS.tl)); done) | assumption | exact .arg huF | exact .arg hvF | exact .arg huNr | exact .arg hvNr | exact .arg (huNi _ (by omega)) | exact .arg (hvNi _ (by omega))) (by decide) (by omega)) trivial rfl ?_ | refine QK.val _ (Yl.idxK sl23 rfl rfl (by first | exact .arg ‹_› | ((repeat (first | exact .hd | apply RdS.tl)); done) | assumption | exact .arg huF | exact .arg hvF | exact .arg huNr | exact .arg hvNr | exact .arg (huNi _ (by omega)) | exact .arg (hvNi _ (by omega))) (by decide) (by omega)) trivial rfl ?_
                        refine QK.val _ (Yl.loadV on26 rfl (by first | exact .arg ‹_› | ((repeat (first | exact .hd | apply RdS.tl)); done) | assumption | exact .arg huF | exact .arg hvF | exact .arg huNr | exact .arg hvNr | exact .arg (huNi _ (by omega)) | exact .arg (hvNi _ (by omega))) (by omega)) trivial rfl ?_
                        refine QK.val _ (Yl.move rfl) trivial rfl ?_
                        first | refine QK.val _ (Yl.idxN sl26 rfl rfl (by first | exact .arg ‹_› | ((repeat (first | exact .hd | apply RdS.tl)); done) | assumption | exact .arg huF | exact .arg hvF | exact .arg huNr | exact .arg hvNr | exact .arg (huNi _ (by omega)) | exact .arg (hvNi _ (by omega))) (by decide) (by omega)) trivial rfl ?_ | refine QK.val _ (Yl.idx sl26 rfl rfl (by first | exact .arg ‹_› | ((repeat (first | exact .hd | apply RdS.tl)); done) | assumption | exact .arg huF | exact .arg hvF | exact .arg huNr | exact .arg hvNr | exact .arg (huNi _ (by omega)) | exact .arg (hvNi _ (by omega))) (by decide) (by omega)) trivial rfl ?_ | refine QK.val _ (Yl.idxK sl26 rfl rfl (by first | exact .arg ‹_› | ((repeat (first | exact .hd | apply RdS.tl)); done) | assumption | exact .arg huF | exact .arg hvF | exact .arg huNr | exact .arg hvNr | exact .arg (huNi _ (by omega)) | exact .arg (hvNi _ (by omega))) (by decide) (by omega)) trivial rfl ?_
                        refine QK.val _ (Yl.loadI on3 rfl (by first | exact .arg ‹_› | ((repeat (first | exact .hd | apply RdS.tl)); done) | assumption | exact .arg huF | exact .arg hvF | exact .arg huNr | exact .arg hvNr | exact .arg (huNi _ (by omega)) | exact .arg (hvNi _ (by omega))) (by omega)) trivial rfl ?_
                        refine QK.val _ (Yl.fieldAddr fd25_3 rfl) trivial rfl ?_
                        refine QK.val _ (Yl.loadBox on23 rfl (by first | ((repeat (first | exact .hd | apply BoxS.tl | apply MapS.tl)); done) | assumption | exact BoxS.arg (by assumption)) rfl) trivial rfl ?_
                        refine QK.val _ (Yl.move rfl) trivial rfl ?_
                        first | refine QK.val _ (Yl.idxN sl23 rfl rfl (by first | exact .arg ‹_› | ((repeat (first | exact .hd | apply RdS.tl)); done) | assumption | exact .arg huF | exact .arg hvF | exact .arg huNr | exact .arg hvNr | exact .arg (huNi _ (by omega)) | exact .arg (hvNi _ (by omega))) (by decide) (by omega)) trivial rfl ?_ | refine QK.val _ (Yl.idx sl23 rfl rfl (by first | exact .arg ‹_› | ((repeat (first | exact .hd | apply RdS.tl)); done) | assumption | exact .arg huF | exact .arg hvF | exact .arg huNr | exact .arg hvNr | exact .arg (huNi _ (by omega)) | exact .arg (hvNi _ (by omega))) (by decide) (by omega)) trivial rfl ?_ | refine QK.val _ (Yl.idxK sl23 rfl rfl (by first | exact .arg ‹_› | ((repeat (first | exact .hd | apply RdS.tl)); done) | assumption | exact .arg huF | exact .arg hvF | exact .arg huNr | exact .arg hvNr | exact .arg (huNi _ (by omega)) | exact .arg (hvNi _ (by omega))) (by decide) (by omega)) trivial rfl ?_
                        refine QK.val _ (Yl.loadV on26 rfl (by first | exact .arg ‹_› | ((repeat (first | exact .hd | apply RdS.tl)); done) | assumption | exact .arg huF | exact .arg hvF | exact .arg huNr | exact .arg hvNr | exact .arg (huNi _ (by omega)) | exact .arg (hvNi _ (by omega))) (by omega)) trivial rfl ?_
                        refine QK.val _ (Yl.move rfl) trivial rfl ?_
                        first | refine QK.val _ (Yl.idxN sl26 rfl rfl (by first | exact .arg ‹_› | ((repeat (first | exact .hd | apply RdS.tl)); done) | assumption | exact .arg huF | exact .arg hvF | exact .arg huNr | exact .arg hvNr | exact .arg (huNi _ (by omega)) | exact .arg (hvNi _ (by omega))) (by decide) (by omega)) trivial rfl ?_ | refine QK.val _ (Yl.idx sl26 rfl rfl (by first | exact .arg ‹_› | ((repeat (first | exact .hd | apply RdS.tl)); done) | assumption | exact .arg huF | exact .arg hvF | exact .arg huNr | exact .arg hvNr | exact .arg (huNi _ (by omega)) | exact .arg (hvNi _ (by omega))) (by decide) (by omega)) trivial rfl ?_ | refine QK.val _ (Yl.idxK sl26 rfl rfl (by first | exact .arg ‹_› | ((repeat (first | exact .hd | apply RdS.tl)); done) | assumption | exact .arg huF | exact .arg hvF | exact .arg huNr | exact .arg hvNr | exact .arg (huNi _ (by omega)) | exact .arg (hvNi _ (by omega))) (by decide) (by omega)) trivial rfl ?_
                        refine QK.val _ (Yl.loadI on3 rfl (by first | exact .arg ‹_› | ((repeat (first | exact .hd | apply RdS.tl)); done) | assumption | exact .arg huF | exact .arg hvF | exact .arg huNr | exact .arg hvNr | exact .arg (huNi _ (by omega)) | exact .arg (hvNi _ (by omega))) (by omega)) trivial rfl ?_
                        refine QK.val _ (Yl.neq rfl rfl) trivial rfl ?_
                        refine QK.nil (QK.fin ?_)
                        refine AK.then_ (hK33 _ ?_)
                        refine AK.condNe rfl (fun hc6 => ?_) (fun hc6 => ?_)
                        · refine AK.seq (fun _ hK34 => ?_)
                          refine AK.region ?_
                          refine AK.val _ (Yl.assign rfl) trivial rfl ?_
                          refine AK.nil ?_
                          refine AK.then_ (hK34 _ ?_)
                          refine AK.ret ?_
                          refine AK.block_ret ?_
                          refine AK.then_ret ?_
                          refine AK.then_ret ?_
                          refine AK.block_ret ?_
                          refine AK.block_ret ?_
                          refine AK.then_ret ?_
                          refine AK.then_ret ?_
                          refine AK.block_ret ?_
                          refine AK.then_ret ?_
                          refine AK.ret1 rfl rfl (fun w hw => ⟨_, _, ?_, rfl, Ret.of (hw.pick [] (by decide) rfl rfl)⟩)
                          refine ⟨congrArg Value.bool ?_, rfl⟩
                          symm; rw [decide_eq_false_iff_not]; intro e; subst e
                          omega
                        · refine AK.skip ?_
                          refine AK.block_normal ?_
                          refine AK.then_ (hK31 _ ?_)
                          refine AK.region ?_
                          refine AK.val _ (Yl.add rfl rfl (by omega)) trivial rfl ?_
                          refine AK.val _ (Yl.move rfl) trivial rfl ?_
                          refine AK.nil ?_
                          refine AK.then_ (hK28 _ _ (j + 1) ⟨by omega, (beq_takeD 0 (by omega) j (by omega) ht3).2 (by omega)⟩ (by omega) (.cons (rfl) (.cons rfl (.cons rfl (.cons rfl (.cons rfl (.cons rfl (.cons rfl (.nil)))))))) (fun w hw => hw))
                      · refine AK.exit ?_
                        refine AK.then_exit ?_
                        refine AK.then_exit ?_
                        refine AK.block_exit ?_
                        refine AK.block_normal ?_
                        refine AK.then_ (hK22 _ ?_)
                        refine AK.region ?_
                        refine AK.val _ (Yl.add rfl rfl (by omega)) trivial rfl ?_
                        refine AK.val _ (Yl.move rfl) trivial rfl ?_
                        refine AK.nil ?_
                        refine AK.then_ (hK19 _ _ (k + 1) ⟨by omega, (beq_takeD [] hlN k (by omega) ht2).2 (by have e : j = (a.nx.getD k []).length := (by omega); have h1 := ht3; rw [e, List.take_length] at h1; rw [h1]; rw [show (a.nx.getD k []).length = (b.nx.getD k []).length by omega, List.take_length])⟩ (by omega) (.cons (rfl) (.cons rfl (.cons rfl (.cons rfl (.nil))))) (fun w hw => hw))
                · refine AK.exit ?_
                  refine AK.then_exit ?_
                  refine AK.then_exit ?_
                  refine AK.block_exit ?_
                  refine AK.then_ (hK17 _ ?_)
                  refine AK.seq (fun _ hK35 => ?_)
                  refine AK.region ?_
                  refine AK.val _ (Yl.assign rfl) trivial rfl ?_
                  refine AK.nil ?_
                  refine AK.then_ (hK35 _ ?_)
                  refine AK.ret ?_
                  refine AK.ret1 rfl rfl (fun w hw => ⟨_, _, ?_, rfl, Ret.of (hw.pick [] (by decide) rfl rfl)⟩)
                  refine ⟨congrArg Value.bool ?_, rfl⟩
                  symm; rw [decide_eq_true_eq]
                  rw [show k = a.nx.length by omega, List.take_length, hlN, List.take_length] at ht2
                  have h3 := hFin
                  obtain ⟨aL, aS, af, an⟩ := a
                  obtain ⟨bL, bS, bf, bn⟩ := b
                  simp only at hL hs h3 ht2
                  subst hL hs h3 ht2; rfl


theorem beq_take {xs ys : List Int} (hl : xs.length = ys.length) (k : Nat) (hk : k < xs.length) (h : xs.take k = ys.take k) : xs.take (k + 1) = ys.take (k + 1) ↔ xs.getD k 0 = ys.getD k 0 := by
  rw [take_snocD 0 xs k hk, take_snocD 0 ys k (by omega), h]
  simp

set_option maxRecDepth 100000 in
theorem s_same (w : World) (u v : Value) (xs ys : List Int) (hu : RdI w u xs) (hv : RdI w v ys) (hb : xs.length ≤ 9223372036854775807) : CallS Try.prog 17 [u, v] w (fun r o => r = .bool (decide (xs = ys)) ∧ o = []) := by
  unfold RdI at hu hv
  refine spec_of Try.func17 rfl (Nat.le_of_ble_eq_true rfl) ?_
  refine AK.seq (fun _ hK1 => ?_)
  refine AK.region ?_
  refine AK.val _ (Yl.assign rfl) trivial rfl ?_
  refine AK.nil ?_
  refine AK.then_ (hK1 _ ?_)
  refine AK.seq (fun _ hK2 => ?_)
  refine AK.seq (fun _ hK3 => ?_)
  refine AK.region ?_
  refine AK.val _ (Yl.move rfl) trivial rfl ?_
  refine AK.val _ (Yl.lenR sl26 rfl (by first | exact .arg ‹_› | ((repeat (first | exact .hd | apply RdS.tl)); done) | assumption)) trivial rfl ?_
  refine AK.val _ (Yl.move rfl) trivial rfl ?_
  refine AK.val _ (Yl.lenR sl26 rfl (by first | exact .arg ‹_› | ((repeat (first | exact .hd | apply RdS.tl)); done) | assumption)) trivial rfl ?_
  refine AK.val _ (Yl.neq rfl rfl) trivial rfl ?_
  refine AK.nil ?_
  refine AK.then_ (hK3 _ ?_)
  refine AK.condNe rfl (fun hc0 => ?_) (fun hc0 => ?_)
  · refine AK.seq (fun _ hK4 => ?_)
    refine AK.region ?_
    refine AK.val _ (Yl.assign rfl) trivial rfl ?_
    refine AK.nil ?_
    refine AK.then_ (hK4 _ ?_)
    refine AK.ret ?_
    refine AK.then_ret ?_
    refine AK.ret1 rfl rfl (fun w hw => ⟨_, _, ?_, rfl, Ret.of (hw.pick [] (by decide) rfl rfl)⟩)
    exact ⟨by simp; intro e; subst e; omega, rfl⟩
  · refine AK.skip ?_
    refine AK.then_ (hK2 _ ?_)
    refine AK.seq (fun _ hK5 => ?_)
    refine AK.seq (fun _ hK6 => ?_)
    refine AK.region ?_
    refine AK.val _ (Yl.move rfl) trivial rfl ?_
    refine AK.val _ (Yl.lenR sl26 rfl (by first | exact .arg ‹_› | ((repeat (first | exact .hd | apply RdS.tl)); done) | assumption)) trivial rfl ?_
    refine AK.val _ (Yl.move rfl) trivial rfl ?_
    refine AK.nil ?_
    refine AK.then_ (hK6 _ ?_)
    refine AK.block ?_
    refine AK.loopS (X := Nat) [0, 1, 12] (fun k => [(13, .int .i64 (k : Int))]) (fun k => []) (fun k => k ≤ xs.length ∧ xs.length = ys.length ∧ xs.take k = ys.take k) (fun k => xs.length - k) (0) ?_ ?_ ?_ ?_
    · exact ⟨Nat.zero_le _, by omega, by simp⟩
    · exact .cons (rfl) (.nil)
    · exact fun w hw => hw
    · intro k hg0 _ hK7
      obtain ⟨hk, hl, ht⟩ := hg0
      refine AK.seq (fun _ hK8 => ?_)
      refine AK.region ?_
      refine AK.val _ (Yl.lss rfl rfl) trivial rfl ?_
      refine AK.nil ?_
      refine AK.then_ (hK8 _ ?_)
      refine AK.seq (fun _ hK9 => ?_)
      refine AK.condD rfl (fun hc1 => ?_) (fun hc1 => ?_)
      · refine AK.skip ?_
        refine AK.then_ (hK9 _ ?_)
        refine AK.seq (fun _ hK10 => ?_)
        refine AK.block ?_
        refine AK.seq (fun _ hK11 => ?_)
        refine AK.region ?_
        refine AK.val _ (Yl.move rfl) trivial rfl ?_
        refine AK.val _ (Yl.assign rfl) trivial rfl ?_
        refine AK.nil ?_
        refine AK.then_ (hK11 _ ?_)
        refine AK.seq (fun _ hK12 => ?_)
        refine AK.quiet mixed (by kernel_rfl) ?_
        refine QK.val _ (Yl.move rfl) trivial rfl ?_
        refine QK.val _ (Yl.move rfl) trivial rfl ?_
        first | refine QK.val _ (Yl.idxN sl26 rfl rfl (by first | exact .arg ‹_› | ((repeat (first | exact .hd | apply RdS.tl)); done) | assumption) (by decide) (by omega)) trivial rfl ?_ | refine QK.val _ (Yl.idx sl26 rfl rfl (by first | exact .arg ‹_› | ((repeat (first | exact .hd | apply RdS.tl)); done) | assumption) (by decide) (by omega)) trivial rfl ?_ | refine QK.val _ (Yl.idxK sl26 rfl rfl (by first | exact .arg ‹_› | ((repeat (first | exact .hd | apply RdS.tl)); done) | assumption) (by decide) (by omega)) trivial rfl ?_
        refine QK.val _ (Yl.loadI on3 rfl (by first | exact .arg ‹_› | ((repeat (first | exact .hd | apply RdS.tl)); done) | assumption) (by omega)) trivial rfl ?_
        refine QK.val _ (Yl.move rfl) trivial rfl ?_
        refine QK.val _ (Yl.move rfl) trivial rfl ?_
        first | refine QK.val _ (Yl.idxN sl26 rfl rfl (by first | exact .arg ‹_› | ((repeat (first | exact .hd | apply RdS.tl)); done) | assumption) (by decide) (by omega)) trivial rfl ?_ | refine QK.val _ (Yl.idx sl26 rfl rfl (by first | exact .arg ‹_› | ((repeat (first | exact .hd | apply RdS.tl)); done) | assumption) (by decide) (by omega)) trivial rfl ?_ | refine QK.val _ (Yl.idxK sl26 rfl rfl (by first | exact .arg ‹_› | ((repeat (first | exact .hd | apply RdS.tl)); done) | assumption) (by decide) (by omega)) trivial rfl ?_
        refine QK.val _ (Yl.loadI on3 rfl (by first | exact .arg ‹_› | ((repeat (first | exact .hd | apply RdS.tl)); done) | assumption) (by omega)) trivial rfl ?_
        refine QK.val _ (Yl.neq rfl rfl) trivial rfl ?_
        refine QK.nil (QK.fin ?_)
        refine AK.then_ (hK12 _ ?_)
        refine AK.condNe rfl (fun hc2 => ?_) (fun hc2 => ?_)
        · refine AK.seq (fun _ hK13 => ?_)
          refine AK.region ?_
          refine AK.val _ (Yl.assign rfl) trivial rfl ?_
          refine AK.nil ?_
          refine AK.then_ (hK13 _ ?_)
          refine AK.ret ?_
          refine AK.block_ret ?_
          refine AK.then_ret ?_
          refine AK.then_ret ?_
          refine AK.block_ret ?_
          refine AK.then_ret ?_
          refine AK.ret1 rfl rfl (fun w hw => ⟨_, _, ?_, rfl, Ret.of (hw.pick [] (by decide) rfl rfl)⟩)
          exact ⟨by simp; intro e; subst e; simp at *, rfl⟩
        · refine AK.skip ?_
          refine AK.block_normal ?_
          refine AK.then_ (hK10 _ ?_)
          refine AK.region ?_
          refine AK.val _ (Yl.add rfl rfl (by omega)) trivial rfl ?_
          refine AK.val _ (Yl.move rfl) trivial rfl ?_
          refine AK.nil ?_
          refine AK.then_ (hK7 _ _ (k + 1) ⟨by omega, by omega, (beq_take hl k (by omega) ht).2 (by assumption)⟩ (by omega) (.cons (rfl) (.cons rfl (.cons rfl (.cons rfl (.nil))))) (fun w hw => hw))
      · refine AK.exit ?_
        refine AK.then_exit ?_
        refine AK.then_exit ?_
        refine AK.block_exit ?_
        refine AK.then_ (hK5 _ ?_)
        refine AK.seq (fun _ hK14 => ?_)
        refine AK.region ?_
        refine AK.val _ (Yl.assign rfl) trivial rfl ?_
        refine AK.nil ?_
        refine AK.then_ (hK14 _ ?_)
        refine AK.ret ?_
        refine AK.ret1 rfl rfl (fun w hw => ⟨_, _, ?_, rfl, Ret.of (hw.pick [] (by decide) rfl rfl)⟩)
        have : k = xs.length := by omega
        subst this
        exact ⟨by simp; rw [List.take_length, hl, List.take_length] at ht; exact ht, rfl⟩

set_option maxHeartbeats 4000000 in
set_option maxRecDepth 100000 in
theorem s_reftrim (w : World) (v : Value) (d : Dfa) (h : RdD (fun _ => False) w v d) (hv : VD d) : CallS Try.prog 40 [v] w (fun r o => ∃ (vF vN vM : Value) (rs : List Value), r = .tuple #[.agg #[.int .i64 (trimD d).L, .int .i64 (trimD d).s, vF, vN], vM] ∧ rs.length = (trimD d).nx.length ∧ IsSl vF ∧ IsSl vN ∧ IsSl vM ∧ o = dfaO 4 3 26 vF vN rs (trimD d) ++ [row vM 3 1 (numT d).length ((numT d).map (Value.int .i64))]) := by
  have h0 := h
  obtain ⟨vF, vN, rfl, hF, hN⟩ := h
  have hF0 := hF
  have hN0 := hN
  obtain ⟨rs, hrl, hNr, hNi⟩ := hN
  have sF := hF.sl
  have sN := hNr.sl
  have hmf := hF.le
  have hmn := hNr.le
  unfold RdL at hF
  have hvL := hv.L
  have hnx := hv.nx
  have hn5 := hv.n
  obtain ⟨tk1, tk2, tk3, tk4⟩ := TSt_ok hv
  have hnl : (numT d).length = d.fin.length := numK_len _ _ _
  refine spec_of Try.func40 rfl (Nat.le_of_ble_eq_true rfl) ?_
  refine AK.seq (fun _ hK1 => ?_)
  refine AK.region ?_
  refine AK.box_ (E := 25) (cs := [.int .i64 d.L, .int .i64 d.s, vF, vN]) rfl rfl rfl trivial rfl (fun bx1 => ?_)
  refine AK.alloc el25 rfl rfl trivial rfl (fun bx2 => ?_)
  refine AK.val _ (Yl.assign rfl) trivial rfl ?_
  refine AK.nil ?_
  refine AK.then_ (hK1 _ ?_)
  refine AK.seq (fun _ hK2 => ?_)
  refine AK.region ?_
  refine AK.val _ (Yl.loadBoxG ag25 rfl (by first | ((repeat (first | exact .hd | apply BoxS.tl | apply MapS.tl)); done) | assumption | exact BoxS.arg (by assumption)) rfl rfl) trivial rfl ?_
  refine AK.call co52 rfl (fun w hw => s_refaccess w _ d (h0.at hw) hv) trivial rfl ?_
  rintro r o ⟨vs, vw, svs, svw, rfl, rfl⟩
  refine AK.val _ (Yl.move rfl) trivial rfl ?_
  refine AK.val _ (Yl.extract rfl rfl) trivial rfl ?_
  refine AK.val _ (Yl.extract rfl rfl) trivial rfl ?_
  refine AK.val _ (Yl.assign rfl) trivial rfl ?_
  refine AK.val _ (Yl.assign rfl) trivial rfl ?_
  refine AK.nil ?_
  refine AK.then_ (hK2 _ ?_)
  refine AK.seq (fun _ hK3 => ?_)
  refine AK.region ?_
  refine AK.val _ (Yl.fieldAddr fd25_2 rfl) trivial rfl ?_
  refine AK.val _ (Yl.loadBox on22 rfl (by first | ((repeat (first | exact .hd | apply BoxS.tl | apply MapS.tl)); done) | assumption | exact BoxS.arg (by assumption)) rfl) trivial rfl ?_
  refine AK.val _ (Yl.lenR sl22 rfl (by first | exact .arg ‹_› | ((repeat (first | exact .hd | apply RdS.tl)); done) | assumption | exact .arg (hNi _ (by omega)))) trivial rfl ?_
  refine AK.make1 (n := d.fin.length) sl26 el3 rfl rfl rfl (by omega) (by omega) trivial rfl (fun mv => ?_)
  refine AK.val _ (Yl.assign rfl) trivial rfl ?_
  refine AK.nil ?_
  refine AK.then_ (hK3 _ ?_)
  refine AK.seq (fun _ hK4 => ?_)
  refine AK.seq (fun _ hK5 => ?_)
  refine AK.region ?_
  refine AK.val _ (Yl.move rfl) trivial rfl ?_
  refine AK.val _ (Yl.lenR sl26 rfl (by first | exact .arg ‹_› | ((repeat (first | exact .hd | apply RdS.tl)); done) | assumption | exact .arg (hNi _ (by omega)))) trivial rfl ?_
  refine AK.val _ (Yl.move rfl) trivial rfl ?_
  refine AK.nil ?_
  refine AK.then_ (hK5 _ ?_)
  refine AK.block ?_
  refine AK.loopS (X := Nat) [1, 2, 4, 6, 26] (fun k => [(27, .int .i64 (k : Int))]) (fun k => [box bx1 25 4 [.int .i64 d.L, .int .i64 d.s, vF, vN], box bx2 25 4 [.int .i64 0, .int .i64 0, .slice none 0 0, .slice none 0 0], row vs 3 1 (TSt d).length ((TSt d).map (Value.int .i64)), row vw 9 1 (TWo d).length ((TWo d).map sv), row mv 3 1 d.fin.length ((List.replicate k (-1) ++ List.replicate (d.fin.length - k) (0 : Int)).map (Value.int .i64))]) (fun k => k ≤ d.fin.length) (fun k => d.fin.length - k) (0) ?_ ?_ ?_ ?_
  · exact Nat.zero_le _
  · exact .cons (rfl) (.nil)
  · exact fun w hw => by have e : ((List.replicate 0 (-1) ++ List.replicate (d.fin.length - 0) (0 : Int)).map (Value.int .i64)) = List.replicate d.fin.length (Value.int .i64 0) := (by simp); rw [e]; exact hw
  · intro k hg0 _ hK6
    refine AK.seq (fun _ hK7 => ?_)
    refine AK.region ?_
    refine AK.val _ (Yl.lss rfl rfl) trivial rfl ?_
    refine AK.nil ?_
    refine AK.then_ (hK7 _ ?_)
    refine AK.seq (fun _ hK8 => ?_)
    refine AK.condD rfl (fun hc0 => ?_) (fun hc0 => ?_)
    · refine AK.skip ?_
      refine AK.then_ (hK8 _ ?_)
      refine AK.seq (fun _ hK9 => ?_)
      refine AK.block ?_
      refine AK.seq (fun _ hK10 => ?_)
      refine AK.region ?_
      refine AK.val _ (Yl.move rfl) trivial rfl ?_
      refine AK.val _ (Yl.assign rfl) trivial rfl ?_
      refine AK.nil ?_
      refine AK.then_ (hK10 _ ?_)
      refine AK.region ?_
      refine AK.val _ (Yl.move rfl) trivial rfl ?_
      refine AK.val _ (Yl.move rfl) trivial rfl ?_
      first | refine AK.val _ (Yl.idxN sl26 rfl rfl (by first | exact .arg ‹_› | ((repeat (first | exact .hd | apply RdS.tl)); done) | assumption | exact .arg (hNi _ (by omega))) (by decide) (by omega)) trivial rfl ?_ | refine AK.val _ (Yl.idx sl26 rfl rfl (by first | exact .arg ‹_› | ((repeat (first | exact .hd | apply RdS.tl)); done) | assumption | exact .arg (hNi _ (by omega))) (by decide) (by omega)) trivial rfl ?_ | refine AK.val _ (Yl.idxK sl26 rfl rfl (by first | exact .arg ‹_› | ((repeat (first | exact .hd | apply RdS.tl)); done) | assumption | exact .arg (hNi _ (by omega))) (by decide) (by omega)) trivial rfl ?_
      refine AK.store1e 4 rfl sz3 rfl rfl rfl rfl (by omega) (cs' := ((List.replicate (k + 1) (-1) ++ List.replicate (d.fin.length - (k + 1)) (0 : Int)).map (Value.int .i64))) (by rw [List.replicate_succ']; exact fill_set (Value.int .i64) (List.replicate k (-1)) 0 (-1) d.fin.length k (by simp) (by omega)) trivial ?_
      refine AK.nil ?_
      refine AK.block_normal ?_
      refine AK.then_ (hK9 _ ?_)
      refine AK.region ?_
      refine AK.val _ (Yl.add rfl rfl (by omega)) trivial rfl ?_
      refine AK.val _ (Yl.move rfl) trivial rfl ?_
      refine AK.nil ?_
      refine AK.then_ (hK6 _ _ (k + 1) (by omega) (by omega) (.cons (rfl) (.cons rfl (.cons rfl (.cons rfl (.cons rfl (.cons rfl (.nil))))))) (fun w hw => hw))
    · refine AK.shape 4 rfl (fun smv => ?_)
      refine AK.exit ?_
      refine AK.then_exit ?_
      refine AK.then_exit ?_
      refine AK.block_exit ?_
      refine AK.then_ (hK4 _ ?_)
      refine AK.seq (fun _ hK11 => ?_)
      refine AK.seq (fun _ hK12 => ?_)
      refine AK.region ?_
      refine AK.val _ (Yl.move rfl) trivial rfl ?_
      refine AK.val _ (Yl.lenR sl26 rfl (by first | exact .arg ‹_› | ((repeat (first | exact .hd | apply RdS.tl)); done) | assumption | exact .arg (hNi _ (by omega)))) trivial rfl ?_
      refine AK.val _ (Yl.move rfl) trivial rfl ?_
      refine AK.nil ?_
      refine AK.then_ (hK12 _ ?_)
      refine AK.block ?_
      refine AK.loopS (X := Nat) [1, 2, 4, 6, 34, 35] (fun k => [(36, .int .i64 (k : Int))]) (fun k => [box bx1 25 4 [.int .i64 d.L, .int .i64 d.s, vF, vN], box bx2 25 4 [.int .i64 0, .int .i64 0, .slice none 0 0, .slice none 0 0], row vs 3 1 (TSt d).length ((TSt d).map (Value.int .i64)), row vw 9 1 (TWo d).length ((TWo d).map sv), row mv 3 1 d.fin.length ((numK d.fin.length (TSt d) k).map (Value.int .i64))]) (fun k => k ≤ (TSt d).length) (fun k => (TSt d).length - k) (0) ?_ ?_ ?_ ?_
      · exact Nat.zero_le _
      · exact .cons (rfl) (.nil)
      · exact fun w hw => by have e : (List.replicate k (-1) ++ List.replicate (d.fin.length - k) (0 : Int)) = numK d.fin.length (TSt d) 0 := (by rw [show k = d.fin.length by omega, Nat.sub_self]; simp [numK]); rw [e] at hw; exact hw
      · intro k hg1 _ hK13
        refine AK.seq (fun _ hK14 => ?_)
        refine AK.region ?_
        refine AK.val _ (Yl.lss rfl rfl) trivial rfl ?_
        refine AK.nil ?_
        refine AK.then_ (hK14 _ ?_)
        refine AK.seq (fun _ hK15 => ?_)
        refine AK.condD rfl (fun hc1 => ?_) (fun hc1 => ?_)
        · have htk := tk2 _ (getD_mem (d := 0) (xs := TSt d) (k := k) (by omega))
          refine AK.skip ?_
          refine AK.then_ (hK15 _ ?_)
          refine AK.seq (fun _ hK16 => ?_)
          refine AK.block ?_
          refine AK.seq (fun _ hK17 => ?_)
          refine AK.region ?_
          refine AK.val _ (Yl.move rfl) trivial rfl ?_
          first | refine AK.val _ (Yl.idxN sl26 rfl rfl (by first | exact .arg ‹_› | ((repeat (first | exact .hd | apply RdS.tl)); done) | assumption | exact .arg (hNi _ (by omega))) (by decide) (by omega)) trivial rfl ?_ | refine AK.val _ (Yl.idx sl26 rfl rfl (by first | exact .arg ‹_› | ((repeat (first | exact .hd | apply RdS.tl)); done) | assumption | exact .arg (hNi _ (by omega))) (by decide) (by omega)) trivial rfl ?_ | refine AK.val _ (Yl.idxK sl26 rfl rfl (by first | exact .arg ‹_› | ((repeat (first | exact .hd | apply RdS.tl)); done) | assumption | exact .arg (hNi _ (by omega))) (by decide) (by omega)) trivial rfl ?_
          refine AK.val _ (Yl.loadI on3 rfl (by first | exact .arg ‹_› | ((repeat (first | exact .hd | apply RdS.tl)); done) | assumption | exact .arg (hNi _ (by omega))) (by omega)) trivial rfl ?_
          refine AK.val _ (Yl.assign rfl) trivial rfl ?_
          refine AK.val _ (Yl.assign rfl) trivial rfl ?_
          refine AK.nil ?_
          refine AK.then_ (hK17 _ ?_)
          refine AK.region ?_
          refine AK.val _ (Yl.move rfl) trivial rfl ?_
          refine AK.val _ (Yl.move rfl) trivial rfl ?_
          refine AK.val _ (Yl.move rfl) trivial rfl ?_
          first | refine AK.val _ (Yl.idxN sl26 rfl rfl (by first | exact .arg ‹_› | ((repeat (first | exact .hd | apply RdS.tl)); done) | assumption | exact .arg (hNi _ (by omega))) (by decide) (by omega)) trivial rfl ?_ | refine AK.val _ (Yl.idx sl26 rfl rfl (by first | exact .arg ‹_› | ((repeat (first | exact .hd | apply RdS.tl)); done) | assumption | exact .arg (hNi _ (by omega))) (by decide) (by omega)) trivial rfl ?_ | refine AK.val _ (Yl.idxK sl26 rfl rfl (by first | exact .arg ‹_› | ((repeat (first | exact .hd | apply RdS.tl)); done) | assumption | exact .arg (hNi _ (by omega))) (by decide) (by omega)) trivial rfl ?_
          refine AK.store1e 4 rfl sz3 rfl rfl rfl rfl (by have := numK_len d.fin.length (TSt d) k; omega) (cs' := ((numK d.fin.length (TSt d) (k + 1)).map (Value.int .i64))) (by rw [numK_succ, List.map_set]) trivial ?_
          refine AK.nil ?_
          refine AK.block_normal ?_
          refine AK.then_ (hK16 _ ?_)
          refine AK.region ?_
          refine AK.val _ (Yl.add rfl rfl (by omega)) trivial rfl ?_
          refine AK.val _ (Yl.move rfl) trivial rfl ?_
          refine AK.nil ?_
          refine AK.then_ (hK13 _ _ (k + 1) (by omega) (by omega) (.cons (rfl) (.cons rfl (.cons rfl (.cons rfl (.cons rfl (.cons rfl (.cons rfl (.nil)))))))) (fun w hw => hw))
        · refine AK.exit ?_
          refine AK.then_exit ?_
          refine AK.then_exit ?_
          refine AK.block_exit ?_
          refine AK.then_ (hK11 _ ?_)
          refine AK.seq (fun _ hK18 => ?_)
          refine AK.region ?_
          refine AK.val _ (Yl.fieldAddr fd25_0 rfl) trivial rfl ?_
          refine AK.val _ (Yl.loadBox on3 rfl (by first | ((repeat (first | exact .hd | apply BoxS.tl | apply MapS.tl)); done) | assumption | exact BoxS.arg (by assumption)) rfl) trivial rfl ?_
          refine AK.val _ (Yl.build (parts := [(0, .tmp 47)]) (cs := #[.int .i64 d.L, .int .i64 0, .slice none 0 0, .slice none 0 0]) rfl (by kernel_rfl)) trivial rfl ?_
          refine AK.alloc el25 rfl rfl trivial rfl (fun bx10 => ?_)
          refine AK.storeBox 5 (us := [.int .i64 d.L, .int .i64 0, .slice none 0 0, .slice none 0 0]) (cs' := [.int .i64 d.L, .int .i64 0, .slice none 0 0, .slice none 0 0]) rfl sz25 rfl rfl rfl rfl (by repeat (first | exact one'_nil | refine one'_cons (by first | rfl | exact IsSl.one (by assumption) | exact IsSl.one nilSl) ?_)) (Nat.le_of_ble_eq_true rfl) rfl trivial ?_
          refine AK.nil ?_
          refine AK.then_ (hK18 _ ?_)
          refine AK.seq (fun _ hK19 => ?_)
          refine AK.seq (fun _ hK20 => ?_)
          refine AK.region ?_
          refine AK.val _ (Yl.move rfl) trivial rfl ?_
          refine AK.val _ (Yl.lenR sl26 rfl (by first | exact .arg ‹_› | ((repeat (first | exact .hd | apply RdS.tl)); done) | assumption | exact .arg (hNi _ (by omega)))) trivial rfl ?_
          refine AK.val _ (Yl.move rfl) trivial rfl ?_
          refine AK.nil ?_
          refine AK.then_ (hK20 _ ?_)
          refine AK.block ?_
          refine AK.loopS (X := Nat × Value × Value × List Value) [1, 2, 6, 10, 49, 50] (fun x => [(51, .int .i64 (x.1 : Int))]) (fun x => [box bx1 25 4 [.int .i64 d.L, .int .i64 d.s, vF, vN], box bx2 25 4 [.int .i64 0, .int .i64 0, .slice none 0 0, .slice none 0 0], row vs 3 1 (TSt d).length ((TSt d).map (Value.int .i64)), row vw 9 1 (TWo d).length ((TWo d).map sv), row mv 3 1 d.fin.length ((numT d).map (Value.int .i64)), box bx10 25 4 [.int .i64 d.L, .int .i64 0, x.2.1, x.2.2.1], row x.2.1 4 1 x.1 ((((TSt d).take x.1).map (finQ d)).map Value.bool), row x.2.2.1 26 1 x.1 x.2.2.2, bigA (matG (Value.int .i64) 3 x.2.2.2 (((TSt d).take x.1).map fun (q : Int) => (d.nx.getD q.toNat []).map fun (s : Int) => (numT d).getD s.toNat 0))]) (fun x => x.1 ≤ (TSt d).length ∧ x.2.2.2.length = x.1 ∧ IsSl x.2.1 ∧ IsSl x.2.2.1) (fun x => (TSt d).length - x.1) ((0, .slice none 0 0, .slice none 0 0, [])) ?_ ?_ ?_ ?_
          · exact ⟨Nat.zero_le _, rfl, nilSl, nilSl⟩
          · exact .cons (rfl) (.nil)
          · exact fun w hw => by rw [show numK d.fin.length (TSt d) k = numT d by unfold numT; rw [show k = (TSt d).length by omega]] at hw; have h1 := ((hw.ghostG (f := Value.int .i64) 3).ghost 4 1).ghost 26 1; exact h1.pick [0, 1, 2, 3, 4, 5, 7, 8, 6] (by decide) rfl rfl
          · intro x hg2 _ hK21
            have hsF := hg2.2.2.1
            have hsN := hg2.2.2.2
            refine AK.seq (fun _ hK22 => ?_)
            refine AK.region ?_
            refine AK.val _ (Yl.lss rfl rfl) trivial rfl ?_
            refine AK.nil ?_
            refine AK.then_ (hK22 _ ?_)
            refine AK.seq (fun _ hK23 => ?_)
            refine AK.condD rfl (fun hc2 => ?_) (fun hc2 => ?_)
            · have htq := tk2 _ (getD_mem (d := 0) (xs := TSt d) (k := x.1) (by omega))
              have hrw := hv.row ((TSt d).getD x.1 0).toNat (by omega)
              have hto := fun j => hv.to ((TSt d).getD x.1 0).toNat j (by omega)
              refine AK.skip ?_
              refine AK.then_ (hK23 _ ?_)
              refine AK.seq (fun _ hK24 => ?_)
              refine AK.block ?_
              refine AK.seq (fun _ hK25 => ?_)
              refine AK.region ?_
              first | refine AK.val _ (Yl.idxN sl26 rfl rfl (by first | exact .arg ‹_› | ((repeat (first | exact .hd | apply RdS.tl)); done) | assumption | exact .arg (hNi _ (by omega))) (by decide) (by omega)) trivial rfl ?_ | refine AK.val _ (Yl.idx sl26 rfl rfl (by first | exact .arg ‹_› | ((repeat (first | exact .hd | apply RdS.tl)); done) | assumption | exact .arg (hNi _ (by omega))) (by decide) (by omega)) trivial rfl ?_ | refine AK.val _ (Yl.idxK sl26 rfl rfl (by first | exact .arg ‹_› | ((repeat (first | exact .hd | apply RdS.tl)); done) | assumption | exact .arg (hNi _ (by omega))) (by decide) (by omega)) trivial rfl ?_
              refine AK.val _ (Yl.loadI on3 rfl (by first | exact .arg ‹_› | ((repeat (first | exact .hd | apply RdS.tl)); done) | assumption | exact .arg (hNi _ (by omega))) (by omega)) trivial rfl ?_
              refine AK.val _ (Yl.assign rfl) trivial rfl ?_
              refine AK.nil ?_
              refine AK.then_ (hK25 _ ?_)
              refine AK.seq (fun _ hK26 => ?_)
              refine AK.region ?_
              refine AK.val _ (Yl.assign rfl) trivial rfl ?_
              refine AK.nil ?_
              refine AK.then_ (hK26 _ ?_)
              refine AK.seq (fun _ hK27 => ?_)
              refine AK.seq (fun _ hK28 => ?_)
              refine AK.region ?_
              refine AK.val _ (Yl.fieldAddr fd25_3 rfl) trivial rfl ?_
              refine AK.val _ (Yl.loadBox on23 rfl (by first | ((repeat (first | exact .hd | apply BoxS.tl | apply MapS.tl)); done) | assumption | exact BoxS.arg (by assumption)) rfl) trivial rfl ?_
              refine AK.val _ (Yl.move rfl) trivial rfl ?_
              first | refine AK.val _ (Yl.idxN sl23 rfl rfl (by first | exact .arg ‹_› | ((repeat (first | exact .hd | apply RdS.tl)); done) | assumption | exact .arg (hNi _ (by omega))) (by decide) (by omega)) trivial rfl ?_ | refine AK.val _ (Yl.idx sl23 rfl rfl (by first | exact .arg ‹_› | ((repeat (first | exact .hd | apply RdS.tl)); done) | assumption | exact .arg (hNi _ (by omega))) (by decide) (by omega)) trivial rfl ?_ | refine AK.val _ (Yl.idxK sl23 rfl rfl (by first | exact .arg ‹_› | ((repeat (first | exact .hd | apply RdS.tl)); done) | assumption | exact .arg (hNi _ (by omega))) (by decide) (by omega)) trivial rfl ?_
              refine AK.val _ (Yl.loadV on26 rfl (by first | exact .arg ‹_› | ((repeat (first | exact .hd | apply RdS.tl)); done) | assumption | exact .arg (hNi _ (by omega))) (by omega)) trivial rfl ?_
              refine AK.val _ (Yl.lenR sl26 rfl (by first | exact .arg ‹_› | ((repeat (first | exact .hd | apply RdS.tl)); done) | assumption | exact .arg (hNi _ (by omega)))) trivial rfl ?_
              refine AK.val _ (Yl.move rfl) trivial rfl ?_
              refine AK.nil ?_
              refine AK.then_ (hK28 _ ?_)
              refine AK.block ?_
              refine AK.loopS (X := Nat × Value) [1, 2, 6, 10, 12, 49, 50, 51, 59, 60] (fun y => [(13, y.2), (61, .int .i64 (y.1 : Int))]) (fun y => [box bx1 25 4 [.int .i64 d.L, .int .i64 d.s, vF, vN], box bx2 25 4 [.int .i64 0, .int .i64 0, .slice none 0 0, .slice none 0 0], row vs 3 1 (TSt d).length ((TSt d).map (Value.int .i64)), row vw 9 1 (TWo d).length ((TWo d).map sv), row mv 3 1 d.fin.length ((numT d).map (Value.int .i64)), box bx10 25 4 [.int .i64 d.L, .int .i64 0, x.2.1, x.2.2.1], row x.2.1 4 1 x.1 ((((TSt d).take x.1).map (finQ d)).map Value.bool), row x.2.2.1 26 1 x.1 x.2.2.2, bigA (matG (Value.int .i64) 3 x.2.2.2 (((TSt d).take x.1).map fun (q : Int) => (d.nx.getD q.toNat []).map fun (s : Int) => (numT d).getD s.toNat 0)), row y.2 3 1 y.1 ((((d.nx.getD ((TSt d).getD x.1 0).toNat []).take y.1).map fun (s : Int) => (numT d).getD s.toNat 0).map (Value.int .i64))]) (fun y => y.1 ≤ (d.nx.getD ((TSt d).getD x.1 0).toNat []).length ∧ IsSl y.2) (fun y => (d.nx.getD ((TSt d).getD x.1 0).toNat []).length - y.1) ((0, .slice none 0 0)) ?_ ?_ ?_ ?_
              · exact ⟨Nat.zero_le _, nilSl⟩
              · exact .cons (rfl) (.cons (rfl) (.nil))
              · exact fun w hw => by exact (hw.ghost 3 1)
              · intro y hg3 _ hK29
                refine AK.seq (fun _ hK30 => ?_)
                refine AK.region ?_
                refine AK.val _ (Yl.lss rfl rfl) trivial rfl ?_
                refine AK.nil ?_
                refine AK.then_ (hK30 _ ?_)
                refine AK.seq (fun _ hK31 => ?_)
                refine AK.condD rfl (fun hc3 => ?_) (fun hc3 => ?_)
                · have hto1 := hto y.1 (by omega)
                  refine AK.skip ?_
                  refine AK.then_ (hK31 _ ?_)
                  refine AK.seq (fun _ hK32 => ?_)
                  refine AK.block ?_
                  refine AK.seq (fun _ hK33 => ?_)
                  refine AK.region ?_
                  first | refine AK.val _ (Yl.idxN sl26 rfl rfl (by first | exact .arg ‹_› | ((repeat (first | exact .hd | apply RdS.tl)); done) | assumption | exact .arg (hNi _ (by omega))) (by decide) (by omega)) trivial rfl ?_ | refine AK.val _ (Yl.idx sl26 rfl rfl (by first | exact .arg ‹_› | ((repeat (first | exact .hd | apply RdS.tl)); done) | assumption | exact .arg (hNi _ (by omega))) (by decide) (by omega)) trivial rfl ?_ | refine AK.val _ (Yl.idxK sl26 rfl rfl (by first | exact .arg ‹_› | ((repeat (first | exact .hd | apply RdS.tl)); done) | assumption | exact .arg (hNi _ (by omega))) (by decide) (by omega)) trivial rfl ?_
                  refine AK.val _ (Yl.loadI on3 rfl (by first | exact .arg ‹_› | ((repeat (first | exact .hd | apply RdS.tl)); done) | assumption | exact .arg (hNi _ (by omega))) (by omega)) trivial rfl ?_
                  refine AK.val _ (Yl.assign rfl) trivial rfl ?_
                  refine AK.nil ?_
                  refine AK.then_ (hK33 _ ?_)
                  refine AK.region ?_
                  refine AK.val _ (Yl.move rfl) trivial rfl ?_
                  refine AK.val _ (Yl.move rfl) trivial rfl ?_
                  refine AK.val _ (Yl.move rfl) trivial rfl ?_
                  first | refine AK.val _ (Yl.idxN sl26 rfl rfl (by first | exact .arg ‹_› | ((repeat (first | exact .hd | apply RdS.tl)); done) | assumption | exact .arg (hNi _ (by omega))) (by decide) (by omega)) trivial rfl ?_ | refine AK.val _ (Yl.idx sl26 rfl rfl (by first | exact .arg ‹_› | ((repeat (first | exact .hd | apply RdS.tl)); done) | assumption | exact .arg (hNi _ (by omega))) (by decide) (by omega)) trivial rfl ?_ | refine AK.val _ (Yl.idxK sl26 rfl rfl (by first | exact .arg ‹_› | ((repeat (first | exact .hd | apply RdS.tl)); done) | assumption | exact .arg (hNi _ (by omega))) (by decide) (by omega)) trivial rfl ?_
                  refine AK.val _ (Yl.loadI on3 rfl (by first | exact .arg ‹_› | ((repeat (first | exact .hd | apply RdS.tl)); done) | assumption | exact .arg (hNi _ (by omega))) (by omega)) trivial rfl ?_
                  refine AK.append1 9 rfl sl26 el3 rfl (by decide) rfl (by intro k hk; cases hk; rfl) rfl (by intro u hu; simp [Value.cells] at hu; subst hu; rfl) (by omega) (by omega) (by decide) rfl rfl (fun va _ ha => ?_)
                  refine AK.val _ (Yl.assign rfl) trivial rfl ?_
                  refine AK.nil ?_
                  refine AK.block_normal ?_
                  refine AK.then_ (hK32 _ ?_)
                  refine AK.region ?_
                  refine AK.val _ (Yl.add rfl rfl (by omega)) trivial rfl ?_
                  refine AK.val _ (Yl.move rfl) trivial rfl ?_
                  refine AK.nil ?_
                  refine AK.then_ (hK29 _ _ ((y.1 + 1, va)) ⟨by dsimp only; omega, ha⟩ (by dsimp only; omega) (.cons (rfl) (.cons (rfl) (.cons rfl (.cons rfl (.cons rfl (.cons rfl (.cons rfl (.cons rfl (.cons rfl (.cons rfl (.cons rfl (.cons rfl (.nil))))))))))))) (fun w hw => by dsimp only; rw [take_snocD 0 _ _ (by omega), List.map_append, List.map_append]; exact hw))
                · refine AK.exit ?_
                  refine AK.then_exit ?_
                  refine AK.then_exit ?_
                  refine AK.block_exit ?_
                  refine AK.then_ (hK27 _ ?_)
                  refine AK.joinR (X := Value × Value) [1, 2, 6, 10, 49, 50, 51] (fun z => []) (fun z => [box bx1 25 4 [.int .i64 d.L, .int .i64 d.s, vF, vN], box bx2 25 4 [.int .i64 0, .int .i64 0, .slice none 0 0, .slice none 0 0], row vs 3 1 (TSt d).length ((TSt d).map (Value.int .i64)), row vw 9 1 (TWo d).length ((TWo d).map sv), row mv 3 1 d.fin.length ((numT d).map (Value.int .i64)), box bx10 25 4 [.int .i64 d.L, .int .i64 0, z.1, z.2], row z.1 4 1 (x.1 + 1) ((((TSt d).take x.1).map (finQ d)).map Value.bool ++ [Value.bool (finQ d ((TSt d).getD x.1 0))].flatMap (·.cells.toList)), row z.2 26 1 (x.1 + 1) (x.2.2.2 ++ [y.2].flatMap (·.cells.toList)), bigA (matG (Value.int .i64) 3 x.2.2.2 (((TSt d).take x.1).map fun (q : Int) => (d.nx.getD q.toNat []).map fun (s : Int) => (numT d).getD s.toNat 0)), row y.2 3 1 y.1 ((((d.nx.getD ((TSt d).getD x.1 0).toNat []).take y.1).map fun (s : Int) => (numT d).getD s.toNat 0).map (Value.int .i64))]) (fun z => IsSl z.1 ∧ IsSl z.2) (fun _ hJ => ?_) (fun z hg => ?_)
                  · try (conv => enter [2, 2]; dsimp only [List.set_cons_zero, List.set_cons_succ, List.cons_append, List.nil_append])
                    refine AK.held 15 mixed ?_
                    refine HeldK.first 0 (fuel := 17) (listed' := #[true, false, false, false, false, false, false, false, false, false, false, false, false, false, false, false, false, false]) _ rfl (by kernel_rfl) rfl rfl (Yl.fieldAddr fd25_3 rfl) trivial rfl ?_
                    refine HeldK.first 1 (fuel := 16) (listed' := #[true, true, false, false, false, false, false, false, false, false, false, false, false, false, false, false, false, false]) _ rfl (by kernel_rfl) rfl rfl (Yl.loadBox on23 rfl (by first | ((repeat (first | exact .hd | apply BoxS.tl | apply MapS.tl)); done) | assumption | exact BoxS.arg (by assumption)) rfl) trivial rfl ?_
                    refine HeldK.first 2 (fuel := 15) (listed' := #[true, true, true, false, false, false, false, false, false, false, false, false, false, false, false, false, false, false]) _ rfl (by kernel_rfl) rfl rfl (Yl.move rfl) trivial rfl ?_
                    refine HeldK.first 5 (fuel := 14) (listed' := #[true, true, true, false, false, true, false, false, false, false, false, false, false, false, false, false, false, false]) _ rfl (by kernel_rfl) rfl rfl (Yl.fieldAddr fd25_2 rfl) trivial rfl ?_
                    refine HeldK.first 6 (fuel := 13) (listed' := #[true, true, true, false, false, true, true, false, false, false, false, false, false, false, false, false, false, false]) _ rfl (by kernel_rfl) rfl rfl (Yl.loadBox on22 rfl (by first | ((repeat (first | exact .hd | apply BoxS.tl | apply MapS.tl)); done) | assumption | exact BoxS.arg (by assumption)) rfl) trivial rfl ?_
                    refine HeldK.first 7 (fuel := 12) (listed' := #[true, true, true, false, false, true, true, true, false, false, false, false, false, false, false, false, false, false]) _ rfl (by kernel_rfl) rfl rfl (Yl.fieldAddr fd25_2 rfl) trivial rfl ?_
                    refine HeldK.first 8 (fuel := 11) (listed' := #[true, true, true, false, false, true, true, true, true, false, false, false, false, false, false, false, false, false]) _ rfl (by kernel_rfl) rfl rfl (Yl.loadBox on22 rfl (by first | ((repeat (first | exact .hd | apply BoxS.tl | apply MapS.tl)); done) | assumption | exact BoxS.arg (by assumption)) rfl) trivial rfl ?_
                    refine HeldK.first 9 (fuel := 10) (listed' := #[true, true, true, false, false, true, true, true, true, true, false, false, false, false, false, false, false, false]) _ rfl (by kernel_rfl) rfl rfl (Yl.move rfl) trivial rfl ?_
                    first | refine HeldK.first 10 (fuel := 9) (listed' := #[true, true, true, false, false, true, true, true, true, true, true, false, false, false, false, false, false, false]) _ rfl (by kernel_rfl) rfl rfl (Yl.idxN sl22 rfl rfl (by first | exact .arg ‹_› | ((repeat (first | exact .hd | apply RdS.tl)); done) | assumption | exact .arg (hNi _ (by omega))) (by decide) (by omega)) trivial rfl ?_ | refine HeldK.first 10 (fuel := 9) (listed' := #[true, true, true, false, false, true, true, true, true, true, true, false, false, false, false, false, false, false]) _ rfl (by kernel_rfl) rfl rfl (Yl.idx sl22 rfl rfl (by first | exact .arg ‹_› | ((repeat (first | exact .hd | apply RdS.tl)); done) | assumption | exact .arg (hNi _ (by omega))) (by decide) (by omega)) trivial rfl ?_ | refine HeldK.first 10 (fuel := 9) (listed' := #[true, true, true, false, false, true, true, true, true, true, true, false, false, false, false, false, false, false]) _ rfl (by kernel_rfl) rfl rfl (Yl.idxK sl22 rfl rfl (by first | exact .arg ‹_› | ((repeat (first | exact .hd | apply RdS.tl)); done) | assumption | exact .arg (hNi _ (by omega))) (by decide) (by omega)) trivial rfl ?_
                    refine HeldK.first 11 (fuel := 8) (listed' := #[true, true, true, false, false, true, true, true, true, true, true, true, false, false, false, false, false, false]) _ rfl (by kernel_rfl) rfl rfl (Yl.loadB on4 rfl (by first | exact .arg ‹_› | ((repeat (first | exact .hd | apply RdS.tl)); done) | assumption | exact .arg (hNi _ (by omega))) (by omega)) trivial rfl ?_
                    refine HeldK.two 3 12 (fuel := 7) (listed1 := #[true, true, true, true, false, true, true, true, true, true, true, true, false, false, false, false, false, false]) (listed2 := #[true, true, true, false, false, true, true, true, true, true, true, true, true, false, false, false, false, false]) (by kernel_rfl) rfl rfl rfl rfl ?_ ?_
                    · refine AK.lit (xs := [.tmp 75]) sl23 el26 rfl rfl rfl (by intro a ha; simp at ha; subst ha; rw [hg3.2.cells]; rfl) (by decide) (by decide) trivial rfl (fun t1 => ?_)
                      refine AK.nil ?_
                      try (conv => enter [2, 2]; dsimp only [List.set_cons_zero, List.set_cons_succ, List.cons_append, List.nil_append])
                      refine HeldK.back (by repeat (first | exact HWle.nil | refine HWle.cons Ale.rfl ?_ | refine HWle.cons Ale.fst ?_)) ?_
                      refine HeldK.two 4 12 (fuel := 6) (listed1 := #[true, true, true, true, true, true, true, true, true, true, true, true, false, false, false, false, false, false]) (listed2 := #[true, true, true, true, false, true, true, true, true, true, true, true, true, false, false, false, false, false]) (by kernel_rfl) rfl rfl rfl rfl ?_ ?_
                      · refine AK.appendH 7 rfl sl23 el26 rfl (by decide) rfl rfl rfl (by first | exact .arg ‹_› | ((repeat (first | exact .hd | apply RdS.tl)); done) | assumption | exact .arg (hNi _ (by omega))) (by rw [show [y.2].flatMap (·.cells.toList) = [y.2] by simp [hg3.2.cells]]; exact one'_cons hg3.2.one one'_nil) (by omega) (by omega) trivial rfl (fun vn2 hn2 => ?_)
                        refine AK.nil ?_
                        try (conv => enter [2, 2]; dsimp only [List.set_cons_zero, List.set_cons_succ, List.cons_append, List.nil_append])
                        refine HeldK.back (by repeat (first | exact HWle.nil | refine HWle.cons Ale.rfl ?_ | refine HWle.cons Ale.fst ?_)) ?_
                        refine HeldK.first 14 (fuel := 5) (listed' := #[true, true, true, true, true, true, true, true, true, true, true, true, false, false, true, false, false, false]) _ rfl (by kernel_rfl) rfl rfl (Yl.fieldAddr fd25_3 rfl) trivial rfl ?_
                        refine HeldK.one 12 (fuel := 4) (listed' := #[true, true, true, true, true, true, true, true, true, true, true, true, true, false, true, false, false, false]) (by kernel_rfl) rfl rfl ?_
                        refine AK.lit (xs := [.tmp 84]) sl22 el4 rfl rfl rfl (by intro a ha; simp at ha; subst ha; rfl) (by decide) (by decide) trivial rfl (fun t2 => ?_)
                        refine AK.nil ?_
                        try (conv => enter [2, 2]; dsimp only [List.set_cons_zero, List.set_cons_succ, List.cons_append, List.nil_append])
                        refine HeldK.back (by repeat (first | exact HWle.nil | refine HWle.cons Ale.rfl ?_ | refine HWle.cons Ale.fst ?_)) ?_
                        refine HeldK.one 13 (fuel := 3) (listed' := #[true, true, true, true, true, true, true, true, true, true, true, true, true, true, true, false, false, false]) (by kernel_rfl) rfl rfl ?_
                        refine AK.appendH 6 rfl sl22 el4 rfl (by decide) rfl rfl rfl (by first | exact .arg ‹_› | ((repeat (first | exact .hd | apply RdS.tl)); done) | assumption | exact .arg (hNi _ (by omega))) (by repeat (first | exact one'_nil | refine one'_cons (by first | rfl | exact IsSl.one (by assumption) | exact IsSl.one nilSl) ?_)) (by omega) (by omega) trivial rfl (fun vf2 hf2 => ?_)
                        refine AK.nil ?_
                        try (conv => enter [2, 2]; dsimp only [List.set_cons_zero, List.set_cons_succ, List.cons_append, List.nil_append])
                        refine HeldK.back (by repeat (first | exact HWle.nil | refine HWle.cons Ale.rfl ?_ | refine HWle.cons Ale.fst ?_)) ?_
                        refine HeldK.one 15 (fuel := 2) (listed' := #[true, true, true, true, true, true, true, true, true, true, true, true, true, true, true, true, false, false]) (by kernel_rfl) rfl rfl ?_
                        refine AK.storeBox 5 (us := [vn2]) (cs' := [.int .i64 d.L, .int .i64 0, x.2.1, vn2]) rfl sz23 rfl rfl (by rw [IsSl.cells (by assumption)]) rfl (by repeat (first | exact one'_nil | refine one'_cons (by first | rfl | exact IsSl.one (by assumption) | exact IsSl.one nilSl) ?_)) (Nat.le_of_ble_eq_true rfl) rfl trivial ?_
                        refine AK.nil ?_
                        try (conv => enter [2, 2]; dsimp only [List.set_cons_zero, List.set_cons_succ, List.cons_append, List.nil_append])
                        refine HeldK.backN 16 rfl rfl (by kernel_rfl) ?_
                        refine AK.val _ (Yl.fieldAddr fd25_2 rfl) trivial rfl ?_
                        refine AK.storeBox 5 (us := [vf2]) (cs' := [.int .i64 d.L, .int .i64 0, vf2, vn2]) rfl sz22 rfl rfl (by rw [IsSl.cells (by assumption)]) rfl (by repeat (first | exact one'_nil | refine one'_cons (by first | rfl | exact IsSl.one (by assumption) | exact IsSl.one nilSl) ?_)) (Nat.le_of_ble_eq_true rfl) rfl trivial ?_
                        refine AK.nil ?_
                        refine AK.fromQn ?_
                        exact hJ _ _ ((vf2, vn2)) ⟨hf2, hn2⟩ (.cons rfl (.cons rfl (.cons rfl (.cons rfl (.cons rfl (.cons rfl (.cons rfl (.nil)))))))) (fun w hw => by first | (refine hw.pickLe [0, 1, 2, 3, 4, 5, 6, 7, 8, 9] (by decide) ?_; (repeat (first | exact PickLe.nil | refine PickLe.cons rfl Ale.rfl ?_ | refine PickLe.cons rfl Ale.snd ?_ | refine PickLe.cons rfl Ale.fst ?_)); done))
                      · refine AK.lit (xs := [.tmp 84]) sl22 el4 rfl rfl rfl (by intro a ha; simp at ha; subst ha; rfl) (by decide) (by decide) trivial rfl (fun t2 => ?_)
                        refine AK.nil ?_
                        try (conv => enter [2, 2]; dsimp only [List.set_cons_zero, List.set_cons_succ, List.cons_append, List.nil_append])
                        refine HeldK.back (by repeat (first | exact HWle.nil | refine HWle.cons Ale.rfl ?_ | refine HWle.cons Ale.fst ?_)) ?_
                        refine HeldK.one 4 (fuel := 5) (listed' := #[true, true, true, true, true, true, true, true, true, true, true, true, true, false, false, false, false, false]) (by kernel_rfl) rfl rfl ?_
                        refine AK.appendH 7 rfl sl23 el26 rfl (by decide) rfl rfl rfl (by first | exact .arg ‹_› | ((repeat (first | exact .hd | apply RdS.tl)); done) | assumption | exact .arg (hNi _ (by omega))) (by rw [show [y.2].flatMap (·.cells.toList) = [y.2] by simp [hg3.2.cells]]; exact one'_cons hg3.2.one one'_nil) (by omega) (by omega) trivial rfl (fun vn2 hn2 => ?_)
                        refine AK.nil ?_
                        try (conv => enter [2, 2]; dsimp only [List.set_cons_zero, List.set_cons_succ, List.cons_append, List.nil_append])
                        refine HeldK.back (by repeat (first | exact HWle.nil | refine HWle.cons Ale.rfl ?_ | refine HWle.cons Ale.fst ?_)) ?_
                        refine HeldK.first 14 (fuel := 4) (listed' := #[true, true, true, true, true, true, true, true, true, true, true, true, true, false, true, false, false, false]) _ rfl (by kernel_rfl) rfl rfl (Yl.fieldAddr fd25_3 rfl) trivial rfl ?_
                        refine HeldK.one 13 (fuel := 3) (listed' := #[true, true, true, true, true, true, true, true, true, true, true, true, true, true, true, false, false, false]) (by kernel_rfl) rfl rfl ?_
                        refine AK.appendH 6 rfl sl22 el4 rfl (by decide) rfl rfl rfl (by first | exact .arg ‹_› | ((repeat (first | exact .hd | apply RdS.tl)); done) | assumption | exact .arg (hNi _ (by omega))) (by repeat (first | exact one'_nil | refine one'_cons (by first | rfl | exact IsSl.one (by assumption) | exact IsSl.one nilSl) ?_)) (by omega) (by omega) trivial rfl (fun vf2 hf2 => ?_)
                        refine AK.nil ?_
                        try (conv => enter [2, 2]; dsimp only [List.set_cons_zero, List.set_cons_succ, List.cons_append, List.nil_append])
                        refine HeldK.back (by repeat (first | exact HWle.nil | refine HWle.cons Ale.rfl ?_ | refine HWle.cons Ale.fst ?_)) ?_
                        refine HeldK.one 15 (fuel := 2) (listed' := #[true, true, true, true, true, true, true, true, true, true, true, true, true, true, true, true, false, false]) (by kernel_rfl) rfl rfl ?_
                        refine AK.storeBox 5 (us := [vn2]) (cs' := [.int .i64 d.L, .int .i64 0, x.2.1, vn2]) rfl sz23 rfl rfl (by rw [IsSl.cells (by assumption)]) rfl (by repeat (first | exact one'_nil | refine one'_cons (by first | rfl | exact IsSl.one (by assumption) | exact IsSl.one nilSl) ?_)) (Nat.le_of_ble_eq_true rfl) rfl trivial ?_
                        refine AK.nil ?_
                        try (conv => enter [2, 2]; dsimp only [List.set_cons_zero, List.set_cons_succ, List.cons_append, List.nil_append])
                        refine HeldK.backN 16 rfl rfl (by kernel_rfl) ?_
                        refine AK.val _ (Yl.fieldAddr fd25_2 rfl) trivial rfl ?_
                        refine AK.storeBox 5 (us := [vf2]) (cs' := [.int .i64 d.L, .int .i64 0, vf2, vn2]) rfl sz22 rfl rfl (by rw [IsSl.cells (by assumption)]) rfl (by repeat (first | exact one'_nil | refine one'_cons (by first | rfl | exact IsSl.one (by assumption) | exact IsSl.one nilSl) ?_)) (Nat.le_of_ble_eq_true rfl) rfl trivial ?_
                        refine AK.nil ?_
                        refine AK.fromQn ?_
                        exact hJ _ _ ((vf2, vn2)) ⟨hf2, hn2⟩ (.cons rfl (.cons rfl (.cons rfl (.cons rfl (.cons rfl (.cons rfl (.cons rfl (.nil)))))))) (fun w hw => by first | (refine hw.pickLe [0, 1, 2, 3, 4, 5, 6, 7, 8, 9] (by decide) ?_; (repeat (first | exact PickLe.nil | refine PickLe.cons rfl Ale.rfl ?_ | refine PickLe.cons rfl Ale.snd ?_ | refine PickLe.cons rfl Ale.fst ?_)); done))
                    · refine AK.lit (xs := [.tmp 84]) sl22 el4 rfl rfl rfl (by intro a ha; simp at ha; subst ha; rfl) (by decide) (by decide) trivial rfl (fun t2 => ?_)
                      refine AK.nil ?_
                      try (conv => enter [2, 2]; dsimp only [List.set_cons_zero, List.set_cons_succ, List.cons_append, List.nil_append])
                      refine HeldK.back (by repeat (first | exact HWle.nil | refine HWle.cons Ale.rfl ?_ | refine HWle.cons Ale.fst ?_)) ?_
                      refine HeldK.one 3 (fuel := 6) (listed' := #[true, true, true, true, false, true, true, true, true, true, true, true, true, false, false, false, false, false]) (by kernel_rfl) rfl rfl ?_
                      refine AK.lit (xs := [.tmp 75]) sl23 el26 rfl rfl rfl (by intro a ha; simp at ha; subst ha; rw [hg3.2.cells]; rfl) (by decide) (by decide) trivial rfl (fun t1 => ?_)
                      refine AK.nil ?_
                      try (conv => enter [2, 2]; dsimp only [List.set_cons_zero, List.set_cons_succ, List.cons_append, List.nil_append])
                      refine HeldK.back (by repeat (first | exact HWle.nil | refine HWle.cons Ale.rfl ?_ | refine HWle.cons Ale.fst ?_)) ?_
                      refine HeldK.one 4 (fuel := 5) (listed' := #[true, true, true, true, true, true, true, true, true, true, true, true, true, false, false, false, false, false]) (by kernel_rfl) rfl rfl ?_
                      refine AK.appendH 7 rfl sl23 el26 rfl (by decide) rfl rfl rfl (by first | exact .arg ‹_› | ((repeat (first | exact .hd | apply RdS.tl)); done) | assumption | exact .arg (hNi _ (by omega))) (by rw [show [y.2].flatMap (·.cells.toList) = [y.2] by simp [hg3.2.cells]]; exact one'_cons hg3.2.one one'_nil) (by omega) (by omega) trivial rfl (fun vn2 hn2 => ?_)
                      refine AK.nil ?_
                      try (conv => enter [2, 2]; dsimp only [List.set_cons_zero, List.set_cons_succ, List.cons_append, List.nil_append])
                      refine HeldK.back (by repeat (first | exact HWle.nil | refine HWle.cons Ale.rfl ?_ | refine HWle.cons Ale.fst ?_)) ?_
                      refine HeldK.first 14 (fuel := 4) (listed' := #[true, true, true, true, true, true, true, true, true, true, true, true, true, false, true, false, false, false]) _ rfl (by kernel_rfl) rfl rfl (Yl.fieldAddr fd25_3 rfl) trivial rfl ?_
                      refine HeldK.one 13 (fuel := 3) (listed' := #[true, true, true, true, true, true, true, true, true, true, true, true, true, true, true, false, false, false]) (by kernel_rfl) rfl rfl ?_
                      refine AK.appendH 6 rfl sl22 el4 rfl (by decide) rfl rfl rfl (by first | exact .arg ‹_› | ((repeat (first | exact .hd | apply RdS.tl)); done) | assumption | exact .arg (hNi _ (by omega))) (by repeat (first | exact one'_nil | refine one'_cons (by first | rfl | exact IsSl.one (by assumption) | exact IsSl.one nilSl) ?_)) (by omega) (by omega) trivial rfl (fun vf2 hf2 => ?_)
                      refine AK.nil ?_
                      try (conv => enter [2, 2]; dsimp only [List.set_cons_zero, List.set_cons_succ, List.cons_append, List.nil_append])
                      refine HeldK.back (by repeat (first | exact HWle.nil | refine HWle.cons Ale.rfl ?_ | refine HWle.cons Ale.fst ?_)) ?_
                      refine HeldK.one 15 (fuel := 2) (listed' := #[true, true, true, true, true, true, true, true, true, true, true, true, true, true, true, true, false, false]) (by kernel_rfl) rfl rfl ?_
                      refine AK.storeBox 5 (us := [vn2]) (cs' := [.int .i64 d.L, .int .i64 0, x.2.1, vn2]) rfl sz23 rfl rfl (by rw [IsSl.cells (by assumption)]) rfl (by repeat (first | exact one'_nil | refine one'_cons (by first | rfl | exact IsSl.one (by assumption) | exact IsSl.one nilSl) ?_)) (Nat.le_of_ble_eq_true rfl) rfl trivial ?_
                      refine AK.nil ?_
                      try (conv => enter [2, 2]; dsimp only [List.set_cons_zero, List.set_cons_succ, List.cons_append, List.nil_append])
                      refine HeldK.backN 16 rfl rfl (by kernel_rfl) ?_
                      refine AK.val _ (Yl.fieldAddr fd25_2 rfl) trivial rfl ?_
                      refine AK.storeBox 5 (us := [vf2]) (cs' := [.int .i64 d.L, .int .i64 0, vf2, vn2]) rfl sz22 rfl rfl (by rw [IsSl.cells (by assumption)]) rfl (by repeat (first | exact one'_nil | refine one'_cons (by first | rfl | exact IsSl.one (by assumption) | exact IsSl.one nilSl) ?_)) (Nat.le_of_ble_eq_true rfl) rfl trivial ?_
                      refine AK.nil ?_
                      refine AK.fromQn ?_
                      exact hJ _ _ ((vf2, vn2)) ⟨hf2, hn2⟩ (.cons rfl (.cons rfl (.cons rfl (.cons rfl (.cons rfl (.cons rfl (.cons rfl (.nil)))))))) (fun w hw => by first | (refine hw.pickLe [0, 1, 2, 3, 4, 5, 6, 7, 8, 9] (by decide) ?_; (repeat (first | exact PickLe.nil | refine PickLe.cons rfl Ale.rfl ?_ | refine PickLe.cons rfl Ale.snd ?_ | refine PickLe.cons rfl Ale.fst ?_)); done))
                  · skip
                    refine AK.block_normal ?_
                    refine AK.then_ (hK24 _ ?_)
                    refine AK.region ?_
                    refine AK.val _ (Yl.add rfl rfl (by omega)) trivial rfl ?_
                    refine AK.val _ (Yl.move rfl) trivial rfl ?_
                    refine AK.nil ?_
                    refine AK.then_ (hK21 _ _ ((x.1 + 1, z.1, z.2, x.2.2.2 ++ [y.2])) ⟨by dsimp only; omega, by simp [hg2.2.1], hg.1, hg.2⟩ (by dsimp only; omega) (.cons (rfl) (.cons rfl (.cons rfl (.cons rfl (.cons rfl (.cons rfl (.cons rfl (.nil)))))))) (fun w hw => by
    dsimp only
    have e1 : (((TSt d).take (x.1 + 1)).map (finQ d)).map Value.bool = (((TSt d).take x.1).map (finQ d)).map Value.bool ++ [Value.bool (finQ d ((TSt d).getD x.1 0))].flatMap (·.cells.toList) := (by rw [take_snocD 0 _ _ (by omega)]; simp [Value.cells])
    have e2 : (((TSt d).take (x.1 + 1)).map fun (q : Int) => (d.nx.getD q.toNat []).map fun (s : Int) => (numT d).getD s.toNat 0) = (((TSt d).take x.1).map fun (q : Int) => (d.nx.getD q.toNat []).map fun (s : Int) => (numT d).getD s.toNat 0) ++ [((d.nx.getD ((TSt d).getD x.1 0).toNat []).map fun (s : Int) => (numT d).getD s.toNat 0)] := (by rw [take_snocD 0 (TSt d) x.1 (by omega), List.map_append]; rfl)
    have e3 : [y.2].flatMap (·.cells.toList) = [y.2] := (by simp [hg3.2.cells])
    have e4 : y.1 = (d.nx.getD ((TSt d).getD x.1 0).toNat []).length := (by omega)
    rw [e3, e4, List.take_length] at hw
    rw [e1, e2, matG_snoc (by rw [List.length_map, List.length_take, hg2.2.1]; omega), List.length_map]
    exact HW.absorb (own := [_, _, _, _, _, _, _, _, _]) 8 rfl hw))
            · refine AK.exit ?_
              refine AK.then_exit ?_
              refine AK.then_exit ?_
              refine AK.block_exit ?_
              refine AK.then_ (hK19 _ ?_)
              refine AK.seq (fun _ hK34 => ?_)
              refine AK.region ?_
              refine AK.val _ (Yl.loadBoxG ag25 rfl (by first | ((repeat (first | exact .hd | apply BoxS.tl | apply MapS.tl)); done) | assumption | exact BoxS.arg (by assumption)) rfl rfl) trivial rfl ?_
              refine AK.val _ (Yl.move rfl) trivial rfl ?_
              refine AK.storeBox 1 (us := [.int .i64 d.L, .int .i64 0, x.2.1, x.2.2.1]) (cs' := [.int .i64 d.L, .int .i64 0, x.2.1, x.2.2.1]) rfl sz25 rfl rfl rfl rfl (by repeat (first | exact one'_nil | refine one'_cons (by first | rfl | exact IsSl.one (by assumption) | exact IsSl.one nilSl) ?_)) (Nat.le_of_ble_eq_true rfl) rfl trivial ?_
              refine AK.val _ (Yl.assign rfl) trivial rfl ?_
              refine AK.nil ?_
              refine AK.then_ (hK34 _ ?_)
              refine AK.ret ?_
              refine AK.own' ([box bx1 25 4 [.int .i64 d.L, .int .i64 d.s, vF, vN], box bx2 25 4 [.int .i64 d.L, .int .i64 0, x.2.1, x.2.2.1], row vs 3 1 (TSt d).length ((TSt d).map (Value.int .i64)), row vw 9 1 (TWo d).length ((TWo d).map sv), row mv 3 1 d.fin.length ((numT d).map (Value.int .i64)), box bx10 25 4 [.int .i64 d.L, .int .i64 0, x.2.1, x.2.2.1], row x.2.1 4 1 x.1 ((((TSt d).take x.1).map (finQ d)).map Value.bool), row x.2.2.1 26 1 x.1 x.2.2.2, bigA (matG (Value.int .i64) 3 x.2.2.2 (((TSt d).take x.1).map fun (q : Int) => (d.nx.getD q.toNat []).map fun (s : Int) => (numT d).getD s.toNat 0))]) (fun w hw => hw) ?_
              refine AK.retG [.cell 2 25, .tmp 3] rfl (.cons (.cell ag25 rfl (by first | ((repeat (first | exact .hd | apply BoxS.tl | apply MapS.tl)); done) | assumption | exact BoxS.arg (by assumption)) rfl rfl) (.cons (.tmp rfl) (.nil))) (fun w hw => ⟨_, _, ?_, rfl, Ret.of (hw.pick [6, 7, 8, 4] (by decide) rfl rfl)⟩)
              rw [← trimR_eq hv]
              have e : x.1 = (TSt d).length := (by omega)
              refine ⟨x.2.1, x.2.2.1, mv, x.2.2.2, rfl, ?_, hg2.2.2.1, hg2.2.2.2, smv, ?_⟩
              · rw [hg2.2.1, e]; simp [trimR]
              · unfold dfaO trimR; rw [e, List.take_length, List.length_map, List.length_map, hnl]; rfl

theorem rd_nilD {w : World} : RdD (fun _ => False) w (.agg #[.int .i64 0, .int .i64 0, .slice none 0 0, .slice none 0 0]) nilD :=
  ⟨_, _, rfl, ⟨none, 0, rfl, by simp [nilD, maxLen], rfl, fun h => by simp [nilD] at h, fun a j u ha => by cases ha⟩, ⟨[], rfl, ⟨none, 0, rfl, by simp [nilD, maxLen], rfl, fun h => by simp [nilD] at h, fun a j u ha => by cases ha⟩, fun i hi => by simp [nilD] at hi⟩⟩
end Go.Proofs.Ytoikhoniogicdaa
