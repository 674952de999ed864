import Derived.Test.YtoikhoniogicdaaTy
import Derived.Test.YtoikhoniogicdaaDa
set_option linter.unusedVariables false
set_option linter.unusedSimpArgs false
namespace Go.Proofs.Ytoikhoniogicdaa
open Go.Sx Go.RowKit
set_option maxRecDepth 100000 in
theorem s_may (w : World) (n : Int) : CallS Try.prog 35 [.int .i64 n] w (fun r o => r = .bool (decide (1 ≤ n ∧ n ≤ 6)) ∧ o = []) := by
  refine spec_of Try.func35 rfl (Nat.le_of_ble_eq_true rfl) ?_
  refine AK.seq (fun _ hK1 => ?_)
  refine AK.region ?_
  refine AK.val _ (Yl.assign rfl) trivial rfl ?_
  refine AK.nil ?_
  refine AK.then_ (hK1 _ ?_)
  refine AK.seq (fun _ hK2 => ?_)
  refine AK.region ?_
  refine AK.val _ (Yl.move rfl) trivial rfl ?_
  refine AK.val _ (Yl.geq rfl rfl) trivial rfl ?_
  refine AK.val _ (Yl.move rfl) trivial rfl ?_
  refine AK.splitB (g := 5) rfl (fun hg_1_2 => ?_) (fun hg_1_2 => ?_)
  · have hg_1_2' := hg_1_2
    try simp only [decide_eq_true_eq, decide_eq_false_iff_not, Bool.not_eq_true', Bool.not_eq_false', Bool.not_not, ne_eq, Decidable.not_not, Int.not_lt, Int.not_le, beq_iff_eq, bne_iff_ne, Bool.and_eq_true, Bool.or_eq_true, Bool.or_eq_false_iff, Bool.not_false, Bool.not_true, reduceCtorEq, not_true_eq_false, not_false_eq_true] at hg_1_2'
    refine AK.val _ (Yl.move rfl) ⟨_, rfl, congrArg (fun b => some (Value.bool b)) hg_1_2⟩ rfl ?_
    refine AK.val _ (Yl.leq rfl rfl) ⟨_, rfl, congrArg (fun b => some (Value.bool b)) hg_1_2⟩ rfl ?_
    refine AK.val _ (Yl.pickT rfl (hg_1_2) rfl) trivial rfl ?_
    refine AK.val _ (Yl.assign rfl) trivial rfl ?_
    refine AK.nil ?_
    refine AK.then_ (hK2 _ ?_)
    refine AK.ret ?_
    refine AK.ret1 rfl rfl (fun w hw => ⟨_, _, ?_, rfl, Ret.of (hw.pick [] (by decide) rfl rfl)⟩)
    refine ⟨congrArg Value.bool ?_, rfl⟩
    first | (symm; rw [decide_eq_false_iff_not]; omega) | (apply decide_eq_decide.2; omega)
  · have hg_1_2' := hg_1_2
    try simp only [decide_eq_true_eq, decide_eq_false_iff_not, Bool.not_eq_true', Bool.not_eq_false', Bool.not_not, ne_eq, Decidable.not_not, Int.not_lt, Int.not_le, beq_iff_eq, bne_iff_ne, Bool.and_eq_true, Bool.or_eq_true, Bool.or_eq_false_iff, Bool.not_false, Bool.not_true, reduceCtorEq, not_true_eq_false, not_false_eq_true] at hg_1_2'
    refine AK.pass rfl rfl (hg_1_2) rfl ?_
    refine AK.pass rfl rfl (hg_1_2) rfl ?_
    refine AK.val _ (Yl.pickF rfl (hg_1_2) rfl) trivial rfl ?_
    refine AK.val _ (Yl.assign rfl) trivial rfl ?_
    refine AK.nil ?_
    refine AK.then_ (hK2 _ ?_)
    refine AK.ret ?_
    refine AK.ret1 rfl rfl (fun w hw => ⟨_, _, ?_, rfl, Ret.of (hw.pick [] (by decide) rfl rfl)⟩)
    refine ⟨congrArg Value.bool ?_, rfl⟩
    first | (symm; rw [decide_eq_false_iff_not]; omega) | (apply decide_eq_decide.2; omega)

set_option maxRecDepth 100000 in
theorem s_validate (w : World) (v : Value) (d : Dfa) (h : RdD (fun _ => False) w v d) : CallS Try.prog 23 [v] w (fun r o => r = .int .i64 (errV d) ∧ o = []) := by
  have h0 := h
  obtain ⟨vF, vN, rfl, hF, hN⟩ := h
  obtain ⟨rs, hrl, hNr, hNi⟩ := hN
  have sF := hF.sl
  have sN := hNr.sl
  have hmf := hF.le
  have hmn := hNr.le
  unfold RdL at hF
  refine spec_of Try.func23 rfl (Nat.le_of_ble_eq_true rfl) ?_
  refine AK.seq (fun _ hK1 => ?_)
  refine AK.region ?_
  refine AK.box_ (E := 25) (cs := [.int .i64 d.L, .int .i64 d.s, vF, vN]) rfl rfl rfl trivial rfl (fun bx1 => ?_)
  refine AK.val _ (Yl.assign rfl) trivial rfl ?_
  refine AK.nil ?_
  refine AK.then_ (hK1 _ ?_)
  refine AK.seq (fun _ hK2 => ?_)
  refine AK.seq (fun _ hK3 => ?_)
  refine AK.region ?_
  refine AK.val _ (Yl.fieldAddr fd25_0 rfl) trivial rfl ?_
  refine AK.val _ (Yl.loadBox on3 rfl (by first | ((repeat (first | exact .hd | apply BoxS.tl | apply MapS.tl)); done) | assumption | exact BoxS.arg (by assumption)) rfl) trivial rfl ?_
  refine AK.val _ (Yl.lss rfl rfl) trivial rfl ?_
  refine AK.val _ (Yl.move rfl) trivial rfl ?_
  refine AK.splitB (g := 11) rfl (fun hg_1_3 => ?_) (fun hg_1_3 => ?_)
  · have hg_1_3' := hg_1_3
    try simp only [decide_eq_true_eq, decide_eq_false_iff_not, Bool.not_eq_true', Bool.not_eq_false', Bool.not_not, ne_eq, Decidable.not_not, Int.not_lt, Int.not_le, beq_iff_eq, bne_iff_ne, Bool.and_eq_true, Bool.or_eq_true, Bool.or_eq_false_iff, Bool.not_false, Bool.not_true, reduceCtorEq, not_true_eq_false, not_false_eq_true] at hg_1_3'
    refine AK.pass rfl rfl (hg_1_3) rfl ?_
    refine AK.pass rfl rfl (hg_1_3) rfl ?_
    refine AK.pass rfl rfl (hg_1_3) rfl ?_
    refine AK.val _ (Yl.pickT rfl (hg_1_3) rfl) trivial rfl ?_
    refine AK.nil ?_
    refine AK.then_ (hK3 _ ?_)
    refine AK.cond_t rfl (rfl) ?_
    refine AK.seq (fun _ hK4 => ?_)
    refine AK.region ?_
    refine AK.val _ (Yl.assign rfl) trivial rfl ?_
    refine AK.nil ?_
    refine AK.then_ (hK4 _ ?_)
    refine AK.ret ?_
    refine AK.then_ret ?_
    refine AK.ret1 rfl rfl (fun w hw => ⟨_, _, ?_, rfl, Ret.of (hw.pick [] (by decide) rfl rfl)⟩)
    refine ⟨congrArg (Value.int .i64) ?_, rfl⟩; unfold errV; rw [if_pos (by omega)]
  · have hg_1_3' := hg_1_3
    try simp only [decide_eq_true_eq, decide_eq_false_iff_not, Bool.not_eq_true', Bool.not_eq_false', Bool.not_not, ne_eq, Decidable.not_not, Int.not_lt, Int.not_le, beq_iff_eq, bne_iff_ne, Bool.and_eq_true, Bool.or_eq_true, Bool.or_eq_false_iff, Bool.not_false, Bool.not_true, reduceCtorEq, not_true_eq_false, not_false_eq_true] at hg_1_3'
    refine AK.val _ (Yl.fieldAddr fd25_0 rfl) ⟨_, rfl, congrArg (fun b => some (Value.bool b)) hg_1_3⟩ rfl ?_
    refine AK.val _ (Yl.loadBox on3 rfl (by first | ((repeat (first | exact .hd | apply BoxS.tl | apply MapS.tl)); done) | assumption | exact BoxS.arg (by assumption)) rfl) ⟨_, rfl, congrArg (fun b => some (Value.bool b)) hg_1_3⟩ rfl ?_
    refine AK.val _ (Yl.gtr rfl rfl) ⟨_, rfl, congrArg (fun b => some (Value.bool b)) hg_1_3⟩ rfl ?_
    refine AK.val _ (Yl.pickF rfl (hg_1_3) rfl) trivial rfl ?_
    refine AK.nil ?_
    refine AK.then_ (hK3 _ ?_)
    refine AK.condD rfl (fun hc0 => ?_) (fun hc0 => ?_)
    · refine AK.seq (fun _ hK5 => ?_)
      refine AK.region ?_
      refine AK.val _ (Yl.assign rfl) trivial rfl ?_
      refine AK.nil ?_
      refine AK.then_ (hK5 _ ?_)
      refine AK.ret ?_
      refine AK.then_ret ?_
      refine AK.ret1 rfl rfl (fun w hw => ⟨_, _, ?_, rfl, Ret.of (hw.pick [] (by decide) rfl rfl)⟩)
      refine ⟨congrArg (Value.int .i64) ?_, rfl⟩; unfold errV; rw [if_pos (by omega)]
    · refine AK.skip ?_
      refine AK.then_ (hK2 _ ?_)
      refine AK.seq (fun _ hK6 => ?_)
      refine AK.region ?_
      refine AK.val _ (Yl.fieldAddr fd25_2 rfl) trivial rfl ?_
      refine AK.val _ (Yl.loadBox on22 rfl (by first | ((repeat (first | exact .hd | apply BoxS.tl | apply MapS.tl)); done) | assumption | exact BoxS.arg (by assumption)) rfl) trivial rfl ?_
      refine AK.val _ (Yl.lenR sl22 rfl (by first | exact .arg ‹_› | ((repeat (first | exact .hd | apply RdS.tl)); done) | assumption | exact .arg (hNi k (by omega)))) trivial rfl ?_
      refine AK.val _ (Yl.assign rfl) trivial rfl ?_
      refine AK.nil ?_
      refine AK.then_ (hK6 _ ?_)
      refine AK.seq (fun _ hK7 => ?_)
      refine AK.seq (fun _ hK8 => ?_)
      refine AK.region ?_
      refine AK.val _ (Yl.move rfl) trivial rfl ?_
      refine AK.val _ (Yl.gtr rfl rfl) trivial rfl ?_
      refine AK.nil ?_
      refine AK.then_ (hK8 _ ?_)
      refine AK.condD rfl (fun hc1 => ?_) (fun hc1 => ?_)
      · refine AK.seq (fun _ hK9 => ?_)
        refine AK.region ?_
        refine AK.val _ (Yl.assign rfl) trivial rfl ?_
        refine AK.nil ?_
        refine AK.then_ (hK9 _ ?_)
        refine AK.ret ?_
        refine AK.then_ret ?_
        refine AK.ret1 rfl rfl (fun w hw => ⟨_, _, ?_, rfl, Ret.of (hw.pick [] (by decide) rfl rfl)⟩)
        refine ⟨congrArg (Value.int .i64) ?_, rfl⟩; unfold errV; rw [if_neg (by omega), if_pos (by omega)]
      · refine AK.skip ?_
        refine AK.then_ (hK7 _ ?_)
        refine AK.seq (fun _ hK10 => ?_)
        refine AK.seq (fun _ hK11 => ?_)
        refine AK.region ?_
        refine AK.val _ (Yl.fieldAddr fd25_3 rfl) trivial rfl ?_
        refine AK.val _ (Yl.loadBox on23 rfl (by first | ((repeat (first | exact .hd | apply BoxS.tl | apply MapS.tl)); done) | assumption | exact BoxS.arg (by assumption)) rfl) trivial rfl ?_
        refine AK.val _ (Yl.lenR sl23 rfl (by first | exact .arg ‹_› | ((repeat (first | exact .hd | apply RdS.tl)); done) | assumption | exact .arg (hNi k (by omega)))) trivial rfl ?_
        refine AK.val _ (Yl.move rfl) trivial rfl ?_
        refine AK.val _ (Yl.neq rfl rfl) trivial rfl ?_
        refine AK.val _ (Yl.move rfl) trivial rfl ?_
        refine AK.splitB (g := 26) rfl (fun hg_6_5 => ?_) (fun hg_6_5 => ?_)
        · have hg_6_5' := hg_6_5
          try simp only [decide_eq_true_eq, decide_eq_false_iff_not, Bool.not_eq_true', Bool.not_eq_false', Bool.not_not, ne_eq, Decidable.not_not, Int.not_lt, Int.not_le, beq_iff_eq, bne_iff_ne, Bool.and_eq_true, Bool.or_eq_true, Bool.or_eq_false_iff, Bool.not_false, Bool.not_true, reduceCtorEq, not_true_eq_false, not_false_eq_true] at hg_6_5'
          refine AK.pass rfl rfl (hg_6_5) rfl ?_
          refine AK.pass rfl rfl (hg_6_5) rfl ?_
          refine AK.pass rfl rfl (hg_6_5) rfl ?_
          refine AK.val _ (Yl.pickT rfl (hg_6_5) rfl) trivial rfl ?_
          refine AK.val _ (Yl.move rfl) trivial rfl ?_
          refine AK.pass rfl rfl rfl rfl ?_
          refine AK.pass rfl rfl rfl rfl ?_
          refine AK.pass rfl rfl rfl rfl ?_
          refine AK.pass rfl rfl rfl rfl ?_
          refine AK.val _ (Yl.pickT rfl (rfl) rfl) trivial rfl ?_
          refine AK.nil ?_
          refine AK.then_ (hK11 _ ?_)
          refine AK.cond_t rfl (rfl) ?_
          refine AK.seq (fun _ hK12 => ?_)
          refine AK.region ?_
          refine AK.val _ (Yl.assign rfl) trivial rfl ?_
          refine AK.nil ?_
          refine AK.then_ (hK12 _ ?_)
          refine AK.ret ?_
          refine AK.then_ret ?_
          refine AK.ret1 rfl rfl (fun w hw => ⟨_, _, ?_, rfl, Ret.of (hw.pick [] (by decide) rfl rfl)⟩)
          refine ⟨congrArg (Value.int .i64) ?_, rfl⟩; unfold errV; rw [if_neg (by omega), if_neg (by omega), if_pos (by omega)]
        · have hg_6_5' := hg_6_5
          try simp only [decide_eq_true_eq, decide_eq_false_iff_not, Bool.not_eq_true', Bool.not_eq_false', Bool.not_not, ne_eq, Decidable.not_not, Int.not_lt, Int.not_le, beq_iff_eq, bne_iff_ne, Bool.and_eq_true, Bool.or_eq_true, Bool.or_eq_false_iff, Bool.not_false, Bool.not_true, reduceCtorEq, not_true_eq_false, not_false_eq_true] at hg_6_5'
          refine AK.val _ (Yl.fieldAddr fd25_1 rfl) ⟨_, rfl, congrArg (fun b => some (Value.bool b)) hg_6_5⟩ rfl ?_
          refine AK.val _ (Yl.loadBox on3 rfl (by first | ((repeat (first | exact .hd | apply BoxS.tl | apply MapS.tl)); done) | assumption | exact BoxS.arg (by assumption)) rfl) ⟨_, rfl, congrArg (fun b => some (Value.bool b)) hg_6_5⟩ rfl ?_
          refine AK.val _ (Yl.lss rfl rfl) ⟨_, rfl, congrArg (fun b => some (Value.bool b)) hg_6_5⟩ rfl ?_
          refine AK.val _ (Yl.pickF rfl (hg_6_5) rfl) trivial rfl ?_
          refine AK.val _ (Yl.move rfl) trivial rfl ?_
          refine AK.splitB (g := 31) rfl (fun hg_6_10 => ?_) (fun hg_6_10 => ?_)
          · have hg_6_10' := hg_6_10
            try simp only [decide_eq_true_eq, decide_eq_false_iff_not, Bool.not_eq_true', Bool.not_eq_false', Bool.not_not, ne_eq, Decidable.not_not, Int.not_lt, Int.not_le, beq_iff_eq, bne_iff_ne, Bool.and_eq_true, Bool.or_eq_true, Bool.or_eq_false_iff, Bool.not_false, Bool.not_true, reduceCtorEq, not_true_eq_false, not_false_eq_true] at hg_6_10'
            refine AK.pass rfl rfl (hg_6_10) rfl ?_
            refine AK.pass rfl rfl (hg_6_10) rfl ?_
            refine AK.pass rfl rfl (hg_6_10) rfl ?_
            refine AK.pass rfl rfl (hg_6_10) rfl ?_
            refine AK.val _ (Yl.pickT rfl (hg_6_10) rfl) trivial rfl ?_
            refine AK.nil ?_
            refine AK.then_ (hK11 _ ?_)
            refine AK.cond_t rfl (rfl) ?_
            refine AK.seq (fun _ hK13 => ?_)
            refine AK.region ?_
            refine AK.val _ (Yl.assign rfl) trivial rfl ?_
            refine AK.nil ?_
            refine AK.then_ (hK13 _ ?_)
            refine AK.ret ?_
            refine AK.then_ret ?_
            refine AK.ret1 rfl rfl (fun w hw => ⟨_, _, ?_, rfl, Ret.of (hw.pick [] (by decide) rfl rfl)⟩)
            refine ⟨congrArg (Value.int .i64) ?_, rfl⟩; unfold errV; rw [if_neg (by omega), if_neg (by omega), if_pos (by omega)]
          · have hg_6_10' := hg_6_10
            try simp only [decide_eq_true_eq, decide_eq_false_iff_not, Bool.not_eq_true', Bool.not_eq_false', Bool.not_not, ne_eq, Decidable.not_not, Int.not_lt, Int.not_le, beq_iff_eq, bne_iff_ne, Bool.and_eq_true, Bool.or_eq_true, Bool.or_eq_false_iff, Bool.not_false, Bool.not_true, reduceCtorEq, not_true_eq_false, not_false_eq_true] at hg_6_10'
            refine AK.val _ (Yl.fieldAddr fd25_1 rfl) ⟨_, rfl, congrArg (fun b => some (Value.bool b)) hg_6_10⟩ rfl ?_
            refine AK.val _ (Yl.loadBox on3 rfl (by first | ((repeat (first | exact .hd | apply BoxS.tl | apply MapS.tl)); done) | assumption | exact BoxS.arg (by assumption)) rfl) ⟨_, rfl, congrArg (fun b => some (Value.bool b)) hg_6_10⟩ rfl ?_
            refine AK.val _ (Yl.move rfl) ⟨_, rfl, congrArg (fun b => some (Value.bool b)) hg_6_10⟩ rfl ?_
            refine AK.val _ (Yl.geq rfl rfl) ⟨_, rfl, congrArg (fun b => some (Value.bool b)) hg_6_10⟩ rfl ?_
            refine AK.val _ (Yl.pickF rfl (hg_6_10) rfl) trivial rfl ?_
            refine AK.nil ?_
            refine AK.then_ (hK11 _ ?_)
            refine AK.condD rfl (fun hc2 => ?_) (fun hc2 => ?_)
            · refine AK.seq (fun _ hK14 => ?_)
              refine AK.region ?_
              refine AK.val _ (Yl.assign rfl) trivial rfl ?_
              refine AK.nil ?_
              refine AK.then_ (hK14 _ ?_)
              refine AK.ret ?_
              refine AK.then_ret ?_
              refine AK.ret1 rfl rfl (fun w hw => ⟨_, _, ?_, rfl, Ret.of (hw.pick [] (by decide) rfl rfl)⟩)
              refine ⟨congrArg (Value.int .i64) ?_, rfl⟩; unfold errV; rw [if_neg (by omega), if_neg (by omega), if_pos (by omega)]
            · refine AK.skip ?_
              refine AK.then_ (hK10 _ ?_)
              refine AK.seq (fun _ hK15 => ?_)
              refine AK.seq (fun _ hK16 => ?_)
              refine AK.region ?_
              refine AK.val _ (Yl.fieldAddr fd25_3 rfl) trivial rfl ?_
              refine AK.val _ (Yl.loadBox on23 rfl (by first | ((repeat (first | exact .hd | apply BoxS.tl | apply MapS.tl)); done) | assumption | exact BoxS.arg (by assumption)) rfl) trivial rfl ?_
              refine AK.val _ (Yl.lenR sl23 rfl (by first | exact .arg ‹_› | ((repeat (first | exact .hd | apply RdS.tl)); done) | assumption | exact .arg (hNi k (by omega)))) trivial rfl ?_
              refine AK.val _ (Yl.move rfl) trivial rfl ?_
              refine AK.nil ?_
              refine AK.then_ (hK16 _ ?_)
              refine AK.block ?_
              refine AK.loopS (X := Nat) [1, 3, 38, 39] (fun k => [(40, .int .i64 (k : Int))]) (fun k => [box bx1 25 4 [.int .i64 d.L, .int .i64 d.s, vF, vN]]) (fun k => k ≤ d.nx.length ∧ (d.nx.take k).any (badRow d.fin.length d.L) = false) (fun k => d.nx.length - k) (0) ?_ ?_ ?_ ?_
              · exact ⟨Nat.zero_le _, rfl⟩
              · exact .cons (rfl) (.nil)
              · exact fun w hw => hw
              · intro k hg0 _ hK17
                obtain ⟨hk, hg1⟩ := hg0
                have hrk := fun hk1 => (hNi k hk1).le
                refine AK.seq (fun _ hK18 => ?_)
                refine AK.region ?_
                refine AK.val _ (Yl.lss rfl rfl) trivial rfl ?_
                refine AK.nil ?_
                refine AK.then_ (hK18 _ ?_)
                refine AK.seq (fun _ hK19 => ?_)
                refine AK.condD rfl (fun hc3 => ?_) (fun hc3 => ?_)
                · refine AK.skip ?_
                  refine AK.then_ (hK19 _ ?_)
                  refine AK.seq (fun _ hK20 => ?_)
                  refine AK.block ?_
                  refine AK.seq (fun _ hK21 => ?_)
                  refine AK.region ?_
                  first | refine AK.val _ (Yl.idxN sl23 rfl rfl (by first | exact .arg ‹_› | ((repeat (first | exact .hd | apply RdS.tl)); done) | assumption | exact .arg (hNi k (by omega))) (by decide) (by omega)) trivial rfl ?_ | refine AK.val _ (Yl.idx sl23 rfl rfl (by first | exact .arg ‹_› | ((repeat (first | exact .hd | apply RdS.tl)); done) | assumption | exact .arg (hNi k (by omega))) (by decide) (by omega)) trivial rfl ?_ | refine AK.val _ (Yl.idxK sl23 rfl rfl (by first | exact .arg ‹_› | ((repeat (first | exact .hd | apply RdS.tl)); done) | assumption | exact .arg (hNi k (by omega))) (by decide) (by omega)) trivial rfl ?_
                  refine AK.val _ (Yl.loadV on26 rfl (by first | exact .arg ‹_› | ((repeat (first | exact .hd | apply RdS.tl)); done) | assumption | exact .arg (hNi k (by omega))) (by omega)) trivial rfl ?_
                  refine AK.val _ (Yl.assign rfl) trivial rfl ?_
                  refine AK.nil ?_
                  refine AK.then_ (hK21 _ ?_)
                  refine AK.seq (fun _ hK22 => ?_)
                  refine AK.seq (fun _ hK23 => ?_)
                  refine AK.region ?_
                  refine AK.val _ (Yl.move rfl) trivial rfl ?_
                  refine AK.val _ (Yl.lenR sl26 rfl (by first | exact .arg ‹_› | ((repeat (first | exact .hd | apply RdS.tl)); done) | assumption | exact .arg (hNi k (by omega)))) trivial rfl ?_
                  refine AK.val _ (Yl.fieldAddr fd25_0 rfl) trivial rfl ?_
                  refine AK.val _ (Yl.loadBox on3 rfl (by first | ((repeat (first | exact .hd | apply BoxS.tl | apply MapS.tl)); done) | assumption | exact BoxS.arg (by assumption)) rfl) trivial rfl ?_
                  refine AK.val _ (Yl.neq rfl rfl) trivial rfl ?_
                  refine AK.nil ?_
                  refine AK.then_ (hK23 _ ?_)
                  refine AK.condNe rfl (fun hc4 => ?_) (fun hc4 => ?_)
                  · refine AK.seq (fun _ hK24 => ?_)
                    refine AK.region ?_
                    refine AK.val _ (Yl.assign rfl) trivial rfl ?_
                    refine AK.nil ?_
                    refine AK.then_ (hK24 _ ?_)
                    refine AK.ret ?_
                    refine AK.then_ret ?_
                    refine AK.block_ret ?_
                    refine AK.then_ret ?_
                    refine AK.then_ret ?_
                    refine AK.block_ret ?_
                    refine AK.then_ret ?_
                    refine AK.ret1 rfl rfl (fun w hw => ⟨_, _, ?_, rfl, Ret.of (hw.pick [] (by decide) rfl rfl)⟩)
                    refine ⟨congrArg (Value.int .i64) ?_, rfl⟩; unfold errV; rw [if_neg (by omega), if_neg (by omega), if_neg (by omega), if_pos (any_at _ [] (by omega : k < d.nx.length) ?_)]
                    unfold badRow; rw [Bool.or_eq_true]; exact .inl (decide_eq_true (by omega))
                  · refine AK.skip ?_
                    refine AK.then_ (hK22 _ ?_)
                    refine AK.seq (fun _ hK25 => ?_)
                    refine AK.region ?_
                    refine AK.val _ (Yl.move rfl) trivial rfl ?_
                    refine AK.val _ (Yl.lenR sl26 rfl (by first | exact .arg ‹_› | ((repeat (first | exact .hd | apply RdS.tl)); done) | assumption | exact .arg (hNi k (by omega)))) trivial rfl ?_
                    refine AK.val _ (Yl.move rfl) trivial rfl ?_
                    refine AK.nil ?_
                    refine AK.then_ (hK25 _ ?_)
                    refine AK.block ?_
                    refine AK.loopS (X := Nat) [1, 3, 38, 39, 40, 49, 50] (fun j => [(51, .int .i64 (j : Int))]) (fun j => [box bx1 25 4 [.int .i64 d.L, .int .i64 d.s, vF, vN]]) (fun j => j ≤ (d.nx.getD k []).length ∧ ((d.nx.getD k []).take j).any (badQ d.fin.length) = false) (fun j => (d.nx.getD k []).length - j) (0) ?_ ?_ ?_ ?_
                    · exact ⟨Nat.zero_le _, rfl⟩
                    · exact .cons (rfl) (.nil)
                    · exact fun w hw => hw
                    · intro j hg1 _ hK26
                      obtain ⟨hj, hg2⟩ := hg1
                      refine AK.seq (fun _ hK27 => ?_)
                      refine AK.region ?_
                      refine AK.val _ (Yl.lss rfl rfl) trivial rfl ?_
                      refine AK.nil ?_
                      refine AK.then_ (hK27 _ ?_)
                      refine AK.seq (fun _ hK28 => ?_)
                      refine AK.condD rfl (fun hc5 => ?_) (fun hc5 => ?_)
                      · refine AK.skip ?_
                        refine AK.then_ (hK28 _ ?_)
                        refine AK.seq (fun _ hK29 => ?_)
                        refine AK.block ?_
                        refine AK.seq (fun _ hK30 => ?_)
                        refine AK.region ?_
                        first | refine AK.val _ (Yl.idxN sl26 rfl rfl (by first | exact .arg ‹_› | ((repeat (first | exact .hd | apply RdS.tl)); done) | assumption | exact .arg (hNi k (by omega))) (by decide) (by omega)) trivial rfl ?_ | refine AK.val _ (Yl.idx sl26 rfl rfl (by first | exact .arg ‹_› | ((repeat (first | exact .hd | apply RdS.tl)); done) | assumption | exact .arg (hNi k (by omega))) (by decide) (by omega)) trivial rfl ?_ | refine AK.val _ (Yl.idxK sl26 rfl rfl (by first | exact .arg ‹_› | ((repeat (first | exact .hd | apply RdS.tl)); done) | assumption | exact .arg (hNi k (by omega))) (by decide) (by omega)) trivial rfl ?_
                        refine AK.val _ (Yl.loadI on3 rfl (by first | exact .arg ‹_› | ((repeat (first | exact .hd | apply RdS.tl)); done) | assumption | exact .arg (hNi k (by omega))) (by omega)) trivial rfl ?_
                        refine AK.val _ (Yl.assign rfl) trivial rfl ?_
                        refine AK.nil ?_
                        refine AK.then_ (hK30 _ ?_)
                        refine AK.seq (fun _ hK31 => ?_)
                        refine AK.region ?_
                        refine AK.val _ (Yl.move rfl) trivial rfl ?_
                        refine AK.val _ (Yl.lss rfl rfl) trivial rfl ?_
                        refine AK.val _ (Yl.move rfl) trivial rfl ?_
                        refine AK.splitB (g := 57) rfl (fun hg_16_2 => ?_) (fun hg_16_2 => ?_)
                        · have hg_16_2' := hg_16_2
                          try simp only [decide_eq_true_eq, decide_eq_false_iff_not, Bool.not_eq_true', Bool.not_eq_false', Bool.not_not, ne_eq, Decidable.not_not, Int.not_lt, Int.not_le, beq_iff_eq, bne_iff_ne, Bool.and_eq_true, Bool.or_eq_true, Bool.or_eq_false_iff, Bool.not_false, Bool.not_true, reduceCtorEq, not_true_eq_false, not_false_eq_true] at hg_16_2'
                          refine AK.pass rfl rfl (hg_16_2) rfl ?_
                          refine AK.pass rfl rfl (hg_16_2) rfl ?_
                          refine AK.pass rfl rfl (hg_16_2) rfl ?_
                          refine AK.val _ (Yl.pickT rfl (hg_16_2) rfl) trivial rfl ?_
                          refine AK.nil ?_
                          refine AK.then_ (hK31 _ ?_)
                          refine AK.cond_t rfl (rfl) ?_
                          refine AK.seq (fun _ hK32 => ?_)
                          refine AK.region ?_
                          refine AK.val _ (Yl.assign rfl) trivial rfl ?_
                          refine AK.nil ?_
                          refine AK.then_ (hK32 _ ?_)
                          refine AK.ret ?_
                          refine AK.block_ret ?_
                          refine AK.then_ret ?_
                          refine AK.then_ret ?_
                          refine AK.block_ret ?_
                          refine AK.block_ret ?_
                          refine AK.then_ret ?_
                          refine AK.then_ret ?_
                          refine AK.block_ret ?_
                          refine AK.then_ret ?_
                          refine AK.ret1 rfl rfl (fun w hw => ⟨_, _, ?_, rfl, Ret.of (hw.pick [] (by decide) rfl rfl)⟩)
                          refine ⟨congrArg (Value.int .i64) ?_, rfl⟩; unfold errV; rw [if_neg (by omega), if_neg (by omega), if_neg (by omega), if_pos (any_at _ [] (by omega : k < d.nx.length) ?_)]
                          unfold badRow; rw [Bool.or_eq_true]; refine .inr (any_at _ 0 (by omega : j < (d.nx.getD k []).length) ?_); unfold badQ; rw [Bool.or_eq_true, decide_eq_true_eq, decide_eq_true_eq]; omega
                        · have hg_16_2' := hg_16_2
                          try simp only [decide_eq_true_eq, decide_eq_false_iff_not, Bool.not_eq_true', Bool.not_eq_false', Bool.not_not, ne_eq, Decidable.not_not, Int.not_lt, Int.not_le, beq_iff_eq, bne_iff_ne, Bool.and_eq_true, Bool.or_eq_true, Bool.or_eq_false_iff, Bool.not_false, Bool.not_true, reduceCtorEq, not_true_eq_false, not_false_eq_true] at hg_16_2'
                          refine AK.val _ (Yl.move rfl) ⟨_, rfl, congrArg (fun b => some (Value.bool b)) hg_16_2⟩ rfl ?_
                          refine AK.val _ (Yl.move rfl) ⟨_, rfl, congrArg (fun b => some (Value.bool b)) hg_16_2⟩ rfl ?_
                          refine AK.val _ (Yl.geq rfl rfl) ⟨_, rfl, congrArg (fun b => some (Value.bool b)) hg_16_2⟩ rfl ?_
                          refine AK.val _ (Yl.pickF rfl (hg_16_2) rfl) trivial rfl ?_
                          refine AK.nil ?_
                          refine AK.then_ (hK31 _ ?_)
                          refine AK.condD rfl (fun hc6 => ?_) (fun hc6 => ?_)
                          · refine AK.seq (fun _ hK33 => ?_)
                            refine AK.region ?_
                            refine AK.val _ (Yl.assign rfl) trivial rfl ?_
                            refine AK.nil ?_
                            refine AK.then_ (hK33 _ ?_)
                            refine AK.ret ?_
                            refine AK.block_ret ?_
                            refine AK.then_ret ?_
                            refine AK.then_ret ?_
                            refine AK.block_ret ?_
                            refine AK.block_ret ?_
                            refine AK.then_ret ?_
                            refine AK.then_ret ?_
                            refine AK.block_ret ?_
                            refine AK.then_ret ?_
                            refine AK.ret1 rfl rfl (fun w hw => ⟨_, _, ?_, rfl, Ret.of (hw.pick [] (by decide) rfl rfl)⟩)
                            refine ⟨congrArg (Value.int .i64) ?_, rfl⟩; unfold errV; rw [if_neg (by omega), if_neg (by omega), if_neg (by omega), if_pos (any_at _ [] (by omega : k < d.nx.length) ?_)]
                            unfold badRow; rw [Bool.or_eq_true]; refine .inr (any_at _ 0 (by omega : j < (d.nx.getD k []).length) ?_); unfold badQ; rw [Bool.or_eq_true, decide_eq_true_eq, decide_eq_true_eq]; omega
                          · refine AK.skip ?_
                            refine AK.block_normal ?_
                            refine AK.then_ (hK29 _ ?_)
                            refine AK.region ?_
                            refine AK.val _ (Yl.add rfl rfl (by omega)) trivial rfl ?_
                            refine AK.val _ (Yl.move rfl) trivial rfl ?_
                            refine AK.nil ?_
                            refine AK.then_ (hK26 _ _ (j + 1) ⟨by omega, any_take_succ _ 0 (by omega) hg2 (by unfold badQ; rw [Bool.or_eq_false_iff, decide_eq_false_iff_not, decide_eq_false_iff_not]; omega)⟩ (by omega) (.cons (rfl) (.cons rfl (.cons rfl (.cons rfl (.cons rfl (.cons rfl (.cons rfl (.cons rfl (.nil))))))))) (fun w hw => hw))
                      · refine AK.exit ?_
                        refine AK.then_exit ?_
                        refine AK.then_exit ?_
                        refine AK.block_exit ?_
                        refine AK.block_normal ?_
                        refine AK.then_ (hK20 _ ?_)
                        refine AK.region ?_
                        refine AK.val _ (Yl.add rfl rfl (by omega)) trivial rfl ?_
                        refine AK.val _ (Yl.move rfl) trivial rfl ?_
                        refine AK.nil ?_
                        refine AK.then_ (hK17 _ _ (k + 1) ⟨by omega, any_take_succ _ [] (by omega) hg1 (by unfold badRow; rw [show j = (d.nx.getD k []).length by omega, List.take_length] at hg2; rw [hg2, Bool.or_false]; exact decide_eq_false (by omega))⟩ (by omega) (.cons (rfl) (.cons rfl (.cons rfl (.cons rfl (.cons rfl (.nil)))))) (fun w hw => hw))
                · refine AK.exit ?_
                  refine AK.then_exit ?_
                  refine AK.then_exit ?_
                  refine AK.block_exit ?_
                  refine AK.then_ (hK15 _ ?_)
                  refine AK.seq (fun _ hK34 => ?_)
                  refine AK.region ?_
                  refine AK.val _ (Yl.assign rfl) trivial rfl ?_
                  refine AK.nil ?_
                  refine AK.then_ (hK34 _ ?_)
                  refine AK.ret ?_
                  refine AK.ret1 rfl rfl (fun w hw => ⟨_, _, ?_, rfl, Ret.of (hw.pick [] (by decide) rfl rfl)⟩)
                  refine ⟨congrArg (Value.int .i64) ?_, rfl⟩; unfold errV; rw [if_neg (by omega), if_neg (by omega), if_neg (by omega), if_neg]; rw [show k = d.nx.length by omega, List.take_length] at hg1; rw [hg1]; exact Bool.false_ne_true

set_option maxRecDepth 100000 in
theorem s_refvalidate (w : World) (v : Value) (d : Dfa) (h : RdD (fun _ => False) w v d) : CallS Try.prog 15 [v] w (fun r o => r = .int .i64 (errV d) ∧ o = []) := by
  have h0 := h
  obtain ⟨vF, vN, rfl, hF, hN⟩ := h
  obtain ⟨rs, hrl, hNr, hNi⟩ := hN
  have sF := hF.sl
  have sN := hNr.sl
  have hmf := hF.le
  have hmn := hNr.le
  unfold RdL at hF
  refine spec_of Try.func15 rfl (Nat.le_of_ble_eq_true rfl) ?_
  refine AK.seq (fun _ hK1 => ?_)
  refine AK.region ?_
  refine AK.box_ (E := 25) (cs := [.int .i64 d.L, .int .i64 d.s, vF, vN]) rfl rfl rfl trivial rfl (fun bx1 => ?_)
  refine AK.val _ (Yl.assign rfl) trivial rfl ?_
  refine AK.nil ?_
  refine AK.then_ (hK1 _ ?_)
  refine AK.seq (fun _ hK2 => ?_)
  refine AK.region ?_
  refine AK.val _ (Yl.fieldAddr fd25_2 rfl) trivial rfl ?_
  refine AK.val _ (Yl.loadBox on22 rfl (by first | ((repeat (first | exact .hd | apply BoxS.tl | apply MapS.tl)); done) | assumption | exact BoxS.arg (by assumption)) rfl) trivial rfl ?_
  refine AK.val _ (Yl.lenR sl22 rfl (by first | exact .arg ‹_› | ((repeat (first | exact .hd | apply RdS.tl)); done) | assumption | exact .arg (hNi k (by omega)))) trivial rfl ?_
  refine AK.val _ (Yl.assign rfl) trivial rfl ?_
  refine AK.nil ?_
  refine AK.then_ (hK2 _ ?_)
  refine AK.seq (fun _ hK3 => ?_)
  refine AK.seq (fun _ hK4 => ?_)
  refine AK.region ?_
  refine AK.val _ (Yl.fieldAddr fd25_0 rfl) trivial rfl ?_
  refine AK.val _ (Yl.loadBox on3 rfl (by first | ((repeat (first | exact .hd | apply BoxS.tl | apply MapS.tl)); done) | assumption | exact BoxS.arg (by assumption)) rfl) trivial rfl ?_
  refine AK.call co35 rfl (fun w hw => s_may w d.L) trivial rfl ?_
  rintro r o ⟨rfl, rfl⟩
  refine AK.val _ (Yl.not rfl) trivial rfl ?_
  refine AK.nil ?_
  refine AK.then_ (hK4 _ ?_)
  refine AK.condB rfl (fun hc0 => ?_) (fun hc0 => ?_)
  · rw [decide_eq_false_iff_not] at hc0
    refine AK.seq (fun _ hK5 => ?_)
    refine AK.region ?_
    refine AK.val _ (Yl.assign rfl) trivial rfl ?_
    refine AK.nil ?_
    refine AK.then_ (hK5 _ ?_)
    refine AK.ret ?_
    refine AK.then_ret ?_
    refine AK.ret1 rfl rfl (fun w hw => ⟨_, _, ?_, rfl, Ret.of (hw.pick [] (by decide) rfl rfl)⟩)
    refine ⟨congrArg (Value.int .i64) ?_, rfl⟩; unfold errV; rw [if_pos (by omega)]
  · rw [decide_eq_true_eq] at hc0
    refine AK.skip ?_
    refine AK.then_ (hK3 _ ?_)
    refine AK.seq (fun _ hK6 => ?_)
    refine AK.seq (fun _ hK7 => ?_)
    refine AK.region ?_
    refine AK.val _ (Yl.move rfl) trivial rfl ?_
    refine AK.val _ (Yl.gtr rfl rfl) trivial rfl ?_
    refine AK.nil ?_
    refine AK.then_ (hK7 _ ?_)
    refine AK.condD rfl (fun hc1 => ?_) (fun hc1 => ?_)
    · refine AK.seq (fun _ hK8 => ?_)
      refine AK.region ?_
      refine AK.val _ (Yl.assign rfl) trivial rfl ?_
      refine AK.nil ?_
      refine AK.then_ (hK8 _ ?_)
      refine AK.ret ?_
      refine AK.then_ret ?_
      refine AK.ret1 rfl rfl (fun w hw => ⟨_, _, ?_, rfl, Ret.of (hw.pick [] (by decide) rfl rfl)⟩)
      refine ⟨congrArg (Value.int .i64) ?_, rfl⟩; unfold errV; rw [if_neg (by omega), if_pos (by omega)]
    · refine AK.skip ?_
      refine AK.then_ (hK6 _ ?_)
      refine AK.seq (fun _ hK9 => ?_)
      refine AK.seq (fun _ hK10 => ?_)
      refine AK.region ?_
      refine AK.val _ (Yl.move rfl) trivial rfl ?_
      refine AK.val _ (Yl.eql rfl rfl) trivial rfl ?_
      refine AK.val _ (Yl.move rfl) trivial rfl ?_
      refine AK.splitB (g := 19) rfl (fun hg_6_2 => ?_) (fun hg_6_2 => ?_)
      · have hg_6_2' := hg_6_2
        try simp only [decide_eq_true_eq, decide_eq_false_iff_not, Bool.not_eq_true', Bool.not_eq_false', Bool.not_not, ne_eq, Decidable.not_not, Int.not_lt, Int.not_le, beq_iff_eq, bne_iff_ne, Bool.and_eq_true, Bool.or_eq_true, Bool.or_eq_false_iff, Bool.not_false, Bool.not_true, reduceCtorEq, not_true_eq_false, not_false_eq_true] at hg_6_2'
        refine AK.pass rfl rfl (hg_6_2) rfl ?_
        refine AK.pass rfl rfl (hg_6_2) rfl ?_
        refine AK.pass rfl rfl (hg_6_2) rfl ?_
        refine AK.pass rfl rfl (hg_6_2) rfl ?_
        refine AK.pass rfl rfl (hg_6_2) rfl ?_
        refine AK.val _ (Yl.pickT rfl (hg_6_2) rfl) trivial rfl ?_
        refine AK.val _ (Yl.move rfl) trivial rfl ?_
        refine AK.pass rfl rfl rfl rfl ?_
        refine AK.pass rfl rfl rfl rfl ?_
        refine AK.pass rfl rfl rfl rfl ?_
        refine AK.val _ (Yl.pickT rfl (rfl) rfl) trivial rfl ?_
        refine AK.val _ (Yl.move rfl) trivial rfl ?_
        refine AK.pass rfl rfl rfl rfl ?_
        refine AK.pass rfl rfl rfl rfl ?_
        refine AK.pass rfl rfl rfl rfl ?_
        refine AK.pass rfl rfl rfl rfl ?_
        refine AK.val _ (Yl.pickT rfl (rfl) rfl) trivial rfl ?_
        refine AK.nil ?_
        refine AK.then_ (hK10 _ ?_)
        refine AK.cond_t rfl (rfl) ?_
        refine AK.seq (fun _ hK11 => ?_)
        refine AK.region ?_
        refine AK.val _ (Yl.assign rfl) trivial rfl ?_
        refine AK.nil ?_
        refine AK.then_ (hK11 _ ?_)
        refine AK.ret ?_
        refine AK.then_ret ?_
        refine AK.ret1 rfl rfl (fun w hw => ⟨_, _, ?_, rfl, Ret.of (hw.pick [] (by decide) rfl rfl)⟩)
        refine ⟨congrArg (Value.int .i64) ?_, rfl⟩; unfold errV; rw [if_neg (by omega), if_neg (by omega), if_pos (by omega)]
      · have hg_6_2' := hg_6_2
        try simp only [decide_eq_true_eq, decide_eq_false_iff_not, Bool.not_eq_true', Bool.not_eq_false', Bool.not_not, ne_eq, Decidable.not_not, Int.not_lt, Int.not_le, beq_iff_eq, bne_iff_ne, Bool.and_eq_true, Bool.or_eq_true, Bool.or_eq_false_iff, Bool.not_false, Bool.not_true, reduceCtorEq, not_true_eq_false, not_false_eq_true] at hg_6_2'
        refine AK.val _ (Yl.fieldAddr fd25_3 rfl) ⟨_, rfl, congrArg (fun b => some (Value.bool b)) hg_6_2⟩ rfl ?_
        refine AK.val _ (Yl.loadBox on23 rfl (by first | ((repeat (first | exact .hd | apply BoxS.tl | apply MapS.tl)); done) | assumption | exact BoxS.arg (by assumption)) rfl) ⟨_, rfl, congrArg (fun b => some (Value.bool b)) hg_6_2⟩ rfl ?_
        refine AK.val _ (Yl.lenR sl23 rfl (by first | exact .arg ‹_› | ((repeat (first | exact .hd | apply RdS.tl)); done) | assumption | exact .arg (hNi k (by omega)))) ⟨_, rfl, congrArg (fun b => some (Value.bool b)) hg_6_2⟩ rfl ?_
        refine AK.val _ (Yl.move rfl) ⟨_, rfl, congrArg (fun b => some (Value.bool b)) hg_6_2⟩ rfl ?_
        refine AK.val _ (Yl.neq rfl rfl) ⟨_, rfl, congrArg (fun b => some (Value.bool b)) hg_6_2⟩ rfl ?_
        refine AK.val _ (Yl.pickF rfl (hg_6_2) rfl) trivial rfl ?_
        refine AK.val _ (Yl.move rfl) trivial rfl ?_
        refine AK.splitB (g := 26) rfl (fun hg_6_9 => ?_) (fun hg_6_9 => ?_)
        · have hg_6_9' := hg_6_9
          try simp only [decide_eq_true_eq, decide_eq_false_iff_not, Bool.not_eq_true', Bool.not_eq_false', Bool.not_not, ne_eq, Decidable.not_not, Int.not_lt, Int.not_le, beq_iff_eq, bne_iff_ne, Bool.and_eq_true, Bool.or_eq_true, Bool.or_eq_false_iff, Bool.not_false, Bool.not_true, reduceCtorEq, not_true_eq_false, not_false_eq_true] at hg_6_9'
          refine AK.pass rfl rfl (hg_6_9) rfl ?_
          refine AK.pass rfl rfl (hg_6_9) rfl ?_
          refine AK.pass rfl rfl (hg_6_9) rfl ?_
          refine AK.val _ (Yl.pickT rfl (hg_6_9) rfl) trivial rfl ?_
          refine AK.val _ (Yl.move rfl) trivial rfl ?_
          refine AK.pass rfl rfl rfl rfl ?_
          refine AK.pass rfl rfl rfl rfl ?_
          refine AK.pass rfl rfl rfl rfl ?_
          refine AK.pass rfl rfl rfl rfl ?_
          refine AK.val _ (Yl.pickT rfl (rfl) rfl) trivial rfl ?_
          refine AK.nil ?_
          refine AK.then_ (hK10 _ ?_)
          refine AK.cond_t rfl (rfl) ?_
          refine AK.seq (fun _ hK12 => ?_)
          refine AK.region ?_
          refine AK.val _ (Yl.assign rfl) trivial rfl ?_
          refine AK.nil ?_
          refine AK.then_ (hK12 _ ?_)
          refine AK.ret ?_
          refine AK.then_ret ?_
          refine AK.ret1 rfl rfl (fun w hw => ⟨_, _, ?_, rfl, Ret.of (hw.pick [] (by decide) rfl rfl)⟩)
          refine ⟨congrArg (Value.int .i64) ?_, rfl⟩; unfold errV; rw [if_neg (by omega), if_neg (by omega), if_pos (by omega)]
        · have hg_6_9' := hg_6_9
          try simp only [decide_eq_true_eq, decide_eq_false_iff_not, Bool.not_eq_true', Bool.not_eq_false', Bool.not_not, ne_eq, Decidable.not_not, Int.not_lt, Int.not_le, beq_iff_eq, bne_iff_ne, Bool.and_eq_true, Bool.or_eq_true, Bool.or_eq_false_iff, Bool.not_false, Bool.not_true, reduceCtorEq, not_true_eq_false, not_false_eq_true] at hg_6_9'
          refine AK.val _ (Yl.fieldAddr fd25_1 rfl) ⟨_, rfl, congrArg (fun b => some (Value.bool b)) hg_6_9⟩ rfl ?_
          refine AK.val _ (Yl.loadBox on3 rfl (by first | ((repeat (first | exact .hd | apply BoxS.tl | apply MapS.tl)); done) | assumption | exact BoxS.arg (by assumption)) rfl) ⟨_, rfl, congrArg (fun b => some (Value.bool b)) hg_6_9⟩ rfl ?_
          refine AK.val _ (Yl.lss rfl rfl) ⟨_, rfl, congrArg (fun b => some (Value.bool b)) hg_6_9⟩ rfl ?_
          refine AK.val _ (Yl.pickF rfl (hg_6_9) rfl) trivial rfl ?_
          refine AK.val _ (Yl.move rfl) trivial rfl ?_
          refine AK.splitB (g := 31) rfl (fun hg_6_14 => ?_) (fun hg_6_14 => ?_)
          · have hg_6_14' := hg_6_14
            try simp only [decide_eq_true_eq, decide_eq_false_iff_not, Bool.not_eq_true', Bool.not_eq_false', Bool.not_not, ne_eq, Decidable.not_not, Int.not_lt, Int.not_le, beq_iff_eq, bne_iff_ne, Bool.and_eq_true, Bool.or_eq_true, Bool.or_eq_false_iff, Bool.not_false, Bool.not_true, reduceCtorEq, not_true_eq_false, not_false_eq_true] at hg_6_14'
            refine AK.pass rfl rfl (hg_6_14) rfl ?_
            refine AK.pass rfl rfl (hg_6_14) rfl ?_
            refine AK.pass rfl rfl (hg_6_14) rfl ?_
            refine AK.pass rfl rfl (hg_6_14) rfl ?_
            refine AK.val _ (Yl.pickT rfl (hg_6_14) rfl) trivial rfl ?_
            refine AK.nil ?_
            refine AK.then_ (hK10 _ ?_)
            refine AK.cond_t rfl (rfl) ?_
            refine AK.seq (fun _ hK13 => ?_)
            refine AK.region ?_
            refine AK.val _ (Yl.assign rfl) trivial rfl ?_
            refine AK.nil ?_
            refine AK.then_ (hK13 _ ?_)
            refine AK.ret ?_
            refine AK.then_ret ?_
            refine AK.ret1 rfl rfl (fun w hw => ⟨_, _, ?_, rfl, Ret.of (hw.pick [] (by decide) rfl rfl)⟩)
            refine ⟨congrArg (Value.int .i64) ?_, rfl⟩; unfold errV; rw [if_neg (by omega), if_neg (by omega), if_pos (by omega)]
          · have hg_6_14' := hg_6_14
            try simp only [decide_eq_true_eq, decide_eq_false_iff_not, Bool.not_eq_true', Bool.not_eq_false', Bool.not_not, ne_eq, Decidable.not_not, Int.not_lt, Int.not_le, beq_iff_eq, bne_iff_ne, Bool.and_eq_true, Bool.or_eq_true, Bool.or_eq_false_iff, Bool.not_false, Bool.not_true, reduceCtorEq, not_true_eq_false, not_false_eq_true] at hg_6_14'
            refine AK.val _ (Yl.fieldAddr fd25_1 rfl) ⟨_, rfl, congrArg (fun b => some (Value.bool b)) hg_6_14⟩ rfl ?_
            refine AK.val _ (Yl.loadBox on3 rfl (by first | ((repeat (first | exact .hd | apply BoxS.tl | apply MapS.tl)); done) | assumption | exact BoxS.arg (by assumption)) rfl) ⟨_, rfl, congrArg (fun b => some (Value.bool b)) hg_6_14⟩ rfl ?_
            refine AK.val _ (Yl.move rfl) ⟨_, rfl, congrArg (fun b => some (Value.bool b)) hg_6_14⟩ rfl ?_
            refine AK.val _ (Yl.geq rfl rfl) ⟨_, rfl, congrArg (fun b => some (Value.bool b)) hg_6_14⟩ rfl ?_
            refine AK.val _ (Yl.pickF rfl (hg_6_14) rfl) trivial rfl ?_
            refine AK.nil ?_
            refine AK.then_ (hK10 _ ?_)
            refine AK.condD rfl (fun hc2 => ?_) (fun hc2 => ?_)
            · refine AK.seq (fun _ hK14 => ?_)
              refine AK.region ?_
              refine AK.val _ (Yl.assign rfl) trivial rfl ?_
              refine AK.nil ?_
              refine AK.then_ (hK14 _ ?_)
              refine AK.ret ?_
              refine AK.then_ret ?_
              refine AK.ret1 rfl rfl (fun w hw => ⟨_, _, ?_, rfl, Ret.of (hw.pick [] (by decide) rfl rfl)⟩)
              refine ⟨congrArg (Value.int .i64) ?_, rfl⟩; unfold errV; rw [if_neg (by omega), if_neg (by omega), if_pos (by omega)]
            · refine AK.skip ?_
              refine AK.then_ (hK9 _ ?_)
              refine AK.seq (fun _ hK15 => ?_)
              refine AK.seq (fun _ hK16 => ?_)
              refine AK.region ?_
              refine AK.val _ (Yl.fieldAddr fd25_3 rfl) trivial rfl ?_
              refine AK.val _ (Yl.loadBox on23 rfl (by first | ((repeat (first | exact .hd | apply BoxS.tl | apply MapS.tl)); done) | assumption | exact BoxS.arg (by assumption)) rfl) trivial rfl ?_
              refine AK.val _ (Yl.lenR sl23 rfl (by first | exact .arg ‹_› | ((repeat (first | exact .hd | apply RdS.tl)); done) | assumption | exact .arg (hNi k (by omega)))) trivial rfl ?_
              refine AK.val _ (Yl.move rfl) trivial rfl ?_
              refine AK.nil ?_
              refine AK.then_ (hK16 _ ?_)
              refine AK.block ?_
              refine AK.loopS (X := Nat) [1, 3, 38, 39] (fun k => [(40, .int .i64 (k : Int))]) (fun k => [box bx1 25 4 [.int .i64 d.L, .int .i64 d.s, vF, vN]]) (fun k => k ≤ d.nx.length ∧ (d.nx.take k).any (badRow d.fin.length d.L) = false) (fun k => d.nx.length - k) (0) ?_ ?_ ?_ ?_
              · exact ⟨Nat.zero_le _, rfl⟩
              · exact .cons (rfl) (.nil)
              · exact fun w hw => hw
              · intro k hg0 _ hK17
                obtain ⟨hk, hg1⟩ := hg0
                have hrk := fun hk1 => (hNi k hk1).le
                refine AK.seq (fun _ hK18 => ?_)
                refine AK.region ?_
                refine AK.val _ (Yl.lss rfl rfl) trivial rfl ?_
                refine AK.nil ?_
                refine AK.then_ (hK18 _ ?_)
                refine AK.seq (fun _ hK19 => ?_)
                refine AK.condD rfl (fun hc3 => ?_) (fun hc3 => ?_)
                · refine AK.skip ?_
                  refine AK.then_ (hK19 _ ?_)
                  refine AK.seq (fun _ hK20 => ?_)
                  refine AK.block ?_
                  refine AK.seq (fun _ hK21 => ?_)
                  refine AK.region ?_
                  first | refine AK.val _ (Yl.idxN sl23 rfl rfl (by first | exact .arg ‹_› | ((repeat (first | exact .hd | apply RdS.tl)); done) | assumption | exact .arg (hNi k (by omega))) (by decide) (by omega)) trivial rfl ?_ | refine AK.val _ (Yl.idx sl23 rfl rfl (by first | exact .arg ‹_› | ((repeat (first | exact .hd | apply RdS.tl)); done) | assumption | exact .arg (hNi k (by omega))) (by decide) (by omega)) trivial rfl ?_ | refine AK.val _ (Yl.idxK sl23 rfl rfl (by first | exact .arg ‹_› | ((repeat (first | exact .hd | apply RdS.tl)); done) | assumption | exact .arg (hNi k (by omega))) (by decide) (by omega)) trivial rfl ?_
                  refine AK.val _ (Yl.loadV on26 rfl (by first | exact .arg ‹_› | ((repeat (first | exact .hd | apply RdS.tl)); done) | assumption | exact .arg (hNi k (by omega))) (by omega)) trivial rfl ?_
                  refine AK.val _ (Yl.assign rfl) trivial rfl ?_
                  refine AK.nil ?_
                  refine AK.then_ (hK21 _ ?_)
                  refine AK.seq (fun _ hK22 => ?_)
                  refine AK.seq (fun _ hK23 => ?_)
                  refine AK.region ?_
                  refine AK.val _ (Yl.move rfl) trivial rfl ?_
                  refine AK.val _ (Yl.lenR sl26 rfl (by first | exact .arg ‹_› | ((repeat (first | exact .hd | apply RdS.tl)); done) | assumption | exact .arg (hNi k (by omega)))) trivial rfl ?_
                  refine AK.val _ (Yl.fieldAddr fd25_0 rfl) trivial rfl ?_
                  refine AK.val _ (Yl.loadBox on3 rfl (by first | ((repeat (first | exact .hd | apply BoxS.tl | apply MapS.tl)); done) | assumption | exact BoxS.arg (by assumption)) rfl) trivial rfl ?_
                  refine AK.val _ (Yl.neq rfl rfl) trivial rfl ?_
                  refine AK.nil ?_
                  refine AK.then_ (hK23 _ ?_)
                  refine AK.condNe rfl (fun hc4 => ?_) (fun hc4 => ?_)
                  · refine AK.seq (fun _ hK24 => ?_)
                    refine AK.region ?_
                    refine AK.val _ (Yl.assign rfl) trivial rfl ?_
                    refine AK.nil ?_
                    refine AK.then_ (hK24 _ ?_)
                    refine AK.ret ?_
                    refine AK.then_ret ?_
                    refine AK.block_ret ?_
                    refine AK.then_ret ?_
                    refine AK.then_ret ?_
                    refine AK.block_ret ?_
                    refine AK.then_ret ?_
                    refine AK.ret1 rfl rfl (fun w hw => ⟨_, _, ?_, rfl, Ret.of (hw.pick [] (by decide) rfl rfl)⟩)
                    refine ⟨congrArg (Value.int .i64) ?_, rfl⟩; unfold errV; rw [if_neg (by omega), if_neg (by omega), if_neg (by omega), if_pos (any_at _ [] (by omega : k < d.nx.length) ?_)]
                    unfold badRow; rw [Bool.or_eq_true]; exact .inl (decide_eq_true (by omega))
                  · refine AK.skip ?_
                    refine AK.then_ (hK22 _ ?_)
                    refine AK.seq (fun _ hK25 => ?_)
                    refine AK.region ?_
                    refine AK.val _ (Yl.move rfl) trivial rfl ?_
                    refine AK.val _ (Yl.lenR sl26 rfl (by first | exact .arg ‹_› | ((repeat (first | exact .hd | apply RdS.tl)); done) | assumption | exact .arg (hNi k (by omega)))) trivial rfl ?_
                    refine AK.val _ (Yl.move rfl) trivial rfl ?_
                    refine AK.nil ?_
                    refine AK.then_ (hK25 _ ?_)
                    refine AK.block ?_
                    refine AK.loopS (X := Nat) [1, 3, 38, 39, 40, 49, 50] (fun j => [(51, .int .i64 (j : Int))]) (fun j => [box bx1 25 4 [.int .i64 d.L, .int .i64 d.s, vF, vN]]) (fun j => j ≤ (d.nx.getD k []).length ∧ ((d.nx.getD k []).take j).any (badQ d.fin.length) = false) (fun j => (d.nx.getD k []).length - j) (0) ?_ ?_ ?_ ?_
                    · exact ⟨Nat.zero_le _, rfl⟩
                    · exact .cons (rfl) (.nil)
                    · exact fun w hw => hw
                    · intro j hg1 _ hK26
                      obtain ⟨hj, hg2⟩ := hg1
                      refine AK.seq (fun _ hK27 => ?_)
                      refine AK.region ?_
                      refine AK.val _ (Yl.lss rfl rfl) trivial rfl ?_
                      refine AK.nil ?_
                      refine AK.then_ (hK27 _ ?_)
                      refine AK.seq (fun _ hK28 => ?_)
                      refine AK.condD rfl (fun hc5 => ?_) (fun hc5 => ?_)
                      · refine AK.skip ?_
                        refine AK.then_ (hK28 _ ?_)
                        refine AK.seq (fun _ hK29 => ?_)
                        refine AK.block ?_
                        refine AK.seq (fun _ hK30 => ?_)
                        refine AK.region ?_
                        first | refine AK.val _ (Yl.idxN sl26 rfl rfl (by first | exact .arg ‹_› | ((repeat (first | exact .hd | apply RdS.tl)); done) | assumption | exact .arg (hNi k (by omega))) (by decide) (by omega)) trivial rfl ?_ | refine AK.val _ (Yl.idx sl26 rfl rfl (by first | exact .arg ‹_› | ((repeat (first | exact .hd | apply RdS.tl)); done) | assumption | exact .arg (hNi k (by omega))) (by decide) (by omega)) trivial rfl ?_ | refine AK.val _ (Yl.idxK sl26 rfl rfl (by first | exact .arg ‹_› | ((repeat (first | exact .hd | apply RdS.tl)); done) | assumption | exact .arg (hNi k (by omega))) (by decide) (by omega)) trivial rfl ?_
                        refine AK.val _ (Yl.loadI on3 rfl (by first | exact .arg ‹_› | ((repeat (first | exact .hd | apply RdS.tl)); done) | assumption | exact .arg (hNi k (by omega))) (by omega)) trivial rfl ?_
                        refine AK.val _ (Yl.assign rfl) trivial rfl ?_
                        refine AK.nil ?_
                        refine AK.then_ (hK30 _ ?_)
                        refine AK.seq (fun _ hK31 => ?_)
                        refine AK.region ?_
                        refine AK.val _ (Yl.move rfl) trivial rfl ?_
                        refine AK.val _ (Yl.lss rfl rfl) trivial rfl ?_
                        refine AK.val _ (Yl.move rfl) trivial rfl ?_
                        refine AK.splitB (g := 57) rfl (fun hg_16_2 => ?_) (fun hg_16_2 => ?_)
                        · have hg_16_2' := hg_16_2
                          try simp only [decide_eq_true_eq, decide_eq_false_iff_not, Bool.not_eq_true', Bool.not_eq_false', Bool.not_not, ne_eq, Decidable.not_not, Int.not_lt, Int.not_le, beq_iff_eq, bne_iff_ne, Bool.and_eq_true, Bool.or_eq_true, Bool.or_eq_false_iff, Bool.not_false, Bool.not_true, reduceCtorEq, not_true_eq_false, not_false_eq_true] at hg_16_2'
                          refine AK.pass rfl rfl (hg_16_2) rfl ?_
                          refine AK.pass rfl rfl (hg_16_2) rfl ?_
                          refine AK.pass rfl rfl (hg_16_2) rfl ?_
                          refine AK.val _ (Yl.pickT rfl (hg_16_2) rfl) trivial rfl ?_
                          refine AK.nil ?_
                          refine AK.then_ (hK31 _ ?_)
                          refine AK.cond_t rfl (rfl) ?_
                          refine AK.seq (fun _ hK32 => ?_)
                          refine AK.region ?_
                          refine AK.val _ (Yl.assign rfl) trivial rfl ?_
                          refine AK.nil ?_
                          refine AK.then_ (hK32 _ ?_)
                          refine AK.ret ?_
                          refine AK.block_ret ?_
                          refine AK.then_ret ?_
                          refine AK.then_ret ?_
                          refine AK.block_ret ?_
                          refine AK.block_ret ?_
                          refine AK.then_ret ?_
                          refine AK.then_ret ?_
                          refine AK.block_ret ?_
                          refine AK.then_ret ?_
                          refine AK.ret1 rfl rfl (fun w hw => ⟨_, _, ?_, rfl, Ret.of (hw.pick [] (by decide) rfl rfl)⟩)
                          refine ⟨congrArg (Value.int .i64) ?_, rfl⟩; unfold errV; rw [if_neg (by omega), if_neg (by omega), if_neg (by omega), if_pos (any_at _ [] (by omega : k < d.nx.length) ?_)]
                          unfold badRow; rw [Bool.or_eq_true]; refine .inr (any_at _ 0 (by omega : j < (d.nx.getD k []).length) ?_); unfold badQ; rw [Bool.or_eq_true, decide_eq_true_eq, decide_eq_true_eq]; omega
                        · have hg_16_2' := hg_16_2
                          try simp only [decide_eq_true_eq, decide_eq_false_iff_not, Bool.not_eq_true', Bool.not_eq_false', Bool.not_not, ne_eq, Decidable.not_not, Int.not_lt, Int.not_le, beq_iff_eq, bne_iff_ne, Bool.and_eq_true, Bool.or_eq_true, Bool.or_eq_false_iff, Bool.not_false, Bool.not_true, reduceCtorEq, not_true_eq_false, not_false_eq_true] at hg_16_2'
                          refine AK.val _ (Yl.move rfl) ⟨_, rfl, congrArg (fun b => some (Value.bool b)) hg_16_2⟩ rfl ?_
                          refine AK.val _ (Yl.move rfl) ⟨_, rfl, congrArg (fun b => some (Value.bool b)) hg_16_2⟩ rfl ?_
                          refine AK.val _ (Yl.geq rfl rfl) ⟨_, rfl, congrArg (fun b => some (Value.bool b)) hg_16_2⟩ rfl ?_
                          refine AK.val _ (Yl.pickF rfl (hg_16_2) rfl) trivial rfl ?_
                          refine AK.nil ?_
                          refine AK.then_ (hK31 _ ?_)
                          refine AK.condD rfl (fun hc6 => ?_) (fun hc6 => ?_)
                          · refine AK.seq (fun _ hK33 => ?_)
                            refine AK.region ?_
                            refine AK.val _ (Yl.assign rfl) trivial rfl ?_
                            refine AK.nil ?_
                            refine AK.then_ (hK33 _ ?_)
                            refine AK.ret ?_
                            refine AK.block_ret ?_
                            refine AK.then_ret ?_
                            refine AK.then_ret ?_
                            refine AK.block_ret ?_
                            refine AK.block_ret ?_
                            refine AK.then_ret ?_
                            refine AK.then_ret ?_
                            refine AK.block_ret ?_
                            refine AK.then_ret ?_
                            refine AK.ret1 rfl rfl (fun w hw => ⟨_, _, ?_, rfl, Ret.of (hw.pick [] (by decide) rfl rfl)⟩)
                            refine ⟨congrArg (Value.int .i64) ?_, rfl⟩; unfold errV; rw [if_neg (by omega), if_neg (by omega), if_neg (by omega), if_pos (any_at _ [] (by omega : k < d.nx.length) ?_)]
                            unfold badRow; rw [Bool.or_eq_true]; refine .inr (any_at _ 0 (by omega : j < (d.nx.getD k []).length) ?_); unfold badQ; rw [Bool.or_eq_true, decide_eq_true_eq, decide_eq_true_eq]; omega
                          · refine AK.skip ?_
                            refine AK.block_normal ?_
                            refine AK.then_ (hK29 _ ?_)
                            refine AK.region ?_
                            refine AK.val _ (Yl.add rfl rfl (by omega)) trivial rfl ?_
                            refine AK.val _ (Yl.move rfl) trivial rfl ?_
                            refine AK.nil ?_
                            refine AK.then_ (hK26 _ _ (j + 1) ⟨by omega, any_take_succ _ 0 (by omega) hg2 (by unfold badQ; rw [Bool.or_eq_false_iff, decide_eq_false_iff_not, decide_eq_false_iff_not]; omega)⟩ (by omega) (.cons (rfl) (.cons rfl (.cons rfl (.cons rfl (.cons rfl (.cons rfl (.cons rfl (.cons rfl (.nil))))))))) (fun w hw => hw))
                      · refine AK.exit ?_
                        refine AK.then_exit ?_
                        refine AK.then_exit ?_
                        refine AK.block_exit ?_
                        refine AK.block_normal ?_
                        refine AK.then_ (hK20 _ ?_)
                        refine AK.region ?_
                        refine AK.val _ (Yl.add rfl rfl (by omega)) trivial rfl ?_
                        refine AK.val _ (Yl.move rfl) trivial rfl ?_
                        refine AK.nil ?_
                        refine AK.then_ (hK17 _ _ (k + 1) ⟨by omega, any_take_succ _ [] (by omega) hg1 (by unfold badRow; rw [show j = (d.nx.getD k []).length by omega, List.take_length] at hg2; rw [hg2, Bool.or_false]; exact decide_eq_false (by omega))⟩ (by omega) (.cons (rfl) (.cons rfl (.cons rfl (.cons rfl (.cons rfl (.nil)))))) (fun w hw => hw))
                · refine AK.exit ?_
                  refine AK.then_exit ?_
                  refine AK.then_exit ?_
                  refine AK.block_exit ?_
                  refine AK.then_ (hK15 _ ?_)
                  refine AK.seq (fun _ hK34 => ?_)
                  refine AK.region ?_
                  refine AK.val _ (Yl.assign rfl) trivial rfl ?_
                  refine AK.nil ?_
                  refine AK.then_ (hK34 _ ?_)
                  refine AK.ret ?_
                  refine AK.ret1 rfl rfl (fun w hw => ⟨_, _, ?_, rfl, Ret.of (hw.pick [] (by decide) rfl rfl)⟩)
                  refine ⟨congrArg (Value.int .i64) ?_, rfl⟩; unfold errV; rw [if_neg (by omega), if_neg (by omega), if_neg (by omega), if_neg]; rw [show k = d.nx.length by omega, List.take_length] at hg1; rw [hg1]; exact Bool.false_ne_true

end Go.Proofs.Ytoikhoniogicdaa
