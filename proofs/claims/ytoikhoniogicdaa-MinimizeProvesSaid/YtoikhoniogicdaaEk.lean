import Derived.Test.YtoikhoniogicdaaD2
import Derived.Test.YtoikhoniogicdaaMj
import Derived.Test.YtoikhoniogicdaaSm
import Derived.Test.YtoikhoniogicdaaE1
import Derived.Test.YtoikhoniogicdaaE5
import Derived.Test.YtoikhoniogicdaaEf
import Derived.Test.YtoikhoniogicdaaD8
import Derived.Test.YtoikhoniogicdaaOd
set_option linter.unusedVariables false
set_option linter.unusedSimpArgs false
namespace Go.Proofs.Ytoikhoniogicdaa
open Go.Sx Go.RowKit
set_option maxHeartbeats 1000000 in
set_option maxRecDepth 100000 in
theorem s_checkmap (w : World) (v : Value) (d : Dfa) (h : RdD (fun _ => False) w v d) (vm : Value) (m : Dfa) (k : RdD (fun _ => False) w vm m) (hv : VD d) (hvm : VD m) (hLL : d.L = m.L) (vp : Value) (mp : List Int) (hp : RdL (fun _ => False) (Value.int .i64) w vp mp) : CallS Try.prog 46 [v, vm, vp] w (fun r o => ∃ b, r = .bool b ∧ (b = true ↔ MapOK d m mp) ∧ o = []) := by
  have h0 := h
  obtain ⟨vF, vN, rfl, hF, hN⟩ := h
  have hF0 := hF
  have hN0 := hN
  obtain ⟨rs, hrl, hNr, hNi⟩ := hN
  have sF := hF.sl
  have sN := hNr.sl
  have hmf := hF.le
  have hmn := hNr.le
  unfold RdL at hF
  have k0 := k
  obtain ⟨uF, uN, rfl, gF, gN⟩ := k
  have gF0 := gF
  have gN0 := gN
  obtain ⟨ss, gsl, gNr, gNi⟩ := gN
  have tF := gF.sl
  have tN := gNr.sl
  have gmf := gF.le
  have gmn := gNr.le
  unfold RdL at gF
  have hdL := hv.L
  have hdnx := hv.nx
  have hdn := hv.n
  have hds := hv.s
  have hmL := hvm.L
  have hmnx := hvm.nx
  have hmn5 := hvm.n
  have hms := hvm.s
  have hpl := hp.le
  unfold RdL at hp
  refine spec_of Try.func46 rfl (Nat.le_of_ble_eq_true rfl) ?_
  refine AK.seq (fun _ hK1 => ?_)
  refine AK.region ?_
  refine AK.box_ (E := 25) (cs := [.int .i64 d.L, .int .i64 d.s, vF, vN]) rfl rfl rfl trivial rfl (fun bx3 => ?_)
  refine AK.box_ (E := 25) (cs := [.int .i64 m.L, .int .i64 m.s, uF, uN]) rfl rfl rfl trivial rfl (fun bx4 => ?_)
  refine AK.val _ (Yl.assign rfl) trivial rfl ?_
  refine AK.nil ?_
  refine AK.then_ (hK1 _ ?_)
  refine AK.seq (fun _ hK2 => ?_)
  refine AK.seq (fun _ hK3 => ?_)
  refine AK.quiet mixed (by kernel_rfl) ?_
  refine QK.val _ (Yl.move rfl) trivial rfl ?_
  refine QK.val _ (Yl.lenR sl26 rfl (by first | exact .arg ‹_› | ((repeat (first | exact .hd | apply RdS.tl)); done) | assumption | exact .arg (hNi _ (by omega)) | exact .arg (gNi _ (by omega)))) trivial rfl ?_
  refine QK.val _ (Yl.fieldAddr fd25_2 rfl) trivial rfl ?_
  refine QK.val _ (Yl.loadBox on22 rfl (by first | ((repeat (first | exact .hd | apply BoxS.tl | apply MapS.tl)); done) | assumption | exact BoxS.arg (by assumption)) rfl) trivial rfl ?_
  refine QK.val _ (Yl.lenR sl22 rfl (by first | exact .arg ‹_› | ((repeat (first | exact .hd | apply RdS.tl)); done) | assumption | exact .arg (hNi _ (by omega)) | exact .arg (gNi _ (by omega)))) trivial rfl ?_
  refine QK.val _ (Yl.neq rfl rfl) trivial rfl ?_
  refine QK.val _ (Yl.move rfl) trivial rfl ?_
  refine QK.splitB (g := 19) rfl (fun hg_1_6 => ?_) (fun hg_1_6 => ?_)
  · have hg_1_6' := hg_1_6
    try simp only [decide_eq_true_eq, decide_eq_false_iff_not, Bool.not_eq_true', Bool.not_eq_false', Bool.not_not, ne_eq, Decidable.not_not, Int.not_lt, Int.not_le, beq_iff_eq, bne_iff_ne, Bool.and_eq_true, Bool.or_eq_true, Bool.or_eq_false_iff, Bool.not_false, Bool.not_true, reduceCtorEq, not_true_eq_false, not_false_eq_true] at hg_1_6'
    refine QK.pass rfl rfl (hg_1_6) rfl ?_
    refine QK.pass rfl rfl (hg_1_6) rfl ?_
    refine QK.pass rfl rfl (hg_1_6) rfl ?_
    refine QK.pass rfl rfl (hg_1_6) rfl ?_
    refine QK.pass rfl rfl (hg_1_6) rfl ?_
    refine QK.pass rfl rfl (hg_1_6) rfl ?_
    refine QK.pass rfl rfl (hg_1_6) rfl ?_
    refine QK.pass rfl rfl (hg_1_6) rfl ?_
    refine QK.val _ (Yl.pickT rfl (hg_1_6) rfl) trivial rfl ?_
    refine QK.nil (QK.fin ?_)
    refine AK.then_ (hK3 _ ?_)
    refine AK.cond_t rfl (rfl) ?_
    refine AK.seq (fun _ hK4 => ?_)
    refine AK.region ?_
    refine AK.val _ (Yl.assign rfl) trivial rfl ?_
    refine AK.nil ?_
    refine AK.then_ (hK4 _ ?_)
    refine AK.ret ?_
    refine AK.then_ret ?_
    refine AK.ret1 rfl rfl (fun w hw => ⟨_, _, ?_, rfl, Ret.of (hw.pick [] (by decide) rfl rfl)⟩)
    refine ⟨false, rfl, ⟨fun h => (by cases h), fun h => ?_⟩, rfl⟩
    exfalso
    have h1 := h.len
    have h2 := h.st
    first | omega | exact hc0 h2
  · have hg_1_6' := hg_1_6
    try simp only [decide_eq_true_eq, decide_eq_false_iff_not, Bool.not_eq_true', Bool.not_eq_false', Bool.not_not, ne_eq, Decidable.not_not, Int.not_lt, Int.not_le, beq_iff_eq, bne_iff_ne, Bool.and_eq_true, Bool.or_eq_true, Bool.or_eq_false_iff, Bool.not_false, Bool.not_true, reduceCtorEq, not_true_eq_false, not_false_eq_true] at hg_1_6'
    refine QK.val _ (Yl.move rfl) ⟨_, rfl, congrArg (fun b => some (Value.bool b)) hg_1_6⟩ rfl ?_
    refine QK.val _ (Yl.fieldAddr fd25_1 rfl) ⟨_, rfl, congrArg (fun b => some (Value.bool b)) hg_1_6⟩ rfl ?_
    refine QK.val _ (Yl.loadBox on3 rfl (by first | ((repeat (first | exact .hd | apply BoxS.tl | apply MapS.tl)); done) | assumption | exact BoxS.arg (by assumption)) rfl) ⟨_, rfl, congrArg (fun b => some (Value.bool b)) hg_1_6⟩ rfl ?_
    first | refine QK.val _ (Yl.idxN sl26 rfl rfl (by first | exact .arg ‹_› | ((repeat (first | exact .hd | apply RdS.tl)); done) | assumption | exact .arg (hNi _ (by omega)) | exact .arg (gNi _ (by omega))) (by decide) (by omega)) ⟨_, rfl, congrArg (fun b => some (Value.bool b)) hg_1_6⟩ rfl ?_ | refine QK.val _ (Yl.idx sl26 rfl rfl (by first | exact .arg ‹_› | ((repeat (first | exact .hd | apply RdS.tl)); done) | assumption | exact .arg (hNi _ (by omega)) | exact .arg (gNi _ (by omega))) (by decide) (by omega)) ⟨_, rfl, congrArg (fun b => some (Value.bool b)) hg_1_6⟩ rfl ?_ | refine QK.val _ (Yl.idxK sl26 rfl rfl (by first | exact .arg ‹_› | ((repeat (first | exact .hd | apply RdS.tl)); done) | assumption | exact .arg (hNi _ (by omega)) | exact .arg (gNi _ (by omega))) (by decide) (by omega)) ⟨_, rfl, congrArg (fun b => some (Value.bool b)) hg_1_6⟩ rfl ?_
    refine QK.val _ (Yl.loadI on3 rfl (by first | exact .arg ‹_› | ((repeat (first | exact .hd | apply RdS.tl)); done) | assumption | exact .arg (hNi _ (by omega)) | exact .arg (gNi _ (by omega))) (by omega)) ⟨_, rfl, congrArg (fun b => some (Value.bool b)) hg_1_6⟩ rfl ?_
    refine QK.val _ (Yl.fieldAddr fd25_1 rfl) ⟨_, rfl, congrArg (fun b => some (Value.bool b)) hg_1_6⟩ rfl ?_
    refine QK.val _ (Yl.loadBox on3 rfl (by first | ((repeat (first | exact .hd | apply BoxS.tl | apply MapS.tl)); done) | assumption | exact BoxS.arg (by assumption)) rfl) ⟨_, rfl, congrArg (fun b => some (Value.bool b)) hg_1_6⟩ rfl ?_
    refine QK.val _ (Yl.neq rfl rfl) ⟨_, rfl, congrArg (fun b => some (Value.bool b)) hg_1_6⟩ rfl ?_
    refine QK.val _ (Yl.pickF rfl (hg_1_6) rfl) trivial rfl ?_
    refine QK.nil (QK.fin ?_)
    refine AK.then_ (hK3 _ ?_)
    refine AK.condNe rfl (fun hc0 => ?_) (fun hc0 => ?_)
    · refine AK.seq (fun _ hK5 => ?_)
      refine AK.region ?_
      refine AK.val _ (Yl.assign rfl) trivial rfl ?_
      refine AK.nil ?_
      refine AK.then_ (hK5 _ ?_)
      refine AK.ret ?_
      refine AK.then_ret ?_
      refine AK.ret1 rfl rfl (fun w hw => ⟨_, _, ?_, rfl, Ret.of (hw.pick [] (by decide) rfl rfl)⟩)
      refine ⟨false, rfl, ⟨fun h => (by cases h), fun h => ?_⟩, rfl⟩
      exfalso
      have h1 := h.len
      have h2 := h.st
      first | omega | exact hc0 h2
    · have hml : mp.length = d.fin.length := by omega
      have hst0 : mp.getD d.s.toNat 0 = m.s := by first | exact hc0 | exact Classical.not_not.1 hc0
      refine AK.skip ?_
      refine AK.then_ (hK2 _ ?_)
      refine AK.seq (fun _ hK6 => ?_)
      refine AK.seq (fun _ hK7 => ?_)
      refine AK.region ?_
      refine AK.val _ (Yl.move rfl) trivial rfl ?_
      refine AK.val _ (Yl.lenR sl26 rfl (by first | exact .arg ‹_› | ((repeat (first | exact .hd | apply RdS.tl)); done) | assumption | exact .arg (hNi _ (by omega)) | exact .arg (gNi _ (by omega)))) trivial rfl ?_
      refine AK.val _ (Yl.move rfl) trivial rfl ?_
      refine AK.nil ?_
      refine AK.then_ (hK7 _ ?_)
      refine AK.block ?_
      refine AK.loopK (X := Nat) [(2, _), (3, _), (4, _), (29, _), (30, _)] (fun j => [(31, .int .i64 (j : Int))]) (fun j => [box bx3 25 4 [.int .i64 d.L, .int .i64 d.s, vF, vN], box bx4 25 4 [.int .i64 m.L, .int .i64 m.s, uF, uN]]) (fun j => j ≤ mp.length ∧ ∀ i, i < j → -1 ≤ mp.getD i 0 ∧ mp.getD i 0 < m.fin.length) (fun j => mp.length - j) (0) (.cons rfl (.cons rfl (.cons rfl (.cons rfl (.cons rfl (.nil)))))) ?_ ?_ ?_ ?_
      · exact ⟨Nat.zero_le _, fun i hi => (by cases hi)⟩
      · exact .cons (rfl) (.nil)
      · exact fun w hw => hw
      · intro j hg0 _ hK8
        refine AK.seq (fun _ hK9 => ?_)
        refine AK.region ?_
        refine AK.val _ (Yl.lss rfl rfl) trivial rfl ?_
        refine AK.nil ?_
        refine AK.then_ (hK9 _ ?_)
        refine AK.seq (fun _ hK10 => ?_)
        refine AK.condD rfl (fun hc1 => ?_) (fun hc1 => ?_)
        · refine AK.skip ?_
          refine AK.then_ (hK10 _ ?_)
          refine AK.seq (fun _ hK11 => ?_)
          refine AK.block ?_
          refine AK.seq (fun _ hK12 => ?_)
          refine AK.region ?_
          first | refine AK.val _ (Yl.idxN sl26 rfl rfl (by first | exact .arg ‹_› | ((repeat (first | exact .hd | apply RdS.tl)); done) | assumption | exact .arg (hNi _ (by omega)) | exact .arg (gNi _ (by omega))) (by decide) (by omega)) trivial rfl ?_ | refine AK.val _ (Yl.idx sl26 rfl rfl (by first | exact .arg ‹_› | ((repeat (first | exact .hd | apply RdS.tl)); done) | assumption | exact .arg (hNi _ (by omega)) | exact .arg (gNi _ (by omega))) (by decide) (by omega)) trivial rfl ?_ | refine AK.val _ (Yl.idxK sl26 rfl rfl (by first | exact .arg ‹_› | ((repeat (first | exact .hd | apply RdS.tl)); done) | assumption | exact .arg (hNi _ (by omega)) | exact .arg (gNi _ (by omega))) (by decide) (by omega)) trivial rfl ?_
          refine AK.val _ (Yl.loadI on3 rfl (by first | exact .arg ‹_› | ((repeat (first | exact .hd | apply RdS.tl)); done) | assumption | exact .arg (hNi _ (by omega)) | exact .arg (gNi _ (by omega))) (by omega)) trivial rfl ?_
          refine AK.val _ (Yl.assign rfl) trivial rfl ?_
          refine AK.nil ?_
          refine AK.then_ (hK12 _ ?_)
          refine AK.seq (fun _ hK13 => ?_)
          refine AK.region ?_
          refine AK.val _ (Yl.move rfl) trivial rfl ?_
          refine AK.val _ (Yl.lss rfl rfl) trivial rfl ?_
          refine AK.val _ (Yl.move rfl) trivial rfl ?_
          refine AK.splitB (g := 37) rfl (fun hg_6_2 => ?_) (fun hg_6_2 => ?_)
          · have hg_6_2' := hg_6_2
            try simp only [decide_eq_true_eq, decide_eq_false_iff_not, Bool.not_eq_true', Bool.not_eq_false', Bool.not_not, ne_eq, Decidable.not_not, Int.not_lt, Int.not_le, beq_iff_eq, bne_iff_ne, Bool.and_eq_true, Bool.or_eq_true, Bool.or_eq_false_iff, Bool.not_false, Bool.not_true, reduceCtorEq, not_true_eq_false, not_false_eq_true] at hg_6_2'
            refine AK.pass rfl rfl (hg_6_2) rfl ?_
            refine AK.pass rfl rfl (hg_6_2) rfl ?_
            refine AK.pass rfl rfl (hg_6_2) rfl ?_
            refine AK.pass rfl rfl (hg_6_2) rfl ?_
            refine AK.pass rfl rfl (hg_6_2) rfl ?_
            refine AK.val _ (Yl.pickT rfl (hg_6_2) rfl) trivial rfl ?_
            refine AK.nil ?_
            refine AK.then_ (hK13 _ ?_)
            refine AK.cond_t rfl (rfl) ?_
            refine AK.seq (fun _ hK14 => ?_)
            refine AK.region ?_
            refine AK.val _ (Yl.assign rfl) trivial rfl ?_
            refine AK.nil ?_
            refine AK.then_ (hK14 _ ?_)
            refine AK.ret ?_
            refine AK.block_ret ?_
            refine AK.then_ret ?_
            refine AK.then_ret ?_
            refine AK.block_ret ?_
            refine AK.then_ret ?_
            refine AK.ret1 rfl rfl (fun w hw => ⟨_, _, ?_, rfl, Ret.of (hw.pick [] (by decide) rfl rfl)⟩)
            refine ⟨false, rfl, ⟨fun h => (by cases h), fun h => ?_⟩, rfl⟩
            exfalso
            have h1 := h.bd j (by omega)
            omega
          · have hg_6_2' := hg_6_2
            try simp only [decide_eq_true_eq, decide_eq_false_iff_not, Bool.not_eq_true', Bool.not_eq_false', Bool.not_not, ne_eq, Decidable.not_not, Int.not_lt, Int.not_le, beq_iff_eq, bne_iff_ne, Bool.and_eq_true, Bool.or_eq_true, Bool.or_eq_false_iff, Bool.not_false, Bool.not_true, reduceCtorEq, not_true_eq_false, not_false_eq_true] at hg_6_2'
            refine AK.val _ (Yl.move rfl) ⟨_, rfl, congrArg (fun b => some (Value.bool b)) hg_6_2⟩ rfl ?_
            refine AK.val _ (Yl.fieldAddr fd25_2 rfl) ⟨_, rfl, congrArg (fun b => some (Value.bool b)) hg_6_2⟩ rfl ?_
            refine AK.val _ (Yl.loadBox on22 rfl (by first | ((repeat (first | exact .hd | apply BoxS.tl | apply MapS.tl)); done) | assumption | exact BoxS.arg (by assumption)) rfl) ⟨_, rfl, congrArg (fun b => some (Value.bool b)) hg_6_2⟩ rfl ?_
            refine AK.val _ (Yl.lenR sl22 rfl (by first | exact .arg ‹_› | ((repeat (first | exact .hd | apply RdS.tl)); done) | assumption | exact .arg (hNi _ (by omega)) | exact .arg (gNi _ (by omega)))) ⟨_, rfl, congrArg (fun b => some (Value.bool b)) hg_6_2⟩ rfl ?_
            refine AK.val _ (Yl.geq rfl rfl) ⟨_, rfl, congrArg (fun b => some (Value.bool b)) hg_6_2⟩ rfl ?_
            refine AK.val _ (Yl.pickF rfl (hg_6_2) rfl) trivial rfl ?_
            refine AK.nil ?_
            refine AK.then_ (hK13 _ ?_)
            refine AK.condD rfl (fun hc2 => ?_) (fun hc2 => ?_)
            · refine AK.seq (fun _ hK15 => ?_)
              refine AK.region ?_
              refine AK.val _ (Yl.assign rfl) trivial rfl ?_
              refine AK.nil ?_
              refine AK.then_ (hK15 _ ?_)
              refine AK.ret ?_
              refine AK.block_ret ?_
              refine AK.then_ret ?_
              refine AK.then_ret ?_
              refine AK.block_ret ?_
              refine AK.then_ret ?_
              refine AK.ret1 rfl rfl (fun w hw => ⟨_, _, ?_, rfl, Ret.of (hw.pick [] (by decide) rfl rfl)⟩)
              refine ⟨false, rfl, ⟨fun h => (by cases h), fun h => ?_⟩, rfl⟩
              exfalso
              have h1 := h.bd j (by omega)
              omega
            · refine AK.skip ?_
              refine AK.block_normal ?_
              refine AK.then_ (hK11 _ ?_)
              refine AK.region ?_
              refine AK.val _ (Yl.add rfl rfl (by omega)) trivial rfl ?_
              refine AK.val _ (Yl.move rfl) trivial rfl ?_
              refine AK.nil ?_
              refine AK.then_ (hK8 _ _ (j + 1) ⟨by omega, all_succ hg0.2 (by omega)⟩ (by omega) (.cons (rfl) (.cons rfl (.cons rfl (.cons rfl (.cons rfl (.cons rfl (.nil))))))) (fun w hw => hw))
        · have hbd : ∀ i, i < mp.length → -1 ≤ mp.getD i 0 ∧ mp.getD i 0 < m.fin.length := fun i hi => hg0.2 i (by omega)
          refine AK.exit ?_
          refine AK.then_exit ?_
          refine AK.then_exit ?_
          refine AK.block_exit ?_
          refine AK.then_ (hK6 _ ?_)
          refine AK.seq (fun _ hK16 => ?_)
          refine AK.seq (fun _ hK17 => ?_)
          refine AK.region ?_
          refine AK.val _ (Yl.move rfl) trivial rfl ?_
          refine AK.val _ (Yl.lenR sl26 rfl (by first | exact .arg ‹_› | ((repeat (first | exact .hd | apply RdS.tl)); done) | assumption | exact .arg (hNi _ (by omega)) | exact .arg (gNi _ (by omega)))) trivial rfl ?_
          refine AK.val _ (Yl.move rfl) trivial rfl ?_
          refine AK.nil ?_
          refine AK.then_ (hK17 _ ?_)
          refine AK.block ?_
          refine AK.loopK (X := Nat) [(2, _), (3, _), (4, _), (45, _), (46, _)] (fun q => [(47, .int .i64 (q : Int))]) (fun q => [box bx3 25 4 [.int .i64 d.L, .int .i64 d.s, vF, vN], box bx4 25 4 [.int .i64 m.L, .int .i64 m.s, uF, uN]]) (fun q => q ≤ mp.length ∧ ∀ i, i < q → HomAt d m mp i) (fun q => mp.length - q) (0) (.cons rfl (.cons rfl (.cons rfl (.cons rfl (.cons rfl (.nil)))))) ?_ ?_ ?_ ?_
          · exact ⟨Nat.zero_le _, fun i hi => (by cases hi)⟩
          · exact .cons (rfl) (.nil)
          · exact fun w hw => hw
          · intro q hg1 _ hK18
            refine AK.seq (fun _ hK19 => ?_)
            refine AK.region ?_
            refine AK.val _ (Yl.lss rfl rfl) trivial rfl ?_
            refine AK.nil ?_
            refine AK.then_ (hK19 _ ?_)
            refine AK.seq (fun _ hK20 => ?_)
            refine AK.condD rfl (fun hc3 => ?_) (fun hc3 => ?_)
            · have hqn : q < d.fin.length := by omega
              have hrw := hv.row q hqn
              have hbq := hbd q (by omega)
              refine AK.skip ?_
              refine AK.then_ (hK20 _ ?_)
              refine AK.seq (fun _ hK21 => ?_)
              refine AK.block ?_
              refine AK.seq (fun _ hK22 => ?_)
              refine AK.region ?_
              refine AK.val _ (Yl.move rfl) trivial rfl ?_
              first | refine AK.val _ (Yl.idxN sl26 rfl rfl (by first | exact .arg ‹_› | ((repeat (first | exact .hd | apply RdS.tl)); done) | assumption | exact .arg (hNi _ (by omega)) | exact .arg (gNi _ (by omega))) (by decide) (by omega)) trivial rfl ?_ | refine AK.val _ (Yl.idx sl26 rfl rfl (by first | exact .arg ‹_› | ((repeat (first | exact .hd | apply RdS.tl)); done) | assumption | exact .arg (hNi _ (by omega)) | exact .arg (gNi _ (by omega))) (by decide) (by omega)) trivial rfl ?_ | refine AK.val _ (Yl.idxK sl26 rfl rfl (by first | exact .arg ‹_› | ((repeat (first | exact .hd | apply RdS.tl)); done) | assumption | exact .arg (hNi _ (by omega)) | exact .arg (gNi _ (by omega))) (by decide) (by omega)) trivial rfl ?_
              refine AK.val _ (Yl.loadI on3 rfl (by first | exact .arg ‹_› | ((repeat (first | exact .hd | apply RdS.tl)); done) | assumption | exact .arg (hNi _ (by omega)) | exact .arg (gNi _ (by omega))) (by omega)) trivial rfl ?_
              refine AK.val _ (Yl.assign rfl) trivial rfl ?_
              refine AK.val _ (Yl.assign rfl) trivial rfl ?_
              refine AK.nil ?_
              refine AK.then_ (hK22 _ ?_)
              refine AK.seq (fun _ hK23 => ?_)
              refine AK.seq (fun _ hK24 => ?_)
              refine AK.region ?_
              refine AK.val _ (Yl.move rfl) trivial rfl ?_
              refine AK.val _ (Yl.lss rfl rfl) trivial rfl ?_
              refine AK.nil ?_
              refine AK.then_ (hK24 _ ?_)
              refine AK.condD rfl (fun hc4 => ?_) (fun hc4 => ?_)
              · refine AK.exit ?_
                refine AK.then_exit ?_
                refine AK.block_exit ?_
                refine AK.then_ (hK21 _ ?_)
                refine AK.region ?_
                refine AK.val _ (Yl.add rfl rfl (by omega)) trivial rfl ?_
                refine AK.val _ (Yl.move rfl) trivial rfl ?_
                refine AK.nil ?_
                first | refine AK.then_ (hK18 _ _ (q + 1) ⟨by omega, all_succ hg1.2 (fun h0 => by omega)⟩ (by omega) (.cons (rfl) (.cons rfl (.cons rfl (.cons rfl (.cons rfl (.cons rfl (.nil))))))) (fun w hw => hw)) | refine AK.then_ (hK18 _ _ (q + 1) ⟨by omega, all_succ hg1.2 (fun _ => ⟨hfe, fun x hx => hg2.2 x (by omega)⟩)⟩ (by omega) (.cons (rfl) (.cons rfl (.cons rfl (.cons rfl (.cons rfl (.cons rfl (.nil))))))) (fun w hw => hw))
              · refine AK.skip ?_
                refine AK.then_ (hK23 _ ?_)
                refine AK.seq (fun _ hK25 => ?_)
                refine AK.seq (fun _ hK26 => ?_)
                refine AK.quiet mixed (by kernel_rfl) ?_
                refine QK.val _ (Yl.fieldAddr fd25_2 rfl) trivial rfl ?_
                refine QK.val _ (Yl.loadBox on22 rfl (by first | ((repeat (first | exact .hd | apply BoxS.tl | apply MapS.tl)); done) | assumption | exact BoxS.arg (by assumption)) rfl) trivial rfl ?_
                refine QK.val _ (Yl.move rfl) trivial rfl ?_
                first | refine QK.val _ (Yl.idxN sl22 rfl rfl (by first | exact .arg ‹_› | ((repeat (first | exact .hd | apply RdS.tl)); done) | assumption | exact .arg (hNi _ (by omega)) | exact .arg (gNi _ (by omega))) (by decide) (by omega)) trivial rfl ?_ | refine QK.val _ (Yl.idx sl22 rfl rfl (by first | exact .arg ‹_› | ((repeat (first | exact .hd | apply RdS.tl)); done) | assumption | exact .arg (hNi _ (by omega)) | exact .arg (gNi _ (by omega))) (by decide) (by omega)) trivial rfl ?_ | refine QK.val _ (Yl.idxK sl22 rfl rfl (by first | exact .arg ‹_› | ((repeat (first | exact .hd | apply RdS.tl)); done) | assumption | exact .arg (hNi _ (by omega)) | exact .arg (gNi _ (by omega))) (by decide) (by omega)) trivial rfl ?_
                refine QK.val _ (Yl.loadB on4 rfl (by first | exact .arg ‹_› | ((repeat (first | exact .hd | apply RdS.tl)); done) | assumption | exact .arg (hNi _ (by omega)) | exact .arg (gNi _ (by omega))) (by omega)) trivial rfl ?_
                refine QK.val _ (Yl.fieldAddr fd25_2 rfl) trivial rfl ?_
                refine QK.val _ (Yl.loadBox on22 rfl (by first | ((repeat (first | exact .hd | apply BoxS.tl | apply MapS.tl)); done) | assumption | exact BoxS.arg (by assumption)) rfl) trivial rfl ?_
                refine QK.val _ (Yl.move rfl) trivial rfl ?_
                first | refine QK.val _ (Yl.idxN sl22 rfl rfl (by first | exact .arg ‹_› | ((repeat (first | exact .hd | apply RdS.tl)); done) | assumption | exact .arg (hNi _ (by omega)) | exact .arg (gNi _ (by omega))) (by decide) (by omega)) trivial rfl ?_ | refine QK.val _ (Yl.idx sl22 rfl rfl (by first | exact .arg ‹_› | ((repeat (first | exact .hd | apply RdS.tl)); done) | assumption | exact .arg (hNi _ (by omega)) | exact .arg (gNi _ (by omega))) (by decide) (by omega)) trivial rfl ?_ | refine QK.val _ (Yl.idxK sl22 rfl rfl (by first | exact .arg ‹_› | ((repeat (first | exact .hd | apply RdS.tl)); done) | assumption | exact .arg (hNi _ (by omega)) | exact .arg (gNi _ (by omega))) (by decide) (by omega)) trivial rfl ?_
                refine QK.val _ (Yl.loadB on4 rfl (by first | exact .arg ‹_› | ((repeat (first | exact .hd | apply RdS.tl)); done) | assumption | exact .arg (hNi _ (by omega)) | exact .arg (gNi _ (by omega))) (by omega)) trivial rfl ?_
                refine QK.val _ (Yl.neqB bo4 rfl rfl) trivial rfl ?_
                refine QK.nil (QK.fin ?_)
                refine AK.then_ (hK26 _ ?_)
                refine AK.cond rfl (fun hc5 => ?_) (fun hc5 => ?_)
                · try simp only [decide_eq_true_eq, decide_eq_false_iff_not, Bool.not_eq_true', Bool.not_eq_false', Bool.not_not, ne_eq, Decidable.not_not, Int.not_lt, Int.not_le, beq_iff_eq, bne_iff_ne, Bool.and_eq_true, Bool.or_eq_true, Bool.or_eq_false_iff, Bool.not_false, Bool.not_true, reduceCtorEq, not_true_eq_false, not_false_eq_true] at hc5
                  refine AK.seq (fun _ hK27 => ?_)
                  refine AK.region ?_
                  refine AK.val _ (Yl.assign rfl) trivial rfl ?_
                  refine AK.nil ?_
                  refine AK.then_ (hK27 _ ?_)
                  refine AK.ret ?_
                  refine AK.then_ret ?_
                  refine AK.block_ret ?_
                  refine AK.then_ret ?_
                  refine AK.then_ret ?_
                  refine AK.block_ret ?_
                  refine AK.then_ret ?_
                  refine AK.ret1 rfl rfl (fun w hw => ⟨_, _, ?_, rfl, Ret.of (hw.pick [] (by decide) rfl rfl)⟩)
                  refine ⟨false, rfl, ⟨fun h => (by cases h), fun h => ?_⟩, rfl⟩
                  exfalso
                  have h1 := (h.at hqn (by omega)).1
                  unfold finQ at h1
                  rw [Int.toNat_natCast] at h1
                  first | (simp [h1] at hc5; done) | (rw [h1] at hc5; simp at hc5)
                · try simp only [decide_eq_true_eq, decide_eq_false_iff_not, Bool.not_eq_true', Bool.not_eq_false', Bool.not_not, ne_eq, Decidable.not_not, Int.not_lt, Int.not_le, beq_iff_eq, bne_iff_ne, Bool.and_eq_true, Bool.or_eq_true, Bool.or_eq_false_iff, Bool.not_false, Bool.not_true, reduceCtorEq, not_true_eq_false, not_false_eq_true] at hc5
                  have hfe : finQ d (q : Int) = finQ m (mp.getD q 0) := by unfold finQ; rw [Int.toNat_natCast]; simpa using hc5
                  have hrm := hvm.row (mp.getD q 0).toNat (by omega)
                  refine AK.skip ?_
                  refine AK.then_ (hK25 _ ?_)
                  refine AK.seq (fun _ hK28 => ?_)
                  refine AK.region ?_
                  refine AK.val _ (Yl.fieldAddr fd25_3 rfl) trivial rfl ?_
                  refine AK.val _ (Yl.loadBox on23 rfl (by first | ((repeat (first | exact .hd | apply BoxS.tl | apply MapS.tl)); done) | assumption | exact BoxS.arg (by assumption)) rfl) trivial rfl ?_
                  refine AK.val _ (Yl.move rfl) trivial rfl ?_
                  first | refine AK.val _ (Yl.idxN sl23 rfl rfl (by first | exact .arg ‹_› | ((repeat (first | exact .hd | apply RdS.tl)); done) | assumption | exact .arg (hNi _ (by omega)) | exact .arg (gNi _ (by omega))) (by decide) (by omega)) trivial rfl ?_ | refine AK.val _ (Yl.idx sl23 rfl rfl (by first | exact .arg ‹_› | ((repeat (first | exact .hd | apply RdS.tl)); done) | assumption | exact .arg (hNi _ (by omega)) | exact .arg (gNi _ (by omega))) (by decide) (by omega)) trivial rfl ?_ | refine AK.val _ (Yl.idxK sl23 rfl rfl (by first | exact .arg ‹_› | ((repeat (first | exact .hd | apply RdS.tl)); done) | assumption | exact .arg (hNi _ (by omega)) | exact .arg (gNi _ (by omega))) (by decide) (by omega)) trivial rfl ?_
                  refine AK.val _ (Yl.loadV on26 rfl (by first | exact .arg ‹_› | ((repeat (first | exact .hd | apply RdS.tl)); done) | assumption | exact .arg (hNi _ (by omega)) | exact .arg (gNi _ (by omega))) (by omega)) trivial rfl ?_
                  refine AK.val _ (Yl.lenR sl26 rfl (by first | exact .arg ‹_› | ((repeat (first | exact .hd | apply RdS.tl)); done) | assumption | exact .arg (hNi _ (by omega)) | exact .arg (gNi _ (by omega)))) trivial rfl ?_
                  refine AK.val _ (Yl.move rfl) trivial rfl ?_
                  refine AK.nil ?_
                  refine AK.then_ (hK28 _ ?_)
                  refine AK.block ?_
                  refine AK.loopK (X := Nat) [(2, _), (3, _), (4, _), (10, _), (45, _), (46, _), (47, _), (69, _), (70, _)] (fun x => [(71, .int .i64 (x : Int))]) (fun x => [box bx3 25 4 [.int .i64 d.L, .int .i64 d.s, vF, vN], box bx4 25 4 [.int .i64 m.L, .int .i64 m.s, uF, uN]]) (fun x => x ≤ (d.nx.getD q []).length ∧ ∀ y, y < x → StepAt d m mp q y) (fun x => (d.nx.getD q []).length - x) (0) (.cons rfl (.cons rfl (.cons rfl (.cons rfl (.cons rfl (.cons rfl (.cons rfl (.cons rfl (.cons rfl (.nil)))))))))) ?_ ?_ ?_ ?_
                  · exact ⟨Nat.zero_le _, fun i hi => (by cases hi)⟩
                  · exact .cons (rfl) (.nil)
                  · exact fun w hw => hw
                  · intro x hg2 _ hK29
                    refine AK.seq (fun _ hK30 => ?_)
                    refine AK.region ?_
                    refine AK.val _ (Yl.lss rfl rfl) trivial rfl ?_
                    refine AK.nil ?_
                    refine AK.then_ (hK30 _ ?_)
                    refine AK.seq (fun _ hK31 => ?_)
                    refine AK.condD rfl (fun hc6 => ?_) (fun hc6 => ?_)
                    · have hto := hv.to q x hqn (by omega)
                      refine AK.skip ?_
                      refine AK.then_ (hK31 _ ?_)
                      refine AK.seq (fun _ hK32 => ?_)
                      refine AK.block ?_
                      refine AK.seq (fun _ hK33 => ?_)
                      refine AK.region ?_
                      refine AK.val _ (Yl.move rfl) trivial rfl ?_
                      first | refine AK.val _ (Yl.idxN sl26 rfl rfl (by first | exact .arg ‹_› | ((repeat (first | exact .hd | apply RdS.tl)); done) | assumption | exact .arg (hNi _ (by omega)) | exact .arg (gNi _ (by omega))) (by decide) (by omega)) trivial rfl ?_ | refine AK.val _ (Yl.idx sl26 rfl rfl (by first | exact .arg ‹_› | ((repeat (first | exact .hd | apply RdS.tl)); done) | assumption | exact .arg (hNi _ (by omega)) | exact .arg (gNi _ (by omega))) (by decide) (by omega)) trivial rfl ?_ | refine AK.val _ (Yl.idxK sl26 rfl rfl (by first | exact .arg ‹_› | ((repeat (first | exact .hd | apply RdS.tl)); done) | assumption | exact .arg (hNi _ (by omega)) | exact .arg (gNi _ (by omega))) (by decide) (by omega)) trivial rfl ?_
                      refine AK.val _ (Yl.loadI on3 rfl (by first | exact .arg ‹_› | ((repeat (first | exact .hd | apply RdS.tl)); done) | assumption | exact .arg (hNi _ (by omega)) | exact .arg (gNi _ (by omega))) (by omega)) trivial rfl ?_
                      refine AK.val _ (Yl.assign rfl) trivial rfl ?_
                      refine AK.val _ (Yl.assign rfl) trivial rfl ?_
                      refine AK.nil ?_
                      refine AK.then_ (hK33 _ ?_)
                      refine AK.seq (fun _ hK34 => ?_)
                      refine AK.quiet mixed (by kernel_rfl) ?_
                      refine QK.val _ (Yl.move rfl) trivial rfl ?_
                      refine QK.val _ (Yl.move rfl) trivial rfl ?_
                      first | refine QK.val _ (Yl.idxN sl26 rfl rfl (by first | exact .arg ‹_› | ((repeat (first | exact .hd | apply RdS.tl)); done) | assumption | exact .arg (hNi _ (by omega)) | exact .arg (gNi _ (by omega))) (by decide) (by omega)) trivial rfl ?_ | refine QK.val _ (Yl.idx sl26 rfl rfl (by first | exact .arg ‹_› | ((repeat (first | exact .hd | apply RdS.tl)); done) | assumption | exact .arg (hNi _ (by omega)) | exact .arg (gNi _ (by omega))) (by decide) (by omega)) trivial rfl ?_ | refine QK.val _ (Yl.idxK sl26 rfl rfl (by first | exact .arg ‹_› | ((repeat (first | exact .hd | apply RdS.tl)); done) | assumption | exact .arg (hNi _ (by omega)) | exact .arg (gNi _ (by omega))) (by decide) (by omega)) trivial rfl ?_
                      refine QK.val _ (Yl.loadI on3 rfl (by first | exact .arg ‹_› | ((repeat (first | exact .hd | apply RdS.tl)); done) | assumption | exact .arg (hNi _ (by omega)) | exact .arg (gNi _ (by omega))) (by omega)) trivial rfl ?_
                      refine QK.val _ (Yl.fieldAddr fd25_3 rfl) trivial rfl ?_
                      refine QK.val _ (Yl.loadBox on23 rfl (by first | ((repeat (first | exact .hd | apply BoxS.tl | apply MapS.tl)); done) | assumption | exact BoxS.arg (by assumption)) rfl) trivial rfl ?_
                      refine QK.val _ (Yl.move rfl) trivial rfl ?_
                      first | refine QK.val _ (Yl.idxN sl23 rfl rfl (by first | exact .arg ‹_› | ((repeat (first | exact .hd | apply RdS.tl)); done) | assumption | exact .arg (hNi _ (by omega)) | exact .arg (gNi _ (by omega))) (by decide) (by omega)) trivial rfl ?_ | refine QK.val _ (Yl.idx sl23 rfl rfl (by first | exact .arg ‹_› | ((repeat (first | exact .hd | apply RdS.tl)); done) | assumption | exact .arg (hNi _ (by omega)) | exact .arg (gNi _ (by omega))) (by decide) (by omega)) trivial rfl ?_ | refine QK.val _ (Yl.idxK sl23 rfl rfl (by first | exact .arg ‹_› | ((repeat (first | exact .hd | apply RdS.tl)); done) | assumption | exact .arg (hNi _ (by omega)) | exact .arg (gNi _ (by omega))) (by decide) (by omega)) trivial rfl ?_
                      refine QK.val _ (Yl.loadV on26 rfl (by first | exact .arg ‹_› | ((repeat (first | exact .hd | apply RdS.tl)); done) | assumption | exact .arg (hNi _ (by omega)) | exact .arg (gNi _ (by omega))) (by omega)) trivial rfl ?_
                      refine QK.val _ (Yl.move rfl) trivial rfl ?_
                      first | refine QK.val _ (Yl.idxN sl26 rfl rfl (by first | exact .arg ‹_› | ((repeat (first | exact .hd | apply RdS.tl)); done) | assumption | exact .arg (hNi _ (by omega)) | exact .arg (gNi _ (by omega))) (by decide) (by omega)) trivial rfl ?_ | refine QK.val _ (Yl.idx sl26 rfl rfl (by first | exact .arg ‹_› | ((repeat (first | exact .hd | apply RdS.tl)); done) | assumption | exact .arg (hNi _ (by omega)) | exact .arg (gNi _ (by omega))) (by decide) (by omega)) trivial rfl ?_ | refine QK.val _ (Yl.idxK sl26 rfl rfl (by first | exact .arg ‹_› | ((repeat (first | exact .hd | apply RdS.tl)); done) | assumption | exact .arg (hNi _ (by omega)) | exact .arg (gNi _ (by omega))) (by decide) (by omega)) trivial rfl ?_
                      refine QK.val _ (Yl.loadI on3 rfl (by first | exact .arg ‹_› | ((repeat (first | exact .hd | apply RdS.tl)); done) | assumption | exact .arg (hNi _ (by omega)) | exact .arg (gNi _ (by omega))) (by omega)) trivial rfl ?_
                      refine QK.val _ (Yl.neq rfl rfl) trivial rfl ?_
                      refine QK.nil (QK.fin ?_)
                      refine AK.then_ (hK34 _ ?_)
                      refine AK.condNe rfl (fun hc7 => ?_) (fun hc7 => ?_)
                      · refine AK.seq (fun _ hK35 => ?_)
                        refine AK.region ?_
                        refine AK.val _ (Yl.assign rfl) trivial rfl ?_
                        refine AK.nil ?_
                        refine AK.then_ (hK35 _ ?_)
                        refine AK.ret ?_
                        refine AK.block_ret ?_
                        refine AK.then_ret ?_
                        refine AK.then_ret ?_
                        refine AK.block_ret ?_
                        refine AK.block_ret ?_
                        refine AK.then_ret ?_
                        refine AK.then_ret ?_
                        refine AK.block_ret ?_
                        refine AK.then_ret ?_
                        refine AK.ret1 rfl rfl (fun w hw => ⟨_, _, ?_, rfl, Ret.of (hw.pick [] (by decide) rfl rfl)⟩)
                        refine ⟨false, rfl, ⟨fun h => (by cases h), fun h => ?_⟩, rfl⟩
                        exfalso
                        exact hc7 ((h.at hqn (by omega)).2 x (by omega))
                      · have hst : StepAt d m mp q x := hc7
                        refine AK.skip ?_
                        refine AK.block_normal ?_
                        refine AK.then_ (hK32 _ ?_)
                        refine AK.region ?_
                        refine AK.val _ (Yl.add rfl rfl (by omega)) trivial rfl ?_
                        refine AK.val _ (Yl.move rfl) trivial rfl ?_
                        refine AK.nil ?_
                        refine AK.then_ (hK29 _ _ (x + 1) ⟨by omega, all_succ hg2.2 hst⟩ (by omega) (.cons (rfl) (.cons rfl (.cons rfl (.cons rfl (.cons rfl (.cons rfl (.cons rfl (.cons rfl (.cons rfl (.cons rfl (.nil))))))))))) (fun w hw => hw))
                    · refine AK.exit ?_
                      refine AK.then_exit ?_
                      refine AK.then_exit ?_
                      refine AK.block_exit ?_
                      refine AK.block_normal ?_
                      refine AK.then_ (hK21 _ ?_)
                      refine AK.region ?_
                      refine AK.val _ (Yl.add rfl rfl (by omega)) trivial rfl ?_
                      refine AK.val _ (Yl.move rfl) trivial rfl ?_
                      refine AK.nil ?_
                      first | refine AK.then_ (hK18 _ _ (q + 1) ⟨by omega, all_succ hg1.2 (fun h0 => by omega)⟩ (by omega) (.cons (rfl) (.cons rfl (.cons rfl (.cons rfl (.cons rfl (.cons rfl (.nil))))))) (fun w hw => hw)) | refine AK.then_ (hK18 _ _ (q + 1) ⟨by omega, all_succ hg1.2 (fun _ => ⟨hfe, fun x hx => hg2.2 x (by omega)⟩)⟩ (by omega) (.cons (rfl) (.cons rfl (.cons rfl (.cons rfl (.cons rfl (.cons rfl (.nil))))))) (fun w hw => hw))
            · refine AK.exit ?_
              refine AK.then_exit ?_
              refine AK.then_exit ?_
              refine AK.block_exit ?_
              refine AK.then_ (hK16 _ ?_)
              refine AK.seq (fun _ hK36 => ?_)
              refine AK.region ?_
              refine AK.val _ (Yl.assign rfl) trivial rfl ?_
              refine AK.nil ?_
              refine AK.then_ (hK36 _ ?_)
              refine AK.ret ?_
              refine AK.ret1 rfl rfl (fun w hw => ⟨_, _, ?_, rfl, Ret.of (hw.pick [] (by decide) rfl rfl)⟩)
              refine ⟨true, rfl, ⟨fun _ => MapOK.mk' hml hbd hst0 (fun i hi => hg1.2 i (by omega)), fun _ => rfl⟩, rfl⟩

set_option maxHeartbeats 400000 in
set_option maxRecDepth 100000 in
theorem s_checkacc (w : World) (vm : Value) (m : Dfa) (k : RdD (fun _ => False) w vm m) (hvm : VD m) (va : Value) (ac : List (List UInt8)) (ha : RdL (fun _ => False) sv w va ac) (hla : ∀ a ∈ ac, a.length ≤ 9223372036854775807) : CallS Try.prog 47 [vm, va] w (fun r o => ∃ b, r = .bool b ∧ (b = true ↔ AccOK m ac) ∧ o = []) := by
  have k0 := k
  obtain ⟨uF, uN, rfl, gF, gN⟩ := k
  have gF0 := gF
  have gN0 := gN
  obtain ⟨ss, gsl, gNr, gNi⟩ := gN
  have tF := gF.sl
  have tN := gNr.sl
  have gmf := gF.le
  have gmn := gNr.le
  unfold RdL at gF
  have hmL := hvm.L
  have hmnx := hvm.nx
  have hmn5 := hvm.n
  have hms := hvm.s
  have hal := ha.le
  unfold RdL at ha
  refine spec_of Try.func47 rfl (Nat.le_of_ble_eq_true rfl) ?_
  refine AK.seq (fun _ hK1 => ?_)
  refine AK.region ?_
  refine AK.box_ (E := 25) (cs := [.int .i64 m.L, .int .i64 m.s, uF, uN]) rfl rfl rfl trivial rfl (fun bx2 => ?_)
  refine AK.val _ (Yl.assign rfl) trivial rfl ?_
  refine AK.nil ?_
  refine AK.then_ (hK1 _ ?_)
  refine AK.seq (fun _ hK2 => ?_)
  refine AK.seq (fun _ hK3 => ?_)
  refine AK.region ?_
  refine AK.val _ (Yl.move rfl) trivial rfl ?_
  refine AK.val _ (Yl.lenR sl49 rfl (by first | exact .arg ‹_› | ((repeat (first | exact .hd | apply RdS.tl)); done) | assumption)) trivial rfl ?_
  refine AK.val _ (Yl.fieldAddr fd25_2 rfl) trivial rfl ?_
  refine AK.val _ (Yl.loadBox on22 rfl (by first | ((repeat (first | exact .hd | apply BoxS.tl | apply MapS.tl)); done) | assumption | exact BoxS.arg (by assumption)) rfl) trivial rfl ?_
  refine AK.val _ (Yl.lenR sl22 rfl (by first | exact .arg ‹_› | ((repeat (first | exact .hd | apply RdS.tl)); done) | assumption)) trivial rfl ?_
  refine AK.val _ (Yl.neq rfl rfl) trivial rfl ?_
  refine AK.nil ?_
  refine AK.then_ (hK3 _ ?_)
  refine AK.condNe rfl (fun hc0 => ?_) (fun hc0 => ?_)
  · refine AK.seq (fun _ hK4 => ?_)
    refine AK.region ?_
    refine AK.val _ (Yl.assign rfl) trivial rfl ?_
    refine AK.nil ?_
    refine AK.then_ (hK4 _ ?_)
    refine AK.ret ?_
    refine AK.then_ret ?_
    refine AK.ret1 rfl rfl (fun w hw => ⟨_, _, ?_, rfl, Ret.of (hw.pick [] (by decide) rfl rfl)⟩)
    refine ⟨false, rfl, ⟨fun h => (by cases h), fun h => ?_⟩, rfl⟩
    exfalso
    have h1 := h.len
    omega
  · refine AK.skip ?_
    refine AK.then_ (hK2 _ ?_)
    refine AK.seq (fun _ hK5 => ?_)
    refine AK.seq (fun _ hK6 => ?_)
    refine AK.region ?_
    refine AK.val _ (Yl.move rfl) trivial rfl ?_
    refine AK.val _ (Yl.lenR sl49 rfl (by first | exact .arg ‹_› | ((repeat (first | exact .hd | apply RdS.tl)); done) | assumption)) trivial rfl ?_
    refine AK.val _ (Yl.move rfl) trivial rfl ?_
    refine AK.nil ?_
    refine AK.then_ (hK6 _ ?_)
    refine AK.block ?_
    refine AK.loopK (X := Nat) [(2, _), (13, _), (14, _)] (fun j => [(15, .int .i64 (j : Int))]) (fun j => [box bx2 25 4 [.int .i64 m.L, .int .i64 m.s, uF, uN]]) (fun j => j ≤ ac.length ∧ ∀ i, i < j → RunV m m.s (ac.getD i []) = (i : Int)) (fun j => ac.length - j) (0) (.cons rfl (.cons rfl (.cons rfl (.nil)))) ?_ ?_ ?_ ?_
    · exact ⟨Nat.zero_le _, fun i hi => (by cases hi)⟩
    · exact .cons (rfl) (.nil)
    · exact fun w hw => hw
    · intro j hg0 _ hK7
      refine AK.seq (fun _ hK8 => ?_)
      refine AK.region ?_
      refine AK.val _ (Yl.lss rfl rfl) trivial rfl ?_
      refine AK.nil ?_
      refine AK.then_ (hK8 _ ?_)
      refine AK.seq (fun _ hK9 => ?_)
      refine AK.condD rfl (fun hc1 => ?_) (fun hc1 => ?_)
      · refine AK.skip ?_
        refine AK.then_ (hK9 _ ?_)
        refine AK.seq (fun _ hK10 => ?_)
        refine AK.block ?_
        refine AK.seq (fun _ hK11 => ?_)
        refine AK.region ?_
        refine AK.val _ (Yl.move rfl) trivial rfl ?_
        first | refine AK.val _ (Yl.idxN sl49 rfl rfl (by first | exact .arg ‹_› | ((repeat (first | exact .hd | apply RdS.tl)); done) | assumption) (by decide) (by omega)) trivial rfl ?_ | refine AK.val _ (Yl.idx sl49 rfl rfl (by first | exact .arg ‹_› | ((repeat (first | exact .hd | apply RdS.tl)); done) | assumption) (by decide) (by omega)) trivial rfl ?_ | refine AK.val _ (Yl.idxK sl49 rfl rfl (by first | exact .arg ‹_› | ((repeat (first | exact .hd | apply RdS.tl)); done) | assumption) (by decide) (by omega)) trivial rfl ?_
        refine AK.val _ (Yl.loadS on9 rfl (by first | exact .arg ‹_› | ((repeat (first | exact .hd | apply RdS.tl)); done) | assumption) (by omega)) trivial rfl ?_
        refine AK.val _ (Yl.assign rfl) trivial rfl ?_
        refine AK.val _ (Yl.assign rfl) trivial rfl ?_
        refine AK.nil ?_
        refine AK.then_ (hK11 _ ?_)
        refine AK.seq (fun _ hK12 => ?_)
        refine AK.region ?_
        refine AK.val _ (Yl.loadBoxG ag25 rfl (by first | ((repeat (first | exact .hd | apply BoxS.tl | apply MapS.tl)); done) | assumption | exact BoxS.arg (by assumption)) rfl rfl) trivial rfl ?_
        refine AK.val _ (Yl.fieldAddr fd25_1 rfl) trivial rfl ?_
        refine AK.val _ (Yl.loadBox on3 rfl (by first | ((repeat (first | exact .hd | apply BoxS.tl | apply MapS.tl)); done) | assumption | exact BoxS.arg (by assumption)) rfl) trivial rfl ?_
        refine AK.val _ (Yl.move rfl) trivial rfl ?_
        refine AK.call co29 rfl (fun w hw => s_run w _ m (k0.at hw) m.s (ac.getD j []) (hla _ (getD_mem (by omega)))) trivial rfl ?_
        rintro r o ⟨rfl, rfl⟩
        refine AK.val _ (Yl.move rfl) trivial rfl ?_
        refine AK.val _ (Yl.neq rfl rfl) trivial rfl ?_
        refine AK.nil ?_
        refine AK.then_ (hK12 _ ?_)
        refine AK.condNe rfl (fun hc2 => ?_) (fun hc2 => ?_)
        · refine AK.seq (fun _ hK13 => ?_)
          refine AK.region ?_
          refine AK.val _ (Yl.assign rfl) trivial rfl ?_
          refine AK.nil ?_
          refine AK.then_ (hK13 _ ?_)
          refine AK.ret ?_
          refine AK.block_ret ?_
          refine AK.then_ret ?_
          refine AK.then_ret ?_
          refine AK.block_ret ?_
          refine AK.then_ret ?_
          refine AK.ret1 rfl rfl (fun w hw => ⟨_, _, ?_, rfl, Ret.of (hw.pick [] (by decide) rfl rfl)⟩)
          refine ⟨false, rfl, ⟨fun h => (by cases h), fun h => ?_⟩, rfl⟩
          exfalso
          exact hc2 (h.run j (by omega))
        · refine AK.skip ?_
          refine AK.block_normal ?_
          refine AK.then_ (hK10 _ ?_)
          refine AK.region ?_
          refine AK.val _ (Yl.add rfl rfl (by omega)) trivial rfl ?_
          refine AK.val _ (Yl.move rfl) trivial rfl ?_
          refine AK.nil ?_
          refine AK.then_ (hK7 _ _ (j + 1) ⟨by omega, all_succ hg0.2 (by first | exact hc2 | exact Classical.not_not.1 hc2)⟩ (by omega) (.cons (rfl) (.cons rfl (.cons rfl (.cons rfl (.nil))))) (fun w hw => hw))
      · refine AK.exit ?_
        refine AK.then_exit ?_
        refine AK.then_exit ?_
        refine AK.block_exit ?_
        refine AK.then_ (hK5 _ ?_)
        refine AK.seq (fun _ hK14 => ?_)
        refine AK.region ?_
        refine AK.val _ (Yl.assign rfl) trivial rfl ?_
        refine AK.nil ?_
        refine AK.then_ (hK14 _ ?_)
        refine AK.ret ?_
        refine AK.ret1 rfl rfl (fun w hw => ⟨_, _, ?_, rfl, Ret.of (hw.pick [] (by decide) rfl rfl)⟩)
        refine ⟨true, rfl, ⟨fun _ => ⟨by omega, fun i hi => hg0.2 i (by omega)⟩, fun _ => rfl⟩, rfl⟩

theorem bbeq (a b : List UInt8) : ((⟨a.toArray⟩ : ByteArray) == ⟨b.toArray⟩) = decide (a = b) := by
  show (a.toArray == b.toArray) = decide (a = b)
  rw [Bool.eq_iff_iff, beq_iff_eq, decide_eq_true_eq]
  constructor
  · intro h; simpa using h
  · intro h; rw [h]
theorem keyStr {P : Program} {kt : TypeId} (hk : P.underlying kt = some .string) : KeyL P kt sv where
  find := by
    intro a es ks w h
    have now : ∀ (es : List MapEntry) (ks : List (List UInt8)) (j : Nat), es.map (·.key) = ks.map sv → Instr.findNow .string (sv a) es j = some ((fidx a ks).bind fun i => (es[i]?).map fun e => (j + i, e.val)) := by
      intro es
      induction es with
      | nil => intro ks j h; cases ks with
        | nil => simp [Instr.findNow, fidx]
        | cons k ks => simp at h
      | cons e es ih =>
        intro ks j h
        cases ks with
        | nil => simp at h
        | cons k ks =>
          simp at h
          have hq : Instr.sameNow .string (sv a) (sv k) = some (decide (a = k)) := by
            show some ((⟨a.toArray⟩ : ByteArray) == ⟨k.toArray⟩) = _
            rw [bbeq]
          simp only [Instr.findNow, h.1, hq, fidx]
          by_cases hak : a = k
          · simp [hak]
          · simp only [hak, decide_false, if_false]
            rw [ih ks (j + 1) (by simpa using h.2)]
            cases fidx a ks with
            | none => simp
            | some i =>
              simp only [Option.map_some, Option.bind_some, List.getElem?_cons_succ]
              cases es[i]? with
              | none => rfl
              | some e' => simp; omega
    simp only [Instr.findKey, Sem.run_bind, run_underlying hk, Result.andThen_ok, now es ks 0 h]
    simp
  check := by
    intro e a w
    have : ∀ n, (Instr.checkKey e (n + 1) kt (sv a)).run P w = .ok () w := fun n => by simp [Instr.checkKey, run_underlying hk, sv]
    exact this 9999
  same := by
    intro a
    have : ∀ n, Instr.sameBits (n + 1) (sv a) (sv a) = true := fun n => by
      show ((⟨a.toArray⟩ : ByteArray) == ⟨a.toArray⟩) = true
      rw [bbeq]; simp
    exact this 9999
theorem matR_nil {m : Dfa} {ts : List (List UInt8)} : matR m (ts.take 0) = List.replicate m.fin.length [] := by
  unfold matR
  rw [List.take_zero, show rowB m [] = (fun _ => []) from funext fun q => rfl, List.map_const', List.length_range]
theorem matG_nil {E : TypeId} {c : Nat} {w : World} (i : Nat) (A : Asn) (h : (matG byv E (List.replicate c (.slice none 0 0)) (List.replicate c []))[i]? = some A) : A.holds w (fun _ => False) := by
  have hlen : (matG byv E (List.replicate c (.slice none 0 0)) (List.replicate c [])).length = c := by rw [matG_length (by simp)]; simp
  have hi : i < c := by rw [← hlen]; exact (List.getElem?_eq_some_iff.1 h).1
  rw [matG_get (by simp) (by simpa using hi)] at h
  have e1 : (List.replicate c (Value.slice none 0 0)).getD i undef = .slice none 0 0 := by simp [List.getD_eq_getElem?_getD, hi]
  have e2 : (List.replicate c ([] : List UInt8)).getD i [] = [] := by simp [List.getD_eq_getElem?_getD, hi]
  rw [e1, e2] at h
  cases h
  exact ⟨⟨rfl, .inl ⟨rfl, rfl⟩⟩, fun b => by simp [Value.ownBlock]⟩
theorem matG_set {E : TypeId} {rs : List Value} {xss : List (List UInt8)} (h : rs.length = xss.length) {i : Nat} (hi : i < xss.length) (v : Value) (ys : List UInt8) : (matG byv E rs xss).set i (row v E 1 ys.length (ys.map byv)) = matG byv E (rs.set i v) (xss.set i ys) := by
  unfold matG
  apply List.ext_getElem
  · simp
  · intro k h1 h2
    simp only [List.getElem_set, List.getElem_map, List.getElem_zip]
    by_cases e : i = k
    · subst e; simp
    · simp [e]
theorem rows_own {C : Cx} {w : World} {mv : Value} {EB : TypeId} {m : Dfa} {ts : List (List UInt8)} {l : List UInt8} {q : Nat} {rs : List Value} {av : Value} {b0 : Asn} {E : TypeId} (hrl : rs.length = m.fin.length) (hq : q < m.fin.length) {c : UInt8} (hc : bitT m (q : Int) l = c)
    (hw : HW C [b0, row mv EB 1 m.fin.length (rs.set q av), bigA ((matG byv E rs (matB m ts l q)).set q (row av E 1 (((matB m ts l q).getD q []).length + 1) (((matB m ts l q).getD q []).map byv ++ (byv c).cells.toList)))] w) :
    HW C [b0, row mv EB 1 m.fin.length (rs.set q av), bigA (matG byv E (rs.set q av) (matB m ts l (q + 1)))] w := by
  have hml := matB_len m ts l q
  have e : (((matB m ts l q).getD q []).map byv ++ (byv c).cells.toList) = (rowB m ts q ++ [bitT m (q : Int) l]).map byv := by rw [matB_get hq, hc]; simp [byv, Value.cells]
  have e2 : ((matB m ts l q).getD q []).length + 1 = (rowB m ts q ++ [bitT m (q : Int) l]).length := by rw [matB_get hq]; simp
  rw [e, e2, matG_set (by rw [hml]; exact hrl) (by rw [hml]; exact hq), matB_set hq] at hw
  exact hw
set_option maxHeartbeats 2000000 in
set_option maxRecDepth 100000 in
theorem s_checktests (w : World) (vm : Value) (m : Dfa) (k : RdD (fun _ => False) w vm m) (hvm : VD m) (vt : Value) (ts : List (List UInt8)) (ht : RdL (fun _ => False) sv w vt ts) (hlt : ∀ a ∈ ts, a.length ≤ 9223372036854775807) : CallS Try.prog 48 [vm, vt] w (fun r o => ∃ b, r = .bool b ∧ (b = true ↔ TestsOK m ts) ∧ o = []) := by
  have k0 := k
  obtain ⟨uF, uN, rfl, gF, gN⟩ := k
  have gF0 := gF
  have gN0 := gN
  obtain ⟨ss, gsl, gNr, gNi⟩ := gN
  have tF := gF.sl
  have tN := gNr.sl
  have gmf := gF.le
  have gmn := gNr.le
  unfold RdL at gF
  have hmL := hvm.L
  have hmnx := hvm.nx
  have hmn5 := hvm.n
  have hms := hvm.s
  have htl := ht.le
  unfold RdL at ht
  refine spec_of Try.func48 rfl (Nat.le_of_ble_eq_true rfl) ?_
  refine AK.seq (fun _ hK1 => ?_)
  refine AK.region ?_
  refine AK.box_ (E := 25) (cs := [.int .i64 m.L, .int .i64 m.s, uF, uN]) rfl rfl rfl trivial rfl (fun bx2 => ?_)
  refine AK.val _ (Yl.assign rfl) trivial rfl ?_
  refine AK.nil ?_
  refine AK.then_ (hK1 _ ?_)
  refine AK.seq (fun _ hK2 => ?_)
  refine AK.seq (fun _ hK3 => ?_)
  refine AK.region ?_
  refine AK.val _ (Yl.move rfl) trivial rfl ?_
  refine AK.val _ (Yl.lenR sl49 rfl (by first | exact .arg ‹_› | ((repeat (first | exact .hd | apply RdS.tl)); done) | assumption | exact .arg (gNi _ (by omega)))) trivial rfl ?_
  refine AK.val _ (Yl.fieldAddr fd25_2 rfl) trivial rfl ?_
  refine AK.val _ (Yl.loadBox on22 rfl (by first | ((repeat (first | exact .hd | apply BoxS.tl | apply MapS.tl)); done) | assumption | exact BoxS.arg (by assumption)) rfl) trivial rfl ?_
  refine AK.val _ (Yl.lenR sl22 rfl (by first | exact .arg ‹_› | ((repeat (first | exact .hd | apply RdS.tl)); done) | assumption | exact .arg (gNi _ (by omega)))) trivial rfl ?_
  refine AK.val _ (Yl.geq rfl rfl) trivial rfl ?_
  refine AK.nil ?_
  refine AK.then_ (hK3 _ ?_)
  refine AK.condD rfl (fun hc0 => ?_) (fun hc0 => ?_)
  · refine AK.seq (fun _ hK4 => ?_)
    refine AK.region ?_
    refine AK.val _ (Yl.assign rfl) trivial rfl ?_
    refine AK.nil ?_
    refine AK.then_ (hK4 _ ?_)
    refine AK.ret ?_
    refine AK.then_ret ?_
    refine AK.ret1 rfl rfl (fun w hw => ⟨_, _, ?_, rfl, Ret.of (hw.pick [] (by decide) rfl rfl)⟩)
    refine ⟨false, rfl, ⟨fun h => (by cases h), fun h => ?_⟩, rfl⟩
    exfalso
    have h1 := h.len
    omega
  · refine AK.skip ?_
    refine AK.then_ (hK2 _ ?_)
    refine AK.seq (fun _ hK5 => ?_)
    refine AK.region ?_
    refine AK.val _ (Yl.fieldAddr fd25_2 rfl) trivial rfl ?_
    refine AK.val _ (Yl.loadBox on22 rfl (by first | ((repeat (first | exact .hd | apply BoxS.tl | apply MapS.tl)); done) | assumption | exact BoxS.arg (by assumption)) rfl) trivial rfl ?_
    refine AK.val _ (Yl.lenR sl22 rfl (by first | exact .arg ‹_› | ((repeat (first | exact .hd | apply RdS.tl)); done) | assumption | exact .arg (gNi _ (by omega)))) trivial rfl ?_
    refine AK.make1 (n := m.fin.length) sl86 el71 rfl rfl rfl (by omega) (by omega) trivial rfl (fun mv => ?_)
    refine AK.shape 1 rfl (fun smv => ?_)
    refine AK.val _ (Yl.assign rfl) trivial rfl ?_
    refine AK.nil ?_
    refine AK.then_ (hK5 _ ?_)
    refine AK.seq (fun _ hK6 => ?_)
    refine AK.seq (fun _ hK7 => ?_)
    refine AK.region ?_
    refine AK.val _ (Yl.move rfl) trivial rfl ?_
    refine AK.val _ (Yl.lenR sl49 rfl (by first | exact .arg ‹_› | ((repeat (first | exact .hd | apply RdS.tl)); done) | assumption | exact .arg (gNi _ (by omega)))) trivial rfl ?_
    refine AK.val _ (Yl.move rfl) trivial rfl ?_
    refine AK.nil ?_
    refine AK.then_ (hK7 _ ?_)
    refine AK.block ?_
    refine AK.loopK (X := Nat × List Value) [(2, _), (5, _), (25, _), (26, _)] (fun x => [(27, .int .i64 (x.1 : Int))]) (fun x => [box bx2 25 4 [.int .i64 m.L, .int .i64 m.s, uF, uN], row mv 71 1 m.fin.length x.2, bigA (matG byv 5 x.2 (matR m (ts.take x.1)))]) (fun x => x.1 ≤ ts.length ∧ x.2.length = m.fin.length ∧ ∀ i, i < x.1 → validW m.L (ts.getD i []) = true) (fun x => ts.length - x.1) ((0, List.replicate m.fin.length (.slice none 0 0))) (.cons rfl (.cons rfl (.cons rfl (.cons rfl (.nil))))) ?_ ?_ ?_ ?_
    · exact ⟨Nat.zero_le _, (by simp), fun i hi => (by cases hi)⟩
    · exact .cons (rfl) (.nil)
    · exact fun w hw => by dsimp only; rw [matR_nil]; exact hw.ghostBig _ (matG_nil (E := 5))
    · intro x hg0 _ hK8
      refine AK.seq (fun _ hK9 => ?_)
      refine AK.region ?_
      refine AK.val _ (Yl.lss rfl rfl) trivial rfl ?_
      refine AK.nil ?_
      refine AK.then_ (hK9 _ ?_)
      refine AK.seq (fun _ hK10 => ?_)
      refine AK.condD rfl (fun hc1 => ?_) (fun hc1 => ?_)
      · refine AK.skip ?_
        refine AK.then_ (hK10 _ ?_)
        refine AK.seq (fun _ hK11 => ?_)
        refine AK.block ?_
        refine AK.seq (fun _ hK12 => ?_)
        refine AK.region ?_
        first | refine AK.val _ (Yl.idxN sl49 rfl rfl (by first | exact .arg ‹_› | ((repeat (first | exact .hd | apply RdS.tl)); done) | assumption | exact .arg (gNi _ (by omega))) (by decide) (by omega)) trivial rfl ?_ | refine AK.val _ (Yl.idx sl49 rfl rfl (by first | exact .arg ‹_› | ((repeat (first | exact .hd | apply RdS.tl)); done) | assumption | exact .arg (gNi _ (by omega))) (by decide) (by omega)) trivial rfl ?_ | refine AK.val _ (Yl.idxK sl49 rfl rfl (by first | exact .arg ‹_› | ((repeat (first | exact .hd | apply RdS.tl)); done) | assumption | exact .arg (gNi _ (by omega))) (by decide) (by omega)) trivial rfl ?_
        refine AK.val _ (Yl.loadS on9 rfl (by first | exact .arg ‹_› | ((repeat (first | exact .hd | apply RdS.tl)); done) | assumption | exact .arg (gNi _ (by omega))) (by omega)) trivial rfl ?_
        refine AK.val _ (Yl.assign rfl) trivial rfl ?_
        refine AK.nil ?_
        refine AK.then_ (hK12 _ ?_)
        refine AK.seq (fun _ hK13 => ?_)
        refine AK.seq (fun _ hK14 => ?_)
        refine AK.region ?_
        refine AK.val _ (Yl.move rfl) trivial rfl ?_
        refine AK.val _ (Yl.fieldAddr fd25_0 rfl) trivial rfl ?_
        refine AK.val _ (Yl.loadBox on3 rfl (by first | ((repeat (first | exact .hd | apply BoxS.tl | apply MapS.tl)); done) | assumption | exact BoxS.arg (by assumption)) rfl) trivial rfl ?_
        refine AK.call co45 rfl (fun w hw => s_wvalid w (ts.getD x.1 []) m.L (hlt _ (getD_mem (by omega)))) trivial rfl ?_
        rintro r o ⟨rfl, rfl⟩
        refine AK.val _ (Yl.not rfl) trivial rfl ?_
        refine AK.nil ?_
        refine AK.then_ (hK14 _ ?_)
        refine AK.condB rfl (fun hc2 => ?_) (fun hc2 => ?_)
        · refine AK.seq (fun _ hK15 => ?_)
          refine AK.region ?_
          refine AK.val _ (Yl.assign rfl) trivial rfl ?_
          refine AK.nil ?_
          refine AK.then_ (hK15 _ ?_)
          refine AK.ret ?_
          refine AK.then_ret ?_
          refine AK.block_ret ?_
          refine AK.then_ret ?_
          refine AK.then_ret ?_
          refine AK.block_ret ?_
          refine AK.then_ret ?_
          refine AK.ret1 rfl rfl (fun w hw => ⟨_, _, ?_, rfl, Ret.of (hw.pick [] (by decide) rfl rfl)⟩)
          refine ⟨false, rfl, ⟨fun h => (by cases h), fun h => ?_⟩, rfl⟩
          exfalso
          have h1 := h.ok _ (getD_mem (d := []) (xs := ts) (k := x.1) (by omega))
          rw [h1] at hc2; cases hc2
        · have hwv : validW m.L (ts.getD x.1 []) = true := by simpa using hc2
          have hok := (validW_iff.1 hwv).2
          have hwl := hlt (ts.getD x.1 []) (getD_mem (by omega))
          refine AK.skip ?_
          refine AK.then_ (hK13 _ ?_)
          refine AK.seq (fun _ hK16 => ?_)
          refine AK.region ?_
          refine AK.val _ (Yl.move rfl) trivial rfl ?_
          refine AK.val _ (Yl.lenR sl86 rfl (by first | exact .arg ‹_› | ((repeat (first | exact .hd | apply RdS.tl)); done) | assumption | exact .arg (gNi _ (by omega)))) trivial rfl ?_
          refine AK.val _ (Yl.move rfl) trivial rfl ?_
          refine AK.nil ?_
          refine AK.then_ (hK16 _ ?_)
          refine AK.block ?_
          refine AK.loopK (X := Nat × List Value) [(2, _), (5, _), (7, _), (25, _), (26, _), (27, _), (37, _)] (fun y => [(38, .int .i64 (y.1 : Int))]) (fun y => [box bx2 25 4 [.int .i64 m.L, .int .i64 m.s, uF, uN], row mv 71 1 m.fin.length y.2, bigA (matG byv 5 y.2 (matB m (ts.take x.1) (ts.getD x.1 []) y.1))]) (fun y => y.1 ≤ m.fin.length ∧ y.2.length = m.fin.length) (fun y => m.fin.length - y.1) ((0, x.2)) (.cons rfl (.cons rfl (.cons rfl (.cons rfl (.cons rfl (.cons rfl (.cons rfl (.nil)))))))) ?_ ?_ ?_ ?_
          · exact ⟨Nat.zero_le _, hg0.2.1⟩
          · exact .cons (rfl) (.nil)
          · exact fun w hw => by dsimp only; rw [matB_zero]; exact hw
          · intro y hg1 _ hK17
            have hyl := hg1.2
            have hmbl := matB_len m (ts.take x.1) (ts.getD x.1 []) y.1
            refine AK.seq (fun _ hK18 => ?_)
            refine AK.region ?_
            refine AK.val _ (Yl.lss rfl rfl) trivial rfl ?_
            refine AK.nil ?_
            refine AK.then_ (hK18 _ ?_)
            refine AK.seq (fun _ hK19 => ?_)
            refine AK.condD rfl (fun hc3 => ?_) (fun hc3 => ?_)
            · refine AK.skip ?_
              refine AK.then_ (hK19 _ ?_)
              refine AK.seq (fun _ hK20 => ?_)
              refine AK.block ?_
              refine AK.seq (fun _ hK21 => ?_)
              refine AK.region ?_
              refine AK.val _ (Yl.move rfl) trivial rfl ?_
              refine AK.val _ (Yl.assign rfl) trivial rfl ?_
              refine AK.nil ?_
              refine AK.then_ (hK21 _ ?_)
              refine AK.seq (fun _ hK22 => ?_)
              refine AK.region ?_
              refine AK.val _ (Yl.move rfl) trivial rfl ?_
              refine AK.val _ (Yl.assign rfl) trivial rfl ?_
              refine AK.nil ?_
              refine AK.then_ (hK22 _ ?_)
              refine AK.seq (fun _ hK23 => ?_)
              refine AK.seq (fun _ hK24 => ?_)
              refine AK.region ?_
              refine AK.val _ (Yl.move rfl) trivial rfl ?_
              refine AK.val _ (Yl.lenS un9 rfl) trivial rfl ?_
              refine AK.val _ (Yl.move rfl) trivial rfl ?_
              refine AK.nil ?_
              refine AK.then_ (hK24 _ ?_)
              refine AK.block ?_
              refine AK.loopK (X := Nat) [(2, _), (5, _), (7, _), (8, _), (25, _), (26, _), (27, _), (37, _), (38, _), (43, _)] (fun z => [(9, .int .i64 (runI m (y.1 : Int) ((ts.getD x.1 []).take z))), (44, .int .i64 (z : Int))]) (fun z => [box bx2 25 4 [.int .i64 m.L, .int .i64 m.s, uF, uN], row mv 71 1 m.fin.length y.2, bigA (matG byv 5 y.2 (matB m (ts.take x.1) (ts.getD x.1 []) y.1))]) (fun z => z ≤ (ts.getD x.1 []).length) (fun z => (ts.getD x.1 []).length - z) (0) (.cons rfl (.cons rfl (.cons rfl (.cons rfl (.cons rfl (.cons rfl (.cons rfl (.cons rfl (.cons rfl (.cons rfl (.nil))))))))))) ?_ ?_ ?_ ?_
              · exact Nat.zero_le _
              · exact .cons (rfl) (.cons (rfl) (.nil))
              · exact fun w hw => hw
              · intro z hg2 _ hK25
                have hb := runI_bd hvm (q := (y.1 : Int)) ⟨by omega, by omega⟩ hwv z
                have hrw := hvm.row (runI m (y.1 : Int) ((ts.getD x.1 []).take z)).toNat (by omega)
                have hc8 := UInt8.toNat_lt ((ts.getD x.1 []).getD z 0)
                refine AK.seq (fun _ hK26 => ?_)
                refine AK.region ?_
                refine AK.val _ (Yl.lss rfl rfl) trivial rfl ?_
                refine AK.nil ?_
                refine AK.then_ (hK26 _ ?_)
                refine AK.seq (fun _ hK27 => ?_)
                refine AK.condD rfl (fun hc4 => ?_) (fun hc4 => ?_)
                · have hok1 := hok z (by omega)
                  refine AK.skip ?_
                  refine AK.then_ (hK27 _ ?_)
                  refine AK.seq (fun _ hK28 => ?_)
                  refine AK.block ?_
                  refine AK.seq (fun _ hK29 => ?_)
                  refine AK.region ?_
                  refine AK.val _ (Yl.move rfl) trivial rfl ?_
                  refine AK.val _ (Yl.assign rfl) trivial rfl ?_
                  refine AK.nil ?_
                  refine AK.then_ (hK29 _ ?_)
                  refine AK.quiet mixed (by kernel_rfl) ?_
                  refine QK.val _ (Yl.fieldAddr fd25_3 rfl) trivial rfl ?_
                  refine QK.val _ (Yl.loadBox on23 rfl (by first | ((repeat (first | exact .hd | apply BoxS.tl | apply MapS.tl)); done) | assumption | exact BoxS.arg (by assumption)) rfl) trivial rfl ?_
                  refine QK.val _ (Yl.move rfl) trivial rfl ?_
                  first | refine QK.val _ (Yl.idxN sl23 rfl rfl (by first | exact .arg ‹_› | ((repeat (first | exact .hd | apply RdS.tl)); done) | assumption | exact .arg (gNi _ (by omega))) (by decide) (by omega)) trivial rfl ?_ | refine QK.val _ (Yl.idx sl23 rfl rfl (by first | exact .arg ‹_› | ((repeat (first | exact .hd | apply RdS.tl)); done) | assumption | exact .arg (gNi _ (by omega))) (by decide) (by omega)) trivial rfl ?_ | refine QK.val _ (Yl.idxK sl23 rfl rfl (by first | exact .arg ‹_› | ((repeat (first | exact .hd | apply RdS.tl)); done) | assumption | exact .arg (gNi _ (by omega))) (by decide) (by omega)) trivial rfl ?_
                  refine QK.val _ (Yl.loadV on26 rfl (by first | exact .arg ‹_› | ((repeat (first | exact .hd | apply RdS.tl)); done) | assumption | exact .arg (gNi _ (by omega))) (by omega)) trivial rfl ?_
                  refine QK.val _ (Yl.move rfl) trivial rfl ?_
                  refine QK.val _ (Yl.move rfl) trivial rfl ?_
                  first | refine QK.val _ (Yl.idxSN un9 rfl rfl (by omega)) trivial rfl ?_ | refine QK.val _ (Yl.idxS un9 rfl rfl (by omega)) trivial rfl ?_
                  refine QK.val _ (Yl.subU8 rfl rfl (by omega)) trivial rfl ?_
                  first | refine QK.val _ (Yl.idxN sl26 rfl rfl (by first | exact .arg ‹_› | ((repeat (first | exact .hd | apply RdS.tl)); done) | assumption | exact .arg (gNi _ (by omega))) (by decide) (by omega)) trivial rfl ?_ | refine QK.val _ (Yl.idx sl26 rfl rfl (by first | exact .arg ‹_› | ((repeat (first | exact .hd | apply RdS.tl)); done) | assumption | exact .arg (gNi _ (by omega))) (by decide) (by omega)) trivial rfl ?_ | refine QK.val _ (Yl.idxK sl26 rfl rfl (by first | exact .arg ‹_› | ((repeat (first | exact .hd | apply RdS.tl)); done) | assumption | exact .arg (gNi _ (by omega))) (by decide) (by omega)) trivial rfl ?_
                  refine QK.val _ (Yl.loadI on3 rfl (by first | exact .arg ‹_› | ((repeat (first | exact .hd | apply RdS.tl)); done) | assumption | exact .arg (gNi _ (by omega))) (by omega)) trivial rfl ?_
                  refine QK.val _ (Yl.assign rfl) trivial rfl ?_
                  refine QK.nil (QK.fin ?_)
                  refine AK.block_normal ?_
                  refine AK.then_ (hK28 _ ?_)
                  refine AK.region ?_
                  refine AK.val _ (Yl.add rfl rfl (by omega)) trivial rfl ?_
                  refine AK.val _ (Yl.move rfl) trivial rfl ?_
                  refine AK.nil ?_
                  refine AK.then_ (hK25 _ _ (z + 1) (by omega) (by omega) (.cons (slI rfl (by rw [runI_snoc m (y.1 : Int) (ts.getD x.1 []) z (by omega)]; rfl)) (.cons (rfl) (.cons rfl (.cons rfl (.cons rfl (.cons rfl (.cons rfl (.cons rfl (.cons rfl (.cons rfl (.cons rfl (.cons rfl (.nil))))))))))))) (fun w hw => hw))
                · have hze : runI m (y.1 : Int) ((ts.getD x.1 []).take z) = runI m (y.1 : Int) (ts.getD x.1 []) := by rw [show z = (ts.getD x.1 []).length by omega, List.take_length]
                  rw [hze]
                  have hb := runI_bdw hvm (q := (y.1 : Int)) ⟨by omega, by omega⟩ hwv
                  refine AK.exit ?_
                  refine AK.then_exit ?_
                  refine AK.then_exit ?_
                  refine AK.block_exit ?_
                  refine AK.then_ (hK23 _ ?_)
                  refine AK.seq (fun _ hK30 => ?_)
                  refine AK.region ?_
                  refine AK.val _ (Yl.assign rfl) trivial rfl ?_
                  refine AK.nil ?_
                  refine AK.then_ (hK30 _ ?_)
                  refine AK.seq (fun _ hK31 => ?_)
                  refine AK.seq (fun _ hK32 => ?_)
                  refine AK.region ?_
                  refine AK.val _ (Yl.fieldAddr fd25_2 rfl) trivial rfl ?_
                  refine AK.val _ (Yl.loadBox on22 rfl (by first | ((repeat (first | exact .hd | apply BoxS.tl | apply MapS.tl)); done) | assumption | exact BoxS.arg (by assumption)) rfl) trivial rfl ?_
                  refine AK.val _ (Yl.move rfl) trivial rfl ?_
                  first | refine AK.val _ (Yl.idxN sl22 rfl rfl (by first | exact .arg ‹_› | ((repeat (first | exact .hd | apply RdS.tl)); done) | assumption | exact .arg (gNi _ (by omega))) (by decide) (by omega)) trivial rfl ?_ | refine AK.val _ (Yl.idx sl22 rfl rfl (by first | exact .arg ‹_› | ((repeat (first | exact .hd | apply RdS.tl)); done) | assumption | exact .arg (gNi _ (by omega))) (by decide) (by omega)) trivial rfl ?_ | refine AK.val _ (Yl.idxK sl22 rfl rfl (by first | exact .arg ‹_› | ((repeat (first | exact .hd | apply RdS.tl)); done) | assumption | exact .arg (gNi _ (by omega))) (by decide) (by omega)) trivial rfl ?_
                  refine AK.val _ (Yl.loadB on4 rfl (by first | exact .arg ‹_› | ((repeat (first | exact .hd | apply RdS.tl)); done) | assumption | exact .arg (gNi _ (by omega))) (by omega)) trivial rfl ?_
                  refine AK.nil ?_
                  refine AK.then_ (hK32 _ ?_)
                  refine AK.cond rfl (fun hc5 => ?_) (fun hc5 => ?_)
                  · try simp only [decide_eq_true_eq, decide_eq_false_iff_not, Bool.not_eq_true', Bool.not_eq_false', Bool.not_not, ne_eq, Decidable.not_not, Int.not_lt, Int.not_le, beq_iff_eq, bne_iff_ne, Bool.and_eq_true, Bool.or_eq_true, Bool.or_eq_false_iff, Bool.not_false, Bool.not_true, reduceCtorEq, not_true_eq_false, not_false_eq_true] at hc5
                    have hbv : bitT m (y.1 : Int) (ts.getD x.1 []) = 1 := by unfold bitT finQ; rw [if_pos hc5]
                    refine AK.region ?_
                    refine AK.val _ (Yl.assign rfl) trivial rfl ?_
                    refine AK.nil ?_
                    refine AK.then_ (hK31 _ ?_)
                    refine AK.region ?_
                    refine AK.val _ (Yl.move rfl) trivial rfl ?_
                    refine AK.val _ (Yl.move rfl) trivial rfl ?_
                    refine AK.val _ (Yl.move rfl) trivial rfl ?_
                    refine AK.val _ (Yl.move rfl) trivial rfl ?_
                    first | refine AK.val _ (Yl.idxN sl86 rfl rfl (by first | exact .arg ‹_› | ((repeat (first | exact .hd | apply RdS.tl)); done) | assumption | exact .arg (gNi _ (by omega))) (by decide) (by omega)) trivial rfl ?_ | refine AK.val _ (Yl.idx sl86 rfl rfl (by first | exact .arg ‹_› | ((repeat (first | exact .hd | apply RdS.tl)); done) | assumption | exact .arg (gNi _ (by omega))) (by decide) (by omega)) trivial rfl ?_ | refine AK.val _ (Yl.idxK sl86 rfl rfl (by first | exact .arg ‹_› | ((repeat (first | exact .hd | apply RdS.tl)); done) | assumption | exact .arg (gNi _ (by omega))) (by decide) (by omega)) trivial rfl ?_
                    refine AK.val _ (Yl.loadV on71 rfl (by first | exact .arg ‹_› | ((repeat (first | exact .hd | apply RdS.tl)); done) | assumption | exact .arg (gNi _ (by omega))) (by omega)) trivial rfl ?_
                    refine AK.val _ (Yl.move rfl) trivial rfl ?_
                    refine AK.append1In 2 y.1 rfl (matG_get (by rw [hmbl]; exact hyl) (by rw [hmbl]; omega)) sl71 el5 rfl (by decide) rfl (by intro k hk; cases hk; rfl) rfl (by intro u hu; simp [Value.cells] at hu; subst hu; rfl) (by rw [matB_get (by omega), rowB_len, List.length_take]; omega) (by rw [matB_get (by omega), rowB_len, List.length_take]; omega) (by decide) rfl rfl (fun av _ hsl => ?_)
                    first | refine AK.val _ (Yl.idxN sl86 rfl rfl (by first | exact .arg ‹_› | ((repeat (first | exact .hd | apply RdS.tl)); done) | assumption | exact .arg (gNi _ (by omega))) (by decide) (by omega)) trivial rfl ?_ | refine AK.val _ (Yl.idx sl86 rfl rfl (by first | exact .arg ‹_› | ((repeat (first | exact .hd | apply RdS.tl)); done) | assumption | exact .arg (gNi _ (by omega))) (by decide) (by omega)) trivial rfl ?_ | refine AK.val _ (Yl.idxK sl86 rfl rfl (by first | exact .arg ‹_› | ((repeat (first | exact .hd | apply RdS.tl)); done) | assumption | exact .arg (gNi _ (by omega))) (by decide) (by omega)) trivial rfl ?_
                    refine AK.store1 1 rfl sz71 rfl rfl hsl.cells hsl.one (by omega) trivial ?_
                    refine AK.nil ?_
                    refine AK.block_normal ?_
                    refine AK.then_ (hK20 _ ?_)
                    refine AK.region ?_
                    refine AK.val _ (Yl.add rfl rfl (by omega)) trivial rfl ?_
                    refine AK.val _ (Yl.move rfl) trivial rfl ?_
                    refine AK.nil ?_
                    refine AK.then_ (hK17 _ _ ((y.1 + 1, y.2.set y.1 av)) ⟨by dsimp only; omega, by dsimp only; rw [List.length_set]; exact hyl⟩ (by dsimp only; omega) (.cons (rfl) (.cons rfl (.cons rfl (.cons rfl (.cons rfl (.cons rfl (.cons rfl (.cons rfl (.nil))))))))) (fun w hw => rows_own hyl (by omega) hbv hw))
                  · try simp only [decide_eq_true_eq, decide_eq_false_iff_not, Bool.not_eq_true', Bool.not_eq_false', Bool.not_not, ne_eq, Decidable.not_not, Int.not_lt, Int.not_le, beq_iff_eq, bne_iff_ne, Bool.and_eq_true, Bool.or_eq_true, Bool.or_eq_false_iff, Bool.not_false, Bool.not_true, reduceCtorEq, not_true_eq_false, not_false_eq_true] at hc5
                    have hbv : bitT m (y.1 : Int) (ts.getD x.1 []) = 0 := by unfold bitT finQ; rw [if_neg (by simpa using hc5)]
                    refine AK.skip ?_
                    refine AK.then_ (hK31 _ ?_)
                    refine AK.region ?_
                    refine AK.val _ (Yl.move rfl) trivial rfl ?_
                    refine AK.val _ (Yl.move rfl) trivial rfl ?_
                    refine AK.val _ (Yl.move rfl) trivial rfl ?_
                    refine AK.val _ (Yl.move rfl) trivial rfl ?_
                    first | refine AK.val _ (Yl.idxN sl86 rfl rfl (by first | exact .arg ‹_› | ((repeat (first | exact .hd | apply RdS.tl)); done) | assumption | exact .arg (gNi _ (by omega))) (by decide) (by omega)) trivial rfl ?_ | refine AK.val _ (Yl.idx sl86 rfl rfl (by first | exact .arg ‹_› | ((repeat (first | exact .hd | apply RdS.tl)); done) | assumption | exact .arg (gNi _ (by omega))) (by decide) (by omega)) trivial rfl ?_ | refine AK.val _ (Yl.idxK sl86 rfl rfl (by first | exact .arg ‹_› | ((repeat (first | exact .hd | apply RdS.tl)); done) | assumption | exact .arg (gNi _ (by omega))) (by decide) (by omega)) trivial rfl ?_
                    refine AK.val _ (Yl.loadV on71 rfl (by first | exact .arg ‹_› | ((repeat (first | exact .hd | apply RdS.tl)); done) | assumption | exact .arg (gNi _ (by omega))) (by omega)) trivial rfl ?_
                    refine AK.val _ (Yl.move rfl) trivial rfl ?_
                    refine AK.append1In 2 y.1 rfl (matG_get (by rw [hmbl]; exact hyl) (by rw [hmbl]; omega)) sl71 el5 rfl (by decide) rfl (by intro k hk; cases hk; rfl) rfl (by intro u hu; simp [Value.cells] at hu; subst hu; rfl) (by rw [matB_get (by omega), rowB_len, List.length_take]; omega) (by rw [matB_get (by omega), rowB_len, List.length_take]; omega) (by decide) rfl rfl (fun av _ hsl => ?_)
                    first | refine AK.val _ (Yl.idxN sl86 rfl rfl (by first | exact .arg ‹_› | ((repeat (first | exact .hd | apply RdS.tl)); done) | assumption | exact .arg (gNi _ (by omega))) (by decide) (by omega)) trivial rfl ?_ | refine AK.val _ (Yl.idx sl86 rfl rfl (by first | exact .arg ‹_› | ((repeat (first | exact .hd | apply RdS.tl)); done) | assumption | exact .arg (gNi _ (by omega))) (by decide) (by omega)) trivial rfl ?_ | refine AK.val _ (Yl.idxK sl86 rfl rfl (by first | exact .arg ‹_› | ((repeat (first | exact .hd | apply RdS.tl)); done) | assumption | exact .arg (gNi _ (by omega))) (by decide) (by omega)) trivial rfl ?_
                    refine AK.store1 1 rfl sz71 rfl rfl hsl.cells hsl.one (by omega) trivial ?_
                    refine AK.nil ?_
                    refine AK.block_normal ?_
                    refine AK.then_ (hK20 _ ?_)
                    refine AK.region ?_
                    refine AK.val _ (Yl.add rfl rfl (by omega)) trivial rfl ?_
                    refine AK.val _ (Yl.move rfl) trivial rfl ?_
                    refine AK.nil ?_
                    refine AK.then_ (hK17 _ _ ((y.1 + 1, y.2.set y.1 av)) ⟨by dsimp only; omega, by dsimp only; rw [List.length_set]; exact hyl⟩ (by dsimp only; omega) (.cons (rfl) (.cons rfl (.cons rfl (.cons rfl (.cons rfl (.cons rfl (.cons rfl (.cons rfl (.nil))))))))) (fun w hw => rows_own hyl (by omega) hbv hw))
            · refine AK.exit ?_
              refine AK.then_exit ?_
              refine AK.then_exit ?_
              refine AK.block_exit ?_
              refine AK.block_normal ?_
              refine AK.then_ (hK11 _ ?_)
              refine AK.region ?_
              refine AK.val _ (Yl.add rfl rfl (by omega)) trivial rfl ?_
              refine AK.val _ (Yl.move rfl) trivial rfl ?_
              refine AK.nil ?_
              refine AK.then_ (hK8 _ _ ((x.1 + 1, y.2)) ⟨by dsimp only; omega, hg1.2, all_succ hg0.2.2 hwv⟩ (by dsimp only; omega) (.cons (rfl) (.cons rfl (.cons rfl (.cons rfl (.cons rfl (.nil)))))) (fun w hw => by dsimp only; rw [take_snocD [] ts x.1 (by omega), ← matB_full, show m.fin.length = y.1 by omega]; rw [show m.fin.length = y.1 by omega] at hw; exact hw))
      · have hmrl := matR_len m ts
        have hx2l := hg0.2.1
        refine AK.exit ?_
        refine AK.then_exit ?_
        refine AK.then_exit ?_
        refine AK.block_exit ?_
        refine AK.then_ (hK6 _ ?_)
        refine AK.seq (fun _ hK33 => ?_)
        refine AK.region ?_
        refine AK.makeMap trivial rfl (fun mb => ?_)
        refine AK.val _ (Yl.assign rfl) trivial rfl ?_
        refine AK.nil ?_
        refine AK.then_ (hK33 _ ?_)
        refine AK.seq (fun _ hK34 => ?_)
        refine AK.seq (fun _ hK35 => ?_)
        refine AK.region ?_
        refine AK.val _ (Yl.move rfl) trivial rfl ?_
        refine AK.val _ (Yl.lenR sl86 rfl (by first | exact .arg ‹_› | ((repeat (first | exact .hd | apply RdS.tl)); done) | assumption | exact .arg (gNi _ (by omega)))) trivial rfl ?_
        refine AK.val _ (Yl.move rfl) trivial rfl ?_
        refine AK.nil ?_
        refine AK.then_ (hK35 _ ?_)
        refine AK.block ?_
        refine AK.loopK (X := Nat) [(2, _), (12, _), (77, _), (78, _)] (fun u => [(79, .int .i64 (u : Int))]) (fun u => [box bx2 25 4 [.int .i64 m.L, .int .i64 m.s, uF, uN], row mv 71 1 m.fin.length x.2, bigA (matG byv 5 x.2 (matR m ts)), mapA mb (mkv sv Value.bool (metS ((matR m ts).take u)))]) (fun u => u ≤ m.fin.length) (fun u => m.fin.length - u) (0) (.cons rfl (.cons rfl (.cons rfl (.cons rfl (.nil))))) ?_ ?_ ?_ ?_
        · exact Nat.zero_le _
        · exact .cons (rfl) (.nil)
        · exact fun w hw => by rw [show x.1 = ts.length by omega, List.take_length] at hw; exact hw
        · intro u hg3 _ hK36
          refine AK.seq (fun _ hK37 => ?_)
          refine AK.region ?_
          refine AK.val _ (Yl.lss rfl rfl) trivial rfl ?_
          refine AK.nil ?_
          refine AK.then_ (hK37 _ ?_)
          refine AK.seq (fun _ hK38 => ?_)
          refine AK.condD rfl (fun hc6 => ?_) (fun hc6 => ?_)
          · refine AK.skip ?_
            refine AK.then_ (hK38 _ ?_)
            refine AK.seq (fun _ hK39 => ?_)
            refine AK.block ?_
            refine AK.seq (fun _ hK40 => ?_)
            refine AK.region ?_
            first | refine AK.val _ (Yl.idxN sl86 rfl rfl (by first | exact .arg ‹_› | ((repeat (first | exact .hd | apply RdS.tl)); done) | assumption | exact .arg (gNi _ (by omega))) (by decide) (by omega)) trivial rfl ?_ | refine AK.val _ (Yl.idx sl86 rfl rfl (by first | exact .arg ‹_› | ((repeat (first | exact .hd | apply RdS.tl)); done) | assumption | exact .arg (gNi _ (by omega))) (by decide) (by omega)) trivial rfl ?_ | refine AK.val _ (Yl.idxK sl86 rfl rfl (by first | exact .arg ‹_› | ((repeat (first | exact .hd | apply RdS.tl)); done) | assumption | exact .arg (gNi _ (by omega))) (by decide) (by omega)) trivial rfl ?_
            refine AK.val _ (Yl.loadV on71 rfl (by first | exact .arg ‹_› | ((repeat (first | exact .hd | apply RdS.tl)); done) | assumption | exact .arg (gNi _ (by omega))) (by omega)) trivial rfl ?_
            refine AK.val _ (Yl.assign rfl) trivial rfl ?_
            refine AK.nil ?_
            refine AK.then_ (hK40 _ ?_)
            refine AK.region ?_
            refine AK.val _ (Yl.move rfl) trivial rfl ?_
            refine AK.val _ (Yl.move rfl) trivial rfl ?_
            refine AK.val _ (Yl.bytesS (l := (matR m ts).getD u []) sl71.1 un5 un9 rfl (RdS.big 2 _ rfl (matG_get (by rw [hmrl]; exact hx2l) (by rw [hmrl]; omega)))) trivial rfl ?_
            refine AK.mapSet 3 (fk := sv) (fv := Value.bool) (m := metS ((matR m ts).take u)) (a := (matR m ts).getD u []) (v := true) rfl mp87 (keyStr un9) rfl rfl rfl trivial ?_
            refine AK.nil ?_
            refine AK.block_normal ?_
            refine AK.then_ (hK39 _ ?_)
            refine AK.region ?_
            refine AK.val _ (Yl.add rfl rfl (by omega)) trivial rfl ?_
            refine AK.val _ (Yl.move rfl) trivial rfl ?_
            refine AK.nil ?_
            refine AK.then_ (hK36 _ _ (u + 1) (by omega) (by omega) (.cons (rfl) (.cons rfl (.cons rfl (.cons rfl (.cons rfl (.nil)))))) (fun w hw => by rw [take_snocD [] (matR m ts) u (by rw [hmrl]; omega), ← metS_set]; exact hw))
          · refine AK.exit ?_
            refine AK.then_exit ?_
            refine AK.then_exit ?_
            refine AK.block_exit ?_
            refine AK.then_ (hK34 _ ?_)
            refine AK.seq (fun _ hK41 => ?_)
            refine AK.region ?_
            refine AK.val _ (Yl.move rfl) trivial rfl ?_
            refine AK.val _ (Yl.lenM mp87 rfl (by first | ((repeat (first | exact .hd | apply BoxS.tl | apply MapS.tl)); done) | assumption | exact BoxS.arg (by assumption))) trivial rfl ?_
            refine AK.val _ (Yl.fieldAddr fd25_2 rfl) trivial rfl ?_
            refine AK.val _ (Yl.loadBox on22 rfl (by first | ((repeat (first | exact .hd | apply BoxS.tl | apply MapS.tl)); done) | assumption | exact BoxS.arg (by assumption)) rfl) trivial rfl ?_
            refine AK.val _ (Yl.lenR sl22 rfl (by first | exact .arg ‹_› | ((repeat (first | exact .hd | apply RdS.tl)); done) | assumption | exact .arg (gNi _ (by omega)))) trivial rfl ?_
            refine AK.val _ (Yl.eql rfl rfl) trivial rfl ?_
            refine AK.val _ (Yl.assign rfl) trivial rfl ?_
            refine AK.nil ?_
            refine AK.then_ (hK41 _ ?_)
            refine AK.ret ?_
            refine AK.ret1 rfl rfl (fun w hw => ⟨_, _, ?_, rfl, Ret.of (hw.pick [] (by decide) rfl rfl)⟩)
            have hue : u = m.fin.length := by omega
            have hmsl := metS_len ((matR m ts).take u)
            refine ⟨_, rfl, ?_, rfl⟩
            rw [hue, ← hmrl, List.take_length, decide_eq_true_eq]
            have hmsl2 := metS_len (matR m ts)
            constructor
            · intro h
              exact ⟨by omega, fun a ha => by obtain ⟨i, hi, e⟩ := mem_getD [] ha; rw [← e]; exact hg0.2.2 i (by omega), rows_diff.1 (by omega)⟩
            · intro h
              have h2 := rows_diff.2 h.sep
              omega

end Go.Proofs.Ytoikhoniogicdaa

set_option linter.unusedVariables false
set_option linter.unusedSimpArgs false
namespace Go.Proofs.Ytoikhoniogicdaa
open Go.Sx Go.RowKit
set_option maxHeartbeats 400000 in
set_option maxRecDepth 100000 in
theorem s_check (w : World) (v : Value) (d : Dfa) (h : RdD (fun _ => False) w v d) (vm : Value) (m : Dfa) (k : RdD (fun _ => False) w vm m) (vp va vt : Value) (mp : List Int) (ac ts : List (List UInt8)) (hp : RdL (fun _ => False) (Value.int .i64) w vp mp) (ha : RdL (fun _ => False) sv w va ac) (hla : ∀ a ∈ ac, a.length ≤ 9223372036854775807) (ht : RdL (fun _ => False) sv w vt ts) (hlt : ∀ a ∈ ts, a.length ≤ 9223372036854775807) : CallS Try.prog 32 [v, vm, .agg #[vp, va, vt]] w (fun r o => ∃ b, r = .bool b ∧ (b = true ↔ ChkP d m mp ac ts) ∧ o = []) := by
  have h0 := h
  obtain ⟨vF, vN, rfl, hF, hN⟩ := h
  have hF0 := hF
  have hN0 := hN
  obtain ⟨rs, hrl, hNr, hNi⟩ := hN
  have sF := hF.sl
  have sN := hNr.sl
  have hmf := hF.le
  have hmn := hNr.le
  unfold RdL at hF
  have k0 := k
  obtain ⟨uF, uN, rfl, gF, gN⟩ := k
  have gF0 := gF
  have gN0 := gN
  obtain ⟨ss, gsl, gNr, gNi⟩ := gN
  have tF := gF.sl
  have tN := gNr.sl
  have gmf := gF.le
  have gmn := gNr.le
  unfold RdL at gF
  have hp0 := hp
  have ha0 := ha
  have ht0 := ht
  have hps := hp.sl
  have has := ha.sl
  have hts := ht.sl
  have hpl := hp.le
  have hal := ha.le
  have htl := ht.le
  unfold RdL at hp ha ht
  refine spec_of Try.func32 rfl (Nat.le_of_ble_eq_true rfl) ?_
  refine AK.seq (fun _ hK1 => ?_)
  refine AK.region ?_
  refine AK.box_ (E := 25) (cs := [.int .i64 d.L, .int .i64 d.s, vF, vN]) rfl rfl rfl trivial rfl (fun bx3 => ?_)
  refine AK.box_ (E := 25) (cs := [.int .i64 m.L, .int .i64 m.s, uF, uN]) rfl rfl rfl trivial rfl (fun bx4 => ?_)
  refine AK.box_ (E := 51) (cs := [vp, va, vt]) rfl rfl rfl trivial rfl (fun bx5 => ?_)
  refine AK.val _ (Yl.assign rfl) trivial rfl ?_
  refine AK.nil ?_
  refine AK.then_ (hK1 _ ?_)
  refine AK.seq (fun _ hK2 => ?_)
  refine AK.seq (fun _ hK3 => ?_)
  refine AK.region ?_
  refine AK.val _ (Yl.loadBoxG ag25 rfl (by first | ((repeat (first | exact .hd | apply BoxS.tl | apply MapS.tl)); done) | assumption | exact BoxS.arg (by assumption)) rfl rfl) trivial rfl ?_
  refine AK.call co23 rfl (fun w hw => s_validate w _ d (h0.at hw)) trivial rfl ?_
  rintro r o ⟨rfl, rfl⟩
  refine AK.val _ (Yl.neq rfl rfl) trivial rfl ?_
  refine AK.val _ (Yl.move rfl) trivial rfl ?_
  refine AK.splitB (g := 10) rfl (fun hg_1_3 => ?_) (fun hg_1_3 => ?_)
  · have hg_1_3' := hg_1_3
    try simp only [decide_eq_true_eq, decide_eq_false_iff_not, Bool.not_eq_true', Bool.not_eq_false', Bool.not_not, ne_eq, Decidable.not_not, Int.not_lt, Int.not_le, beq_iff_eq, bne_iff_ne, Bool.and_eq_true, Bool.or_eq_true, Bool.or_eq_false_iff, Bool.not_false, Bool.not_true, reduceCtorEq, not_true_eq_false, not_false_eq_true] at hg_1_3'
    refine AK.pass rfl rfl (hg_1_3) rfl ?_
    refine AK.pass rfl rfl (hg_1_3) rfl ?_
    refine AK.pass rfl rfl (hg_1_3) rfl ?_
    refine AK.val _ (Yl.pickT rfl (hg_1_3) rfl) trivial rfl ?_
    refine AK.val _ (Yl.move rfl) trivial rfl ?_
    refine AK.pass rfl rfl rfl rfl ?_
    refine AK.pass rfl rfl rfl rfl ?_
    refine AK.pass rfl rfl rfl rfl ?_
    refine AK.pass rfl rfl rfl rfl ?_
    refine AK.pass rfl rfl rfl rfl ?_
    refine AK.val _ (Yl.pickT rfl (rfl) rfl) trivial rfl ?_
    refine AK.nil ?_
    refine AK.then_ (hK3 _ ?_)
    refine AK.cond_t rfl (rfl) ?_
    refine AK.seq (fun _ hK4 => ?_)
    refine AK.region ?_
    refine AK.val _ (Yl.assign rfl) trivial rfl ?_
    refine AK.nil ?_
    refine AK.then_ (hK4 _ ?_)
    refine AK.ret ?_
    refine AK.then_ret ?_
    refine AK.ret1 rfl rfl (fun w hw => ⟨_, _, ?_, rfl, Ret.of (hw.pick [] (by decide) rfl rfl)⟩)
    refine ⟨false, rfl, ⟨fun h => (by cases h), fun h => ?_⟩, rfl⟩
    exfalso
    have k1 := (errV_iff d).2 h.vd
    have k2 := (errV_iff m).2 h.vm
    have k3 := h.L
    first | (simp_all; done) | omega
  · have hg_1_3' := hg_1_3
    try simp only [decide_eq_true_eq, decide_eq_false_iff_not, Bool.not_eq_true', Bool.not_eq_false', Bool.not_not, ne_eq, Decidable.not_not, Int.not_lt, Int.not_le, beq_iff_eq, bne_iff_ne, Bool.and_eq_true, Bool.or_eq_true, Bool.or_eq_false_iff, Bool.not_false, Bool.not_true, reduceCtorEq, not_true_eq_false, not_false_eq_true] at hg_1_3'
    refine AK.val _ (Yl.loadBoxG ag25 rfl (by first | ((repeat (first | exact .hd | apply BoxS.tl | apply MapS.tl)); done) | assumption | exact BoxS.arg (by assumption)) rfl rfl) ⟨_, rfl, congrArg (fun b => some (Value.bool b)) hg_1_3⟩ rfl ?_
    refine AK.call co23 rfl (fun w hw => s_validate w _ m (k0.at hw)) ⟨_, rfl, congrArg (fun b => some (Value.bool b)) hg_1_3⟩ rfl ?_
    rintro r o ⟨rfl, rfl⟩
    refine AK.val _ (Yl.neq rfl rfl) ⟨_, rfl, congrArg (fun b => some (Value.bool b)) hg_1_3⟩ rfl ?_
    refine AK.val _ (Yl.pickF rfl (hg_1_3) rfl) trivial rfl ?_
    refine AK.val _ (Yl.move rfl) trivial rfl ?_
    refine AK.splitB (g := 15) rfl (fun hg_1_8 => ?_) (fun hg_1_8 => ?_)
    · have hg_1_8' := hg_1_8
      try simp only [decide_eq_true_eq, decide_eq_false_iff_not, Bool.not_eq_true', Bool.not_eq_false', Bool.not_not, ne_eq, Decidable.not_not, Int.not_lt, Int.not_le, beq_iff_eq, bne_iff_ne, Bool.and_eq_true, Bool.or_eq_true, Bool.or_eq_false_iff, Bool.not_false, Bool.not_true, reduceCtorEq, not_true_eq_false, not_false_eq_true] at hg_1_8'
      refine AK.pass rfl rfl (hg_1_8) rfl ?_
      refine AK.pass rfl rfl (hg_1_8) rfl ?_
      refine AK.pass rfl rfl (hg_1_8) rfl ?_
      refine AK.pass rfl rfl (hg_1_8) rfl ?_
      refine AK.pass rfl rfl (hg_1_8) rfl ?_
      refine AK.val _ (Yl.pickT rfl (hg_1_8) rfl) trivial rfl ?_
      refine AK.nil ?_
      refine AK.then_ (hK3 _ ?_)
      refine AK.cond_t rfl (rfl) ?_
      refine AK.seq (fun _ hK5 => ?_)
      refine AK.region ?_
      refine AK.val _ (Yl.assign rfl) trivial rfl ?_
      refine AK.nil ?_
      refine AK.then_ (hK5 _ ?_)
      refine AK.ret ?_
      refine AK.then_ret ?_
      refine AK.ret1 rfl rfl (fun w hw => ⟨_, _, ?_, rfl, Ret.of (hw.pick [] (by decide) rfl rfl)⟩)
      refine ⟨false, rfl, ⟨fun h => (by cases h), fun h => ?_⟩, rfl⟩
      exfalso
      have k1 := (errV_iff d).2 h.vd
      have k2 := (errV_iff m).2 h.vm
      have k3 := h.L
      first | (simp_all; done) | omega
    · have hg_1_8' := hg_1_8
      try simp only [decide_eq_true_eq, decide_eq_false_iff_not, Bool.not_eq_true', Bool.not_eq_false', Bool.not_not, ne_eq, Decidable.not_not, Int.not_lt, Int.not_le, beq_iff_eq, bne_iff_ne, Bool.and_eq_true, Bool.or_eq_true, Bool.or_eq_false_iff, Bool.not_false, Bool.not_true, reduceCtorEq, not_true_eq_false, not_false_eq_true] at hg_1_8'
      refine AK.val _ (Yl.fieldAddr fd25_0 rfl) ⟨_, rfl, congrArg (fun b => some (Value.bool b)) hg_1_8⟩ rfl ?_
      refine AK.val _ (Yl.loadBox on3 rfl (by first | ((repeat (first | exact .hd | apply BoxS.tl | apply MapS.tl)); done) | assumption | exact BoxS.arg (by assumption)) rfl) ⟨_, rfl, congrArg (fun b => some (Value.bool b)) hg_1_8⟩ rfl ?_
      refine AK.val _ (Yl.fieldAddr fd25_0 rfl) ⟨_, rfl, congrArg (fun b => some (Value.bool b)) hg_1_8⟩ rfl ?_
      refine AK.val _ (Yl.loadBox on3 rfl (by first | ((repeat (first | exact .hd | apply BoxS.tl | apply MapS.tl)); done) | assumption | exact BoxS.arg (by assumption)) rfl) ⟨_, rfl, congrArg (fun b => some (Value.bool b)) hg_1_8⟩ rfl ?_
      refine AK.val _ (Yl.neq rfl rfl) ⟨_, rfl, congrArg (fun b => some (Value.bool b)) hg_1_8⟩ rfl ?_
      refine AK.val _ (Yl.pickF rfl (hg_1_8) rfl) trivial rfl ?_
      refine AK.nil ?_
      refine AK.then_ (hK3 _ ?_)
      refine AK.condNe rfl (fun hc0 => ?_) (fun hc0 => ?_)
      · refine AK.seq (fun _ hK6 => ?_)
        refine AK.region ?_
        refine AK.val _ (Yl.assign rfl) trivial rfl ?_
        refine AK.nil ?_
        refine AK.then_ (hK6 _ ?_)
        refine AK.ret ?_
        refine AK.then_ret ?_
        refine AK.ret1 rfl rfl (fun w hw => ⟨_, _, ?_, rfl, Ret.of (hw.pick [] (by decide) rfl rfl)⟩)
        refine ⟨false, rfl, ⟨fun h => (by cases h), fun h => ?_⟩, rfl⟩
        exfalso
        have k1 := (errV_iff d).2 h.vd
        have k2 := (errV_iff m).2 h.vm
        have k3 := h.L
        first | (simp_all; done) | omega
      · have hv : VD d := (errV_iff d).1 (by simpa using hg_1_3')
        have hvm : VD m := (errV_iff m).1 (by simpa using hg_1_8')
        have hLL : d.L = m.L := by simpa using hc0
        refine AK.skip ?_
        refine AK.then_ (hK2 _ ?_)
        refine AK.seq (fun _ hK7 => ?_)
        refine AK.region ?_
        refine AK.val _ (Yl.loadBoxG ag25 rfl (by first | ((repeat (first | exact .hd | apply BoxS.tl | apply MapS.tl)); done) | assumption | exact BoxS.arg (by assumption)) rfl rfl) trivial rfl ?_
        refine AK.val _ (Yl.loadBoxG ag25 rfl (by first | ((repeat (first | exact .hd | apply BoxS.tl | apply MapS.tl)); done) | assumption | exact BoxS.arg (by assumption)) rfl rfl) trivial rfl ?_
        refine AK.val _ (Yl.fieldAddr fd51_0 rfl) trivial rfl ?_
        refine AK.val _ (Yl.loadBox on26 rfl (by first | ((repeat (first | exact .hd | apply BoxS.tl | apply MapS.tl)); done) | assumption | exact BoxS.arg (by assumption)) rfl) trivial rfl ?_
        refine AK.call co46 rfl (fun w hw => s_checkmap w _ d (h0.at hw) _ m (k0.at hw) hv hvm hLL _ mp (hp0.at hw)) trivial rfl ?_
        rintro r o ⟨b1, rfl, hb1, rfl⟩
        refine AK.val _ (Yl.move rfl) trivial rfl ?_
        refine AK.splitB (g := 27) rfl (fun hg_3_5 => ?_) (fun hg_3_5 => ?_)
        · have hg_3_5' := hg_3_5
          try simp only [decide_eq_true_eq, decide_eq_false_iff_not, Bool.not_eq_true', Bool.not_eq_false', Bool.not_not, ne_eq, Decidable.not_not, Int.not_lt, Int.not_le, beq_iff_eq, bne_iff_ne, Bool.and_eq_true, Bool.or_eq_true, Bool.or_eq_false_iff, Bool.not_false, Bool.not_true, reduceCtorEq, not_true_eq_false, not_false_eq_true] at hg_3_5'
          refine AK.val _ (Yl.loadBoxG ag25 rfl (by first | ((repeat (first | exact .hd | apply BoxS.tl | apply MapS.tl)); done) | assumption | exact BoxS.arg (by assumption)) rfl rfl) ⟨_, rfl, congrArg (fun b => some (Value.bool b)) hg_3_5⟩ rfl ?_
          refine AK.val _ (Yl.fieldAddr fd51_1 rfl) ⟨_, rfl, congrArg (fun b => some (Value.bool b)) hg_3_5⟩ rfl ?_
          refine AK.val _ (Yl.loadBox on49 rfl (by first | ((repeat (first | exact .hd | apply BoxS.tl | apply MapS.tl)); done) | assumption | exact BoxS.arg (by assumption)) rfl) ⟨_, rfl, congrArg (fun b => some (Value.bool b)) hg_3_5⟩ rfl ?_
          refine AK.call co47 rfl (fun w hw => s_checkacc w _ m (k0.at hw) hvm _ ac (ha0.at hw) hla) ⟨_, rfl, congrArg (fun b => some (Value.bool b)) hg_3_5⟩ rfl ?_
          rintro r o ⟨b2, rfl, hb2, rfl⟩
          refine AK.val _ (Yl.pickT rfl (hg_3_5) rfl) trivial rfl ?_
          refine AK.val _ (Yl.move rfl) trivial rfl ?_
          refine AK.splitB (g := 33) rfl (fun hg_3_11 => ?_) (fun hg_3_11 => ?_)
          · have hg_3_11' := hg_3_11
            try simp only [decide_eq_true_eq, decide_eq_false_iff_not, Bool.not_eq_true', Bool.not_eq_false', Bool.not_not, ne_eq, Decidable.not_not, Int.not_lt, Int.not_le, beq_iff_eq, bne_iff_ne, Bool.and_eq_true, Bool.or_eq_true, Bool.or_eq_false_iff, Bool.not_false, Bool.not_true, reduceCtorEq, not_true_eq_false, not_false_eq_true] at hg_3_11'
            refine AK.val _ (Yl.loadBoxG ag25 rfl (by first | ((repeat (first | exact .hd | apply BoxS.tl | apply MapS.tl)); done) | assumption | exact BoxS.arg (by assumption)) rfl rfl) ⟨_, rfl, congrArg (fun b => some (Value.bool b)) hg_3_11⟩ rfl ?_
            refine AK.val _ (Yl.fieldAddr fd51_2 rfl) ⟨_, rfl, congrArg (fun b => some (Value.bool b)) hg_3_11⟩ rfl ?_
            refine AK.val _ (Yl.loadBox on49 rfl (by first | ((repeat (first | exact .hd | apply BoxS.tl | apply MapS.tl)); done) | assumption | exact BoxS.arg (by assumption)) rfl) ⟨_, rfl, congrArg (fun b => some (Value.bool b)) hg_3_11⟩ rfl ?_
            refine AK.call co48 rfl (fun w hw => s_checktests w _ m (k0.at hw) hvm _ ts (ht0.at hw) hlt) ⟨_, rfl, congrArg (fun b => some (Value.bool b)) hg_3_11⟩ rfl ?_
            rintro r o ⟨b3, rfl, hb3, rfl⟩
            refine AK.val _ (Yl.pickT rfl (hg_3_11) rfl) trivial rfl ?_
            refine AK.val _ (Yl.assign rfl) trivial rfl ?_
            refine AK.nil ?_
            refine AK.then_ (hK7 _ ?_)
            refine AK.ret ?_
            refine AK.ret1 rfl rfl (fun w hw => ⟨_, _, ?_, rfl, Ret.of (hw.pick [] (by decide) rfl rfl)⟩)
            exact ⟨_, rfl, ⟨fun h => (by first | (cases h; done) | exact ⟨hv, hvm, hLL, hb1.1 (by assumption), hb2.1 (by assumption), hb3.1 h⟩), fun h => (by have k1 := hb1.2 h.map; first | exact nomatch k1.symm.trans (‹b1 = false›) | (have k2 := hb2.2 h.acc; first | exact nomatch k2.symm.trans (‹b2 = false›) | exact hb3.2 h.tst))⟩, rfl⟩
          · have hg_3_11' := hg_3_11
            try simp only [decide_eq_true_eq, decide_eq_false_iff_not, Bool.not_eq_true', Bool.not_eq_false', Bool.not_not, ne_eq, Decidable.not_not, Int.not_lt, Int.not_le, beq_iff_eq, bne_iff_ne, Bool.and_eq_true, Bool.or_eq_true, Bool.or_eq_false_iff, Bool.not_false, Bool.not_true, reduceCtorEq, not_true_eq_false, not_false_eq_true] at hg_3_11'
            refine AK.pass rfl rfl (hg_3_11) rfl ?_
            refine AK.pass rfl rfl (hg_3_11) rfl ?_
            refine AK.pass rfl rfl (hg_3_11) rfl ?_
            refine AK.pass rfl rfl (hg_3_11) rfl ?_
            refine AK.val _ (Yl.pickF rfl (hg_3_11) rfl) trivial rfl ?_
            refine AK.val _ (Yl.assign rfl) trivial rfl ?_
            refine AK.nil ?_
            refine AK.then_ (hK7 _ ?_)
            refine AK.ret ?_
            refine AK.ret1 rfl rfl (fun w hw => ⟨_, _, ?_, rfl, Ret.of (hw.pick [] (by decide) rfl rfl)⟩)
            exact ⟨_, rfl, ⟨fun h => (by first | (cases h; done) | exact ⟨hv, hvm, hLL, hb1.1 (by assumption), hb2.1 (by assumption), hb3.1 h⟩), fun h => (by have k1 := hb1.2 h.map; first | exact nomatch k1.symm.trans (‹b1 = false›) | (have k2 := hb2.2 h.acc; first | exact nomatch k2.symm.trans (‹b2 = false›) | exact hb3.2 h.tst))⟩, rfl⟩
        · have hg_3_5' := hg_3_5
          try simp only [decide_eq_true_eq, decide_eq_false_iff_not, Bool.not_eq_true', Bool.not_eq_false', Bool.not_not, ne_eq, Decidable.not_not, Int.not_lt, Int.not_le, beq_iff_eq, bne_iff_ne, Bool.and_eq_true, Bool.or_eq_true, Bool.or_eq_false_iff, Bool.not_false, Bool.not_true, reduceCtorEq, not_true_eq_false, not_false_eq_true] at hg_3_5'
          refine AK.pass rfl rfl (hg_3_5) rfl ?_
          refine AK.pass rfl rfl (hg_3_5) rfl ?_
          refine AK.pass rfl rfl (hg_3_5) rfl ?_
          refine AK.pass rfl rfl (hg_3_5) rfl ?_
          refine AK.val _ (Yl.pickF rfl (hg_3_5) rfl) trivial rfl ?_
          refine AK.val _ (Yl.move rfl) trivial rfl ?_
          refine AK.pass rfl rfl rfl rfl ?_
          refine AK.pass rfl rfl rfl rfl ?_
          refine AK.pass rfl rfl rfl rfl ?_
          refine AK.pass rfl rfl rfl rfl ?_
          refine AK.val _ (Yl.pickF rfl (rfl) rfl) trivial rfl ?_
          refine AK.val _ (Yl.assign rfl) trivial rfl ?_
          refine AK.nil ?_
          refine AK.then_ (hK7 _ ?_)
          refine AK.ret ?_
          refine AK.ret1 rfl rfl (fun w hw => ⟨_, _, ?_, rfl, Ret.of (hw.pick [] (by decide) rfl rfl)⟩)
          exact ⟨_, rfl, ⟨fun h => (by first | (cases h; done) | exact ⟨hv, hvm, hLL, hb1.1 (by assumption), hb2.1 (by assumption), hb3.1 h⟩), fun h => (by have k1 := hb1.2 h.map; first | exact nomatch k1.symm.trans (‹b1 = false›) | (have k2 := hb2.2 h.acc; first | exact nomatch k2.symm.trans (‹b2 = false›) | exact hb3.2 h.tst))⟩, rfl⟩

section
open Go.ChangeShapes Go.WideShapes Go.ChangeAt
variable {H : Type} {enc : TypeId × Value → H} {P : Program} {W : World}
/-- the struct of a proof: its fields, as the table of types has them -/
def prfTB (P : Program) (t : TypeId) : Bool := match P.underlying t with
  | some (.struct fs) => match fs[0]?, fs[1]?, fs[2]? with
    | some a, some b, some c =>
      (a.offset == 0 && b.offset == 1 && c.offset == 2) && (P.cellsOf a.type == 1 && P.cellsOf b.type == 1 && P.cellsOf c.type == 1) &&
      (match P.underlying a.type with | some (.slice e) => P.cellsOf e == 1 && (match P.underlying e with | some (.int .i64) => true | _ => false) | _ => false) &&
      (match P.underlying b.type with | some (.slice e) => P.cellsOf e == 1 && (match P.underlying e with | some .string => true | _ => false) | _ => false) &&
      (match P.underlying c.type with | some (.slice e) => P.cellsOf e == 1 && (match P.underlying e with | some .string => true | _ => false) | _ => false) &&
      (P.cellsOf t == 3)
    | _, _, _ => false
  | _ => false
theorem open_prf {t : TypeId} (hB : prfTB P t = true) {v : Value} {d : DataW H} {p : List MemPlace} (hval : Value.okWide P W .any 0 t v) (h : DataW.Trod enc P W 0 (fun _ => true) true t v d p) :
    ∃ (vp va vt : Value) (mp : List Int) (ac ts : List (List UInt8)), v = .agg #[vp, va, vt] ∧ RdL (fun _ => False) (Value.int .i64) W vp mp ∧ RdL (fun _ => False) sv W va ac ∧ (∀ a ∈ ac, a.length ≤ 9223372036854775807) ∧ RdL (fun _ => False) sv W vt ts ∧ (∀ a ∈ ts, a.length ≤ 9223372036854775807) := by
  obtain ⟨fuel, h⟩ := h
  unfold prfTB at hB
  split at hB
  case h_2 => cases hB
  rename_i fs hu
  split at hB
  case h_2 => cases hB
  rename_i a b c ha hb hc
  simp only [Bool.and_eq_true, beq_iff_eq] at hB
  obtain ⟨⟨⟨⟨⟨⟨⟨oa, ob⟩, oc⟩, ⟨ca, cb⟩, cc⟩, hA⟩, hS⟩, hT⟩, ht3⟩ := hB
  obtain ⟨cs, rfl, _⟩ := okWide_struct hu hval
  have h' : DataW.trod enc P W 0 (fun _ => true) true fuel t cs.toList = some (d, p) := by simpa [Value.cells] using h
  obtain ⟨xs, n, _, _, hl, _, hf⟩ := DataW.trod_struct hu h'
  have fa := hf 0 a ha
  have fb := hf 1 b hb
  have fc := hf 2 c hc
  have some_of : ∀ (i : Nat) (g : Field), fs[i]? = some g → ∃ y, xs[i]? = some y := fun i g hg => by
    have : i < xs.length := by
      have h1 := (Array.getElem?_eq_some_iff.1 hg).1
      omega
    exact ⟨xs[i], List.getElem?_eq_getElem this⟩
  obtain ⟨ya, ea⟩ := some_of 0 a ha
  obtain ⟨yb, eb⟩ := some_of 1 b hb
  obtain ⟨yc, ec⟩ := some_of 2 c hc
  rw [ea, oa, ca] at fa
  rw [eb, ob, cb] at fb
  rw [ec, oc, cc] at fc
  rw [ht3] at hl
  split at hA
  case h_2 => cases hA
  rename_i eA uA
  simp only [Bool.and_eq_true, beq_iff_eq] at hA
  obtain ⟨cA, hA⟩ := hA
  split at hA
  case h_2 => cases hA
  rename_i ueA
  split at hS
  case h_2 => cases hS
  rename_i eS uS
  simp only [Bool.and_eq_true, beq_iff_eq] at hS
  obtain ⟨cS, hS⟩ := hS
  split at hS
  case h_2 => cases hS
  rename_i ueS
  split at hT
  case h_2 => cases hT
  rename_i eT uT
  simp only [Bool.and_eq_true, beq_iff_eq] at hT
  obtain ⟨cT, hT⟩ := hT
  split at hT
  case h_2 => cases hT
  rename_i ueT
  have hl3 : cs.toList.length = 3 := hl
  obtain ⟨v0, v1, v2, ecs⟩ : ∃ v0 v1 v2, cs.toList = [v0, v1, v2] := by
    match hq : cs.toList, hl3 with
    | [v0, v1, v2], _ => exact ⟨_, _, _, rfl⟩
  rw [ecs] at fa fb fc
  simp at fa fb fc
  obtain ⟨vp, mp, h0, r0, _⟩ := op_ints uA ueA cA fa
  obtain ⟨va, ac, h1, r1, w1⟩ := op_strs uS ueS cS fb
  obtain ⟨vt, ts, h2, r2, w2⟩ := op_strs uT ueT cT fc
  cases h0; cases h1; cases h2
  exact ⟨_, _, _, mp, ac, ts, by rw [show cs = #[v0, v1, v2] from Array.toList_inj.1 (by simpa using ecs)], r0, r1, w1, r2, w2⟩
end

set_option maxHeartbeats 1000000 in
set_option maxRecDepth 100000 in
theorem l_sound (w : World) (v : Value) (d : Dfa) (h : RdD (fun _ => False) w v d) (vm : Value) (m : Dfa) (k : RdD (fun _ => False) w vm m) (vp va vt : Value) (mp : List Int) (ac ts : List (List UInt8)) (hp : RdL (fun _ => False) (Value.int .i64) w vp mp) (ha : RdL (fun _ => False) sv w va ac) (hla : ∀ a ∈ ac, a.length ≤ 9223372036854775807) (ht : RdL (fun _ => False) sv w vt ts) (hlt : ∀ a ∈ ts, a.length ≤ 9223372036854775807) (l : List UInt8) (hm : l.length ≤ 9223372036854775807) : CallS Try.prog 11 [v, vm, .agg #[vp, va, vt], sv l] w (fun r o => r = .bool true ∧ o = []) := by
  have h0 := h
  obtain ⟨vF, vN, rfl, hF, hN⟩ := h
  have hF0 := hF
  have hN0 := hN
  obtain ⟨rs, hrl, hNr, hNi⟩ := hN
  have sF := hF.sl
  have sN := hNr.sl
  have hmf := hF.le
  have hmn := hNr.le
  unfold RdL at hF
  have k0 := k
  obtain ⟨uF, uN, rfl, gF, gN⟩ := k
  have gF0 := gF
  have gN0 := gN
  obtain ⟨ss, gsl, gNr, gNi⟩ := gN
  have tF := gF.sl
  have tN := gNr.sl
  have gmf := gF.le
  have gmn := gNr.le
  unfold RdL at gF
  have hp0 := hp
  have ha0 := ha
  have ht0 := ht
  have hps := hp.sl
  have has := ha.sl
  have hts := ht.sl
  have hpl := hp.le
  have hal := ha.le
  have htl := ht.le
  unfold RdL at hp ha ht
  refine spec_of Try.func11 rfl (Nat.le_of_ble_eq_true rfl) ?_
  refine AK.seq (fun _ hK1 => ?_)
  refine AK.region ?_
  refine AK.box_ (E := 25) (cs := [.int .i64 d.L, .int .i64 d.s, vF, vN]) rfl rfl rfl trivial rfl (fun bx4 => ?_)
  refine AK.box_ (E := 25) (cs := [.int .i64 m.L, .int .i64 m.s, uF, uN]) rfl rfl rfl trivial rfl (fun bx5 => ?_)
  refine AK.box_ (E := 51) (cs := [vp, va, vt]) rfl rfl rfl trivial rfl (fun bx6 => ?_)
  refine AK.val _ (Yl.assign rfl) trivial rfl ?_
  refine AK.nil ?_
  refine AK.then_ (hK1 _ ?_)
  refine AK.seq (fun _ hK2 => ?_)
  refine AK.seq (fun _ hK3 => ?_)
  refine AK.region ?_
  refine AK.val _ (Yl.loadBoxG ag25 rfl (by first | ((repeat (first | exact .hd | apply BoxS.tl | apply MapS.tl)); done) | assumption | exact BoxS.arg (by assumption)) rfl rfl) trivial rfl ?_
  refine AK.call co22 rfl (fun w hw => s_small w _ d (h0.at hw) 12) trivial rfl ?_
  rintro r o ⟨rfl, rfl⟩
  refine AK.val _ (Yl.not rfl) trivial rfl ?_
  refine AK.val _ (Yl.move rfl) trivial rfl ?_
  refine AK.splitB (g := 14) rfl (fun hg_1_3 => ?_) (fun hg_1_3 => ?_)
  · have hg_1_3' := hg_1_3
    try simp only [decide_eq_true_eq, decide_eq_false_iff_not, Bool.not_eq_true', Bool.not_eq_false', Bool.not_not, ne_eq, Decidable.not_not, Int.not_lt, Int.not_le, beq_iff_eq, bne_iff_ne, Bool.and_eq_true, Bool.or_eq_true, Bool.or_eq_false_iff, Bool.not_false, Bool.not_true, reduceCtorEq, not_true_eq_false, not_false_eq_true] at hg_1_3'
    refine AK.pass rfl rfl (hg_1_3) rfl ?_
    refine AK.pass rfl rfl (hg_1_3) rfl ?_
    refine AK.pass rfl rfl (hg_1_3) rfl ?_
    refine AK.val _ (Yl.pickT rfl (hg_1_3) rfl) trivial rfl ?_
    refine AK.val _ (Yl.move rfl) trivial rfl ?_
    refine AK.pass rfl rfl rfl rfl ?_
    refine AK.pass rfl rfl rfl rfl ?_
    refine AK.pass rfl rfl rfl rfl ?_
    refine AK.pass rfl rfl rfl rfl ?_
    refine AK.pass rfl rfl rfl rfl ?_
    refine AK.val _ (Yl.pickT rfl (rfl) rfl) trivial rfl ?_
    refine AK.nil ?_
    refine AK.then_ (hK3 _ ?_)
    refine AK.cond_t rfl (rfl) ?_
    refine AK.seq (fun _ hK4 => ?_)
    refine AK.region ?_
    refine AK.call co16 rfl (fun w hw => s_awake w) trivial rfl ?_
    rintro r o ⟨rfl, rfl⟩
    refine AK.val _ (Yl.assign rfl) trivial rfl ?_
    refine AK.nil ?_
    refine AK.then_ (hK4 _ ?_)
    refine AK.ret ?_
    refine AK.then_ret ?_
    refine AK.ret1 rfl rfl (fun w hw => ⟨_, _, ?_, rfl, Ret.of (hw.pick [] (by decide) rfl rfl)⟩)
    exact ⟨rfl, rfl⟩
  · have hg_1_3' := hg_1_3
    try simp only [decide_eq_true_eq, decide_eq_false_iff_not, Bool.not_eq_true', Bool.not_eq_false', Bool.not_not, ne_eq, Decidable.not_not, Int.not_lt, Int.not_le, beq_iff_eq, bne_iff_ne, Bool.and_eq_true, Bool.or_eq_true, Bool.or_eq_false_iff, Bool.not_false, Bool.not_true, reduceCtorEq, not_true_eq_false, not_false_eq_true] at hg_1_3'
    refine AK.val _ (Yl.loadBoxG ag25 rfl (by first | ((repeat (first | exact .hd | apply BoxS.tl | apply MapS.tl)); done) | assumption | exact BoxS.arg (by assumption)) rfl rfl) ⟨_, rfl, congrArg (fun b => some (Value.bool b)) hg_1_3⟩ rfl ?_
    refine AK.call co22 rfl (fun w hw => s_small w _ m (k0.at hw) 12) ⟨_, rfl, congrArg (fun b => some (Value.bool b)) hg_1_3⟩ rfl ?_
    rintro r o ⟨rfl, rfl⟩
    refine AK.val _ (Yl.not rfl) ⟨_, rfl, congrArg (fun b => some (Value.bool b)) hg_1_3⟩ rfl ?_
    refine AK.val _ (Yl.pickF rfl (hg_1_3) rfl) trivial rfl ?_
    refine AK.val _ (Yl.move rfl) trivial rfl ?_
    refine AK.splitB (g := 19) rfl (fun hg_1_8 => ?_) (fun hg_1_8 => ?_)
    · have hg_1_8' := hg_1_8
      try simp only [decide_eq_true_eq, decide_eq_false_iff_not, Bool.not_eq_true', Bool.not_eq_false', Bool.not_not, ne_eq, Decidable.not_not, Int.not_lt, Int.not_le, beq_iff_eq, bne_iff_ne, Bool.and_eq_true, Bool.or_eq_true, Bool.or_eq_false_iff, Bool.not_false, Bool.not_true, reduceCtorEq, not_true_eq_false, not_false_eq_true] at hg_1_8'
      refine AK.pass rfl rfl (hg_1_8) rfl ?_
      refine AK.pass rfl rfl (hg_1_8) rfl ?_
      refine AK.pass rfl rfl (hg_1_8) rfl ?_
      refine AK.pass rfl rfl (hg_1_8) rfl ?_
      refine AK.pass rfl rfl (hg_1_8) rfl ?_
      refine AK.val _ (Yl.pickT rfl (hg_1_8) rfl) trivial rfl ?_
      refine AK.nil ?_
      refine AK.then_ (hK3 _ ?_)
      refine AK.cond_t rfl (rfl) ?_
      refine AK.seq (fun _ hK5 => ?_)
      refine AK.region ?_
      refine AK.call co16 rfl (fun w hw => s_awake w) trivial rfl ?_
      rintro r o ⟨rfl, rfl⟩
      refine AK.val _ (Yl.assign rfl) trivial rfl ?_
      refine AK.nil ?_
      refine AK.then_ (hK5 _ ?_)
      refine AK.ret ?_
      refine AK.then_ret ?_
      refine AK.ret1 rfl rfl (fun w hw => ⟨_, _, ?_, rfl, Ret.of (hw.pick [] (by decide) rfl rfl)⟩)
      exact ⟨rfl, rfl⟩
    · have hg_1_8' := hg_1_8
      try simp only [decide_eq_true_eq, decide_eq_false_iff_not, Bool.not_eq_true', Bool.not_eq_false', Bool.not_not, ne_eq, Decidable.not_not, Int.not_lt, Int.not_le, beq_iff_eq, bne_iff_ne, Bool.and_eq_true, Bool.or_eq_true, Bool.or_eq_false_iff, Bool.not_false, Bool.not_true, reduceCtorEq, not_true_eq_false, not_false_eq_true] at hg_1_8'
      refine AK.val _ (Yl.loadBoxG ag25 rfl (by first | ((repeat (first | exact .hd | apply BoxS.tl | apply MapS.tl)); done) | assumption | exact BoxS.arg (by assumption)) rfl rfl) ⟨_, rfl, congrArg (fun b => some (Value.bool b)) hg_1_8⟩ rfl ?_
      refine AK.val _ (Yl.loadBoxG ag25 rfl (by first | ((repeat (first | exact .hd | apply BoxS.tl | apply MapS.tl)); done) | assumption | exact BoxS.arg (by assumption)) rfl rfl) ⟨_, rfl, congrArg (fun b => some (Value.bool b)) hg_1_8⟩ rfl ?_
      refine AK.val _ (Yl.loadBoxG ag51 rfl (by first | ((repeat (first | exact .hd | apply BoxS.tl | apply MapS.tl)); done) | assumption | exact BoxS.arg (by assumption)) rfl rfl) ⟨_, rfl, congrArg (fun b => some (Value.bool b)) hg_1_8⟩ rfl ?_
      refine AK.call co32 rfl (fun w hw => s_check w _ d (h0.at hw) _ m (k0.at hw) _ _ _ mp ac ts (hp0.at hw) (ha0.at hw) hla (ht0.at hw) hlt) ⟨_, rfl, congrArg (fun b => some (Value.bool b)) hg_1_8⟩ rfl ?_
      rintro r o ⟨b1, rfl, hb1, rfl⟩
      refine AK.val _ (Yl.not rfl) ⟨_, rfl, congrArg (fun b => some (Value.bool b)) hg_1_8⟩ rfl ?_
      refine AK.val _ (Yl.pickF rfl (hg_1_8) rfl) trivial rfl ?_
      refine AK.nil ?_
      refine AK.then_ (hK3 _ ?_)
      refine AK.condB rfl (fun hc0 => ?_) (fun hc0 => ?_)
      · refine AK.seq (fun _ hK6 => ?_)
        refine AK.region ?_
        refine AK.call co16 rfl (fun w hw => s_awake w) trivial rfl ?_
        rintro r o ⟨rfl, rfl⟩
        refine AK.val _ (Yl.assign rfl) trivial rfl ?_
        refine AK.nil ?_
        refine AK.then_ (hK6 _ ?_)
        refine AK.ret ?_
        refine AK.then_ret ?_
        refine AK.ret1 rfl rfl (fun w hw => ⟨_, _, ?_, rfl, Ret.of (hw.pick [] (by decide) rfl rfl)⟩)
        exact ⟨rfl, rfl⟩
      · have hk := hb1.1 (by simpa using hc0)
        obtain ⟨hacc, htm⟩ := hk.sound l
        refine AK.skip ?_
        refine AK.then_ (hK2 _ ?_)
        refine AK.seq (fun _ hK7 => ?_)
        refine AK.region ?_
        refine AK.val _ (Yl.loadBoxG ag25 rfl (by first | ((repeat (first | exact .hd | apply BoxS.tl | apply MapS.tl)); done) | assumption | exact BoxS.arg (by assumption)) rfl rfl) trivial rfl ?_
        refine AK.call co24 rfl (fun w hw => s_trim w _ m (k0.at hw)) trivial rfl ?_
        rintro r o ⟨tF1, tN1, tM, trs, rfl, htrs, stF, stN, stM, rfl⟩
        refine AK.val _ (Yl.move rfl) trivial rfl ?_
        refine AK.val _ (Yl.extract rfl rfl) trivial rfl ?_
        refine AK.val _ (Yl.extract rfl rfl) trivial rfl ?_
        refine AK.alloc el25 rfl rfl trivial rfl (fun bx9 => ?_)
        refine AK.storeBox 7 (us := [.int .i64 (TrimV m).L, .int .i64 (TrimV m).s, tF1, tN1]) (cs' := [.int .i64 (TrimV m).L, .int .i64 (TrimV m).s, tF1, tN1]) rfl sz25 rfl rfl rfl rfl (by repeat (first | exact one'_nil | refine one'_cons (by first | rfl | exact IsSl.one (by assumption) | exact IsSl.one nilSl) ?_)) (Nat.le_of_ble_eq_true rfl) rfl trivial ?_
        refine AK.val _ (Yl.assign rfl) trivial rfl ?_
        refine AK.nil ?_
        refine AK.then_ (hK7 _ ?_)
        refine AK.seq (fun _ hK8 => ?_)
        try (conv => enter [2, 2]; dsimp only [List.set_cons_zero, List.set_cons_succ, List.cons_append, List.nil_append])
        refine AK.held 17 mixed ?_
        refine HeldK.first 0 (fuel := 16) (listed' := #[true, false, false, false, false, false, false, false, false, false, false, false, false, false, false, false, false]) _ rfl (by kernel_rfl) rfl rfl (Yl.loadBoxG ag25 rfl (by first | ((repeat (first | exact .hd | apply BoxS.tl | apply MapS.tl)); done) | assumption | exact BoxS.arg (by assumption)) rfl rfl) trivial rfl ?_
        refine HeldK.first 1 (fuel := 15) (listed' := #[true, true, false, false, false, false, false, false, false, false, false, false, false, false, false, false, false]) _ rfl (by kernel_rfl) rfl rfl (Yl.move rfl) trivial rfl ?_
        refine HeldK.first 3 (fuel := 14) (listed' := #[true, true, false, true, false, false, false, false, false, false, false, false, false, false, false, false, false]) _ rfl (by kernel_rfl) rfl rfl (Yl.loadBoxG ag25 rfl (by first | ((repeat (first | exact .hd | apply BoxS.tl | apply MapS.tl)); done) | assumption | exact BoxS.arg (by assumption)) rfl rfl) trivial rfl ?_
        refine HeldK.first 4 (fuel := 13) (listed' := #[true, true, false, true, true, false, false, false, false, false, false, false, false, false, false, false, false]) _ rfl (by kernel_rfl) rfl rfl (Yl.move rfl) trivial rfl ?_
        refine HeldK.one 2 (fuel := 12) (listed' := #[true, true, true, true, true, false, false, false, false, false, false, false, false, false, false, false, false]) (by kernel_rfl) rfl rfl ?_
        refine AK.call co25 rfl (fun w hw => s_acc w _ d (h0.at hw) l hm) trivial rfl ?_
        rintro r o ⟨rfl, rfl⟩
        refine AK.nil ?_
        try (conv => enter [2, 2]; dsimp only [List.set_cons_zero, List.set_cons_succ, List.cons_append, List.nil_append])
        refine HeldK.back (by repeat (first | exact HWle.nil | refine HWle.cons Ale.rfl ?_ | refine HWle.cons Ale.fst ?_)) ?_
        refine HeldK.one 5 (fuel := 11) (listed' := #[true, true, true, true, true, true, false, false, false, false, false, false, false, false, false, false, false]) (by kernel_rfl) rfl rfl ?_
        refine AK.call co25 rfl (fun w hw => s_acc w _ m (k0.at hw) l hm) trivial rfl ?_
        rintro r o ⟨rfl, rfl⟩
        refine AK.nil ?_
        try (conv => enter [2, 2]; dsimp only [List.set_cons_zero, List.set_cons_succ, List.cons_append, List.nil_append])
        refine HeldK.back (by repeat (first | exact HWle.nil | refine HWle.cons Ale.rfl ?_ | refine HWle.cons Ale.fst ?_)) ?_
        refine HeldK.first 6 (fuel := 10) (listed' := #[true, true, true, true, true, true, true, false, false, false, false, false, false, false, false, false, false]) _ rfl (by kernel_rfl) rfl rfl (Yl.eqlB bo4 rfl rfl) trivial rfl ?_
        refine HeldK.first 7 (fuel := 9) (listed' := #[true, true, true, true, true, true, true, true, false, false, false, false, false, false, false, false, false]) _ rfl (by kernel_rfl) rfl rfl (Yl.move rfl) trivial rfl ?_
        refine AK.knownT (g := 39) rfl (by rw [hacc]; exact beq_self_eq_true _) (fun hg_4_7 => ?_)
        refine HeldK.first 8 (fuel := 8) (listed' := #[true, true, true, true, true, true, true, true, true, false, false, false, false, false, false, false, false]) _ rfl (by kernel_rfl) rfl rfl (Yl.loadBoxG ag25 rfl (by first | ((repeat (first | exact .hd | apply BoxS.tl | apply MapS.tl)); done) | assumption | exact BoxS.arg (by assumption)) rfl rfl) ⟨_, rfl, congrArg (fun b => some (Value.bool b)) hg_4_7⟩ rfl ?_
        refine HeldK.first 9 (fuel := 7) (listed' := #[true, true, true, true, true, true, true, true, true, true, false, false, false, false, false, false, false]) _ rfl (by kernel_rfl) rfl rfl (Yl.loadBoxG ag25 rfl (by first | ((repeat (first | exact .hd | apply BoxS.tl | apply MapS.tl)); done) | assumption | exact BoxS.arg (by assumption)) rfl rfl) ⟨_, rfl, congrArg (fun b => some (Value.bool b)) hg_4_7⟩ rfl ?_
        refine HeldK.one 10 (fuel := 6) (listed' := #[true, true, true, true, true, true, true, true, true, true, true, false, false, false, false, false, false]) (by kernel_rfl) rfl rfl ?_
        refine AK.call co19 rfl (fun w hw => s_min w _ d (h0.at hw)) ⟨_, rfl, congrArg (fun b => some (Value.bool b)) hg_4_7⟩ rfl ?_
        rintro r o ⟨mF, mN, mrs, rfl, hmrs, smF, smN, rfl⟩
        refine AK.nil ?_
        try (conv => enter [2, 2]; dsimp only [List.set_cons_zero, List.set_cons_succ, List.cons_append, List.nil_append])
        refine HeldK.back (by repeat (first | exact HWle.nil | refine HWle.cons Ale.rfl ?_ | refine HWle.cons Ale.fst ?_)) ?_
        refine HeldK.one 11 (fuel := 5) (listed' := #[true, true, true, true, true, true, true, true, true, true, true, true, false, false, false, false, false]) (by kernel_rfl) rfl rfl ?_
        refine AK.call co20 rfl (fun w hw => s_sameD w _ _ (TrimV m) (MinV d) (RdD.own 3 hw htrs rfl rfl rfl) (RdD.own 8 hw hmrs rfl rfl rfl)) ⟨_, rfl, congrArg (fun b => some (Value.bool b)) hg_4_7⟩ rfl ?_
        rintro r o ⟨rfl, rfl⟩
        refine AK.nil ?_
        try (conv => enter [2, 2]; dsimp only [List.set_cons_zero, List.set_cons_succ, List.cons_append, List.nil_append])
        refine HeldK.back (by repeat (first | exact HWle.nil | refine HWle.cons Ale.rfl ?_ | refine HWle.cons Ale.fst ?_)) ?_
        refine HeldK.first 12 (fuel := 4) (listed' := #[true, true, true, true, true, true, true, true, true, true, true, true, true, false, false, false, false]) _ rfl (by kernel_rfl) rfl rfl (Yl.pickT rfl (hg_4_7) rfl) trivial rfl ?_
        refine HeldK.first 13 (fuel := 3) (listed' := #[true, true, true, true, true, true, true, true, true, true, true, true, true, true, false, false, false]) _ rfl (by kernel_rfl) rfl rfl (Yl.move rfl) trivial rfl ?_
        refine HeldK.one 14 (fuel := 2) (listed' := #[true, true, true, true, true, true, true, true, true, true, true, true, true, true, true, false, false]) (by kernel_rfl) rfl rfl ?_
        refine AK.knownT (g := 45) rfl (decide_eq_true htm) (fun hg_4_13 => ?_)
        refine AK.call co16 rfl (fun w hw => s_awake w) ⟨_, rfl, congrArg (fun b => some (Value.bool b)) hg_4_13⟩ rfl ?_
        rintro r o ⟨rfl, rfl⟩
        refine AK.nil ?_
        try (conv => enter [2, 2]; dsimp only [List.set_cons_zero, List.set_cons_succ, List.cons_append, List.nil_append])
        refine HeldK.back (by repeat (first | exact HWle.nil | refine HWle.cons Ale.rfl ?_ | refine HWle.cons Ale.fst ?_)) ?_
        refine HeldK.first 15 (fuel := 1) (listed' := #[true, true, true, true, true, true, true, true, true, true, true, true, true, true, true, true, false]) _ rfl (by kernel_rfl) rfl rfl (Yl.pickT rfl (hg_4_13) rfl) trivial rfl ?_
        refine HeldK.first 16 (fuel := 0) (listed' := #[true, true, true, true, true, true, true, true, true, true, true, true, true, true, true, true, true]) _ rfl (by kernel_rfl) rfl rfl (Yl.assign rfl) trivial rfl ?_
        refine HeldK.done (by kernel_rfl) ?_
        refine AK.then_ (hK8 _ ?_)
        refine AK.ret ?_
        refine AK.ret1 rfl rfl (fun w hw => ⟨_, _, ?_, rfl, Ret.of (hw.pick [] (by decide) rfl rfl)⟩)
        exact ⟨rfl, rfl⟩

end Go.Proofs.Ytoikhoniogicdaa

set_option linter.unusedVariables false
set_option linter.unusedSimpArgs false
namespace Go.Proofs.Ytoikhoniogicdaa
open Go.Sx Go.RowKit
def apB (m : Dfa) (ts : List (List UInt8)) (p q : Int) : Bool := ts.any fun w => finQ m (runI m p w) != finQ m (runI m q w)
theorem apB_snoc {m : Dfa} {ts : List (List UInt8)} {p q : Int} {w : List UInt8} : apB m (ts ++ [w]) p q = (apB m ts p q || (finQ m (runI m p w) != finQ m (runI m q w))) := by simp [apB]
theorem apB_iff {m : Dfa} {ts : List (List UInt8)} {p q : Int} : apB m ts p q = false ↔ SameT m ts p q := by
  unfold apB SameT
  rw [List.any_eq_false]
  simp
theorem apB_sep {m : Dfa} {ts : List (List UInt8)} (h : ∀ i, i < m.fin.length → ∀ j, j < i → apB m ts (i : Int) (j : Int) = true) : ∀ p q, InR m p → InR m q → SameT m ts p q → p = q := by
  intro p q hp hq hs
  have hp1 := hp.1
  have hp2 := hp.2
  have hq1 := hq.1
  have hq2 := hq.2
  have ep : ((p.toNat : Nat) : Int) = p := by omega
  have eq : ((q.toNat : Nat) : Int) = q := by omega
  rcases Nat.lt_trichotomy p.toNat q.toNat with h1 | h1 | h1
  · have h2 := h q.toNat (by omega) p.toNat h1
    rw [ep, eq, apB_iff.2 (fun w hw => (hs w hw).symm)] at h2
    cases h2
  · omega
  · have h2 := h p.toNat (by omega) q.toNat h1
    rw [ep, eq, apB_iff.2 hs] at h2
    cases h2
theorem run_of {m : Dfa} (hv : VD m) {q : Nat} (hq : q < m.fin.length) {l : List UInt8} (hl : validW m.L l = true) : RunV m (q : Int) l = runI m (q : Int) l := by
  unfold RunV
  rw [if_pos ⟨(errV_iff m).2 hv, ⟨by omega, by omega⟩, hl⟩]
set_option maxHeartbeats 2000000 in
set_option maxRecDepth 100000 in
theorem s_refcheck (w : World) (v : Value) (d : Dfa) (h : RdD (fun _ => False) w v d) (vm : Value) (m : Dfa) (k : RdD (fun _ => False) w vm m) (vp va vt : Value) (mp : List Int) (ac ts : List (List UInt8)) (hp : RdL (fun _ => False) (Value.int .i64) w vp mp) (ha : RdL (fun _ => False) sv w va ac) (hla : ∀ a ∈ ac, a.length ≤ 9223372036854775807) (ht : RdL (fun _ => False) sv w vt ts) (hlt : ∀ a ∈ ts, a.length ≤ 9223372036854775807) : CallS Try.prog 33 [v, vm, .agg #[vp, va, vt]] w (fun r o => ∃ b, r = .bool b ∧ (b = true ↔ ChkP d m mp ac ts) ∧ o = []) := by
  have h0 := h
  obtain ⟨vF, vN, rfl, hF, hN⟩ := h
  have hF0 := hF
  have hN0 := hN
  obtain ⟨rs, hrl, hNr, hNi⟩ := hN
  have sF := hF.sl
  have sN := hNr.sl
  have hmf := hF.le
  have hmn := hNr.le
  unfold RdL at hF
  have k0 := k
  obtain ⟨uF, uN, rfl, gF, gN⟩ := k
  have gF0 := gF
  have gN0 := gN
  obtain ⟨ss, gsl, gNr, gNi⟩ := gN
  have tF := gF.sl
  have tN := gNr.sl
  have gmf := gF.le
  have gmn := gNr.le
  unfold RdL at gF
  have hp0 := hp
  have ha0 := ha
  have ht0 := ht
  have hps := hp.sl
  have has := ha.sl
  have hts := ht.sl
  have hpl := hp.le
  have hal := ha.le
  have htl := ht.le
  unfold RdL at hp ha ht
  refine spec_of Try.func33 rfl (Nat.le_of_ble_eq_true rfl) ?_
  refine AK.seq (fun _ hK1 => ?_)
  refine AK.region ?_
  refine AK.box_ (E := 25) (cs := [.int .i64 d.L, .int .i64 d.s, vF, vN]) rfl rfl rfl trivial rfl (fun bx3 => ?_)
  refine AK.box_ (E := 25) (cs := [.int .i64 m.L, .int .i64 m.s, uF, uN]) rfl rfl rfl trivial rfl (fun bx4 => ?_)
  refine AK.box_ (E := 51) (cs := [vp, va, vt]) rfl rfl rfl trivial rfl (fun bx5 => ?_)
  refine AK.val _ (Yl.assign rfl) trivial rfl ?_
  refine AK.nil ?_
  refine AK.then_ (hK1 _ ?_)
  refine AK.seq (fun _ hK2 => ?_)
  refine AK.region ?_
  refine AK.val _ (Yl.fieldAddr fd25_2 rfl) trivial rfl ?_
  refine AK.val _ (Yl.loadBox on22 rfl (by first | ((repeat (first | exact .hd | apply BoxS.tl | apply MapS.tl)); done) | assumption | exact BoxS.arg (by assumption)) rfl) trivial rfl ?_
  refine AK.val _ (Yl.lenR sl22 rfl (by first | exact .arg ‹_› | ((repeat (first | exact .hd | apply RdS.tl)); done) | assumption | exact .arg (hNi _ (by omega)) | exact .arg (gNi _ (by omega)))) trivial rfl ?_
  refine AK.val _ (Yl.assign rfl) trivial rfl ?_
  refine AK.nil ?_
  refine AK.then_ (hK2 _ ?_)
  refine AK.seq (fun _ hK3 => ?_)
  refine AK.seq (fun _ hK4 => ?_)
  refine AK.region ?_
  refine AK.val _ (Yl.loadBoxG ag25 rfl (by first | ((repeat (first | exact .hd | apply BoxS.tl | apply MapS.tl)); done) | assumption | exact BoxS.arg (by assumption)) rfl rfl) trivial rfl ?_
  refine AK.call co15 rfl (fun w hw => s_refvalidate w _ d (h0.at hw)) trivial rfl ?_
  rintro r o ⟨rfl, rfl⟩
  refine AK.val _ (Yl.neq rfl rfl) trivial rfl ?_
  refine AK.val _ (Yl.move rfl) trivial rfl ?_
  refine AK.splitB (g := 28) rfl (fun hg_2_3 => ?_) (fun hg_2_3 => ?_)
  · have hg_2_3' := hg_2_3
    try simp only [decide_eq_true_eq, decide_eq_false_iff_not, Bool.not_eq_true', Bool.not_eq_false', Bool.not_not, ne_eq, Decidable.not_not, Int.not_lt, Int.not_le, beq_iff_eq, bne_iff_ne, Bool.and_eq_true, Bool.or_eq_true, Bool.or_eq_false_iff, Bool.not_false, Bool.not_true, reduceCtorEq, not_true_eq_false, not_false_eq_true] at hg_2_3'
    refine AK.pass rfl rfl (hg_2_3) rfl ?_
    refine AK.pass rfl rfl (hg_2_3) rfl ?_
    refine AK.pass rfl rfl (hg_2_3) rfl ?_
    refine AK.val _ (Yl.pickT rfl (hg_2_3) rfl) trivial rfl ?_
    refine AK.val _ (Yl.move rfl) trivial rfl ?_
    refine AK.pass rfl rfl rfl rfl ?_
    refine AK.pass rfl rfl rfl rfl ?_
    refine AK.pass rfl rfl rfl rfl ?_
    refine AK.pass rfl rfl rfl rfl ?_
    refine AK.pass rfl rfl rfl rfl ?_
    refine AK.val _ (Yl.pickT rfl (rfl) rfl) trivial rfl ?_
    refine AK.val _ (Yl.move rfl) trivial rfl ?_
    refine AK.pass rfl rfl rfl rfl ?_
    refine AK.pass rfl rfl rfl rfl ?_
    refine AK.pass rfl rfl rfl rfl ?_
    refine AK.pass rfl rfl rfl rfl ?_
    refine AK.pass rfl rfl rfl rfl ?_
    refine AK.pass rfl rfl rfl rfl ?_
    refine AK.pass rfl rfl rfl rfl ?_
    refine AK.val _ (Yl.pickT rfl (rfl) rfl) trivial rfl ?_
    refine AK.val _ (Yl.move rfl) trivial rfl ?_
    refine AK.pass rfl rfl rfl rfl ?_
    refine AK.pass rfl rfl rfl rfl ?_
    refine AK.pass rfl rfl rfl rfl ?_
    refine AK.pass rfl rfl rfl rfl ?_
    refine AK.pass rfl rfl rfl rfl ?_
    refine AK.val _ (Yl.pickT rfl (rfl) rfl) trivial rfl ?_
    refine AK.val _ (Yl.move rfl) trivial rfl ?_
    refine AK.pass rfl rfl rfl rfl ?_
    refine AK.pass rfl rfl rfl rfl ?_
    refine AK.pass rfl rfl rfl rfl ?_
    refine AK.pass rfl rfl rfl rfl ?_
    refine AK.pass rfl rfl rfl rfl ?_
    refine AK.pass rfl rfl rfl rfl ?_
    refine AK.val _ (Yl.pickT rfl (rfl) rfl) trivial rfl ?_
    refine AK.nil ?_
    refine AK.then_ (hK4 _ ?_)
    refine AK.cond_t rfl (rfl) ?_
    refine AK.seq (fun _ hK5 => ?_)
    refine AK.region ?_
    refine AK.val _ (Yl.assign rfl) trivial rfl ?_
    refine AK.nil ?_
    refine AK.then_ (hK5 _ ?_)
    refine AK.ret ?_
    refine AK.then_ret ?_
    refine AK.ret1 rfl rfl (fun w hw => ⟨_, _, ?_, rfl, Ret.of (hw.pick [] (by decide) rfl rfl)⟩)
    refine ⟨false, rfl, ⟨fun h => (by cases h), fun h => ?_⟩, rfl⟩
    exfalso
    have k1 := (errV_iff d).2 h.vd
    have k2 := (errV_iff m).2 h.vm
    have k3 := h.L
    have k4 := h.map.len
    have k5 := h.acc.len
    have k6 := h.tst.len
    first | (simp_all; done) | omega | (simp_all; omega)
  · have hg_2_3' := hg_2_3
    try simp only [decide_eq_true_eq, decide_eq_false_iff_not, Bool.not_eq_true', Bool.not_eq_false', Bool.not_not, ne_eq, Decidable.not_not, Int.not_lt, Int.not_le, beq_iff_eq, bne_iff_ne, Bool.and_eq_true, Bool.or_eq_true, Bool.or_eq_false_iff, Bool.not_false, Bool.not_true, reduceCtorEq, not_true_eq_false, not_false_eq_true] at hg_2_3'
    refine AK.val _ (Yl.loadBoxG ag25 rfl (by first | ((repeat (first | exact .hd | apply BoxS.tl | apply MapS.tl)); done) | assumption | exact BoxS.arg (by assumption)) rfl rfl) ⟨_, rfl, congrArg (fun b => some (Value.bool b)) hg_2_3⟩ rfl ?_
    refine AK.call co15 rfl (fun w hw => s_refvalidate w _ m (k0.at hw)) ⟨_, rfl, congrArg (fun b => some (Value.bool b)) hg_2_3⟩ rfl ?_
    rintro r o ⟨rfl, rfl⟩
    refine AK.val _ (Yl.neq rfl rfl) ⟨_, rfl, congrArg (fun b => some (Value.bool b)) hg_2_3⟩ rfl ?_
    refine AK.val _ (Yl.pickF rfl (hg_2_3) rfl) trivial rfl ?_
    refine AK.val _ (Yl.move rfl) trivial rfl ?_
    refine AK.splitB (g := 33) rfl (fun hg_2_8 => ?_) (fun hg_2_8 => ?_)
    · have hg_2_8' := hg_2_8
      try simp only [decide_eq_true_eq, decide_eq_false_iff_not, Bool.not_eq_true', Bool.not_eq_false', Bool.not_not, ne_eq, Decidable.not_not, Int.not_lt, Int.not_le, beq_iff_eq, bne_iff_ne, Bool.and_eq_true, Bool.or_eq_true, Bool.or_eq_false_iff, Bool.not_false, Bool.not_true, reduceCtorEq, not_true_eq_false, not_false_eq_true] at hg_2_8'
      refine AK.pass rfl rfl (hg_2_8) rfl ?_
      refine AK.pass rfl rfl (hg_2_8) rfl ?_
      refine AK.pass rfl rfl (hg_2_8) rfl ?_
      refine AK.pass rfl rfl (hg_2_8) rfl ?_
      refine AK.pass rfl rfl (hg_2_8) rfl ?_
      refine AK.val _ (Yl.pickT rfl (hg_2_8) rfl) trivial rfl ?_
      refine AK.val _ (Yl.move rfl) trivial rfl ?_
      refine AK.pass rfl rfl rfl rfl ?_
      refine AK.pass rfl rfl rfl rfl ?_
      refine AK.pass rfl rfl rfl rfl ?_
      refine AK.pass rfl rfl rfl rfl ?_
      refine AK.pass rfl rfl rfl rfl ?_
      refine AK.pass rfl rfl rfl rfl ?_
      refine AK.pass rfl rfl rfl rfl ?_
      refine AK.val _ (Yl.pickT rfl (rfl) rfl) trivial rfl ?_
      refine AK.val _ (Yl.move rfl) trivial rfl ?_
      refine AK.pass rfl rfl rfl rfl ?_
      refine AK.pass rfl rfl rfl rfl ?_
      refine AK.pass rfl rfl rfl rfl ?_
      refine AK.pass rfl rfl rfl rfl ?_
      refine AK.pass rfl rfl rfl rfl ?_
      refine AK.val _ (Yl.pickT rfl (rfl) rfl) trivial rfl ?_
      refine AK.val _ (Yl.move rfl) trivial rfl ?_
      refine AK.pass rfl rfl rfl rfl ?_
      refine AK.pass rfl rfl rfl rfl ?_
      refine AK.pass rfl rfl rfl rfl ?_
      refine AK.pass rfl rfl rfl rfl ?_
      refine AK.pass rfl rfl rfl rfl ?_
      refine AK.pass rfl rfl rfl rfl ?_
      refine AK.val _ (Yl.pickT rfl (rfl) rfl) trivial rfl ?_
      refine AK.nil ?_
      refine AK.then_ (hK4 _ ?_)
      refine AK.cond_t rfl (rfl) ?_
      refine AK.seq (fun _ hK6 => ?_)
      refine AK.region ?_
      refine AK.val _ (Yl.assign rfl) trivial rfl ?_
      refine AK.nil ?_
      refine AK.then_ (hK6 _ ?_)
      refine AK.ret ?_
      refine AK.then_ret ?_
      refine AK.ret1 rfl rfl (fun w hw => ⟨_, _, ?_, rfl, Ret.of (hw.pick [] (by decide) rfl rfl)⟩)
      refine ⟨false, rfl, ⟨fun h => (by cases h), fun h => ?_⟩, rfl⟩
      exfalso
      have k1 := (errV_iff d).2 h.vd
      have k2 := (errV_iff m).2 h.vm
      have k3 := h.L
      have k4 := h.map.len
      have k5 := h.acc.len
      have k6 := h.tst.len
      first | (simp_all; done) | omega | (simp_all; omega)
    · have hg_2_8' := hg_2_8
      try simp only [decide_eq_true_eq, decide_eq_false_iff_not, Bool.not_eq_true', Bool.not_eq_false', Bool.not_not, ne_eq, Decidable.not_not, Int.not_lt, Int.not_le, beq_iff_eq, bne_iff_ne, Bool.and_eq_true, Bool.or_eq_true, Bool.or_eq_false_iff, Bool.not_false, Bool.not_true, reduceCtorEq, not_true_eq_false, not_false_eq_true] at hg_2_8'
      refine AK.val _ (Yl.fieldAddr fd25_0 rfl) ⟨_, rfl, congrArg (fun b => some (Value.bool b)) hg_2_8⟩ rfl ?_
      refine AK.val _ (Yl.loadBox on3 rfl (by first | ((repeat (first | exact .hd | apply BoxS.tl | apply MapS.tl)); done) | assumption | exact BoxS.arg (by assumption)) rfl) ⟨_, rfl, congrArg (fun b => some (Value.bool b)) hg_2_8⟩ rfl ?_
      refine AK.val _ (Yl.fieldAddr fd25_0 rfl) ⟨_, rfl, congrArg (fun b => some (Value.bool b)) hg_2_8⟩ rfl ?_
      refine AK.val _ (Yl.loadBox on3 rfl (by first | ((repeat (first | exact .hd | apply BoxS.tl | apply MapS.tl)); done) | assumption | exact BoxS.arg (by assumption)) rfl) ⟨_, rfl, congrArg (fun b => some (Value.bool b)) hg_2_8⟩ rfl ?_
      refine AK.val _ (Yl.neq rfl rfl) ⟨_, rfl, congrArg (fun b => some (Value.bool b)) hg_2_8⟩ rfl ?_
      refine AK.val _ (Yl.pickF rfl (hg_2_8) rfl) trivial rfl ?_
      refine AK.val _ (Yl.move rfl) trivial rfl ?_
      refine AK.splitB (g := 40) rfl (fun hg_2_15 => ?_) (fun hg_2_15 => ?_)
      · have hg_2_15' := hg_2_15
        try simp only [decide_eq_true_eq, decide_eq_false_iff_not, Bool.not_eq_true', Bool.not_eq_false', Bool.not_not, ne_eq, Decidable.not_not, Int.not_lt, Int.not_le, beq_iff_eq, bne_iff_ne, Bool.and_eq_true, Bool.or_eq_true, Bool.or_eq_false_iff, Bool.not_false, Bool.not_true, reduceCtorEq, not_true_eq_false, not_false_eq_true] at hg_2_15'
        refine AK.pass rfl rfl (hg_2_15) rfl ?_
        refine AK.pass rfl rfl (hg_2_15) rfl ?_
        refine AK.pass rfl rfl (hg_2_15) rfl ?_
        refine AK.pass rfl rfl (hg_2_15) rfl ?_
        refine AK.pass rfl rfl (hg_2_15) rfl ?_
        refine AK.pass rfl rfl (hg_2_15) rfl ?_
        refine AK.pass rfl rfl (hg_2_15) rfl ?_
        refine AK.val _ (Yl.pickT rfl (hg_2_15) rfl) trivial rfl ?_
        refine AK.val _ (Yl.move rfl) trivial rfl ?_
        refine AK.pass rfl rfl rfl rfl ?_
        refine AK.pass rfl rfl rfl rfl ?_
        refine AK.pass rfl rfl rfl rfl ?_
        refine AK.pass rfl rfl rfl rfl ?_
        refine AK.pass rfl rfl rfl rfl ?_
        refine AK.val _ (Yl.pickT rfl (rfl) rfl) trivial rfl ?_
        refine AK.val _ (Yl.move rfl) trivial rfl ?_
        refine AK.pass rfl rfl rfl rfl ?_
        refine AK.pass rfl rfl rfl rfl ?_
        refine AK.pass rfl rfl rfl rfl ?_
        refine AK.pass rfl rfl rfl rfl ?_
        refine AK.pass rfl rfl rfl rfl ?_
        refine AK.pass rfl rfl rfl rfl ?_
        refine AK.val _ (Yl.pickT rfl (rfl) rfl) trivial rfl ?_
        refine AK.nil ?_
        refine AK.then_ (hK4 _ ?_)
        refine AK.cond_t rfl (rfl) ?_
        refine AK.seq (fun _ hK7 => ?_)
        refine AK.region ?_
        refine AK.val _ (Yl.assign rfl) trivial rfl ?_
        refine AK.nil ?_
        refine AK.then_ (hK7 _ ?_)
        refine AK.ret ?_
        refine AK.then_ret ?_
        refine AK.ret1 rfl rfl (fun w hw => ⟨_, _, ?_, rfl, Ret.of (hw.pick [] (by decide) rfl rfl)⟩)
        refine ⟨false, rfl, ⟨fun h => (by cases h), fun h => ?_⟩, rfl⟩
        exfalso
        have k1 := (errV_iff d).2 h.vd
        have k2 := (errV_iff m).2 h.vm
        have k3 := h.L
        have k4 := h.map.len
        have k5 := h.acc.len
        have k6 := h.tst.len
        first | (simp_all; done) | omega | (simp_all; omega)
      · have hg_2_15' := hg_2_15
        try simp only [decide_eq_true_eq, decide_eq_false_iff_not, Bool.not_eq_true', Bool.not_eq_false', Bool.not_not, ne_eq, Decidable.not_not, Int.not_lt, Int.not_le, beq_iff_eq, bne_iff_ne, Bool.and_eq_true, Bool.or_eq_true, Bool.or_eq_false_iff, Bool.not_false, Bool.not_true, reduceCtorEq, not_true_eq_false, not_false_eq_true] at hg_2_15'
        refine AK.val _ (Yl.fieldAddr fd51_0 rfl) ⟨_, rfl, congrArg (fun b => some (Value.bool b)) hg_2_15⟩ rfl ?_
        refine AK.val _ (Yl.loadBox on26 rfl (by first | ((repeat (first | exact .hd | apply BoxS.tl | apply MapS.tl)); done) | assumption | exact BoxS.arg (by assumption)) rfl) ⟨_, rfl, congrArg (fun b => some (Value.bool b)) hg_2_15⟩ rfl ?_
        refine AK.val _ (Yl.lenR sl26 rfl (by first | exact .arg ‹_› | ((repeat (first | exact .hd | apply RdS.tl)); done) | assumption | exact .arg (hNi _ (by omega)) | exact .arg (gNi _ (by omega)))) ⟨_, rfl, congrArg (fun b => some (Value.bool b)) hg_2_15⟩ rfl ?_
        refine AK.val _ (Yl.fieldAddr fd25_2 rfl) ⟨_, rfl, congrArg (fun b => some (Value.bool b)) hg_2_15⟩ rfl ?_
        refine AK.val _ (Yl.loadBox on22 rfl (by first | ((repeat (first | exact .hd | apply BoxS.tl | apply MapS.tl)); done) | assumption | exact BoxS.arg (by assumption)) rfl) ⟨_, rfl, congrArg (fun b => some (Value.bool b)) hg_2_15⟩ rfl ?_
        refine AK.val _ (Yl.lenR sl22 rfl (by first | exact .arg ‹_› | ((repeat (first | exact .hd | apply RdS.tl)); done) | assumption | exact .arg (hNi _ (by omega)) | exact .arg (gNi _ (by omega)))) ⟨_, rfl, congrArg (fun b => some (Value.bool b)) hg_2_15⟩ rfl ?_
        refine AK.val _ (Yl.neq rfl rfl) ⟨_, rfl, congrArg (fun b => some (Value.bool b)) hg_2_15⟩ rfl ?_
        refine AK.val _ (Yl.pickF rfl (hg_2_15) rfl) trivial rfl ?_
        refine AK.val _ (Yl.move rfl) trivial rfl ?_
        refine AK.splitB (g := 49) rfl (fun hg_2_24 => ?_) (fun hg_2_24 => ?_)
        · have hg_2_24' := hg_2_24
          try simp only [decide_eq_true_eq, decide_eq_false_iff_not, Bool.not_eq_true', Bool.not_eq_false', Bool.not_not, ne_eq, Decidable.not_not, Int.not_lt, Int.not_le, beq_iff_eq, bne_iff_ne, Bool.and_eq_true, Bool.or_eq_true, Bool.or_eq_false_iff, Bool.not_false, Bool.not_true, reduceCtorEq, not_true_eq_false, not_false_eq_true] at hg_2_24'
          refine AK.pass rfl rfl (hg_2_24) rfl ?_
          refine AK.pass rfl rfl (hg_2_24) rfl ?_
          refine AK.pass rfl rfl (hg_2_24) rfl ?_
          refine AK.pass rfl rfl (hg_2_24) rfl ?_
          refine AK.pass rfl rfl (hg_2_24) rfl ?_
          refine AK.val _ (Yl.pickT rfl (hg_2_24) rfl) trivial rfl ?_
          refine AK.val _ (Yl.move rfl) trivial rfl ?_
          refine AK.pass rfl rfl rfl rfl ?_
          refine AK.pass rfl rfl rfl rfl ?_
          refine AK.pass rfl rfl rfl rfl ?_
          refine AK.pass rfl rfl rfl rfl ?_
          refine AK.pass rfl rfl rfl rfl ?_
          refine AK.pass rfl rfl rfl rfl ?_
          refine AK.val _ (Yl.pickT rfl (rfl) rfl) trivial rfl ?_
          refine AK.nil ?_
          refine AK.then_ (hK4 _ ?_)
          refine AK.cond_t rfl (rfl) ?_
          refine AK.seq (fun _ hK8 => ?_)
          refine AK.region ?_
          refine AK.val _ (Yl.assign rfl) trivial rfl ?_
          refine AK.nil ?_
          refine AK.then_ (hK8 _ ?_)
          refine AK.ret ?_
          refine AK.then_ret ?_
          refine AK.ret1 rfl rfl (fun w hw => ⟨_, _, ?_, rfl, Ret.of (hw.pick [] (by decide) rfl rfl)⟩)
          refine ⟨false, rfl, ⟨fun h => (by cases h), fun h => ?_⟩, rfl⟩
          exfalso
          have k1 := (errV_iff d).2 h.vd
          have k2 := (errV_iff m).2 h.vm
          have k3 := h.L
          have k4 := h.map.len
          have k5 := h.acc.len
          have k6 := h.tst.len
          first | (simp_all; done) | omega | (simp_all; omega)
        · have hg_2_24' := hg_2_24
          try simp only [decide_eq_true_eq, decide_eq_false_iff_not, Bool.not_eq_true', Bool.not_eq_false', Bool.not_not, ne_eq, Decidable.not_not, Int.not_lt, Int.not_le, beq_iff_eq, bne_iff_ne, Bool.and_eq_true, Bool.or_eq_true, Bool.or_eq_false_iff, Bool.not_false, Bool.not_true, reduceCtorEq, not_true_eq_false, not_false_eq_true] at hg_2_24'
          refine AK.val _ (Yl.fieldAddr fd51_1 rfl) ⟨_, rfl, congrArg (fun b => some (Value.bool b)) hg_2_24⟩ rfl ?_
          refine AK.val _ (Yl.loadBox on49 rfl (by first | ((repeat (first | exact .hd | apply BoxS.tl | apply MapS.tl)); done) | assumption | exact BoxS.arg (by assumption)) rfl) ⟨_, rfl, congrArg (fun b => some (Value.bool b)) hg_2_24⟩ rfl ?_
          refine AK.val _ (Yl.lenR sl49 rfl (by first | exact .arg ‹_› | ((repeat (first | exact .hd | apply RdS.tl)); done) | assumption | exact .arg (hNi _ (by omega)) | exact .arg (gNi _ (by omega)))) ⟨_, rfl, congrArg (fun b => some (Value.bool b)) hg_2_24⟩ rfl ?_
          refine AK.val _ (Yl.move rfl) ⟨_, rfl, congrArg (fun b => some (Value.bool b)) hg_2_24⟩ rfl ?_
          refine AK.val _ (Yl.neq rfl rfl) ⟨_, rfl, congrArg (fun b => some (Value.bool b)) hg_2_24⟩ rfl ?_
          refine AK.val _ (Yl.pickF rfl (hg_2_24) rfl) trivial rfl ?_
          refine AK.val _ (Yl.move rfl) trivial rfl ?_
          refine AK.splitB (g := 56) rfl (fun hg_2_31 => ?_) (fun hg_2_31 => ?_)
          · have hg_2_31' := hg_2_31
            try simp only [decide_eq_true_eq, decide_eq_false_iff_not, Bool.not_eq_true', Bool.not_eq_false', Bool.not_not, ne_eq, Decidable.not_not, Int.not_lt, Int.not_le, beq_iff_eq, bne_iff_ne, Bool.and_eq_true, Bool.or_eq_true, Bool.or_eq_false_iff, Bool.not_false, Bool.not_true, reduceCtorEq, not_true_eq_false, not_false_eq_true] at hg_2_31'
            refine AK.pass rfl rfl (hg_2_31) rfl ?_
            refine AK.pass rfl rfl (hg_2_31) rfl ?_
            refine AK.pass rfl rfl (hg_2_31) rfl ?_
            refine AK.pass rfl rfl (hg_2_31) rfl ?_
            refine AK.pass rfl rfl (hg_2_31) rfl ?_
            refine AK.pass rfl rfl (hg_2_31) rfl ?_
            refine AK.val _ (Yl.pickT rfl (hg_2_31) rfl) trivial rfl ?_
            refine AK.nil ?_
            refine AK.then_ (hK4 _ ?_)
            refine AK.cond_t rfl (rfl) ?_
            refine AK.seq (fun _ hK9 => ?_)
            refine AK.region ?_
            refine AK.val _ (Yl.assign rfl) trivial rfl ?_
            refine AK.nil ?_
            refine AK.then_ (hK9 _ ?_)
            refine AK.ret ?_
            refine AK.then_ret ?_
            refine AK.ret1 rfl rfl (fun w hw => ⟨_, _, ?_, rfl, Ret.of (hw.pick [] (by decide) rfl rfl)⟩)
            refine ⟨false, rfl, ⟨fun h => (by cases h), fun h => ?_⟩, rfl⟩
            exfalso
            have k1 := (errV_iff d).2 h.vd
            have k2 := (errV_iff m).2 h.vm
            have k3 := h.L
            have k4 := h.map.len
            have k5 := h.acc.len
            have k6 := h.tst.len
            first | (simp_all; done) | omega | (simp_all; omega)
          · have hg_2_31' := hg_2_31
            try simp only [decide_eq_true_eq, decide_eq_false_iff_not, Bool.not_eq_true', Bool.not_eq_false', Bool.not_not, ne_eq, Decidable.not_not, Int.not_lt, Int.not_le, beq_iff_eq, bne_iff_ne, Bool.and_eq_true, Bool.or_eq_true, Bool.or_eq_false_iff, Bool.not_false, Bool.not_true, reduceCtorEq, not_true_eq_false, not_false_eq_true] at hg_2_31'
            refine AK.val _ (Yl.fieldAddr fd51_2 rfl) ⟨_, rfl, congrArg (fun b => some (Value.bool b)) hg_2_31⟩ rfl ?_
            refine AK.val _ (Yl.loadBox on49 rfl (by first | ((repeat (first | exact .hd | apply BoxS.tl | apply MapS.tl)); done) | assumption | exact BoxS.arg (by assumption)) rfl) ⟨_, rfl, congrArg (fun b => some (Value.bool b)) hg_2_31⟩ rfl ?_
            refine AK.val _ (Yl.lenR sl49 rfl (by first | exact .arg ‹_› | ((repeat (first | exact .hd | apply RdS.tl)); done) | assumption | exact .arg (hNi _ (by omega)) | exact .arg (gNi _ (by omega)))) ⟨_, rfl, congrArg (fun b => some (Value.bool b)) hg_2_31⟩ rfl ?_
            refine AK.val _ (Yl.move rfl) ⟨_, rfl, congrArg (fun b => some (Value.bool b)) hg_2_31⟩ rfl ?_
            refine AK.val _ (Yl.sub rfl rfl (by omega)) ⟨_, rfl, congrArg (fun b => some (Value.bool b)) hg_2_31⟩ rfl ?_
            refine AK.val _ (Yl.gtr rfl rfl) ⟨_, rfl, congrArg (fun b => some (Value.bool b)) hg_2_31⟩ rfl ?_
            refine AK.val _ (Yl.pickF rfl (hg_2_31) rfl) trivial rfl ?_
            refine AK.nil ?_
            refine AK.then_ (hK4 _ ?_)
            refine AK.condD rfl (fun hc0 => ?_) (fun hc0 => ?_)
            · refine AK.seq (fun _ hK10 => ?_)
              refine AK.region ?_
              refine AK.val _ (Yl.assign rfl) trivial rfl ?_
              refine AK.nil ?_
              refine AK.then_ (hK10 _ ?_)
              refine AK.ret ?_
              refine AK.then_ret ?_
              refine AK.ret1 rfl rfl (fun w hw => ⟨_, _, ?_, rfl, Ret.of (hw.pick [] (by decide) rfl rfl)⟩)
              refine ⟨false, rfl, ⟨fun h => (by cases h), fun h => ?_⟩, rfl⟩
              exfalso
              have k1 := (errV_iff d).2 h.vd
              have k2 := (errV_iff m).2 h.vm
              have k3 := h.L
              have k4 := h.map.len
              have k5 := h.acc.len
              have k6 := h.tst.len
              first | (simp_all; done) | omega | (simp_all; omega)
            · have hv : VD d := (errV_iff d).1 (by simpa using hg_2_3')
              have hvm : VD m := (errV_iff m).1 (by simpa using hg_2_8')
              have hLL : d.L = m.L := by simpa using hg_2_15'
              have hml : mp.length = d.fin.length := by omega
              have hal1 : ac.length = m.fin.length := by omega
              have htl1 : ts.length + 1 ≤ m.fin.length := by omega
              have hdL := hv.L
              have hdnx := hv.nx
              have hdn := hv.n
              have hds := hv.s
              have hmL := hvm.L
              have hmnx := hvm.nx
              have hmn5 := hvm.n
              have hms := hvm.s
              refine AK.skip ?_
              refine AK.then_ (hK3 _ ?_)
              refine AK.seq (fun _ hK11 => ?_)
              refine AK.seq (fun _ hK12 => ?_)
              refine AK.region ?_
              refine AK.val _ (Yl.fieldAddr fd51_0 rfl) trivial rfl ?_
              refine AK.val _ (Yl.loadBox on26 rfl (by first | ((repeat (first | exact .hd | apply BoxS.tl | apply MapS.tl)); done) | assumption | exact BoxS.arg (by assumption)) rfl) trivial rfl ?_
              refine AK.val _ (Yl.lenR sl26 rfl (by first | exact .arg ‹_› | ((repeat (first | exact .hd | apply RdS.tl)); done) | assumption | exact .arg (hNi _ (by omega)) | exact .arg (gNi _ (by omega)))) trivial rfl ?_
              refine AK.val _ (Yl.move rfl) trivial rfl ?_
              refine AK.nil ?_
              refine AK.then_ (hK12 _ ?_)
              refine AK.block ?_
              refine AK.loopK (X := Nat) [(3, _), (4, _), (5, _), (7, _), (65, _), (66, _)] (fun j => [(67, .int .i64 (j : Int))]) (fun j => [box bx3 25 4 [.int .i64 d.L, .int .i64 d.s, vF, vN], box bx4 25 4 [.int .i64 m.L, .int .i64 m.s, uF, uN], box bx5 51 3 [vp, va, vt]]) (fun j => j ≤ mp.length ∧ ∀ i, i < j → -1 ≤ mp.getD i 0 ∧ mp.getD i 0 < m.fin.length) (fun j => mp.length - j) (0) (.cons rfl (.cons rfl (.cons rfl (.cons rfl (.cons rfl (.cons rfl (.nil))))))) ?_ ?_ ?_ ?_
              · exact ⟨Nat.zero_le _, fun i hi => (by cases hi)⟩
              · exact .cons (rfl) (.nil)
              · exact fun w hw => hw
              · intro j hg0 _ hK13
                refine AK.seq (fun _ hK14 => ?_)
                refine AK.region ?_
                refine AK.val _ (Yl.lss rfl rfl) trivial rfl ?_
                refine AK.nil ?_
                refine AK.then_ (hK14 _ ?_)
                refine AK.seq (fun _ hK15 => ?_)
                refine AK.condD rfl (fun hc1 => ?_) (fun hc1 => ?_)
                · refine AK.skip ?_
                  refine AK.then_ (hK15 _ ?_)
                  refine AK.seq (fun _ hK16 => ?_)
                  refine AK.block ?_
                  refine AK.seq (fun _ hK17 => ?_)
                  refine AK.region ?_
                  first | refine AK.val _ (Yl.idxN sl26 rfl rfl (by first | exact .arg ‹_› | ((repeat (first | exact .hd | apply RdS.tl)); done) | assumption | exact .arg (hNi _ (by omega)) | exact .arg (gNi _ (by omega))) (by decide) (by omega)) trivial rfl ?_ | refine AK.val _ (Yl.idx sl26 rfl rfl (by first | exact .arg ‹_› | ((repeat (first | exact .hd | apply RdS.tl)); done) | assumption | exact .arg (hNi _ (by omega)) | exact .arg (gNi _ (by omega))) (by decide) (by omega)) trivial rfl ?_ | refine AK.val _ (Yl.idxK sl26 rfl rfl (by first | exact .arg ‹_› | ((repeat (first | exact .hd | apply RdS.tl)); done) | assumption | exact .arg (hNi _ (by omega)) | exact .arg (gNi _ (by omega))) (by decide) (by omega)) trivial rfl ?_
                  refine AK.val _ (Yl.loadI on3 rfl (by first | exact .arg ‹_› | ((repeat (first | exact .hd | apply RdS.tl)); done) | assumption | exact .arg (hNi _ (by omega)) | exact .arg (gNi _ (by omega))) (by omega)) trivial rfl ?_
                  refine AK.val _ (Yl.assign rfl) trivial rfl ?_
                  refine AK.nil ?_
                  refine AK.then_ (hK17 _ ?_)
                  refine AK.seq (fun _ hK18 => ?_)
                  refine AK.region ?_
                  refine AK.val _ (Yl.move rfl) trivial rfl ?_
                  refine AK.val _ (Yl.lss rfl rfl) trivial rfl ?_
                  refine AK.val _ (Yl.move rfl) trivial rfl ?_
                  refine AK.splitB (g := 73) rfl (fun hg_7_2 => ?_) (fun hg_7_2 => ?_)
                  · have hg_7_2' := hg_7_2
                    try simp only [decide_eq_true_eq, decide_eq_false_iff_not, Bool.not_eq_true', Bool.not_eq_false', Bool.not_not, ne_eq, Decidable.not_not, Int.not_lt, Int.not_le, beq_iff_eq, bne_iff_ne, Bool.and_eq_true, Bool.or_eq_true, Bool.or_eq_false_iff, Bool.not_false, Bool.not_true, reduceCtorEq, not_true_eq_false, not_false_eq_true] at hg_7_2'
                    refine AK.pass rfl rfl (hg_7_2) rfl ?_
                    refine AK.pass rfl rfl (hg_7_2) rfl ?_
                    refine AK.pass rfl rfl (hg_7_2) rfl ?_
                    refine AK.val _ (Yl.pickT rfl (hg_7_2) rfl) trivial rfl ?_
                    refine AK.nil ?_
                    refine AK.then_ (hK18 _ ?_)
                    refine AK.cond_t rfl (rfl) ?_
                    refine AK.seq (fun _ hK19 => ?_)
                    refine AK.region ?_
                    refine AK.val _ (Yl.assign rfl) trivial rfl ?_
                    refine AK.nil ?_
                    refine AK.then_ (hK19 _ ?_)
                    refine AK.ret ?_
                    refine AK.block_ret ?_
                    refine AK.then_ret ?_
                    refine AK.then_ret ?_
                    refine AK.block_ret ?_
                    refine AK.then_ret ?_
                    refine AK.ret1 rfl rfl (fun w hw => ⟨_, _, ?_, rfl, Ret.of (hw.pick [] (by decide) rfl rfl)⟩)
                    refine ⟨false, rfl, ⟨fun h => (by cases h), fun h => ?_⟩, rfl⟩
                    exfalso
                    have h1 := h.map.bd j (by omega)
                    omega
                  · have hg_7_2' := hg_7_2
                    try simp only [decide_eq_true_eq, decide_eq_false_iff_not, Bool.not_eq_true', Bool.not_eq_false', Bool.not_not, ne_eq, Decidable.not_not, Int.not_lt, Int.not_le, beq_iff_eq, bne_iff_ne, Bool.and_eq_true, Bool.or_eq_true, Bool.or_eq_false_iff, Bool.not_false, Bool.not_true, reduceCtorEq, not_true_eq_false, not_false_eq_true] at hg_7_2'
                    refine AK.val _ (Yl.move rfl) ⟨_, rfl, congrArg (fun b => some (Value.bool b)) hg_7_2⟩ rfl ?_
                    refine AK.val _ (Yl.move rfl) ⟨_, rfl, congrArg (fun b => some (Value.bool b)) hg_7_2⟩ rfl ?_
                    refine AK.val _ (Yl.geq rfl rfl) ⟨_, rfl, congrArg (fun b => some (Value.bool b)) hg_7_2⟩ rfl ?_
                    refine AK.val _ (Yl.pickF rfl (hg_7_2) rfl) trivial rfl ?_
                    refine AK.nil ?_
                    refine AK.then_ (hK18 _ ?_)
                    refine AK.condD rfl (fun hc2 => ?_) (fun hc2 => ?_)
                    · refine AK.seq (fun _ hK20 => ?_)
                      refine AK.region ?_
                      refine AK.val _ (Yl.assign rfl) trivial rfl ?_
                      refine AK.nil ?_
                      refine AK.then_ (hK20 _ ?_)
                      refine AK.ret ?_
                      refine AK.block_ret ?_
                      refine AK.then_ret ?_
                      refine AK.then_ret ?_
                      refine AK.block_ret ?_
                      refine AK.then_ret ?_
                      refine AK.ret1 rfl rfl (fun w hw => ⟨_, _, ?_, rfl, Ret.of (hw.pick [] (by decide) rfl rfl)⟩)
                      refine ⟨false, rfl, ⟨fun h => (by cases h), fun h => ?_⟩, rfl⟩
                      exfalso
                      have h1 := h.map.bd j (by omega)
                      omega
                    · refine AK.skip ?_
                      refine AK.block_normal ?_
                      refine AK.then_ (hK16 _ ?_)
                      refine AK.region ?_
                      refine AK.val _ (Yl.add rfl rfl (by omega)) trivial rfl ?_
                      refine AK.val _ (Yl.move rfl) trivial rfl ?_
                      refine AK.nil ?_
                      refine AK.then_ (hK13 _ _ (j + 1) ⟨by omega, all_succ hg0.2 (by omega)⟩ (by omega) (.cons (rfl) (.cons rfl (.cons rfl (.cons rfl (.cons rfl (.cons rfl (.cons rfl (.nil)))))))) (fun w hw => hw))
                · have hbd : ∀ i, i < mp.length → -1 ≤ mp.getD i 0 ∧ mp.getD i 0 < m.fin.length := fun i hi => hg0.2 i (by omega)
                  refine AK.exit ?_
                  refine AK.then_exit ?_
                  refine AK.then_exit ?_
                  refine AK.block_exit ?_
                  refine AK.then_ (hK11 _ ?_)
                  refine AK.seq (fun _ hK21 => ?_)
                  refine AK.seq (fun _ hK22 => ?_)
                  refine AK.quiet mixed (by kernel_rfl) ?_
                  refine QK.val _ (Yl.fieldAddr fd51_0 rfl) trivial rfl ?_
                  refine QK.val _ (Yl.loadBox on26 rfl (by first | ((repeat (first | exact .hd | apply BoxS.tl | apply MapS.tl)); done) | assumption | exact BoxS.arg (by assumption)) rfl) trivial rfl ?_
                  refine QK.val _ (Yl.fieldAddr fd25_1 rfl) trivial rfl ?_
                  refine QK.val _ (Yl.loadBox on3 rfl (by first | ((repeat (first | exact .hd | apply BoxS.tl | apply MapS.tl)); done) | assumption | exact BoxS.arg (by assumption)) rfl) trivial rfl ?_
                  first | refine QK.val _ (Yl.idxN sl26 rfl rfl (by first | exact .arg ‹_› | ((repeat (first | exact .hd | apply RdS.tl)); done) | assumption | exact .arg (hNi _ (by omega)) | exact .arg (gNi _ (by omega))) (by decide) (by omega)) trivial rfl ?_ | refine QK.val _ (Yl.idx sl26 rfl rfl (by first | exact .arg ‹_› | ((repeat (first | exact .hd | apply RdS.tl)); done) | assumption | exact .arg (hNi _ (by omega)) | exact .arg (gNi _ (by omega))) (by decide) (by omega)) trivial rfl ?_ | refine QK.val _ (Yl.idxK sl26 rfl rfl (by first | exact .arg ‹_› | ((repeat (first | exact .hd | apply RdS.tl)); done) | assumption | exact .arg (hNi _ (by omega)) | exact .arg (gNi _ (by omega))) (by decide) (by omega)) trivial rfl ?_
                  refine QK.val _ (Yl.loadI on3 rfl (by first | exact .arg ‹_› | ((repeat (first | exact .hd | apply RdS.tl)); done) | assumption | exact .arg (hNi _ (by omega)) | exact .arg (gNi _ (by omega))) (by omega)) trivial rfl ?_
                  refine QK.val _ (Yl.fieldAddr fd25_1 rfl) trivial rfl ?_
                  refine QK.val _ (Yl.loadBox on3 rfl (by first | ((repeat (first | exact .hd | apply BoxS.tl | apply MapS.tl)); done) | assumption | exact BoxS.arg (by assumption)) rfl) trivial rfl ?_
                  refine QK.val _ (Yl.neq rfl rfl) trivial rfl ?_
                  refine QK.nil (QK.fin ?_)
                  refine AK.then_ (hK22 _ ?_)
                  refine AK.condNe rfl (fun hc3 => ?_) (fun hc3 => ?_)
                  · refine AK.seq (fun _ hK23 => ?_)
                    refine AK.region ?_
                    refine AK.val _ (Yl.assign rfl) trivial rfl ?_
                    refine AK.nil ?_
                    refine AK.then_ (hK23 _ ?_)
                    refine AK.ret ?_
                    refine AK.then_ret ?_
                    refine AK.ret1 rfl rfl (fun w hw => ⟨_, _, ?_, rfl, Ret.of (hw.pick [] (by decide) rfl rfl)⟩)
                    refine ⟨false, rfl, ⟨fun h => (by cases h), fun h => ?_⟩, rfl⟩
                    exfalso
                    have h2 := h.map.st
                    first | omega | exact hc3 h2
                  · have hst0 : mp.getD d.s.toNat 0 = m.s := by first | exact hc3 | exact Classical.not_not.1 hc3 | omega
                    refine AK.skip ?_
                    refine AK.then_ (hK21 _ ?_)
                    refine AK.seq (fun _ hK24 => ?_)
                    refine AK.seq (fun _ hK25 => ?_)
                    refine AK.region ?_
                    refine AK.val _ (Yl.fieldAddr fd51_0 rfl) trivial rfl ?_
                    refine AK.val _ (Yl.loadBox on26 rfl (by first | ((repeat (first | exact .hd | apply BoxS.tl | apply MapS.tl)); done) | assumption | exact BoxS.arg (by assumption)) rfl) trivial rfl ?_
                    refine AK.val _ (Yl.lenR sl26 rfl (by first | exact .arg ‹_› | ((repeat (first | exact .hd | apply RdS.tl)); done) | assumption | exact .arg (hNi _ (by omega)) | exact .arg (gNi _ (by omega)))) trivial rfl ?_
                    refine AK.val _ (Yl.move rfl) trivial rfl ?_
                    refine AK.nil ?_
                    refine AK.then_ (hK25 _ ?_)
                    refine AK.block ?_
                    refine AK.loopK (X := Nat) [(3, _), (4, _), (5, _), (7, _), (89, _), (90, _)] (fun q => [(91, .int .i64 (q : Int))]) (fun q => [box bx3 25 4 [.int .i64 d.L, .int .i64 d.s, vF, vN], box bx4 25 4 [.int .i64 m.L, .int .i64 m.s, uF, uN], box bx5 51 3 [vp, va, vt]]) (fun q => q ≤ mp.length ∧ ∀ i, i < q → HomAt d m mp i) (fun q => mp.length - q) (0) (.cons rfl (.cons rfl (.cons rfl (.cons rfl (.cons rfl (.cons rfl (.nil))))))) ?_ ?_ ?_ ?_
                    · exact ⟨Nat.zero_le _, fun i hi => (by cases hi)⟩
                    · exact .cons (rfl) (.nil)
                    · exact fun w hw => hw
                    · intro q hg1 _ hK26
                      refine AK.seq (fun _ hK27 => ?_)
                      refine AK.region ?_
                      refine AK.val _ (Yl.lss rfl rfl) trivial rfl ?_
                      refine AK.nil ?_
                      refine AK.then_ (hK27 _ ?_)
                      refine AK.seq (fun _ hK28 => ?_)
                      refine AK.condD rfl (fun hc4 => ?_) (fun hc4 => ?_)
                      · have hqn : q < d.fin.length := by omega
                        have hrw := hv.row q hqn
                        have hbq := hbd q (by omega)
                        refine AK.skip ?_
                        refine AK.then_ (hK28 _ ?_)
                        refine AK.seq (fun _ hK29 => ?_)
                        refine AK.block ?_
                        refine AK.seq (fun _ hK30 => ?_)
                        refine AK.region ?_
                        refine AK.val _ (Yl.move rfl) trivial rfl ?_
                        first | refine AK.val _ (Yl.idxN sl26 rfl rfl (by first | exact .arg ‹_› | ((repeat (first | exact .hd | apply RdS.tl)); done) | assumption | exact .arg (hNi _ (by omega)) | exact .arg (gNi _ (by omega))) (by decide) (by omega)) trivial rfl ?_ | refine AK.val _ (Yl.idx sl26 rfl rfl (by first | exact .arg ‹_› | ((repeat (first | exact .hd | apply RdS.tl)); done) | assumption | exact .arg (hNi _ (by omega)) | exact .arg (gNi _ (by omega))) (by decide) (by omega)) trivial rfl ?_ | refine AK.val _ (Yl.idxK sl26 rfl rfl (by first | exact .arg ‹_› | ((repeat (first | exact .hd | apply RdS.tl)); done) | assumption | exact .arg (hNi _ (by omega)) | exact .arg (gNi _ (by omega))) (by decide) (by omega)) trivial rfl ?_
                        refine AK.val _ (Yl.loadI on3 rfl (by first | exact .arg ‹_› | ((repeat (first | exact .hd | apply RdS.tl)); done) | assumption | exact .arg (hNi _ (by omega)) | exact .arg (gNi _ (by omega))) (by omega)) trivial rfl ?_
                        refine AK.val _ (Yl.assign rfl) trivial rfl ?_
                        refine AK.val _ (Yl.assign rfl) trivial rfl ?_
                        refine AK.nil ?_
                        refine AK.then_ (hK30 _ ?_)
                        refine AK.seq (fun _ hK31 => ?_)
                        refine AK.seq (fun _ hK32 => ?_)
                        refine AK.region ?_
                        refine AK.val _ (Yl.move rfl) trivial rfl ?_
                        refine AK.val _ (Yl.lss rfl rfl) trivial rfl ?_
                        refine AK.nil ?_
                        refine AK.then_ (hK32 _ ?_)
                        refine AK.condD rfl (fun hc5 => ?_) (fun hc5 => ?_)
                        · refine AK.exit ?_
                          refine AK.then_exit ?_
                          refine AK.block_exit ?_
                          refine AK.then_ (hK29 _ ?_)
                          refine AK.region ?_
                          refine AK.val _ (Yl.add rfl rfl (by omega)) trivial rfl ?_
                          refine AK.val _ (Yl.move rfl) trivial rfl ?_
                          refine AK.nil ?_
                          first | refine AK.then_ (hK26 _ _ (q + 1) ⟨by omega, all_succ hg1.2 (fun h0 => by omega)⟩ (by omega) (.cons (rfl) (.cons rfl (.cons rfl (.cons rfl (.cons rfl (.cons rfl (.cons rfl (.nil)))))))) (fun w hw => hw)) | refine AK.then_ (hK26 _ _ (q + 1) ⟨by omega, all_succ hg1.2 (fun _ => ⟨hfe, fun x hx => hg2.2 x (by omega)⟩)⟩ (by omega) (.cons (rfl) (.cons rfl (.cons rfl (.cons rfl (.cons rfl (.cons rfl (.cons rfl (.nil)))))))) (fun w hw => hw))
                        · refine AK.skip ?_
                          refine AK.then_ (hK31 _ ?_)
                          refine AK.seq (fun _ hK33 => ?_)
                          refine AK.seq (fun _ hK34 => ?_)
                          refine AK.quiet mixed (by kernel_rfl) ?_
                          refine QK.val _ (Yl.fieldAddr fd25_2 rfl) trivial rfl ?_
                          refine QK.val _ (Yl.loadBox on22 rfl (by first | ((repeat (first | exact .hd | apply BoxS.tl | apply MapS.tl)); done) | assumption | exact BoxS.arg (by assumption)) rfl) trivial rfl ?_
                          refine QK.val _ (Yl.move rfl) trivial rfl ?_
                          first | refine QK.val _ (Yl.idxN sl22 rfl rfl (by first | exact .arg ‹_› | ((repeat (first | exact .hd | apply RdS.tl)); done) | assumption | exact .arg (hNi _ (by omega)) | exact .arg (gNi _ (by omega))) (by decide) (by omega)) trivial rfl ?_ | refine QK.val _ (Yl.idx sl22 rfl rfl (by first | exact .arg ‹_› | ((repeat (first | exact .hd | apply RdS.tl)); done) | assumption | exact .arg (hNi _ (by omega)) | exact .arg (gNi _ (by omega))) (by decide) (by omega)) trivial rfl ?_ | refine QK.val _ (Yl.idxK sl22 rfl rfl (by first | exact .arg ‹_› | ((repeat (first | exact .hd | apply RdS.tl)); done) | assumption | exact .arg (hNi _ (by omega)) | exact .arg (gNi _ (by omega))) (by decide) (by omega)) trivial rfl ?_
                          refine QK.val _ (Yl.loadB on4 rfl (by first | exact .arg ‹_› | ((repeat (first | exact .hd | apply RdS.tl)); done) | assumption | exact .arg (hNi _ (by omega)) | exact .arg (gNi _ (by omega))) (by omega)) trivial rfl ?_
                          refine QK.val _ (Yl.fieldAddr fd25_2 rfl) trivial rfl ?_
                          refine QK.val _ (Yl.loadBox on22 rfl (by first | ((repeat (first | exact .hd | apply BoxS.tl | apply MapS.tl)); done) | assumption | exact BoxS.arg (by assumption)) rfl) trivial rfl ?_
                          refine QK.val _ (Yl.move rfl) trivial rfl ?_
                          first | refine QK.val _ (Yl.idxN sl22 rfl rfl (by first | exact .arg ‹_› | ((repeat (first | exact .hd | apply RdS.tl)); done) | assumption | exact .arg (hNi _ (by omega)) | exact .arg (gNi _ (by omega))) (by decide) (by omega)) trivial rfl ?_ | refine QK.val _ (Yl.idx sl22 rfl rfl (by first | exact .arg ‹_› | ((repeat (first | exact .hd | apply RdS.tl)); done) | assumption | exact .arg (hNi _ (by omega)) | exact .arg (gNi _ (by omega))) (by decide) (by omega)) trivial rfl ?_ | refine QK.val _ (Yl.idxK sl22 rfl rfl (by first | exact .arg ‹_› | ((repeat (first | exact .hd | apply RdS.tl)); done) | assumption | exact .arg (hNi _ (by omega)) | exact .arg (gNi _ (by omega))) (by decide) (by omega)) trivial rfl ?_
                          refine QK.val _ (Yl.loadB on4 rfl (by first | exact .arg ‹_› | ((repeat (first | exact .hd | apply RdS.tl)); done) | assumption | exact .arg (hNi _ (by omega)) | exact .arg (gNi _ (by omega))) (by omega)) trivial rfl ?_
                          refine QK.val _ (Yl.neqB bo4 rfl rfl) trivial rfl ?_
                          refine QK.nil (QK.fin ?_)
                          refine AK.then_ (hK34 _ ?_)
                          refine AK.cond rfl (fun hc6 => ?_) (fun hc6 => ?_)
                          · try simp only [decide_eq_true_eq, decide_eq_false_iff_not, Bool.not_eq_true', Bool.not_eq_false', Bool.not_not, ne_eq, Decidable.not_not, Int.not_lt, Int.not_le, beq_iff_eq, bne_iff_ne, Bool.and_eq_true, Bool.or_eq_true, Bool.or_eq_false_iff, Bool.not_false, Bool.not_true, reduceCtorEq, not_true_eq_false, not_false_eq_true] at hc6
                            refine AK.seq (fun _ hK35 => ?_)
                            refine AK.region ?_
                            refine AK.val _ (Yl.assign rfl) trivial rfl ?_
                            refine AK.nil ?_
                            refine AK.then_ (hK35 _ ?_)
                            refine AK.ret ?_
                            refine AK.then_ret ?_
                            refine AK.block_ret ?_
                            refine AK.then_ret ?_
                            refine AK.then_ret ?_
                            refine AK.block_ret ?_
                            refine AK.then_ret ?_
                            refine AK.ret1 rfl rfl (fun w hw => ⟨_, _, ?_, rfl, Ret.of (hw.pick [] (by decide) rfl rfl)⟩)
                            refine ⟨false, rfl, ⟨fun h => (by cases h), fun h => ?_⟩, rfl⟩
                            exfalso
                            have h1 := (h.map.at hqn (by omega)).1
                            unfold finQ at h1
                            rw [Int.toNat_natCast] at h1
                            first | (simp [h1] at hc6; done) | (rw [h1] at hc6; simp at hc6)
                          · try simp only [decide_eq_true_eq, decide_eq_false_iff_not, Bool.not_eq_true', Bool.not_eq_false', Bool.not_not, ne_eq, Decidable.not_not, Int.not_lt, Int.not_le, beq_iff_eq, bne_iff_ne, Bool.and_eq_true, Bool.or_eq_true, Bool.or_eq_false_iff, Bool.not_false, Bool.not_true, reduceCtorEq, not_true_eq_false, not_false_eq_true] at hc6
                            have hfe : finQ d (q : Int) = finQ m (mp.getD q 0) := by unfold finQ; rw [Int.toNat_natCast]; simpa using hc6
                            have hrm := hvm.row (mp.getD q 0).toNat (by omega)
                            refine AK.skip ?_
                            refine AK.then_ (hK33 _ ?_)
                            refine AK.seq (fun _ hK36 => ?_)
                            refine AK.region ?_
                            refine AK.val _ (Yl.assign rfl) trivial rfl ?_
                            refine AK.nil ?_
                            refine AK.then_ (hK36 _ ?_)
                            refine AK.block ?_
                            refine AK.loopK (X := Nat) [(3, _), (4, _), (5, _), (7, _), (10, _), (11, _), (89, _), (90, _), (91, _)] (fun x => [(12, .int .i64 (x : Int))]) (fun x => [box bx3 25 4 [.int .i64 d.L, .int .i64 d.s, vF, vN], box bx4 25 4 [.int .i64 m.L, .int .i64 m.s, uF, uN], box bx5 51 3 [vp, va, vt]]) (fun x => (x : Int) ≤ d.L ∧ ∀ y, y < x → StepAt d m mp q y) (fun x => d.L.toNat - x) (0) (.cons rfl (.cons rfl (.cons rfl (.cons rfl (.cons rfl (.cons rfl (.cons rfl (.cons rfl (.cons rfl (.nil)))))))))) ?_ ?_ ?_ ?_
                            · exact ⟨by omega, fun i hi => (by cases hi)⟩
                            · exact .cons (rfl) (.nil)
                            · exact fun w hw => hw
                            · intro x hg2 _ hK37
                              refine AK.seq (fun _ hK38 => ?_)
                              refine AK.seq (fun _ hK39 => ?_)
                              refine AK.region ?_
                              refine AK.val _ (Yl.move rfl) trivial rfl ?_
                              refine AK.val _ (Yl.fieldAddr fd25_0 rfl) trivial rfl ?_
                              refine AK.val _ (Yl.loadBox on3 rfl (by first | ((repeat (first | exact .hd | apply BoxS.tl | apply MapS.tl)); done) | assumption | exact BoxS.arg (by assumption)) rfl) trivial rfl ?_
                              refine AK.val _ (Yl.lss rfl rfl) trivial rfl ?_
                              refine AK.nil ?_
                              refine AK.then_ (hK39 _ ?_)
                              refine AK.condD rfl (fun hc7 => ?_) (fun hc7 => ?_)
                              · have hto := hv.to q x hqn (by omega)
                                refine AK.skip ?_
                                refine AK.then_ (hK38 _ ?_)
                                refine AK.seq (fun _ hK40 => ?_)
                                refine AK.block ?_
                                refine AK.seq (fun _ hK41 => ?_)
                                refine AK.quiet mixed (by kernel_rfl) ?_
                                refine QK.val _ (Yl.fieldAddr fd51_0 rfl) trivial rfl ?_
                                refine QK.val _ (Yl.loadBox on26 rfl (by first | ((repeat (first | exact .hd | apply BoxS.tl | apply MapS.tl)); done) | assumption | exact BoxS.arg (by assumption)) rfl) trivial rfl ?_
                                refine QK.val _ (Yl.fieldAddr fd25_3 rfl) trivial rfl ?_
                                refine QK.val _ (Yl.loadBox on23 rfl (by first | ((repeat (first | exact .hd | apply BoxS.tl | apply MapS.tl)); done) | assumption | exact BoxS.arg (by assumption)) rfl) trivial rfl ?_
                                refine QK.val _ (Yl.move rfl) trivial rfl ?_
                                first | refine QK.val _ (Yl.idxN sl23 rfl rfl (by first | exact .arg ‹_› | ((repeat (first | exact .hd | apply RdS.tl)); done) | assumption | exact .arg (hNi _ (by omega)) | exact .arg (gNi _ (by omega))) (by decide) (by omega)) trivial rfl ?_ | refine QK.val _ (Yl.idx sl23 rfl rfl (by first | exact .arg ‹_› | ((repeat (first | exact .hd | apply RdS.tl)); done) | assumption | exact .arg (hNi _ (by omega)) | exact .arg (gNi _ (by omega))) (by decide) (by omega)) trivial rfl ?_ | refine QK.val _ (Yl.idxK sl23 rfl rfl (by first | exact .arg ‹_› | ((repeat (first | exact .hd | apply RdS.tl)); done) | assumption | exact .arg (hNi _ (by omega)) | exact .arg (gNi _ (by omega))) (by decide) (by omega)) trivial rfl ?_
                                refine QK.val _ (Yl.loadV on26 rfl (by first | exact .arg ‹_› | ((repeat (first | exact .hd | apply RdS.tl)); done) | assumption | exact .arg (hNi _ (by omega)) | exact .arg (gNi _ (by omega))) (by omega)) trivial rfl ?_
                                refine QK.val _ (Yl.move rfl) trivial rfl ?_
                                first | refine QK.val _ (Yl.idxN sl26 rfl rfl (by first | exact .arg ‹_› | ((repeat (first | exact .hd | apply RdS.tl)); done) | assumption | exact .arg (hNi _ (by omega)) | exact .arg (gNi _ (by omega))) (by decide) (by omega)) trivial rfl ?_ | refine QK.val _ (Yl.idx sl26 rfl rfl (by first | exact .arg ‹_› | ((repeat (first | exact .hd | apply RdS.tl)); done) | assumption | exact .arg (hNi _ (by omega)) | exact .arg (gNi _ (by omega))) (by decide) (by omega)) trivial rfl ?_ | refine QK.val _ (Yl.idxK sl26 rfl rfl (by first | exact .arg ‹_› | ((repeat (first | exact .hd | apply RdS.tl)); done) | assumption | exact .arg (hNi _ (by omega)) | exact .arg (gNi _ (by omega))) (by decide) (by omega)) trivial rfl ?_
                                refine QK.val _ (Yl.loadI on3 rfl (by first | exact .arg ‹_› | ((repeat (first | exact .hd | apply RdS.tl)); done) | assumption | exact .arg (hNi _ (by omega)) | exact .arg (gNi _ (by omega))) (by omega)) trivial rfl ?_
                                first | refine QK.val _ (Yl.idxN sl26 rfl rfl (by first | exact .arg ‹_› | ((repeat (first | exact .hd | apply RdS.tl)); done) | assumption | exact .arg (hNi _ (by omega)) | exact .arg (gNi _ (by omega))) (by decide) (by omega)) trivial rfl ?_ | refine QK.val _ (Yl.idx sl26 rfl rfl (by first | exact .arg ‹_› | ((repeat (first | exact .hd | apply RdS.tl)); done) | assumption | exact .arg (hNi _ (by omega)) | exact .arg (gNi _ (by omega))) (by decide) (by omega)) trivial rfl ?_ | refine QK.val _ (Yl.idxK sl26 rfl rfl (by first | exact .arg ‹_› | ((repeat (first | exact .hd | apply RdS.tl)); done) | assumption | exact .arg (hNi _ (by omega)) | exact .arg (gNi _ (by omega))) (by decide) (by omega)) trivial rfl ?_
                                refine QK.val _ (Yl.loadI on3 rfl (by first | exact .arg ‹_› | ((repeat (first | exact .hd | apply RdS.tl)); done) | assumption | exact .arg (hNi _ (by omega)) | exact .arg (gNi _ (by omega))) (by omega)) trivial rfl ?_
                                refine QK.val _ (Yl.fieldAddr fd25_3 rfl) trivial rfl ?_
                                refine QK.val _ (Yl.loadBox on23 rfl (by first | ((repeat (first | exact .hd | apply BoxS.tl | apply MapS.tl)); done) | assumption | exact BoxS.arg (by assumption)) rfl) trivial rfl ?_
                                refine QK.val _ (Yl.move rfl) trivial rfl ?_
                                first | refine QK.val _ (Yl.idxN sl23 rfl rfl (by first | exact .arg ‹_› | ((repeat (first | exact .hd | apply RdS.tl)); done) | assumption | exact .arg (hNi _ (by omega)) | exact .arg (gNi _ (by omega))) (by decide) (by omega)) trivial rfl ?_ | refine QK.val _ (Yl.idx sl23 rfl rfl (by first | exact .arg ‹_› | ((repeat (first | exact .hd | apply RdS.tl)); done) | assumption | exact .arg (hNi _ (by omega)) | exact .arg (gNi _ (by omega))) (by decide) (by omega)) trivial rfl ?_ | refine QK.val _ (Yl.idxK sl23 rfl rfl (by first | exact .arg ‹_› | ((repeat (first | exact .hd | apply RdS.tl)); done) | assumption | exact .arg (hNi _ (by omega)) | exact .arg (gNi _ (by omega))) (by decide) (by omega)) trivial rfl ?_
                                refine QK.val _ (Yl.loadV on26 rfl (by first | exact .arg ‹_› | ((repeat (first | exact .hd | apply RdS.tl)); done) | assumption | exact .arg (hNi _ (by omega)) | exact .arg (gNi _ (by omega))) (by omega)) trivial rfl ?_
                                refine QK.val _ (Yl.move rfl) trivial rfl ?_
                                first | refine QK.val _ (Yl.idxN sl26 rfl rfl (by first | exact .arg ‹_› | ((repeat (first | exact .hd | apply RdS.tl)); done) | assumption | exact .arg (hNi _ (by omega)) | exact .arg (gNi _ (by omega))) (by decide) (by omega)) trivial rfl ?_ | refine QK.val _ (Yl.idx sl26 rfl rfl (by first | exact .arg ‹_› | ((repeat (first | exact .hd | apply RdS.tl)); done) | assumption | exact .arg (hNi _ (by omega)) | exact .arg (gNi _ (by omega))) (by decide) (by omega)) trivial rfl ?_ | refine QK.val _ (Yl.idxK sl26 rfl rfl (by first | exact .arg ‹_› | ((repeat (first | exact .hd | apply RdS.tl)); done) | assumption | exact .arg (hNi _ (by omega)) | exact .arg (gNi _ (by omega))) (by decide) (by omega)) trivial rfl ?_
                                refine QK.val _ (Yl.loadI on3 rfl (by first | exact .arg ‹_› | ((repeat (first | exact .hd | apply RdS.tl)); done) | assumption | exact .arg (hNi _ (by omega)) | exact .arg (gNi _ (by omega))) (by omega)) trivial rfl ?_
                                refine QK.val _ (Yl.neq rfl rfl) trivial rfl ?_
                                refine QK.nil (QK.fin ?_)
                                refine AK.then_ (hK41 _ ?_)
                                refine AK.condNe rfl (fun hc8 => ?_) (fun hc8 => ?_)
                                · refine AK.seq (fun _ hK42 => ?_)
                                  refine AK.region ?_
                                  refine AK.val _ (Yl.assign rfl) trivial rfl ?_
                                  refine AK.nil ?_
                                  refine AK.then_ (hK42 _ ?_)
                                  refine AK.ret ?_
                                  refine AK.block_ret ?_
                                  refine AK.then_ret ?_
                                  refine AK.then_ret ?_
                                  refine AK.block_ret ?_
                                  refine AK.block_ret ?_
                                  refine AK.then_ret ?_
                                  refine AK.then_ret ?_
                                  refine AK.block_ret ?_
                                  refine AK.then_ret ?_
                                  refine AK.ret1 rfl rfl (fun w hw => ⟨_, _, ?_, rfl, Ret.of (hw.pick [] (by decide) rfl rfl)⟩)
                                  refine ⟨false, rfl, ⟨fun h => (by cases h), fun h => ?_⟩, rfl⟩
                                  exfalso
                                  exact hc8 ((h.map.at hqn (by omega)).2 x (by omega))
                                · have hst : StepAt d m mp q x := hc8
                                  refine AK.skip ?_
                                  refine AK.block_normal ?_
                                  refine AK.then_ (hK40 _ ?_)
                                  refine AK.region ?_
                                  refine AK.val _ (Yl.move rfl) trivial rfl ?_
                                  refine AK.val _ (Yl.add rfl rfl (by omega)) trivial rfl ?_
                                  refine AK.val _ (Yl.assign rfl) trivial rfl ?_
                                  refine AK.nil ?_
                                  refine AK.then_ (hK37 _ _ (x + 1) ⟨by omega, all_succ hg2.2 hst⟩ (by omega) (.cons (rfl) (.cons rfl (.cons rfl (.cons rfl (.cons rfl (.cons rfl (.cons rfl (.cons rfl (.cons rfl (.cons rfl (.nil))))))))))) (fun w hw => hw))
                              · refine AK.exit ?_
                                refine AK.then_exit ?_
                                refine AK.then_exit ?_
                                refine AK.block_exit ?_
                                refine AK.block_normal ?_
                                refine AK.then_ (hK29 _ ?_)
                                refine AK.region ?_
                                refine AK.val _ (Yl.add rfl rfl (by omega)) trivial rfl ?_
                                refine AK.val _ (Yl.move rfl) trivial rfl ?_
                                refine AK.nil ?_
                                first | refine AK.then_ (hK26 _ _ (q + 1) ⟨by omega, all_succ hg1.2 (fun h0 => by omega)⟩ (by omega) (.cons (rfl) (.cons rfl (.cons rfl (.cons rfl (.cons rfl (.cons rfl (.cons rfl (.nil)))))))) (fun w hw => hw)) | refine AK.then_ (hK26 _ _ (q + 1) ⟨by omega, all_succ hg1.2 (fun _ => ⟨hfe, fun x hx => hg2.2 x (by omega)⟩)⟩ (by omega) (.cons (rfl) (.cons rfl (.cons rfl (.cons rfl (.cons rfl (.cons rfl (.cons rfl (.nil)))))))) (fun w hw => hw))
                      · refine AK.exit ?_
                        refine AK.then_exit ?_
                        refine AK.then_exit ?_
                        refine AK.block_exit ?_
                        refine AK.then_ (hK24 _ ?_)
                        refine AK.seq (fun _ hK43 => ?_)
                        refine AK.seq (fun _ hK44 => ?_)
                        refine AK.region ?_
                        refine AK.val _ (Yl.fieldAddr fd51_1 rfl) trivial rfl ?_
                        refine AK.val _ (Yl.loadBox on49 rfl (by first | ((repeat (first | exact .hd | apply BoxS.tl | apply MapS.tl)); done) | assumption | exact BoxS.arg (by assumption)) rfl) trivial rfl ?_
                        refine AK.val _ (Yl.lenR sl49 rfl (by first | exact .arg ‹_› | ((repeat (first | exact .hd | apply RdS.tl)); done) | assumption | exact .arg (hNi _ (by omega)) | exact .arg (gNi _ (by omega)))) trivial rfl ?_
                        refine AK.val _ (Yl.move rfl) trivial rfl ?_
                        refine AK.nil ?_
                        refine AK.then_ (hK44 _ ?_)
                        refine AK.block ?_
                        refine AK.loopK (X := Nat) [(4, _), (5, _), (7, _), (138, _), (139, _)] (fun j => [(140, .int .i64 (j : Int))]) (fun j => [box bx3 25 4 [.int .i64 d.L, .int .i64 d.s, vF, vN], box bx4 25 4 [.int .i64 m.L, .int .i64 m.s, uF, uN], box bx5 51 3 [vp, va, vt]]) (fun j => j ≤ ac.length ∧ ∀ i, i < j → RunV m m.s (ac.getD i []) = (i : Int)) (fun j => ac.length - j) (0) (.cons rfl (.cons rfl (.cons rfl (.cons rfl (.cons rfl (.nil)))))) ?_ ?_ ?_ ?_
                        · exact ⟨Nat.zero_le _, fun i hi => (by cases hi)⟩
                        · exact .cons (rfl) (.nil)
                        · exact fun w hw => hw
                        · intro j hg3 _ hK45
                          refine AK.seq (fun _ hK46 => ?_)
                          refine AK.region ?_
                          refine AK.val _ (Yl.lss rfl rfl) trivial rfl ?_
                          refine AK.nil ?_
                          refine AK.then_ (hK46 _ ?_)
                          refine AK.seq (fun _ hK47 => ?_)
                          refine AK.condD rfl (fun hc9 => ?_) (fun hc9 => ?_)
                          · refine AK.skip ?_
                            refine AK.then_ (hK47 _ ?_)
                            refine AK.seq (fun _ hK48 => ?_)
                            refine AK.block ?_
                            refine AK.seq (fun _ hK49 => ?_)
                            refine AK.region ?_
                            refine AK.val _ (Yl.move rfl) trivial rfl ?_
                            first | refine AK.val _ (Yl.idxN sl49 rfl rfl (by first | exact .arg ‹_› | ((repeat (first | exact .hd | apply RdS.tl)); done) | assumption | exact .arg (hNi _ (by omega)) | exact .arg (gNi _ (by omega))) (by decide) (by omega)) trivial rfl ?_ | refine AK.val _ (Yl.idx sl49 rfl rfl (by first | exact .arg ‹_› | ((repeat (first | exact .hd | apply RdS.tl)); done) | assumption | exact .arg (hNi _ (by omega)) | exact .arg (gNi _ (by omega))) (by decide) (by omega)) trivial rfl ?_ | refine AK.val _ (Yl.idxK sl49 rfl rfl (by first | exact .arg ‹_› | ((repeat (first | exact .hd | apply RdS.tl)); done) | assumption | exact .arg (hNi _ (by omega)) | exact .arg (gNi _ (by omega))) (by decide) (by omega)) trivial rfl ?_
                            refine AK.val _ (Yl.loadS on9 rfl (by first | exact .arg ‹_› | ((repeat (first | exact .hd | apply RdS.tl)); done) | assumption | exact .arg (hNi _ (by omega)) | exact .arg (gNi _ (by omega))) (by omega)) trivial rfl ?_
                            refine AK.val _ (Yl.assign rfl) trivial rfl ?_
                            refine AK.val _ (Yl.assign rfl) trivial rfl ?_
                            refine AK.nil ?_
                            refine AK.then_ (hK49 _ ?_)
                            refine AK.seq (fun _ hK50 => ?_)
                            refine AK.region ?_
                            refine AK.val _ (Yl.loadBoxG ag25 rfl (by first | ((repeat (first | exact .hd | apply BoxS.tl | apply MapS.tl)); done) | assumption | exact BoxS.arg (by assumption)) rfl rfl) trivial rfl ?_
                            refine AK.val _ (Yl.fieldAddr fd25_1 rfl) trivial rfl ?_
                            refine AK.val _ (Yl.loadBox on3 rfl (by first | ((repeat (first | exact .hd | apply BoxS.tl | apply MapS.tl)); done) | assumption | exact BoxS.arg (by assumption)) rfl) trivial rfl ?_
                            refine AK.val _ (Yl.move rfl) trivial rfl ?_
                            refine AK.call co49 rfl (fun w hw => s_refrun w _ m (k0.at hw) m.s (ac.getD j []) (hla _ (getD_mem (by omega))) hvm) trivial rfl ?_
                            rintro r o ⟨rfl, rfl⟩
                            refine AK.val _ (Yl.move rfl) trivial rfl ?_
                            refine AK.val _ (Yl.neq rfl rfl) trivial rfl ?_
                            refine AK.nil ?_
                            refine AK.then_ (hK50 _ ?_)
                            refine AK.condNe rfl (fun hc10 => ?_) (fun hc10 => ?_)
                            · refine AK.seq (fun _ hK51 => ?_)
                              refine AK.region ?_
                              refine AK.val _ (Yl.assign rfl) trivial rfl ?_
                              refine AK.nil ?_
                              refine AK.then_ (hK51 _ ?_)
                              refine AK.ret ?_
                              refine AK.block_ret ?_
                              refine AK.then_ret ?_
                              refine AK.then_ret ?_
                              refine AK.block_ret ?_
                              refine AK.then_ret ?_
                              refine AK.ret1 rfl rfl (fun w hw => ⟨_, _, ?_, rfl, Ret.of (hw.pick [] (by decide) rfl rfl)⟩)
                              refine ⟨false, rfl, ⟨fun h => (by cases h), fun h => ?_⟩, rfl⟩
                              exfalso
                              exact hc10 (h.acc.run j (by omega))
                            · refine AK.skip ?_
                              refine AK.block_normal ?_
                              refine AK.then_ (hK48 _ ?_)
                              refine AK.region ?_
                              refine AK.val _ (Yl.add rfl rfl (by omega)) trivial rfl ?_
                              refine AK.val _ (Yl.move rfl) trivial rfl ?_
                              refine AK.nil ?_
                              refine AK.then_ (hK45 _ _ (j + 1) ⟨by omega, all_succ hg3.2 (by first | exact hc10 | exact Classical.not_not.1 hc10)⟩ (by omega) (.cons (rfl) (.cons rfl (.cons rfl (.cons rfl (.cons rfl (.cons rfl (.nil))))))) (fun w hw => hw))
                          · refine AK.exit ?_
                            refine AK.then_exit ?_
                            refine AK.then_exit ?_
                            refine AK.block_exit ?_
                            refine AK.then_ (hK43 _ ?_)
                            refine AK.seq (fun _ hK52 => ?_)
                            refine AK.seq (fun _ hK53 => ?_)
                            refine AK.region ?_
                            refine AK.val _ (Yl.fieldAddr fd51_2 rfl) trivial rfl ?_
                            refine AK.val _ (Yl.loadBox on49 rfl (by first | ((repeat (first | exact .hd | apply BoxS.tl | apply MapS.tl)); done) | assumption | exact BoxS.arg (by assumption)) rfl) trivial rfl ?_
                            refine AK.val _ (Yl.lenR sl49 rfl (by first | exact .arg ‹_› | ((repeat (first | exact .hd | apply RdS.tl)); done) | assumption | exact .arg (hNi _ (by omega)) | exact .arg (gNi _ (by omega)))) trivial rfl ?_
                            refine AK.val _ (Yl.move rfl) trivial rfl ?_
                            refine AK.nil ?_
                            refine AK.then_ (hK53 _ ?_)
                            refine AK.block ?_
                            refine AK.loopK (X := Nat) [(4, _), (5, _), (7, _), (154, _), (155, _)] (fun j => [(156, .int .i64 (j : Int))]) (fun j => [box bx3 25 4 [.int .i64 d.L, .int .i64 d.s, vF, vN], box bx4 25 4 [.int .i64 m.L, .int .i64 m.s, uF, uN], box bx5 51 3 [vp, va, vt]]) (fun j => j ≤ ts.length ∧ ∀ i, i < j → validW m.L (ts.getD i []) = true) (fun j => ts.length - j) (0) (.cons rfl (.cons rfl (.cons rfl (.cons rfl (.cons rfl (.nil)))))) ?_ ?_ ?_ ?_
                            · exact ⟨Nat.zero_le _, fun i hi => (by cases hi)⟩
                            · exact .cons (rfl) (.nil)
                            · exact fun w hw => hw
                            · intro j hg4 _ hK54
                              refine AK.seq (fun _ hK55 => ?_)
                              refine AK.region ?_
                              refine AK.val _ (Yl.lss rfl rfl) trivial rfl ?_
                              refine AK.nil ?_
                              refine AK.then_ (hK55 _ ?_)
                              refine AK.seq (fun _ hK56 => ?_)
                              refine AK.condD rfl (fun hc11 => ?_) (fun hc11 => ?_)
                              · refine AK.skip ?_
                                refine AK.then_ (hK56 _ ?_)
                                refine AK.seq (fun _ hK57 => ?_)
                                refine AK.block ?_
                                refine AK.seq (fun _ hK58 => ?_)
                                refine AK.region ?_
                                first | refine AK.val _ (Yl.idxN sl49 rfl rfl (by first | exact .arg ‹_› | ((repeat (first | exact .hd | apply RdS.tl)); done) | assumption | exact .arg (hNi _ (by omega)) | exact .arg (gNi _ (by omega))) (by decide) (by omega)) trivial rfl ?_ | refine AK.val _ (Yl.idx sl49 rfl rfl (by first | exact .arg ‹_› | ((repeat (first | exact .hd | apply RdS.tl)); done) | assumption | exact .arg (hNi _ (by omega)) | exact .arg (gNi _ (by omega))) (by decide) (by omega)) trivial rfl ?_ | refine AK.val _ (Yl.idxK sl49 rfl rfl (by first | exact .arg ‹_› | ((repeat (first | exact .hd | apply RdS.tl)); done) | assumption | exact .arg (hNi _ (by omega)) | exact .arg (gNi _ (by omega))) (by decide) (by omega)) trivial rfl ?_
                                refine AK.val _ (Yl.loadS on9 rfl (by first | exact .arg ‹_› | ((repeat (first | exact .hd | apply RdS.tl)); done) | assumption | exact .arg (hNi _ (by omega)) | exact .arg (gNi _ (by omega))) (by omega)) trivial rfl ?_
                                refine AK.val _ (Yl.assign rfl) trivial rfl ?_
                                refine AK.nil ?_
                                refine AK.then_ (hK58 _ ?_)
                                refine AK.seq (fun _ hK59 => ?_)
                                refine AK.region ?_
                                refine AK.val _ (Yl.move rfl) trivial rfl ?_
                                refine AK.val _ (Yl.fieldAddr fd25_0 rfl) trivial rfl ?_
                                refine AK.val _ (Yl.loadBox on3 rfl (by first | ((repeat (first | exact .hd | apply BoxS.tl | apply MapS.tl)); done) | assumption | exact BoxS.arg (by assumption)) rfl) trivial rfl ?_
                                refine AK.call co31 rfl (fun w hw => s_refwvalid w (ts.getD j []) m.L (hlt _ (getD_mem (by omega)))) trivial rfl ?_
                                rintro r o ⟨rfl, rfl⟩
                                refine AK.val _ (Yl.not rfl) trivial rfl ?_
                                refine AK.nil ?_
                                refine AK.then_ (hK59 _ ?_)
                                refine AK.condB rfl (fun hc12 => ?_) (fun hc12 => ?_)
                                · refine AK.seq (fun _ hK60 => ?_)
                                  refine AK.region ?_
                                  refine AK.val _ (Yl.assign rfl) trivial rfl ?_
                                  refine AK.nil ?_
                                  refine AK.then_ (hK60 _ ?_)
                                  refine AK.ret ?_
                                  refine AK.block_ret ?_
                                  refine AK.then_ret ?_
                                  refine AK.then_ret ?_
                                  refine AK.block_ret ?_
                                  refine AK.then_ret ?_
                                  refine AK.ret1 rfl rfl (fun w hw => ⟨_, _, ?_, rfl, Ret.of (hw.pick [] (by decide) rfl rfl)⟩)
                                  refine ⟨false, rfl, ⟨fun h => (by cases h), fun h => ?_⟩, rfl⟩
                                  exfalso
                                  have h1 := h.tst.ok _ (getD_mem (d := []) (xs := ts) (k := j) (by omega))
                                  rw [h1] at hc12; cases hc12
                                · have hwv : validW m.L (ts.getD j []) = true := by simpa using hc12
                                  refine AK.skip ?_
                                  refine AK.block_normal ?_
                                  refine AK.then_ (hK57 _ ?_)
                                  refine AK.region ?_
                                  refine AK.val _ (Yl.add rfl rfl (by omega)) trivial rfl ?_
                                  refine AK.val _ (Yl.move rfl) trivial rfl ?_
                                  refine AK.nil ?_
                                  refine AK.then_ (hK54 _ _ (j + 1) ⟨by omega, all_succ hg4.2 hwv⟩ (by omega) (.cons (rfl) (.cons rfl (.cons rfl (.cons rfl (.cons rfl (.cons rfl (.nil))))))) (fun w hw => hw))
                              · refine AK.exit ?_
                                refine AK.then_exit ?_
                                refine AK.then_exit ?_
                                refine AK.block_exit ?_
                                refine AK.then_ (hK52 _ ?_)
                                refine AK.seq (fun _ hK61 => ?_)
                                refine AK.seq (fun _ hK62 => ?_)
                                refine AK.region ?_
                                refine AK.val _ (Yl.assign rfl) trivial rfl ?_
                                refine AK.nil ?_
                                refine AK.then_ (hK62 _ ?_)
                                refine AK.block ?_
                                refine AK.loopK (X := Nat) [(4, _), (5, _), (7, _)] (fun i => [(17, .int .i64 (i : Int))]) (fun i => [box bx3 25 4 [.int .i64 d.L, .int .i64 d.s, vF, vN], box bx4 25 4 [.int .i64 m.L, .int .i64 m.s, uF, uN], box bx5 51 3 [vp, va, vt]]) (fun i => i ≤ m.fin.length ∧ ∀ p, p < i → ∀ q, q < p → apB m ts (p : Int) (q : Int) = true) (fun i => m.fin.length - i) (0) (.cons rfl (.cons rfl (.cons rfl (.nil)))) ?_ ?_ ?_ ?_
                                · exact ⟨Nat.zero_le _, fun i hi => (by cases hi)⟩
                                · exact .cons (rfl) (.nil)
                                · exact fun w hw => hw
                                · intro i hg5 _ hK63
                                  refine AK.seq (fun _ hK64 => ?_)
                                  refine AK.seq (fun _ hK65 => ?_)
                                  refine AK.region ?_
                                  refine AK.val _ (Yl.move rfl) trivial rfl ?_
                                  refine AK.val _ (Yl.move rfl) trivial rfl ?_
                                  refine AK.val _ (Yl.lss rfl rfl) trivial rfl ?_
                                  refine AK.nil ?_
                                  refine AK.then_ (hK65 _ ?_)
                                  refine AK.condD rfl (fun hc13 => ?_) (fun hc13 => ?_)
                                  · refine AK.skip ?_
                                    refine AK.then_ (hK64 _ ?_)
                                    refine AK.seq (fun _ hK66 => ?_)
                                    refine AK.block ?_
                                    refine AK.seq (fun _ hK67 => ?_)
                                    refine AK.region ?_
                                    refine AK.val _ (Yl.assign rfl) trivial rfl ?_
                                    refine AK.nil ?_
                                    refine AK.then_ (hK67 _ ?_)
                                    refine AK.block ?_
                                    refine AK.loopK (X := Nat) [(4, _), (5, _), (7, _), (17, _)] (fun j => [(18, .int .i64 (j : Int))]) (fun j => [box bx3 25 4 [.int .i64 d.L, .int .i64 d.s, vF, vN], box bx4 25 4 [.int .i64 m.L, .int .i64 m.s, uF, uN], box bx5 51 3 [vp, va, vt]]) (fun j => j ≤ i ∧ ∀ q, q < j → apB m ts (i : Int) (q : Int) = true) (fun j => i - j) (0) (.cons rfl (.cons rfl (.cons rfl (.cons rfl (.nil))))) ?_ ?_ ?_ ?_
                                    · exact ⟨Nat.zero_le _, fun i hi => (by cases hi)⟩
                                    · exact .cons (rfl) (.nil)
                                    · exact fun w hw => hw
                                    · intro j hg6 _ hK68
                                      refine AK.seq (fun _ hK69 => ?_)
                                      refine AK.seq (fun _ hK70 => ?_)
                                      refine AK.region ?_
                                      refine AK.val _ (Yl.move rfl) trivial rfl ?_
                                      refine AK.val _ (Yl.move rfl) trivial rfl ?_
                                      refine AK.val _ (Yl.lss rfl rfl) trivial rfl ?_
                                      refine AK.nil ?_
                                      refine AK.then_ (hK70 _ ?_)
                                      refine AK.condD rfl (fun hc14 => ?_) (fun hc14 => ?_)
                                      · refine AK.skip ?_
                                        refine AK.then_ (hK69 _ ?_)
                                        refine AK.seq (fun _ hK71 => ?_)
                                        refine AK.block ?_
                                        refine AK.seq (fun _ hK72 => ?_)
                                        refine AK.region ?_
                                        refine AK.val _ (Yl.assign rfl) trivial rfl ?_
                                        refine AK.nil ?_
                                        refine AK.then_ (hK72 _ ?_)
                                        refine AK.seq (fun _ hK73 => ?_)
                                        refine AK.seq (fun _ hK74 => ?_)
                                        refine AK.region ?_
                                        refine AK.val _ (Yl.fieldAddr fd51_2 rfl) trivial rfl ?_
                                        refine AK.val _ (Yl.loadBox on49 rfl (by first | ((repeat (first | exact .hd | apply BoxS.tl | apply MapS.tl)); done) | assumption | exact BoxS.arg (by assumption)) rfl) trivial rfl ?_
                                        refine AK.val _ (Yl.lenR sl49 rfl (by first | exact .arg ‹_› | ((repeat (first | exact .hd | apply RdS.tl)); done) | assumption | exact .arg (hNi _ (by omega)) | exact .arg (gNi _ (by omega)))) trivial rfl ?_
                                        refine AK.val _ (Yl.move rfl) trivial rfl ?_
                                        refine AK.nil ?_
                                        refine AK.then_ (hK74 _ ?_)
                                        refine AK.block ?_
                                        refine AK.loopK (X := Nat) [(4, _), (5, _), (7, _), (17, _), (18, _), (177, _), (178, _)] (fun u => [(19, .bool (apB m (ts.take u) (i : Int) (j : Int))), (179, .int .i64 (u : Int))]) (fun u => [box bx3 25 4 [.int .i64 d.L, .int .i64 d.s, vF, vN], box bx4 25 4 [.int .i64 m.L, .int .i64 m.s, uF, uN], box bx5 51 3 [vp, va, vt]]) (fun u => u ≤ ts.length) (fun u => ts.length - u) (0) (.cons rfl (.cons rfl (.cons rfl (.cons rfl (.cons rfl (.cons rfl (.cons rfl (.nil)))))))) ?_ ?_ ?_ ?_
                                        · exact Nat.zero_le _
                                        · exact .cons (rfl) (.cons (rfl) (.nil))
                                        · exact fun w hw => hw
                                        · intro u hg7 _ hK75
                                          refine AK.seq (fun _ hK76 => ?_)
                                          refine AK.region ?_
                                          refine AK.val _ (Yl.lss rfl rfl) trivial rfl ?_
                                          refine AK.nil ?_
                                          refine AK.then_ (hK76 _ ?_)
                                          refine AK.seq (fun _ hK77 => ?_)
                                          refine AK.condD rfl (fun hc15 => ?_) (fun hc15 => ?_)
                                          · have hwl := hlt (ts.getD u []) (getD_mem (by omega))
                                            have hwv := hg4.2 u (by omega)
                                            have hri := run_of hvm (q := i) (by omega) hwv
                                            have hrj := run_of hvm (q := j) (by omega) hwv
                                            have hbi := runI_bdw hvm (q := (i : Int)) ⟨by omega, by omega⟩ hwv
                                            have hbj := runI_bdw hvm (q := (j : Int)) ⟨by omega, by omega⟩ hwv
                                            refine AK.skip ?_
                                            refine AK.then_ (hK77 _ ?_)
                                            refine AK.seq (fun _ hK78 => ?_)
                                            refine AK.block ?_
                                            refine AK.seq (fun _ hK79 => ?_)
                                            refine AK.region ?_
                                            first | refine AK.val _ (Yl.idxN sl49 rfl rfl (by first | exact .arg ‹_› | ((repeat (first | exact .hd | apply RdS.tl)); done) | assumption | exact .arg (hNi _ (by omega)) | exact .arg (gNi _ (by omega))) (by decide) (by omega)) trivial rfl ?_ | refine AK.val _ (Yl.idx sl49 rfl rfl (by first | exact .arg ‹_› | ((repeat (first | exact .hd | apply RdS.tl)); done) | assumption | exact .arg (hNi _ (by omega)) | exact .arg (gNi _ (by omega))) (by decide) (by omega)) trivial rfl ?_ | refine AK.val _ (Yl.idxK sl49 rfl rfl (by first | exact .arg ‹_› | ((repeat (first | exact .hd | apply RdS.tl)); done) | assumption | exact .arg (hNi _ (by omega)) | exact .arg (gNi _ (by omega))) (by decide) (by omega)) trivial rfl ?_
                                            refine AK.val _ (Yl.loadS on9 rfl (by first | exact .arg ‹_› | ((repeat (first | exact .hd | apply RdS.tl)); done) | assumption | exact .arg (hNi _ (by omega)) | exact .arg (gNi _ (by omega))) (by omega)) trivial rfl ?_
                                            refine AK.val _ (Yl.assign rfl) trivial rfl ?_
                                            refine AK.nil ?_
                                            refine AK.then_ (hK79 _ ?_)
                                            refine AK.quiet mixed (by kernel_rfl) ?_
                                            refine QK.val _ (Yl.move rfl) trivial rfl ?_
                                            refine QK.val _ (Yl.move rfl) trivial rfl ?_
                                            refine QK.splitB (g := 184) rfl (fun hg_46_1 => ?_) (fun hg_46_1 => ?_)
                                            · have hg_46_1' := hg_46_1
                                              try simp only [decide_eq_true_eq, decide_eq_false_iff_not, Bool.not_eq_true', Bool.not_eq_false', Bool.not_not, ne_eq, Decidable.not_not, Int.not_lt, Int.not_le, beq_iff_eq, bne_iff_ne, Bool.and_eq_true, Bool.or_eq_true, Bool.or_eq_false_iff, Bool.not_false, Bool.not_true, reduceCtorEq, not_true_eq_false, not_false_eq_true] at hg_46_1'
                                              refine QK.pass rfl rfl (hg_46_1) rfl ?_
                                              refine QK.pass rfl rfl (hg_46_1) rfl ?_
                                              refine QK.pass rfl rfl (hg_46_1) rfl ?_
                                              refine QK.pass rfl rfl (hg_46_1) rfl ?_
                                              refine QK.pass rfl rfl (hg_46_1) rfl ?_
                                              refine QK.pass rfl rfl (hg_46_1) rfl ?_
                                              refine QK.pass rfl rfl (hg_46_1) rfl ?_
                                              refine QK.pass rfl rfl (hg_46_1) rfl ?_
                                              refine QK.pass rfl rfl (hg_46_1) rfl ?_
                                              refine QK.pass rfl rfl (hg_46_1) rfl ?_
                                              refine QK.pass rfl rfl (hg_46_1) rfl ?_
                                              refine QK.pass rfl rfl (hg_46_1) rfl ?_
                                              refine QK.pass rfl rfl (hg_46_1) rfl ?_
                                              refine QK.pass rfl rfl (hg_46_1) rfl ?_
                                              refine QK.pass rfl rfl (hg_46_1) rfl ?_
                                              refine QK.pass rfl rfl (hg_46_1) rfl ?_
                                              refine QK.pass rfl rfl (hg_46_1) rfl ?_
                                              refine QK.val _ (Yl.pickT rfl (hg_46_1) rfl) trivial rfl ?_
                                              refine QK.val _ (Yl.assign rfl) trivial rfl ?_
                                              refine QK.nil (QK.fin ?_)
                                              refine AK.block_normal ?_
                                              refine AK.then_ (hK78 _ ?_)
                                              refine AK.region ?_
                                              refine AK.val _ (Yl.add rfl rfl (by omega)) trivial rfl ?_
                                              refine AK.val _ (Yl.move rfl) trivial rfl ?_
                                              refine AK.nil ?_
                                              refine AK.then_ (hK75 _ _ (u + 1) (by omega) (by omega) (.cons (slB rfl (by rw [take_snocD [] ts u (by omega), apB_snoc, hg_46_1]; rfl)) (.cons (rfl) (.cons rfl (.cons rfl (.cons rfl (.cons rfl (.cons rfl (.cons rfl (.cons rfl (.nil)))))))))) (fun w hw => hw))
                                            · have hg_46_1' := hg_46_1
                                              try simp only [decide_eq_true_eq, decide_eq_false_iff_not, Bool.not_eq_true', Bool.not_eq_false', Bool.not_not, ne_eq, Decidable.not_not, Int.not_lt, Int.not_le, beq_iff_eq, bne_iff_ne, Bool.and_eq_true, Bool.or_eq_true, Bool.or_eq_false_iff, Bool.not_false, Bool.not_true, reduceCtorEq, not_true_eq_false, not_false_eq_true] at hg_46_1'
                                              refine QK.val _ (Yl.fieldAddr fd25_2 rfl) ⟨_, rfl, congrArg (fun b => some (Value.bool b)) hg_46_1⟩ rfl ?_
                                              refine QK.val _ (Yl.loadBox on22 rfl (by first | ((repeat (first | exact .hd | apply BoxS.tl | apply MapS.tl)); done) | assumption | exact BoxS.arg (by assumption)) rfl) ⟨_, rfl, congrArg (fun b => some (Value.bool b)) hg_46_1⟩ rfl ?_
                                              refine QK.val _ (Yl.loadBoxG ag25 rfl (by first | ((repeat (first | exact .hd | apply BoxS.tl | apply MapS.tl)); done) | assumption | exact BoxS.arg (by assumption)) rfl rfl) ⟨_, rfl, congrArg (fun b => some (Value.bool b)) hg_46_1⟩ rfl ?_
                                              refine QK.val _ (Yl.move rfl) ⟨_, rfl, congrArg (fun b => some (Value.bool b)) hg_46_1⟩ rfl ?_
                                              refine QK.val _ (Yl.move rfl) ⟨_, rfl, congrArg (fun b => some (Value.bool b)) hg_46_1⟩ rfl ?_
                                              refine QK.call (.int .i64 (runI m (i : Int) (ts.getD u []))) co49 rfl (fun w hw => s_refrun w _ m (k0.at hw) (i : Int) (ts.getD u []) hwl hvm) (fun _ _ h => by rw [h.1, hri]) ⟨_, rfl, congrArg (fun b => some (Value.bool b)) hg_46_1⟩ rfl ?_
                                              first | refine QK.val _ (Yl.idxN sl22 rfl rfl (by first | exact .arg ‹_› | ((repeat (first | exact .hd | apply RdS.tl)); done) | assumption | exact .arg (hNi _ (by omega)) | exact .arg (gNi _ (by omega))) (by decide) (by omega)) ⟨_, rfl, congrArg (fun b => some (Value.bool b)) hg_46_1⟩ rfl ?_ | refine QK.val _ (Yl.idx sl22 rfl rfl (by first | exact .arg ‹_› | ((repeat (first | exact .hd | apply RdS.tl)); done) | assumption | exact .arg (hNi _ (by omega)) | exact .arg (gNi _ (by omega))) (by decide) (by omega)) ⟨_, rfl, congrArg (fun b => some (Value.bool b)) hg_46_1⟩ rfl ?_ | refine QK.val _ (Yl.idxK sl22 rfl rfl (by first | exact .arg ‹_› | ((repeat (first | exact .hd | apply RdS.tl)); done) | assumption | exact .arg (hNi _ (by omega)) | exact .arg (gNi _ (by omega))) (by decide) (by omega)) ⟨_, rfl, congrArg (fun b => some (Value.bool b)) hg_46_1⟩ rfl ?_
                                              refine QK.val _ (Yl.loadB on4 rfl (by first | exact .arg ‹_› | ((repeat (first | exact .hd | apply RdS.tl)); done) | assumption | exact .arg (hNi _ (by omega)) | exact .arg (gNi _ (by omega))) (by omega)) ⟨_, rfl, congrArg (fun b => some (Value.bool b)) hg_46_1⟩ rfl ?_
                                              refine QK.val _ (Yl.fieldAddr fd25_2 rfl) ⟨_, rfl, congrArg (fun b => some (Value.bool b)) hg_46_1⟩ rfl ?_
                                              refine QK.val _ (Yl.loadBox on22 rfl (by first | ((repeat (first | exact .hd | apply BoxS.tl | apply MapS.tl)); done) | assumption | exact BoxS.arg (by assumption)) rfl) ⟨_, rfl, congrArg (fun b => some (Value.bool b)) hg_46_1⟩ rfl ?_
                                              refine QK.val _ (Yl.loadBoxG ag25 rfl (by first | ((repeat (first | exact .hd | apply BoxS.tl | apply MapS.tl)); done) | assumption | exact BoxS.arg (by assumption)) rfl rfl) ⟨_, rfl, congrArg (fun b => some (Value.bool b)) hg_46_1⟩ rfl ?_
                                              refine QK.val _ (Yl.move rfl) ⟨_, rfl, congrArg (fun b => some (Value.bool b)) hg_46_1⟩ rfl ?_
                                              refine QK.val _ (Yl.move rfl) ⟨_, rfl, congrArg (fun b => some (Value.bool b)) hg_46_1⟩ rfl ?_
                                              refine QK.call (.int .i64 (runI m (j : Int) (ts.getD u []))) co49 rfl (fun w hw => s_refrun w _ m (k0.at hw) (j : Int) (ts.getD u []) hwl hvm) (fun _ _ h => by rw [h.1, hrj]) ⟨_, rfl, congrArg (fun b => some (Value.bool b)) hg_46_1⟩ rfl ?_
                                              first | refine QK.val _ (Yl.idxN sl22 rfl rfl (by first | exact .arg ‹_› | ((repeat (first | exact .hd | apply RdS.tl)); done) | assumption | exact .arg (hNi _ (by omega)) | exact .arg (gNi _ (by omega))) (by decide) (by omega)) ⟨_, rfl, congrArg (fun b => some (Value.bool b)) hg_46_1⟩ rfl ?_ | refine QK.val _ (Yl.idx sl22 rfl rfl (by first | exact .arg ‹_› | ((repeat (first | exact .hd | apply RdS.tl)); done) | assumption | exact .arg (hNi _ (by omega)) | exact .arg (gNi _ (by omega))) (by decide) (by omega)) ⟨_, rfl, congrArg (fun b => some (Value.bool b)) hg_46_1⟩ rfl ?_ | refine QK.val _ (Yl.idxK sl22 rfl rfl (by first | exact .arg ‹_› | ((repeat (first | exact .hd | apply RdS.tl)); done) | assumption | exact .arg (hNi _ (by omega)) | exact .arg (gNi _ (by omega))) (by decide) (by omega)) ⟨_, rfl, congrArg (fun b => some (Value.bool b)) hg_46_1⟩ rfl ?_
                                              refine QK.val _ (Yl.loadB on4 rfl (by first | exact .arg ‹_› | ((repeat (first | exact .hd | apply RdS.tl)); done) | assumption | exact .arg (hNi _ (by omega)) | exact .arg (gNi _ (by omega))) (by omega)) ⟨_, rfl, congrArg (fun b => some (Value.bool b)) hg_46_1⟩ rfl ?_
                                              refine QK.val _ (Yl.neqB bo4 rfl rfl) ⟨_, rfl, congrArg (fun b => some (Value.bool b)) hg_46_1⟩ rfl ?_
                                              refine QK.val _ (Yl.pickF rfl (hg_46_1) rfl) trivial rfl ?_
                                              refine QK.val _ (Yl.assign rfl) trivial rfl ?_
                                              refine QK.nil (QK.fin ?_)
                                              refine AK.block_normal ?_
                                              refine AK.then_ (hK78 _ ?_)
                                              refine AK.region ?_
                                              refine AK.val _ (Yl.add rfl rfl (by omega)) trivial rfl ?_
                                              refine AK.val _ (Yl.move rfl) trivial rfl ?_
                                              refine AK.nil ?_
                                              refine AK.then_ (hK75 _ _ (u + 1) (by omega) (by omega) (.cons (slB rfl (by rw [take_snocD [] ts u (by omega), apB_snoc, hg_46_1]; rfl)) (.cons (rfl) (.cons rfl (.cons rfl (.cons rfl (.cons rfl (.cons rfl (.cons rfl (.cons rfl (.nil)))))))))) (fun w hw => hw))
                                          · have htk : ts.take u = ts := by rw [show u = ts.length by omega, List.take_length]
                                            refine AK.exit ?_
                                            refine AK.then_exit ?_
                                            refine AK.then_exit ?_
                                            refine AK.block_exit ?_
                                            refine AK.then_ (hK73 _ ?_)
                                            refine AK.seq (fun _ hK80 => ?_)
                                            refine AK.region ?_
                                            refine AK.val _ (Yl.move rfl) trivial rfl ?_
                                            refine AK.val _ (Yl.not rfl) trivial rfl ?_
                                            refine AK.nil ?_
                                            refine AK.then_ (hK80 _ ?_)
                                            refine AK.condB rfl (fun hc16 => ?_) (fun hc16 => ?_)
                                            · refine AK.seq (fun _ hK81 => ?_)
                                              refine AK.region ?_
                                              refine AK.val _ (Yl.assign rfl) trivial rfl ?_
                                              refine AK.nil ?_
                                              refine AK.then_ (hK81 _ ?_)
                                              refine AK.ret ?_
                                              refine AK.block_ret ?_
                                              refine AK.then_ret ?_
                                              refine AK.then_ret ?_
                                              refine AK.block_ret ?_
                                              refine AK.block_ret ?_
                                              refine AK.then_ret ?_
                                              refine AK.then_ret ?_
                                              refine AK.block_ret ?_
                                              refine AK.then_ret ?_
                                              refine AK.ret1 rfl rfl (fun w hw => ⟨_, _, ?_, rfl, Ret.of (hw.pick [] (by decide) rfl rfl)⟩)
                                              refine ⟨false, rfl, ⟨fun h => (by cases h), fun h => ?_⟩, rfl⟩
                                              exfalso
                                              have h1 := h.tst.sep (i : Int) (j : Int) ⟨by omega, by omega⟩ ⟨by omega, by omega⟩ (apB_iff.1 (by rw [htk] at hc16; simpa using hc16))
                                              omega
                                            · have hap : apB m ts (i : Int) (j : Int) = true := by rw [htk] at hc16; simpa using hc16
                                              refine AK.skip ?_
                                              refine AK.block_normal ?_
                                              refine AK.then_ (hK71 _ ?_)
                                              refine AK.region ?_
                                              refine AK.val _ (Yl.move rfl) trivial rfl ?_
                                              refine AK.val _ (Yl.add rfl rfl (by omega)) trivial rfl ?_
                                              refine AK.val _ (Yl.assign rfl) trivial rfl ?_
                                              refine AK.nil ?_
                                              refine AK.then_ (hK68 _ _ (j + 1) ⟨by omega, all_succ hg6.2 hap⟩ (by omega) (.cons (rfl) (.cons rfl (.cons rfl (.cons rfl (.cons rfl (.nil)))))) (fun w hw => hw))
                                      · refine AK.exit ?_
                                        refine AK.then_exit ?_
                                        refine AK.then_exit ?_
                                        refine AK.block_exit ?_
                                        refine AK.block_normal ?_
                                        refine AK.then_ (hK66 _ ?_)
                                        refine AK.region ?_
                                        refine AK.val _ (Yl.move rfl) trivial rfl ?_
                                        refine AK.val _ (Yl.add rfl rfl (by omega)) trivial rfl ?_
                                        refine AK.val _ (Yl.assign rfl) trivial rfl ?_
                                        refine AK.nil ?_
                                        refine AK.then_ (hK63 _ _ (i + 1) ⟨by omega, all_succ hg5.2 (fun q hq => hg6.2 q (by omega))⟩ (by omega) (.cons (rfl) (.cons rfl (.cons rfl (.cons rfl (.nil))))) (fun w hw => hw))
                                  · refine AK.exit ?_
                                    refine AK.then_exit ?_
                                    refine AK.then_exit ?_
                                    refine AK.block_exit ?_
                                    refine AK.then_ (hK61 _ ?_)
                                    refine AK.seq (fun _ hK82 => ?_)
                                    refine AK.region ?_
                                    refine AK.val _ (Yl.assign rfl) trivial rfl ?_
                                    refine AK.nil ?_
                                    refine AK.then_ (hK82 _ ?_)
                                    refine AK.ret ?_
                                    refine AK.ret1 rfl rfl (fun w hw => ⟨_, _, ?_, rfl, Ret.of (hw.pick [] (by decide) rfl rfl)⟩)
                                    refine ⟨true, rfl, ⟨fun _ => ⟨hv, hvm, hLL, MapOK.mk' hml hbd hst0 (fun i hi => hg1.2 i (by omega)), ⟨hal1, fun i hi => hg3.2 i (by omega)⟩, ⟨htl1, fun a ha => (by obtain ⟨i, hi, e⟩ := mem_getD [] ha; rw [← e]; exact hg4.2 i (by omega)), apB_sep (fun i hi => hg5.2 i (by omega))⟩⟩, fun _ => rfl⟩, rfl⟩

set_option maxHeartbeats 1000000 in
set_option maxRecDepth 100000 in
theorem l_checks (w : World) (v : Value) (d : Dfa) (h : RdD (fun _ => False) w v d) (vm : Value) (m : Dfa) (k : RdD (fun _ => False) w vm m) (vp va vt : Value) (mp : List Int) (ac ts : List (List UInt8)) (hp : RdL (fun _ => False) (Value.int .i64) w vp mp) (ha : RdL (fun _ => False) sv w va ac) (hla : ∀ a ∈ ac, a.length ≤ 9223372036854775807) (ht : RdL (fun _ => False) sv w vt ts) (hlt : ∀ a ∈ ts, a.length ≤ 9223372036854775807) : CallS Try.prog 10 [v, vm, .agg #[vp, va, vt]] w (fun r o => r = .bool true ∧ o = []) := by
  have h0 := h
  obtain ⟨vF, vN, rfl, hF, hN⟩ := h
  have hF0 := hF
  have hN0 := hN
  obtain ⟨rs, hrl, hNr, hNi⟩ := hN
  have sF := hF.sl
  have sN := hNr.sl
  have hmf := hF.le
  have hmn := hNr.le
  unfold RdL at hF
  have k0 := k
  obtain ⟨uF, uN, rfl, gF, gN⟩ := k
  have gF0 := gF
  have gN0 := gN
  obtain ⟨ss, gsl, gNr, gNi⟩ := gN
  have tF := gF.sl
  have tN := gNr.sl
  have gmf := gF.le
  have gmn := gNr.le
  unfold RdL at gF
  have hp0 := hp
  have ha0 := ha
  have ht0 := ht
  have hps := hp.sl
  have has := ha.sl
  have hts := ht.sl
  have hpl := hp.le
  have hal := ha.le
  have htl := ht.le
  unfold RdL at hp ha ht
  refine spec_of Try.func10 rfl (Nat.le_of_ble_eq_true rfl) ?_
  refine AK.seq (fun _ hK1 => ?_)
  refine AK.region ?_
  refine AK.box_ (E := 25) (cs := [.int .i64 d.L, .int .i64 d.s, vF, vN]) rfl rfl rfl trivial rfl (fun bx3 => ?_)
  refine AK.box_ (E := 25) (cs := [.int .i64 m.L, .int .i64 m.s, uF, uN]) rfl rfl rfl trivial rfl (fun bx4 => ?_)
  refine AK.box_ (E := 51) (cs := [vp, va, vt]) rfl rfl rfl trivial rfl (fun bx5 => ?_)
  refine AK.val _ (Yl.assign rfl) trivial rfl ?_
  refine AK.nil ?_
  refine AK.then_ (hK1 _ ?_)
  refine AK.seq (fun _ hK2 => ?_)
  refine AK.seq (fun _ hK3 => ?_)
  refine AK.region ?_
  refine AK.val _ (Yl.fieldAddr fd25_2 rfl) trivial rfl ?_
  refine AK.val _ (Yl.loadBox on22 rfl (by first | ((repeat (first | exact .hd | apply BoxS.tl | apply MapS.tl)); done) | assumption | exact BoxS.arg (by assumption)) rfl) trivial rfl ?_
  refine AK.val _ (Yl.lenR sl22 rfl (by first | exact .arg ‹_› | ((repeat (first | exact .hd | apply RdS.tl)); done) | assumption)) trivial rfl ?_
  refine AK.val _ (Yl.gtr rfl rfl) trivial rfl ?_
  refine AK.val _ (Yl.move rfl) trivial rfl ?_
  refine AK.splitB (g := 11) rfl (fun hg_1_4 => ?_) (fun hg_1_4 => ?_)
  · have hg_1_4' := hg_1_4
    try simp only [decide_eq_true_eq, decide_eq_false_iff_not, Bool.not_eq_true', Bool.not_eq_false', Bool.not_not, ne_eq, Decidable.not_not, Int.not_lt, Int.not_le, beq_iff_eq, bne_iff_ne, Bool.and_eq_true, Bool.or_eq_true, Bool.or_eq_false_iff, Bool.not_false, Bool.not_true, reduceCtorEq, not_true_eq_false, not_false_eq_true] at hg_1_4'
    refine AK.pass rfl rfl (hg_1_4) rfl ?_
    refine AK.pass rfl rfl (hg_1_4) rfl ?_
    refine AK.pass rfl rfl (hg_1_4) rfl ?_
    refine AK.pass rfl rfl (hg_1_4) rfl ?_
    refine AK.val _ (Yl.pickT rfl (hg_1_4) rfl) trivial rfl ?_
    refine AK.nil ?_
    refine AK.then_ (hK3 _ ?_)
    refine AK.cond_t rfl (rfl) ?_
    refine AK.seq (fun _ hK4 => ?_)
    refine AK.region ?_
    refine AK.call co16 rfl (fun w hw => s_awake w) trivial rfl ?_
    rintro r o ⟨rfl, rfl⟩
    refine AK.val _ (Yl.assign rfl) trivial rfl ?_
    refine AK.nil ?_
    refine AK.then_ (hK4 _ ?_)
    refine AK.ret ?_
    refine AK.then_ret ?_
    refine AK.ret1 rfl rfl (fun w hw => ⟨_, _, ?_, rfl, Ret.of (hw.pick [] (by decide) rfl rfl)⟩)
    exact ⟨rfl, rfl⟩
  · have hg_1_4' := hg_1_4
    try simp only [decide_eq_true_eq, decide_eq_false_iff_not, Bool.not_eq_true', Bool.not_eq_false', Bool.not_not, ne_eq, Decidable.not_not, Int.not_lt, Int.not_le, beq_iff_eq, bne_iff_ne, Bool.and_eq_true, Bool.or_eq_true, Bool.or_eq_false_iff, Bool.not_false, Bool.not_true, reduceCtorEq, not_true_eq_false, not_false_eq_true] at hg_1_4'
    refine AK.val _ (Yl.fieldAddr fd25_2 rfl) ⟨_, rfl, congrArg (fun b => some (Value.bool b)) hg_1_4⟩ rfl ?_
    refine AK.val _ (Yl.loadBox on22 rfl (by first | ((repeat (first | exact .hd | apply BoxS.tl | apply MapS.tl)); done) | assumption | exact BoxS.arg (by assumption)) rfl) ⟨_, rfl, congrArg (fun b => some (Value.bool b)) hg_1_4⟩ rfl ?_
    refine AK.val _ (Yl.lenR sl22 rfl (by first | exact .arg ‹_› | ((repeat (first | exact .hd | apply RdS.tl)); done) | assumption)) ⟨_, rfl, congrArg (fun b => some (Value.bool b)) hg_1_4⟩ rfl ?_
    refine AK.val _ (Yl.gtr rfl rfl) ⟨_, rfl, congrArg (fun b => some (Value.bool b)) hg_1_4⟩ rfl ?_
    refine AK.val _ (Yl.pickF rfl (hg_1_4) rfl) trivial rfl ?_
    refine AK.nil ?_
    refine AK.then_ (hK3 _ ?_)
    refine AK.condD rfl (fun hc0 => ?_) (fun hc0 => ?_)
    · refine AK.seq (fun _ hK5 => ?_)
      refine AK.region ?_
      refine AK.call co16 rfl (fun w hw => s_awake w) trivial rfl ?_
      rintro r o ⟨rfl, rfl⟩
      refine AK.val _ (Yl.assign rfl) trivial rfl ?_
      refine AK.nil ?_
      refine AK.then_ (hK5 _ ?_)
      refine AK.ret ?_
      refine AK.then_ret ?_
      refine AK.ret1 rfl rfl (fun w hw => ⟨_, _, ?_, rfl, Ret.of (hw.pick [] (by decide) rfl rfl)⟩)
      exact ⟨rfl, rfl⟩
    · refine AK.skip ?_
      refine AK.then_ (hK2 _ ?_)
      refine AK.seq (fun _ hK6 => ?_)
      try (conv => enter [2, 2]; dsimp only [List.set_cons_zero, List.set_cons_succ, List.cons_append, List.nil_append])
      refine AK.held 13 mixed ?_
      refine HeldK.first 0 (fuel := 12) (listed' := #[true, false, false, false, false, false, false, false, false, false, false, false, false]) _ rfl (by kernel_rfl) rfl rfl (Yl.loadBoxG ag25 rfl (by first | ((repeat (first | exact .hd | apply BoxS.tl | apply MapS.tl)); done) | assumption | exact BoxS.arg (by assumption)) rfl rfl) trivial rfl ?_
      refine HeldK.first 1 (fuel := 11) (listed' := #[true, true, false, false, false, false, false, false, false, false, false, false, false]) _ rfl (by kernel_rfl) rfl rfl (Yl.loadBoxG ag25 rfl (by first | ((repeat (first | exact .hd | apply BoxS.tl | apply MapS.tl)); done) | assumption | exact BoxS.arg (by assumption)) rfl rfl) trivial rfl ?_
      refine HeldK.first 2 (fuel := 10) (listed' := #[true, true, true, false, false, false, false, false, false, false, false, false, false]) _ rfl (by kernel_rfl) rfl rfl (Yl.loadBoxG ag51 rfl (by first | ((repeat (first | exact .hd | apply BoxS.tl | apply MapS.tl)); done) | assumption | exact BoxS.arg (by assumption)) rfl rfl) trivial rfl ?_
      refine HeldK.first 4 (fuel := 9) (listed' := #[true, true, true, false, true, false, false, false, false, false, false, false, false]) _ rfl (by kernel_rfl) rfl rfl (Yl.loadBoxG ag25 rfl (by first | ((repeat (first | exact .hd | apply BoxS.tl | apply MapS.tl)); done) | assumption | exact BoxS.arg (by assumption)) rfl rfl) trivial rfl ?_
      refine HeldK.first 5 (fuel := 8) (listed' := #[true, true, true, false, true, true, false, false, false, false, false, false, false]) _ rfl (by kernel_rfl) rfl rfl (Yl.loadBoxG ag25 rfl (by first | ((repeat (first | exact .hd | apply BoxS.tl | apply MapS.tl)); done) | assumption | exact BoxS.arg (by assumption)) rfl rfl) trivial rfl ?_
      refine HeldK.first 6 (fuel := 7) (listed' := #[true, true, true, false, true, true, true, false, false, false, false, false, false]) _ rfl (by kernel_rfl) rfl rfl (Yl.loadBoxG ag51 rfl (by first | ((repeat (first | exact .hd | apply BoxS.tl | apply MapS.tl)); done) | assumption | exact BoxS.arg (by assumption)) rfl rfl) trivial rfl ?_
      refine HeldK.one 3 (fuel := 6) (listed' := #[true, true, true, true, true, true, true, false, false, false, false, false, false]) (by kernel_rfl) rfl rfl ?_
      refine AK.call co32 rfl (fun w hw => s_check w _ d (h0.at hw) _ m (k0.at hw) _ _ _ mp ac ts (hp0.at hw) (ha0.at hw) hla (ht0.at hw) hlt) trivial rfl ?_
      rintro r o ⟨b1, rfl, hb1, rfl⟩
      refine AK.nil ?_
      try (conv => enter [2, 2]; dsimp only [List.set_cons_zero, List.set_cons_succ, List.cons_append, List.nil_append])
      refine HeldK.back (by repeat (first | exact HWle.nil | refine HWle.cons Ale.rfl ?_ | refine HWle.cons Ale.fst ?_)) ?_
      refine HeldK.one 7 (fuel := 5) (listed' := #[true, true, true, true, true, true, true, true, false, false, false, false, false]) (by kernel_rfl) rfl rfl ?_
      refine AK.call co33 rfl (fun w hw => s_refcheck w _ d (h0.at hw) _ m (k0.at hw) _ _ _ mp ac ts (hp0.at hw) (ha0.at hw) hla (ht0.at hw) hlt) trivial rfl ?_
      rintro r o ⟨b2, rfl, hb2, rfl⟩
      refine AK.nil ?_
      try (conv => enter [2, 2]; dsimp only [List.set_cons_zero, List.set_cons_succ, List.cons_append, List.nil_append])
      refine HeldK.back (by repeat (first | exact HWle.nil | refine HWle.cons Ale.rfl ?_ | refine HWle.cons Ale.fst ?_)) ?_
      refine HeldK.first 8 (fuel := 4) (listed' := #[true, true, true, true, true, true, true, true, true, false, false, false, false]) _ rfl (by kernel_rfl) rfl rfl (Yl.eqlB bo4 rfl rfl) trivial rfl ?_
      refine HeldK.first 9 (fuel := 3) (listed' := #[true, true, true, true, true, true, true, true, true, true, false, false, false]) _ rfl (by kernel_rfl) rfl rfl (Yl.move rfl) trivial rfl ?_
      refine HeldK.one 10 (fuel := 2) (listed' := #[true, true, true, true, true, true, true, true, true, true, true, false, false]) (by kernel_rfl) rfl rfl ?_
      refine AK.knownT (g := 27) rfl (by rw [show b1 = b2 from Bool.eq_iff_iff.2 (hb1.trans hb2.symm)]; exact beq_self_eq_true _) (fun hg_3_9 => ?_)
      refine AK.call co16 rfl (fun w hw => s_awake w) ⟨_, rfl, congrArg (fun b => some (Value.bool b)) hg_3_9⟩ rfl ?_
      rintro r o ⟨rfl, rfl⟩
      refine AK.nil ?_
      try (conv => enter [2, 2]; dsimp only [List.set_cons_zero, List.set_cons_succ, List.cons_append, List.nil_append])
      refine HeldK.back (by repeat (first | exact HWle.nil | refine HWle.cons Ale.rfl ?_ | refine HWle.cons Ale.fst ?_)) ?_
      refine HeldK.first 11 (fuel := 1) (listed' := #[true, true, true, true, true, true, true, true, true, true, true, true, false]) _ rfl (by kernel_rfl) rfl rfl (Yl.pickT rfl (hg_3_9) rfl) trivial rfl ?_
      refine HeldK.first 12 (fuel := 0) (listed' := #[true, true, true, true, true, true, true, true, true, true, true, true, true]) _ rfl (by kernel_rfl) rfl rfl (Yl.assign rfl) trivial rfl ?_
      refine HeldK.done (by kernel_rfl) ?_
      refine AK.then_ (hK6 _ ?_)
      refine AK.ret ?_
      refine AK.ret1 rfl rfl (fun w hw => ⟨_, _, ?_, rfl, Ret.of (hw.pick [] (by decide) rfl rfl)⟩)
      exact ⟨rfl, rfl⟩

end Go.Proofs.Ytoikhoniogicdaa

