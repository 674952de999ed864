import Derived.Test.YtoikhoniogicdaaD2
import Derived.Test.YtoikhoniogicdaaMh
import Derived.Test.YtoikhoniogicdaaSm
set_option linter.unusedVariables false
set_option linter.unusedSimpArgs false
namespace Go.Proofs.Ytoikhoniogicdaa
open Go.Sx Go.RowKit
theorem kl59 : KeyL Try.prog 59 (tv : Tup 7 → Value) := keyTup ar59.1 un3 sz3
set_option maxRecDepth 100000 in
theorem s_small (w : World) (v : Value) (d : Dfa) (h : RdD (fun _ => False) w v d) (m : Int) : CallS Try.prog 22 [v, .int .i64 m] w (fun r o => r = .bool (decide ((d.fin.length : Int) ≤ m ∧ VD d)) ∧ o = []) := by
  have h0 := h
  obtain ⟨vF, vN, rfl, hF, hN⟩ := h
  have hF0 := hF
  have hN0 := hN
  obtain ⟨rs, hrl, hNr, hNi⟩ := hN
  have sF := hF.sl
  have sN := hNr.sl
  have hmf := hF.le
  have hmn := hNr.le
  unfold RdL at hF
  refine spec_of Try.func22 rfl (Nat.le_of_ble_eq_true rfl) ?_
  refine AK.seq (fun _ hK1 => ?_)
  refine AK.region ?_
  refine AK.box_ (E := 25) (cs := [.int .i64 d.L, .int .i64 d.s, vF, vN]) rfl rfl rfl trivial rfl (fun bx2 => ?_)
  refine AK.val _ (Yl.assign rfl) trivial rfl ?_
  refine AK.nil ?_
  refine AK.then_ (hK1 _ ?_)
  refine AK.seq (fun _ hK2 => ?_)
  refine AK.region ?_
  refine AK.val _ (Yl.fieldAddr fd25_2 rfl) trivial rfl ?_
  refine AK.val _ (Yl.loadBox on22 rfl (by first | ((repeat (first | exact .hd | apply BoxS.tl | apply MapS.tl)); done) | assumption | exact BoxS.arg (by assumption)) rfl) trivial rfl ?_
  refine AK.val _ (Yl.lenR sl22 rfl (by first | exact .arg ‹_› | ((repeat (first | exact .hd | apply RdS.tl)); done) | assumption)) trivial rfl ?_
  refine AK.val _ (Yl.move rfl) trivial rfl ?_
  refine AK.val _ (Yl.leq rfl rfl) trivial rfl ?_
  refine AK.val _ (Yl.move rfl) trivial rfl ?_
  refine AK.splitB (g := 10) rfl (fun hg_1_5 => ?_) (fun hg_1_5 => ?_)
  · have hg_1_5' := hg_1_5
    try simp only [decide_eq_true_eq, decide_eq_false_iff_not, Bool.not_eq_true', Bool.not_eq_false', Bool.not_not, ne_eq, Decidable.not_not, Int.not_lt, Int.not_le, beq_iff_eq, bne_iff_ne, Bool.and_eq_true, Bool.or_eq_true, Bool.or_eq_false_iff, Bool.not_false, Bool.not_true, reduceCtorEq, not_true_eq_false, not_false_eq_true] at hg_1_5'
    refine AK.val _ (Yl.loadBoxG ag25 rfl (by first | ((repeat (first | exact .hd | apply BoxS.tl | apply MapS.tl)); done) | assumption | exact BoxS.arg (by assumption)) rfl rfl) ⟨_, rfl, congrArg (fun b => some (Value.bool b)) hg_1_5⟩ rfl ?_
    refine AK.call co15 rfl (fun w hw => s_refvalidate w _ d (h0.at hw)) ⟨_, rfl, congrArg (fun b => some (Value.bool b)) hg_1_5⟩ rfl ?_
    rintro r o ⟨rfl, rfl⟩
    refine AK.val _ (Yl.eql rfl rfl) ⟨_, rfl, congrArg (fun b => some (Value.bool b)) hg_1_5⟩ rfl ?_
    refine AK.val _ (Yl.pickT rfl (hg_1_5) rfl) trivial rfl ?_
    refine AK.val _ (Yl.assign rfl) trivial rfl ?_
    refine AK.nil ?_
    refine AK.then_ (hK2 _ ?_)
    refine AK.ret ?_
    refine AK.ret1 rfl rfl (fun w hw => ⟨_, _, ?_, rfl, Ret.of (hw.pick [] (by decide) rfl rfl)⟩)
    refine ⟨congrArg Value.bool ?_, rfl⟩
    first | exact decide_eq_decide.2 ⟨fun h => ⟨by omega, (errV_iff d).1 h⟩, fun h => (errV_iff d).2 h.2⟩ | (symm; rw [decide_eq_false_iff_not]; omega)
  · have hg_1_5' := hg_1_5
    try simp only [decide_eq_true_eq, decide_eq_false_iff_not, Bool.not_eq_true', Bool.not_eq_false', Bool.not_not, ne_eq, Decidable.not_not, Int.not_lt, Int.not_le, beq_iff_eq, bne_iff_ne, Bool.and_eq_true, Bool.or_eq_true, Bool.or_eq_false_iff, Bool.not_false, Bool.not_true, reduceCtorEq, not_true_eq_false, not_false_eq_true] at hg_1_5'
    refine AK.pass rfl rfl (hg_1_5) rfl ?_
    refine AK.pass rfl rfl (hg_1_5) rfl ?_
    refine AK.pass rfl rfl (hg_1_5) rfl ?_
    refine AK.val _ (Yl.pickF rfl (hg_1_5) rfl) trivial rfl ?_
    refine AK.val _ (Yl.assign rfl) trivial rfl ?_
    refine AK.nil ?_
    refine AK.then_ (hK2 _ ?_)
    refine AK.ret ?_
    refine AK.ret1 rfl rfl (fun w hw => ⟨_, _, ?_, rfl, Ret.of (hw.pick [] (by decide) rfl rfl)⟩)
    refine ⟨congrArg Value.bool ?_, rfl⟩
    first | exact decide_eq_decide.2 ⟨fun h => ⟨by omega, (errV_iff d).1 h⟩, fun h => (errV_iff d).2 h.2⟩ | (symm; rw [decide_eq_false_iff_not]; omega)

set_option maxHeartbeats 400000 in
set_option maxRecDepth 100000 in
theorem s_number (w : World) (v : Value) (xs : List Int) (h : RdL (fun _ => False) (Value.int .i64) w v xs) (hb0 : xs.length ≤ 100000) : CallS Try.prog 37 [v] w (fun r o => IsSl r ∧ o = [row r 3 1 xs.length ((canN xs).map (Value.int .i64))]) := by
  have hb := h.le
  unfold RdL at h
  refine spec_of Try.func37 rfl (Nat.le_of_ble_eq_true rfl) ?_
  refine AK.seq (fun _ hK1 => ?_)
  refine AK.region ?_
  refine AK.val _ (Yl.assign rfl) trivial rfl ?_
  refine AK.nil ?_
  refine AK.then_ (hK1 _ ?_)
  refine AK.seq (fun _ hK2 => ?_)
  refine AK.region ?_
  refine AK.makeMap trivial rfl (fun mb => ?_)
  refine AK.val _ (Yl.assign rfl) trivial rfl ?_
  refine AK.nil ?_
  refine AK.then_ (hK2 _ ?_)
  refine AK.seq (fun _ hK3 => ?_)
  refine AK.region ?_
  refine AK.val _ (Yl.move rfl) trivial rfl ?_
  refine AK.val _ (Yl.lenR sl26 rfl (by first | exact .arg ‹_› | ((repeat (first | exact .hd | apply RdS.tl)); done) | assumption)) trivial rfl ?_
  refine AK.make1 (n := xs.length) sl26 el3 rfl rfl rfl (by omega) (by omega) trivial rfl (fun mv => ?_)
  refine AK.shape 1 rfl (fun smv => ?_)
  refine AK.val _ (Yl.assign rfl) trivial rfl ?_
  refine AK.nil ?_
  refine AK.then_ (hK3 _ ?_)
  refine AK.seq (fun _ hK4 => ?_)
  refine AK.seq (fun _ hK5 => ?_)
  refine AK.region ?_
  refine AK.val _ (Yl.move rfl) trivial rfl ?_
  refine AK.val _ (Yl.lenR sl26 rfl (by first | exact .arg ‹_› | ((repeat (first | exact .hd | apply RdS.tl)); done) | assumption)) trivial rfl ?_
  refine AK.val _ (Yl.move rfl) trivial rfl ?_
  refine AK.nil ?_
  refine AK.then_ (hK5 _ ?_)
  refine AK.block ?_
  refine AK.loopK (X := Nat) [(3, _), (4, _), (13, _), (14, _)] (fun k => [(15, .int .i64 (k : Int))]) (fun k => [mapA mb (mkv (Value.int .i64) (Value.int .i64) (numM (ded (xs.take k)))), row mv 3 1 xs.length ((canN (xs.take k) ++ List.replicate (xs.length - k) 0).map (Value.int .i64))]) (fun k => k ≤ xs.length) (fun k => xs.length - k) (0) (.cons rfl (.cons rfl (.cons rfl (.cons rfl (.nil))))) ?_ ?_ ?_ ?_
  · exact Nat.zero_le _
  · exact .cons (rfl) (.nil)
  · exact fun w hw => by have e : ((canN (xs.take 0) ++ List.replicate (xs.length - 0) 0).map (Value.int .i64)) = List.replicate xs.length (Value.int .i64 0) := (by simp [canN]); rw [e]; exact hw
  · intro k hg0 _ hK6
    refine AK.seq (fun _ hK7 => ?_)
    refine AK.region ?_
    refine AK.val _ (Yl.lss rfl rfl) trivial rfl ?_
    refine AK.nil ?_
    refine AK.then_ (hK7 _ ?_)
    refine AK.seq (fun _ hK8 => ?_)
    refine AK.condD rfl (fun hc0 => ?_) (fun hc0 => ?_)
    · have hdl := ded_le (xs.take k)
      rw [List.length_take] at hdl
      have hnl := numM_len (ded (xs.take k))
      refine AK.skip ?_
      refine AK.then_ (hK8 _ ?_)
      refine AK.seq (fun _ hK9 => ?_)
      refine AK.block ?_
      refine AK.seq (fun _ hK10 => ?_)
      refine AK.region ?_
      refine AK.val _ (Yl.move rfl) trivial rfl ?_
      first | refine AK.val _ (Yl.idxN sl26 rfl rfl (by first | exact .arg ‹_› | ((repeat (first | exact .hd | apply RdS.tl)); done) | assumption) (by decide) (by omega)) trivial rfl ?_ | refine AK.val _ (Yl.idx sl26 rfl rfl (by first | exact .arg ‹_› | ((repeat (first | exact .hd | apply RdS.tl)); done) | assumption) (by decide) (by omega)) trivial rfl ?_ | refine AK.val _ (Yl.idxK sl26 rfl rfl (by first | exact .arg ‹_› | ((repeat (first | exact .hd | apply RdS.tl)); done) | assumption) (by decide) (by omega)) trivial rfl ?_
      refine AK.val _ (Yl.loadI on3 rfl (by first | exact .arg ‹_› | ((repeat (first | exact .hd | apply RdS.tl)); done) | assumption) (by omega)) trivial rfl ?_
      refine AK.val _ (Yl.assign rfl) trivial rfl ?_
      refine AK.val _ (Yl.assign rfl) trivial rfl ?_
      refine AK.nil ?_
      refine AK.then_ (hK10 _ ?_)
      refine AK.seq (fun _ hK11 => ?_)
      refine AK.region ?_
      refine AK.val _ (Yl.move rfl) trivial rfl ?_
      refine AK.val _ (Yl.move rfl) trivial rfl ?_
      refine AK.val _ (Yl.lookup2I mp79 (keyInt un3) el3 rfl rfl (by first | ((repeat (first | exact .hd | apply BoxS.tl | apply MapS.tl)); done) | assumption | exact BoxS.arg (by assumption))) trivial rfl ?_
      refine AK.val _ (Yl.move rfl) trivial rfl ?_
      refine AK.val _ (Yl.extract rfl rfl) trivial rfl ?_
      refine AK.val _ (Yl.extract rfl rfl) trivial rfl ?_
      refine AK.val _ (Yl.assign rfl) trivial rfl ?_
      refine AK.val _ (Yl.assign rfl) trivial rfl ?_
      refine AK.nil ?_
      refine AK.then_ (hK11 _ ?_)
      refine AK.seq (fun _ hK12 => ?_)
      refine AK.seq (fun _ hK13 => ?_)
      refine AK.region ?_
      refine AK.val _ (Yl.move rfl) trivial rfl ?_
      refine AK.val _ (Yl.not rfl) trivial rfl ?_
      refine AK.nil ?_
      refine AK.then_ (hK13 _ ?_)
      refine AK.condB rfl (fun hc1 => ?_) (fun hc1 => ?_)
      · obtain ⟨hx, hcv⟩ := num_new hc1
        refine AK.seq (fun _ hK14 => ?_)
        refine AK.region ?_
        refine AK.val _ (Yl.move rfl) trivial rfl ?_
        refine AK.val _ (Yl.lenM mp79 rfl (by first | ((repeat (first | exact .hd | apply BoxS.tl | apply MapS.tl)); done) | assumption | exact BoxS.arg (by assumption))) trivial rfl ?_
        refine AK.val _ (Yl.assign rfl) trivial rfl ?_
        refine AK.nil ?_
        refine AK.then_ (hK14 _ ?_)
        refine AK.region ?_
        refine AK.val _ (Yl.move rfl) trivial rfl ?_
        refine AK.val _ (Yl.move rfl) trivial rfl ?_
        refine AK.val _ (Yl.move rfl) trivial rfl ?_
        refine AK.mapSet 0 rfl mp79 (keyInt un3) rfl rfl rfl trivial ?_
        refine AK.nil ?_
        refine AK.then_ (hK12 _ ?_)
        refine AK.region ?_
        refine AK.val _ (Yl.move rfl) trivial rfl ?_
        refine AK.val _ (Yl.move rfl) trivial rfl ?_
        refine AK.val _ (Yl.move rfl) trivial rfl ?_
        first | refine AK.val _ (Yl.idxN sl26 rfl rfl (by first | exact .arg ‹_› | ((repeat (first | exact .hd | apply RdS.tl)); done) | assumption) (by decide) (by omega)) trivial rfl ?_ | refine AK.val _ (Yl.idx sl26 rfl rfl (by first | exact .arg ‹_› | ((repeat (first | exact .hd | apply RdS.tl)); done) | assumption) (by decide) (by omega)) trivial rfl ?_ | refine AK.val _ (Yl.idxK sl26 rfl rfl (by first | exact .arg ‹_› | ((repeat (first | exact .hd | apply RdS.tl)); done) | assumption) (by decide) (by omega)) trivial rfl ?_
        refine AK.store1e 1 rfl sz3 rfl rfl rfl rfl (by omega) (cs' := ((canN (xs.take (k + 1)) ++ List.replicate (xs.length - (k + 1)) 0).map (Value.int .i64))) (by exact can_fill 0 rfl (by omega) hcv) trivial ?_
        refine AK.nil ?_
        refine AK.block_normal ?_
        refine AK.then_ (hK9 _ ?_)
        refine AK.region ?_
        refine AK.val _ (Yl.add rfl rfl (by omega)) trivial rfl ?_
        refine AK.val _ (Yl.move rfl) trivial rfl ?_
        refine AK.nil ?_
        first | refine AK.then_ (hK6 _ _ (k + 1) (by omega) (by omega) (.cons (rfl) (.cons rfl (.cons rfl (.cons rfl (.cons rfl (.nil)))))) (fun w hw => by rw [← ded_new 0 (by omega) hx]; exact hw)) | refine AK.then_ (hK6 _ _ (k + 1) (by omega) (by omega) (.cons (rfl) (.cons rfl (.cons rfl (.cons rfl (.cons rfl (.nil)))))) (fun w hw => by rw [ded_old 0 (by omega) (by assumption)]; exact hw))
      · obtain ⟨hx, hcv⟩ := num_old hc1
        refine AK.skip ?_
        refine AK.then_ (hK12 _ ?_)
        refine AK.region ?_
        refine AK.val _ (Yl.move rfl) trivial rfl ?_
        refine AK.val _ (Yl.move rfl) trivial rfl ?_
        refine AK.val _ (Yl.move rfl) trivial rfl ?_
        first | refine AK.val _ (Yl.idxN sl26 rfl rfl (by first | exact .arg ‹_› | ((repeat (first | exact .hd | apply RdS.tl)); done) | assumption) (by decide) (by omega)) trivial rfl ?_ | refine AK.val _ (Yl.idx sl26 rfl rfl (by first | exact .arg ‹_› | ((repeat (first | exact .hd | apply RdS.tl)); done) | assumption) (by decide) (by omega)) trivial rfl ?_ | refine AK.val _ (Yl.idxK sl26 rfl rfl (by first | exact .arg ‹_› | ((repeat (first | exact .hd | apply RdS.tl)); done) | assumption) (by decide) (by omega)) trivial rfl ?_
        refine AK.store1e 1 rfl sz3 rfl rfl rfl rfl (by omega) (cs' := ((canN (xs.take (k + 1)) ++ List.replicate (xs.length - (k + 1)) 0).map (Value.int .i64))) (by exact can_fill 0 rfl (by omega) hcv) trivial ?_
        refine AK.nil ?_
        refine AK.block_normal ?_
        refine AK.then_ (hK9 _ ?_)
        refine AK.region ?_
        refine AK.val _ (Yl.add rfl rfl (by omega)) trivial rfl ?_
        refine AK.val _ (Yl.move rfl) trivial rfl ?_
        refine AK.nil ?_
        first | refine AK.then_ (hK6 _ _ (k + 1) (by omega) (by omega) (.cons (rfl) (.cons rfl (.cons rfl (.cons rfl (.cons rfl (.nil)))))) (fun w hw => by rw [← ded_new 0 (by omega) hx]; exact hw)) | refine AK.then_ (hK6 _ _ (k + 1) (by omega) (by omega) (.cons (rfl) (.cons rfl (.cons rfl (.cons rfl (.cons rfl (.nil)))))) (fun w hw => by rw [ded_old 0 (by omega) (by assumption)]; exact hw))
    · refine AK.exit ?_
      refine AK.then_exit ?_
      refine AK.then_exit ?_
      refine AK.block_exit ?_
      refine AK.then_ (hK4 _ ?_)
      refine AK.seq (fun _ hK15 => ?_)
      refine AK.region ?_
      refine AK.val _ (Yl.move rfl) trivial rfl ?_
      refine AK.val _ (Yl.assign rfl) trivial rfl ?_
      refine AK.nil ?_
      refine AK.then_ (hK15 _ ?_)
      refine AK.ret ?_
      refine AK.ret1 rfl rfl (fun w hw => ⟨_, _, ?_, rfl, Ret.of (hw.pick [1] (by decide) rfl rfl)⟩)
      have e : k = xs.length := (by omega)
      refine ⟨smv, ?_⟩
      rw [e, List.take_length, Nat.sub_self, List.replicate_zero, List.append_nil]
      rfl

set_option maxHeartbeats 400000 in
set_option maxRecDepth 100000 in
theorem s_both (w : World) (u v : Value) (p q : List Int) (hu : RdL (fun _ => False) (Value.int .i64) w u p) (hv : RdL (fun _ => False) (Value.int .i64) w v q) (hp : Bdn p.length p) (hq : Bdn p.length q) (hn : p.length ≤ 512) : CallS Try.prog 38 [u, v] w (fun r o => IsSl r ∧ o = [row r 3 1 p.length ((canN (bothL p q)).map (Value.int .i64))]) := by
  have hql := hq.1
  unfold RdL at hu hv
  refine spec_of Try.func38 rfl (Nat.le_of_ble_eq_true rfl) ?_
  refine AK.seq (fun _ hK1 => ?_)
  refine AK.region ?_
  refine AK.val _ (Yl.assign rfl) trivial rfl ?_
  refine AK.nil ?_
  refine AK.then_ (hK1 _ ?_)
  refine AK.seq (fun _ hK2 => ?_)
  refine AK.region ?_
  refine AK.val _ (Yl.move rfl) trivial rfl ?_
  refine AK.val _ (Yl.lenR sl26 rfl (by first | exact .arg ‹_› | ((repeat (first | exact .hd | apply RdS.tl)); done) | assumption)) trivial rfl ?_
  refine AK.make1 (n := p.length) sl26 el3 rfl rfl rfl (by omega) (by omega) trivial rfl (fun mv => ?_)
  refine AK.shape 0 rfl (fun smv => ?_)
  refine AK.val _ (Yl.assign rfl) trivial rfl ?_
  refine AK.nil ?_
  refine AK.then_ (hK2 _ ?_)
  refine AK.seq (fun _ hK3 => ?_)
  refine AK.seq (fun _ hK4 => ?_)
  refine AK.region ?_
  refine AK.val _ (Yl.move rfl) trivial rfl ?_
  refine AK.val _ (Yl.lenR sl26 rfl (by first | exact .arg ‹_› | ((repeat (first | exact .hd | apply RdS.tl)); done) | assumption)) trivial rfl ?_
  refine AK.val _ (Yl.move rfl) trivial rfl ?_
  refine AK.nil ?_
  refine AK.then_ (hK4 _ ?_)
  refine AK.block ?_
  refine AK.loopK (X := Nat) [(0, _), (1, _), (5, _), (11, _)] (fun k => [(12, .int .i64 (k : Int))]) (fun k => [row mv 3 1 p.length (((bothL p q).take k ++ List.replicate (p.length - k) 0).map (Value.int .i64))]) (fun k => k ≤ p.length) (fun k => p.length - k) (0) (.cons rfl (.cons rfl (.cons rfl (.cons rfl (.nil))))) ?_ ?_ ?_ ?_
  · exact Nat.zero_le _
  · exact .cons (rfl) (.nil)
  · exact fun w hw => by have e : (((bothL p q).take 0 ++ List.replicate (p.length - 0) 0).map (Value.int .i64)) = List.replicate p.length (Value.int .i64 0) := (by simp); rw [e]; exact hw
  · intro k hg0 _ hK5
    refine AK.seq (fun _ hK6 => ?_)
    refine AK.region ?_
    refine AK.val _ (Yl.lss rfl rfl) trivial rfl ?_
    refine AK.nil ?_
    refine AK.then_ (hK6 _ ?_)
    refine AK.seq (fun _ hK7 => ?_)
    refine AK.condD rfl (fun hc0 => ?_) (fun hc0 => ?_)
    · have hp1 := hp.2 k (by omega)
      have hq1 := hq.2 k (by omega)
      have hbl := bothL_len p q
      have hmul : 0 ≤ p.getD k 0 * ((p.length : Int) + 1) ∧ p.getD k 0 * ((p.length : Int) + 1) ≤ 512 * 513 := ⟨Int.mul_nonneg hp1.1 (by omega), Int.le_trans (Int.mul_le_mul_of_nonneg_right (c := (p.length : Int) + 1) (show p.getD k 0 ≤ 512 by omega) (by omega)) (by omega)⟩
      refine AK.skip ?_
      refine AK.then_ (hK7 _ ?_)
      refine AK.seq (fun _ hK8 => ?_)
      refine AK.block ?_
      refine AK.seq (fun _ hK9 => ?_)
      refine AK.region ?_
      refine AK.val _ (Yl.move rfl) trivial rfl ?_
      refine AK.val _ (Yl.assign rfl) trivial rfl ?_
      refine AK.nil ?_
      refine AK.then_ (hK9 _ ?_)
      refine AK.stillTail 16 mixed (by kernel_rfl) (fun _ hws => ?_)
      refine SK.val hws _ (Yl.move rfl) trivial rfl ?_
      refine SK.val hws _ (Yl.move rfl) trivial rfl ?_
      refine SK.val hws _ (Yl.move rfl) trivial rfl ?_
      refine SK.val hws _ (Yl.move rfl) trivial rfl ?_
      first | refine SK.val hws _ (Yl.idxN sl26 rfl rfl (by first | exact .arg ‹_› | ((repeat (first | exact .hd | apply RdS.tl)); done) | assumption) (by decide) (by omega)) trivial rfl ?_ | refine SK.val hws _ (Yl.idx sl26 rfl rfl (by first | exact .arg ‹_› | ((repeat (first | exact .hd | apply RdS.tl)); done) | assumption) (by decide) (by omega)) trivial rfl ?_ | refine SK.val hws _ (Yl.idxK sl26 rfl rfl (by first | exact .arg ‹_› | ((repeat (first | exact .hd | apply RdS.tl)); done) | assumption) (by decide) (by omega)) trivial rfl ?_
      refine SK.val hws _ (Yl.loadI on3 rfl (by first | exact .arg ‹_› | ((repeat (first | exact .hd | apply RdS.tl)); done) | assumption) (by omega)) trivial rfl ?_
      refine SK.val hws _ (Yl.move rfl) trivial rfl ?_
      refine SK.val hws _ (Yl.lenR sl26 rfl (by first | exact .arg ‹_› | ((repeat (first | exact .hd | apply RdS.tl)); done) | assumption)) trivial rfl ?_
      refine SK.val hws _ (Yl.add rfl rfl (by omega)) trivial rfl ?_
      refine SK.val hws _ (Yl.mul rfl rfl (by omega)) trivial rfl ?_
      refine SK.val hws _ (Yl.move rfl) trivial rfl ?_
      refine SK.val hws _ (Yl.move rfl) trivial rfl ?_
      first | refine SK.val hws _ (Yl.idxN sl26 rfl rfl (by first | exact .arg ‹_› | ((repeat (first | exact .hd | apply RdS.tl)); done) | assumption) (by decide) (by omega)) trivial rfl ?_ | refine SK.val hws _ (Yl.idx sl26 rfl rfl (by first | exact .arg ‹_› | ((repeat (first | exact .hd | apply RdS.tl)); done) | assumption) (by decide) (by omega)) trivial rfl ?_ | refine SK.val hws _ (Yl.idxK sl26 rfl rfl (by first | exact .arg ‹_› | ((repeat (first | exact .hd | apply RdS.tl)); done) | assumption) (by decide) (by omega)) trivial rfl ?_
      refine SK.val hws _ (Yl.loadI on3 rfl (by first | exact .arg ‹_› | ((repeat (first | exact .hd | apply RdS.tl)); done) | assumption) (by omega)) trivial rfl ?_
      refine SK.val hws _ (Yl.add rfl rfl (by omega)) trivial rfl ?_
      first | refine SK.val hws _ (Yl.idxN sl26 rfl rfl (by first | exact .arg ‹_› | ((repeat (first | exact .hd | apply RdS.tl)); done) | assumption) (by decide) (by omega)) trivial rfl ?_ | refine SK.val hws _ (Yl.idx sl26 rfl rfl (by first | exact .arg ‹_› | ((repeat (first | exact .hd | apply RdS.tl)); done) | assumption) (by decide) (by omega)) trivial rfl ?_ | refine SK.val hws _ (Yl.idxK sl26 rfl rfl (by first | exact .arg ‹_› | ((repeat (first | exact .hd | apply RdS.tl)); done) | assumption) (by decide) (by omega)) trivial rfl ?_
      refine SK.nil (SK.fin hws ?_)
      refine AK.store1e 0 rfl sz3 rfl rfl rfl rfl (by omega) (cs' := (((bothL p q).take (k + 1) ++ List.replicate (p.length - (k + 1)) 0).map (Value.int .i64))) (by rw [take_snocD 0 (bothL p q) k (by omega), bothL_get (by omega)]; exact fill_set (Value.int .i64) _ 0 _ p.length k (by rw [List.length_take]; omega) (by omega)) trivial ?_
      refine AK.nil ?_
      refine AK.block_normal ?_
      refine AK.then_ (hK8 _ ?_)
      refine AK.region ?_
      refine AK.val _ (Yl.add rfl rfl (by omega)) trivial rfl ?_
      refine AK.val _ (Yl.move rfl) trivial rfl ?_
      refine AK.nil ?_
      refine AK.then_ (hK5 _ _ (k + 1) (by omega) (by omega) (.cons (rfl) (.cons rfl (.cons rfl (.cons rfl (.cons rfl (.nil)))))) (fun w hw => hw))
    · refine AK.exit ?_
      refine AK.then_exit ?_
      refine AK.then_exit ?_
      refine AK.block_exit ?_
      refine AK.then_ (hK3 _ ?_)
      refine AK.seq (fun _ hK10 => ?_)
      refine AK.region ?_
      refine AK.val _ (Yl.move rfl) trivial rfl ?_
      refine AK.call co37 rfl (fun w hw => s_number w mv (bothL p q) (RdL.ownE 0 hw rfl (by rw [bothL_len]) (by rw [show k = p.length by omega, Nat.sub_self, List.replicate_zero, List.append_nil, ← bothL_len p q, List.take_length])) (by rw [bothL_len]; omega)) trivial rfl ?_
      rintro r o ⟨sr, rfl⟩
      refine AK.val _ (Yl.assign rfl) trivial rfl ?_
      refine AK.nil ?_
      refine AK.then_ (hK10 _ ?_)
      refine AK.ret ?_
      refine AK.ret1 rfl rfl (fun w hw => ⟨_, _, ?_, rfl, Ret.of (hw.pick [1] (by decide) rfl rfl)⟩)
      exact ⟨sr, by rw [bothL_len]; rfl⟩

end Go.Proofs.Ytoikhoniogicdaa
