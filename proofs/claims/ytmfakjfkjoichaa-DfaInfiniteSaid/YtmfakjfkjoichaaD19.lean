import Derived.Test.YtmfakjfkjoichaaD9
import Derived.Test.YtmfakjfkjoichaaSm
import Derived.Test.YtmfakjfkjoichaaDn
set_option linter.unusedVariables false
set_option linter.unusedSimpArgs false
namespace Go.Proofs.Ytmfakjfkjoichaa
open Go.Sx Go.RowKit
noncomputable def InfV (d : Dfa) : Bool := @decide (VD d ∧ Cyc d) (Classical.propDecidable _)
theorem infV_iff {d : Dfa} : InfV d = true ↔ VD d ∧ Cyc d := by unfold InfV; exact @decide_eq_true_iff _ (Classical.propDecidable _)
theorem infV_no {d : Dfa} (h : ¬ VD d) : InfV d = false := by
  rw [Bool.eq_false_iff]; exact fun k => h (infV_iff.1 k).1
theorem infV_yes {d : Dfa} (hv : VD d) {k : Nat} (hk : d.fin.length ≤ k) (h : (aliveR d k).getD d.s.toNat false = true) : InfV d = true :=
  infV_iff.2 ⟨hv, cyc_of hv hk ((alive_iff hv k d.s hv.s).1 h)⟩
theorem infV_none {d : Dfa} (hv : VD d) (h : ∀ j, d.fin.length ≤ j → j < 2 * d.fin.length → (aliveR d j).getD d.s.toNat false = false) : InfV d = false := by
  rw [Bool.eq_false_iff]
  intro hc
  obtain ⟨k, h1, h2, h3⟩ := mid_of hv (infV_iff.1 hc).2
  rw [← alive_iff hv k d.s hv.s, h k h1 h2] at h3; cases h3
set_option maxHeartbeats 1000000 in
set_option maxRecDepth 100000 in
theorem s_infinite (w : World) (v : Value) (d : Dfa) (h : RdD (fun _ => False) w v d) : CallS Try.prog 28 [v] w (fun r o => r = .bool (InfV d) ∧ o = []) := by
  have h0 := h
  obtain ⟨vF, vN, rfl, hF, hN⟩ := h
  have hF0 := hF
  have hN0 := hN
  obtain ⟨rs, hrl, hNr, hNi⟩ := hN
  have sF := hF.sl
  have sN := hNr.sl
  have hmf := hF.le
  have hmn := hNr.le
  unfold RdL at hF
  refine spec_of Try.func28 rfl (Nat.le_of_ble_eq_true rfl) ?_
  refine AK.seq (fun _ hK1 => ?_)
  refine AK.region ?_
  refine AK.box_ (E := 25) (cs := [.int .i64 d.L, .int .i64 d.s, vF, vN]) rfl rfl rfl trivial rfl (fun bx1 => ?_)
  refine AK.val _ (Yl.assign rfl) trivial rfl ?_
  refine AK.nil ?_
  refine AK.then_ (hK1 _ ?_)
  refine AK.seq (fun _ hK2 => ?_)
  refine AK.seq (fun _ hK3 => ?_)
  refine AK.region ?_
  refine AK.val _ (Yl.loadBoxG ag25 rfl (by first | exact .own 0 rfl | exact .own 1 rfl | exact .own 2 rfl | exact .own 3 rfl | exact .own 4 rfl | exact .own 5 rfl | exact .own 6 rfl | exact .own 7 rfl | exact .own 8 rfl | exact .own 9 rfl | exact .own 10 rfl | exact .own 11 rfl | exact .own 12 rfl | assumption | exact BoxS.arg (by assumption)) rfl rfl) trivial rfl ?_
  refine AK.call co15 rfl (fun w hw => s_validate w _ d (h0.at hw)) trivial rfl ?_
  rintro r o ⟨rfl, rfl⟩
  refine AK.val _ (Yl.neq rfl rfl) trivial rfl ?_
  refine AK.nil ?_
  refine AK.then_ (hK3 _ ?_)
  refine AK.condNe rfl (fun hc0 => ?_) (fun hc0 => ?_)
  · have hnv : ¬ VD d := fun h => hc0 ((errV_iff d).2 h)
    refine AK.seq (fun _ hK4 => ?_)
    refine AK.region ?_
    refine AK.val _ (Yl.assign rfl) trivial rfl ?_
    refine AK.nil ?_
    refine AK.then_ (hK4 _ ?_)
    refine AK.ret ?_
    refine AK.then_ret ?_
    refine AK.ret1 rfl rfl (fun w hw => ⟨_, _, ?_, rfl, Ret.of (hw.pick [] (by decide) rfl rfl)⟩)
    rw [infV_no hnv]; exact ⟨rfl, rfl⟩
  · have hv : VD d := (errV_iff d).1 hc0
    have hnx := hv.nx
    have hn5 := hv.n
    have hvs := hv.s
    refine AK.skip ?_
    refine AK.then_ (hK2 _ ?_)
    refine AK.seq (fun _ hK5 => ?_)
    refine AK.region ?_
    refine AK.val _ (Yl.fieldAddr fd25_2 rfl) trivial rfl ?_
    refine AK.val _ (Yl.loadBox on22 rfl (by first | exact .own 0 rfl | exact .own 1 rfl | exact .own 2 rfl | exact .own 3 rfl | exact .own 4 rfl | exact .own 5 rfl | exact .own 6 rfl | exact .own 7 rfl | exact .own 8 rfl | exact .own 9 rfl | exact .own 10 rfl | exact .own 11 rfl | exact .own 12 rfl | assumption | exact BoxS.arg (by assumption)) rfl) trivial rfl ?_
    refine AK.val _ (Yl.lenR sl22 rfl (by first | exact .arg ‹_› | exact .own 0 rfl | exact .own 1 rfl | exact .own 2 rfl | exact .own 3 rfl | exact .own 4 rfl | exact .own 5 rfl | exact .own 6 rfl | exact .own 7 rfl | exact .own 8 rfl | assumption | exact .own 9 rfl | exact .own 10 rfl | exact .own 11 rfl | exact .own 12 rfl | exact rd_al2 3 hF rfl (by rw [alT_len]; exact hg0.2.1) (by rw [alT_len]; omega) hal hall)) trivial rfl ?_
    refine AK.val _ (Yl.assign rfl) trivial rfl ?_
    refine AK.nil ?_
    refine AK.then_ (hK5 _ ?_)
    refine AK.seq (fun _ hK6 => ?_)
    refine AK.region ?_
    refine AK.val _ (Yl.loadBoxG ag25 rfl (by first | exact .own 0 rfl | exact .own 1 rfl | exact .own 2 rfl | exact .own 3 rfl | exact .own 4 rfl | exact .own 5 rfl | exact .own 6 rfl | exact .own 7 rfl | exact .own 8 rfl | exact .own 9 rfl | exact .own 10 rfl | exact .own 11 rfl | exact .own 12 rfl | assumption | exact BoxS.arg (by assumption)) rfl rfl) trivial rfl ?_
    refine AK.val _ (Yl.fieldAddr fd25_2 rfl) trivial rfl ?_
    refine AK.val _ (Yl.loadBox on22 rfl (by first | exact .own 0 rfl | exact .own 1 rfl | exact .own 2 rfl | exact .own 3 rfl | exact .own 4 rfl | exact .own 5 rfl | exact .own 6 rfl | exact .own 7 rfl | exact .own 8 rfl | exact .own 9 rfl | exact .own 10 rfl | exact .own 11 rfl | exact .own 12 rfl | assumption | exact BoxS.arg (by assumption)) rfl) trivial rfl ?_
    refine AK.lit (xs := [.tmp 14]) sl57 el22 rfl rfl rfl (by intro a ha; simp at ha; subst ha; rw [sF.cells]; rfl) (by decide) (by decide) trivial rfl (fun lv => ?_)
    refine AK.shape 1 rfl (fun slv => ?_)
    refine AK.val _ (Yl.build (parts := [(0, .tmp 12), (2, .tmp 15)]) (cs := #[.int .i64 d.L, .int .i64 d.s, vF, vN, .int .i64 0, lv, .slice none 0 0, .slice none 0 0]) rfl (by obtain ⟨_, _, _, rfl⟩ := slv; obtain ⟨_, _, _, rfl⟩ := sF; obtain ⟨_, _, _, rfl⟩ := sN; kernel_rfl)) trivial rfl ?_
    refine AK.alloc el60 rfl rfl trivial rfl (fun bx4 => ?_)
    refine AK.storeBox 2 (us := [.int .i64 d.L, .int .i64 d.s, vF, vN, .int .i64 0, lv, .slice none 0 0, .slice none 0 0]) (cs' := [.int .i64 d.L, .int .i64 d.s, vF, vN, .int .i64 0, lv, .slice none 0 0, .slice none 0 0]) rfl sz60 rfl rfl rfl rfl (by repeat (first | exact one'_nil | refine one'_cons (by first | rfl | exact IsSl.one (by assumption) | exact IsSl.one nilSl) ?_)) (Nat.le_of_ble_eq_true rfl) rfl trivial ?_
    refine AK.nil ?_
    refine AK.then_ (hK6 _ ?_)
    refine AK.seq (fun _ hK7 => ?_)
    refine AK.seq (fun _ hK8 => ?_)
    refine AK.region ?_
    refine AK.val _ (Yl.move rfl) trivial rfl ?_
    refine AK.val _ (Yl.mul rfl rfl (by omega)) trivial rfl ?_
    refine AK.val _ (Yl.move rfl) trivial rfl ?_
    refine AK.nil ?_
    refine AK.then_ (hK8 _ ?_)
    refine AK.block ?_
    refine AK.loopK (X := Nat × Value × List Value) [(1, _), (3, _), (4, _), (18, _)] (fun x => [(19, .int .i64 (x.1 : Int))]) (fun x => [box bx1 25 4 [.int .i64 d.L, .int .i64 d.s, vF, vN], box bx4 60 8 [.int .i64 d.L, .int .i64 d.s, vF, vN, .int .i64 0, x.2.1, .slice none 0 0, .slice none 0 0], row x.2.1 22 1 (x.1 + 1) (vF :: x.2.2), bigA (matG Value.bool 4 x.2.2 (alT d x.1))]) (fun x => x.1 ≤ 2 * d.fin.length ∧ x.2.2.length = x.1 ∧ IsSl x.2.1 ∧ ∀ j, d.fin.length ≤ j → j < x.1 → (aliveR d j).getD d.s.toNat false = false) (fun x => 2 * d.fin.length - x.1) ((0, lv, [])) (.cons rfl (.cons rfl (.cons rfl (.cons rfl (.nil))))) ?_ ?_ ?_ ?_
    · exact ⟨Nat.zero_le _, rfl, slv, fun j h1 h2 => by simp at h2⟩
    · exact .cons (rfl) (.nil)
    · exact fun w hw => by have h1 := hw.ghostG (f := Value.bool) 4; rw [show [vF].flatMap (·.cells.toList) = [vF] by simp [sF.cells]] at h1; exact h1.pick [0, 2, 1, 3] (by decide) rfl rfl
    · intro x hg0 _ hK9
      refine AK.seq (fun _ hK10 => ?_)
      refine AK.region ?_
      refine AK.val _ (Yl.lss rfl rfl) trivial rfl ?_
      refine AK.nil ?_
      refine AK.then_ (hK10 _ ?_)
      refine AK.seq (fun _ hK11 => ?_)
      refine AK.condD rfl (fun hc1 => ?_) (fun hc1 => ?_)
      · have hal : ((d.fin :: alT d x.1).getD x.1 []) = aliveR d x.1 := alR_at d (Nat.le_refl x.1)
        have hall := aliveR_len hnx x.1
        have hvl : (vF :: x.2.2).length = x.1 + 1 := by rw [List.length_cons, hg0.2.1]
        refine AK.skip ?_
        refine AK.then_ (hK11 _ ?_)
        refine AK.seq (fun _ hK12 => ?_)
        refine AK.block ?_
        refine AK.seq (fun _ hK13 => ?_)
        refine AK.region ?_
        refine AK.val _ (Yl.move rfl) trivial rfl ?_
        refine AK.val _ (Yl.assign rfl) trivial rfl ?_
        refine AK.nil ?_
        refine AK.then_ (hK13 _ ?_)
        refine AK.seq (fun _ hK14 => ?_)
        refine AK.seq (fun _ hK15 => ?_)
        refine AK.quiet mixed (by kernel_rfl) ?_
        refine QK.val _ (Yl.move rfl) trivial rfl ?_
        refine QK.val _ (Yl.move rfl) trivial rfl ?_
        refine QK.val _ (Yl.geq rfl rfl) trivial rfl ?_
        refine QK.val _ (Yl.move rfl) trivial rfl ?_
        refine QK.splitB (g := 25) rfl (fun hg_8_3 => ?_) (fun hg_8_3 => ?_)
        · have hg_8_3' := hg_8_3
          try simp only [decide_eq_true_eq, decide_eq_false_iff_not, Bool.not_eq_true', Bool.not_eq_false', Bool.not_not, ne_eq, Decidable.not_not, Int.not_lt, Int.not_le, beq_iff_eq, bne_iff_ne, Bool.and_eq_true, Bool.or_eq_true, Bool.or_eq_false_iff, Bool.not_false, Bool.not_true, reduceCtorEq, not_true_eq_false, not_false_eq_true] at hg_8_3'
          refine QK.val _ (Yl.fieldAddr fd60_2 rfl) ⟨_, rfl, congrArg (fun b => some (Value.bool b)) hg_8_3⟩ rfl ?_
          refine QK.val _ (Yl.loadBox on57 rfl (by first | exact .own 0 rfl | exact .own 1 rfl | exact .own 2 rfl | exact .own 3 rfl | exact .own 4 rfl | exact .own 5 rfl | exact .own 6 rfl | exact .own 7 rfl | exact .own 8 rfl | exact .own 9 rfl | exact .own 10 rfl | exact .own 11 rfl | exact .own 12 rfl | assumption | exact BoxS.arg (by assumption)) rfl) ⟨_, rfl, congrArg (fun b => some (Value.bool b)) hg_8_3⟩ rfl ?_
          refine QK.val _ (Yl.move rfl) ⟨_, rfl, congrArg (fun b => some (Value.bool b)) hg_8_3⟩ rfl ?_
          first | refine QK.val _ (Yl.idxN sl57 rfl rfl (by first | exact .arg ‹_› | exact .own 0 rfl | exact .own 1 rfl | exact .own 2 rfl | exact .own 3 rfl | exact .own 4 rfl | exact .own 5 rfl | exact .own 6 rfl | exact .own 7 rfl | exact .own 8 rfl | assumption | exact .own 9 rfl | exact .own 10 rfl | exact .own 11 rfl | exact .own 12 rfl | exact rd_al2 3 hF rfl (by rw [alT_len]; exact hg0.2.1) (by rw [alT_len]; omega) hal hall) (by decide) (by omega)) ⟨_, rfl, congrArg (fun b => some (Value.bool b)) hg_8_3⟩ rfl ?_ | refine QK.val _ (Yl.idx sl57 rfl rfl (by first | exact .arg ‹_› | exact .own 0 rfl | exact .own 1 rfl | exact .own 2 rfl | exact .own 3 rfl | exact .own 4 rfl | exact .own 5 rfl | exact .own 6 rfl | exact .own 7 rfl | exact .own 8 rfl | assumption | exact .own 9 rfl | exact .own 10 rfl | exact .own 11 rfl | exact .own 12 rfl | exact rd_al2 3 hF rfl (by rw [alT_len]; exact hg0.2.1) (by rw [alT_len]; omega) hal hall) (by decide) (by omega)) ⟨_, rfl, congrArg (fun b => some (Value.bool b)) hg_8_3⟩ rfl ?_ | refine QK.val _ (Yl.idxK sl57 rfl rfl (by first | exact .arg ‹_› | exact .own 0 rfl | exact .own 1 rfl | exact .own 2 rfl | exact .own 3 rfl | exact .own 4 rfl | exact .own 5 rfl | exact .own 6 rfl | exact .own 7 rfl | exact .own 8 rfl | assumption | exact .own 9 rfl | exact .own 10 rfl | exact .own 11 rfl | exact .own 12 rfl | exact rd_al2 3 hF rfl (by rw [alT_len]; exact hg0.2.1) (by rw [alT_len]; omega) hal hall) (by decide) (by omega)) ⟨_, rfl, congrArg (fun b => some (Value.bool b)) hg_8_3⟩ rfl ?_
          refine QK.val _ (Yl.loadV on22 rfl (by first | exact .arg ‹_› | exact .own 0 rfl | exact .own 1 rfl | exact .own 2 rfl | exact .own 3 rfl | exact .own 4 rfl | exact .own 5 rfl | exact .own 6 rfl | exact .own 7 rfl | exact .own 8 rfl | assumption | exact .own 9 rfl | exact .own 10 rfl | exact .own 11 rfl | exact .own 12 rfl | exact rd_al2 3 hF rfl (by rw [alT_len]; exact hg0.2.1) (by rw [alT_len]; omega) hal hall) (by omega)) ⟨_, rfl, congrArg (fun b => some (Value.bool b)) hg_8_3⟩ rfl ?_
          refine QK.val _ (Yl.fieldAddr fd25_1 rfl) ⟨_, rfl, congrArg (fun b => some (Value.bool b)) hg_8_3⟩ rfl ?_
          refine QK.val _ (Yl.loadBox on3 rfl (by first | exact .own 0 rfl | exact .own 1 rfl | exact .own 2 rfl | exact .own 3 rfl | exact .own 4 rfl | exact .own 5 rfl | exact .own 6 rfl | exact .own 7 rfl | exact .own 8 rfl | exact .own 9 rfl | exact .own 10 rfl | exact .own 11 rfl | exact .own 12 rfl | assumption | exact BoxS.arg (by assumption)) rfl) ⟨_, rfl, congrArg (fun b => some (Value.bool b)) hg_8_3⟩ rfl ?_
          first | refine QK.val _ (Yl.idxN sl22 rfl rfl (by first | exact .arg ‹_› | exact .own 0 rfl | exact .own 1 rfl | exact .own 2 rfl | exact .own 3 rfl | exact .own 4 rfl | exact .own 5 rfl | exact .own 6 rfl | exact .own 7 rfl | exact .own 8 rfl | assumption | exact .own 9 rfl | exact .own 10 rfl | exact .own 11 rfl | exact .own 12 rfl | exact rd_al2 3 hF rfl (by rw [alT_len]; exact hg0.2.1) (by rw [alT_len]; omega) hal hall) (by decide) (by omega)) ⟨_, rfl, congrArg (fun b => some (Value.bool b)) hg_8_3⟩ rfl ?_ | refine QK.val _ (Yl.idx sl22 rfl rfl (by first | exact .arg ‹_› | exact .own 0 rfl | exact .own 1 rfl | exact .own 2 rfl | exact .own 3 rfl | exact .own 4 rfl | exact .own 5 rfl | exact .own 6 rfl | exact .own 7 rfl | exact .own 8 rfl | assumption | exact .own 9 rfl | exact .own 10 rfl | exact .own 11 rfl | exact .own 12 rfl | exact rd_al2 3 hF rfl (by rw [alT_len]; exact hg0.2.1) (by rw [alT_len]; omega) hal hall) (by decide) (by omega)) ⟨_, rfl, congrArg (fun b => some (Value.bool b)) hg_8_3⟩ rfl ?_ | refine QK.val _ (Yl.idxK sl22 rfl rfl (by first | exact .arg ‹_› | exact .own 0 rfl | exact .own 1 rfl | exact .own 2 rfl | exact .own 3 rfl | exact .own 4 rfl | exact .own 5 rfl | exact .own 6 rfl | exact .own 7 rfl | exact .own 8 rfl | assumption | exact .own 9 rfl | exact .own 10 rfl | exact .own 11 rfl | exact .own 12 rfl | exact rd_al2 3 hF rfl (by rw [alT_len]; exact hg0.2.1) (by rw [alT_len]; omega) hal hall) (by decide) (by omega)) ⟨_, rfl, congrArg (fun b => some (Value.bool b)) hg_8_3⟩ rfl ?_
          refine QK.val _ (Yl.loadB on4 rfl (by first | exact .arg ‹_› | exact .own 0 rfl | exact .own 1 rfl | exact .own 2 rfl | exact .own 3 rfl | exact .own 4 rfl | exact .own 5 rfl | exact .own 6 rfl | exact .own 7 rfl | exact .own 8 rfl | assumption | exact .own 9 rfl | exact .own 10 rfl | exact .own 11 rfl | exact .own 12 rfl | exact rd_al2 3 hF rfl (by rw [alT_len]; exact hg0.2.1) (by rw [alT_len]; omega) hal hall) (by omega)) ⟨_, rfl, congrArg (fun b => some (Value.bool b)) hg_8_3⟩ rfl ?_
          refine QK.val _ (Yl.pickT rfl (hg_8_3) rfl) trivial rfl ?_
          refine QK.nil (QK.fin ?_)
          refine AK.then_ (hK15 _ ?_)
          refine AK.cond rfl (fun hc2 => ?_) (fun hc2 => ?_)
          · try simp only [decide_eq_true_eq, decide_eq_false_iff_not, Bool.not_eq_true', Bool.not_eq_false', Bool.not_not, ne_eq, Decidable.not_not, Int.not_lt, Int.not_le, beq_iff_eq, bne_iff_ne, Bool.and_eq_true, Bool.or_eq_true, Bool.or_eq_false_iff, Bool.not_false, Bool.not_true, reduceCtorEq, not_true_eq_false, not_false_eq_true] at hc2
            refine AK.seq (fun _ hK16 => ?_)
            refine AK.region ?_
            refine AK.val _ (Yl.assign rfl) trivial rfl ?_
            refine AK.nil ?_
            refine AK.then_ (hK16 _ ?_)
            refine AK.ret ?_
            refine AK.then_ret ?_
            refine AK.block_ret ?_
            refine AK.then_ret ?_
            refine AK.then_ret ?_
            refine AK.block_ret ?_
            refine AK.then_ret ?_
            refine AK.ret1 rfl rfl (fun w hw => ⟨_, _, ?_, rfl, Ret.of (hw.pick [] (by decide) rfl rfl)⟩)
            rw [infV_yes hv (k := x.1) (by omega) hc2]; exact ⟨rfl, rfl⟩
          · try simp only [decide_eq_true_eq, decide_eq_false_iff_not, Bool.not_eq_true', Bool.not_eq_false', Bool.not_not, ne_eq, Decidable.not_not, Int.not_lt, Int.not_le, beq_iff_eq, bne_iff_ne, Bool.and_eq_true, Bool.or_eq_true, Bool.or_eq_false_iff, Bool.not_false, Bool.not_true, reduceCtorEq, not_true_eq_false, not_false_eq_true] at hc2
            refine AK.skip ?_
            refine AK.then_ (hK14 _ ?_)
            refine AK.region ?_
            refine AK.own' [bigA [box bx4 60 8 [.int .i64 d.L, .int .i64 d.s, vF, vN, .int .i64 0, x.2.1, .slice none 0 0, .slice none 0 0], row x.2.1 22 1 (x.1 + 1) (vF :: x.2.2), bigA (matG Value.bool 4 x.2.2 (alT d x.1))], box bx1 25 4 [.int .i64 d.L, .int .i64 d.s, vF, vN]] (fun w hw => HW.unflat (l := [_, _, _]) (own := [_]) (hw.pick [1, 2, 3, 0] (by decide) rfl rfl)) ?_
            refine AK.callN 0 rfl co48 rfl (fun w Fs hw hh hfr hal => s_extend w (Fs 0) bx4 x.1 d vF vN x.2.1 (.slice none 0 0) (.slice none 0 0) 0 x.2.2 hv (by omega) hg0.2.1 (hF0.off hfr hal) (hN0.off hfr hal) (hh.at_ 0 _ rfl)) trivial rfl ?_
            rintro r A o ⟨va, rv, sa, rfl, rfl, rfl⟩
            refine AK.flat0 rfl ?_
            refine AK.nil ?_
            refine AK.block_normal ?_
            refine AK.then_ (hK12 _ ?_)
            refine AK.region ?_
            refine AK.val _ (Yl.add rfl rfl (by omega)) trivial rfl ?_
            refine AK.val _ (Yl.move rfl) trivial rfl ?_
            refine AK.nil ?_
            refine AK.then_ (hK9 _ _ ((x.1 + 1, va, x.2.2 ++ [rv])) ⟨by dsimp only; omega, by simp [hg0.2.1], sa, fun j h1 h2 => by rcases Nat.lt_or_eq_of_le (Nat.le_of_lt_succ h2) with h | rfl; exact hg0.2.2.2 j h1 h; first | omega | (simpa using hc2)⟩ (by dsimp only; omega) (.cons (rfl) (.cons rfl (.cons rfl (.cons rfl (.cons rfl (.nil)))))) (fun w hw => hw.pick [3, 0, 1, 2] (by decide) rfl rfl))
        · have hg_8_3' := hg_8_3
          try simp only [decide_eq_true_eq, decide_eq_false_iff_not, Bool.not_eq_true', Bool.not_eq_false', Bool.not_not, ne_eq, Decidable.not_not, Int.not_lt, Int.not_le, beq_iff_eq, bne_iff_ne, Bool.and_eq_true, Bool.or_eq_true, Bool.or_eq_false_iff, Bool.not_false, Bool.not_true, reduceCtorEq, not_true_eq_false, not_false_eq_true] at hg_8_3'
          refine QK.pass rfl rfl (hg_8_3) rfl ?_
          refine QK.pass rfl rfl (hg_8_3) rfl ?_
          refine QK.pass rfl rfl (hg_8_3) rfl ?_
          refine QK.pass rfl rfl (hg_8_3) rfl ?_
          refine QK.pass rfl rfl (hg_8_3) rfl ?_
          refine QK.pass rfl rfl (hg_8_3) rfl ?_
          refine QK.pass rfl rfl (hg_8_3) rfl ?_
          refine QK.pass rfl rfl (hg_8_3) rfl ?_
          refine QK.pass rfl rfl (hg_8_3) rfl ?_
          refine QK.val _ (Yl.pickF rfl (hg_8_3) rfl) trivial rfl ?_
          refine QK.nil (QK.fin ?_)
          refine AK.then_ (hK15 _ ?_)
          refine AK.cond_f rfl (rfl) ?_
          refine AK.skip ?_
          refine AK.then_ (hK14 _ ?_)
          refine AK.region ?_
          refine AK.own' [bigA [box bx4 60 8 [.int .i64 d.L, .int .i64 d.s, vF, vN, .int .i64 0, x.2.1, .slice none 0 0, .slice none 0 0], row x.2.1 22 1 (x.1 + 1) (vF :: x.2.2), bigA (matG Value.bool 4 x.2.2 (alT d x.1))], box bx1 25 4 [.int .i64 d.L, .int .i64 d.s, vF, vN]] (fun w hw => HW.unflat (l := [_, _, _]) (own := [_]) (hw.pick [1, 2, 3, 0] (by decide) rfl rfl)) ?_
          refine AK.callN 0 rfl co48 rfl (fun w Fs hw hh hfr hal => s_extend w (Fs 0) bx4 x.1 d vF vN x.2.1 (.slice none 0 0) (.slice none 0 0) 0 x.2.2 hv (by omega) hg0.2.1 (hF0.off hfr hal) (hN0.off hfr hal) (hh.at_ 0 _ rfl)) trivial rfl ?_
          rintro r A o ⟨va, rv, sa, rfl, rfl, rfl⟩
          refine AK.flat0 rfl ?_
          refine AK.nil ?_
          refine AK.block_normal ?_
          refine AK.then_ (hK12 _ ?_)
          refine AK.region ?_
          refine AK.val _ (Yl.add rfl rfl (by omega)) trivial rfl ?_
          refine AK.val _ (Yl.move rfl) trivial rfl ?_
          refine AK.nil ?_
          refine AK.then_ (hK9 _ _ ((x.1 + 1, va, x.2.2 ++ [rv])) ⟨by dsimp only; omega, by simp [hg0.2.1], sa, fun j h1 h2 => by rcases Nat.lt_or_eq_of_le (Nat.le_of_lt_succ h2) with h | rfl; exact hg0.2.2.2 j h1 h; first | omega | (simpa using hc2)⟩ (by dsimp only; omega) (.cons (rfl) (.cons rfl (.cons rfl (.cons rfl (.cons rfl (.nil)))))) (fun w hw => hw.pick [3, 0, 1, 2] (by decide) rfl rfl))
      · refine AK.exit ?_
        refine AK.then_exit ?_
        refine AK.then_exit ?_
        refine AK.block_exit ?_
        refine AK.then_ (hK7 _ ?_)
        refine AK.seq (fun _ hK17 => ?_)
        refine AK.region ?_
        refine AK.val _ (Yl.assign rfl) trivial rfl ?_
        refine AK.nil ?_
        refine AK.then_ (hK17 _ ?_)
        refine AK.ret ?_
        refine AK.ret1 rfl rfl (fun w hw => ⟨_, _, ?_, rfl, Ret.of (hw.pick [] (by decide) rfl rfl)⟩)
        rw [infV_none hv (fun j h1 h2 => hg0.2.2.2 j h1 (by omega))]; exact ⟨rfl, rfl⟩

end Go.Proofs.Ytmfakjfkjoichaa
