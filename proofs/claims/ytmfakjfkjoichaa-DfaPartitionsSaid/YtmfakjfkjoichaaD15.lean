import Derived.Test.YtmfakjfkjoichaaD14
set_option linter.unusedVariables false
set_option linter.unusedSimpArgs false
namespace Go.Proofs.Ytmfakjfkjoichaa
open Go.Sx Go.RowKit
set_option maxHeartbeats 2000000 in
set_option maxRecDepth 100000 in
theorem l_combines (w : World) (u v : Value) (a b : Dfa) (hu : RdD (fun _ => False) w u a) (hv : RdD (fun _ => False) w v b) (op : Int) (l : List UInt8) (hm : l.length ≤ 9223372036854775807) : CallS Try.prog 14 [u, v, .int .i64 op, sv l] w (fun r o => r = .bool true ∧ o = []) := by
  have hu0 := hu
  have hv0 := hv
  obtain ⟨aF, aN, rfl, haF, haN⟩ := hu
  obtain ⟨bF, bN, rfl, hbF, hbN⟩ := hv
  unfold RdL at haF hbF
  have m1 := haF.le
  have m2 := hbF.le
  have saF := haF.sl
  have sbF := hbF.sl
  obtain ⟨ra, hra, haNr, haNi⟩ := haN
  obtain ⟨rb, hrb, hbNr, hbNi⟩ := hbN
  have saN := haNr.sl
  have sbN := hbNr.sl
  refine spec_of Try.func14 rfl (Nat.le_of_ble_eq_true rfl) ?_
  refine AK.seq (fun _ hK1 => ?_)
  refine AK.region ?_
  refine AK.box_ (E := 25) (cs := [.int .i64 a.L, .int .i64 a.s, aF, aN]) rfl rfl rfl trivial rfl (fun bx4 => ?_)
  refine AK.box_ (E := 25) (cs := [.int .i64 b.L, .int .i64 b.s, bF, bN]) rfl rfl rfl trivial rfl (fun bx5 => ?_)
  refine AK.val _ (Yl.assign rfl) trivial rfl ?_
  refine AK.nil ?_
  refine AK.then_ (hK1 _ ?_)
  refine AK.seq (fun _ hK2 => ?_)
  refine AK.region ?_
  refine AK.val _ (Yl.loadBoxG ag25 rfl (by first | exact .own 0 rfl | exact .own 1 rfl | exact .own 2 rfl | exact .own 3 rfl | exact .own 4 rfl | exact .own 5 rfl | exact .own 6 rfl | exact .own 7 rfl | exact .own 8 rfl | exact .own 9 rfl | exact .own 10 rfl | exact .own 11 rfl | exact .own 12 rfl | assumption | exact BoxS.arg (by assumption)) rfl rfl) trivial rfl ?_
  refine AK.call co41 rfl (fun w hw => s_compl w _ a (hu0.at hw)) trivial rfl ?_
  rintro r o ⟨cF, cN, crs, rfl, hcrs, s1, s2, rfl⟩
  refine AK.alloc el25 rfl rfl trivial rfl (fun bx9 => ?_)
  refine AK.storeBox 5 (us := [.int .i64 (CompV a).L, .int .i64 (CompV a).s, cF, cN]) (cs' := [.int .i64 (CompV a).L, .int .i64 (CompV a).s, cF, cN]) rfl sz25 rfl rfl rfl rfl (by repeat (first | exact one'_nil | refine one'_cons (by first | rfl | exact IsSl.one (by assumption) | exact IsSl.one nilSl) ?_)) (Nat.le_of_ble_eq_true rfl) rfl trivial ?_
  refine AK.nil ?_
  refine AK.then_ (hK2 _ ?_)
  refine AK.seq (fun _ hK3 => ?_)
  refine AK.seq (fun _ hK4 => ?_)
  refine AK.region ?_
  refine AK.val _ (Yl.loadBoxG ag25 rfl (by first | exact .own 0 rfl | exact .own 1 rfl | exact .own 2 rfl | exact .own 3 rfl | exact .own 4 rfl | exact .own 5 rfl | exact .own 6 rfl | exact .own 7 rfl | exact .own 8 rfl | exact .own 9 rfl | exact .own 10 rfl | exact .own 11 rfl | exact .own 12 rfl | assumption | exact BoxS.arg (by assumption)) rfl rfl) trivial rfl ?_
  refine AK.call co18 rfl (fun w hw => s_lvalid w _ a (hu0.at hw)) trivial rfl ?_
  rintro r o ⟨rfl, rfl⟩
  refine AK.val _ (Yl.not rfl) trivial rfl ?_
  refine AK.nil ?_
  refine AK.then_ (hK4 _ ?_)
  refine AK.condB rfl (fun hc0 => ?_) (fun hc0 => ?_)
  · have hna : ¬ VD a := (by simpa using hc0)
    have hcn : CompV a = nilD := if_neg hna
    refine AK.seq (fun _ hK5 => ?_)
    refine AK.region ?_
    refine AK.val _ (Yl.loadBoxG ag25 rfl (by first | exact .own 0 rfl | exact .own 1 rfl | exact .own 2 rfl | exact .own 3 rfl | exact .own 4 rfl | exact .own 5 rfl | exact .own 6 rfl | exact .own 7 rfl | exact .own 8 rfl | exact .own 9 rfl | exact .own 10 rfl | exact .own 11 rfl | exact .own 12 rfl | assumption | exact BoxS.arg (by assumption)) rfl rfl) trivial rfl ?_
    refine AK.val _ (Yl.build (parts := []) (cs := #[.int .i64 0, .int .i64 0, .slice none 0 0, .slice none 0 0]) rfl (by kernel_rfl)) trivial rfl ?_
    refine AK.call co31 rfl (fun w hw => s_sameD w _ _ (CompV a) nilD (RdD.own 2 hw hcrs rfl rfl rfl) rd_nilD) trivial rfl ?_
    rintro r o ⟨rfl, rfl⟩
    refine AK.val _ (Yl.move rfl) trivial rfl ?_
    refine AK.knownT (g := 21) rfl (decide_eq_true hcn) (fun hg_3_3 => ?_)
    refine AK.call co17 rfl (fun w hw => s_awake w) ⟨_, rfl, congrArg (fun b => some (Value.bool b)) hg_3_3⟩ rfl ?_
    rintro r o ⟨rfl, rfl⟩
    refine AK.val _ (Yl.pickT rfl (hg_3_3) rfl) trivial rfl ?_
    refine AK.val _ (Yl.assign rfl) trivial rfl ?_
    refine AK.nil ?_
    refine AK.then_ (hK5 _ ?_)
    refine AK.ret ?_
    refine AK.then_ret ?_
    refine AK.ret1 rfl rfl (fun w hw => ⟨_, _, ?_, rfl, Ret.of (hw.pick [] (by decide) rfl rfl)⟩)
    exact ⟨rfl, rfl⟩
  · have hva : VD a := (by simpa using hc0)
    have hcc : AccV (CompV a) l = (validW a.L l && !AccV a l) := (by rw [show CompV a = compD a from if_pos hva]; exact acc_comp hva l)
    refine AK.skip ?_
    refine AK.then_ (hK3 _ ?_)
    refine AK.seq (fun _ hK6 => ?_)
    refine AK.region ?_
    refine AK.val _ (Yl.move rfl) trivial rfl ?_
    refine AK.val _ (Yl.fieldAddr fd25_0 rfl) trivial rfl ?_
    refine AK.val _ (Yl.loadBox on3 rfl (by first | exact .own 0 rfl | exact .own 1 rfl | exact .own 2 rfl | exact .own 3 rfl | exact .own 4 rfl | exact .own 5 rfl | exact .own 6 rfl | exact .own 7 rfl | exact .own 8 rfl | exact .own 9 rfl | exact .own 10 rfl | exact .own 11 rfl | exact .own 12 rfl | assumption | exact BoxS.arg (by assumption)) rfl) trivial rfl ?_
    refine AK.call co42 rfl (fun w hw => s_refwvalid w l a.L hm) trivial rfl ?_
    rintro r o ⟨rfl, rfl⟩
    refine AK.val _ (Yl.assign rfl) trivial rfl ?_
    refine AK.nil ?_
    refine AK.then_ (hK6 _ ?_)
    refine AK.seq (fun _ hK7 => ?_)
    refine AK.seq (fun _ hK8 => ?_)
    refine AK.joinK (X := Unit) [(2, _), (3, _), (4, _), (5, _), (10, _)] (fun _ => [(45, .bool false)]) (fun _ => ([box bx4 25 4 [.int .i64 a.L, .int .i64 a.s, aF, aN], box bx5 25 4 [.int .i64 b.L, .int .i64 b.s, bF, bN]] ++ dfaO 4 3 38 cF cN crs (CompV a) ++ [box bx9 25 4 [.int .i64 (CompV a).L, .int .i64 (CompV a).s, cF, cN]])) (fun _ => True) (.cons rfl (.cons rfl (.cons rfl (.cons rfl (.cons rfl (.nil)))))) (fun _ hJ => ?_) (fun _ hg => ?_)
    · try (conv => enter [2, 2]; dsimp only [List.set_cons_zero, List.set_cons_succ, List.cons_append, List.nil_append])
      refine AK.held 18 mixed ?_
      refine HeldK.first 0 (fuel := 17) (listed' := #[true, false, false, false, false, false, false, false, false, false, false, false, false, false, false, false, false, false]) _ rfl (by kernel_rfl) rfl rfl (Yl.loadBoxG ag25 rfl (by first | exact .own 0 rfl | exact .own 1 rfl | exact .own 2 rfl | exact .own 3 rfl | exact .own 4 rfl | exact .own 5 rfl | exact .own 6 rfl | exact .own 7 rfl | exact .own 8 rfl | exact .own 9 rfl | exact .own 10 rfl | exact .own 11 rfl | exact .own 12 rfl | assumption | exact BoxS.arg (by assumption)) rfl rfl) trivial rfl ?_
      refine HeldK.first 1 (fuel := 16) (listed' := #[true, true, false, false, false, false, false, false, false, false, false, false, false, false, false, false, false, false]) _ rfl (by kernel_rfl) rfl rfl (Yl.move rfl) trivial rfl ?_
      refine HeldK.first 3 (fuel := 15) (listed' := #[true, true, false, true, false, false, false, false, false, false, false, false, false, false, false, false, false, false]) _ rfl (by kernel_rfl) rfl rfl (Yl.move rfl) trivial rfl ?_
      refine HeldK.one 2 (fuel := 14) (listed' := #[true, true, true, true, false, false, false, false, false, false, false, false, false, false, false, false, false, false]) (by kernel_rfl) rfl rfl ?_
      refine AK.call co25 rfl (fun w hw => s_acc w _ (CompV a) (RdD.own 2 hw hcrs rfl rfl rfl) l hm) trivial rfl ?_
      rintro r o ⟨rfl, rfl⟩
      refine AK.nil ?_
      try (conv => enter [2, 2]; dsimp only [List.set_cons_zero, List.set_cons_succ, List.cons_append, List.nil_append])
      refine HeldK.back (by repeat (first | exact HWle.nil | refine HWle.cons Ale.rfl ?_ | refine HWle.cons Ale.fst ?_)) ?_
      refine HeldK.first 4 (fuel := 13) (listed' := #[true, true, true, true, true, false, false, false, false, false, false, false, false, false, false, false, false, false]) _ rfl (by kernel_rfl) rfl rfl (Yl.move rfl) trivial rfl ?_
      refine AK.splitB (g := 32) rfl (fun hg_5_4 => ?_) (fun hg_5_4 => ?_)
      · have hg_5_4' := hg_5_4
        try simp only [decide_eq_true_eq, decide_eq_false_iff_not, Bool.not_eq_true', Bool.not_eq_false', Bool.not_not, ne_eq, Decidable.not_not, Int.not_lt, Int.not_le, beq_iff_eq, bne_iff_ne, Bool.and_eq_true, Bool.or_eq_true, Bool.or_eq_false_iff, Bool.not_false, Bool.not_true, reduceCtorEq, not_true_eq_false, not_false_eq_true] at hg_5_4'
        refine HeldK.first 5 (fuel := 12) (listed' := #[true, true, true, true, true, true, false, false, false, false, false, false, false, false, false, false, false, false]) _ rfl (by kernel_rfl) rfl rfl (Yl.loadBoxG ag25 rfl (by first | exact .own 0 rfl | exact .own 1 rfl | exact .own 2 rfl | exact .own 3 rfl | exact .own 4 rfl | exact .own 5 rfl | exact .own 6 rfl | exact .own 7 rfl | exact .own 8 rfl | exact .own 9 rfl | exact .own 10 rfl | exact .own 11 rfl | exact .own 12 rfl | assumption | exact BoxS.arg (by assumption)) rfl rfl) ⟨_, rfl, congrArg (fun b => some (Value.bool b)) hg_5_4⟩ rfl ?_
        refine HeldK.first 6 (fuel := 11) (listed' := #[true, true, true, true, true, true, true, false, false, false, false, false, false, false, false, false, false, false]) _ rfl (by kernel_rfl) rfl rfl (Yl.move rfl) ⟨_, rfl, congrArg (fun b => some (Value.bool b)) hg_5_4⟩ rfl ?_
        refine HeldK.one 7 (fuel := 10) (listed' := #[true, true, true, true, true, true, true, true, false, false, false, false, false, false, false, false, false, false]) (by kernel_rfl) rfl rfl ?_
        refine AK.call co25 rfl (fun w hw => s_acc w _ a (hu0.at hw) l hm) ⟨_, rfl, congrArg (fun b => some (Value.bool b)) hg_5_4⟩ rfl ?_
        rintro r o ⟨rfl, rfl⟩
        refine AK.nil ?_
        try (conv => enter [2, 2]; dsimp only [List.set_cons_zero, List.set_cons_succ, List.cons_append, List.nil_append])
        refine HeldK.back (by repeat (first | exact HWle.nil | refine HWle.cons Ale.rfl ?_ | refine HWle.cons Ale.fst ?_)) ?_
        refine HeldK.first 8 (fuel := 9) (listed' := #[true, true, true, true, true, true, true, true, true, false, false, false, false, false, false, false, false, false]) _ rfl (by kernel_rfl) rfl rfl (Yl.not rfl) ⟨_, rfl, congrArg (fun b => some (Value.bool b)) hg_5_4⟩ rfl ?_
        refine HeldK.first 9 (fuel := 8) (listed' := #[true, true, true, true, true, true, true, true, true, true, false, false, false, false, false, false, false, false]) _ rfl (by kernel_rfl) rfl rfl (Yl.pickT rfl (hg_5_4) rfl) trivial rfl ?_
        refine HeldK.first 10 (fuel := 7) (listed' := #[true, true, true, true, true, true, true, true, true, true, true, false, false, false, false, false, false, false]) _ rfl (by kernel_rfl) rfl rfl (Yl.neqB bo4 rfl rfl) trivial rfl ?_
        refine HeldK.first 11 (fuel := 6) (listed' := #[true, true, true, true, true, true, true, true, true, true, true, true, false, false, false, false, false, false]) _ rfl (by kernel_rfl) rfl rfl (Yl.move rfl) trivial rfl ?_
        refine AK.knownF (g := 39) rfl (by first | (rw [hcc, hg_5_4]; simp; done) | (rw [hcc]; simp_all; done)) (fun hg_5_11 => ?_)
        refine HeldK.first 12 (fuel := 5) (listed' := #[true, true, true, true, true, true, true, true, true, true, true, true, true, false, false, false, false, false]) _ rfl (by kernel_rfl) rfl rfl (Yl.loadBoxG ag25 rfl (by first | exact .own 0 rfl | exact .own 1 rfl | exact .own 2 rfl | exact .own 3 rfl | exact .own 4 rfl | exact .own 5 rfl | exact .own 6 rfl | exact .own 7 rfl | exact .own 8 rfl | exact .own 9 rfl | exact .own 10 rfl | exact .own 11 rfl | exact .own 12 rfl | assumption | exact BoxS.arg (by assumption)) rfl rfl) ⟨_, rfl, congrArg (fun b => some (Value.bool b)) hg_5_11⟩ rfl ?_
        refine HeldK.first 13 (fuel := 4) (listed' := #[true, true, true, true, true, true, true, true, true, true, true, true, true, true, false, false, false, false]) _ rfl (by kernel_rfl) rfl rfl (Yl.loadBoxG ag25 rfl (by first | exact .own 0 rfl | exact .own 1 rfl | exact .own 2 rfl | exact .own 3 rfl | exact .own 4 rfl | exact .own 5 rfl | exact .own 6 rfl | exact .own 7 rfl | exact .own 8 rfl | exact .own 9 rfl | exact .own 10 rfl | exact .own 11 rfl | exact .own 12 rfl | assumption | exact BoxS.arg (by assumption)) rfl rfl) ⟨_, rfl, congrArg (fun b => some (Value.bool b)) hg_5_11⟩ rfl ?_
        refine HeldK.one 14 (fuel := 3) (listed' := #[true, true, true, true, true, true, true, true, true, true, true, true, true, true, true, false, false, false]) (by kernel_rfl) rfl rfl ?_
        refine AK.call co43 rfl (fun w hw => s_refcompl w _ a (hu0.at hw) hva) ⟨_, rfl, congrArg (fun b => some (Value.bool b)) hg_5_11⟩ rfl ?_
        rintro r o ⟨qF, qN, qrs, rfl, hqrs, s3, s4, rfl⟩
        refine AK.nil ?_
        try (conv => enter [2, 2]; dsimp only [List.set_cons_zero, List.set_cons_succ, List.cons_append, List.nil_append])
        refine HeldK.back (by repeat (first | exact HWle.nil | refine HWle.cons Ale.rfl ?_ | refine HWle.cons Ale.fst ?_)) ?_
        refine HeldK.one 15 (fuel := 2) (listed' := #[true, true, true, true, true, true, true, true, true, true, true, true, true, true, true, true, false, false]) (by kernel_rfl) rfl rfl ?_
        refine AK.call co31 rfl (fun w hw => s_sameD w _ _ (CompV a) (CompV a) (RdD.own 2 hw hcrs rfl rfl rfl) (RdD.own 6 hw hqrs rfl rfl rfl)) ⟨_, rfl, congrArg (fun b => some (Value.bool b)) hg_5_11⟩ rfl ?_
        rintro r o ⟨rfl, rfl⟩
        refine AK.nil ?_
        try (conv => enter [2, 2]; dsimp only [List.set_cons_zero, List.set_cons_succ, List.cons_append, List.nil_append])
        refine HeldK.back (by repeat (first | exact HWle.nil | refine HWle.cons Ale.rfl ?_ | refine HWle.cons Ale.fst ?_)) ?_
        refine HeldK.first 16 (fuel := 1) (listed' := #[true, true, true, true, true, true, true, true, true, true, true, true, true, true, true, true, true, false]) _ rfl (by kernel_rfl) rfl rfl (Yl.not rfl) ⟨_, rfl, congrArg (fun b => some (Value.bool b)) hg_5_11⟩ rfl ?_
        refine HeldK.first 17 (fuel := 0) (listed' := #[true, true, true, true, true, true, true, true, true, true, true, true, true, true, true, true, true, true]) _ rfl (by kernel_rfl) rfl rfl (Yl.pickF rfl (hg_5_11) rfl) trivial rfl ?_
        refine HeldK.done (by kernel_rfl) ?_
        exact hJ _ _ (()) trivial (.cons (show some (Value.bool (!decide (CompV a = CompV a))) = _ from by simp) (.cons rfl (.cons rfl (.cons rfl (.cons rfl (.cons rfl (.nil))))))) (fun w hw => by first | (refine hw.pickLe [0, 1, 2, 3, 4, 5] (by decide) ?_; (repeat (first | exact PickLe.nil | refine PickLe.cons rfl Ale.rfl ?_ | refine PickLe.cons rfl Ale.snd ?_ | refine PickLe.cons rfl Ale.fst ?_)); done))
      · have hg_5_4' := hg_5_4
        try simp only [decide_eq_true_eq, decide_eq_false_iff_not, Bool.not_eq_true', Bool.not_eq_false', Bool.not_not, ne_eq, Decidable.not_not, Int.not_lt, Int.not_le, beq_iff_eq, bne_iff_ne, Bool.and_eq_true, Bool.or_eq_true, Bool.or_eq_false_iff, Bool.not_false, Bool.not_true, reduceCtorEq, not_true_eq_false, not_false_eq_true] at hg_5_4'
        refine HeldK.pass 5 (fuel := 12) (listed' := #[true, true, true, true, true, true, false, false, false, false, false, false, false, false, false, false, false, false]) rfl (by kernel_rfl) rfl rfl rfl (hg_5_4) rfl ?_
        refine HeldK.pass 6 (fuel := 11) (listed' := #[true, true, true, true, true, true, true, false, false, false, false, false, false, false, false, false, false, false]) rfl (by kernel_rfl) rfl rfl rfl (hg_5_4) rfl ?_
        refine HeldK.one 7 (fuel := 10) (listed' := #[true, true, true, true, true, true, true, true, false, false, false, false, false, false, false, false, false, false]) (by kernel_rfl) rfl rfl ?_
        refine AK.pass rfl rfl (hg_5_4) rfl ?_
        refine AK.nil ?_
        try (conv => enter [2, 2]; dsimp only [List.set_cons_zero, List.set_cons_succ, List.cons_append, List.nil_append])
        refine HeldK.back (by repeat (first | exact HWle.nil | refine HWle.cons Ale.rfl ?_ | refine HWle.cons Ale.fst ?_)) ?_
        refine HeldK.pass 8 (fuel := 9) (listed' := #[true, true, true, true, true, true, true, true, true, false, false, false, false, false, false, false, false, false]) rfl (by kernel_rfl) rfl rfl rfl (hg_5_4) rfl ?_
        refine HeldK.first 9 (fuel := 8) (listed' := #[true, true, true, true, true, true, true, true, true, true, false, false, false, false, false, false, false, false]) _ rfl (by kernel_rfl) rfl rfl (Yl.pickF rfl (hg_5_4) rfl) trivial rfl ?_
        refine HeldK.first 10 (fuel := 7) (listed' := #[true, true, true, true, true, true, true, true, true, true, true, false, false, false, false, false, false, false]) _ rfl (by kernel_rfl) rfl rfl (Yl.neqB bo4 rfl rfl) trivial rfl ?_
        refine HeldK.first 11 (fuel := 6) (listed' := #[true, true, true, true, true, true, true, true, true, true, true, true, false, false, false, false, false, false]) _ rfl (by kernel_rfl) rfl rfl (Yl.move rfl) trivial rfl ?_
        refine AK.knownF (g := 39) rfl (by first | (rw [hcc, hg_5_4]; simp; done) | (rw [hcc]; simp_all; done)) (fun hg_5_11 => ?_)
        refine HeldK.first 12 (fuel := 5) (listed' := #[true, true, true, true, true, true, true, true, true, true, true, true, true, false, false, false, false, false]) _ rfl (by kernel_rfl) rfl rfl (Yl.loadBoxG ag25 rfl (by first | exact .own 0 rfl | exact .own 1 rfl | exact .own 2 rfl | exact .own 3 rfl | exact .own 4 rfl | exact .own 5 rfl | exact .own 6 rfl | exact .own 7 rfl | exact .own 8 rfl | exact .own 9 rfl | exact .own 10 rfl | exact .own 11 rfl | exact .own 12 rfl | assumption | exact BoxS.arg (by assumption)) rfl rfl) ⟨_, rfl, congrArg (fun b => some (Value.bool b)) hg_5_11⟩ rfl ?_
        refine HeldK.first 13 (fuel := 4) (listed' := #[true, true, true, true, true, true, true, true, true, true, true, true, true, true, false, false, false, false]) _ rfl (by kernel_rfl) rfl rfl (Yl.loadBoxG ag25 rfl (by first | exact .own 0 rfl | exact .own 1 rfl | exact .own 2 rfl | exact .own 3 rfl | exact .own 4 rfl | exact .own 5 rfl | exact .own 6 rfl | exact .own 7 rfl | exact .own 8 rfl | exact .own 9 rfl | exact .own 10 rfl | exact .own 11 rfl | exact .own 12 rfl | assumption | exact BoxS.arg (by assumption)) rfl rfl) ⟨_, rfl, congrArg (fun b => some (Value.bool b)) hg_5_11⟩ rfl ?_
        refine HeldK.one 14 (fuel := 3) (listed' := #[true, true, true, true, true, true, true, true, true, true, true, true, true, true, true, false, false, false]) (by kernel_rfl) rfl rfl ?_
        refine AK.call co43 rfl (fun w hw => s_refcompl w _ a (hu0.at hw) hva) ⟨_, rfl, congrArg (fun b => some (Value.bool b)) hg_5_11⟩ rfl ?_
        rintro r o ⟨qF, qN, qrs, rfl, hqrs, s3, s4, rfl⟩
        refine AK.nil ?_
        try (conv => enter [2, 2]; dsimp only [List.set_cons_zero, List.set_cons_succ, List.cons_append, List.nil_append])
        refine HeldK.back (by repeat (first | exact HWle.nil | refine HWle.cons Ale.rfl ?_ | refine HWle.cons Ale.fst ?_)) ?_
        refine HeldK.one 15 (fuel := 2) (listed' := #[true, true, true, true, true, true, true, true, true, true, true, true, true, true, true, true, false, false]) (by kernel_rfl) rfl rfl ?_
        refine AK.call co31 rfl (fun w hw => s_sameD w _ _ (CompV a) (CompV a) (RdD.own 2 hw hcrs rfl rfl rfl) (RdD.own 6 hw hqrs rfl rfl rfl)) ⟨_, rfl, congrArg (fun b => some (Value.bool b)) hg_5_11⟩ rfl ?_
        rintro r o ⟨rfl, rfl⟩
        refine AK.nil ?_
        try (conv => enter [2, 2]; dsimp only [List.set_cons_zero, List.set_cons_succ, List.cons_append, List.nil_append])
        refine HeldK.back (by repeat (first | exact HWle.nil | refine HWle.cons Ale.rfl ?_ | refine HWle.cons Ale.fst ?_)) ?_
        refine HeldK.first 16 (fuel := 1) (listed' := #[true, true, true, true, true, true, true, true, true, true, true, true, true, true, true, true, true, false]) _ rfl (by kernel_rfl) rfl rfl (Yl.not rfl) ⟨_, rfl, congrArg (fun b => some (Value.bool b)) hg_5_11⟩ rfl ?_
        refine HeldK.first 17 (fuel := 0) (listed' := #[true, true, true, true, true, true, true, true, true, true, true, true, true, true, true, true, true, true]) _ rfl (by kernel_rfl) rfl rfl (Yl.pickF rfl (hg_5_11) rfl) trivial rfl ?_
        refine HeldK.done (by kernel_rfl) ?_
        exact hJ _ _ (()) trivial (.cons (show some (Value.bool (!decide (CompV a = CompV a))) = _ from by simp) (.cons rfl (.cons rfl (.cons rfl (.cons rfl (.cons rfl (.nil))))))) (fun w hw => by first | (refine hw.pickLe [0, 1, 2, 3, 4, 5] (by decide) ?_; (repeat (first | exact PickLe.nil | refine PickLe.cons rfl Ale.rfl ?_ | refine PickLe.cons rfl Ale.snd ?_ | refine PickLe.cons rfl Ale.fst ?_)); done))
    · skip
      refine AK.then_ (hK8 _ ?_)
      refine AK.cond_f rfl (rfl) ?_
      refine AK.skip ?_
      refine AK.then_ (hK7 _ ?_)
      refine AK.seq (fun _ hK9 => ?_)
      refine AK.seq (fun _ hK10 => ?_)
      refine AK.region ?_
      refine AK.val _ (Yl.loadBoxG ag25 rfl (by first | exact .own 0 rfl | exact .own 1 rfl | exact .own 2 rfl | exact .own 3 rfl | exact .own 4 rfl | exact .own 5 rfl | exact .own 6 rfl | exact .own 7 rfl | exact .own 8 rfl | exact .own 9 rfl | exact .own 10 rfl | exact .own 11 rfl | exact .own 12 rfl | assumption | exact BoxS.arg (by assumption)) rfl rfl) trivial rfl ?_
      refine AK.call co34 rfl (fun w hw => s_small w _ a (hu0.at hw) 12) trivial rfl ?_
      rintro r o ⟨rfl, rfl⟩
      refine AK.val _ (Yl.not rfl) trivial rfl ?_
      refine AK.val _ (Yl.move rfl) trivial rfl ?_
      refine AK.splitB (g := 49) rfl (fun hg_7_3 => ?_) (fun hg_7_3 => ?_)
      · have hg_7_3' := hg_7_3
        try simp only [decide_eq_true_eq, decide_eq_false_iff_not, Bool.not_eq_true', Bool.not_eq_false', Bool.not_not, ne_eq, Decidable.not_not, Int.not_lt, Int.not_le, beq_iff_eq, bne_iff_ne, Bool.and_eq_true, Bool.or_eq_true, Bool.or_eq_false_iff, Bool.not_false, Bool.not_true, reduceCtorEq, not_true_eq_false, not_false_eq_true] at hg_7_3'
        refine AK.pass rfl rfl (hg_7_3) rfl ?_
        refine AK.pass rfl rfl (hg_7_3) rfl ?_
        refine AK.pass rfl rfl (hg_7_3) rfl ?_
        refine AK.val _ (Yl.pickT rfl (hg_7_3) rfl) trivial rfl ?_
        refine AK.val _ (Yl.move rfl) trivial rfl ?_
        refine AK.pass rfl rfl rfl rfl ?_
        refine AK.pass rfl rfl rfl rfl ?_
        refine AK.pass rfl rfl rfl rfl ?_
        refine AK.pass rfl rfl rfl rfl ?_
        refine AK.pass rfl rfl rfl rfl ?_
        refine AK.val _ (Yl.pickT rfl (rfl) rfl) trivial rfl ?_
        refine AK.val _ (Yl.move rfl) trivial rfl ?_
        refine AK.pass rfl rfl rfl rfl ?_
        refine AK.pass rfl rfl rfl rfl ?_
        refine AK.val _ (Yl.pickT rfl (rfl) rfl) trivial rfl ?_
        refine AK.val _ (Yl.move rfl) trivial rfl ?_
        refine AK.pass rfl rfl rfl rfl ?_
        refine AK.pass rfl rfl rfl rfl ?_
        refine AK.val _ (Yl.pickT rfl (rfl) rfl) trivial rfl ?_
        refine AK.nil ?_
        refine AK.then_ (hK10 _ ?_)
        refine AK.cond_t rfl (rfl) ?_
        refine AK.seq (fun _ hK11 => ?_)
        refine AK.region ?_
        refine AK.call co17 rfl (fun w hw => s_awake w) trivial rfl ?_
        rintro r o ⟨rfl, rfl⟩
        refine AK.val _ (Yl.assign rfl) trivial rfl ?_
        refine AK.nil ?_
        refine AK.then_ (hK11 _ ?_)
        refine AK.ret ?_
        refine AK.then_ret ?_
        refine AK.ret1 rfl rfl (fun w hw => ⟨_, _, ?_, rfl, Ret.of (hw.pick [] (by decide) rfl rfl)⟩)
        exact ⟨rfl, rfl⟩
      · have hg_7_3' := hg_7_3
        try simp only [decide_eq_true_eq, decide_eq_false_iff_not, Bool.not_eq_true', Bool.not_eq_false', Bool.not_not, ne_eq, Decidable.not_not, Int.not_lt, Int.not_le, beq_iff_eq, bne_iff_ne, Bool.and_eq_true, Bool.or_eq_true, Bool.or_eq_false_iff, Bool.not_false, Bool.not_true, reduceCtorEq, not_true_eq_false, not_false_eq_true] at hg_7_3'
        refine AK.val _ (Yl.loadBoxG ag25 rfl (by first | exact .own 0 rfl | exact .own 1 rfl | exact .own 2 rfl | exact .own 3 rfl | exact .own 4 rfl | exact .own 5 rfl | exact .own 6 rfl | exact .own 7 rfl | exact .own 8 rfl | exact .own 9 rfl | exact .own 10 rfl | exact .own 11 rfl | exact .own 12 rfl | assumption | exact BoxS.arg (by assumption)) rfl rfl) ⟨_, rfl, congrArg (fun b => some (Value.bool b)) hg_7_3⟩ rfl ?_
        refine AK.call co34 rfl (fun w hw => s_small w _ b (hv0.at hw) 12) ⟨_, rfl, congrArg (fun b => some (Value.bool b)) hg_7_3⟩ rfl ?_
        rintro r o ⟨rfl, rfl⟩
        refine AK.val _ (Yl.not rfl) ⟨_, rfl, congrArg (fun b => some (Value.bool b)) hg_7_3⟩ rfl ?_
        refine AK.val _ (Yl.pickF rfl (hg_7_3) rfl) trivial rfl ?_
        refine AK.val _ (Yl.move rfl) trivial rfl ?_
        refine AK.splitB (g := 54) rfl (fun hg_7_8 => ?_) (fun hg_7_8 => ?_)
        · have hg_7_8' := hg_7_8
          try simp only [decide_eq_true_eq, decide_eq_false_iff_not, Bool.not_eq_true', Bool.not_eq_false', Bool.not_not, ne_eq, Decidable.not_not, Int.not_lt, Int.not_le, beq_iff_eq, bne_iff_ne, Bool.and_eq_true, Bool.or_eq_true, Bool.or_eq_false_iff, Bool.not_false, Bool.not_true, reduceCtorEq, not_true_eq_false, not_false_eq_true] at hg_7_8'
          refine AK.pass rfl rfl (hg_7_8) rfl ?_
          refine AK.pass rfl rfl (hg_7_8) rfl ?_
          refine AK.pass rfl rfl (hg_7_8) rfl ?_
          refine AK.pass rfl rfl (hg_7_8) rfl ?_
          refine AK.pass rfl rfl (hg_7_8) rfl ?_
          refine AK.val _ (Yl.pickT rfl (hg_7_8) rfl) trivial rfl ?_
          refine AK.val _ (Yl.move rfl) trivial rfl ?_
          refine AK.pass rfl rfl rfl rfl ?_
          refine AK.pass rfl rfl rfl rfl ?_
          refine AK.val _ (Yl.pickT rfl (rfl) rfl) trivial rfl ?_
          refine AK.val _ (Yl.move rfl) trivial rfl ?_
          refine AK.pass rfl rfl rfl rfl ?_
          refine AK.pass rfl rfl rfl rfl ?_
          refine AK.val _ (Yl.pickT rfl (rfl) rfl) trivial rfl ?_
          refine AK.nil ?_
          refine AK.then_ (hK10 _ ?_)
          refine AK.cond_t rfl (rfl) ?_
          refine AK.seq (fun _ hK12 => ?_)
          refine AK.region ?_
          refine AK.call co17 rfl (fun w hw => s_awake w) trivial rfl ?_
          rintro r o ⟨rfl, rfl⟩
          refine AK.val _ (Yl.assign rfl) trivial rfl ?_
          refine AK.nil ?_
          refine AK.then_ (hK12 _ ?_)
          refine AK.ret ?_
          refine AK.then_ret ?_
          refine AK.ret1 rfl rfl (fun w hw => ⟨_, _, ?_, rfl, Ret.of (hw.pick [] (by decide) rfl rfl)⟩)
          exact ⟨rfl, rfl⟩
        · have hg_7_8' := hg_7_8
          try simp only [decide_eq_true_eq, decide_eq_false_iff_not, Bool.not_eq_true', Bool.not_eq_false', Bool.not_not, ne_eq, Decidable.not_not, Int.not_lt, Int.not_le, beq_iff_eq, bne_iff_ne, Bool.and_eq_true, Bool.or_eq_true, Bool.or_eq_false_iff, Bool.not_false, Bool.not_true, reduceCtorEq, not_true_eq_false, not_false_eq_true] at hg_7_8'
          refine AK.val _ (Yl.fieldAddr fd25_0 rfl) ⟨_, rfl, congrArg (fun b => some (Value.bool b)) hg_7_8⟩ rfl ?_
          refine AK.val _ (Yl.loadBox on3 rfl (by first | exact .own 0 rfl | exact .own 1 rfl | exact .own 2 rfl | exact .own 3 rfl | exact .own 4 rfl | exact .own 5 rfl | exact .own 6 rfl | exact .own 7 rfl | exact .own 8 rfl | exact .own 9 rfl | exact .own 10 rfl | exact .own 11 rfl | exact .own 12 rfl | assumption | exact BoxS.arg (by assumption)) rfl) ⟨_, rfl, congrArg (fun b => some (Value.bool b)) hg_7_8⟩ rfl ?_
          refine AK.val _ (Yl.fieldAddr fd25_0 rfl) ⟨_, rfl, congrArg (fun b => some (Value.bool b)) hg_7_8⟩ rfl ?_
          refine AK.val _ (Yl.loadBox on3 rfl (by first | exact .own 0 rfl | exact .own 1 rfl | exact .own 2 rfl | exact .own 3 rfl | exact .own 4 rfl | exact .own 5 rfl | exact .own 6 rfl | exact .own 7 rfl | exact .own 8 rfl | exact .own 9 rfl | exact .own 10 rfl | exact .own 11 rfl | exact .own 12 rfl | assumption | exact BoxS.arg (by assumption)) rfl) ⟨_, rfl, congrArg (fun b => some (Value.bool b)) hg_7_8⟩ rfl ?_
          refine AK.val _ (Yl.neq rfl rfl) ⟨_, rfl, congrArg (fun b => some (Value.bool b)) hg_7_8⟩ rfl ?_
          refine AK.val _ (Yl.pickF rfl (hg_7_8) rfl) trivial rfl ?_
          refine AK.val _ (Yl.move rfl) trivial rfl ?_
          refine AK.splitB (g := 61) rfl (fun hg_7_15 => ?_) (fun hg_7_15 => ?_)
          · have hg_7_15' := hg_7_15
            try simp only [decide_eq_true_eq, decide_eq_false_iff_not, Bool.not_eq_true', Bool.not_eq_false', Bool.not_not, ne_eq, Decidable.not_not, Int.not_lt, Int.not_le, beq_iff_eq, bne_iff_ne, Bool.and_eq_true, Bool.or_eq_true, Bool.or_eq_false_iff, Bool.not_false, Bool.not_true, reduceCtorEq, not_true_eq_false, not_false_eq_true] at hg_7_15'
            refine AK.pass rfl rfl (hg_7_15) rfl ?_
            refine AK.pass rfl rfl (hg_7_15) rfl ?_
            refine AK.val _ (Yl.pickT rfl (hg_7_15) rfl) trivial rfl ?_
            refine AK.val _ (Yl.move rfl) trivial rfl ?_
            refine AK.pass rfl rfl rfl rfl ?_
            refine AK.pass rfl rfl rfl rfl ?_
            refine AK.val _ (Yl.pickT rfl (rfl) rfl) trivial rfl ?_
            refine AK.nil ?_
            refine AK.then_ (hK10 _ ?_)
            refine AK.cond_t rfl (rfl) ?_
            refine AK.seq (fun _ hK13 => ?_)
            refine AK.region ?_
            refine AK.call co17 rfl (fun w hw => s_awake w) trivial rfl ?_
            rintro r o ⟨rfl, rfl⟩
            refine AK.val _ (Yl.assign rfl) trivial rfl ?_
            refine AK.nil ?_
            refine AK.then_ (hK13 _ ?_)
            refine AK.ret ?_
            refine AK.then_ret ?_
            refine AK.ret1 rfl rfl (fun w hw => ⟨_, _, ?_, rfl, Ret.of (hw.pick [] (by decide) rfl rfl)⟩)
            exact ⟨rfl, rfl⟩
          · have hg_7_15' := hg_7_15
            try simp only [decide_eq_true_eq, decide_eq_false_iff_not, Bool.not_eq_true', Bool.not_eq_false', Bool.not_not, ne_eq, Decidable.not_not, Int.not_lt, Int.not_le, beq_iff_eq, bne_iff_ne, Bool.and_eq_true, Bool.or_eq_true, Bool.or_eq_false_iff, Bool.not_false, Bool.not_true, reduceCtorEq, not_true_eq_false, not_false_eq_true] at hg_7_15'
            refine AK.val _ (Yl.move rfl) ⟨_, rfl, congrArg (fun b => some (Value.bool b)) hg_7_15⟩ rfl ?_
            refine AK.val _ (Yl.lss rfl rfl) ⟨_, rfl, congrArg (fun b => some (Value.bool b)) hg_7_15⟩ rfl ?_
            refine AK.val _ (Yl.pickF rfl (hg_7_15) rfl) trivial rfl ?_
            refine AK.val _ (Yl.move rfl) trivial rfl ?_
            refine AK.splitB (g := 65) rfl (fun hg_7_19 => ?_) (fun hg_7_19 => ?_)
            · have hg_7_19' := hg_7_19
              try simp only [decide_eq_true_eq, decide_eq_false_iff_not, Bool.not_eq_true', Bool.not_eq_false', Bool.not_not, ne_eq, Decidable.not_not, Int.not_lt, Int.not_le, beq_iff_eq, bne_iff_ne, Bool.and_eq_true, Bool.or_eq_true, Bool.or_eq_false_iff, Bool.not_false, Bool.not_true, reduceCtorEq, not_true_eq_false, not_false_eq_true] at hg_7_19'
              refine AK.pass rfl rfl (hg_7_19) rfl ?_
              refine AK.pass rfl rfl (hg_7_19) rfl ?_
              refine AK.val _ (Yl.pickT rfl (hg_7_19) rfl) trivial rfl ?_
              refine AK.nil ?_
              refine AK.then_ (hK10 _ ?_)
              refine AK.cond_t rfl (rfl) ?_
              refine AK.seq (fun _ hK14 => ?_)
              refine AK.region ?_
              refine AK.call co17 rfl (fun w hw => s_awake w) trivial rfl ?_
              rintro r o ⟨rfl, rfl⟩
              refine AK.val _ (Yl.assign rfl) trivial rfl ?_
              refine AK.nil ?_
              refine AK.then_ (hK14 _ ?_)
              refine AK.ret ?_
              refine AK.then_ret ?_
              refine AK.ret1 rfl rfl (fun w hw => ⟨_, _, ?_, rfl, Ret.of (hw.pick [] (by decide) rfl rfl)⟩)
              exact ⟨rfl, rfl⟩
            · have hg_7_19' := hg_7_19
              try simp only [decide_eq_true_eq, decide_eq_false_iff_not, Bool.not_eq_true', Bool.not_eq_false', Bool.not_not, ne_eq, Decidable.not_not, Int.not_lt, Int.not_le, beq_iff_eq, bne_iff_ne, Bool.and_eq_true, Bool.or_eq_true, Bool.or_eq_false_iff, Bool.not_false, Bool.not_true, reduceCtorEq, not_true_eq_false, not_false_eq_true] at hg_7_19'
              refine AK.val _ (Yl.move rfl) ⟨_, rfl, congrArg (fun b => some (Value.bool b)) hg_7_19⟩ rfl ?_
              refine AK.val _ (Yl.gtr rfl rfl) ⟨_, rfl, congrArg (fun b => some (Value.bool b)) hg_7_19⟩ rfl ?_
              refine AK.val _ (Yl.pickF rfl (hg_7_19) rfl) trivial rfl ?_
              refine AK.nil ?_
              refine AK.then_ (hK10 _ ?_)
              refine AK.condD rfl (fun hc2 => ?_) (fun hc2 => ?_)
              · refine AK.seq (fun _ hK15 => ?_)
                refine AK.region ?_
                refine AK.call co17 rfl (fun w hw => s_awake w) trivial rfl ?_
                rintro r o ⟨rfl, rfl⟩
                refine AK.val _ (Yl.assign rfl) trivial rfl ?_
                refine AK.nil ?_
                refine AK.then_ (hK15 _ ?_)
                refine AK.ret ?_
                refine AK.then_ret ?_
                refine AK.ret1 rfl rfl (fun w hw => ⟨_, _, ?_, rfl, Ret.of (hw.pick [] (by decide) rfl rfl)⟩)
                exact ⟨rfl, rfl⟩
              · have hgs : (((a.fin.length : Int) ≤ 12 ∧ VD a) ∧ ((b.fin.length : Int) ≤ 12 ∧ VD b)) ∧ a.L = b.L ∧ 0 ≤ op ∧ op ≤ 15 := by first | (simp_all; done) | (simp_all; omega)
                obtain ⟨⟨⟨ha12, hva2⟩, hb12, hvb⟩, hLL, hop⟩ := hgs
                have hsz : a.fin.length * b.fin.length ≤ 512 := Nat.le_trans (Nat.mul_le_mul (show a.fin.length ≤ 12 by omega) (show b.fin.length ≤ 12 by omega)) (by decide)
                have hpe : prodE a b op = 0 := prodE_mk hva hvb hLL hop
                have hpv : ProdV a b op = prodD a b op := if_pos hpe
                have hpa : AccV (ProdV a b op) l = (validW a.L l && byB op (AccV a l) (AccV b l)) := (by rw [hpv]; exact acc_prod hva hvb hLL hsz l)
                refine AK.skip ?_
                refine AK.then_ (hK9 _ ?_)
                refine AK.seq (fun _ hK16 => ?_)
                refine AK.region ?_
                refine AK.val _ (Yl.loadBoxG ag25 rfl (by first | exact .own 0 rfl | exact .own 1 rfl | exact .own 2 rfl | exact .own 3 rfl | exact .own 4 rfl | exact .own 5 rfl | exact .own 6 rfl | exact .own 7 rfl | exact .own 8 rfl | exact .own 9 rfl | exact .own 10 rfl | exact .own 11 rfl | exact .own 12 rfl | assumption | exact BoxS.arg (by assumption)) rfl rfl) trivial rfl ?_
                refine AK.val _ (Yl.loadBoxG ag25 rfl (by first | exact .own 0 rfl | exact .own 1 rfl | exact .own 2 rfl | exact .own 3 rfl | exact .own 4 rfl | exact .own 5 rfl | exact .own 6 rfl | exact .own 7 rfl | exact .own 8 rfl | exact .own 9 rfl | exact .own 10 rfl | exact .own 11 rfl | exact .own 12 rfl | assumption | exact BoxS.arg (by assumption)) rfl rfl) trivial rfl ?_
                refine AK.val _ (Yl.move rfl) trivial rfl ?_
                refine AK.call co36 rfl (fun w hw => s_product w _ _ a b (hu0.at hw) (hv0.at hw) op (fun _ _ => hsz)) trivial rfl ?_
                rintro r o ⟨pF, pN, prs, rfl, hprs, s5, s6, rfl⟩
                refine AK.val _ (Yl.move rfl) trivial rfl ?_
                refine AK.val _ (Yl.extract rfl rfl) trivial rfl ?_
                refine AK.val _ (Yl.extract rfl rfl) trivial rfl ?_
                refine AK.alloc el25 rfl rfl trivial rfl (fun bx11 => ?_)
                refine AK.storeBox 9 (us := [.int .i64 (ProdV a b op).L, .int .i64 (ProdV a b op).s, pF, pN]) (cs' := [.int .i64 (ProdV a b op).L, .int .i64 (ProdV a b op).s, pF, pN]) rfl sz25 rfl rfl rfl rfl (by repeat (first | exact one'_nil | refine one'_cons (by first | rfl | exact IsSl.one (by assumption) | exact IsSl.one nilSl) ?_)) (Nat.le_of_ble_eq_true rfl) rfl trivial ?_
                refine AK.val _ (Yl.assign rfl) trivial rfl ?_
                refine AK.nil ?_
                refine AK.then_ (hK16 _ ?_)
                refine AK.seq (fun _ hK17 => ?_)
                try (conv => enter [2, 2]; dsimp only [List.set_cons_zero, List.set_cons_succ, List.cons_append, List.nil_append])
                refine AK.held 23 mixed ?_
                refine HeldK.first 0 (fuel := 22) (listed' := #[true, false, false, false, false, false, false, false, false, false, false, false, false, false, false, false, false, false, false, false, false, false, false]) _ rfl (by kernel_rfl) rfl rfl (Yl.move rfl) trivial rfl ?_
                refine HeldK.first 1 (fuel := 21) (listed' := #[true, true, false, false, false, false, false, false, false, false, false, false, false, false, false, false, false, false, false, false, false, false, false]) _ rfl (by kernel_rfl) rfl rfl (Yl.eql rfl rfl) trivial rfl ?_
                refine HeldK.first 2 (fuel := 20) (listed' := #[true, true, true, false, false, false, false, false, false, false, false, false, false, false, false, false, false, false, false, false, false, false, false]) _ rfl (by kernel_rfl) rfl rfl (Yl.move rfl) trivial rfl ?_
                refine AK.knownT (g := 79) rfl (decide_eq_true hpe) (fun hg_10_2 => ?_)
                refine HeldK.first 3 (fuel := 19) (listed' := #[true, true, true, true, false, false, false, false, false, false, false, false, false, false, false, false, false, false, false, false, false, false, false]) _ rfl (by kernel_rfl) rfl rfl (Yl.loadBoxG ag25 rfl (by first | exact .own 0 rfl | exact .own 1 rfl | exact .own 2 rfl | exact .own 3 rfl | exact .own 4 rfl | exact .own 5 rfl | exact .own 6 rfl | exact .own 7 rfl | exact .own 8 rfl | exact .own 9 rfl | exact .own 10 rfl | exact .own 11 rfl | exact .own 12 rfl | assumption | exact BoxS.arg (by assumption)) rfl rfl) ⟨_, rfl, congrArg (fun b => some (Value.bool b)) hg_10_2⟩ rfl ?_
                refine HeldK.first 4 (fuel := 18) (listed' := #[true, true, true, true, true, false, false, false, false, false, false, false, false, false, false, false, false, false, false, false, false, false, false]) _ rfl (by kernel_rfl) rfl rfl (Yl.move rfl) ⟨_, rfl, congrArg (fun b => some (Value.bool b)) hg_10_2⟩ rfl ?_
                refine HeldK.first 6 (fuel := 17) (listed' := #[true, true, true, true, true, false, true, false, false, false, false, false, false, false, false, false, false, false, false, false, false, false, false]) _ rfl (by kernel_rfl) rfl rfl (Yl.move rfl) ⟨_, rfl, congrArg (fun b => some (Value.bool b)) hg_10_2⟩ rfl ?_
                refine HeldK.one 5 (fuel := 16) (listed' := #[true, true, true, true, true, true, true, false, false, false, false, false, false, false, false, false, false, false, false, false, false, false, false]) (by kernel_rfl) rfl rfl ?_
                refine AK.call co25 rfl (fun w hw => s_acc w _ (ProdV a b op) (RdD.own 6 hw hprs rfl rfl rfl) l hm) ⟨_, rfl, congrArg (fun b => some (Value.bool b)) hg_10_2⟩ rfl ?_
                rintro r o ⟨rfl, rfl⟩
                refine AK.nil ?_
                try (conv => enter [2, 2]; dsimp only [List.set_cons_zero, List.set_cons_succ, List.cons_append, List.nil_append])
                refine HeldK.back (by repeat (first | exact HWle.nil | refine HWle.cons Ale.rfl ?_ | refine HWle.cons Ale.fst ?_)) ?_
                refine HeldK.first 7 (fuel := 15) (listed' := #[true, true, true, true, true, true, true, true, false, false, false, false, false, false, false, false, false, false, false, false, false, false, false]) _ rfl (by kernel_rfl) rfl rfl (Yl.move rfl) ⟨_, rfl, congrArg (fun b => some (Value.bool b)) hg_10_2⟩ rfl ?_
                refine AK.splitB (g := 84) rfl (fun hg_10_7 => ?_) (fun hg_10_7 => ?_)
                · have hg_10_7' := hg_10_7
                  try simp only [decide_eq_true_eq, decide_eq_false_iff_not, Bool.not_eq_true', Bool.not_eq_false', Bool.not_not, ne_eq, Decidable.not_not, Int.not_lt, Int.not_le, beq_iff_eq, bne_iff_ne, Bool.and_eq_true, Bool.or_eq_true, Bool.or_eq_false_iff, Bool.not_false, Bool.not_true, reduceCtorEq, not_true_eq_false, not_false_eq_true] at hg_10_7'
                  refine HeldK.first 8 (fuel := 14) (listed' := #[true, true, true, true, true, true, true, true, true, false, false, false, false, false, false, false, false, false, false, false, false, false, false]) _ rfl (by kernel_rfl) rfl rfl (Yl.move rfl) ⟨_, rfl, congrArg (fun b => some (Value.bool b)) hg_10_7⟩ rfl ?_
                  refine HeldK.first 9 (fuel := 13) (listed' := #[true, true, true, true, true, true, true, true, true, true, false, false, false, false, false, false, false, false, false, false, false, false, false]) _ rfl (by kernel_rfl) rfl rfl (Yl.loadBoxG ag25 rfl (by first | exact .own 0 rfl | exact .own 1 rfl | exact .own 2 rfl | exact .own 3 rfl | exact .own 4 rfl | exact .own 5 rfl | exact .own 6 rfl | exact .own 7 rfl | exact .own 8 rfl | exact .own 9 rfl | exact .own 10 rfl | exact .own 11 rfl | exact .own 12 rfl | assumption | exact BoxS.arg (by assumption)) rfl rfl) ⟨_, rfl, congrArg (fun b => some (Value.bool b)) hg_10_7⟩ rfl ?_
                  refine HeldK.first 10 (fuel := 12) (listed' := #[true, true, true, true, true, true, true, true, true, true, true, false, false, false, false, false, false, false, false, false, false, false, false]) _ rfl (by kernel_rfl) rfl rfl (Yl.move rfl) ⟨_, rfl, congrArg (fun b => some (Value.bool b)) hg_10_7⟩ rfl ?_
                  refine HeldK.first 12 (fuel := 11) (listed' := #[true, true, true, true, true, true, true, true, true, true, true, false, true, false, false, false, false, false, false, false, false, false, false]) _ rfl (by kernel_rfl) rfl rfl (Yl.loadBoxG ag25 rfl (by first | exact .own 0 rfl | exact .own 1 rfl | exact .own 2 rfl | exact .own 3 rfl | exact .own 4 rfl | exact .own 5 rfl | exact .own 6 rfl | exact .own 7 rfl | exact .own 8 rfl | exact .own 9 rfl | exact .own 10 rfl | exact .own 11 rfl | exact .own 12 rfl | assumption | exact BoxS.arg (by assumption)) rfl rfl) ⟨_, rfl, congrArg (fun b => some (Value.bool b)) hg_10_7⟩ rfl ?_
                  refine HeldK.first 13 (fuel := 10) (listed' := #[true, true, true, true, true, true, true, true, true, true, true, false, true, true, false, false, false, false, false, false, false, false, false]) _ rfl (by kernel_rfl) rfl rfl (Yl.move rfl) ⟨_, rfl, congrArg (fun b => some (Value.bool b)) hg_10_7⟩ rfl ?_
                  refine HeldK.one 11 (fuel := 9) (listed' := #[true, true, true, true, true, true, true, true, true, true, true, true, true, true, false, false, false, false, false, false, false, false, false]) (by kernel_rfl) rfl rfl ?_
                  refine AK.call co25 rfl (fun w hw => s_acc w _ a (hu0.at hw) l hm) ⟨_, rfl, congrArg (fun b => some (Value.bool b)) hg_10_7⟩ rfl ?_
                  rintro r o ⟨rfl, rfl⟩
                  refine AK.nil ?_
                  try (conv => enter [2, 2]; dsimp only [List.set_cons_zero, List.set_cons_succ, List.cons_append, List.nil_append])
                  refine HeldK.back (by repeat (first | exact HWle.nil | refine HWle.cons Ale.rfl ?_ | refine HWle.cons Ale.fst ?_)) ?_
                  refine HeldK.one 14 (fuel := 8) (listed' := #[true, true, true, true, true, true, true, true, true, true, true, true, true, true, true, false, false, false, false, false, false, false, false]) (by kernel_rfl) rfl rfl ?_
                  refine AK.call co25 rfl (fun w hw => s_acc w _ b (hv0.at hw) l hm) ⟨_, rfl, congrArg (fun b => some (Value.bool b)) hg_10_7⟩ rfl ?_
                  rintro r o ⟨rfl, rfl⟩
                  refine AK.nil ?_
                  try (conv => enter [2, 2]; dsimp only [List.set_cons_zero, List.set_cons_succ, List.cons_append, List.nil_append])
                  refine HeldK.back (by repeat (first | exact HWle.nil | refine HWle.cons Ale.rfl ?_ | refine HWle.cons Ale.fst ?_)) ?_
                  refine HeldK.one 15 (fuel := 7) (listed' := #[true, true, true, true, true, true, true, true, true, true, true, true, true, true, true, true, false, false, false, false, false, false, false]) (by kernel_rfl) rfl rfl ?_
                  refine AK.call co44 rfl (fun w hw => s_by w op _ _ hop) ⟨_, rfl, congrArg (fun b => some (Value.bool b)) hg_10_7⟩ rfl ?_
                  rintro r o ⟨rfl, rfl⟩
                  refine AK.nil ?_
                  try (conv => enter [2, 2]; dsimp only [List.set_cons_zero, List.set_cons_succ, List.cons_append, List.nil_append])
                  refine HeldK.back (by repeat (first | exact HWle.nil | refine HWle.cons Ale.rfl ?_ | refine HWle.cons Ale.fst ?_)) ?_
                  refine HeldK.first 16 (fuel := 6) (listed' := #[true, true, true, true, true, true, true, true, true, true, true, true, true, true, true, true, true, false, false, false, false, false, false]) _ rfl (by kernel_rfl) rfl rfl (Yl.pickT rfl (hg_10_7) rfl) ⟨_, rfl, congrArg (fun b => some (Value.bool b)) hg_10_2⟩ rfl ?_
                  refine HeldK.first 17 (fuel := 5) (listed' := #[true, true, true, true, true, true, true, true, true, true, true, true, true, true, true, true, true, true, false, false, false, false, false]) _ rfl (by kernel_rfl) rfl rfl (Yl.eqlB bo4 rfl rfl) ⟨_, rfl, congrArg (fun b => some (Value.bool b)) hg_10_2⟩ rfl ?_
                  refine HeldK.first 18 (fuel := 4) (listed' := #[true, true, true, true, true, true, true, true, true, true, true, true, true, true, true, true, true, true, true, false, false, false, false]) _ rfl (by kernel_rfl) rfl rfl (Yl.pickT rfl (hg_10_2) rfl) trivial rfl ?_
                  refine HeldK.first 19 (fuel := 3) (listed' := #[true, true, true, true, true, true, true, true, true, true, true, true, true, true, true, true, true, true, true, true, false, false, false]) _ rfl (by kernel_rfl) rfl rfl (Yl.move rfl) trivial rfl ?_
                  refine HeldK.one 20 (fuel := 2) (listed' := #[true, true, true, true, true, true, true, true, true, true, true, true, true, true, true, true, true, true, true, true, true, false, false]) (by kernel_rfl) rfl rfl ?_
                  refine AK.knownT (g := 96) rfl (by first | (rw [hpa, hg_10_7]; simp; done) | (rw [hpa]; simp_all; done)) (fun hg_10_19 => ?_)
                  refine AK.call co17 rfl (fun w hw => s_awake w) ⟨_, rfl, congrArg (fun b => some (Value.bool b)) hg_10_19⟩ rfl ?_
                  rintro r o ⟨rfl, rfl⟩
                  refine AK.nil ?_
                  try (conv => enter [2, 2]; dsimp only [List.set_cons_zero, List.set_cons_succ, List.cons_append, List.nil_append])
                  refine HeldK.back (by repeat (first | exact HWle.nil | refine HWle.cons Ale.rfl ?_ | refine HWle.cons Ale.fst ?_)) ?_
                  refine HeldK.first 21 (fuel := 1) (listed' := #[true, true, true, true, true, true, true, true, true, true, true, true, true, true, true, true, true, true, true, true, true, true, false]) _ rfl (by kernel_rfl) rfl rfl (Yl.pickT rfl (hg_10_19) rfl) trivial rfl ?_
                  refine HeldK.first 22 (fuel := 0) (listed' := #[true, true, true, true, true, true, true, true, true, true, true, true, true, true, true, true, true, true, true, true, true, true, true]) _ rfl (by kernel_rfl) rfl rfl (Yl.assign rfl) trivial rfl ?_
                  refine HeldK.done (by kernel_rfl) ?_
                  refine AK.then_ (hK17 _ ?_)
                  refine AK.ret ?_
                  refine AK.ret1 rfl rfl (fun w hw => ⟨_, _, ?_, rfl, Ret.of (hw.pick [] (by decide) rfl rfl)⟩)
                  exact ⟨rfl, rfl⟩
                · have hg_10_7' := hg_10_7
                  try simp only [decide_eq_true_eq, decide_eq_false_iff_not, Bool.not_eq_true', Bool.not_eq_false', Bool.not_not, ne_eq, Decidable.not_not, Int.not_lt, Int.not_le, beq_iff_eq, bne_iff_ne, Bool.and_eq_true, Bool.or_eq_true, Bool.or_eq_false_iff, Bool.not_false, Bool.not_true, reduceCtorEq, not_true_eq_false, not_false_eq_true] at hg_10_7'
                  refine HeldK.pass 8 (fuel := 14) (listed' := #[true, true, true, true, true, true, true, true, true, false, false, false, false, false, false, false, false, false, false, false, false, false, false]) rfl (by kernel_rfl) rfl rfl rfl (hg_10_7) rfl ?_
                  refine HeldK.pass 9 (fuel := 13) (listed' := #[true, true, true, true, true, true, true, true, true, true, false, false, false, false, false, false, false, false, false, false, false, false, false]) rfl (by kernel_rfl) rfl rfl rfl (hg_10_7) rfl ?_
                  refine HeldK.pass 10 (fuel := 12) (listed' := #[true, true, true, true, true, true, true, true, true, true, true, false, false, false, false, false, false, false, false, false, false, false, false]) rfl (by kernel_rfl) rfl rfl rfl (hg_10_7) rfl ?_
                  refine HeldK.pass 12 (fuel := 11) (listed' := #[true, true, true, true, true, true, true, true, true, true, true, false, true, false, false, false, false, false, false, false, false, false, false]) rfl (by kernel_rfl) rfl rfl rfl (hg_10_7) rfl ?_
                  refine HeldK.pass 13 (fuel := 10) (listed' := #[true, true, true, true, true, true, true, true, true, true, true, false, true, true, false, false, false, false, false, false, false, false, false]) rfl (by kernel_rfl) rfl rfl rfl (hg_10_7) rfl ?_
                  refine HeldK.one 11 (fuel := 9) (listed' := #[true, true, true, true, true, true, true, true, true, true, true, true, true, true, false, false, false, false, false, false, false, false, false]) (by kernel_rfl) rfl rfl ?_
                  refine AK.pass rfl rfl (hg_10_7) rfl ?_
                  refine AK.nil ?_
                  try (conv => enter [2, 2]; dsimp only [List.set_cons_zero, List.set_cons_succ, List.cons_append, List.nil_append])
                  refine HeldK.back (by repeat (first | exact HWle.nil | refine HWle.cons Ale.rfl ?_ | refine HWle.cons Ale.fst ?_)) ?_
                  refine HeldK.one 14 (fuel := 8) (listed' := #[true, true, true, true, true, true, true, true, true, true, true, true, true, true, true, false, false, false, false, false, false, false, false]) (by kernel_rfl) rfl rfl ?_
                  refine AK.pass rfl rfl (hg_10_7) rfl ?_
                  refine AK.nil ?_
                  try (conv => enter [2, 2]; dsimp only [List.set_cons_zero, List.set_cons_succ, List.cons_append, List.nil_append])
                  refine HeldK.back (by repeat (first | exact HWle.nil | refine HWle.cons Ale.rfl ?_ | refine HWle.cons Ale.fst ?_)) ?_
                  refine HeldK.one 15 (fuel := 7) (listed' := #[true, true, true, true, true, true, true, true, true, true, true, true, true, true, true, true, false, false, false, false, false, false, false]) (by kernel_rfl) rfl rfl ?_
                  refine AK.pass rfl rfl (hg_10_7) rfl ?_
                  refine AK.nil ?_
                  try (conv => enter [2, 2]; dsimp only [List.set_cons_zero, List.set_cons_succ, List.cons_append, List.nil_append])
                  refine HeldK.back (by repeat (first | exact HWle.nil | refine HWle.cons Ale.rfl ?_ | refine HWle.cons Ale.fst ?_)) ?_
                  refine HeldK.first 16 (fuel := 6) (listed' := #[true, true, true, true, true, true, true, true, true, true, true, true, true, true, true, true, true, false, false, false, false, false, false]) _ rfl (by kernel_rfl) rfl rfl (Yl.pickF rfl (hg_10_7) rfl) ⟨_, rfl, congrArg (fun b => some (Value.bool b)) hg_10_2⟩ rfl ?_
                  refine HeldK.first 17 (fuel := 5) (listed' := #[true, true, true, true, true, true, true, true, true, true, true, true, true, true, true, true, true, true, false, false, false, false, false]) _ rfl (by kernel_rfl) rfl rfl (Yl.eqlB bo4 rfl rfl) ⟨_, rfl, congrArg (fun b => some (Value.bool b)) hg_10_2⟩ rfl ?_
                  refine HeldK.first 18 (fuel := 4) (listed' := #[true, true, true, true, true, true, true, true, true, true, true, true, true, true, true, true, true, true, true, false, false, false, false]) _ rfl (by kernel_rfl) rfl rfl (Yl.pickT rfl (hg_10_2) rfl) trivial rfl ?_
                  refine HeldK.first 19 (fuel := 3) (listed' := #[true, true, true, true, true, true, true, true, true, true, true, true, true, true, true, true, true, true, true, true, false, false, false]) _ rfl (by kernel_rfl) rfl rfl (Yl.move rfl) trivial rfl ?_
                  refine HeldK.one 20 (fuel := 2) (listed' := #[true, true, true, true, true, true, true, true, true, true, true, true, true, true, true, true, true, true, true, true, true, false, false]) (by kernel_rfl) rfl rfl ?_
                  refine AK.knownT (g := 96) rfl (by first | (rw [hpa, hg_10_7]; simp; done) | (rw [hpa]; simp_all; done)) (fun hg_10_19 => ?_)
                  refine AK.call co17 rfl (fun w hw => s_awake w) ⟨_, rfl, congrArg (fun b => some (Value.bool b)) hg_10_19⟩ rfl ?_
                  rintro r o ⟨rfl, rfl⟩
                  refine AK.nil ?_
                  try (conv => enter [2, 2]; dsimp only [List.set_cons_zero, List.set_cons_succ, List.cons_append, List.nil_append])
                  refine HeldK.back (by repeat (first | exact HWle.nil | refine HWle.cons Ale.rfl ?_ | refine HWle.cons Ale.fst ?_)) ?_
                  refine HeldK.first 21 (fuel := 1) (listed' := #[true, true, true, true, true, true, true, true, true, true, true, true, true, true, true, true, true, true, true, true, true, true, false]) _ rfl (by kernel_rfl) rfl rfl (Yl.pickT rfl (hg_10_19) rfl) trivial rfl ?_
                  refine HeldK.first 22 (fuel := 0) (listed' := #[true, true, true, true, true, true, true, true, true, true, true, true, true, true, true, true, true, true, true, true, true, true, true]) _ rfl (by kernel_rfl) rfl rfl (Yl.assign rfl) trivial rfl ?_
                  refine HeldK.done (by kernel_rfl) ?_
                  refine AK.then_ (hK17 _ ?_)
                  refine AK.ret ?_
                  refine AK.ret1 rfl rfl (fun w hw => ⟨_, _, ?_, rfl, Ret.of (hw.pick [] (by decide) rfl rfl)⟩)
                  exact ⟨rfl, rfl⟩

end Go.Proofs.Ytmfakjfkjoichaa
