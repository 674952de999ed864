import Derived.Test.YtmfakjfkjoichaaD13
import Derived.Test.YtmfakjfkjoichaaDj
set_option linter.unusedVariables false
set_option linter.unusedSimpArgs false
namespace Go.Proofs.Ytmfakjfkjoichaa
open Go.Sx Go.RowKit
set_option maxHeartbeats 600000 in
set_option maxRecDepth 100000 in
theorem l_products (w : World) (u v : Value) (a b : Dfa) (hu : RdD (fun _ => False) w u a) (hv : RdD (fun _ => False) w v b) (op : Int) : CallS Try.prog 10 [u, v, .int .i64 op] w (fun r o => r = .bool true ∧ o = []) := by
  have hu0 := hu
  have hv0 := hv
  obtain ⟨aF, aN, rfl, haF, haN⟩ := hu
  obtain ⟨bF, bN, rfl, hbF, hbN⟩ := hv
  unfold RdL at haF hbF
  have m1 := haF.le
  have m2 := hbF.le
  have saF := haF.sl
  have sbF := hbF.sl
  obtain ⟨ra, hra, haNr, haNi⟩ := haN
  obtain ⟨rb, hrb, hbNr, hbNi⟩ := hbN
  have saN := haNr.sl
  have sbN := hbNr.sl
  refine spec_of Try.func10 rfl (Nat.le_of_ble_eq_true rfl) ?_
  refine AK.seq (fun _ hK1 => ?_)
  refine AK.region ?_
  refine AK.box_ (E := 25) (cs := [.int .i64 a.L, .int .i64 a.s, aF, aN]) rfl rfl rfl trivial rfl (fun bx3 => ?_)
  refine AK.box_ (E := 25) (cs := [.int .i64 b.L, .int .i64 b.s, bF, bN]) rfl rfl rfl trivial rfl (fun bx4 => ?_)
  refine AK.val _ (Yl.assign rfl) trivial rfl ?_
  refine AK.nil ?_
  refine AK.then_ (hK1 _ ?_)
  refine AK.seq (fun _ hK2 => ?_)
  refine AK.seq (fun _ hK3 => ?_)
  refine AK.region ?_
  refine AK.val _ (Yl.loadBoxG ag25 rfl (by first | exact .own 0 rfl | exact .own 1 rfl | exact .own 2 rfl | exact .own 3 rfl | exact .own 4 rfl | exact .own 5 rfl | exact .own 6 rfl | exact .own 7 rfl | exact .own 8 rfl | exact .own 9 rfl | exact .own 10 rfl | exact .own 11 rfl | exact .own 12 rfl | assumption | exact BoxS.arg (by assumption)) rfl rfl) trivial rfl ?_
  refine AK.call co18 rfl (fun w hw => s_lvalid w _ a (hu0.at hw)) trivial rfl ?_
  rintro r o ⟨rfl, rfl⟩
  refine AK.val _ (Yl.move rfl) trivial rfl ?_
  refine AK.splitB (g := 13) rfl (fun hg_1_2 => ?_) (fun hg_1_2 => ?_)
  · have hg_1_2' := hg_1_2
    try simp only [decide_eq_true_eq, decide_eq_false_iff_not, Bool.not_eq_true', Bool.not_eq_false', Bool.not_not, ne_eq, Decidable.not_not, Int.not_lt, Int.not_le, beq_iff_eq, bne_iff_ne, Bool.and_eq_true, Bool.or_eq_true, Bool.or_eq_false_iff, Bool.not_false, Bool.not_true, reduceCtorEq, not_true_eq_false, not_false_eq_true] at hg_1_2'
    refine AK.val _ (Yl.loadBoxG ag25 rfl (by first | exact .own 0 rfl | exact .own 1 rfl | exact .own 2 rfl | exact .own 3 rfl | exact .own 4 rfl | exact .own 5 rfl | exact .own 6 rfl | exact .own 7 rfl | exact .own 8 rfl | exact .own 9 rfl | exact .own 10 rfl | exact .own 11 rfl | exact .own 12 rfl | assumption | exact BoxS.arg (by assumption)) rfl rfl) ⟨_, rfl, congrArg (fun b => some (Value.bool b)) hg_1_2⟩ rfl ?_
    refine AK.call co18 rfl (fun w hw => s_lvalid w _ b (hv0.at hw)) ⟨_, rfl, congrArg (fun b => some (Value.bool b)) hg_1_2⟩ rfl ?_
    rintro r o ⟨rfl, rfl⟩
    refine AK.val _ (Yl.pickT rfl (hg_1_2) rfl) trivial rfl ?_
    refine AK.val _ (Yl.move rfl) trivial rfl ?_
    refine AK.splitB (g := 17) rfl (fun hg_1_6 => ?_) (fun hg_1_6 => ?_)
    · have hg_1_6' := hg_1_6
      try simp only [decide_eq_true_eq, decide_eq_false_iff_not, Bool.not_eq_true', Bool.not_eq_false', Bool.not_not, ne_eq, Decidable.not_not, Int.not_lt, Int.not_le, beq_iff_eq, bne_iff_ne, Bool.and_eq_true, Bool.or_eq_true, Bool.or_eq_false_iff, Bool.not_false, Bool.not_true, reduceCtorEq, not_true_eq_false, not_false_eq_true] at hg_1_6'
      refine AK.val _ (Yl.fieldAddr fd25_2 rfl) ⟨_, rfl, congrArg (fun b => some (Value.bool b)) hg_1_6⟩ rfl ?_
      refine AK.val _ (Yl.loadBox on22 rfl (by first | exact .own 0 rfl | exact .own 1 rfl | exact .own 2 rfl | exact .own 3 rfl | exact .own 4 rfl | exact .own 5 rfl | exact .own 6 rfl | exact .own 7 rfl | exact .own 8 rfl | exact .own 9 rfl | exact .own 10 rfl | exact .own 11 rfl | exact .own 12 rfl | assumption | exact BoxS.arg (by assumption)) rfl) ⟨_, rfl, congrArg (fun b => some (Value.bool b)) hg_1_6⟩ rfl ?_
      refine AK.val _ (Yl.lenR sl22 rfl (by first | exact .arg ‹_› | exact .own 0 rfl | exact .own 1 rfl | exact .own 2 rfl | exact .own 3 rfl | exact .own 4 rfl | exact .own 5 rfl | exact .own 6 rfl | exact .own 7 rfl | exact .own 8 rfl | assumption | exact .own 9 rfl | exact .own 10 rfl | exact .own 11 rfl | exact .own 12 rfl)) ⟨_, rfl, congrArg (fun b => some (Value.bool b)) hg_1_6⟩ rfl ?_
      refine AK.val _ (Yl.gtr rfl rfl) ⟨_, rfl, congrArg (fun b => some (Value.bool b)) hg_1_6⟩ rfl ?_
      refine AK.val _ (Yl.move rfl) ⟨_, rfl, congrArg (fun b => some (Value.bool b)) hg_1_6⟩ rfl ?_
      refine AK.splitB (g := 22) rfl (fun hg_1_11 => ?_) (fun hg_1_11 => ?_)
      · have hg_1_11' := hg_1_11
        try simp only [decide_eq_true_eq, decide_eq_false_iff_not, Bool.not_eq_true', Bool.not_eq_false', Bool.not_not, ne_eq, Decidable.not_not, Int.not_lt, Int.not_le, beq_iff_eq, bne_iff_ne, Bool.and_eq_true, Bool.or_eq_true, Bool.or_eq_false_iff, Bool.not_false, Bool.not_true, reduceCtorEq, not_true_eq_false, not_false_eq_true] at hg_1_11'
        refine AK.pass rfl rfl (hg_1_11) rfl ?_
        refine AK.pass rfl rfl (hg_1_11) rfl ?_
        refine AK.pass rfl rfl (hg_1_11) rfl ?_
        refine AK.pass rfl rfl (hg_1_11) rfl ?_
        refine AK.val _ (Yl.pickT rfl (hg_1_11) rfl) ⟨_, rfl, congrArg (fun b => some (Value.bool b)) hg_1_6⟩ rfl ?_
        refine AK.val _ (Yl.pickT rfl (hg_1_6) rfl) trivial rfl ?_
        refine AK.nil ?_
        refine AK.then_ (hK3 _ ?_)
        refine AK.cond_t rfl (rfl) ?_
        refine AK.seq (fun _ hK4 => ?_)
        refine AK.region ?_
        refine AK.call co17 rfl (fun w hw => s_awake w) trivial rfl ?_
        rintro r o ⟨rfl, rfl⟩
        refine AK.val _ (Yl.assign rfl) trivial rfl ?_
        refine AK.nil ?_
        refine AK.then_ (hK4 _ ?_)
        refine AK.ret ?_
        refine AK.then_ret ?_
        refine AK.ret1 rfl rfl (fun w hw => ⟨_, _, ?_, rfl, Ret.of (hw.pick [] (by decide) rfl rfl)⟩)
        exact ⟨rfl, rfl⟩
      · have hg_1_11' := hg_1_11
        try simp only [decide_eq_true_eq, decide_eq_false_iff_not, Bool.not_eq_true', Bool.not_eq_false', Bool.not_not, ne_eq, Decidable.not_not, Int.not_lt, Int.not_le, beq_iff_eq, bne_iff_ne, Bool.and_eq_true, Bool.or_eq_true, Bool.or_eq_false_iff, Bool.not_false, Bool.not_true, reduceCtorEq, not_true_eq_false, not_false_eq_true] at hg_1_11'
        refine AK.val _ (Yl.fieldAddr fd25_2 rfl) ⟨_, rfl, congrArg (fun b => some (Value.bool b)) hg_1_11⟩ rfl ?_
        refine AK.val _ (Yl.loadBox on22 rfl (by first | exact .own 0 rfl | exact .own 1 rfl | exact .own 2 rfl | exact .own 3 rfl | exact .own 4 rfl | exact .own 5 rfl | exact .own 6 rfl | exact .own 7 rfl | exact .own 8 rfl | exact .own 9 rfl | exact .own 10 rfl | exact .own 11 rfl | exact .own 12 rfl | assumption | exact BoxS.arg (by assumption)) rfl) ⟨_, rfl, congrArg (fun b => some (Value.bool b)) hg_1_11⟩ rfl ?_
        refine AK.val _ (Yl.lenR sl22 rfl (by first | exact .arg ‹_› | exact .own 0 rfl | exact .own 1 rfl | exact .own 2 rfl | exact .own 3 rfl | exact .own 4 rfl | exact .own 5 rfl | exact .own 6 rfl | exact .own 7 rfl | exact .own 8 rfl | assumption | exact .own 9 rfl | exact .own 10 rfl | exact .own 11 rfl | exact .own 12 rfl)) ⟨_, rfl, congrArg (fun b => some (Value.bool b)) hg_1_11⟩ rfl ?_
        refine AK.val _ (Yl.gtr rfl rfl) ⟨_, rfl, congrArg (fun b => some (Value.bool b)) hg_1_11⟩ rfl ?_
        refine AK.val _ (Yl.pickF rfl (hg_1_11) rfl) ⟨_, rfl, congrArg (fun b => some (Value.bool b)) hg_1_6⟩ rfl ?_
        refine AK.val _ (Yl.pickT rfl (hg_1_6) rfl) trivial rfl ?_
        refine AK.nil ?_
        refine AK.then_ (hK3 _ ?_)
        refine AK.condD rfl (fun hc0 => ?_) (fun hc0 => ?_)
        · refine AK.seq (fun _ hK5 => ?_)
          refine AK.region ?_
          refine AK.call co17 rfl (fun w hw => s_awake w) trivial rfl ?_
          rintro r o ⟨rfl, rfl⟩
          refine AK.val _ (Yl.assign rfl) trivial rfl ?_
          refine AK.nil ?_
          refine AK.then_ (hK5 _ ?_)
          refine AK.ret ?_
          refine AK.then_ret ?_
          refine AK.ret1 rfl rfl (fun w hw => ⟨_, _, ?_, rfl, Ret.of (hw.pick [] (by decide) rfl rfl)⟩)
          exact ⟨rfl, rfl⟩
        · have hsz : VD a → VD b → a.fin.length * b.fin.length ≤ 512 := by
            intro ha hb
            have h12 : a.fin.length ≤ 12 ∧ b.fin.length ≤ 12 := by first | (constructor <;> omega) | (simp_all; done) | (simp_all; omega)
            exact Nat.le_trans (Nat.mul_le_mul h12.1 h12.2) (by decide)
          refine AK.skip ?_
          refine AK.then_ (hK2 _ ?_)
          refine AK.seq (fun _ hK6 => ?_)
          refine AK.region ?_
          refine AK.val _ (Yl.loadBoxG ag25 rfl (by first | exact .own 0 rfl | exact .own 1 rfl | exact .own 2 rfl | exact .own 3 rfl | exact .own 4 rfl | exact .own 5 rfl | exact .own 6 rfl | exact .own 7 rfl | exact .own 8 rfl | exact .own 9 rfl | exact .own 10 rfl | exact .own 11 rfl | exact .own 12 rfl | assumption | exact BoxS.arg (by assumption)) rfl rfl) trivial rfl ?_
          refine AK.val _ (Yl.loadBoxG ag25 rfl (by first | exact .own 0 rfl | exact .own 1 rfl | exact .own 2 rfl | exact .own 3 rfl | exact .own 4 rfl | exact .own 5 rfl | exact .own 6 rfl | exact .own 7 rfl | exact .own 8 rfl | exact .own 9 rfl | exact .own 10 rfl | exact .own 11 rfl | exact .own 12 rfl | assumption | exact BoxS.arg (by assumption)) rfl rfl) trivial rfl ?_
          refine AK.val _ (Yl.move rfl) trivial rfl ?_
          refine AK.call co36 rfl (fun w hw => s_product w _ _ a b (hu0.at hw) (hv0.at hw) op hsz) trivial rfl ?_
          rintro r o ⟨pF, pN, prs, rfl, hprs, s1, s2, rfl⟩
          refine AK.val _ (Yl.move rfl) trivial rfl ?_
          refine AK.val _ (Yl.extract rfl rfl) trivial rfl ?_
          refine AK.val _ (Yl.extract rfl rfl) trivial rfl ?_
          refine AK.alloc el25 rfl rfl trivial rfl (fun bx7 => ?_)
          refine AK.storeBox 5 (us := [.int .i64 (ProdV a b op).L, .int .i64 (ProdV a b op).s, pF, pN]) (cs' := [.int .i64 (ProdV a b op).L, .int .i64 (ProdV a b op).s, pF, pN]) rfl sz25 rfl rfl rfl rfl (by repeat (first | exact one'_nil | refine one'_cons (by first | rfl | exact IsSl.one (by assumption) | exact IsSl.one nilSl) ?_)) (Nat.le_of_ble_eq_true rfl) rfl trivial ?_
          refine AK.val _ (Yl.assign rfl) trivial rfl ?_
          refine AK.nil ?_
          refine AK.then_ (hK6 _ ?_)
          refine AK.seq (fun _ hK7 => ?_)
          refine AK.region ?_
          refine AK.val _ (Yl.loadBoxG ag25 rfl (by first | exact .own 0 rfl | exact .own 1 rfl | exact .own 2 rfl | exact .own 3 rfl | exact .own 4 rfl | exact .own 5 rfl | exact .own 6 rfl | exact .own 7 rfl | exact .own 8 rfl | exact .own 9 rfl | exact .own 10 rfl | exact .own 11 rfl | exact .own 12 rfl | assumption | exact BoxS.arg (by assumption)) rfl rfl) trivial rfl ?_
          refine AK.val _ (Yl.loadBoxG ag25 rfl (by first | exact .own 0 rfl | exact .own 1 rfl | exact .own 2 rfl | exact .own 3 rfl | exact .own 4 rfl | exact .own 5 rfl | exact .own 6 rfl | exact .own 7 rfl | exact .own 8 rfl | exact .own 9 rfl | exact .own 10 rfl | exact .own 11 rfl | exact .own 12 rfl | assumption | exact BoxS.arg (by assumption)) rfl rfl) trivial rfl ?_
          refine AK.val _ (Yl.move rfl) trivial rfl ?_
          refine AK.call co37 rfl (fun w hw => s_refproduct w _ _ a b (hu0.at hw) (hv0.at hw) op hsz) trivial rfl ?_
          rintro r o ⟨qF, qN, qrs, rfl, hqrs, s3, s4, rfl⟩
          refine AK.val _ (Yl.move rfl) trivial rfl ?_
          refine AK.val _ (Yl.extract rfl rfl) trivial rfl ?_
          refine AK.val _ (Yl.extract rfl rfl) trivial rfl ?_
          refine AK.alloc el25 rfl rfl trivial rfl (fun bx9 => ?_)
          refine AK.storeBox 9 (us := [.int .i64 (ProdV a b op).L, .int .i64 (ProdV a b op).s, qF, qN]) (cs' := [.int .i64 (ProdV a b op).L, .int .i64 (ProdV a b op).s, qF, qN]) rfl sz25 rfl rfl rfl rfl (by repeat (first | exact one'_nil | refine one'_cons (by first | rfl | exact IsSl.one (by assumption) | exact IsSl.one nilSl) ?_)) (Nat.le_of_ble_eq_true rfl) rfl trivial ?_
          refine AK.val _ (Yl.assign rfl) trivial rfl ?_
          refine AK.nil ?_
          refine AK.then_ (hK7 _ ?_)
          refine AK.seq (fun _ hK8 => ?_)
          refine AK.region ?_
          refine AK.val _ (Yl.move rfl) trivial rfl ?_
          refine AK.val _ (Yl.move rfl) trivial rfl ?_
          refine AK.val _ (Yl.eql rfl rfl) trivial rfl ?_
          refine AK.val _ (Yl.move rfl) trivial rfl ?_
          refine AK.knownT (g := 47) rfl (decide_eq_true rfl) (fun hg_5_3 => ?_)
          refine AK.val _ (Yl.loadBoxG ag25 rfl (by first | exact .own 0 rfl | exact .own 1 rfl | exact .own 2 rfl | exact .own 3 rfl | exact .own 4 rfl | exact .own 5 rfl | exact .own 6 rfl | exact .own 7 rfl | exact .own 8 rfl | exact .own 9 rfl | exact .own 10 rfl | exact .own 11 rfl | exact .own 12 rfl | assumption | exact BoxS.arg (by assumption)) rfl rfl) ⟨_, rfl, congrArg (fun b => some (Value.bool b)) hg_5_3⟩ rfl ?_
          refine AK.val _ (Yl.loadBoxG ag25 rfl (by first | exact .own 0 rfl | exact .own 1 rfl | exact .own 2 rfl | exact .own 3 rfl | exact .own 4 rfl | exact .own 5 rfl | exact .own 6 rfl | exact .own 7 rfl | exact .own 8 rfl | exact .own 9 rfl | exact .own 10 rfl | exact .own 11 rfl | exact .own 12 rfl | assumption | exact BoxS.arg (by assumption)) rfl rfl) ⟨_, rfl, congrArg (fun b => some (Value.bool b)) hg_5_3⟩ rfl ?_
          refine AK.call co31 rfl (fun w hw => s_sameD w _ _ (ProdV a b op) (ProdV a b op) (RdD.own 2 hw hprs rfl rfl rfl) (RdD.own 6 hw hqrs rfl rfl rfl)) ⟨_, rfl, congrArg (fun b => some (Value.bool b)) hg_5_3⟩ rfl ?_
          rintro r o ⟨rfl, rfl⟩
          refine AK.val _ (Yl.pickT rfl (hg_5_3) rfl) trivial rfl ?_
          refine AK.val _ (Yl.move rfl) trivial rfl ?_
          refine AK.knownT (g := 52) rfl (decide_eq_true rfl) (fun hg_5_8 => ?_)
          refine AK.call co17 rfl (fun w hw => s_awake w) ⟨_, rfl, congrArg (fun b => some (Value.bool b)) hg_5_8⟩ rfl ?_
          rintro r o ⟨rfl, rfl⟩
          refine AK.val _ (Yl.pickT rfl (hg_5_8) rfl) trivial rfl ?_
          refine AK.val _ (Yl.assign rfl) trivial rfl ?_
          refine AK.nil ?_
          refine AK.then_ (hK8 _ ?_)
          refine AK.ret ?_
          refine AK.ret1 rfl rfl (fun w hw => ⟨_, _, ?_, rfl, Ret.of (hw.pick [] (by decide) rfl rfl)⟩)
          exact ⟨rfl, rfl⟩
    · have hg_1_6' := hg_1_6
      try simp only [decide_eq_true_eq, decide_eq_false_iff_not, Bool.not_eq_true', Bool.not_eq_false', Bool.not_not, ne_eq, Decidable.not_not, Int.not_lt, Int.not_le, beq_iff_eq, bne_iff_ne, Bool.and_eq_true, Bool.or_eq_true, Bool.or_eq_false_iff, Bool.not_false, Bool.not_true, reduceCtorEq, not_true_eq_false, not_false_eq_true] at hg_1_6'
      refine AK.pass rfl rfl (hg_1_6) rfl ?_
      refine AK.pass rfl rfl (hg_1_6) rfl ?_
      refine AK.pass rfl rfl (hg_1_6) rfl ?_
      refine AK.pass rfl rfl (hg_1_6) rfl ?_
      refine AK.pass rfl rfl (hg_1_6) rfl ?_
      refine AK.pass rfl rfl trivial rfl ?_
      refine AK.pass rfl rfl trivial rfl ?_
      refine AK.pass rfl rfl trivial rfl ?_
      refine AK.pass rfl rfl trivial rfl ?_
      refine AK.pass rfl rfl (hg_1_6) rfl ?_
      refine AK.val _ (Yl.pickF rfl (hg_1_6) rfl) trivial rfl ?_
      refine AK.nil ?_
      refine AK.then_ (hK3 _ ?_)
      refine AK.cond_f rfl (rfl) ?_
      have hsz : VD a → VD b → a.fin.length * b.fin.length ≤ 512 := by
        intro ha hb
        have h12 : a.fin.length ≤ 12 ∧ b.fin.length ≤ 12 := by first | (constructor <;> omega) | (simp_all; done) | (simp_all; omega)
        exact Nat.le_trans (Nat.mul_le_mul h12.1 h12.2) (by decide)
      refine AK.skip ?_
      refine AK.then_ (hK2 _ ?_)
      refine AK.seq (fun _ hK9 => ?_)
      refine AK.region ?_
      refine AK.val _ (Yl.loadBoxG ag25 rfl (by first | exact .own 0 rfl | exact .own 1 rfl | exact .own 2 rfl | exact .own 3 rfl | exact .own 4 rfl | exact .own 5 rfl | exact .own 6 rfl | exact .own 7 rfl | exact .own 8 rfl | exact .own 9 rfl | exact .own 10 rfl | exact .own 11 rfl | exact .own 12 rfl | assumption | exact BoxS.arg (by assumption)) rfl rfl) trivial rfl ?_
      refine AK.val _ (Yl.loadBoxG ag25 rfl (by first | exact .own 0 rfl | exact .own 1 rfl | exact .own 2 rfl | exact .own 3 rfl | exact .own 4 rfl | exact .own 5 rfl | exact .own 6 rfl | exact .own 7 rfl | exact .own 8 rfl | exact .own 9 rfl | exact .own 10 rfl | exact .own 11 rfl | exact .own 12 rfl | assumption | exact BoxS.arg (by assumption)) rfl rfl) trivial rfl ?_
      refine AK.val _ (Yl.move rfl) trivial rfl ?_
      refine AK.call co36 rfl (fun w hw => s_product w _ _ a b (hu0.at hw) (hv0.at hw) op hsz) trivial rfl ?_
      rintro r o ⟨pF, pN, prs, rfl, hprs, s1, s2, rfl⟩
      refine AK.val _ (Yl.move rfl) trivial rfl ?_
      refine AK.val _ (Yl.extract rfl rfl) trivial rfl ?_
      refine AK.val _ (Yl.extract rfl rfl) trivial rfl ?_
      refine AK.alloc el25 rfl rfl trivial rfl (fun bx7 => ?_)
      refine AK.storeBox 5 (us := [.int .i64 (ProdV a b op).L, .int .i64 (ProdV a b op).s, pF, pN]) (cs' := [.int .i64 (ProdV a b op).L, .int .i64 (ProdV a b op).s, pF, pN]) rfl sz25 rfl rfl rfl rfl (by repeat (first | exact one'_nil | refine one'_cons (by first | rfl | exact IsSl.one (by assumption) | exact IsSl.one nilSl) ?_)) (Nat.le_of_ble_eq_true rfl) rfl trivial ?_
      refine AK.val _ (Yl.assign rfl) trivial rfl ?_
      refine AK.nil ?_
      refine AK.then_ (hK9 _ ?_)
      refine AK.seq (fun _ hK10 => ?_)
      refine AK.region ?_
      refine AK.val _ (Yl.loadBoxG ag25 rfl (by first | exact .own 0 rfl | exact .own 1 rfl | exact .own 2 rfl | exact .own 3 rfl | exact .own 4 rfl | exact .own 5 rfl | exact .own 6 rfl | exact .own 7 rfl | exact .own 8 rfl | exact .own 9 rfl | exact .own 10 rfl | exact .own 11 rfl | exact .own 12 rfl | assumption | exact BoxS.arg (by assumption)) rfl rfl) trivial rfl ?_
      refine AK.val _ (Yl.loadBoxG ag25 rfl (by first | exact .own 0 rfl | exact .own 1 rfl | exact .own 2 rfl | exact .own 3 rfl | exact .own 4 rfl | exact .own 5 rfl | exact .own 6 rfl | exact .own 7 rfl | exact .own 8 rfl | exact .own 9 rfl | exact .own 10 rfl | exact .own 11 rfl | exact .own 12 rfl | assumption | exact BoxS.arg (by assumption)) rfl rfl) trivial rfl ?_
      refine AK.val _ (Yl.move rfl) trivial rfl ?_
      refine AK.call co37 rfl (fun w hw => s_refproduct w _ _ a b (hu0.at hw) (hv0.at hw) op hsz) trivial rfl ?_
      rintro r o ⟨qF, qN, qrs, rfl, hqrs, s3, s4, rfl⟩
      refine AK.val _ (Yl.move rfl) trivial rfl ?_
      refine AK.val _ (Yl.extract rfl rfl) trivial rfl ?_
      refine AK.val _ (Yl.extract rfl rfl) trivial rfl ?_
      refine AK.alloc el25 rfl rfl trivial rfl (fun bx9 => ?_)
      refine AK.storeBox 9 (us := [.int .i64 (ProdV a b op).L, .int .i64 (ProdV a b op).s, qF, qN]) (cs' := [.int .i64 (ProdV a b op).L, .int .i64 (ProdV a b op).s, qF, qN]) rfl sz25 rfl rfl rfl rfl (by repeat (first | exact one'_nil | refine one'_cons (by first | rfl | exact IsSl.one (by assumption) | exact IsSl.one nilSl) ?_)) (Nat.le_of_ble_eq_true rfl) rfl trivial ?_
      refine AK.val _ (Yl.assign rfl) trivial rfl ?_
      refine AK.nil ?_
      refine AK.then_ (hK10 _ ?_)
      refine AK.seq (fun _ hK11 => ?_)
      refine AK.region ?_
      refine AK.val _ (Yl.move rfl) trivial rfl ?_
      refine AK.val _ (Yl.move rfl) trivial rfl ?_
      refine AK.val _ (Yl.eql rfl rfl) trivial rfl ?_
      refine AK.val _ (Yl.move rfl) trivial rfl ?_
      refine AK.knownT (g := 47) rfl (decide_eq_true rfl) (fun hg_5_3 => ?_)
      refine AK.val _ (Yl.loadBoxG ag25 rfl (by first | exact .own 0 rfl | exact .own 1 rfl | exact .own 2 rfl | exact .own 3 rfl | exact .own 4 rfl | exact .own 5 rfl | exact .own 6 rfl | exact .own 7 rfl | exact .own 8 rfl | exact .own 9 rfl | exact .own 10 rfl | exact .own 11 rfl | exact .own 12 rfl | assumption | exact BoxS.arg (by assumption)) rfl rfl) ⟨_, rfl, congrArg (fun b => some (Value.bool b)) hg_5_3⟩ rfl ?_
      refine AK.val _ (Yl.loadBoxG ag25 rfl (by first | exact .own 0 rfl | exact .own 1 rfl | exact .own 2 rfl | exact .own 3 rfl | exact .own 4 rfl | exact .own 5 rfl | exact .own 6 rfl | exact .own 7 rfl | exact .own 8 rfl | exact .own 9 rfl | exact .own 10 rfl | exact .own 11 rfl | exact .own 12 rfl | assumption | exact BoxS.arg (by assumption)) rfl rfl) ⟨_, rfl, congrArg (fun b => some (Value.bool b)) hg_5_3⟩ rfl ?_
      refine AK.call co31 rfl (fun w hw => s_sameD w _ _ (ProdV a b op) (ProdV a b op) (RdD.own 2 hw hprs rfl rfl rfl) (RdD.own 6 hw hqrs rfl rfl rfl)) ⟨_, rfl, congrArg (fun b => some (Value.bool b)) hg_5_3⟩ rfl ?_
      rintro r o ⟨rfl, rfl⟩
      refine AK.val _ (Yl.pickT rfl (hg_5_3) rfl) trivial rfl ?_
      refine AK.val _ (Yl.move rfl) trivial rfl ?_
      refine AK.knownT (g := 52) rfl (decide_eq_true rfl) (fun hg_5_8 => ?_)
      refine AK.call co17 rfl (fun w hw => s_awake w) ⟨_, rfl, congrArg (fun b => some (Value.bool b)) hg_5_8⟩ rfl ?_
      rintro r o ⟨rfl, rfl⟩
      refine AK.val _ (Yl.pickT rfl (hg_5_8) rfl) trivial rfl ?_
      refine AK.val _ (Yl.assign rfl) trivial rfl ?_
      refine AK.nil ?_
      refine AK.then_ (hK11 _ ?_)
      refine AK.ret ?_
      refine AK.ret1 rfl rfl (fun w hw => ⟨_, _, ?_, rfl, Ret.of (hw.pick [] (by decide) rfl rfl)⟩)
      exact ⟨rfl, rfl⟩
  · have hg_1_2' := hg_1_2
    try simp only [decide_eq_true_eq, decide_eq_false_iff_not, Bool.not_eq_true', Bool.not_eq_false', Bool.not_not, ne_eq, Decidable.not_not, Int.not_lt, Int.not_le, beq_iff_eq, bne_iff_ne, Bool.and_eq_true, Bool.or_eq_true, Bool.or_eq_false_iff, Bool.not_false, Bool.not_true, reduceCtorEq, not_true_eq_false, not_false_eq_true] at hg_1_2'
    refine AK.pass rfl rfl (hg_1_2) rfl ?_
    refine AK.pass rfl rfl (hg_1_2) rfl ?_
    refine AK.val _ (Yl.pickF rfl (hg_1_2) rfl) trivial rfl ?_
    refine AK.val _ (Yl.move rfl) trivial rfl ?_
    refine AK.pass rfl rfl rfl rfl ?_
    refine AK.pass rfl rfl rfl rfl ?_
    refine AK.pass rfl rfl rfl rfl ?_
    refine AK.pass rfl rfl rfl rfl ?_
    refine AK.pass rfl rfl rfl rfl ?_
    refine AK.pass rfl rfl trivial rfl ?_
    refine AK.pass rfl rfl trivial rfl ?_
    refine AK.pass rfl rfl trivial rfl ?_
    refine AK.pass rfl rfl trivial rfl ?_
    refine AK.pass rfl rfl rfl rfl ?_
    refine AK.val _ (Yl.pickF rfl (rfl) rfl) trivial rfl ?_
    refine AK.nil ?_
    refine AK.then_ (hK3 _ ?_)
    refine AK.cond_f rfl (rfl) ?_
    have hsz : VD a → VD b → a.fin.length * b.fin.length ≤ 512 := by
      intro ha hb
      have h12 : a.fin.length ≤ 12 ∧ b.fin.length ≤ 12 := by first | (constructor <;> omega) | (simp_all; done) | (simp_all; omega)
      exact Nat.le_trans (Nat.mul_le_mul h12.1 h12.2) (by decide)
    refine AK.skip ?_
    refine AK.then_ (hK2 _ ?_)
    refine AK.seq (fun _ hK12 => ?_)
    refine AK.region ?_
    refine AK.val _ (Yl.loadBoxG ag25 rfl (by first | exact .own 0 rfl | exact .own 1 rfl | exact .own 2 rfl | exact .own 3 rfl | exact .own 4 rfl | exact .own 5 rfl | exact .own 6 rfl | exact .own 7 rfl | exact .own 8 rfl | exact .own 9 rfl | exact .own 10 rfl | exact .own 11 rfl | exact .own 12 rfl | assumption | exact BoxS.arg (by assumption)) rfl rfl) trivial rfl ?_
    refine AK.val _ (Yl.loadBoxG ag25 rfl (by first | exact .own 0 rfl | exact .own 1 rfl | exact .own 2 rfl | exact .own 3 rfl | exact .own 4 rfl | exact .own 5 rfl | exact .own 6 rfl | exact .own 7 rfl | exact .own 8 rfl | exact .own 9 rfl | exact .own 10 rfl | exact .own 11 rfl | exact .own 12 rfl | assumption | exact BoxS.arg (by assumption)) rfl rfl) trivial rfl ?_
    refine AK.val _ (Yl.move rfl) trivial rfl ?_
    refine AK.call co36 rfl (fun w hw => s_product w _ _ a b (hu0.at hw) (hv0.at hw) op hsz) trivial rfl ?_
    rintro r o ⟨pF, pN, prs, rfl, hprs, s1, s2, rfl⟩
    refine AK.val _ (Yl.move rfl) trivial rfl ?_
    refine AK.val _ (Yl.extract rfl rfl) trivial rfl ?_
    refine AK.val _ (Yl.extract rfl rfl) trivial rfl ?_
    refine AK.alloc el25 rfl rfl trivial rfl (fun bx7 => ?_)
    refine AK.storeBox 5 (us := [.int .i64 (ProdV a b op).L, .int .i64 (ProdV a b op).s, pF, pN]) (cs' := [.int .i64 (ProdV a b op).L, .int .i64 (ProdV a b op).s, pF, pN]) rfl sz25 rfl rfl rfl rfl (by repeat (first | exact one'_nil | refine one'_cons (by first | rfl | exact IsSl.one (by assumption) | exact IsSl.one nilSl) ?_)) (Nat.le_of_ble_eq_true rfl) rfl trivial ?_
    refine AK.val _ (Yl.assign rfl) trivial rfl ?_
    refine AK.nil ?_
    refine AK.then_ (hK12 _ ?_)
    refine AK.seq (fun _ hK13 => ?_)
    refine AK.region ?_
    refine AK.val _ (Yl.loadBoxG ag25 rfl (by first | exact .own 0 rfl | exact .own 1 rfl | exact .own 2 rfl | exact .own 3 rfl | exact .own 4 rfl | exact .own 5 rfl | exact .own 6 rfl | exact .own 7 rfl | exact .own 8 rfl | exact .own 9 rfl | exact .own 10 rfl | exact .own 11 rfl | exact .own 12 rfl | assumption | exact BoxS.arg (by assumption)) rfl rfl) trivial rfl ?_
    refine AK.val _ (Yl.loadBoxG ag25 rfl (by first | exact .own 0 rfl | exact .own 1 rfl | exact .own 2 rfl | exact .own 3 rfl | exact .own 4 rfl | exact .own 5 rfl | exact .own 6 rfl | exact .own 7 rfl | exact .own 8 rfl | exact .own 9 rfl | exact .own 10 rfl | exact .own 11 rfl | exact .own 12 rfl | assumption | exact BoxS.arg (by assumption)) rfl rfl) trivial rfl ?_
    refine AK.val _ (Yl.move rfl) trivial rfl ?_
    refine AK.call co37 rfl (fun w hw => s_refproduct w _ _ a b (hu0.at hw) (hv0.at hw) op hsz) trivial rfl ?_
    rintro r o ⟨qF, qN, qrs, rfl, hqrs, s3, s4, rfl⟩
    refine AK.val _ (Yl.move rfl) trivial rfl ?_
    refine AK.val _ (Yl.extract rfl rfl) trivial rfl ?_
    refine AK.val _ (Yl.extract rfl rfl) trivial rfl ?_
    refine AK.alloc el25 rfl rfl trivial rfl (fun bx9 => ?_)
    refine AK.storeBox 9 (us := [.int .i64 (ProdV a b op).L, .int .i64 (ProdV a b op).s, qF, qN]) (cs' := [.int .i64 (ProdV a b op).L, .int .i64 (ProdV a b op).s, qF, qN]) rfl sz25 rfl rfl rfl rfl (by repeat (first | exact one'_nil | refine one'_cons (by first | rfl | exact IsSl.one (by assumption) | exact IsSl.one nilSl) ?_)) (Nat.le_of_ble_eq_true rfl) rfl trivial ?_
    refine AK.val _ (Yl.assign rfl) trivial rfl ?_
    refine AK.nil ?_
    refine AK.then_ (hK13 _ ?_)
    refine AK.seq (fun _ hK14 => ?_)
    refine AK.region ?_
    refine AK.val _ (Yl.move rfl) trivial rfl ?_
    refine AK.val _ (Yl.move rfl) trivial rfl ?_
    refine AK.val _ (Yl.eql rfl rfl) trivial rfl ?_
    refine AK.val _ (Yl.move rfl) trivial rfl ?_
    refine AK.knownT (g := 47) rfl (decide_eq_true rfl) (fun hg_5_3 => ?_)
    refine AK.val _ (Yl.loadBoxG ag25 rfl (by first | exact .own 0 rfl | exact .own 1 rfl | exact .own 2 rfl | exact .own 3 rfl | exact .own 4 rfl | exact .own 5 rfl | exact .own 6 rfl | exact .own 7 rfl | exact .own 8 rfl | exact .own 9 rfl | exact .own 10 rfl | exact .own 11 rfl | exact .own 12 rfl | assumption | exact BoxS.arg (by assumption)) rfl rfl) ⟨_, rfl, congrArg (fun b => some (Value.bool b)) hg_5_3⟩ rfl ?_
    refine AK.val _ (Yl.loadBoxG ag25 rfl (by first | exact .own 0 rfl | exact .own 1 rfl | exact .own 2 rfl | exact .own 3 rfl | exact .own 4 rfl | exact .own 5 rfl | exact .own 6 rfl | exact .own 7 rfl | exact .own 8 rfl | exact .own 9 rfl | exact .own 10 rfl | exact .own 11 rfl | exact .own 12 rfl | assumption | exact BoxS.arg (by assumption)) rfl rfl) ⟨_, rfl, congrArg (fun b => some (Value.bool b)) hg_5_3⟩ rfl ?_
    refine AK.call co31 rfl (fun w hw => s_sameD w _ _ (ProdV a b op) (ProdV a b op) (RdD.own 2 hw hprs rfl rfl rfl) (RdD.own 6 hw hqrs rfl rfl rfl)) ⟨_, rfl, congrArg (fun b => some (Value.bool b)) hg_5_3⟩ rfl ?_
    rintro r o ⟨rfl, rfl⟩
    refine AK.val _ (Yl.pickT rfl (hg_5_3) rfl) trivial rfl ?_
    refine AK.val _ (Yl.move rfl) trivial rfl ?_
    refine AK.knownT (g := 52) rfl (decide_eq_true rfl) (fun hg_5_8 => ?_)
    refine AK.call co17 rfl (fun w hw => s_awake w) ⟨_, rfl, congrArg (fun b => some (Value.bool b)) hg_5_8⟩ rfl ?_
    rintro r o ⟨rfl, rfl⟩
    refine AK.val _ (Yl.pickT rfl (hg_5_8) rfl) trivial rfl ?_
    refine AK.val _ (Yl.assign rfl) trivial rfl ?_
    refine AK.nil ?_
    refine AK.then_ (hK14 _ ?_)
    refine AK.ret ?_
    refine AK.ret1 rfl rfl (fun w hw => ⟨_, _, ?_, rfl, Ret.of (hw.pick [] (by decide) rfl rfl)⟩)
    exact ⟨rfl, rfl⟩

set_option maxRecDepth 100000 in
theorem s_clone (w : World) (v : Value) (xs : List Int) (h : RdL (fun _ => False) (Value.int .i64) w v xs) (hx : xs.length ≤ 100000) : CallS Try.prog 60 [v] w (fun r o => IsSl r ∧ o = [row r 3 1 xs.length (xs.map (Value.int .i64))]) := by
  have hh := h
  unfold RdL at hh
  have hm := hh.le
  obtain ⟨oa, cp, rfl, h1, h2, h3, h4⟩ := h
  refine spec_of Try.func60 rfl (Nat.le_of_ble_eq_true rfl) ?_
  refine AK.seq (fun _ hK1 => ?_)
  refine AK.region ?_
  refine AK.val _ (Yl.assign rfl) trivial rfl ?_
  refine AK.nil ?_
  refine AK.then_ (hK1 _ ?_)
  refine AK.seq (fun _ hK2 => ?_)
  refine AK.seq (fun _ hK3 => ?_)
  refine AK.region ?_
  refine AK.val _ (Yl.move rfl) trivial rfl ?_
  refine AK.val _ (Yl.eqlSl sl38.1 rfl) trivial rfl ?_
  refine AK.nil ?_
  refine AK.then_ (hK3 _ ?_)
  refine AK.cond rfl (fun hc0 => ?_) (fun hc0 => ?_)
  · try simp only [decide_eq_true_eq, decide_eq_false_iff_not, Bool.not_eq_true', Bool.not_eq_false', Bool.not_not, ne_eq, Decidable.not_not, Int.not_lt, Int.not_le, beq_iff_eq, bne_iff_ne, Bool.and_eq_true, Bool.or_eq_true, Bool.or_eq_false_iff, Bool.not_false, Bool.not_true, reduceCtorEq, not_true_eq_false, not_false_eq_true] at hc0
    refine AK.seq (fun _ hK4 => ?_)
    refine AK.region ?_
    refine AK.val _ (Yl.assign rfl) trivial rfl ?_
    refine AK.nil ?_
    refine AK.then_ (hK4 _ ?_)
    refine AK.ret ?_
    refine AK.then_ret ?_
    refine AK.ghost 3 1 ?_
    refine AK.ret1 rfl rfl (fun w hw => ⟨_, _, ?_, rfl, Ret.of (hw.pick [0] (by decide) rfl rfl)⟩)
    have e : xs = [] := by
      cases oa with
      | some a => cases hc0
      | none =>
        cases xs with
        | nil => rfl
        | cons x l => have := h3 (by simp) (by omega); cases this
    subst e
    exact ⟨nilSl, rfl⟩
  · try simp only [decide_eq_true_eq, decide_eq_false_iff_not, Bool.not_eq_true', Bool.not_eq_false', Bool.not_not, ne_eq, Decidable.not_not, Int.not_lt, Int.not_le, beq_iff_eq, bne_iff_ne, Bool.and_eq_true, Bool.or_eq_true, Bool.or_eq_false_iff, Bool.not_false, Bool.not_true, reduceCtorEq, not_true_eq_false, not_false_eq_true] at hc0
    refine AK.skip ?_
    refine AK.then_ (hK2 _ ?_)
    refine AK.seq (fun _ hK5 => ?_)
    refine AK.region ?_
    refine AK.lit (xs := []) sl38 el3 rfl rfl rfl (by intro a ha; cases ha) (by decide) (by decide) trivial rfl (fun lv => ?_)
    refine AK.val _ (Yl.move rfl) trivial rfl ?_
    refine AK.appendS 0 rfl sl38 el3 rfl (by decide) rfl rfl rfl (by first | exact .arg ‹_› | exact .own 0 rfl | exact .own 1 rfl | exact .own 2 rfl | exact .own 3 rfl | exact .own 4 rfl | exact .own 5 rfl | exact .own 6 rfl | exact .own 7 rfl | exact .own 8 rfl | assumption | exact .own 9 rfl | exact .own 10 rfl | exact .own 11 rfl | exact .own 12 rfl) (one'_map _ (fun _ => rfl) xs) (by omega) (by omega) trivial rfl (fun av => ?_)
    refine AK.shape 0 rfl (fun sv => ?_)
    refine AK.val _ (Yl.assign rfl) trivial rfl ?_
    refine AK.nil ?_
    refine AK.then_ (hK5 _ ?_)
    refine AK.ret ?_
    refine AK.ret1 rfl rfl (fun w hw => ⟨_, _, ?_, rfl, Ret.of (hw.pick [0] (by decide) rfl rfl)⟩)
    refine ⟨sv, ?_⟩
    simp

set_option maxHeartbeats 600000 in
set_option maxRecDepth 100000 in
theorem s_compl (w : World) (v : Value) (d : Dfa) (h : RdD (fun _ => False) w v d) : CallS Try.prog 41 [v] w (fun r o => ∃ (vF2 vN2 : Value) (rs2 : List Value), r = .agg #[.int .i64 (CompV d).L, .int .i64 (CompV d).s, vF2, vN2] ∧ rs2.length = (CompV d).nx.length ∧ IsSl vF2 ∧ IsSl vN2 ∧ o = dfaO 4 3 38 vF2 vN2 rs2 (CompV d)) := by
  have h0 := h
  obtain ⟨vF, vN, rfl, hF, hN⟩ := h
  have hF0 := hF
  have hN0 := hN
  obtain ⟨rs, hrl, hNr, hNi⟩ := hN
  have sF := hF.sl
  have sN := hNr.sl
  have hmf := hF.le
  have hmn := hNr.le
  unfold RdL at hF
  refine spec_of Try.func41 rfl (Nat.le_of_ble_eq_true rfl) ?_
  refine AK.seq (fun _ hK1 => ?_)
  refine AK.region ?_
  refine AK.box_ (E := 25) (cs := [.int .i64 d.L, .int .i64 d.s, vF, vN]) rfl rfl rfl trivial rfl (fun bx1 => ?_)
  refine AK.alloc el25 rfl rfl trivial rfl (fun bx2 => ?_)
  refine AK.nil ?_
  refine AK.then_ (hK1 _ ?_)
  refine AK.seq (fun _ hK2 => ?_)
  refine AK.seq (fun _ hK3 => ?_)
  refine AK.region ?_
  refine AK.val _ (Yl.loadBoxG ag25 rfl (by first | exact .own 0 rfl | exact .own 1 rfl | exact .own 2 rfl | exact .own 3 rfl | exact .own 4 rfl | exact .own 5 rfl | exact .own 6 rfl | exact .own 7 rfl | exact .own 8 rfl | exact .own 9 rfl | exact .own 10 rfl | exact .own 11 rfl | exact .own 12 rfl | assumption | exact BoxS.arg (by assumption)) rfl rfl) trivial rfl ?_
  refine AK.call co15 rfl (fun w hw => s_validate w _ d (h0.at hw)) trivial rfl ?_
  rintro r o ⟨rfl, rfl⟩
  refine AK.val _ (Yl.neq rfl rfl) trivial rfl ?_
  refine AK.nil ?_
  refine AK.then_ (hK3 _ ?_)
  refine AK.condNe rfl (fun hc0 => ?_) (fun hc0 => ?_)
  · have hnv : ¬ VD d := fun h => hc0 ((errV_iff d).2 h)
    refine AK.seq (fun _ hK4 => ?_)
    refine AK.region ?_
    refine AK.val _ (Yl.build (parts := []) (cs := #[.int .i64 0, .int .i64 0, .slice none 0 0, .slice none 0 0]) rfl (by kernel_rfl)) trivial rfl ?_
    refine AK.storeBox 1 (us := [.int .i64 0, .int .i64 0, .slice none 0 0, .slice none 0 0]) (cs' := [.int .i64 0, .int .i64 0, .slice none 0 0, .slice none 0 0]) rfl sz25 rfl rfl rfl rfl (by repeat (first | exact one'_nil | refine one'_cons (by first | rfl | exact IsSl.one (by assumption) | exact IsSl.one nilSl) ?_)) (Nat.le_of_ble_eq_true rfl) rfl trivial ?_
    refine AK.nil ?_
    refine AK.then_ (hK4 _ ?_)
    refine AK.ret ?_
    refine AK.then_ret ?_
    refine AK.own' (dfaO 4 3 38 (.slice none 0 0) (.slice none 0 0) [] nilD ++ [box bx2 25 4 [.int .i64 0, .int .i64 0, .slice none 0 0, .slice none 0 0]]) (fun w hw => by have h1 := (((hw.pick [1] (by decide) rfl rfl).ghost 4 1).ghost 38 1).ghostG (f := Value.int .i64) 3; exact h1.pick [1, 2, 3, 0] (by decide) rfl rfl) ?_
    refine AK.retG [.cell 2 25] rfl (.cons (.cell ag25 rfl (by first | exact .own 0 rfl | exact .own 1 rfl | exact .own 2 rfl | exact .own 3 rfl | exact .own 4 rfl | exact .own 5 rfl | exact .own 6 rfl | exact .own 7 rfl | exact .own 8 rfl | exact .own 9 rfl | exact .own 10 rfl | exact .own 11 rfl | exact .own 12 rfl | assumption | exact BoxS.arg (by assumption)) rfl rfl) (.nil)) (fun w hw => ⟨_, _, ?_, rfl, Ret.of (hw.pick [0, 1, 2] (by decide) rfl rfl)⟩)
    rw [show CompV d = nilD from if_neg hnv]
    exact ⟨_, _, [], rfl, rfl, nilSl, nilSl, rfl⟩
  · have hv : VD d := (errV_iff d).1 hc0
    have hnx := hv.nx
    have hn5 := hv.n
    refine AK.skip ?_
    refine AK.then_ (hK2 _ ?_)
    refine AK.seq (fun _ hK5 => ?_)
    refine AK.region ?_
    refine AK.val _ (Yl.fieldAddr fd25_0 rfl) trivial rfl ?_
    refine AK.val _ (Yl.loadBox on3 rfl (by first | exact .own 0 rfl | exact .own 1 rfl | exact .own 2 rfl | exact .own 3 rfl | exact .own 4 rfl | exact .own 5 rfl | exact .own 6 rfl | exact .own 7 rfl | exact .own 8 rfl | exact .own 9 rfl | exact .own 10 rfl | exact .own 11 rfl | exact .own 12 rfl | assumption | exact BoxS.arg (by assumption)) rfl) trivial rfl ?_
    refine AK.val _ (Yl.fieldAddr fd25_1 rfl) trivial rfl ?_
    refine AK.val _ (Yl.loadBox on3 rfl (by first | exact .own 0 rfl | exact .own 1 rfl | exact .own 2 rfl | exact .own 3 rfl | exact .own 4 rfl | exact .own 5 rfl | exact .own 6 rfl | exact .own 7 rfl | exact .own 8 rfl | exact .own 9 rfl | exact .own 10 rfl | exact .own 11 rfl | exact .own 12 rfl | assumption | exact BoxS.arg (by assumption)) rfl) trivial rfl ?_
    refine AK.val _ (Yl.build (parts := [(0, .tmp 11), (1, .tmp 13)]) (cs := #[.int .i64 d.L, .int .i64 d.s, .slice none 0 0, .slice none 0 0]) rfl (by kernel_rfl)) trivial rfl ?_
    refine AK.alloc el25 rfl rfl trivial rfl (fun bx3 => ?_)
    refine AK.storeBox 2 (us := [.int .i64 d.L, .int .i64 d.s, .slice none 0 0, .slice none 0 0]) (cs' := [.int .i64 d.L, .int .i64 d.s, .slice none 0 0, .slice none 0 0]) rfl sz25 rfl rfl rfl rfl (by repeat (first | exact one'_nil | refine one'_cons (by first | rfl | exact IsSl.one (by assumption) | exact IsSl.one nilSl) ?_)) (Nat.le_of_ble_eq_true rfl) rfl trivial ?_
    refine AK.nil ?_
    refine AK.then_ (hK5 _ ?_)
    refine AK.seq (fun _ hK6 => ?_)
    refine AK.seq (fun _ hK7 => ?_)
    refine AK.region ?_
    refine AK.val _ (Yl.fieldAddr fd25_2 rfl) trivial rfl ?_
    refine AK.val _ (Yl.loadBox on22 rfl (by first | exact .own 0 rfl | exact .own 1 rfl | exact .own 2 rfl | exact .own 3 rfl | exact .own 4 rfl | exact .own 5 rfl | exact .own 6 rfl | exact .own 7 rfl | exact .own 8 rfl | exact .own 9 rfl | exact .own 10 rfl | exact .own 11 rfl | exact .own 12 rfl | assumption | exact BoxS.arg (by assumption)) rfl) trivial rfl ?_
    refine AK.val _ (Yl.lenR sl22 rfl (by first | exact .arg ‹_› | exact .own 0 rfl | exact .own 1 rfl | exact .own 2 rfl | exact .own 3 rfl | exact .own 4 rfl | exact .own 5 rfl | exact .own 6 rfl | exact .own 7 rfl | exact .own 8 rfl | assumption | exact .own 9 rfl | exact .own 10 rfl | exact .own 11 rfl | exact .own 12 rfl | exact .arg (hNi _ (by omega)))) trivial rfl ?_
    refine AK.val _ (Yl.move rfl) trivial rfl ?_
    refine AK.nil ?_
    refine AK.then_ (hK7 _ ?_)
    refine AK.block ?_
    refine AK.loopK (X := Nat × Value × Value × List Value) [(1, _), (2, _), (3, _), (16, _), (17, _)] (fun x => [(18, .int .i64 (x.1 : Int))]) (fun x => [box bx1 25 4 [.int .i64 d.L, .int .i64 d.s, vF, vN], box bx2 25 4 [.int .i64 0, .int .i64 0, .slice none 0 0, .slice none 0 0], box bx3 25 4 [.int .i64 d.L, .int .i64 d.s, x.2.1, x.2.2.1], row x.2.1 4 1 x.1 (((d.fin.take x.1).map (!·)).map Value.bool), row x.2.2.1 38 1 x.1 x.2.2.2, bigA (matG (Value.int .i64) 3 x.2.2.2 (d.nx.take x.1))]) (fun x => x.1 ≤ d.fin.length ∧ x.2.2.2.length = x.1 ∧ IsSl x.2.1 ∧ IsSl x.2.2.1) (fun x => d.fin.length - x.1) ((0, .slice none 0 0, .slice none 0 0, [])) (.cons rfl (.cons rfl (.cons rfl (.cons rfl (.cons rfl (.nil)))))) ?_ ?_ ?_ ?_
    · exact ⟨Nat.zero_le _, rfl, nilSl, nilSl⟩
    · exact .cons (rfl) (.nil)
    · exact fun w hw => by have h1 := ((hw.ghostG (f := Value.int .i64) 3).ghost 4 1).ghost 38 1; exact h1.pick [0, 1, 2, 4, 5, 3] (by decide) rfl rfl
    · intro x hg0 _ hK8
      have hsF := hg0.2.2.1
      have hsN := hg0.2.2.2
      refine AK.seq (fun _ hK9 => ?_)
      refine AK.region ?_
      refine AK.val _ (Yl.lss rfl rfl) trivial rfl ?_
      refine AK.nil ?_
      refine AK.then_ (hK9 _ ?_)
      refine AK.seq (fun _ hK10 => ?_)
      refine AK.condD rfl (fun hc1 => ?_) (fun hc1 => ?_)
      · refine AK.skip ?_
        refine AK.then_ (hK10 _ ?_)
        refine AK.seq (fun _ hK11 => ?_)
        refine AK.block ?_
        refine AK.seq (fun _ hK12 => ?_)
        refine AK.region ?_
        refine AK.val _ (Yl.move rfl) trivial rfl ?_
        first | refine AK.val _ (Yl.idxN sl22 rfl rfl (by first | exact .arg ‹_› | exact .own 0 rfl | exact .own 1 rfl | exact .own 2 rfl | exact .own 3 rfl | exact .own 4 rfl | exact .own 5 rfl | exact .own 6 rfl | exact .own 7 rfl | exact .own 8 rfl | assumption | exact .own 9 rfl | exact .own 10 rfl | exact .own 11 rfl | exact .own 12 rfl | exact .arg (hNi _ (by omega))) (by decide) (by omega)) trivial rfl ?_ | refine AK.val _ (Yl.idx sl22 rfl rfl (by first | exact .arg ‹_› | exact .own 0 rfl | exact .own 1 rfl | exact .own 2 rfl | exact .own 3 rfl | exact .own 4 rfl | exact .own 5 rfl | exact .own 6 rfl | exact .own 7 rfl | exact .own 8 rfl | assumption | exact .own 9 rfl | exact .own 10 rfl | exact .own 11 rfl | exact .own 12 rfl | exact .arg (hNi _ (by omega))) (by decide) (by omega)) trivial rfl ?_ | refine AK.val _ (Yl.idxK sl22 rfl rfl (by first | exact .arg ‹_› | exact .own 0 rfl | exact .own 1 rfl | exact .own 2 rfl | exact .own 3 rfl | exact .own 4 rfl | exact .own 5 rfl | exact .own 6 rfl | exact .own 7 rfl | exact .own 8 rfl | assumption | exact .own 9 rfl | exact .own 10 rfl | exact .own 11 rfl | exact .own 12 rfl | exact .arg (hNi _ (by omega))) (by decide) (by omega)) trivial rfl ?_
        refine AK.val _ (Yl.loadB on4 rfl (by first | exact .arg ‹_› | exact .own 0 rfl | exact .own 1 rfl | exact .own 2 rfl | exact .own 3 rfl | exact .own 4 rfl | exact .own 5 rfl | exact .own 6 rfl | exact .own 7 rfl | exact .own 8 rfl | assumption | exact .own 9 rfl | exact .own 10 rfl | exact .own 11 rfl | exact .own 12 rfl | exact .arg (hNi _ (by omega))) (by omega)) trivial rfl ?_
        refine AK.val _ (Yl.assign rfl) trivial rfl ?_
        refine AK.val _ (Yl.assign rfl) trivial rfl ?_
        refine AK.nil ?_
        refine AK.then_ (hK12 _ ?_)
        refine AK.seq (fun _ hK13 => ?_)
        refine AK.region ?_
        refine AK.val _ (Yl.fieldAddr fd25_2 rfl) trivial rfl ?_
        refine AK.val _ (Yl.loadBox on22 rfl (by first | exact .own 0 rfl | exact .own 1 rfl | exact .own 2 rfl | exact .own 3 rfl | exact .own 4 rfl | exact .own 5 rfl | exact .own 6 rfl | exact .own 7 rfl | exact .own 8 rfl | exact .own 9 rfl | exact .own 10 rfl | exact .own 11 rfl | exact .own 12 rfl | assumption | exact BoxS.arg (by assumption)) rfl) trivial rfl ?_
        refine AK.val _ (Yl.move rfl) trivial rfl ?_
        refine AK.val _ (Yl.not rfl) trivial rfl ?_
        refine AK.append1 3 rfl sl22 el4 rfl (by decide) rfl (by intro k hk; cases hk; rfl) rfl (by intro u hu; simp [Value.cells] at hu; subst hu; rfl) (by omega) (by omega) (by decide) rfl rfl (fun vf2 _ hf2 => ?_)
        refine AK.val _ (Yl.fieldAddr fd25_2 rfl) trivial rfl ?_
        refine AK.storeBox 2 (us := [vf2]) (cs' := [.int .i64 d.L, .int .i64 d.s, vf2, x.2.2.1]) rfl sz22 rfl rfl (by rw [IsSl.cells (by assumption)]) rfl (by repeat (first | exact one'_nil | refine one'_cons (by first | rfl | exact IsSl.one (by assumption) | exact IsSl.one nilSl) ?_)) (Nat.le_of_ble_eq_true rfl) rfl trivial ?_
        refine AK.nil ?_
        refine AK.then_ (hK13 _ ?_)
        try (conv => enter [2, 2]; dsimp only [List.set_cons_zero, List.set_cons_succ, List.cons_append, List.nil_append])
        refine AK.held 11 mixed ?_
        refine HeldK.first 0 (fuel := 11) (listed' := #[true, false, false, false, false, false, false, false, false, false, false, false]) _ rfl (by kernel_rfl) rfl rfl (Yl.fieldAddr fd25_3 rfl) trivial rfl ?_
        refine HeldK.first 1 (fuel := 10) (listed' := #[true, true, false, false, false, false, false, false, false, false, false, false]) _ rfl (by kernel_rfl) rfl rfl (Yl.loadBox on23 rfl (by first | exact .own 0 rfl | exact .own 1 rfl | exact .own 2 rfl | exact .own 3 rfl | exact .own 4 rfl | exact .own 5 rfl | exact .own 6 rfl | exact .own 7 rfl | exact .own 8 rfl | exact .own 9 rfl | exact .own 10 rfl | exact .own 11 rfl | exact .own 12 rfl | assumption | exact BoxS.arg (by assumption)) rfl) trivial rfl ?_
        refine HeldK.first 2 (fuel := 9) (listed' := #[true, true, true, false, false, false, false, false, false, false, false, false]) _ rfl (by kernel_rfl) rfl rfl (Yl.fieldAddr fd25_3 rfl) trivial rfl ?_
        refine HeldK.first 3 (fuel := 8) (listed' := #[true, true, true, true, false, false, false, false, false, false, false, false]) _ rfl (by kernel_rfl) rfl rfl (Yl.loadBox on23 rfl (by first | exact .own 0 rfl | exact .own 1 rfl | exact .own 2 rfl | exact .own 3 rfl | exact .own 4 rfl | exact .own 5 rfl | exact .own 6 rfl | exact .own 7 rfl | exact .own 8 rfl | exact .own 9 rfl | exact .own 10 rfl | exact .own 11 rfl | exact .own 12 rfl | assumption | exact BoxS.arg (by assumption)) rfl) trivial rfl ?_
        refine HeldK.first 4 (fuel := 7) (listed' := #[true, true, true, true, true, false, false, false, false, false, false, false]) _ rfl (by kernel_rfl) rfl rfl (Yl.move rfl) trivial rfl ?_
        first | refine HeldK.first 5 (fuel := 6) (listed' := #[true, true, true, true, true, true, false, false, false, false, false, false]) _ rfl (by kernel_rfl) rfl rfl (Yl.idxN sl23 rfl rfl (by first | exact .arg ‹_› | exact .own 0 rfl | exact .own 1 rfl | exact .own 2 rfl | exact .own 3 rfl | exact .own 4 rfl | exact .own 5 rfl | exact .own 6 rfl | exact .own 7 rfl | exact .own 8 rfl | assumption | exact .own 9 rfl | exact .own 10 rfl | exact .own 11 rfl | exact .own 12 rfl | exact .arg (hNi _ (by omega))) (by decide) (by omega)) trivial rfl ?_ | refine HeldK.first 5 (fuel := 6) (listed' := #[true, true, true, true, true, true, false, false, false, false, false, false]) _ rfl (by kernel_rfl) rfl rfl (Yl.idx sl23 rfl rfl (by first | exact .arg ‹_› | exact .own 0 rfl | exact .own 1 rfl | exact .own 2 rfl | exact .own 3 rfl | exact .own 4 rfl | exact .own 5 rfl | exact .own 6 rfl | exact .own 7 rfl | exact .own 8 rfl | assumption | exact .own 9 rfl | exact .own 10 rfl | exact .own 11 rfl | exact .own 12 rfl | exact .arg (hNi _ (by omega))) (by decide) (by omega)) trivial rfl ?_ | refine HeldK.first 5 (fuel := 6) (listed' := #[true, true, true, true, true, true, false, false, false, false, false, false]) _ rfl (by kernel_rfl) rfl rfl (Yl.idxK sl23 rfl rfl (by first | exact .arg ‹_› | exact .own 0 rfl | exact .own 1 rfl | exact .own 2 rfl | exact .own 3 rfl | exact .own 4 rfl | exact .own 5 rfl | exact .own 6 rfl | exact .own 7 rfl | exact .own 8 rfl | assumption | exact .own 9 rfl | exact .own 10 rfl | exact .own 11 rfl | exact .own 12 rfl | exact .arg (hNi _ (by omega))) (by decide) (by omega)) trivial rfl ?_
        refine HeldK.first 6 (fuel := 5) (listed' := #[true, true, true, true, true, true, true, false, false, false, false, false]) _ rfl (by kernel_rfl) rfl rfl (Yl.loadV on38 rfl (by first | exact .arg ‹_› | exact .own 0 rfl | exact .own 1 rfl | exact .own 2 rfl | exact .own 3 rfl | exact .own 4 rfl | exact .own 5 rfl | exact .own 6 rfl | exact .own 7 rfl | exact .own 8 rfl | assumption | exact .own 9 rfl | exact .own 10 rfl | exact .own 11 rfl | exact .own 12 rfl | exact .arg (hNi _ (by omega))) (by omega)) trivial rfl ?_
        refine HeldK.one 7 (fuel := 4) (listed' := #[true, true, true, true, true, true, true, true, false, false, false, false]) (by kernel_rfl) rfl rfl ?_
        refine AK.call co60 rfl (fun w hw => s_clone w _ _ ((hNi x.1 (by omega)).at hw) (by have := hv.row x.1 (by omega); have := hv.L; omega)) trivial rfl ?_
        rintro r o ⟨sr, rfl⟩
        refine AK.nil ?_
        try (conv => enter [2, 2]; dsimp only [List.set_cons_zero, List.set_cons_succ, List.cons_append, List.nil_append])
        refine HeldK.back (by repeat (first | exact HWle.nil | refine HWle.cons Ale.rfl ?_ | refine HWle.cons Ale.fst ?_)) ?_
        refine HeldK.one 8 (fuel := 3) (listed' := #[true, true, true, true, true, true, true, true, true, false, false, false]) (by kernel_rfl) rfl rfl ?_
        refine AK.lit (xs := [.tmp 37]) sl23 el38 rfl rfl rfl (by intro a ha; simp at ha; subst ha; rw [sr.cells]; rfl) (by decide) (by decide) trivial rfl (fun t8 => ?_)
        refine AK.nil ?_
        try (conv => enter [2, 2]; dsimp only [List.set_cons_zero, List.set_cons_succ, List.cons_append, List.nil_append])
        refine HeldK.back (by repeat (first | exact HWle.nil | refine HWle.cons Ale.rfl ?_ | refine HWle.cons Ale.fst ?_)) ?_
        refine HeldK.one 9 (fuel := 2) (listed' := #[true, true, true, true, true, true, true, true, true, true, false, false]) (by kernel_rfl) rfl rfl ?_
        refine AK.appendH 4 rfl sl23 el38 rfl (by decide) rfl rfl rfl (by first | exact .arg ‹_› | exact .own 0 rfl | exact .own 1 rfl | exact .own 2 rfl | exact .own 3 rfl | exact .own 4 rfl | exact .own 5 rfl | exact .own 6 rfl | exact .own 7 rfl | exact .own 8 rfl | assumption | exact .own 9 rfl | exact .own 10 rfl | exact .own 11 rfl | exact .own 12 rfl | exact .arg (hNi _ (by omega))) (by rw [show [r].flatMap (·.cells.toList) = [r] by simp [sr.cells]]; exact one'_cons sr.one one'_nil) (by omega) (by omega) trivial rfl (fun vn2 hn2 => ?_)
        refine AK.nil ?_
        try (conv => enter [2, 2]; dsimp only [List.set_cons_zero, List.set_cons_succ, List.cons_append, List.nil_append])
        refine HeldK.back (by repeat (first | exact HWle.nil | refine HWle.cons Ale.rfl ?_ | refine HWle.cons Ale.fst ?_)) ?_
        refine HeldK.first 10 (fuel := 1) (listed' := #[true, true, true, true, true, true, true, true, true, true, true, false]) _ rfl (by kernel_rfl) rfl rfl (Yl.fieldAddr fd25_3 rfl) trivial rfl ?_
        refine HeldK.one 11 (fuel := 0) (listed' := #[true, true, true, true, true, true, true, true, true, true, true, true]) (by kernel_rfl) rfl rfl ?_
        refine AK.storeBox 2 (us := [vn2]) (cs' := [.int .i64 d.L, .int .i64 d.s, vf2, vn2]) rfl sz23 rfl rfl (by rw [IsSl.cells (by assumption)]) rfl (by repeat (first | exact one'_nil | refine one'_cons (by first | rfl | exact IsSl.one (by assumption) | exact IsSl.one nilSl) ?_)) (Nat.le_of_ble_eq_true rfl) rfl trivial ?_
        refine AK.nil ?_
        try (conv => enter [2, 2]; dsimp only [List.set_cons_zero, List.set_cons_succ, List.cons_append, List.nil_append])
        refine HeldK.backN 12 rfl rfl (by kernel_rfl) ?_
        refine AK.nil ?_
        refine AK.fromQn ?_
        refine AK.block_normal ?_
        refine AK.then_ (hK11 _ ?_)
        refine AK.region ?_
        refine AK.val _ (Yl.add rfl rfl (by omega)) trivial rfl ?_
        refine AK.val _ (Yl.move rfl) trivial rfl ?_
        refine AK.nil ?_
        refine AK.then_ (hK8 _ _ ((x.1 + 1, vf2, vn2, x.2.2.2 ++ [r])) ⟨by dsimp only; omega, by simp [hg0.2.1], hf2, hn2⟩ (by dsimp only; omega) (.cons (rfl) (.cons rfl (.cons rfl (.cons rfl (.cons rfl (.cons rfl (.nil))))))) (fun w hw => by
    dsimp only
    have e1 : ((d.fin.take (x.1 + 1)).map (!·)).map Value.bool = ((d.fin.take x.1).map (!·)).map Value.bool ++ [Value.bool (!d.fin.getD x.1 false)] := (by rw [take_snocD false d.fin x.1 (by omega)]; simp)
    rw [e1, take_snocD [] d.nx x.1 (by omega), matG_snoc (by rw [List.length_take, hg0.2.1]; omega)]
    have e3 : [r].flatMap (·.cells.toList) = [r] := (by simp [sr.cells])
    rw [e3] at hw
    have h2 := hw.pickLe (L := [_, _, _, _, row vn2 38 1 (x.1 + 1) (x.2.2.2 ++ [r]), _, _]) [0, 1, 2, 3, 4, 5, 6] (by decide) (by repeat (first | exact PickLe.nil | refine PickLe.cons rfl Ale.rfl ?_ | refine PickLe.cons rfl Ale.snd ?_ | refine PickLe.cons rfl Ale.fst ?_))
    exact HW.absorb (own := [_, _, _, _, _, _]) 5 rfl h2))
      · refine AK.exit ?_
        refine AK.then_exit ?_
        refine AK.then_exit ?_
        refine AK.block_exit ?_
        refine AK.then_ (hK6 _ ?_)
        refine AK.seq (fun _ hK14 => ?_)
        refine AK.region ?_
        refine AK.val _ (Yl.loadBoxG ag25 rfl (by first | exact .own 0 rfl | exact .own 1 rfl | exact .own 2 rfl | exact .own 3 rfl | exact .own 4 rfl | exact .own 5 rfl | exact .own 6 rfl | exact .own 7 rfl | exact .own 8 rfl | exact .own 9 rfl | exact .own 10 rfl | exact .own 11 rfl | exact .own 12 rfl | assumption | exact BoxS.arg (by assumption)) rfl rfl) trivial rfl ?_
        refine AK.storeBox 1 (us := [.int .i64 d.L, .int .i64 d.s, x.2.1, x.2.2.1]) (cs' := [.int .i64 d.L, .int .i64 d.s, x.2.1, x.2.2.1]) rfl sz25 rfl rfl rfl rfl (by repeat (first | exact one'_nil | refine one'_cons (by first | rfl | exact IsSl.one (by assumption) | exact IsSl.one nilSl) ?_)) (Nat.le_of_ble_eq_true rfl) rfl trivial ?_
        refine AK.nil ?_
        refine AK.then_ (hK14 _ ?_)
        refine AK.ret ?_
        refine AK.own' ([box bx1 25 4 [.int .i64 d.L, .int .i64 d.s, vF, vN], box bx2 25 4 [.int .i64 d.L, .int .i64 d.s, x.2.1, x.2.2.1], box bx3 25 4 [.int .i64 d.L, .int .i64 d.s, x.2.1, x.2.2.1], row x.2.1 4 1 x.1 (((d.fin.take x.1).map (!·)).map Value.bool), row x.2.2.1 38 1 x.1 x.2.2.2, bigA (matG (Value.int .i64) 3 x.2.2.2 (d.nx.take x.1))]) (fun w hw => hw) ?_
        refine AK.retG [.cell 2 25] rfl (.cons (.cell ag25 rfl (by first | exact .own 0 rfl | exact .own 1 rfl | exact .own 2 rfl | exact .own 3 rfl | exact .own 4 rfl | exact .own 5 rfl | exact .own 6 rfl | exact .own 7 rfl | exact .own 8 rfl | exact .own 9 rfl | exact .own 10 rfl | exact .own 11 rfl | exact .own 12 rfl | assumption | exact BoxS.arg (by assumption)) rfl rfl) (.nil)) (fun w hw => ⟨_, _, ?_, rfl, Ret.of (hw.pick [3, 4, 5] (by decide) rfl rfl)⟩)
        rw [show CompV d = compD d from if_pos hv]
        have e : x.1 = d.fin.length := (by omega)
        refine ⟨x.2.1, x.2.2.1, x.2.2.2, rfl, ?_, hg0.2.2.1, hg0.2.2.2, ?_⟩
        · rw [hg0.2.1, e]; exact hnx.symm
        · unfold dfaO compD; rw [e, List.take_length, List.length_map]; rw [show d.nx.take d.fin.length = d.nx by rw [← hnx, List.take_length], hnx]; rfl

set_option maxHeartbeats 1000000 in
set_option maxRecDepth 100000 in
theorem s_refcompl (w : World) (v : Value) (d : Dfa) (h : RdD (fun _ => False) w v d) (hv : VD d) : CallS Try.prog 43 [v] w (fun r o => ∃ (vF2 vN2 : Value) (rs2 : List Value), r = .agg #[.int .i64 (CompV d).L, .int .i64 (CompV d).s, vF2, vN2] ∧ rs2.length = (CompV d).nx.length ∧ IsSl vF2 ∧ IsSl vN2 ∧ o = dfaO 4 3 38 vF2 vN2 rs2 (CompV d)) := by
  have h0 := h
  obtain ⟨vF, vN, rfl, hF, hN⟩ := h
  have hF0 := hF
  have hN0 := hN
  obtain ⟨rs, hrl, hNr, hNi⟩ := hN
  have sF := hF.sl
  have sN := hNr.sl
  have hmf := hF.le
  have hmn := hNr.le
  unfold RdL at hF
  have hnx := hv.nx
  have hn5 := hv.n
  have hmr := fun i hi => (hNi i hi).le
  refine spec_of Try.func43 rfl (Nat.le_of_ble_eq_true rfl) ?_
  refine AK.seq (fun _ hK1 => ?_)
  refine AK.region ?_
  refine AK.box_ (E := 25) (cs := [.int .i64 d.L, .int .i64 d.s, vF, vN]) rfl rfl rfl trivial rfl (fun bx1 => ?_)
  refine AK.alloc el25 rfl rfl trivial rfl (fun bx2 => ?_)
  refine AK.nil ?_
  refine AK.then_ (hK1 _ ?_)
  refine AK.seq (fun _ hK2 => ?_)
  refine AK.region ?_
  refine AK.val _ (Yl.fieldAddr fd25_0 rfl) trivial rfl ?_
  refine AK.val _ (Yl.loadBox on3 rfl (by first | exact .own 0 rfl | exact .own 1 rfl | exact .own 2 rfl | exact .own 3 rfl | exact .own 4 rfl | exact .own 5 rfl | exact .own 6 rfl | exact .own 7 rfl | exact .own 8 rfl | exact .own 9 rfl | exact .own 10 rfl | exact .own 11 rfl | exact .own 12 rfl | assumption | exact BoxS.arg (by assumption)) rfl) trivial rfl ?_
  refine AK.val _ (Yl.fieldAddr fd25_1 rfl) trivial rfl ?_
  refine AK.val _ (Yl.loadBox on3 rfl (by first | exact .own 0 rfl | exact .own 1 rfl | exact .own 2 rfl | exact .own 3 rfl | exact .own 4 rfl | exact .own 5 rfl | exact .own 6 rfl | exact .own 7 rfl | exact .own 8 rfl | exact .own 9 rfl | exact .own 10 rfl | exact .own 11 rfl | exact .own 12 rfl | assumption | exact BoxS.arg (by assumption)) rfl) trivial rfl ?_
  refine AK.val _ (Yl.build (parts := [(0, .tmp 6), (1, .tmp 8)]) (cs := #[.int .i64 d.L, .int .i64 d.s, .slice none 0 0, .slice none 0 0]) rfl (by kernel_rfl)) trivial rfl ?_
  refine AK.alloc el25 rfl rfl trivial rfl (fun bx3 => ?_)
  refine AK.storeBox 2 (us := [.int .i64 d.L, .int .i64 d.s, .slice none 0 0, .slice none 0 0]) (cs' := [.int .i64 d.L, .int .i64 d.s, .slice none 0 0, .slice none 0 0]) rfl sz25 rfl rfl rfl rfl (by repeat (first | exact one'_nil | refine one'_cons (by first | rfl | exact IsSl.one (by assumption) | exact IsSl.one nilSl) ?_)) (Nat.le_of_ble_eq_true rfl) rfl trivial ?_
  refine AK.nil ?_
  refine AK.then_ (hK2 _ ?_)
  refine AK.seq (fun _ hK3 => ?_)
  refine AK.seq (fun _ hK4 => ?_)
  refine AK.region ?_
  refine AK.val _ (Yl.fieldAddr fd25_2 rfl) trivial rfl ?_
  refine AK.val _ (Yl.loadBox on22 rfl (by first | exact .own 0 rfl | exact .own 1 rfl | exact .own 2 rfl | exact .own 3 rfl | exact .own 4 rfl | exact .own 5 rfl | exact .own 6 rfl | exact .own 7 rfl | exact .own 8 rfl | exact .own 9 rfl | exact .own 10 rfl | exact .own 11 rfl | exact .own 12 rfl | assumption | exact BoxS.arg (by assumption)) rfl) trivial rfl ?_
  refine AK.val _ (Yl.lenR sl22 rfl (by first | exact .arg ‹_› | exact .own 0 rfl | exact .own 1 rfl | exact .own 2 rfl | exact .own 3 rfl | exact .own 4 rfl | exact .own 5 rfl | exact .own 6 rfl | exact .own 7 rfl | exact .own 8 rfl | assumption | exact .own 9 rfl | exact .own 10 rfl | exact .own 11 rfl | exact .own 12 rfl | exact .arg (hNi _ (by omega)))) trivial rfl ?_
  refine AK.val _ (Yl.move rfl) trivial rfl ?_
  refine AK.nil ?_
  refine AK.then_ (hK4 _ ?_)
  refine AK.block ?_
  refine AK.loopK (X := Nat × Value × Value × List Value) [(1, _), (2, _), (3, _), (12, _)] (fun x => [(13, .int .i64 (x.1 : Int))]) (fun x => [box bx1 25 4 [.int .i64 d.L, .int .i64 d.s, vF, vN], box bx2 25 4 [.int .i64 0, .int .i64 0, .slice none 0 0, .slice none 0 0], box bx3 25 4 [.int .i64 d.L, .int .i64 d.s, x.2.1, x.2.2.1], row x.2.1 4 1 x.1 (((d.fin.take x.1).map (!·)).map Value.bool), row x.2.2.1 38 1 x.1 x.2.2.2, bigA (matG (Value.int .i64) 3 x.2.2.2 (d.nx.take x.1))]) (fun x => x.1 ≤ d.fin.length ∧ x.2.2.2.length = x.1 ∧ IsSl x.2.1 ∧ IsSl x.2.2.1) (fun x => d.fin.length - x.1) ((0, .slice none 0 0, .slice none 0 0, [])) (.cons rfl (.cons rfl (.cons rfl (.cons rfl (.nil))))) ?_ ?_ ?_ ?_
  · exact ⟨Nat.zero_le _, rfl, nilSl, nilSl⟩
  · exact .cons (rfl) (.nil)
  · exact fun w hw => by have h1 := ((hw.ghostG (f := Value.int .i64) 3).ghost 4 1).ghost 38 1; exact h1.pick [0, 1, 2, 4, 5, 3] (by decide) rfl rfl
  · intro x hg0 _ hK5
    have hsF := hg0.2.2.1
    have hsN := hg0.2.2.2
    refine AK.seq (fun _ hK6 => ?_)
    refine AK.region ?_
    refine AK.val _ (Yl.lss rfl rfl) trivial rfl ?_
    refine AK.nil ?_
    refine AK.then_ (hK6 _ ?_)
    refine AK.seq (fun _ hK7 => ?_)
    refine AK.condD rfl (fun hc0 => ?_) (fun hc0 => ?_)
    · have hvr := hv.row x.1 (by omega)
      have hvL := hv.L
      refine AK.skip ?_
      refine AK.then_ (hK7 _ ?_)
      refine AK.seq (fun _ hK8 => ?_)
      refine AK.block ?_
      refine AK.seq (fun _ hK9 => ?_)
      refine AK.region ?_
      refine AK.val _ (Yl.move rfl) trivial rfl ?_
      refine AK.val _ (Yl.assign rfl) trivial rfl ?_
      refine AK.nil ?_
      refine AK.then_ (hK9 _ ?_)
      refine AK.joinK (X := Value × Value × Value) [(1, _), (2, _), (3, _), (12, _), (13, _)] (fun z => []) (fun z => [box bx1 25 4 [.int .i64 d.L, .int .i64 d.s, vF, vN], box bx2 25 4 [.int .i64 0, .int .i64 0, .slice none 0 0, .slice none 0 0], box bx3 25 4 [.int .i64 d.L, .int .i64 d.s, z.1, z.2.1], row z.1 4 1 (x.1 + 1) (((d.fin.take x.1).map (!·)).map Value.bool ++ [Value.bool (!d.fin.getD x.1 false)]), row z.2.1 38 1 (x.1 + 1) (x.2.2.2 ++ [z.2.2].flatMap (·.cells.toList)), bigA (matG (Value.int .i64) 3 x.2.2.2 (d.nx.take x.1)), row z.2.2 3 1 (0 + (d.nx.getD x.1 []).length) ((d.nx.getD x.1 []).map (Value.int .i64))]) (fun z => IsSl z.1 ∧ IsSl z.2.1 ∧ IsSl z.2.2) (.cons rfl (.cons rfl (.cons rfl (.cons rfl (.cons rfl (.nil)))))) (fun _ hJ => ?_) (fun z hg => ?_)
      · try (conv => enter [2, 2]; dsimp only [List.set_cons_zero, List.set_cons_succ, List.cons_append, List.nil_append])
        refine AK.held 22 mixed ?_
        refine HeldK.first 0 (fuel := 24) (listed' := #[true, false, false, false, false, false, false, false, false, false, false, false, false, false, false, false, false, false, false, false, false, false, false, false, false]) _ rfl (by kernel_rfl) rfl rfl (Yl.fieldAddr fd25_2 rfl) trivial rfl ?_
        refine HeldK.first 1 (fuel := 23) (listed' := #[true, true, false, false, false, false, false, false, false, false, false, false, false, false, false, false, false, false, false, false, false, false, false, false, false]) _ rfl (by kernel_rfl) rfl rfl (Yl.loadBox on22 rfl (by first | exact .own 0 rfl | exact .own 1 rfl | exact .own 2 rfl | exact .own 3 rfl | exact .own 4 rfl | exact .own 5 rfl | exact .own 6 rfl | exact .own 7 rfl | exact .own 8 rfl | exact .own 9 rfl | exact .own 10 rfl | exact .own 11 rfl | exact .own 12 rfl | assumption | exact BoxS.arg (by assumption)) rfl) trivial rfl ?_
        refine HeldK.first 2 (fuel := 22) (listed' := #[true, true, true, false, false, false, false, false, false, false, false, false, false, false, false, false, false, false, false, false, false, false, false, false, false]) _ rfl (by kernel_rfl) rfl rfl (Yl.fieldAddr fd25_2 rfl) trivial rfl ?_
        refine HeldK.first 3 (fuel := 21) (listed' := #[true, true, true, true, false, false, false, false, false, false, false, false, false, false, false, false, false, false, false, false, false, false, false, false, false]) _ rfl (by kernel_rfl) rfl rfl (Yl.loadBox on22 rfl (by first | exact .own 0 rfl | exact .own 1 rfl | exact .own 2 rfl | exact .own 3 rfl | exact .own 4 rfl | exact .own 5 rfl | exact .own 6 rfl | exact .own 7 rfl | exact .own 8 rfl | exact .own 9 rfl | exact .own 10 rfl | exact .own 11 rfl | exact .own 12 rfl | assumption | exact BoxS.arg (by assumption)) rfl) trivial rfl ?_
        refine HeldK.first 4 (fuel := 20) (listed' := #[true, true, true, true, true, false, false, false, false, false, false, false, false, false, false, false, false, false, false, false, false, false, false, false, false]) _ rfl (by kernel_rfl) rfl rfl (Yl.move rfl) trivial rfl ?_
        first | refine HeldK.first 5 (fuel := 19) (listed' := #[true, true, true, true, true, true, false, false, false, false, false, false, false, false, false, false, false, false, false, false, false, false, false, false, false]) _ rfl (by kernel_rfl) rfl rfl (Yl.idxN sl22 rfl rfl (by first | exact .arg ‹_› | exact .own 0 rfl | exact .own 1 rfl | exact .own 2 rfl | exact .own 3 rfl | exact .own 4 rfl | exact .own 5 rfl | exact .own 6 rfl | exact .own 7 rfl | exact .own 8 rfl | assumption | exact .own 9 rfl | exact .own 10 rfl | exact .own 11 rfl | exact .own 12 rfl | exact .arg (hNi _ (by omega))) (by decide) (by omega)) trivial rfl ?_ | refine HeldK.first 5 (fuel := 19) (listed' := #[true, true, true, true, true, true, false, false, false, false, false, false, false, false, false, false, false, false, false, false, false, false, false, false, false]) _ rfl (by kernel_rfl) rfl rfl (Yl.idx sl22 rfl rfl (by first | exact .arg ‹_› | exact .own 0 rfl | exact .own 1 rfl | exact .own 2 rfl | exact .own 3 rfl | exact .own 4 rfl | exact .own 5 rfl | exact .own 6 rfl | exact .own 7 rfl | exact .own 8 rfl | assumption | exact .own 9 rfl | exact .own 10 rfl | exact .own 11 rfl | exact .own 12 rfl | exact .arg (hNi _ (by omega))) (by decide) (by omega)) trivial rfl ?_ | refine HeldK.first 5 (fuel := 19) (listed' := #[true, true, true, true, true, true, false, false, false, false, false, false, false, false, false, false, false, false, false, false, false, false, false, false, false]) _ rfl (by kernel_rfl) rfl rfl (Yl.idxK sl22 rfl rfl (by first | exact .arg ‹_› | exact .own 0 rfl | exact .own 1 rfl | exact .own 2 rfl | exact .own 3 rfl | exact .own 4 rfl | exact .own 5 rfl | exact .own 6 rfl | exact .own 7 rfl | exact .own 8 rfl | assumption | exact .own 9 rfl | exact .own 10 rfl | exact .own 11 rfl | exact .own 12 rfl | exact .arg (hNi _ (by omega))) (by decide) (by omega)) trivial rfl ?_
        refine HeldK.first 6 (fuel := 18) (listed' := #[true, true, true, true, true, true, true, false, false, false, false, false, false, false, false, false, false, false, false, false, false, false, false, false, false]) _ rfl (by kernel_rfl) rfl rfl (Yl.loadB on4 rfl (by first | exact .arg ‹_› | exact .own 0 rfl | exact .own 1 rfl | exact .own 2 rfl | exact .own 3 rfl | exact .own 4 rfl | exact .own 5 rfl | exact .own 6 rfl | exact .own 7 rfl | exact .own 8 rfl | assumption | exact .own 9 rfl | exact .own 10 rfl | exact .own 11 rfl | exact .own 12 rfl | exact .arg (hNi _ (by omega))) (by omega)) trivial rfl ?_
        refine HeldK.first 7 (fuel := 17) (listed' := #[true, true, true, true, true, true, true, true, false, false, false, false, false, false, false, false, false, false, false, false, false, false, false, false, false]) _ rfl (by kernel_rfl) rfl rfl (Yl.not rfl) trivial rfl ?_
        refine HeldK.first 10 (fuel := 16) (listed' := #[true, true, true, true, true, true, true, true, false, false, true, false, false, false, false, false, false, false, false, false, false, false, false, false, false]) _ rfl (by kernel_rfl) rfl rfl (Yl.fieldAddr fd25_3 rfl) trivial rfl ?_
        refine HeldK.first 11 (fuel := 15) (listed' := #[true, true, true, true, true, true, true, true, false, false, true, true, false, false, false, false, false, false, false, false, false, false, false, false, false]) _ rfl (by kernel_rfl) rfl rfl (Yl.loadBox on23 rfl (by first | exact .own 0 rfl | exact .own 1 rfl | exact .own 2 rfl | exact .own 3 rfl | exact .own 4 rfl | exact .own 5 rfl | exact .own 6 rfl | exact .own 7 rfl | exact .own 8 rfl | exact .own 9 rfl | exact .own 10 rfl | exact .own 11 rfl | exact .own 12 rfl | assumption | exact BoxS.arg (by assumption)) rfl) trivial rfl ?_
        refine HeldK.first 13 (fuel := 14) (listed' := #[true, true, true, true, true, true, true, true, false, false, true, true, false, true, false, false, false, false, false, false, false, false, false, false, false]) _ rfl (by kernel_rfl) rfl rfl (Yl.fieldAddr fd25_3 rfl) trivial rfl ?_
        refine HeldK.first 14 (fuel := 13) (listed' := #[true, true, true, true, true, true, true, true, false, false, true, true, false, true, true, false, false, false, false, false, false, false, false, false, false]) _ rfl (by kernel_rfl) rfl rfl (Yl.loadBox on23 rfl (by first | exact .own 0 rfl | exact .own 1 rfl | exact .own 2 rfl | exact .own 3 rfl | exact .own 4 rfl | exact .own 5 rfl | exact .own 6 rfl | exact .own 7 rfl | exact .own 8 rfl | exact .own 9 rfl | exact .own 10 rfl | exact .own 11 rfl | exact .own 12 rfl | assumption | exact BoxS.arg (by assumption)) rfl) trivial rfl ?_
        refine HeldK.first 15 (fuel := 12) (listed' := #[true, true, true, true, true, true, true, true, false, false, true, true, false, true, true, true, false, false, false, false, false, false, false, false, false]) _ rfl (by kernel_rfl) rfl rfl (Yl.move rfl) trivial rfl ?_
        first | refine HeldK.first 16 (fuel := 11) (listed' := #[true, true, true, true, true, true, true, true, false, false, true, true, false, true, true, true, true, false, false, false, false, false, false, false, false]) _ rfl (by kernel_rfl) rfl rfl (Yl.idxN sl23 rfl rfl (by first | exact .arg ‹_› | exact .own 0 rfl | exact .own 1 rfl | exact .own 2 rfl | exact .own 3 rfl | exact .own 4 rfl | exact .own 5 rfl | exact .own 6 rfl | exact .own 7 rfl | exact .own 8 rfl | assumption | exact .own 9 rfl | exact .own 10 rfl | exact .own 11 rfl | exact .own 12 rfl | exact .arg (hNi _ (by omega))) (by decide) (by omega)) trivial rfl ?_ | refine HeldK.first 16 (fuel := 11) (listed' := #[true, true, true, true, true, true, true, true, false, false, true, true, false, true, true, true, true, false, false, false, false, false, false, false, false]) _ rfl (by kernel_rfl) rfl rfl (Yl.idx sl23 rfl rfl (by first | exact .arg ‹_› | exact .own 0 rfl | exact .own 1 rfl | exact .own 2 rfl | exact .own 3 rfl | exact .own 4 rfl | exact .own 5 rfl | exact .own 6 rfl | exact .own 7 rfl | exact .own 8 rfl | assumption | exact .own 9 rfl | exact .own 10 rfl | exact .own 11 rfl | exact .own 12 rfl | exact .arg (hNi _ (by omega))) (by decide) (by omega)) trivial rfl ?_ | refine HeldK.first 16 (fuel := 11) (listed' := #[true, true, true, true, true, true, true, true, false, false, true, true, false, true, true, true, true, false, false, false, false, false, false, false, false]) _ rfl (by kernel_rfl) rfl rfl (Yl.idxK sl23 rfl rfl (by first | exact .arg ‹_› | exact .own 0 rfl | exact .own 1 rfl | exact .own 2 rfl | exact .own 3 rfl | exact .own 4 rfl | exact .own 5 rfl | exact .own 6 rfl | exact .own 7 rfl | exact .own 8 rfl | assumption | exact .own 9 rfl | exact .own 10 rfl | exact .own 11 rfl | exact .own 12 rfl | exact .arg (hNi _ (by omega))) (by decide) (by omega)) trivial rfl ?_
        refine HeldK.first 17 (fuel := 10) (listed' := #[true, true, true, true, true, true, true, true, false, false, true, true, false, true, true, true, true, true, false, false, false, false, false, false, false]) _ rfl (by kernel_rfl) rfl rfl (Yl.loadV on38 rfl (by first | exact .arg ‹_› | exact .own 0 rfl | exact .own 1 rfl | exact .own 2 rfl | exact .own 3 rfl | exact .own 4 rfl | exact .own 5 rfl | exact .own 6 rfl | exact .own 7 rfl | exact .own 8 rfl | assumption | exact .own 9 rfl | exact .own 10 rfl | exact .own 11 rfl | exact .own 12 rfl | exact .arg (hNi _ (by omega))) (by omega)) trivial rfl ?_
        refine HeldK.two 8 12 (fuel := 9) (listed1 := #[true, true, true, true, true, true, true, true, true, false, true, true, false, true, true, true, true, true, false, false, false, false, false, false, false]) (listed2 := #[true, true, true, true, true, true, true, true, false, false, true, true, true, true, true, true, true, true, false, false, false, false, false, false, false]) (by kernel_rfl) rfl rfl rfl rfl ?_ ?_
        · refine AK.lit (xs := [.tmp 23]) sl22 el4 rfl rfl rfl (by intro a ha; simp at ha; subst ha; rfl) (by decide) (by decide) trivial rfl (fun t8 => ?_)
          refine AK.nil ?_
          try (conv => enter [2, 2]; dsimp only [List.set_cons_zero, List.set_cons_succ, List.cons_append, List.nil_append])
          refine HeldK.back (by repeat (first | exact HWle.nil | refine HWle.cons Ale.rfl ?_ | refine HWle.cons Ale.fst ?_)) ?_
          refine HeldK.two 9 12 (fuel := 8) (listed1 := #[true, true, true, true, true, true, true, true, true, true, true, true, false, true, true, true, true, true, false, false, false, false, false, false, false]) (listed2 := #[true, true, true, true, true, true, true, true, true, false, true, true, true, true, true, true, true, true, false, false, false, false, false, false, false]) (by kernel_rfl) rfl rfl rfl rfl ?_ ?_
          · refine AK.appendH 3 rfl sl22 el4 rfl (by decide) rfl rfl rfl (by first | exact .arg ‹_› | exact .own 0 rfl | exact .own 1 rfl | exact .own 2 rfl | exact .own 3 rfl | exact .own 4 rfl | exact .own 5 rfl | exact .own 6 rfl | exact .own 7 rfl | exact .own 8 rfl | assumption | exact .own 9 rfl | exact .own 10 rfl | exact .own 11 rfl | exact .own 12 rfl | exact .arg (hNi _ (by omega))) (by repeat (first | exact one'_nil | refine one'_cons (by first | rfl | exact IsSl.one (by assumption) | exact IsSl.one nilSl) ?_)) (by omega) (by omega) trivial rfl (fun vf2 hf2 => ?_)
            refine AK.nil ?_
            try (conv => enter [2, 2]; dsimp only [List.set_cons_zero, List.set_cons_succ, List.cons_append, List.nil_append])
            refine HeldK.back (by repeat (first | exact HWle.nil | refine HWle.cons Ale.rfl ?_ | refine HWle.cons Ale.fst ?_)) ?_
            refine HeldK.first 21 (fuel := 7) (listed' := #[true, true, true, true, true, true, true, true, true, true, true, true, false, true, true, true, true, true, false, false, false, true, false, false, false]) _ rfl (by kernel_rfl) rfl rfl (Yl.fieldAddr fd25_2 rfl) trivial rfl ?_
            refine HeldK.one 12 (fuel := 6) (listed' := #[true, true, true, true, true, true, true, true, true, true, true, true, true, true, true, true, true, true, false, false, false, true, false, false, false]) (by kernel_rfl) rfl rfl ?_
            refine AK.lit (xs := []) sl38 el3 rfl rfl rfl (by intro a ha; cases ha) (by decide) (by decide) trivial rfl (fun t12 => ?_)
            refine AK.nil ?_
            try (conv => enter [2, 2]; dsimp only [List.set_cons_zero, List.set_cons_succ, List.cons_append, List.nil_append])
            refine HeldK.back (by repeat (first | exact HWle.nil | refine HWle.cons Ale.rfl ?_ | refine HWle.cons Ale.fst ?_)) ?_
            refine HeldK.one 18 (fuel := 5) (listed' := #[true, true, true, true, true, true, true, true, true, true, true, true, true, true, true, true, true, true, true, false, false, true, false, false, false]) (by kernel_rfl) rfl rfl ?_
            first | refine AK.appendH 7 rfl sl38 el3 rfl (by decide) rfl rfl rfl (.arg (hNi _ (by omega))) (one'_map _ (fun _ => rfl) _) (by omega) (by omega) trivial rfl (fun vc hvc => ?_) | refine AK.appendH 6 rfl sl38 el3 rfl (by decide) rfl rfl rfl (.arg (hNi _ (by omega))) (one'_map _ (fun _ => rfl) _) (by omega) (by omega) trivial rfl (fun vc hvc => ?_)
            refine AK.nil ?_
            try (conv => enter [2, 2]; dsimp only [List.set_cons_zero, List.set_cons_succ, List.cons_append, List.nil_append])
            refine HeldK.back (by repeat (first | exact HWle.nil | refine HWle.cons Ale.rfl ?_ | refine HWle.cons Ale.fst ?_)) ?_
            refine HeldK.one 19 (fuel := 4) (listed' := #[true, true, true, true, true, true, true, true, true, true, true, true, true, true, true, true, true, true, true, true, false, true, false, false, false]) (by kernel_rfl) rfl rfl ?_
            refine AK.lit (xs := [.tmp 34]) sl23 el38 rfl rfl rfl (by intro a ha; simp at ha; subst ha; rw [hvc.cells]; rfl) (by decide) (by decide) trivial rfl (fun t19 => ?_)
            refine AK.nil ?_
            try (conv => enter [2, 2]; dsimp only [List.set_cons_zero, List.set_cons_succ, List.cons_append, List.nil_append])
            refine HeldK.back (by repeat (first | exact HWle.nil | refine HWle.cons Ale.rfl ?_ | refine HWle.cons Ale.fst ?_)) ?_
            refine HeldK.one 20 (fuel := 3) (listed' := #[true, true, true, true, true, true, true, true, true, true, true, true, true, true, true, true, true, true, true, true, true, true, false, false, false]) (by kernel_rfl) rfl rfl ?_
            refine AK.appendH 4 rfl sl23 el38 rfl (by decide) rfl rfl rfl (by first | exact .arg ‹_› | exact .own 0 rfl | exact .own 1 rfl | exact .own 2 rfl | exact .own 3 rfl | exact .own 4 rfl | exact .own 5 rfl | exact .own 6 rfl | exact .own 7 rfl | exact .own 8 rfl | assumption | exact .own 9 rfl | exact .own 10 rfl | exact .own 11 rfl | exact .own 12 rfl | exact .arg (hNi _ (by omega))) (by rw [show [vc].flatMap (·.cells.toList) = [vc] by simp [hvc.cells]]; exact one'_cons hvc.one one'_nil) (by omega) (by omega) trivial rfl (fun vn2 hn2 => ?_)
            refine AK.nil ?_
            try (conv => enter [2, 2]; dsimp only [List.set_cons_zero, List.set_cons_succ, List.cons_append, List.nil_append])
            refine HeldK.back (by repeat (first | exact HWle.nil | refine HWle.cons Ale.rfl ?_ | refine HWle.cons Ale.fst ?_)) ?_
            refine HeldK.one 22 (fuel := 2) (listed' := #[true, true, true, true, true, true, true, true, true, true, true, true, true, true, true, true, true, true, true, true, true, true, true, false, false]) (by kernel_rfl) rfl rfl ?_
            refine AK.storeBox 2 (us := [vf2]) (cs' := [.int .i64 d.L, .int .i64 d.s, vf2, x.2.2.1]) rfl sz22 rfl rfl (by rw [IsSl.cells (by assumption)]) rfl (by repeat (first | exact one'_nil | refine one'_cons (by first | rfl | exact IsSl.one (by assumption) | exact IsSl.one nilSl) ?_)) (Nat.le_of_ble_eq_true rfl) rfl trivial ?_
            refine AK.nil ?_
            try (conv => enter [2, 2]; dsimp only [List.set_cons_zero, List.set_cons_succ, List.cons_append, List.nil_append])
            refine HeldK.backN 23 rfl rfl (by kernel_rfl) ?_
            refine AK.val _ (Yl.fieldAddr fd25_3 rfl) trivial rfl ?_
            refine AK.storeBox 2 (us := [vn2]) (cs' := [.int .i64 d.L, .int .i64 d.s, vf2, vn2]) rfl sz23 rfl rfl (by rw [IsSl.cells (by assumption)]) rfl (by repeat (first | exact one'_nil | refine one'_cons (by first | rfl | exact IsSl.one (by assumption) | exact IsSl.one nilSl) ?_)) (Nat.le_of_ble_eq_true rfl) rfl trivial ?_
            refine AK.nil ?_
            refine AK.fromQn ?_
            exact hJ _ _ ((vf2, vn2, vc)) ⟨hf2, hn2, hvc⟩ (.cons rfl (.cons rfl (.cons rfl (.cons rfl (.cons rfl (.nil)))))) (fun w hw => by first | (refine hw.pickLe [0, 1, 2, 3, 4, 5, 6] (by decide) ?_; (repeat (first | exact PickLe.nil | refine PickLe.cons rfl Ale.rfl ?_ | refine PickLe.cons rfl Ale.snd ?_ | refine PickLe.cons rfl Ale.fst ?_)); done) | (refine hw.pickLe [0, 1, 2, 3, 4, 5, 7] (by decide) ?_; (repeat (first | exact PickLe.nil | refine PickLe.cons rfl Ale.rfl ?_ | refine PickLe.cons rfl Ale.snd ?_ | refine PickLe.cons rfl Ale.fst ?_)); done))
          · refine AK.lit (xs := []) sl38 el3 rfl rfl rfl (by intro a ha; cases ha) (by decide) (by decide) trivial rfl (fun t12 => ?_)
            refine AK.nil ?_
            try (conv => enter [2, 2]; dsimp only [List.set_cons_zero, List.set_cons_succ, List.cons_append, List.nil_append])
            refine HeldK.back (by repeat (first | exact HWle.nil | refine HWle.cons Ale.rfl ?_ | refine HWle.cons Ale.fst ?_)) ?_
            refine HeldK.one 9 (fuel := 7) (listed' := #[true, true, true, true, true, true, true, true, true, true, true, true, true, true, true, true, true, true, false, false, false, false, false, false, false]) (by kernel_rfl) rfl rfl ?_
            refine AK.appendH 3 rfl sl22 el4 rfl (by decide) rfl rfl rfl (by first | exact .arg ‹_› | exact .own 0 rfl | exact .own 1 rfl | exact .own 2 rfl | exact .own 3 rfl | exact .own 4 rfl | exact .own 5 rfl | exact .own 6 rfl | exact .own 7 rfl | exact .own 8 rfl | assumption | exact .own 9 rfl | exact .own 10 rfl | exact .own 11 rfl | exact .own 12 rfl | exact .arg (hNi _ (by omega))) (by repeat (first | exact one'_nil | refine one'_cons (by first | rfl | exact IsSl.one (by assumption) | exact IsSl.one nilSl) ?_)) (by omega) (by omega) trivial rfl (fun vf2 hf2 => ?_)
            refine AK.nil ?_
            try (conv => enter [2, 2]; dsimp only [List.set_cons_zero, List.set_cons_succ, List.cons_append, List.nil_append])
            refine HeldK.back (by repeat (first | exact HWle.nil | refine HWle.cons Ale.rfl ?_ | refine HWle.cons Ale.fst ?_)) ?_
            refine HeldK.first 21 (fuel := 6) (listed' := #[true, true, true, true, true, true, true, true, true, true, true, true, true, true, true, true, true, true, false, false, false, true, false, false, false]) _ rfl (by kernel_rfl) rfl rfl (Yl.fieldAddr fd25_2 rfl) trivial rfl ?_
            refine HeldK.one 18 (fuel := 5) (listed' := #[true, true, true, true, true, true, true, true, true, true, true, true, true, true, true, true, true, true, true, false, false, true, false, false, false]) (by kernel_rfl) rfl rfl ?_
            first | refine AK.appendH 7 rfl sl38 el3 rfl (by decide) rfl rfl rfl (.arg (hNi _ (by omega))) (one'_map _ (fun _ => rfl) _) (by omega) (by omega) trivial rfl (fun vc hvc => ?_) | refine AK.appendH 6 rfl sl38 el3 rfl (by decide) rfl rfl rfl (.arg (hNi _ (by omega))) (one'_map _ (fun _ => rfl) _) (by omega) (by omega) trivial rfl (fun vc hvc => ?_)
            refine AK.nil ?_
            try (conv => enter [2, 2]; dsimp only [List.set_cons_zero, List.set_cons_succ, List.cons_append, List.nil_append])
            refine HeldK.back (by repeat (first | exact HWle.nil | refine HWle.cons Ale.rfl ?_ | refine HWle.cons Ale.fst ?_)) ?_
            refine HeldK.one 19 (fuel := 4) (listed' := #[true, true, true, true, true, true, true, true, true, true, true, true, true, true, true, true, true, true, true, true, false, true, false, false, false]) (by kernel_rfl) rfl rfl ?_
            refine AK.lit (xs := [.tmp 34]) sl23 el38 rfl rfl rfl (by intro a ha; simp at ha; subst ha; rw [hvc.cells]; rfl) (by decide) (by decide) trivial rfl (fun t19 => ?_)
            refine AK.nil ?_
            try (conv => enter [2, 2]; dsimp only [List.set_cons_zero, List.set_cons_succ, List.cons_append, List.nil_append])
            refine HeldK.back (by repeat (first | exact HWle.nil | refine HWle.cons Ale.rfl ?_ | refine HWle.cons Ale.fst ?_)) ?_
            refine HeldK.one 20 (fuel := 3) (listed' := #[true, true, true, true, true, true, true, true, true, true, true, true, true, true, true, true, true, true, true, true, true, true, false, false, false]) (by kernel_rfl) rfl rfl ?_
            refine AK.appendH 4 rfl sl23 el38 rfl (by decide) rfl rfl rfl (by first | exact .arg ‹_› | exact .own 0 rfl | exact .own 1 rfl | exact .own 2 rfl | exact .own 3 rfl | exact .own 4 rfl | exact .own 5 rfl | exact .own 6 rfl | exact .own 7 rfl | exact .own 8 rfl | assumption | exact .own 9 rfl | exact .own 10 rfl | exact .own 11 rfl | exact .own 12 rfl | exact .arg (hNi _ (by omega))) (by rw [show [vc].flatMap (·.cells.toList) = [vc] by simp [hvc.cells]]; exact one'_cons hvc.one one'_nil) (by omega) (by omega) trivial rfl (fun vn2 hn2 => ?_)
            refine AK.nil ?_
            try (conv => enter [2, 2]; dsimp only [List.set_cons_zero, List.set_cons_succ, List.cons_append, List.nil_append])
            refine HeldK.back (by repeat (first | exact HWle.nil | refine HWle.cons Ale.rfl ?_ | refine HWle.cons Ale.fst ?_)) ?_
            refine HeldK.one 22 (fuel := 2) (listed' := #[true, true, true, true, true, true, true, true, true, true, true, true, true, true, true, true, true, true, true, true, true, true, true, false, false]) (by kernel_rfl) rfl rfl ?_
            refine AK.storeBox 2 (us := [vf2]) (cs' := [.int .i64 d.L, .int .i64 d.s, vf2, x.2.2.1]) rfl sz22 rfl rfl (by rw [IsSl.cells (by assumption)]) rfl (by repeat (first | exact one'_nil | refine one'_cons (by first | rfl | exact IsSl.one (by assumption) | exact IsSl.one nilSl) ?_)) (Nat.le_of_ble_eq_true rfl) rfl trivial ?_
            refine AK.nil ?_
            try (conv => enter [2, 2]; dsimp only [List.set_cons_zero, List.set_cons_succ, List.cons_append, List.nil_append])
            refine HeldK.backN 23 rfl rfl (by kernel_rfl) ?_
            refine AK.val _ (Yl.fieldAddr fd25_3 rfl) trivial rfl ?_
            refine AK.storeBox 2 (us := [vn2]) (cs' := [.int .i64 d.L, .int .i64 d.s, vf2, vn2]) rfl sz23 rfl rfl (by rw [IsSl.cells (by assumption)]) rfl (by repeat (first | exact one'_nil | refine one'_cons (by first | rfl | exact IsSl.one (by assumption) | exact IsSl.one nilSl) ?_)) (Nat.le_of_ble_eq_true rfl) rfl trivial ?_
            refine AK.nil ?_
            refine AK.fromQn ?_
            exact hJ _ _ ((vf2, vn2, vc)) ⟨hf2, hn2, hvc⟩ (.cons rfl (.cons rfl (.cons rfl (.cons rfl (.cons rfl (.nil)))))) (fun w hw => by first | (refine hw.pickLe [0, 1, 2, 3, 4, 5, 6] (by decide) ?_; (repeat (first | exact PickLe.nil | refine PickLe.cons rfl Ale.rfl ?_ | refine PickLe.cons rfl Ale.snd ?_ | refine PickLe.cons rfl Ale.fst ?_)); done) | (refine hw.pickLe [0, 1, 2, 3, 4, 5, 7] (by decide) ?_; (repeat (first | exact PickLe.nil | refine PickLe.cons rfl Ale.rfl ?_ | refine PickLe.cons rfl Ale.snd ?_ | refine PickLe.cons rfl Ale.fst ?_)); done))
        · refine AK.lit (xs := []) sl38 el3 rfl rfl rfl (by intro a ha; cases ha) (by decide) (by decide) trivial rfl (fun t12 => ?_)
          refine AK.nil ?_
          try (conv => enter [2, 2]; dsimp only [List.set_cons_zero, List.set_cons_succ, List.cons_append, List.nil_append])
          refine HeldK.back (by repeat (first | exact HWle.nil | refine HWle.cons Ale.rfl ?_ | refine HWle.cons Ale.fst ?_)) ?_
          refine HeldK.one 8 (fuel := 8) (listed' := #[true, true, true, true, true, true, true, true, true, false, true, true, true, true, true, true, true, true, false, false, false, false, false, false, false]) (by kernel_rfl) rfl rfl ?_
          refine AK.lit (xs := [.tmp 23]) sl22 el4 rfl rfl rfl (by intro a ha; simp at ha; subst ha; rfl) (by decide) (by decide) trivial rfl (fun t8 => ?_)
          refine AK.nil ?_
          try (conv => enter [2, 2]; dsimp only [List.set_cons_zero, List.set_cons_succ, List.cons_append, List.nil_append])
          refine HeldK.back (by repeat (first | exact HWle.nil | refine HWle.cons Ale.rfl ?_ | refine HWle.cons Ale.fst ?_)) ?_
          refine HeldK.one 9 (fuel := 7) (listed' := #[true, true, true, true, true, true, true, true, true, true, true, true, true, true, true, true, true, true, false, false, false, false, false, false, false]) (by kernel_rfl) rfl rfl ?_
          refine AK.appendH 3 rfl sl22 el4 rfl (by decide) rfl rfl rfl (by first | exact .arg ‹_› | exact .own 0 rfl | exact .own 1 rfl | exact .own 2 rfl | exact .own 3 rfl | exact .own 4 rfl | exact .own 5 rfl | exact .own 6 rfl | exact .own 7 rfl | exact .own 8 rfl | assumption | exact .own 9 rfl | exact .own 10 rfl | exact .own 11 rfl | exact .own 12 rfl | exact .arg (hNi _ (by omega))) (by repeat (first | exact one'_nil | refine one'_cons (by first | rfl | exact IsSl.one (by assumption) | exact IsSl.one nilSl) ?_)) (by omega) (by omega) trivial rfl (fun vf2 hf2 => ?_)
          refine AK.nil ?_
          try (conv => enter [2, 2]; dsimp only [List.set_cons_zero, List.set_cons_succ, List.cons_append, List.nil_append])
          refine HeldK.back (by repeat (first | exact HWle.nil | refine HWle.cons Ale.rfl ?_ | refine HWle.cons Ale.fst ?_)) ?_
          refine HeldK.first 21 (fuel := 6) (listed' := #[true, true, true, true, true, true, true, true, true, true, true, true, true, true, true, true, true, true, false, false, false, true, false, false, false]) _ rfl (by kernel_rfl) rfl rfl (Yl.fieldAddr fd25_2 rfl) trivial rfl ?_
          refine HeldK.one 18 (fuel := 5) (listed' := #[true, true, true, true, true, true, true, true, true, true, true, true, true, true, true, true, true, true, true, false, false, true, false, false, false]) (by kernel_rfl) rfl rfl ?_
          first | refine AK.appendH 7 rfl sl38 el3 rfl (by decide) rfl rfl rfl (.arg (hNi _ (by omega))) (one'_map _ (fun _ => rfl) _) (by omega) (by omega) trivial rfl (fun vc hvc => ?_) | refine AK.appendH 6 rfl sl38 el3 rfl (by decide) rfl rfl rfl (.arg (hNi _ (by omega))) (one'_map _ (fun _ => rfl) _) (by omega) (by omega) trivial rfl (fun vc hvc => ?_)
          refine AK.nil ?_
          try (conv => enter [2, 2]; dsimp only [List.set_cons_zero, List.set_cons_succ, List.cons_append, List.nil_append])
          refine HeldK.back (by repeat (first | exact HWle.nil | refine HWle.cons Ale.rfl ?_ | refine HWle.cons Ale.fst ?_)) ?_
          refine HeldK.one 19 (fuel := 4) (listed' := #[true, true, true, true, true, true, true, true, true, true, true, true, true, true, true, true, true, true, true, true, false, true, false, false, false]) (by kernel_rfl) rfl rfl ?_
          refine AK.lit (xs := [.tmp 34]) sl23 el38 rfl rfl rfl (by intro a ha; simp at ha; subst ha; rw [hvc.cells]; rfl) (by decide) (by decide) trivial rfl (fun t19 => ?_)
          refine AK.nil ?_
          try (conv => enter [2, 2]; dsimp only [List.set_cons_zero, List.set_cons_succ, List.cons_append, List.nil_append])
          refine HeldK.back (by repeat (first | exact HWle.nil | refine HWle.cons Ale.rfl ?_ | refine HWle.cons Ale.fst ?_)) ?_
          refine HeldK.one 20 (fuel := 3) (listed' := #[true, true, true, true, true, true, true, true, true, true, true, true, true, true, true, true, true, true, true, true, true, true, false, false, false]) (by kernel_rfl) rfl rfl ?_
          refine AK.appendH 4 rfl sl23 el38 rfl (by decide) rfl rfl rfl (by first | exact .arg ‹_› | exact .own 0 rfl | exact .own 1 rfl | exact .own 2 rfl | exact .own 3 rfl | exact .own 4 rfl | exact .own 5 rfl | exact .own 6 rfl | exact .own 7 rfl | exact .own 8 rfl | assumption | exact .own 9 rfl | exact .own 10 rfl | exact .own 11 rfl | exact .own 12 rfl | exact .arg (hNi _ (by omega))) (by rw [show [vc].flatMap (·.cells.toList) = [vc] by simp [hvc.cells]]; exact one'_cons hvc.one one'_nil) (by omega) (by omega) trivial rfl (fun vn2 hn2 => ?_)
          refine AK.nil ?_
          try (conv => enter [2, 2]; dsimp only [List.set_cons_zero, List.set_cons_succ, List.cons_append, List.nil_append])
          refine HeldK.back (by repeat (first | exact HWle.nil | refine HWle.cons Ale.rfl ?_ | refine HWle.cons Ale.fst ?_)) ?_
          refine HeldK.one 22 (fuel := 2) (listed' := #[true, true, true, true, true, true, true, true, true, true, true, true, true, true, true, true, true, true, true, true, true, true, true, false, false]) (by kernel_rfl) rfl rfl ?_
          refine AK.storeBox 2 (us := [vf2]) (cs' := [.int .i64 d.L, .int .i64 d.s, vf2, x.2.2.1]) rfl sz22 rfl rfl (by rw [IsSl.cells (by assumption)]) rfl (by repeat (first | exact one'_nil | refine one'_cons (by first | rfl | exact IsSl.one (by assumption) | exact IsSl.one nilSl) ?_)) (Nat.le_of_ble_eq_true rfl) rfl trivial ?_
          refine AK.nil ?_
          try (conv => enter [2, 2]; dsimp only [List.set_cons_zero, List.set_cons_succ, List.cons_append, List.nil_append])
          refine HeldK.backN 23 rfl rfl (by kernel_rfl) ?_
          refine AK.val _ (Yl.fieldAddr fd25_3 rfl) trivial rfl ?_
          refine AK.storeBox 2 (us := [vn2]) (cs' := [.int .i64 d.L, .int .i64 d.s, vf2, vn2]) rfl sz23 rfl rfl (by rw [IsSl.cells (by assumption)]) rfl (by repeat (first | exact one'_nil | refine one'_cons (by first | rfl | exact IsSl.one (by assumption) | exact IsSl.one nilSl) ?_)) (Nat.le_of_ble_eq_true rfl) rfl trivial ?_
          refine AK.nil ?_
          refine AK.fromQn ?_
          exact hJ _ _ ((vf2, vn2, vc)) ⟨hf2, hn2, hvc⟩ (.cons rfl (.cons rfl (.cons rfl (.cons rfl (.cons rfl (.nil)))))) (fun w hw => by first | (refine hw.pickLe [0, 1, 2, 3, 4, 5, 6] (by decide) ?_; (repeat (first | exact PickLe.nil | refine PickLe.cons rfl Ale.rfl ?_ | refine PickLe.cons rfl Ale.snd ?_ | refine PickLe.cons rfl Ale.fst ?_)); done) | (refine hw.pickLe [0, 1, 2, 3, 4, 5, 7] (by decide) ?_; (repeat (first | exact PickLe.nil | refine PickLe.cons rfl Ale.rfl ?_ | refine PickLe.cons rfl Ale.snd ?_ | refine PickLe.cons rfl Ale.fst ?_)); done))
      · skip
        refine AK.block_normal ?_
        refine AK.then_ (hK8 _ ?_)
        refine AK.region ?_
        refine AK.val _ (Yl.add rfl rfl (by omega)) trivial rfl ?_
        refine AK.val _ (Yl.move rfl) trivial rfl ?_
        refine AK.nil ?_
        refine AK.then_ (hK5 _ _ ((x.1 + 1, z.1, z.2.1, x.2.2.2 ++ [z.2.2])) ⟨by dsimp only; omega, by simp [hg0.2.1], hg.1, hg.2.1⟩ (by dsimp only; omega) (.cons (rfl) (.cons rfl (.cons rfl (.cons rfl (.cons rfl (.nil)))))) (fun w hw => by
    dsimp only
    have e1 : ((d.fin.take (x.1 + 1)).map (!·)).map Value.bool = ((d.fin.take x.1).map (!·)).map Value.bool ++ [Value.bool (!d.fin.getD x.1 false)] := (by rw [take_snocD false d.fin x.1 (by omega)]; simp)
    rw [e1, take_snocD [] d.nx x.1 (by omega), matG_snoc (by rw [List.length_take, hg0.2.1]; omega)]
    have e3 : [z.2.2].flatMap (·.cells.toList) = [z.2.2] := (by simp [hg.2.2.cells])
    rw [e3, Nat.zero_add] at hw
    exact HW.absorb (own := [_, _, _, _, _, _]) 5 rfl hw))
    · refine AK.exit ?_
      refine AK.then_exit ?_
      refine AK.then_exit ?_
      refine AK.block_exit ?_
      refine AK.then_ (hK3 _ ?_)
      refine AK.seq (fun _ hK10 => ?_)
      refine AK.region ?_
      refine AK.val _ (Yl.loadBoxG ag25 rfl (by first | exact .own 0 rfl | exact .own 1 rfl | exact .own 2 rfl | exact .own 3 rfl | exact .own 4 rfl | exact .own 5 rfl | exact .own 6 rfl | exact .own 7 rfl | exact .own 8 rfl | exact .own 9 rfl | exact .own 10 rfl | exact .own 11 rfl | exact .own 12 rfl | assumption | exact BoxS.arg (by assumption)) rfl rfl) trivial rfl ?_
      refine AK.storeBox 1 (us := [.int .i64 d.L, .int .i64 d.s, x.2.1, x.2.2.1]) (cs' := [.int .i64 d.L, .int .i64 d.s, x.2.1, x.2.2.1]) rfl sz25 rfl rfl rfl rfl (by repeat (first | exact one'_nil | refine one'_cons (by first | rfl | exact IsSl.one (by assumption) | exact IsSl.one nilSl) ?_)) (Nat.le_of_ble_eq_true rfl) rfl trivial ?_
      refine AK.nil ?_
      refine AK.then_ (hK10 _ ?_)
      refine AK.ret ?_
      refine AK.own' ([box bx1 25 4 [.int .i64 d.L, .int .i64 d.s, vF, vN], box bx2 25 4 [.int .i64 d.L, .int .i64 d.s, x.2.1, x.2.2.1], box bx3 25 4 [.int .i64 d.L, .int .i64 d.s, x.2.1, x.2.2.1], row x.2.1 4 1 x.1 (((d.fin.take x.1).map (!·)).map Value.bool), row x.2.2.1 38 1 x.1 x.2.2.2, bigA (matG (Value.int .i64) 3 x.2.2.2 (d.nx.take x.1))]) (fun w hw => hw) ?_
      refine AK.retG [.cell 2 25] rfl (.cons (.cell ag25 rfl (by first | exact .own 0 rfl | exact .own 1 rfl | exact .own 2 rfl | exact .own 3 rfl | exact .own 4 rfl | exact .own 5 rfl | exact .own 6 rfl | exact .own 7 rfl | exact .own 8 rfl | exact .own 9 rfl | exact .own 10 rfl | exact .own 11 rfl | exact .own 12 rfl | assumption | exact BoxS.arg (by assumption)) rfl rfl) (.nil)) (fun w hw => ⟨_, _, ?_, rfl, Ret.of (hw.pick [3, 4, 5] (by decide) rfl rfl)⟩)
      rw [show CompV d = compD d from if_pos hv]
      have e : x.1 = d.fin.length := (by omega)
      refine ⟨x.2.1, x.2.2.1, x.2.2.2, rfl, ?_, hg0.2.2.1, hg0.2.2.2, ?_⟩
      · rw [hg0.2.1, e]; exact hnx.symm
      · unfold dfaO compD; rw [e, List.take_length, List.length_map]; rw [show d.nx.take d.fin.length = d.nx by rw [← hnx, List.take_length], hnx]; rfl

end Go.Proofs.Ytmfakjfkjoichaa
