import Derived.Test.YtoikhoniogicdaaD17
import Derived.Test.YtoikhoniogicdaaD9
import Derived.Test.YtoikhoniogicdaaDm
set_option linter.unusedVariables false
set_option linter.unusedSimpArgs false
namespace Go.Proofs.Ytoikhoniogicdaa
open Go.Sx Go.RowKit
theorem acc_vd {d : Dfa} {x : Nat} (h : x < (AccW d).length) : VD d ∧ AccW d = TWo d ∧ x < (TSt d).length ∧ (TrimV d) = trimD d := by
  by_cases hv : VD d
  · have e : AccW d = TWo d := if_pos hv
    exact ⟨hv, e, by rw [e, two_len hv] at h; exact h, if_pos hv⟩
  · rw [show AccW d = [] from if_neg hv] at h; simp at h
theorem trim_fin {d : Dfa} {i : Nat} (hi : i < (TSt d).length) : (trimD d).fin.getD i false = finQ d ((TSt d).getD i 0) := by
  simp [trimD, List.getD_eq_getElem?_getD, hi]
theorem acc_len (d : Dfa) : (AccW d).length = (TrimV d).fin.length := by
  unfold AccW TrimV
  split
  · rename_i hv; rw [two_len hv]; simp [trimD]
  · rfl
set_option maxRecDepth 100000 in
theorem s_compare (w : World) (u v : List UInt8) : CallS Try.prog 30 [sv u, sv v] w (fun r o => r = .int .i64 (CmpV u v) ∧ o = []) := by
  refine spec_of Try.func30 rfl (Nat.le_of_ble_eq_true rfl) ?_
  refine AK.seq (fun _ hK1 => ?_)
  refine AK.region ?_
  refine AK.val _ (Yl.assign rfl) trivial rfl ?_
  refine AK.nil ?_
  refine AK.then_ (hK1 _ ?_)
  refine AK.seq (fun _ hK2 => ?_)
  refine AK.block ?_
  refine AK.seq (fun _ hK3 => ?_)
  refine AK.region ?_
  refine AK.val _ (Yl.move rfl) trivial rfl ?_
  refine AK.val _ (Yl.lenS un9 rfl) trivial rfl ?_
  refine AK.val _ (Yl.move rfl) trivial rfl ?_
  refine AK.val _ (Yl.lenS un9 rfl) trivial rfl ?_
  refine AK.val _ (Yl.lss rfl rfl) trivial rfl ?_
  refine AK.val _ (Yl.move rfl) trivial rfl ?_
  refine AK.splitB (g := 11) rfl (fun hg_1_5 => ?_) (fun hg_1_5 => ?_)
  · have hg_1_5' := hg_1_5
    try simp only [decide_eq_true_eq, decide_eq_false_iff_not, Bool.not_eq_true', Bool.not_eq_false', Bool.not_not, ne_eq, Decidable.not_not, Int.not_lt, Int.not_le, beq_iff_eq, bne_iff_ne, Bool.and_eq_true, Bool.or_eq_true, Bool.or_eq_false_iff, Bool.not_false, Bool.not_true, reduceCtorEq, not_true_eq_false, not_false_eq_true] at hg_1_5'
    refine AK.pass rfl rfl (hg_1_5) rfl ?_
    refine AK.pass rfl rfl (hg_1_5) rfl ?_
    refine AK.pass rfl rfl (hg_1_5) rfl ?_
    refine AK.pass rfl rfl (hg_1_5) rfl ?_
    refine AK.pass rfl rfl (hg_1_5) rfl ?_
    refine AK.pass rfl rfl (hg_1_5) rfl ?_
    refine AK.pass rfl rfl trivial rfl ?_
    refine AK.pass rfl rfl trivial rfl ?_
    refine AK.pass rfl rfl trivial rfl ?_
    refine AK.pass rfl rfl (hg_1_5) rfl ?_
    refine AK.val _ (Yl.pickT rfl (hg_1_5) rfl) trivial rfl ?_
    refine AK.val _ (Yl.assign rfl) trivial rfl ?_
    refine AK.nil ?_
    refine AK.then_ (hK3 _ ?_)
    refine AK.cond_t rfl (rfl) ?_
    refine AK.seq (fun _ hK4 => ?_)
    refine AK.region ?_
    refine AK.val _ (Yl.assign rfl) trivial rfl ?_
    refine AK.nil ?_
    refine AK.then_ (hK4 _ ?_)
    refine AK.ret ?_
    refine AK.block_ret ?_
    refine AK.then_ret ?_
    refine AK.ret1 rfl rfl (fun w hw => ⟨_, _, ?_, rfl, Ret.of (hw.pick [] (by decide) rfl rfl)⟩)
    exact ⟨congrArg (Value.int .i64) (by unfold CmpV slx; first | (simp_all; done) | (simp_all; omega)), rfl⟩
  · have hg_1_5' := hg_1_5
    try simp only [decide_eq_true_eq, decide_eq_false_iff_not, Bool.not_eq_true', Bool.not_eq_false', Bool.not_not, ne_eq, Decidable.not_not, Int.not_lt, Int.not_le, beq_iff_eq, bne_iff_ne, Bool.and_eq_true, Bool.or_eq_true, Bool.or_eq_false_iff, Bool.not_false, Bool.not_true, reduceCtorEq, not_true_eq_false, not_false_eq_true] at hg_1_5'
    refine AK.val _ (Yl.move rfl) ⟨_, rfl, congrArg (fun b => some (Value.bool b)) hg_1_5⟩ rfl ?_
    refine AK.val _ (Yl.lenS un9 rfl) ⟨_, rfl, congrArg (fun b => some (Value.bool b)) hg_1_5⟩ rfl ?_
    refine AK.val _ (Yl.move rfl) ⟨_, rfl, congrArg (fun b => some (Value.bool b)) hg_1_5⟩ rfl ?_
    refine AK.val _ (Yl.lenS un9 rfl) ⟨_, rfl, congrArg (fun b => some (Value.bool b)) hg_1_5⟩ rfl ?_
    refine AK.val _ (Yl.eql rfl rfl) ⟨_, rfl, congrArg (fun b => some (Value.bool b)) hg_1_5⟩ rfl ?_
    refine AK.val _ (Yl.move rfl) ⟨_, rfl, congrArg (fun b => some (Value.bool b)) hg_1_5⟩ rfl ?_
    refine AK.splitB (g := 17) rfl (fun hg_1_11 => ?_) (fun hg_1_11 => ?_)
    · have hg_1_11' := hg_1_11
      try simp only [decide_eq_true_eq, decide_eq_false_iff_not, Bool.not_eq_true', Bool.not_eq_false', Bool.not_not, ne_eq, Decidable.not_not, Int.not_lt, Int.not_le, beq_iff_eq, bne_iff_ne, Bool.and_eq_true, Bool.or_eq_true, Bool.or_eq_false_iff, Bool.not_false, Bool.not_true, reduceCtorEq, not_true_eq_false, not_false_eq_true] at hg_1_11'
      refine AK.val _ (Yl.move rfl) ⟨_, rfl, congrArg (fun b => some (Value.bool b)) hg_1_11⟩ rfl ?_
      refine AK.val _ (Yl.move rfl) ⟨_, rfl, congrArg (fun b => some (Value.bool b)) hg_1_11⟩ rfl ?_
      refine AK.val _ (Yl.lssS rfl rfl) ⟨_, rfl, congrArg (fun b => some (Value.bool b)) hg_1_11⟩ rfl ?_
      refine AK.val _ (Yl.pickT rfl (hg_1_11) rfl) ⟨_, rfl, congrArg (fun b => some (Value.bool b)) hg_1_5⟩ rfl ?_
      refine AK.val _ (Yl.pickF rfl (hg_1_5) rfl) trivial rfl ?_
      refine AK.val _ (Yl.assign rfl) trivial rfl ?_
      refine AK.nil ?_
      refine AK.then_ (hK3 _ ?_)
      refine AK.cond rfl (fun hc0 => ?_) (fun hc0 => ?_)
      · try simp only [decide_eq_true_eq, decide_eq_false_iff_not, Bool.not_eq_true', Bool.not_eq_false', Bool.not_not, ne_eq, Decidable.not_not, Int.not_lt, Int.not_le, beq_iff_eq, bne_iff_ne, Bool.and_eq_true, Bool.or_eq_true, Bool.or_eq_false_iff, Bool.not_false, Bool.not_true, reduceCtorEq, not_true_eq_false, not_false_eq_true] at hc0
        refine AK.seq (fun _ hK5 => ?_)
        refine AK.region ?_
        refine AK.val _ (Yl.assign rfl) trivial rfl ?_
        refine AK.nil ?_
        refine AK.then_ (hK5 _ ?_)
        refine AK.ret ?_
        refine AK.block_ret ?_
        refine AK.then_ret ?_
        refine AK.ret1 rfl rfl (fun w hw => ⟨_, _, ?_, rfl, Ret.of (hw.pick [] (by decide) rfl rfl)⟩)
        exact ⟨congrArg (Value.int .i64) (by unfold CmpV slx; first | (simp_all; done) | (simp_all; omega)), rfl⟩
      · try simp only [decide_eq_true_eq, decide_eq_false_iff_not, Bool.not_eq_true', Bool.not_eq_false', Bool.not_not, ne_eq, Decidable.not_not, Int.not_lt, Int.not_le, beq_iff_eq, bne_iff_ne, Bool.and_eq_true, Bool.or_eq_true, Bool.or_eq_false_iff, Bool.not_false, Bool.not_true, reduceCtorEq, not_true_eq_false, not_false_eq_true] at hc0
        refine AK.seq (fun _ hK6 => ?_)
        refine AK.region ?_
        refine AK.val _ (Yl.move rfl) trivial rfl ?_
        refine AK.val _ (Yl.move rfl) trivial rfl ?_
        refine AK.val _ (Yl.eqlS un9 rfl rfl) trivial rfl ?_
        refine AK.val _ (Yl.assign rfl) trivial rfl ?_
        refine AK.nil ?_
        refine AK.then_ (hK6 _ ?_)
        refine AK.condD rfl (fun hc1 => ?_) (fun hc1 => ?_)
        · refine AK.seq (fun _ hK7 => ?_)
          refine AK.region ?_
          refine AK.val _ (Yl.assign rfl) trivial rfl ?_
          refine AK.nil ?_
          refine AK.then_ (hK7 _ ?_)
          refine AK.ret ?_
          refine AK.block_ret ?_
          refine AK.then_ret ?_
          refine AK.ret1 rfl rfl (fun w hw => ⟨_, _, ?_, rfl, Ret.of (hw.pick [] (by decide) rfl rfl)⟩)
          exact ⟨congrArg (Value.int .i64) (by unfold CmpV slx; first | (simp_all; done) | (simp_all; omega)), rfl⟩
        · refine AK.skip ?_
          refine AK.block_normal ?_
          refine AK.then_ (hK2 _ ?_)
          refine AK.seq (fun _ hK8 => ?_)
          refine AK.region ?_
          refine AK.val _ (Yl.assign rfl) trivial rfl ?_
          refine AK.nil ?_
          refine AK.then_ (hK8 _ ?_)
          refine AK.ret ?_
          refine AK.ret1 rfl rfl (fun w hw => ⟨_, _, ?_, rfl, Ret.of (hw.pick [] (by decide) rfl rfl)⟩)
          exact ⟨congrArg (Value.int .i64) (by unfold CmpV slx; first | (simp_all; done) | (simp_all; omega)), rfl⟩
    · have hg_1_11' := hg_1_11
      try simp only [decide_eq_true_eq, decide_eq_false_iff_not, Bool.not_eq_true', Bool.not_eq_false', Bool.not_not, ne_eq, Decidable.not_not, Int.not_lt, Int.not_le, beq_iff_eq, bne_iff_ne, Bool.and_eq_true, Bool.or_eq_true, Bool.or_eq_false_iff, Bool.not_false, Bool.not_true, reduceCtorEq, not_true_eq_false, not_false_eq_true] at hg_1_11'
      refine AK.pass rfl rfl (hg_1_11) rfl ?_
      refine AK.pass rfl rfl (hg_1_11) rfl ?_
      refine AK.pass rfl rfl (hg_1_11) rfl ?_
      refine AK.val _ (Yl.pickF rfl (hg_1_11) rfl) ⟨_, rfl, congrArg (fun b => some (Value.bool b)) hg_1_5⟩ rfl ?_
      refine AK.val _ (Yl.pickF rfl (hg_1_5) rfl) trivial rfl ?_
      refine AK.val _ (Yl.assign rfl) trivial rfl ?_
      refine AK.nil ?_
      refine AK.then_ (hK3 _ ?_)
      refine AK.cond_f rfl (rfl) ?_
      refine AK.seq (fun _ hK9 => ?_)
      refine AK.region ?_
      refine AK.val _ (Yl.move rfl) trivial rfl ?_
      refine AK.val _ (Yl.move rfl) trivial rfl ?_
      refine AK.val _ (Yl.eqlS un9 rfl rfl) trivial rfl ?_
      refine AK.val _ (Yl.assign rfl) trivial rfl ?_
      refine AK.nil ?_
      refine AK.then_ (hK9 _ ?_)
      refine AK.condD rfl (fun hc1 => ?_) (fun hc1 => ?_)
      · refine AK.seq (fun _ hK10 => ?_)
        refine AK.region ?_
        refine AK.val _ (Yl.assign rfl) trivial rfl ?_
        refine AK.nil ?_
        refine AK.then_ (hK10 _ ?_)
        refine AK.ret ?_
        refine AK.block_ret ?_
        refine AK.then_ret ?_
        refine AK.ret1 rfl rfl (fun w hw => ⟨_, _, ?_, rfl, Ret.of (hw.pick [] (by decide) rfl rfl)⟩)
        exact ⟨congrArg (Value.int .i64) (by unfold CmpV slx; first | (simp_all; done) | (simp_all; omega)), rfl⟩
      · refine AK.skip ?_
        refine AK.block_normal ?_
        refine AK.then_ (hK2 _ ?_)
        refine AK.seq (fun _ hK11 => ?_)
        refine AK.region ?_
        refine AK.val _ (Yl.assign rfl) trivial rfl ?_
        refine AK.nil ?_
        refine AK.then_ (hK11 _ ?_)
        refine AK.ret ?_
        refine AK.ret1 rfl rfl (fun w hw => ⟨_, _, ?_, rfl, Ret.of (hw.pick [] (by decide) rfl rfl)⟩)
        exact ⟨congrArg (Value.int .i64) (by unfold CmpV slx; first | (simp_all; done) | (simp_all; omega)), rfl⟩

theorem sho_len {d : Dfa} (hv : VD d) : (ShoV d).1.length ≤ 9223372036854775807 := by
  cases h : (ShoV d).2 with
  | true =>
    obtain ⟨i, hi, _, _, e⟩ := sho_spec hv h
    have h1 := (two_ok hv hi).1
    rw [e]
    unfold validW at h1; rw [Bool.and_eq_true, decide_eq_true_eq] at h1; omega
  | false =>
    unfold ShoV at h ⊢; rw [if_pos hv] at h ⊢
    cases e : shoI d with
    | some i => rw [e] at h; cases h
    | none => simp
theorem reach_at {d : Dfa} (hv : VD d) {x : Nat} (hx : x < (TSt d).length) : ((AccW d).getD x []).length ≤ 9223372036854775807 ∧ RunV (TrimV d) 0 ((AccW d).getD x []) = (x : Int) ∧ (0 < x → CmpV ((AccW d).getD ((x : Int) - 1).toNat []) ((AccW d).getD x []) < 0) := by
  rw [show AccW d = TWo d from if_pos hv, show TrimV d = trimD d from if_pos hv]
  obtain ⟨h1, h2⟩ := two_ok hv hx
  refine ⟨?_, ?_, fun h0 => ?_⟩
  · unfold validW at h1; rw [Bool.and_eq_true, decide_eq_true_eq] at h1; omega
  · rw [trim_run hv h1, h2, posN_at 0 (TSt_ok hv).1 hx]
  · rw [CmpV_lt]; exact (two_srt hv).get (by omega) (by rw [two_len hv]; exact hx)
theorem reach_min {d : Dfa} (hv : VD d) {l : List UInt8} (h : 0 ≤ RunV (TrimV d) 0 l) : RunV (TrimV d) 0 l < (AccW d).length ∧ CmpV ((AccW d).getD (RunV (TrimV d) 0 l).toNat []) l ≤ 0 := by
  rw [show TrimV d = trimD d from if_pos hv] at h ⊢
  rw [show AccW d = TWo d from if_pos hv, two_len hv]
  cases hw : validW d.L l with
  | false => rw [trim_bad hw] at h; omega
  | true =>
    obtain ⟨hm, hle⟩ := two_min hv hw
    rw [trim_run hv hw, Int.toNat_natCast]
    have := posN_lt hm
    exact ⟨by omega, CmpV_le.2 hle⟩
end Go.Proofs.Ytoikhoniogicdaa
