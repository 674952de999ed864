import Derived.Test.YtaeojcaidcjnaaaXD1
import Derived.Test.YtaeojcaidcjnaaaXDP
set_option linter.unusedVariables false
set_option linter.unusedSimpArgs false
namespace Go.Proofs.Ytaeojcaidcjnaaa
open Go.Sx Go.RowKit
set_option maxRecDepth 100000 in
theorem s_wvalid (w : World) (l : List UInt8) (L : Int) (hm : l.length ≤ 9223372036854775807) : CallS Try.prog 35 [sv l, .int .i64 L] w (fun r o => r = .bool (validW L l) ∧ o = []) := by
 refine spec_of Try.func35 rfl (Nat.le_of_ble_eq_true rfl) ?_
 refine .sr fun _ hK1 => ?_
 refine .as rfl (.nt hK1 ?_)
 refine .seq fun _ hK2 => ?_
 refine .sr fun _ hK3 => ?_
 refine .mv rfl ?_
 refine .v (.lss rfl rfl) ?_
 refine .mv rfl ?_
 refine AK.splitB (g := 8) rfl (fun hg_1_2 => ?_) (fun hg_1_2 => ?_)
 ·have hg_1_2' := hg_1_2
  try simp only [bs] at hg_1_2'
  refine AK.pass rfl rfl (hg_1_2) rfl ?_
  refine AK.pass rfl rfl (hg_1_2) rfl ?_
  refine .v (.pickT rfl (hg_1_2) rfl) ?_
  refine .mv rfl ?_
  refine AK.pass rfl rfl rfl rfl ?_
  refine AK.pass rfl rfl rfl rfl ?_
  refine AK.pass rfl rfl rfl rfl ?_
  refine .v (.pickT rfl (rfl) rfl) ?_
  refine .nt hK3 ?_
  refine AK.cond_t rfl (rfl) ?_
  refine .sr fun _ hK4 => ?_
  refine .as rfl (.nt hK4 (.ret (.then_ret ?_)))
  refine AK.ret1 rfl rfl (fun w hw => ⟨_, _, ?_, rfl, Ret.of (hw.pick [] (by decide) rfl rfl)⟩)
  refine ⟨congrArg Value.bool ?_, rfl⟩
  symm; unfold validW; rw [decide_eq_false (by omega), Bool.false_and]
 ·have hg_1_2' := hg_1_2
  try simp only [bs] at hg_1_2'
  refine AK.val _ (Yl.move rfl) ⟨_, rfl, congrArg (fun b => some (Value.bool b)) hg_1_2⟩ rfl ?_
  refine AK.val _ (Yl.gtr rfl rfl) ⟨_, rfl, congrArg (fun b => some (Value.bool b)) hg_1_2⟩ rfl ?_
  refine .v (.pickF rfl (hg_1_2) rfl) ?_
  refine .mv rfl ?_
  refine AK.splitB (g := 12) rfl (fun hg_1_6 => ?_) (fun hg_1_6 => ?_)
  ·have hg_1_6' := hg_1_6
   try simp only [bs] at hg_1_6'
   refine AK.pass rfl rfl (hg_1_6) rfl ?_
   refine AK.pass rfl rfl (hg_1_6) rfl ?_
   refine AK.pass rfl rfl (hg_1_6) rfl ?_
   refine .v (.pickT rfl (hg_1_6) rfl) ?_
   refine .nt hK3 ?_
   refine AK.cond_t rfl (rfl) ?_
   refine .sr fun _ hK5 => ?_
   refine .as rfl (.nt hK5 (.ret (.then_ret ?_)))
   refine AK.ret1 rfl rfl (fun w hw => ⟨_, _, ?_, rfl, Ret.of (hw.pick [] (by decide) rfl rfl)⟩)
   refine ⟨congrArg Value.bool ?_, rfl⟩
   symm; unfold validW; rw [decide_eq_false (by omega), Bool.false_and]
  ·have hg_1_6' := hg_1_6
   try simp only [bs] at hg_1_6'
   refine AK.val _ (Yl.move rfl) ⟨_, rfl, congrArg (fun b => some (Value.bool b)) hg_1_6⟩ rfl ?_
   refine AK.val _ (Yl.lenS un9 rfl) ⟨_, rfl, congrArg (fun b => some (Value.bool b)) hg_1_6⟩ rfl ?_
   refine AK.val _ (Yl.gtr rfl rfl) ⟨_, rfl, congrArg (fun b => some (Value.bool b)) hg_1_6⟩ rfl ?_
   refine .v (.pickF rfl (hg_1_6) rfl) ?_
   refine .nt hK3 ?_
   refine AK.condD rfl (fun hc0 => ?_) (fun hc0 => ?_)
   ·refine .sr fun _ hK6 => ?_
    refine .as rfl (.nt hK6 (.ret (.then_ret ?_)))
    refine AK.ret1 rfl rfl (fun w hw => ⟨_, _, ?_, rfl, Ret.of (hw.pick [] (by decide) rfl rfl)⟩)
    refine ⟨congrArg Value.bool ?_, rfl⟩
    symm; unfold validW; rw [decide_eq_false (by omega), Bool.false_and]
   ·refine .skip ?_
    refine AK.then_ (hK2 _ ?_)
    refine .seq fun _ hK7 => ?_
    refine .sr fun _ hK8 => ?_
    refine .mv rfl ?_
    refine .v (.lenS un9 rfl) ?_
    refine .mv rfl (.nt hK8 (.block ?_))
    refine AK.loopK (X := Nat) [(0, _), (1, _), (18, _)] (fun k => [(19, .int .i64 (k : Int))]) (fun k => []) (fun k => k ≤ l.length ∧ (1 ≤ L ∧ L ≤ 6 ∧ l.length ≤ 2048) ∧ (l.take k).all (okB L) = true) (fun k => l.length - k) (0) slr ?_ ?_ ?_ ?_
    ·exact ⟨Nat.zero_le _, by omega, rfl⟩
    ·exact slr
    ·exact fun w hw => hw
    ·intro k hg0 _ hK9
     obtain ⟨hk, hL, ha⟩ := hg0
     have hc8 := UInt8.toNat_lt (l.getD k 0)
     refine .sr fun _ hK10 => ?_
     refine .v (.lss rfl rfl) ?_
     refine .nt hK10 ?_
     refine .seq fun _ hK11 => ?_
     refine AK.condD rfl (fun hc1 => ?_) (fun hc1 => ?_)
     ·refine .skip ?_
      refine AK.then_ (hK11 _ ?_)
      refine .seq fun _ hK12 => ?_
      refine .block ?_
      refine .sr fun _ hK13 => ?_
      refine .mv rfl (.as rfl (.nt hK13 ?_))
      refine .sr fun _ hK14 => ?_
      refine .mv rfl (.mv rfl ?_)
      first | refine .v (.idxSN un9 rfl rfl (by omega)) ?_ | refine .v (.idxS un9 rfl rfl (by omega)) ?_
      refine .v (.lss rfl rfl) ?_
      refine .mv rfl ?_
      refine AK.splitB (g := 26) rfl (fun hg_6_4 => ?_) (fun hg_6_4 => ?_)
      ·have hg_6_4' := hg_6_4
       try simp only [bs] at hg_6_4'
       refine AK.pass rfl rfl (hg_6_4) rfl ?_
       refine AK.pass rfl rfl (hg_6_4) rfl ?_
       refine AK.pass rfl rfl (hg_6_4) rfl ?_
       refine AK.pass rfl rfl (hg_6_4) rfl ?_
       refine AK.pass rfl rfl (hg_6_4) rfl ?_
       refine AK.pass rfl rfl (hg_6_4) rfl ?_
       refine AK.pass rfl rfl (hg_6_4) rfl ?_
       refine .v (.pickT rfl (hg_6_4) rfl) ?_
       refine .nt hK14 ?_
       refine AK.cond_t rfl (rfl) ?_
       refine .sr fun _ hK15 => ?_
       refine .as rfl (.nt hK15 (.ret (.block_ret (.then_ret (.then_ret (.block_ret (.then_ret ?_)))))))
       refine AK.ret1 rfl rfl (fun w hw => ⟨_, _, ?_, rfl, Ret.of (hw.pick [] (by decide) rfl rfl)⟩)
       refine ⟨congrArg Value.bool ?_, rfl⟩
       symm; unfold validW; rw [all_at _ 0 (by omega : k < l.length) (by unfold okB; rw [decide_eq_false_iff_not]; omega), Bool.and_false]
      ·have hg_6_4' := hg_6_4
       try simp only [bs] at hg_6_4'
       refine AK.val _ (Yl.move rfl) ⟨_, rfl, congrArg (fun b => some (Value.bool b)) hg_6_4⟩ rfl ?_
       refine AK.val _ (Yl.move rfl) ⟨_, rfl, congrArg (fun b => some (Value.bool b)) hg_6_4⟩ rfl ?_
       first | refine AK.val _ (Yl.idxSN un9 rfl rfl (by omega)) ⟨_, rfl, congrArg (fun b => some (Value.bool b)) hg_6_4⟩ rfl ?_ | refine AK.val _ (Yl.idxS un9 rfl rfl (by omega)) ⟨_, rfl, congrArg (fun b => some (Value.bool b)) hg_6_4⟩ rfl ?_
       refine AK.val _ (Yl.subU8 rfl rfl (by omega)) ⟨_, rfl, congrArg (fun b => some (Value.bool b)) hg_6_4⟩ rfl ?_
       refine AK.val _ (Yl.convI (by kernel_rfl) un3 rfl (wrap_i64 (by omega))) ⟨_, rfl, congrArg (fun b => some (Value.bool b)) hg_6_4⟩ rfl ?_
       refine AK.val _ (Yl.move rfl) ⟨_, rfl, congrArg (fun b => some (Value.bool b)) hg_6_4⟩ rfl ?_
       refine AK.val _ (Yl.geq rfl rfl) ⟨_, rfl, congrArg (fun b => some (Value.bool b)) hg_6_4⟩ rfl ?_
       refine .v (.pickF rfl (hg_6_4) rfl) ?_
       refine .nt hK14 ?_
       refine AK.condD rfl (fun hc2 => ?_) (fun hc2 => ?_)
       ·refine .sr fun _ hK16 => ?_
        refine .as rfl (.nt hK16 (.ret (.block_ret (.then_ret (.then_ret (.block_ret (.then_ret ?_)))))))
        refine AK.ret1 rfl rfl (fun w hw => ⟨_, _, ?_, rfl, Ret.of (hw.pick [] (by decide) rfl rfl)⟩)
        refine ⟨congrArg Value.bool ?_, rfl⟩
        symm; unfold validW; rw [all_at _ 0 (by omega : k < l.length) (by unfold okB; rw [decide_eq_false_iff_not]; omega), Bool.and_false]
       ·refine .skip (.block_normal ?_)
        refine AK.then_ (hK12 _ ?_)
        refine AK.region ?_
        refine .v (.add rfl rfl (by omega)) ?_
        refine .mv rfl (.nil ?_)
        refine AK.then_ (hK9 _ _ (k + 1) ⟨by omega, hL, all_take_succ _ 0 (by omega) ha (by unfold okB; rw [decide_eq_true_eq]; omega)⟩ (by omega) (slr) (fun w hw => hw))
     ·refine .exit (.then_exit (.then_exit (.block_exit ?_)))
      refine AK.then_ (hK7 _ ?_)
      refine .sr fun _ hK17 => ?_
      refine .as rfl (.nt hK17 (.ret ?_))
      refine AK.ret1 rfl rfl (fun w hw => ⟨_, _, ?_, rfl, Ret.of (hw.pick [] (by decide) rfl rfl)⟩)
      refine ⟨congrArg Value.bool ?_, rfl⟩
      rw [show k = l.length by omega, List.take_length] at ha
      symm; unfold validW; rw [decide_eq_true hL, ha]; rfl

set_option maxRecDepth 100000 in
theorem s_refwvalid (w : World) (l : List UInt8) (L : Int) (hm : l.length ≤ 9223372036854775807) : CallS Try.prog 18 [sv l, .int .i64 L] w (fun r o => r = .bool (validW L l) ∧ o = []) := by
 refine spec_of Try.func18 rfl (Nat.le_of_ble_eq_true rfl) ?_
 refine .sr fun _ hK1 => ?_
 refine .as rfl (.nt hK1 ?_)
 refine .seq fun _ hK2 => ?_
 refine .sr fun _ hK3 => ?_
 refine .mv rfl ?_
 refine AK.call co37 rfl (fun w hw => s_may w L) trivial rfl ?_
 rintro r o ⟨rfl, rfl⟩
 refine .v (.not rfl) ?_
 refine .mv rfl ?_
 refine AK.splitB (g := 9) rfl (fun hg_1_3 => ?_) (fun hg_1_3 => ?_)
 ·have hg_1_3' := hg_1_3
  try simp only [bs] at hg_1_3'
  refine AK.pass rfl rfl (hg_1_3) rfl ?_
  refine AK.pass rfl rfl (hg_1_3) rfl ?_
  refine AK.pass rfl rfl (hg_1_3) rfl ?_
  refine .v (.pickT rfl (hg_1_3) rfl) ?_
  refine .nt hK3 ?_
  refine AK.cond_t rfl (rfl) ?_
  refine .sr fun _ hK4 => ?_
  refine .as rfl (.nt hK4 (.ret (.then_ret ?_)))
  refine AK.ret1 rfl rfl (fun w hw => ⟨_, _, ?_, rfl, Ret.of (hw.pick [] (by decide) rfl rfl)⟩)
  refine ⟨congrArg Value.bool ?_, rfl⟩
  symm; unfold validW; rw [decide_eq_false (by omega), Bool.false_and]
 ·have hg_1_3' := hg_1_3
  try simp only [bs] at hg_1_3'
  refine AK.val _ (Yl.move rfl) ⟨_, rfl, congrArg (fun b => some (Value.bool b)) hg_1_3⟩ rfl ?_
  refine AK.val _ (Yl.lenS un9 rfl) ⟨_, rfl, congrArg (fun b => some (Value.bool b)) hg_1_3⟩ rfl ?_
  refine AK.val _ (Yl.gtr rfl rfl) ⟨_, rfl, congrArg (fun b => some (Value.bool b)) hg_1_3⟩ rfl ?_
  refine .v (.pickF rfl (hg_1_3) rfl) ?_
  refine .nt hK3 ?_
  refine AK.condD rfl (fun hc0 => ?_) (fun hc0 => ?_)
  ·refine .sr fun _ hK5 => ?_
   refine .as rfl (.nt hK5 (.ret (.then_ret ?_)))
   refine AK.ret1 rfl rfl (fun w hw => ⟨_, _, ?_, rfl, Ret.of (hw.pick [] (by decide) rfl rfl)⟩)
   refine ⟨congrArg Value.bool ?_, rfl⟩
   symm; unfold validW; rw [decide_eq_false (by omega), Bool.false_and]
  ·refine .skip ?_
   refine AK.then_ (hK2 _ ?_)
   refine .seq fun _ hK6 => ?_
   refine .sr fun _ hK7 => ?_
   refine .as rfl (.nt hK7 (.block ?_))
   refine AK.loopK (X := Nat) [(0, _), (1, _)] (fun k => [(5, .int .i64 (k : Int))]) (fun k => []) (fun k => k ≤ l.length ∧ (1 ≤ L ∧ L ≤ 6 ∧ l.length ≤ 2048) ∧ (l.take k).all (okB L) = true) (fun k => l.length - k) (0) slr ?_ ?_ ?_ ?_
   ·exact ⟨Nat.zero_le _, by omega, rfl⟩
   ·exact slr
   ·exact fun w hw => hw
   ·intro k hg0 _ hK8
    obtain ⟨hk, hL, ha⟩ := hg0
    have hc8 := UInt8.toNat_lt (l.getD k 0)
    refine .seq fun _ hK9 => ?_
    refine .sr fun _ hK10 => ?_
    refine .mv rfl (.mv rfl ?_)
    refine .v (.lenS un9 rfl) ?_
    refine .v (.lss rfl rfl) ?_
    refine .nt hK10 ?_
    refine AK.condD rfl (fun hc1 => ?_) (fun hc1 => ?_)
    ·refine .skip ?_
     refine AK.then_ (hK9 _ ?_)
     refine .seq fun _ hK11 => ?_
     refine .block ?_
     refine .sr fun _ hK12 => ?_
     refine .mv rfl (.mv rfl ?_)
     first | refine .v (.idxSN un9 rfl rfl (by omega)) ?_ | refine .v (.idxS un9 rfl rfl (by omega)) ?_
     refine .v (.lss rfl rfl) ?_
     refine .mv rfl ?_
     refine AK.splitB (g := 24) rfl (fun hg_6_4 => ?_) (fun hg_6_4 => ?_)
     ·have hg_6_4' := hg_6_4
      try simp only [bs] at hg_6_4'
      refine AK.pass rfl rfl (hg_6_4) rfl ?_
      refine AK.pass rfl rfl (hg_6_4) rfl ?_
      refine AK.pass rfl rfl (hg_6_4) rfl ?_
      refine AK.pass rfl rfl (hg_6_4) rfl ?_
      refine AK.pass rfl rfl (hg_6_4) rfl ?_
      refine AK.pass rfl rfl (hg_6_4) rfl ?_
      refine AK.pass rfl rfl (hg_6_4) rfl ?_
      refine .v (.pickT rfl (hg_6_4) rfl) ?_
      refine .nt hK12 ?_
      refine AK.cond_t rfl (rfl) ?_
      refine .sr fun _ hK13 => ?_
      refine .as rfl (.nt hK13 (.ret (.block_ret (.then_ret (.then_ret (.block_ret (.then_ret ?_)))))))
      refine AK.ret1 rfl rfl (fun w hw => ⟨_, _, ?_, rfl, Ret.of (hw.pick [] (by decide) rfl rfl)⟩)
      refine ⟨congrArg Value.bool ?_, rfl⟩
      symm; unfold validW; rw [all_at _ 0 (by omega : k < l.length) (by unfold okB; rw [decide_eq_false_iff_not]; omega), Bool.and_false]
     ·have hg_6_4' := hg_6_4
      try simp only [bs] at hg_6_4'
      refine AK.val _ (Yl.move rfl) ⟨_, rfl, congrArg (fun b => some (Value.bool b)) hg_6_4⟩ rfl ?_
      refine AK.val _ (Yl.move rfl) ⟨_, rfl, congrArg (fun b => some (Value.bool b)) hg_6_4⟩ rfl ?_
      first | refine AK.val _ (Yl.idxSN un9 rfl rfl (by omega)) ⟨_, rfl, congrArg (fun b => some (Value.bool b)) hg_6_4⟩ rfl ?_ | refine AK.val _ (Yl.idxS un9 rfl rfl (by omega)) ⟨_, rfl, congrArg (fun b => some (Value.bool b)) hg_6_4⟩ rfl ?_
      refine AK.val _ (Yl.subU8 rfl rfl (by omega)) ⟨_, rfl, congrArg (fun b => some (Value.bool b)) hg_6_4⟩ rfl ?_
      refine AK.val _ (Yl.convI (by kernel_rfl) un3 rfl (wrap_i64 (by omega))) ⟨_, rfl, congrArg (fun b => some (Value.bool b)) hg_6_4⟩ rfl ?_
      refine AK.val _ (Yl.move rfl) ⟨_, rfl, congrArg (fun b => some (Value.bool b)) hg_6_4⟩ rfl ?_
      refine AK.val _ (Yl.geq rfl rfl) ⟨_, rfl, congrArg (fun b => some (Value.bool b)) hg_6_4⟩ rfl ?_
      refine .v (.pickF rfl (hg_6_4) rfl) ?_
      refine .nt hK12 ?_
      refine AK.condD rfl (fun hc2 => ?_) (fun hc2 => ?_)
      ·refine .sr fun _ hK14 => ?_
       refine .as rfl (.nt hK14 (.ret (.block_ret (.then_ret (.then_ret (.block_ret (.then_ret ?_)))))))
       refine AK.ret1 rfl rfl (fun w hw => ⟨_, _, ?_, rfl, Ret.of (hw.pick [] (by decide) rfl rfl)⟩)
       refine ⟨congrArg Value.bool ?_, rfl⟩
       symm; unfold validW; rw [all_at _ 0 (by omega : k < l.length) (by unfold okB; rw [decide_eq_false_iff_not]; omega), Bool.and_false]
      ·refine .skip (.block_normal ?_)
       refine AK.then_ (hK11 _ ?_)
       refine AK.region ?_
       refine .mv rfl ?_
       refine .v (.add rfl rfl (by omega)) ?_
       refine .as rfl (.nil ?_)
       refine AK.then_ (hK8 _ _ (k + 1) ⟨by omega, hL, all_take_succ _ 0 (by omega) ha (by unfold okB; rw [decide_eq_true_eq]; omega)⟩ (by omega) (slr) (fun w hw => hw))
    ·refine .exit (.then_exit (.then_exit (.block_exit ?_)))
     refine AK.then_ (hK6 _ ?_)
     refine .sr fun _ hK15 => ?_
     refine .as rfl (.nt hK15 (.ret ?_))
     refine AK.ret1 rfl rfl (fun w hw => ⟨_, _, ?_, rfl, Ret.of (hw.pick [] (by decide) rfl rfl)⟩)
     refine ⟨congrArg Value.bool ?_, rfl⟩
     rw [show k = l.length by omega, List.take_length] at ha
     symm; unfold validW; rw [decide_eq_true hL, ha]; rfl

end Go.Proofs.Ytaeojcaidcjnaaa
