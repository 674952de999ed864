import Derived.Test.YtaeojcaidcjnaaaXTy
import Derived.Test.YtaeojcaidcjnaaaXDP
set_option linter.unusedVariables false
set_option linter.unusedSimpArgs false
namespace Go.Proofs.Ytaeojcaidcjnaaa
open Go.Sx Go.RowKit
set_option maxRecDepth 100000 in
theorem s_compare (w : World) (u v : List UInt8) : CallS Try.prog 22 [sv u, sv v] w (fun r o => r = .int .i64 (CmpV u v) ∧ o = []) := by
 refine spec_of Try.func22 rfl (Nat.le_of_ble_eq_true rfl) ?_
 refine .sr fun _ hK1 => ?_
 refine .as rfl (.nt hK1 ?_)
 refine .seq fun _ hK2 => ?_
 refine .block ?_
 refine .sr fun _ hK3 => ?_
 refine .mv rfl ?_
 refine .v (.lenS un9 rfl) ?_
 refine .mv rfl ?_
 refine .v (.lenS un9 rfl) ?_
 refine .v (.lss rfl rfl) ?_
 refine .mv rfl ?_
 refine AK.splitB (g := 11) rfl (fun hg_1_5 => ?_) (fun hg_1_5 => ?_)
 ·have hg_1_5' := hg_1_5
  try simp only [bs] at hg_1_5'
  refine AK.pass rfl rfl (hg_1_5) rfl ?_
  refine AK.pass rfl rfl (hg_1_5) rfl ?_
  refine AK.pass rfl rfl (hg_1_5) rfl ?_
  refine AK.pass rfl rfl (hg_1_5) rfl ?_
  refine AK.pass rfl rfl (hg_1_5) rfl ?_
  refine AK.pass rfl rfl (hg_1_5) rfl ?_
  refine AK.pass rfl rfl trivial rfl ?_
  refine AK.pass rfl rfl trivial rfl ?_
  refine AK.pass rfl rfl trivial rfl ?_
  refine AK.pass rfl rfl (hg_1_5) rfl ?_
  refine .v (.pickT rfl (hg_1_5) rfl) ?_
  refine .as rfl (.nt hK3 ?_)
  refine AK.cond_t rfl (rfl) ?_
  refine .sr fun _ hK4 => ?_
  refine .as rfl (.nt hK4 (.ret (.block_ret (.then_ret ?_))))
  refine AK.ret1 rfl rfl (fun w hw => ⟨_, _, ?_, rfl, Ret.of (hw.pick [] (by decide) rfl rfl)⟩)
  exact ⟨congrArg (Value.int .i64) (by unfold CmpV slx; first | (simp_all; done) | (simp_all; omega)), rfl⟩
 ·have hg_1_5' := hg_1_5
  try simp only [bs] at hg_1_5'
  refine AK.val _ (Yl.move rfl) ⟨_, rfl, congrArg (fun b => some (Value.bool b)) hg_1_5⟩ rfl ?_
  refine AK.val _ (Yl.lenS un9 rfl) ⟨_, rfl, congrArg (fun b => some (Value.bool b)) hg_1_5⟩ rfl ?_
  refine AK.val _ (Yl.move rfl) ⟨_, rfl, congrArg (fun b => some (Value.bool b)) hg_1_5⟩ rfl ?_
  refine AK.val _ (Yl.lenS un9 rfl) ⟨_, rfl, congrArg (fun b => some (Value.bool b)) hg_1_5⟩ rfl ?_
  refine AK.val _ (Yl.eql rfl rfl) ⟨_, rfl, congrArg (fun b => some (Value.bool b)) hg_1_5⟩ rfl ?_
  refine AK.val _ (Yl.move rfl) ⟨_, rfl, congrArg (fun b => some (Value.bool b)) hg_1_5⟩ rfl ?_
  refine AK.splitB (g := 17) rfl (fun hg_1_11 => ?_) (fun hg_1_11 => ?_)
  ·have hg_1_11' := hg_1_11
   try simp only [bs] at hg_1_11'
   refine AK.val _ (Yl.move rfl) ⟨_, rfl, congrArg (fun b => some (Value.bool b)) hg_1_11⟩ rfl ?_
   refine AK.val _ (Yl.move rfl) ⟨_, rfl, congrArg (fun b => some (Value.bool b)) hg_1_11⟩ rfl ?_
   refine AK.val _ (Yl.lssS rfl rfl) ⟨_, rfl, congrArg (fun b => some (Value.bool b)) hg_1_11⟩ rfl ?_
   refine AK.val _ (Yl.pickT rfl (hg_1_11) rfl) ⟨_, rfl, congrArg (fun b => some (Value.bool b)) hg_1_5⟩ rfl ?_
   refine .v (.pickF rfl (hg_1_5) rfl) ?_
   refine .as rfl (.nt hK3 ?_)
   refine AK.cond rfl (fun hc0 => ?_) (fun hc0 => ?_)
   ·try simp only [bs] at hc0
    refine .sr fun _ hK5 => ?_
    refine .as rfl (.nt hK5 (.ret (.block_ret (.then_ret ?_))))
    refine AK.ret1 rfl rfl (fun w hw => ⟨_, _, ?_, rfl, Ret.of (hw.pick [] (by decide) rfl rfl)⟩)
    exact ⟨congrArg (Value.int .i64) (by unfold CmpV slx; first | (simp_all; done) | (simp_all; omega)), rfl⟩
   ·try simp only [bs] at hc0
    refine .sr fun _ hK6 => ?_
    refine .mv rfl (.mv rfl ?_)
    refine .v (.eqlS un9 rfl rfl) ?_
    refine .as rfl (.nt hK6 ?_)
    refine AK.condD rfl (fun hc1 => ?_) (fun hc1 => ?_)
    ·refine .sr fun _ hK7 => ?_
     refine .as rfl (.nt hK7 (.ret (.block_ret (.then_ret ?_))))
     refine AK.ret1 rfl rfl (fun w hw => ⟨_, _, ?_, rfl, Ret.of (hw.pick [] (by decide) rfl rfl)⟩)
     exact ⟨congrArg (Value.int .i64) (by unfold CmpV slx; first | (simp_all; done) | (simp_all; omega)), rfl⟩
    ·refine .skip (.block_normal ?_)
     refine AK.then_ (hK2 _ ?_)
     refine .sr fun _ hK8 => ?_
     refine .as rfl (.nt hK8 (.ret ?_))
     refine AK.ret1 rfl rfl (fun w hw => ⟨_, _, ?_, rfl, Ret.of (hw.pick [] (by decide) rfl rfl)⟩)
     exact ⟨congrArg (Value.int .i64) (by unfold CmpV slx; first | (simp_all; done) | (simp_all; omega)), rfl⟩
  ·have hg_1_11' := hg_1_11
   try simp only [bs] at hg_1_11'
   refine AK.pass rfl rfl (hg_1_11) rfl ?_
   refine AK.pass rfl rfl (hg_1_11) rfl ?_
   refine AK.pass rfl rfl (hg_1_11) rfl ?_
   refine AK.val _ (Yl.pickF rfl (hg_1_11) rfl) ⟨_, rfl, congrArg (fun b => some (Value.bool b)) hg_1_5⟩ rfl ?_
   refine .v (.pickF rfl (hg_1_5) rfl) ?_
   refine .as rfl (.nt hK3 ?_)
   refine AK.cond_f rfl (rfl) ?_
   refine .sr fun _ hK9 => ?_
   refine .mv rfl (.mv rfl ?_)
   refine .v (.eqlS un9 rfl rfl) ?_
   refine .as rfl (.nt hK9 ?_)
   refine AK.condD rfl (fun hc1 => ?_) (fun hc1 => ?_)
   ·refine .sr fun _ hK10 => ?_
    refine .as rfl (.nt hK10 (.ret (.block_ret (.then_ret ?_))))
    refine AK.ret1 rfl rfl (fun w hw => ⟨_, _, ?_, rfl, Ret.of (hw.pick [] (by decide) rfl rfl)⟩)
    exact ⟨congrArg (Value.int .i64) (by unfold CmpV slx; first | (simp_all; done) | (simp_all; omega)), rfl⟩
   ·refine .skip (.block_normal ?_)
    refine AK.then_ (hK2 _ ?_)
    refine .sr fun _ hK11 => ?_
    refine .as rfl (.nt hK11 (.ret ?_))
    refine AK.ret1 rfl rfl (fun w hw => ⟨_, _, ?_, rfl, Ret.of (hw.pick [] (by decide) rfl rfl)⟩)
    exact ⟨congrArg (Value.int .i64) (by unfold CmpV slx; first | (simp_all; done) | (simp_all; omega)), rfl⟩

end Go.Proofs.Ytaeojcaidcjnaaa
