import Derived.Test.YtaeojcaidcjnaaaWk
set_option linter.unusedVariables false
set_option linter.unusedSimpArgs false
namespace Go.Proofs.Ytaeojcaidcjnaaa
open Go.Sx Go.RowKit
set_option maxHeartbeats 1600000 in
set_option maxRecDepth 100000 in
theorem l_confluent (w : World) (v : Value) (rs : List Rul) (h : RdR (fun _ => False) w v rs) (hll : ∀ k, k < rs.length → (rs.getD k ([], [])).1.length ≤ 9223372036854775807 ∧ (rs.getD k ([], [])).2.length ≤ 9223372036854775807) (hX : MxA w) : CallS Try.prog 8 [v] w (fun r o => r = .bool true ∧ o = []) := by
 have h0 := h
 have hb := h.len
 have sv0 := Rd.sl h
 unfold RdR at h
 refine spec_of Try.func8 rfl (Nat.le_of_ble_eq_true rfl) ?_
 refine .sr fun _ hK1 => ?_
 refine .as rfl (.nt hK1 ?_)
 refine .seq fun _ hK2 => ?_
 refine .sr fun _ hK3 => ?_
 refine .mv rfl ?_
 refine AK.call co14 rfl (fun w hw => s_refrval w v rs (h0.at hw) hll 6) trivial rfl ?_
 rintro r o ⟨rfl, rfl⟩
 refine .as rfl (.nt hK3 ?_)
 refine .sr fun _ hK4 => ?_
 refine .mv rfl ?_
 refine .v (.neq rfl rfl) ?_
 refine .nt hK4 ?_
 refine AK.condNe rfl (fun hc0 => ?_) (fun hc0 => ?_)
 ·refine .sr fun _ hK5 => ?_
  refine .mv rfl ?_
  refine AK.call co28 rfl (fun w hw => s_confluent w v rs (h0.at hw) hll (hX.at hw)) trivial rfl ?_
  rintro r o ⟨rfl, rfl⟩
  rw [show CfR rs = (([], [], []), false, errR 6 rs) from if_pos hc0]
  refine .mv rfl ?_
  refine .v (.extract rfl rfl) ?_
  refine .v (.extract rfl rfl) ?_
  refine .v (.extract rfl rfl) ?_
  refine AK.alloc el45 rfl rfl trivial rfl (fun bx4 => ?_)
  refine AK.storeBox 0 (us := ccs (([], [], []) : Crit)) (cs' := ccs (([], [], []) : Crit)) rfl sz45 rfl rfl rfl rfl (ccs_one _) (Nat.le_of_ble_eq_true rfl) rfl trivial ?_
  refine .as rfl (.as rfl (.nt hK5 ?_))
  refine .sr fun _ hK6 => ?_
  refine .v (.loadBoxC ag45 rfl bsp) ?_
  refine .v (.build (parts := []) (cs := #[.string ByteArray.empty, .string ByteArray.empty, .string ByteArray.empty]) rfl (by kernel_rfl)) ?_
  refine AK.val (.bool true) (Yl.valE (Yl.eqlCr (a := (([], [], []) : Crit)) (b := (([], [], []) : Crit)) eqt45 rfl rfl) (by simp)) trivial rfl ?_
  refine .mv rfl ?_
  refine AK.knownT (g := 26) rfl (rfl) (fun hg_4_3 => ?_)
  refine AK.val _ (Yl.move rfl) ⟨_, rfl, congrArg (fun b => some (Value.bool b)) hg_4_3⟩ rfl ?_
  refine AK.val _ (Yl.not rfl) ⟨_, rfl, congrArg (fun b => some (Value.bool b)) hg_4_3⟩ rfl ?_
  refine .v (.pickT rfl (hg_4_3) rfl) ?_
  refine .mv rfl ?_
  refine AK.knownT (g := 30) rfl (rfl) (fun hg_4_7 => ?_)
  refine AK.val _ (Yl.move rfl) ⟨_, rfl, congrArg (fun b => some (Value.bool b)) hg_4_7⟩ rfl ?_
  refine AK.val _ (Yl.move rfl) ⟨_, rfl, congrArg (fun b => some (Value.bool b)) hg_4_7⟩ rfl ?_
  refine AK.val _ (Yl.eql rfl rfl) ⟨_, rfl, congrArg (fun b => some (Value.bool b)) hg_4_7⟩ rfl ?_
  refine .v (.pickT rfl (hg_4_7) rfl) ?_
  refine .mv rfl ?_
  refine AK.knownT (g := 35) rfl (decide_eq_true rfl) (fun hg_4_12 => ?_)
  refine AK.call co15 rfl (fun w hw => s_awake w) ⟨_, rfl, congrArg (fun b => some (Value.bool b)) hg_4_12⟩ rfl ?_
  rintro r o ⟨rfl, rfl⟩
  refine .v (.pickT rfl (hg_4_12) rfl) ?_
  refine .as rfl (.nt hK6 (.ret (.then_ret ?_)))
  refine AK.ret1 rfl rfl (fun w hw => ⟨_, _, ?_, rfl, Ret.of (hw.pick [] (by decide) rfl rfl)⟩)
  exact ⟨rfl, rfl⟩
 ·have hE : errR 6 rs = 0 := (by omega)
  have hV := errR_iff.1 hE
  refine .skip ?_
  refine AK.then_ (hK2 _ ?_)
  refine .seq fun _ hK7 => ?_
  refine .sr fun _ hK8 => ?_
  refine .mv rfl ?_
  refine AK.call co21 rfl (fun w hw => s_little w v rs (h0.at hw) hll 6 10) trivial rfl ?_
  rintro r o ⟨rfl, rfl⟩
  refine .v (.not rfl) ?_
  refine .nt hK8 ?_
  refine AK.condB rfl (fun hc1 => ?_) (fun hc1 => ?_)
  ·refine .sr fun _ hK9 => ?_
   refine AK.call co15 rfl (fun w hw => s_awake w) trivial rfl ?_
   rintro r o ⟨rfl, rfl⟩
   refine .as rfl (.nt hK9 (.ret (.then_ret ?_)))
   refine AK.ret1 rfl rfl (fun w hw => ⟨_, _, ?_, rfl, Ret.of (hw.pick [] (by decide) rfl rfl)⟩)
   exact ⟨rfl, rfl⟩
  ·refine .skip ?_
   refine AK.then_ (hK7 _ ?_)
   refine .sr fun _ hK10 => ?_
   refine .mv rfl ?_
   refine AK.call co28 rfl (fun w hw => s_confluent w v rs (h0.at hw) hll (hX.at hw)) trivial rfl ?_
   rintro r o ⟨rfl, rfl⟩
   rw [show CfR rs = cfR rs (crA rs) from if_neg (by omega)]
   refine .mv rfl ?_
   refine .v (.extract rfl rfl) ?_
   refine .v (.extract rfl rfl) ?_
   refine .v (.extract rfl rfl) ?_
   refine AK.alloc el45 rfl rfl trivial rfl (fun bx7 => ?_)
   refine AK.storeBox 0 (us := ccs (cfR rs (crA rs)).1) (cs' := ccs (cfR rs (crA rs)).1) rfl sz45 rfl rfl rfl rfl (ccs_one _) (Nat.le_of_ble_eq_true rfl) rfl trivial ?_
   refine .as rfl (.as rfl (.nt hK10 ?_))
   refine .sr fun _ hK11 => ?_
   refine .mv rfl ?_
   refine AK.call co29 rfl (fun w hw => s_refconfluent w v rs (h0.at hw) 6 hV) trivial rfl ?_
   rintro r o ⟨rfl, rfl⟩
   refine .mv rfl ?_
   refine .v (.extract rfl rfl) ?_
   refine .v (.extract rfl rfl) ?_
   refine .v (.extract rfl rfl) ?_
   refine AK.alloc el45 rfl rfl trivial rfl (fun bx10 => ?_)
   refine AK.storeBox 1 (us := ccs (cfR rs (crA rs)).1) (cs' := ccs (cfR rs (crA rs)).1) rfl sz45 rfl rfl rfl rfl (ccs_one _) (Nat.le_of_ble_eq_true rfl) rfl trivial ?_
   refine .as rfl (.as rfl (.nt hK11 ?_))
   refine .sr fun _ hK12 => ?_
   refine .v (.loadBoxC ag45 rfl bsp) ?_
   refine .v (.loadBoxC ag45 rfl bsp) ?_
   refine AK.val (.bool true) (Yl.valE (Yl.eqlCr (a := (cfR rs (crA rs)).1) (b := (cfR rs (crA rs)).1) eqt45 rfl rfl) (by simp)) trivial rfl ?_
   refine .mv rfl ?_
   refine AK.knownT (g := 57) rfl (rfl) (fun hg_9_3 => ?_)
   refine AK.val _ (Yl.move rfl) ⟨_, rfl, congrArg (fun b => some (Value.bool b)) hg_9_3⟩ rfl ?_
   refine AK.val _ (Yl.move rfl) ⟨_, rfl, congrArg (fun b => some (Value.bool b)) hg_9_3⟩ rfl ?_
   refine AK.val _ (Yl.eqlB bo4 rfl rfl) ⟨_, rfl, congrArg (fun b => some (Value.bool b)) hg_9_3⟩ rfl ?_
   refine .v (.pickT rfl (hg_9_3) rfl) ?_
   refine .mv rfl ?_
   refine AK.knownT (g := 62) rfl (by simp) (fun hg_9_8 => ?_)
   refine AK.val _ (Yl.move rfl) ⟨_, rfl, congrArg (fun b => some (Value.bool b)) hg_9_8⟩ rfl ?_
   refine AK.val _ (Yl.move rfl) ⟨_, rfl, congrArg (fun b => some (Value.bool b)) hg_9_8⟩ rfl ?_
   refine AK.val _ (Yl.eql rfl rfl) ⟨_, rfl, congrArg (fun b => some (Value.bool b)) hg_9_8⟩ rfl ?_
   refine .v (.pickT rfl (hg_9_8) rfl) ?_
   refine .mv rfl ?_
   refine AK.knownT (g := 67) rfl (decide_eq_true rfl) (fun hg_9_13 => ?_)
   refine AK.call co15 rfl (fun w hw => s_awake w) ⟨_, rfl, congrArg (fun b => some (Value.bool b)) hg_9_13⟩ rfl ?_
   rintro r o ⟨rfl, rfl⟩
   refine .v (.pickT rfl (hg_9_13) rfl) ?_
   refine .as rfl (.nt hK12 (.ret ?_))
   refine AK.ret1 rfl rfl (fun w hw => ⟨_, _, ?_, rfl, Ret.of (hw.pick [] (by decide) rfl rfl)⟩)
   exact ⟨rfl, rfl⟩

set_option maxHeartbeats 2600000 in
set_option maxRecDepth 100000 in
theorem l_unique (w : World) (v : Value) (rs : List Rul) (h : RdR (fun _ => False) w v rs) (hll : ∀ k, k < rs.length → (rs.getD k ([], [])).1.length ≤ 9223372036854775807 ∧ (rs.getD k ([], [])).2.length ≤ 9223372036854775807) (u : Wrd) (hu : u.length ≤ 9223372036854775807) (i p : Int) (hX : MxA w) : CallS Try.prog 9 [v, sv u, .int .i64 i, .int .i64 p] w (fun r o => r = .bool true ∧ o = []) := by
 have h0 := h
 have hb := h.len
 have sv0 := Rd.sl h
 unfold RdR at h
 refine spec_of Try.func9 rfl (Nat.le_of_ble_eq_true rfl) ?_
 refine .sr fun _ hK1 => ?_
 refine .as rfl (.nt hK1 ?_)
 refine .seq fun _ hK2 => ?_
 refine .sr fun _ hK3 => ?_
 refine .mv rfl ?_
 refine AK.call co21 rfl (fun w hw => s_little w v rs (h0.at hw) hll 6 10) trivial rfl ?_
 rintro r o ⟨rfl, rfl⟩
 refine .v (.not rfl) ?_
 refine .mv rfl ?_
 refine AK.splitB (g := 20) rfl (fun hg_1_3 => ?_) (fun hg_1_3 => ?_)
 ·have hg_1_3' := hg_1_3
  try simp only [bs] at hg_1_3'
  refine AK.pass rfl rfl (hg_1_3) rfl ?_
  refine AK.pass rfl rfl (hg_1_3) rfl ?_
  refine AK.pass rfl rfl (hg_1_3) rfl ?_
  refine .v (.pickT rfl (hg_1_3) rfl) ?_
  refine .mv rfl ?_
  refine AK.pass rfl rfl rfl rfl ?_
  refine AK.pass rfl rfl rfl rfl ?_
  refine AK.pass rfl rfl rfl rfl ?_
  refine .v (.pickT rfl (rfl) rfl) ?_
  refine .nt hK3 ?_
  refine AK.cond_t rfl (rfl) ?_
  refine .sr fun _ hK4 => ?_
  refine AK.call co15 rfl (fun w hw => s_awake w) trivial rfl ?_
  rintro r o ⟨rfl, rfl⟩
  refine .as rfl (.nt hK4 (.ret (.then_ret ?_)))
  refine AK.ret1 rfl rfl (fun w hw => ⟨_, _, ?_, rfl, Ret.of (hw.pick [] (by decide) rfl rfl)⟩)
  exact ⟨rfl, rfl⟩
 ·have hg_1_3' := hg_1_3
  try simp only [bs] at hg_1_3'
  refine AK.val _ (Yl.move rfl) ⟨_, rfl, congrArg (fun b => some (Value.bool b)) hg_1_3⟩ rfl ?_
  refine AK.call co18 rfl (fun w hw => s_refwvalid w u 6 hu) ⟨_, rfl, congrArg (fun b => some (Value.bool b)) hg_1_3⟩ rfl ?_
  rintro r o ⟨rfl, rfl⟩
  refine AK.val _ (Yl.not rfl) ⟨_, rfl, congrArg (fun b => some (Value.bool b)) hg_1_3⟩ rfl ?_
  refine .v (.pickF rfl (hg_1_3) rfl) ?_
  refine .mv rfl ?_
  refine AK.splitB (g := 25) rfl (fun hg_1_8 => ?_) (fun hg_1_8 => ?_)
  ·have hg_1_8' := hg_1_8
   try simp only [bs] at hg_1_8'
   refine AK.pass rfl rfl (hg_1_8) rfl ?_
   refine AK.pass rfl rfl (hg_1_8) rfl ?_
   refine AK.pass rfl rfl (hg_1_8) rfl ?_
   refine .v (.pickT rfl (hg_1_8) rfl) ?_
   refine .nt hK3 ?_
   refine AK.cond_t rfl (rfl) ?_
   refine .sr fun _ hK5 => ?_
   refine AK.call co15 rfl (fun w hw => s_awake w) trivial rfl ?_
   rintro r o ⟨rfl, rfl⟩
   refine .as rfl (.nt hK5 (.ret (.then_ret ?_)))
   refine AK.ret1 rfl rfl (fun w hw => ⟨_, _, ?_, rfl, Ret.of (hw.pick [] (by decide) rfl rfl)⟩)
   exact ⟨rfl, rfl⟩
  ·have hg_1_8' := hg_1_8
   try simp only [bs] at hg_1_8'
   refine AK.val _ (Yl.move rfl) ⟨_, rfl, congrArg (fun b => some (Value.bool b)) hg_1_8⟩ rfl ?_
   refine AK.val _ (Yl.lenS un9 rfl) ⟨_, rfl, congrArg (fun b => some (Value.bool b)) hg_1_8⟩ rfl ?_
   refine AK.val _ (Yl.gtr rfl rfl) ⟨_, rfl, congrArg (fun b => some (Value.bool b)) hg_1_8⟩ rfl ?_
   refine .v (.pickF rfl (hg_1_8) rfl) ?_
   refine .nt hK3 ?_
   refine AK.condD rfl (fun hc0 => ?_) (fun hc0 => ?_)
   ·refine .sr fun _ hK6 => ?_
    refine AK.call co15 rfl (fun w hw => s_awake w) trivial rfl ?_
    rintro r o ⟨rfl, rfl⟩
    refine .as rfl (.nt hK6 (.ret (.then_ret ?_)))
    refine AK.ret1 rfl rfl (fun w hw => ⟨_, _, ?_, rfl, Ret.of (hw.pick [] (by decide) rfl rfl)⟩)
    exact ⟨rfl, rfl⟩
   ·have hW : validW 6 u = true := (by simpa using hg_1_8)
    have hLt := lit_iff.1 (by simpa using hg_1_3)
    have hE := hLt.1
    have hV := errR_iff.1 hE
    refine .skip ?_
    refine AK.then_ (hK2 _ ?_)
    refine .sr fun _ hK7 => ?_
    refine .mv rfl ?_
    refine AK.call co28 rfl (fun w hw => s_confluent w v rs (h0.at hw) hll (hX.at hw)) trivial rfl ?_
    rintro r o ⟨rfl, rfl⟩
    refine .mv rfl ?_
    refine .v (.extract rfl rfl) ?_
    refine .v (.extract rfl rfl) ?_
    refine .v (.extract rfl rfl) ?_
    refine AK.alloc el45 rfl rfl trivial rfl (fun bx9 => ?_)
    refine AK.storeBox 0 (us := ccs (CfR rs).1) (cs' := ccs (CfR rs).1) rfl sz45 rfl rfl rfl rfl (ccs_one _) (Nat.le_of_ble_eq_true rfl) rfl trivial ?_
    refine .as rfl (.as rfl (.nt hK7 ?_))
    refine .seq fun _ hK8 => ?_
    refine .sr fun _ hK9 => ?_
    refine .mv rfl ?_
    refine .v (.neq rfl rfl) ?_
    refine .mv rfl ?_
    refine AK.splitB (g := 39) rfl (fun hg_4_2 => ?_) (fun hg_4_2 => ?_)
    ·have hg_4_2' := hg_4_2
     try simp only [bs] at hg_4_2'
     refine AK.pass rfl rfl (hg_4_2) rfl ?_
     refine AK.pass rfl rfl (hg_4_2) rfl ?_
     refine .v (.pickT rfl (hg_4_2) rfl) ?_
     refine .mv rfl ?_
     refine AK.pass rfl rfl rfl rfl ?_
     refine AK.pass rfl rfl rfl rfl ?_
     refine .v (.pickT rfl (rfl) rfl) ?_
     refine .mv rfl ?_
     refine AK.pass rfl rfl rfl rfl ?_
     refine AK.pass rfl rfl rfl rfl ?_
     refine AK.pass rfl rfl rfl rfl ?_
     refine AK.pass rfl rfl rfl rfl ?_
     refine .v (.pickT rfl (rfl) rfl) ?_
     refine .mv rfl ?_
     refine AK.pass rfl rfl rfl rfl ?_
     refine AK.pass rfl rfl rfl rfl ?_
     refine .v (.pickT rfl (rfl) rfl) ?_
     refine .mv rfl ?_
     refine AK.pass rfl rfl rfl rfl ?_
     refine AK.pass rfl rfl rfl rfl ?_
     refine AK.pass rfl rfl rfl rfl ?_
     refine AK.pass rfl rfl rfl rfl ?_
     refine .v (.pickT rfl (rfl) rfl) ?_
     refine .nt hK9 ?_
     refine AK.cond_t rfl (rfl) ?_
     refine .sr fun _ hK10 => ?_
     refine AK.call co15 rfl (fun w hw => s_awake w) trivial rfl ?_
     rintro r o ⟨rfl, rfl⟩
     refine .as rfl (.nt hK10 (.ret (.then_ret ?_)))
     refine AK.ret1 rfl rfl (fun w hw => ⟨_, _, ?_, rfl, Ret.of (hw.pick [] (by decide) rfl rfl)⟩)
     exact ⟨rfl, rfl⟩
    ·have hg_4_2' := hg_4_2
     try simp only [bs] at hg_4_2'
     refine AK.val _ (Yl.move rfl) ⟨_, rfl, congrArg (fun b => some (Value.bool b)) hg_4_2⟩ rfl ?_
     refine AK.val _ (Yl.not rfl) ⟨_, rfl, congrArg (fun b => some (Value.bool b)) hg_4_2⟩ rfl ?_
     refine .v (.pickF rfl (hg_4_2) rfl) ?_
     refine .mv rfl ?_
     refine AK.splitB (g := 43) rfl (fun hg_4_6 => ?_) (fun hg_4_6 => ?_)
     ·have hg_4_6' := hg_4_6
      try simp only [bs] at hg_4_6'
      refine AK.pass rfl rfl (hg_4_6) rfl ?_
      refine AK.pass rfl rfl (hg_4_6) rfl ?_
      refine .v (.pickT rfl (hg_4_6) rfl) ?_
      refine .mv rfl ?_
      refine AK.pass rfl rfl rfl rfl ?_
      refine AK.pass rfl rfl rfl rfl ?_
      refine AK.pass rfl rfl rfl rfl ?_
      refine AK.pass rfl rfl rfl rfl ?_
      refine .v (.pickT rfl (rfl) rfl) ?_
      refine .mv rfl ?_
      refine AK.pass rfl rfl rfl rfl ?_
      refine AK.pass rfl rfl rfl rfl ?_
      refine .v (.pickT rfl (rfl) rfl) ?_
      refine .mv rfl ?_
      refine AK.pass rfl rfl rfl rfl ?_
      refine AK.pass rfl rfl rfl rfl ?_
      refine AK.pass rfl rfl rfl rfl ?_
      refine AK.pass rfl rfl rfl rfl ?_
      refine .v (.pickT rfl (rfl) rfl) ?_
      refine .nt hK9 ?_
      refine AK.cond_t rfl (rfl) ?_
      refine .sr fun _ hK11 => ?_
      refine AK.call co15 rfl (fun w hw => s_awake w) trivial rfl ?_
      rintro r o ⟨rfl, rfl⟩
      refine .as rfl (.nt hK11 (.ret (.then_ret ?_)))
      refine AK.ret1 rfl rfl (fun w hw => ⟨_, _, ?_, rfl, Ret.of (hw.pick [] (by decide) rfl rfl)⟩)
      exact ⟨rfl, rfl⟩
     ·have hg_4_6' := hg_4_6
      try simp only [bs] at hg_4_6'
      refine AK.val _ (Yl.move rfl) ⟨_, rfl, congrArg (fun b => some (Value.bool b)) hg_4_6⟩ rfl ?_
      refine AK.val _ (Yl.lss rfl rfl) ⟨_, rfl, congrArg (fun b => some (Value.bool b)) hg_4_6⟩ rfl ?_
      refine .v (.pickF rfl (hg_4_6) rfl) ?_
      refine .mv rfl ?_
      refine AK.splitB (g := 47) rfl (fun hg_4_10 => ?_) (fun hg_4_10 => ?_)
      ·have hg_4_10' := hg_4_10
       try simp only [bs] at hg_4_10'
       refine AK.pass rfl rfl (hg_4_10) rfl ?_
       refine AK.pass rfl rfl (hg_4_10) rfl ?_
       refine AK.pass rfl rfl (hg_4_10) rfl ?_
       refine AK.pass rfl rfl (hg_4_10) rfl ?_
       refine .v (.pickT rfl (hg_4_10) rfl) ?_
       refine .mv rfl ?_
       refine AK.pass rfl rfl rfl rfl ?_
       refine AK.pass rfl rfl rfl rfl ?_
       refine .v (.pickT rfl (rfl) rfl) ?_
       refine .mv rfl ?_
       refine AK.pass rfl rfl rfl rfl ?_
       refine AK.pass rfl rfl rfl rfl ?_
       refine AK.pass rfl rfl rfl rfl ?_
       refine AK.pass rfl rfl rfl rfl ?_
       refine .v (.pickT rfl (rfl) rfl) ?_
       refine .nt hK9 ?_
       refine AK.cond_t rfl (rfl) ?_
       refine .sr fun _ hK12 => ?_
       refine AK.call co15 rfl (fun w hw => s_awake w) trivial rfl ?_
       rintro r o ⟨rfl, rfl⟩
       refine .as rfl (.nt hK12 (.ret (.then_ret ?_)))
       refine AK.ret1 rfl rfl (fun w hw => ⟨_, _, ?_, rfl, Ret.of (hw.pick [] (by decide) rfl rfl)⟩)
       exact ⟨rfl, rfl⟩
      ·have hg_4_10' := hg_4_10
       try simp only [bs] at hg_4_10'
       refine AK.val _ (Yl.move rfl) ⟨_, rfl, congrArg (fun b => some (Value.bool b)) hg_4_10⟩ rfl ?_
       refine AK.val _ (Yl.move rfl) ⟨_, rfl, congrArg (fun b => some (Value.bool b)) hg_4_10⟩ rfl ?_
       refine AK.val _ (Yl.lenR sl22 rfl rdp) ⟨_, rfl, congrArg (fun b => some (Value.bool b)) hg_4_10⟩ rfl ?_
       refine AK.val _ (Yl.geq rfl rfl) ⟨_, rfl, congrArg (fun b => some (Value.bool b)) hg_4_10⟩ rfl ?_
       refine .v (.pickF rfl (hg_4_10) rfl) ?_
       refine .mv rfl ?_
       refine AK.splitB (g := 53) rfl (fun hg_4_16 => ?_) (fun hg_4_16 => ?_)
       ·have hg_4_16' := hg_4_16
        try simp only [bs] at hg_4_16'
        refine AK.pass rfl rfl (hg_4_16) rfl ?_
        refine AK.pass rfl rfl (hg_4_16) rfl ?_
        refine .v (.pickT rfl (hg_4_16) rfl) ?_
        refine .mv rfl ?_
        refine AK.pass rfl rfl rfl rfl ?_
        refine AK.pass rfl rfl rfl rfl ?_
        refine AK.pass rfl rfl rfl rfl ?_
        refine AK.pass rfl rfl rfl rfl ?_
        refine .v (.pickT rfl (rfl) rfl) ?_
        refine .nt hK9 ?_
        refine AK.cond_t rfl (rfl) ?_
        refine .sr fun _ hK13 => ?_
        refine AK.call co15 rfl (fun w hw => s_awake w) trivial rfl ?_
        rintro r o ⟨rfl, rfl⟩
        refine .as rfl (.nt hK13 (.ret (.then_ret ?_)))
        refine AK.ret1 rfl rfl (fun w hw => ⟨_, _, ?_, rfl, Ret.of (hw.pick [] (by decide) rfl rfl)⟩)
        exact ⟨rfl, rfl⟩
       ·have hg_4_16' := hg_4_16
        try simp only [bs] at hg_4_16'
        refine AK.val _ (Yl.move rfl) ⟨_, rfl, congrArg (fun b => some (Value.bool b)) hg_4_16⟩ rfl ?_
        refine AK.val _ (Yl.lss rfl rfl) ⟨_, rfl, congrArg (fun b => some (Value.bool b)) hg_4_16⟩ rfl ?_
        refine .v (.pickF rfl (hg_4_16) rfl) ?_
        refine .mv rfl ?_
        refine AK.splitB (g := 57) rfl (fun hg_4_20 => ?_) (fun hg_4_20 => ?_)
        ·have hg_4_20' := hg_4_20
         try simp only [bs] at hg_4_20'
         refine AK.pass rfl rfl (hg_4_20) rfl ?_
         refine AK.pass rfl rfl (hg_4_20) rfl ?_
         refine AK.pass rfl rfl (hg_4_20) rfl ?_
         refine AK.pass rfl rfl (hg_4_20) rfl ?_
         refine .v (.pickT rfl (hg_4_20) rfl) ?_
         refine .nt hK9 ?_
         refine AK.cond_t rfl (rfl) ?_
         refine .sr fun _ hK14 => ?_
         refine AK.call co15 rfl (fun w hw => s_awake w) trivial rfl ?_
         rintro r o ⟨rfl, rfl⟩
         refine .as rfl (.nt hK14 (.ret (.then_ret ?_)))
         refine AK.ret1 rfl rfl (fun w hw => ⟨_, _, ?_, rfl, Ret.of (hw.pick [] (by decide) rfl rfl)⟩)
         exact ⟨rfl, rfl⟩
        ·have hg_4_20' := hg_4_20
         try simp only [bs] at hg_4_20'
         refine AK.val _ (Yl.move rfl) ⟨_, rfl, congrArg (fun b => some (Value.bool b)) hg_4_20⟩ rfl ?_
         refine AK.val _ (Yl.move rfl) ⟨_, rfl, congrArg (fun b => some (Value.bool b)) hg_4_20⟩ rfl ?_
         refine AK.val _ (Yl.lenS un9 rfl) ⟨_, rfl, congrArg (fun b => some (Value.bool b)) hg_4_20⟩ rfl ?_
         refine AK.val _ (Yl.gtr rfl rfl) ⟨_, rfl, congrArg (fun b => some (Value.bool b)) hg_4_20⟩ rfl ?_
         refine .v (.pickF rfl (hg_4_20) rfl) ?_
         refine .nt hK9 ?_
         refine AK.condD rfl (fun hc1 => ?_) (fun hc1 => ?_)
         ·refine .sr fun _ hK15 => ?_
          refine AK.call co15 rfl (fun w hw => s_awake w) trivial rfl ?_
          rintro r o ⟨rfl, rfl⟩
          refine .as rfl (.nt hK15 (.ret (.then_ret ?_)))
          refine AK.ret1 rfl rfl (fun w hw => ⟨_, _, ?_, rfl, Ret.of (hw.pick [] (by decide) rfl rfl)⟩)
          exact ⟨rfl, rfl⟩
         ·have hC : (CfR rs).2.1 = true := (by simpa using hg_4_6)
          obtain ⟨n, rfl⟩ : ∃ n : Nat, i = (n : Int) := ⟨i.toNat, by omega⟩
          obtain ⟨q, rfl⟩ : ∃ q : Nat, p = (q : Int) := ⟨p.toNat, by omega⟩
          have hn : n < rs.length := (by omega)
          have hln := hLt.2.2 n hn
          have hrn2 := (hV.left hn).2
          refine .skip ?_
          refine AK.then_ (hK8 _ ?_)
          refine .sr fun _ hK16 => ?_
          refine .mv rfl (.mv rfl ?_)
          first | refine .v (.iN sl22 rfl rfl) ?_ | refine .v (.iK sl22 rfl rfl) ?_
          refine .v (.fieldAddrR fd41_0 rfl) ?_
          refine .v (.loadAt on9 rfl rdp (rlc_get0 hn)) ?_
          refine .as rfl (.nt hK16 ?_)
          refine .seq fun _ hK17 => ?_
          refine .sr fun _ hK18 => ?_
          refine .mv rfl ?_
          refine .v (.lenS un9 rfl) ?_
          refine .mv rfl ?_
          refine .v (.lenS un9 rfl) ?_
          refine .mv rfl ?_
          refine .v (.sub rfl rfl (by omega)) ?_
          refine .v (.gtr rfl rfl) ?_
          refine .mv rfl ?_
          refine AK.splitB (g := 76) rfl (fun hg_7_7 => ?_) (fun hg_7_7 => ?_)
          ·have hg_7_7' := hg_7_7
           try simp only [bs] at hg_7_7'
           refine AK.pass rfl rfl (hg_7_7) rfl ?_
           refine AK.pass rfl rfl (hg_7_7) rfl ?_
           refine AK.pass rfl rfl (hg_7_7) rfl ?_
           refine AK.pass rfl rfl (hg_7_7) rfl ?_
           refine AK.pass rfl rfl (hg_7_7) rfl ?_
           refine AK.pass rfl rfl (hg_7_7) rfl ?_
           refine AK.pass rfl rfl (hg_7_7) rfl ?_
           refine AK.pass rfl rfl (hg_7_7) rfl ?_
           refine AK.pass rfl rfl (hg_7_7) rfl ?_
           refine .v (.pickT rfl (hg_7_7) rfl) ?_
           refine .nt hK18 ?_
           refine AK.cond_t rfl (rfl) ?_
           refine .sr fun _ hK19 => ?_
           refine AK.call co15 rfl (fun w hw => s_awake w) trivial rfl ?_
           rintro r o ⟨rfl, rfl⟩
           refine .as rfl (.nt hK19 (.ret (.then_ret ?_)))
           refine AK.ret1 rfl rfl (fun w hw => ⟨_, _, ?_, rfl, Ret.of (hw.pick [] (by decide) rfl rfl)⟩)
           exact ⟨rfl, rfl⟩
          ·have hg_7_7' := hg_7_7
           try simp only [bs] at hg_7_7'
           refine AK.val _ (Yl.move rfl) ⟨_, rfl, congrArg (fun b => some (Value.bool b)) hg_7_7⟩ rfl ?_
           refine AK.val _ (Yl.move rfl) ⟨_, rfl, congrArg (fun b => some (Value.bool b)) hg_7_7⟩ rfl ?_
           refine AK.val _ (Yl.move rfl) ⟨_, rfl, congrArg (fun b => some (Value.bool b)) hg_7_7⟩ rfl ?_
           refine AK.val _ (Yl.move rfl) ⟨_, rfl, congrArg (fun b => some (Value.bool b)) hg_7_7⟩ rfl ?_
           refine AK.val _ (Yl.lenS un9 rfl) ⟨_, rfl, congrArg (fun b => some (Value.bool b)) hg_7_7⟩ rfl ?_
           refine AK.val _ (Yl.add rfl rfl (by omega)) ⟨_, rfl, congrArg (fun b => some (Value.bool b)) hg_7_7⟩ rfl ?_
           refine AK.val _ (Yl.valE (Yl.subS un9 rfl rfl rfl (by omega) (by omega)) (show _ = sv ((u.drop q).take (rs.getD n ([], [])).1.length) from congrArg sv (by rw [show ((q : Int) + ((rs.getD n ([], [])).1.length : Int)).toNat - ((q : Int)).toNat = (rs.getD n ([], [])).1.length by omega]; rfl))) ⟨_, rfl, congrArg (fun b => some (Value.bool b)) hg_7_7⟩ rfl ?_
           refine AK.val _ (Yl.move rfl) ⟨_, rfl, congrArg (fun b => some (Value.bool b)) hg_7_7⟩ rfl ?_
           refine AK.val _ (Yl.neqS un9 rfl rfl) ⟨_, rfl, congrArg (fun b => some (Value.bool b)) hg_7_7⟩ rfl ?_
           refine .v (.pickF rfl (hg_7_7) rfl) ?_
           refine .nt hK18 ?_
           refine AK.condNe rfl (fun hc2 => ?_) (fun hc2 => ?_)
           ·refine .sr fun _ hK20 => ?_
            refine AK.call co15 rfl (fun w hw => s_awake w) trivial rfl ?_
            rintro r o ⟨rfl, rfl⟩
            refine .as rfl (.nt hK20 (.ret (.then_ret ?_)))
            refine AK.ret1 rfl rfl (fun w hw => ⟨_, _, ?_, rfl, Ret.of (hw.pick [] (by decide) rfl rfl)⟩)
            exact ⟨rfl, rfl⟩
           ·have heq : (u.drop q).take (rs.getD n ([], [])).1.length = (rs.getD n ([], [])).1 := (by first | assumption | simpa using hc2)
            have hS := stp_at hn heq
            have hWn := stp_val hE hW hS
            refine .skip ?_
            refine AK.then_ (hK17 _ ?_)
            refine .sr fun _ hK21 => ?_
            refine .mv rfl (.mv rfl ?_)
            refine AK.call co16 rfl (fun w hw => s_Reduce w v rs (h0.at hw) hll u (by omega)) trivial rfl ?_
            rintro r o ⟨rfl, rfl⟩
            refine .mv rfl ?_
            refine .v (.extract rfl rfl) ?_
            refine .v (.extract rfl rfl) ?_
            refine .as rfl (.as rfl (.nt hK21 ?_))
            refine .seq fun _ hK22 => ?_
            refine AK.quiet mixed krf ?_
            refine .mv rfl (.mv rfl (.mv rfl ?_))
            refine .v (.valE (Yl.subTo un9 rfl rfl (by omega)) (show _ = sv (u.take q) from congrArg sv (by rw [Int.toNat_natCast]))) ?_
            refine .mv rfl (.mv rfl ?_)
            first | refine .v (.iN sl22 rfl rfl) ?_ | refine .v (.iK sl22 rfl rfl) ?_
            refine .v (.fieldAddrR fd41_1 rfl) ?_
            refine .v (.loadAt on9 rfl rdp (rlc_get1 hn)) ?_
            refine .v (.concat rfl rfl (by simp only [List.length_append, List.length_take]; omega)) ?_
            refine .mv rfl (.mv rfl (.mv rfl ?_))
            refine .v (.lenS un9 rfl) ?_
            refine .v (.add rfl rfl (by omega)) ?_
            refine .v (.valE (Yl.subFr un9 rfl rfl (by omega)) (show _ = sv (u.drop (q + (rs.getD n ([], [])).1.length)) from congrArg sv (by congr 1 <;> omega))) ?_
            refine .v (.concat rfl rfl (by simp only [List.length_append, List.length_take, List.length_drop]; omega)) ?_
            refine QK.call (.tuple #[sv (RedV rs (u.take q ++ (rs.getD n ([], [])).2 ++ u.drop (q + (rs.getD n ([], [])).1.length))), .int .i64 (RedE rs (u.take q ++ (rs.getD n ([], [])).2 ++ u.drop (q + (rs.getD n ([], [])).1.length)))]) co16 rfl (fun w hw => s_Reduce w v rs (h0.at hw) hll (u.take q ++ (rs.getD n ([], [])).2 ++ u.drop (q + (rs.getD n ([], [])).1.length)) (by have := (validW_al hWn).1; omega)) (fun v o h => h.1) trivial rfl ?_
            refine .mv rfl ?_
            refine .v (.extract rfl rfl) ?_
            refine .v (.extract rfl rfl) ?_
            refine .as rfl (.as rfl ?_)
            refine QK.nil (QK.fin ?_)
            refine AK.then_ (hK22 _ ?_)
            refine .seq fun _ hK23 => ?_
            refine .sr fun _ hK24 => ?_
            refine .mv rfl ?_
            refine .v (.eql rfl rfl) ?_
            refine .mv rfl ?_
            refine AK.splitB (g := 117) rfl (fun hg_11_2 => ?_) (fun hg_11_2 => ?_)
            ·have hg_11_2' := hg_11_2
             try simp only [bs] at hg_11_2'
             refine AK.pass rfl rfl (hg_11_2) rfl ?_
             refine AK.pass rfl rfl (hg_11_2) rfl ?_
             refine .v (.pickT rfl (hg_11_2) rfl) ?_
             refine .nt hK24 ?_
             refine AK.cond_t rfl (rfl) ?_
             refine .sr fun _ hK25 => ?_
             refine AK.call co15 rfl (fun w hw => s_awake w) trivial rfl ?_
             rintro r o ⟨rfl, rfl⟩
             refine .as rfl (.nt hK25 (.ret (.then_ret ?_)))
             refine AK.ret1 rfl rfl (fun w hw => ⟨_, _, ?_, rfl, Ret.of (hw.pick [] (by decide) rfl rfl)⟩)
             exact ⟨rfl, rfl⟩
            ·have hg_11_2' := hg_11_2
             try simp only [bs] at hg_11_2'
             refine AK.val _ (Yl.move rfl) ⟨_, rfl, congrArg (fun b => some (Value.bool b)) hg_11_2⟩ rfl ?_
             refine AK.val _ (Yl.eql rfl rfl) ⟨_, rfl, congrArg (fun b => some (Value.bool b)) hg_11_2⟩ rfl ?_
             refine .v (.pickF rfl (hg_11_2) rfl) ?_
             refine .nt hK24 ?_
             refine AK.condD rfl (fun hc3 => ?_) (fun hc3 => ?_)
             ·refine .sr fun _ hK26 => ?_
              refine AK.call co15 rfl (fun w hw => s_awake w) trivial rfl ?_
              rintro r o ⟨rfl, rfl⟩
              refine .as rfl (.nt hK26 (.ret (.then_ret ?_)))
              refine AK.ret1 rfl rfl (fun w hw => ⟨_, _, ?_, rfl, Ret.of (hw.pick [] (by decide) rfl rfl)⟩)
              exact ⟨rfl, rfl⟩
             ·have hun := unq hE hC hW hWn hS (by omega) (by omega)
              refine .skip ?_
              refine AK.then_ (hK23 _ ?_)
              refine .sr fun _ hK27 => ?_
              refine .mv rfl ?_
              refine .v (.eql rfl rfl) ?_
              refine .mv rfl ?_
              refine AK.knownT (g := 124) rfl (decide_eq_true hun.1) (fun hg_13_2 => ?_)
              refine AK.val _ (Yl.move rfl) ⟨_, rfl, congrArg (fun b => some (Value.bool b)) hg_13_2⟩ rfl ?_
              refine AK.val _ (Yl.eql rfl rfl) ⟨_, rfl, congrArg (fun b => some (Value.bool b)) hg_13_2⟩ rfl ?_
              refine .v (.pickT rfl (hg_13_2) rfl) ?_
              refine .mv rfl ?_
              refine AK.knownT (g := 128) rfl (decide_eq_true hun.2.1) (fun hg_13_6 => ?_)
              refine AK.val _ (Yl.move rfl) ⟨_, rfl, congrArg (fun b => some (Value.bool b)) hg_13_6⟩ rfl ?_
              refine AK.val _ (Yl.move rfl) ⟨_, rfl, congrArg (fun b => some (Value.bool b)) hg_13_6⟩ rfl ?_
              refine AK.val _ (Yl.eqlS un9 rfl rfl) ⟨_, rfl, congrArg (fun b => some (Value.bool b)) hg_13_6⟩ rfl ?_
              refine .v (.pickT rfl (hg_13_6) rfl) ?_
              refine .mv rfl ?_
              refine AK.knownT (g := 133) rfl (decide_eq_true hun.2.2) (fun hg_13_11 => ?_)
              refine AK.call co15 rfl (fun w hw => s_awake w) ⟨_, rfl, congrArg (fun b => some (Value.bool b)) hg_13_11⟩ rfl ?_
              rintro r o ⟨rfl, rfl⟩
              refine .v (.pickT rfl (hg_13_11) rfl) ?_
              refine .as rfl (.nt hK27 (.ret ?_))
              refine AK.ret1 rfl rfl (fun w hw => ⟨_, _, ?_, rfl, Ret.of (hw.pick [] (by decide) rfl rfl)⟩)
              exact ⟨rfl, rfl⟩

set_option maxHeartbeats 2600000 in
set_option maxRecDepth 100000 in
theorem l_parts (w : World) (v : Value) (rs : List Rul) (h : RdR (fun _ => False) w v rs) (hll : ∀ k, k < rs.length → (rs.getD k ([], [])).1.length ≤ 9223372036854775807 ∧ (rs.getD k ([], [])).2.length ≤ 9223372036854775807) (u t : Wrd) (hu : u.length ≤ 140737488351232) (ht : t.length ≤ 140737488351232) (hX : MxA w) : CallS Try.prog 10 [v, sv u, sv t] w (fun r o => r = .bool true ∧ o = []) := by
 have h0 := h
 have hb := h.len
 have sv0 := Rd.sl h
 unfold RdR at h
 refine spec_of Try.func10 rfl (Nat.le_of_ble_eq_true rfl) ?_
 refine .sr fun _ hK1 => ?_
 refine .as rfl (.nt hK1 ?_)
 refine .seq fun _ hK2 => ?_
 refine .sr fun _ hK3 => ?_
 refine .mv rfl ?_
 refine AK.call co21 rfl (fun w hw => s_little w v rs (h0.at hw) hll 6 10) trivial rfl ?_
 rintro r o ⟨rfl, rfl⟩
 refine .v (.not rfl) ?_
 refine .mv rfl ?_
 refine AK.splitB (g := 21) rfl (fun hg_1_3 => ?_) (fun hg_1_3 => ?_)
 ·have hg_1_3' := hg_1_3
  try simp only [bs] at hg_1_3'
  refine AK.pass rfl rfl (hg_1_3) rfl ?_
  refine AK.pass rfl rfl (hg_1_3) rfl ?_
  refine AK.pass rfl rfl (hg_1_3) rfl ?_
  refine AK.pass rfl rfl (hg_1_3) rfl ?_
  refine AK.pass rfl rfl (hg_1_3) rfl ?_
  refine .v (.pickT rfl (hg_1_3) rfl) ?_
  refine .mv rfl ?_
  refine AK.pass rfl rfl rfl rfl ?_
  refine AK.pass rfl rfl rfl rfl ?_
  refine AK.pass rfl rfl rfl rfl ?_
  refine AK.pass rfl rfl rfl rfl ?_
  refine AK.pass rfl rfl rfl rfl ?_
  refine AK.pass rfl rfl rfl rfl ?_
  refine .v (.pickT rfl (rfl) rfl) ?_
  refine .nt hK3 ?_
  refine AK.cond_t rfl (rfl) ?_
  refine .sr fun _ hK4 => ?_
  refine AK.call co15 rfl (fun w hw => s_awake w) trivial rfl ?_
  rintro r o ⟨rfl, rfl⟩
  refine .as rfl (.nt hK4 (.ret (.then_ret ?_)))
  refine AK.ret1 rfl rfl (fun w hw => ⟨_, _, ?_, rfl, Ret.of (hw.pick [] (by decide) rfl rfl)⟩)
  exact ⟨rfl, rfl⟩
 ·have hg_1_3' := hg_1_3
  try simp only [bs] at hg_1_3'
  refine AK.val _ (Yl.move rfl) ⟨_, rfl, congrArg (fun b => some (Value.bool b)) hg_1_3⟩ rfl ?_
  refine AK.val _ (Yl.move rfl) ⟨_, rfl, congrArg (fun b => some (Value.bool b)) hg_1_3⟩ rfl ?_
  refine AK.val _ (Yl.concat rfl rfl (by first | omega | (simp; omega))) ⟨_, rfl, congrArg (fun b => some (Value.bool b)) hg_1_3⟩ rfl ?_
  refine AK.call co18 rfl (fun w hw => s_refwvalid w (u ++ t) 6 (by rw [List.length_append]; omega)) ⟨_, rfl, congrArg (fun b => some (Value.bool b)) hg_1_3⟩ rfl ?_
  rintro r o ⟨rfl, rfl⟩
  refine AK.val _ (Yl.not rfl) ⟨_, rfl, congrArg (fun b => some (Value.bool b)) hg_1_3⟩ rfl ?_
  refine .v (.pickF rfl (hg_1_3) rfl) ?_
  refine .mv rfl ?_
  refine AK.splitB (g := 28) rfl (fun hg_1_10 => ?_) (fun hg_1_10 => ?_)
  ·have hg_1_10' := hg_1_10
   try simp only [bs] at hg_1_10'
   refine AK.pass rfl rfl (hg_1_10) rfl ?_
   refine AK.pass rfl rfl (hg_1_10) rfl ?_
   refine AK.pass rfl rfl (hg_1_10) rfl ?_
   refine AK.pass rfl rfl (hg_1_10) rfl ?_
   refine AK.pass rfl rfl (hg_1_10) rfl ?_
   refine AK.pass rfl rfl (hg_1_10) rfl ?_
   refine .v (.pickT rfl (hg_1_10) rfl) ?_
   refine .nt hK3 ?_
   refine AK.cond_t rfl (rfl) ?_
   refine .sr fun _ hK5 => ?_
   refine AK.call co15 rfl (fun w hw => s_awake w) trivial rfl ?_
   rintro r o ⟨rfl, rfl⟩
   refine .as rfl (.nt hK5 (.ret (.then_ret ?_)))
   refine AK.ret1 rfl rfl (fun w hw => ⟨_, _, ?_, rfl, Ret.of (hw.pick [] (by decide) rfl rfl)⟩)
   exact ⟨rfl, rfl⟩
  ·have hg_1_10' := hg_1_10
   try simp only [bs] at hg_1_10'
   refine AK.val _ (Yl.move rfl) ⟨_, rfl, congrArg (fun b => some (Value.bool b)) hg_1_10⟩ rfl ?_
   refine AK.val _ (Yl.lenS un9 rfl) ⟨_, rfl, congrArg (fun b => some (Value.bool b)) hg_1_10⟩ rfl ?_
   refine AK.val _ (Yl.move rfl) ⟨_, rfl, congrArg (fun b => some (Value.bool b)) hg_1_10⟩ rfl ?_
   refine AK.val _ (Yl.lenS un9 rfl) ⟨_, rfl, congrArg (fun b => some (Value.bool b)) hg_1_10⟩ rfl ?_
   refine AK.val _ (Yl.add rfl rfl (by omega)) ⟨_, rfl, congrArg (fun b => some (Value.bool b)) hg_1_10⟩ rfl ?_
   refine AK.val _ (Yl.gtr rfl rfl) ⟨_, rfl, congrArg (fun b => some (Value.bool b)) hg_1_10⟩ rfl ?_
   refine .v (.pickF rfl (hg_1_10) rfl) ?_
   refine .nt hK3 ?_
   refine AK.condD rfl (fun hc0 => ?_) (fun hc0 => ?_)
   ·refine .sr fun _ hK6 => ?_
    refine AK.call co15 rfl (fun w hw => s_awake w) trivial rfl ?_
    rintro r o ⟨rfl, rfl⟩
    refine .as rfl (.nt hK6 (.ret (.then_ret ?_)))
    refine AK.ret1 rfl rfl (fun w hw => ⟨_, _, ?_, rfl, Ret.of (hw.pick [] (by decide) rfl rfl)⟩)
    exact ⟨rfl, rfl⟩
   ·have hW : validW 6 (u ++ t) = true := (by simpa using hg_1_10)
    have hLt := lit_iff.1 (by simpa using hg_1_3)
    have hE := hLt.1
    have hpl := pts_len hE hW
    refine .skip ?_
    refine AK.then_ (hK2 _ ?_)
    refine .sr fun _ hK7 => ?_
    refine .mv rfl ?_
    refine AK.call co28 rfl (fun w hw => s_confluent w v rs (h0.at hw) hll (hX.at hw)) trivial rfl ?_
    rintro r o ⟨rfl, rfl⟩
    refine .mv rfl ?_
    refine .v (.extract rfl rfl) ?_
    refine .v (.extract rfl rfl) ?_
    refine .v (.extract rfl rfl) ?_
    refine AK.alloc el45 rfl rfl trivial rfl (fun bx7 => ?_)
    refine AK.storeBox 0 (us := ccs (CfR rs).1) (cs' := ccs (CfR rs).1) rfl sz45 rfl rfl rfl rfl (ccs_one _) (Nat.le_of_ble_eq_true rfl) rfl trivial ?_
    refine .as rfl (.as rfl (.nt hK7 ?_))
    refine .seq fun _ hK8 => ?_
    refine .sr fun _ hK9 => ?_
    refine .mv rfl ?_
    refine .v (.neq rfl rfl) ?_
    refine .mv rfl ?_
    refine AK.splitB (g := 45) rfl (fun hg_4_2 => ?_) (fun hg_4_2 => ?_)
    ·have hg_4_2' := hg_4_2
     try simp only [bs] at hg_4_2'
     refine AK.pass rfl rfl (hg_4_2) rfl ?_
     refine AK.pass rfl rfl (hg_4_2) rfl ?_
     refine .v (.pickT rfl (hg_4_2) rfl) ?_
     refine .nt hK9 ?_
     refine AK.cond_t rfl (rfl) ?_
     refine .sr fun _ hK10 => ?_
     refine AK.call co15 rfl (fun w hw => s_awake w) trivial rfl ?_
     rintro r o ⟨rfl, rfl⟩
     refine .as rfl (.nt hK10 (.ret (.then_ret ?_)))
     refine AK.ret1 rfl rfl (fun w hw => ⟨_, _, ?_, rfl, Ret.of (hw.pick [] (by decide) rfl rfl)⟩)
     exact ⟨rfl, rfl⟩
    ·have hg_4_2' := hg_4_2
     try simp only [bs] at hg_4_2'
     refine AK.val _ (Yl.move rfl) ⟨_, rfl, congrArg (fun b => some (Value.bool b)) hg_4_2⟩ rfl ?_
     refine AK.val _ (Yl.not rfl) ⟨_, rfl, congrArg (fun b => some (Value.bool b)) hg_4_2⟩ rfl ?_
     refine .v (.pickF rfl (hg_4_2) rfl) ?_
     refine .nt hK9 ?_
     refine AK.condB rfl (fun hc1 => ?_) (fun hc1 => ?_)
     ·refine .sr fun _ hK11 => ?_
      refine AK.call co15 rfl (fun w hw => s_awake w) trivial rfl ?_
      rintro r o ⟨rfl, rfl⟩
      refine .as rfl (.nt hK11 (.ret (.then_ret ?_)))
      refine AK.ret1 rfl rfl (fun w hw => ⟨_, _, ?_, rfl, Ret.of (hw.pick [] (by decide) rfl rfl)⟩)
      exact ⟨rfl, rfl⟩
     ·have hC : (CfR rs).2.1 = true := (by simpa using hc1)
      refine .skip ?_
      refine AK.then_ (hK8 _ ?_)
      refine .sr fun _ hK12 => ?_
      refine .mv rfl (.mv rfl (.mv rfl ?_))
      refine .v (.concat rfl rfl (by first | omega | (simp; omega))) ?_
      refine AK.call co16 rfl (fun w hw => s_Reduce w v rs (h0.at hw) hll (u ++ t) (by rw [List.length_append]; omega)) trivial rfl ?_
      rintro r o ⟨rfl, rfl⟩
      refine .mv rfl ?_
      refine .v (.extract rfl rfl) ?_
      refine .v (.extract rfl rfl) ?_
      refine .as rfl (.as rfl (.nt hK12 ?_))
      refine .sr fun _ hK13 => ?_
      refine .mv rfl (.mv rfl ?_)
      refine AK.call co16 rfl (fun w hw => s_Reduce w v rs (h0.at hw) hll u (by omega)) trivial rfl ?_
      rintro r o ⟨rfl, rfl⟩
      refine .mv rfl ?_
      refine .v (.extract rfl rfl) ?_
      refine .v (.extract rfl rfl) ?_
      refine .as rfl (.as rfl (.nt hK13 ?_))
      refine .sr fun _ hK14 => ?_
      refine .mv rfl (.mv rfl ?_)
      refine AK.call co16 rfl (fun w hw => s_Reduce w v rs (h0.at hw) hll t (by omega)) trivial rfl ?_
      rintro r o ⟨rfl, rfl⟩
      refine .mv rfl ?_
      refine .v (.extract rfl rfl) ?_
      refine .v (.extract rfl rfl) ?_
      refine .as rfl (.as rfl (.nt hK14 ?_))
      refine .sr fun _ hK15 => ?_
      refine .mv rfl (.mv rfl (.mv rfl ?_))
      refine .v (.concat rfl rfl (by omega)) ?_
      refine AK.call co16 rfl (fun w hw => s_Reduce w v rs (h0.at hw) hll (RedV rs u ++ RedV rs t) (by rw [List.length_append]; omega)) trivial rfl ?_
      rintro r o ⟨rfl, rfl⟩
      refine .mv rfl ?_
      refine .v (.extract rfl rfl) ?_
      refine .v (.extract rfl rfl) ?_
      refine .as rfl (.as rfl (.nt hK15 ?_))
      refine .seq fun _ hK16 => ?_
      refine .sr fun _ hK17 => ?_
      refine .mv rfl ?_
      refine .v (.eql rfl rfl) ?_
      refine .mv rfl ?_
      refine AK.splitB (g := 80) rfl (fun hg_10_2 => ?_) (fun hg_10_2 => ?_)
      ·have hg_10_2' := hg_10_2
       try simp only [bs] at hg_10_2'
       refine AK.pass rfl rfl (hg_10_2) rfl ?_
       refine AK.pass rfl rfl (hg_10_2) rfl ?_
       refine .v (.pickT rfl (hg_10_2) rfl) ?_
       refine .mv rfl ?_
       refine AK.pass rfl rfl rfl rfl ?_
       refine AK.pass rfl rfl rfl rfl ?_
       refine .v (.pickT rfl (rfl) rfl) ?_
       refine .mv rfl ?_
       refine AK.pass rfl rfl rfl rfl ?_
       refine AK.pass rfl rfl rfl rfl ?_
       refine .v (.pickT rfl (rfl) rfl) ?_
       refine .nt hK17 ?_
       refine AK.cond_t rfl (rfl) ?_
       refine .sr fun _ hK18 => ?_
       refine AK.call co15 rfl (fun w hw => s_awake w) trivial rfl ?_
       rintro r o ⟨rfl, rfl⟩
       refine .as rfl (.nt hK18 (.ret (.then_ret ?_)))
       refine AK.ret1 rfl rfl (fun w hw => ⟨_, _, ?_, rfl, Ret.of (hw.pick [] (by decide) rfl rfl)⟩)
       exact ⟨rfl, rfl⟩
      ·have hg_10_2' := hg_10_2
       try simp only [bs] at hg_10_2'
       refine AK.val _ (Yl.move rfl) ⟨_, rfl, congrArg (fun b => some (Value.bool b)) hg_10_2⟩ rfl ?_
       refine AK.val _ (Yl.eql rfl rfl) ⟨_, rfl, congrArg (fun b => some (Value.bool b)) hg_10_2⟩ rfl ?_
       refine .v (.pickF rfl (hg_10_2) rfl) ?_
       refine .mv rfl ?_
       refine AK.splitB (g := 84) rfl (fun hg_10_6 => ?_) (fun hg_10_6 => ?_)
       ·have hg_10_6' := hg_10_6
        try simp only [bs] at hg_10_6'
        refine AK.pass rfl rfl (hg_10_6) rfl ?_
        refine AK.pass rfl rfl (hg_10_6) rfl ?_
        refine .v (.pickT rfl (hg_10_6) rfl) ?_
        refine .mv rfl ?_
        refine AK.pass rfl rfl rfl rfl ?_
        refine AK.pass rfl rfl rfl rfl ?_
        refine .v (.pickT rfl (rfl) rfl) ?_
        refine .nt hK17 ?_
        refine AK.cond_t rfl (rfl) ?_
        refine .sr fun _ hK19 => ?_
        refine AK.call co15 rfl (fun w hw => s_awake w) trivial rfl ?_
        rintro r o ⟨rfl, rfl⟩
        refine .as rfl (.nt hK19 (.ret (.then_ret ?_)))
        refine AK.ret1 rfl rfl (fun w hw => ⟨_, _, ?_, rfl, Ret.of (hw.pick [] (by decide) rfl rfl)⟩)
        exact ⟨rfl, rfl⟩
       ·have hg_10_6' := hg_10_6
        try simp only [bs] at hg_10_6'
        refine AK.val _ (Yl.move rfl) ⟨_, rfl, congrArg (fun b => some (Value.bool b)) hg_10_6⟩ rfl ?_
        refine AK.val _ (Yl.eql rfl rfl) ⟨_, rfl, congrArg (fun b => some (Value.bool b)) hg_10_6⟩ rfl ?_
        refine .v (.pickF rfl (hg_10_6) rfl) ?_
        refine .mv rfl ?_
        refine AK.splitB (g := 88) rfl (fun hg_10_10 => ?_) (fun hg_10_10 => ?_)
        ·have hg_10_10' := hg_10_10
         try simp only [bs] at hg_10_10'
         refine AK.pass rfl rfl (hg_10_10) rfl ?_
         refine AK.pass rfl rfl (hg_10_10) rfl ?_
         refine .v (.pickT rfl (hg_10_10) rfl) ?_
         refine .nt hK17 ?_
         refine AK.cond_t rfl (rfl) ?_
         refine .sr fun _ hK20 => ?_
         refine AK.call co15 rfl (fun w hw => s_awake w) trivial rfl ?_
         rintro r o ⟨rfl, rfl⟩
         refine .as rfl (.nt hK20 (.ret (.then_ret ?_)))
         refine AK.ret1 rfl rfl (fun w hw => ⟨_, _, ?_, rfl, Ret.of (hw.pick [] (by decide) rfl rfl)⟩)
         exact ⟨rfl, rfl⟩
        ·have hg_10_10' := hg_10_10
         try simp only [bs] at hg_10_10'
         refine AK.val _ (Yl.move rfl) ⟨_, rfl, congrArg (fun b => some (Value.bool b)) hg_10_10⟩ rfl ?_
         refine AK.val _ (Yl.eql rfl rfl) ⟨_, rfl, congrArg (fun b => some (Value.bool b)) hg_10_10⟩ rfl ?_
         refine .v (.pickF rfl (hg_10_10) rfl) ?_
         refine .nt hK17 ?_
         refine AK.condD rfl (fun hc2 => ?_) (fun hc2 => ?_)
         ·refine .sr fun _ hK21 => ?_
          refine AK.call co15 rfl (fun w hw => s_awake w) trivial rfl ?_
          rintro r o ⟨rfl, rfl⟩
          refine .as rfl (.nt hK21 (.ret (.then_ret ?_)))
          refine AK.ret1 rfl rfl (fun w hw => ⟨_, _, ?_, rfl, Ret.of (hw.pick [] (by decide) rfl rfl)⟩)
          exact ⟨rfl, rfl⟩
         ·have hp := pts hE hC hW (by omega) (by omega) (by omega) (by omega)
          refine .skip ?_
          refine AK.then_ (hK16 _ ?_)
          refine .sr fun _ hK22 => ?_
          refine .mv rfl ?_
          refine .v (.eql rfl rfl) ?_
          refine .mv rfl ?_
          refine AK.knownT (g := 95) rfl (decide_eq_true hp.1) (fun hg_12_2 => ?_)
          refine AK.val _ (Yl.move rfl) ⟨_, rfl, congrArg (fun b => some (Value.bool b)) hg_12_2⟩ rfl ?_
          refine AK.val _ (Yl.eql rfl rfl) ⟨_, rfl, congrArg (fun b => some (Value.bool b)) hg_12_2⟩ rfl ?_
          refine .v (.pickT rfl (hg_12_2) rfl) ?_
          refine .mv rfl ?_
          refine AK.knownT (g := 99) rfl (decide_eq_true hp.2.1) (fun hg_12_6 => ?_)
          refine AK.val _ (Yl.move rfl) ⟨_, rfl, congrArg (fun b => some (Value.bool b)) hg_12_6⟩ rfl ?_
          refine AK.val _ (Yl.eql rfl rfl) ⟨_, rfl, congrArg (fun b => some (Value.bool b)) hg_12_6⟩ rfl ?_
          refine .v (.pickT rfl (hg_12_6) rfl) ?_
          refine .mv rfl ?_
          refine AK.knownT (g := 103) rfl (decide_eq_true hp.2.2.1) (fun hg_12_10 => ?_)
          refine AK.val _ (Yl.move rfl) ⟨_, rfl, congrArg (fun b => some (Value.bool b)) hg_12_10⟩ rfl ?_
          refine AK.val _ (Yl.eql rfl rfl) ⟨_, rfl, congrArg (fun b => some (Value.bool b)) hg_12_10⟩ rfl ?_
          refine .v (.pickT rfl (hg_12_10) rfl) ?_
          refine .mv rfl ?_
          refine AK.knownT (g := 107) rfl (decide_eq_true hp.2.2.2.1) (fun hg_12_14 => ?_)
          refine AK.val _ (Yl.move rfl) ⟨_, rfl, congrArg (fun b => some (Value.bool b)) hg_12_14⟩ rfl ?_
          refine AK.val _ (Yl.move rfl) ⟨_, rfl, congrArg (fun b => some (Value.bool b)) hg_12_14⟩ rfl ?_
          refine AK.val _ (Yl.eqlS un9 rfl rfl) ⟨_, rfl, congrArg (fun b => some (Value.bool b)) hg_12_14⟩ rfl ?_
          refine .v (.pickT rfl (hg_12_14) rfl) ?_
          refine .mv rfl ?_
          refine AK.knownT (g := 112) rfl (decide_eq_true hp.2.2.2.2) (fun hg_12_19 => ?_)
          refine AK.call co15 rfl (fun w hw => s_awake w) ⟨_, rfl, congrArg (fun b => some (Value.bool b)) hg_12_19⟩ rfl ?_
          rintro r o ⟨rfl, rfl⟩
          refine .v (.pickT rfl (hg_12_19) rfl) ?_
          refine .as rfl (.nt hK22 (.ret ?_))
          refine AK.ret1 rfl rfl (fun w hw => ⟨_, _, ?_, rfl, Ret.of (hw.pick [] (by decide) rfl rfl)⟩)
          exact ⟨rfl, rfl⟩

end Go.Proofs.Ytaeojcaidcjnaaa
