import Derived.Test.YtckicbgffhbacaaDoorN12
import Derived.Test.YtckicbgffhbacaaDoorN11
import Derived.Test.YtckicbgffhbacaaDoorN6
import Derived.Test.YtckicbgffhbacaaDoorD10
import Derived.Test.YtckicbgffhbacaaDoorNj
set_option linter.unusedVariables false
set_option linter.unusedSimpArgs false
namespace Go.Proofs.YtckicbgffhbacaaDoor
open Go.Sx Go.RowKit
set_option maxHeartbeats 1000000 in
set_option maxRecDepth 100000 in
theorem l_converts (w : World) (v : Value) (d : Dfa) (h : RdD (fun _ => False) w v d) (hT : TbA w) : CallS Tryd.prog 4 [v] w (fun r o => r = .bool true ∧ o = []) := by
 have h0 := h
 obtain ⟨vF, vN, rfl, hF, hN⟩ := h
 have hF0 := hF
 have hN0 := hN
 obtain ⟨rs, hrl, hNr, hNi⟩ := hN
 have sF := hF.sl
 have sN := hNr.sl
 have hmf := hF.le
 have hmn := hNr.le
 unfold RdL at hF
 refine spec_of Tryd.func4 rfl (Nat.le_of_ble_eq_true rfl) ?_
 refine .sr fun _ hK1 => ?_
 refine AK.box_ (E := 32) (cs := [.int .i64 d.L, .int .i64 d.s, vF, vN]) rfl rfl rfl trivial rfl (fun bx1 => ?_)
 refine .as rfl (.nt hK1 ?_)
 refine .sr fun _ hK2 => ?_
 refine .v (.loadBoxG ag32 rfl bsp rfl rfl) ?_
 refine AK.call co11 rfl (fun w hw => s_tonfa w _ d (h0.at hw)) trivial rfl ?_
 rintro r o ⟨xE, rfl, sxE, rfl⟩
 refine .mv rfl ?_
 refine .v (.extract rfl rfl) ?_
 refine .v (.extract rfl rfl) ?_
 refine AK.alloc el25 rfl rfl trivial rfl (fun bx3 => ?_)
 refine AK.storeBox 2 (us := [.int .i64 (ToV d).L, .int .i64 (ToV d).S, uv (ToV d).st, uv (ToV d).fi, xE]) (cs' := [.int .i64 (ToV d).L, .int .i64 (ToV d).S, uv (ToV d).st, uv (ToV d).fi, xE]) rfl sz25 rfl rfl rfl rfl oneP (Nat.le_of_ble_eq_true rfl) rfl trivial ?_
 refine .as rfl (.nt hK2 ?_)
 refine .sr fun _ hK3 => ?_
 refine .v (.loadBoxG ag32 rfl bsp rfl rfl) ?_
 refine AK.call co12 rfl (fun w hw => s_reftonfa w _ d (h0.at hw)) trivial rfl ?_
 rintro r o ⟨yE, rfl, syE, rfl⟩
 refine .mv rfl ?_
 refine .v (.extract rfl rfl) ?_
 refine .v (.extract rfl rfl) ?_
 refine AK.alloc el25 rfl rfl trivial rfl (fun bx5 => ?_)
 refine AK.storeBox 4 (us := [.int .i64 (ToV d).L, .int .i64 (ToV d).S, uv (ToV d).st, uv (ToV d).fi, yE]) (cs' := [.int .i64 (ToV d).L, .int .i64 (ToV d).S, uv (ToV d).st, uv (ToV d).fi, yE]) rfl sz25 rfl rfl rfl rfl oneP (Nat.le_of_ble_eq_true rfl) rfl trivial ?_
 refine .as rfl (.nt hK3 ?_)
 refine .seq fun _ hK4 => ?_
 refine .sr fun _ hK5 => ?_
 refine .mv rfl (.mv rfl ?_)
 refine .v (.neq rfl rfl) ?_
 refine .mv rfl ?_
 refine AK.knownF (g := 25) rfl (decide_eq_false (not_not_intro rfl)) (fun hg_3_3 => ?_)
 refine AK.val _ (Yl.loadBoxG ag25 rfl bsp rfl rfl) ⟨_, rfl, congrArg (fun b => some (Value.bool b)) hg_3_3⟩ rfl ?_
 refine AK.val _ (Yl.loadBoxG ag25 rfl bsp rfl rfl) ⟨_, rfl, congrArg (fun b => some (Value.bool b)) hg_3_3⟩ rfl ?_
 refine AK.call co13 rfl (fun w hw => s_sameN w _ _ (ToV d) (RdN.own 1 hw rfl) (RdN.own 3 hw rfl)) ⟨_, rfl, congrArg (fun b => some (Value.bool b)) hg_3_3⟩ rfl ?_
 rintro r o ⟨rfl, rfl⟩
 refine AK.val _ (Yl.not rfl) ⟨_, rfl, congrArg (fun b => some (Value.bool b)) hg_3_3⟩ rfl ?_
 refine .v (.pickF rfl (hg_3_3) rfl) ?_
 refine .nt hK5 ?_
 refine AK.cond_f rfl (rfl) ?_
 refine .skip ?_
 refine AK.then_ (hK4 _ ?_)
 refine .seq fun _ hK6 => ?_
 refine .sr fun _ hK7 => ?_
 refine .mv rfl ?_
 refine .v (.neq rfl rfl) ?_
 refine .nt hK7 ?_
 refine AK.condNe rfl (fun hc1 => ?_) (fun hc1 => ?_)
 ·refine .sr fun _ hK8 => ?_
  refine AK.call co7 rfl (fun w hw => s_awake w) trivial rfl ?_
  rintro r o ⟨rfl, rfl⟩
  refine .as rfl (.nt hK8 (.ret (.then_ret ?_)))
  refine AK.ret1 rfl rfl (fun w hw => ⟨_, _, ?_, rfl, Ret.of (hw.pick [] (by decide) rfl rfl)⟩)
  exact ⟨rfl, rfl⟩
 ·have hE : errT d = 0 := (by first | omega | (simp_all; done))
  have hv : VD d := (errT_iff.1 hE).1
  have h64 : (d.fin.length : Int) ≤ 64 := (errT_iff.1 hE).2
  have hTo : ToV d = toN d := if_pos hE
  have hU : UOk (ToV d) (bitU d) := (by rw [hTo]; exact bit_uok hv h64)
  have hN : errN (ToV d) = 0 := (by rw [hTo]; exact errN_iff.2 (toN_vn hv h64))
  have hS : SubV (ToV d) (bitU d) = TrimV d := (by rw [hTo, sub_toN hv h64]; exact (if_pos hv).symm)
  refine .skip ?_
  refine AK.then_ (hK6 _ ?_)
  refine .sr fun _ hK9 => ?_
  refine .v (.loadBoxG ag25 rfl bsp rfl rfl) ?_
  refine AK.call co8 rfl (fun w hw => s_subset w _ (ToV d) (RdN.own 1 hw rfl) (bitU d) (fun _ => hU) (hT.at hw)) trivial rfl ?_
  rintro r o ⟨aF, aN, aS, as1, rfl, has, saF, saN, saS, rfl⟩
  refine .mv rfl ?_
  refine .v (.extract rfl rfl) ?_
  refine .v (.extract rfl rfl) ?_
  refine .v (.extract rfl rfl) ?_
  refine AK.alloc el32 rfl rfl trivial rfl (fun bx7 => ?_)
  refine AK.storeBox 9 (us := [.int .i64 (SubV (ToV d) (bitU d)).L, .int .i64 (SubV (ToV d) (bitU d)).s, aF, aN]) (cs' := [.int .i64 (SubV (ToV d) (bitU d)).L, .int .i64 (SubV (ToV d) (bitU d)).s, aF, aN]) rfl sz32 rfl rfl rfl rfl oneP (Nat.le_of_ble_eq_true rfl) rfl trivial ?_
  refine .as rfl (.as rfl (.nt hK9 ?_))
  refine .sr fun _ hK10 => ?_
  refine .v (.loadBoxG ag32 rfl bsp rfl rfl) ?_
  refine AK.call co14 rfl (fun w hw => s_trim w _ d (h0.at hw)) trivial rfl ?_
  rintro r o ⟨tF, tN, tM, trs, rfl, hrs, s1, s2, s3, rfl⟩
  refine .mv rfl ?_
  refine .v (.extract rfl rfl) ?_
  refine .v (.extract rfl rfl) ?_
  refine AK.alloc el32 rfl rfl trivial rfl (fun bx10 => ?_)
  refine AK.storeBox 14 (us := [.int .i64 (TrimV d).L, .int .i64 (TrimV d).s, tF, tN]) (cs' := [.int .i64 (TrimV d).L, .int .i64 (TrimV d).s, tF, tN]) rfl sz32 rfl rfl rfl rfl oneP (Nat.le_of_ble_eq_true rfl) rfl trivial ?_
  refine .as rfl (.nt hK10 ?_)
  refine .sr fun _ hK11 => ?_
  refine .mv rfl ?_
  refine .v (.eql rfl rfl) ?_
  refine .mv rfl ?_
  refine AK.knownT (g := 47) rfl (decide_eq_true hN) (fun hg_9_2 => ?_)
  refine AK.val _ (Yl.loadBoxG ag32 rfl bsp rfl rfl) ⟨_, rfl, congrArg (fun b => some (Value.bool b)) hg_9_2⟩ rfl ?_
  refine AK.val _ (Yl.loadBoxG ag32 rfl bsp rfl rfl) ⟨_, rfl, congrArg (fun b => some (Value.bool b)) hg_9_2⟩ rfl ?_
  refine AK.call co10 rfl (fun w hw => s_sameD w _ _ (SubV (ToV d) (bitU d)) (TrimV d) (RdD.own 5 hw has rfl rfl rfl) (RdD.own 10 hw hrs rfl rfl rfl)) ⟨_, rfl, congrArg (fun b => some (Value.bool b)) hg_9_2⟩ rfl ?_
  rintro r o ⟨rfl, rfl⟩
  refine .v (.pickT rfl (hg_9_2) rfl) ?_
  refine .mv rfl ?_
  refine AK.knownT (g := 52) rfl (decide_eq_true hS) (fun hg_9_7 => ?_)
  refine AK.call co7 rfl (fun w hw => s_awake w) ⟨_, rfl, congrArg (fun b => some (Value.bool b)) hg_9_7⟩ rfl ?_
  rintro r o ⟨rfl, rfl⟩
  refine .v (.pickT rfl (hg_9_7) rfl) ?_
  refine .as rfl (.nt hK11 (.ret ?_))
  refine AK.ret1 rfl rfl (fun w hw => ⟨_, _, ?_, rfl, Ret.of (hw.pick [] (by decide) rfl rfl)⟩)
  exact ⟨rfl, rfl⟩

end Go.Proofs.YtckicbgffhbacaaDoor
