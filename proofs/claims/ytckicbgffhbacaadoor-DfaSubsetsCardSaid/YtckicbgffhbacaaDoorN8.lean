import Derived.Test.YtckicbgffhbacaaDoorN7
import Derived.Test.YtckicbgffhbacaaDoorD10
set_option linter.unusedVariables false
set_option linter.unusedSimpArgs false
namespace Go.Proofs.YtckicbgffhbacaaDoor
open Go.Sx Go.RowKit
set_option maxHeartbeats 1000000 in
set_option maxRecDepth 100000 in
theorem l_subsets (w : World) (v : Value) (n : Nfa) (h : RdN (fun _ => False) w v n) (hT : TbA w) : CallS Tryd.prog 3 [v] w (fun r o => r = .bool true ∧ o = []) := by
 have h0 := h
 obtain ⟨vE, rfl, hE⟩ := h
 have sE := Rd.sl hE
 have hme := Rd.le hE
 refine spec_of Tryd.func3 rfl (Nat.le_of_ble_eq_true rfl) ?_
 refine .sr fun _ hK1 => ?_
 refine AK.box_ (E := 25) (cs := [.int .i64 n.L, .int .i64 n.S, uv n.st, uv n.fi, vE]) rfl rfl rfl trivial rfl (fun bx1 => ?_)
 refine .as rfl (.nt hK1 ?_)
 refine .seq fun _ hK2 => ?_
 refine .sr fun _ hK3 => ?_
 refine .v (.loadBoxG ag25 rfl bsp rfl rfl) ?_
 refine AK.call co6 rfl (fun w hw => s_nrefvalidate w _ n (h0.at hw)) trivial rfl ?_
 rintro r o ⟨rfl, rfl⟩
 refine .v (.eql rfl rfl) ?_
 refine .mv rfl ?_
 refine AK.splitB (g := 13) rfl (fun hg_1_3 => ?_) (fun hg_1_3 => ?_)
 ·have hg_1_3' := hg_1_3
  try simp only [bs] at hg_1_3'
  refine AK.val _ (Yl.fieldAddr fd25_1 rfl) ⟨_, rfl, congrArg (fun b => some (Value.bool b)) hg_1_3⟩ rfl ?_
  refine AK.val _ (Yl.loadBox on3 rfl bsp rfl) ⟨_, rfl, congrArg (fun b => some (Value.bool b)) hg_1_3⟩ rfl ?_
  refine AK.val _ (Yl.gtr rfl rfl) ⟨_, rfl, congrArg (fun b => some (Value.bool b)) hg_1_3⟩ rfl ?_
  refine .v (.pickT rfl (hg_1_3) rfl) ?_
  refine .nt hK3 ?_
  refine AK.condD rfl (fun hc0 => ?_) (fun hc0 => ?_)
  ·refine .sr fun _ hK4 => ?_
   refine AK.call co7 rfl (fun w hw => s_awake w) trivial rfl ?_
   rintro r o ⟨rfl, rfl⟩
   refine .as rfl (.nt hK4 (.ret (.then_ret ?_)))
   refine AK.ret1 rfl rfl (fun w hw => ⟨_, _, ?_, rfl, Ret.of (hw.pick [] (by decide) rfl rfl)⟩)
   exact ⟨rfl, rfl⟩
  ·have hU : VN n → UOk n (allS n.S) := fun hv => uok_small hv (by have h0 := errN_iff.2 hv; first | omega | (simp_all; omega))
   have hSl : (SetV n (allS n.S)).length ≤ 512 := by
    by_cases hE : errN n = 0
    ·rw [show SetV n (allS n.S) = setU n (allS n.S) from if_pos hE]
     have h1 := hU (errN_iff.1 hE)
     exact Nat.le_trans (exI_bd h1.st h1.step _) h1.len
    ·rw [show SetV n (allS n.S) = [] from if_neg hE]
     exact Nat.zero_le _
   refine .skip ?_
   refine AK.then_ (hK2 _ ?_)
   refine .sr fun _ hK5 => ?_
   refine .v (.loadBoxG ag25 rfl bsp rfl rfl) ?_
   refine AK.call co8 rfl (fun w hw => s_subset w _ n (h0.at hw) (allS n.S) hU (hT.at hw)) trivial rfl ?_
   rintro r o ⟨aF, aN, aS, as1, rfl, has, saF, saN, saS, rfl⟩
   refine .mv rfl ?_
   refine .v (.extract rfl rfl) ?_
   refine .v (.extract rfl rfl) ?_
   refine .v (.extract rfl rfl) ?_
   refine AK.alloc el32 rfl rfl trivial rfl (fun bx3 => ?_)
   refine AK.storeBox 5 (us := [.int .i64 (SubV n (allS n.S)).L, .int .i64 (SubV n (allS n.S)).s, aF, aN]) (cs' := [.int .i64 (SubV n (allS n.S)).L, .int .i64 (SubV n (allS n.S)).s, aF, aN]) rfl sz32 rfl rfl rfl rfl oneP (Nat.le_of_ble_eq_true rfl) rfl trivial ?_
   refine .as rfl (.as rfl (.nt hK5 ?_))
   refine .sr fun _ hK6 => ?_
   refine .v (.loadBoxG ag25 rfl bsp rfl rfl) ?_
   refine AK.call co9 rfl (fun w hw => s_refsubset w _ n (h0.at hw) (allS n.S) hU) trivial rfl ?_
   rintro r o ⟨bF, bN, bS, bs1, rfl, hbs, sbF, sbN, sbS, rfl⟩
   refine .mv rfl ?_
   refine .v (.extract rfl rfl) ?_
   refine .v (.extract rfl rfl) ?_
   refine .v (.extract rfl rfl) ?_
   refine AK.alloc el32 rfl rfl trivial rfl (fun bx6 => ?_)
   refine AK.storeBox 10 (us := [.int .i64 (SubV n (allS n.S)).L, .int .i64 (SubV n (allS n.S)).s, bF, bN]) (cs' := [.int .i64 (SubV n (allS n.S)).L, .int .i64 (SubV n (allS n.S)).s, bF, bN]) rfl sz32 rfl rfl rfl rfl oneP (Nat.le_of_ble_eq_true rfl) rfl trivial ?_
   refine .as rfl (.as rfl (.nt hK6 ?_))
   refine .seq fun _ hK7 => ?_
   refine .sr fun _ hK8 => ?_
   refine .mv rfl (.mv rfl ?_)
   refine .v (.neq rfl rfl) ?_
   refine .mv rfl ?_
   refine AK.knownF (g := 34) rfl (decide_eq_false (not_not_intro rfl)) (fun hg_5_3 => ?_)
   refine AK.val _ (Yl.loadBoxG ag32 rfl bsp rfl rfl) ⟨_, rfl, congrArg (fun b => some (Value.bool b)) hg_5_3⟩ rfl ?_
   refine AK.val _ (Yl.loadBoxG ag32 rfl bsp rfl rfl) ⟨_, rfl, congrArg (fun b => some (Value.bool b)) hg_5_3⟩ rfl ?_
   refine AK.call co10 rfl (fun w hw => s_sameD w _ _ (SubV n (allS n.S)) (SubV n (allS n.S)) (RdD.own 1 hw has rfl rfl rfl) (RdD.own 6 hw hbs rfl rfl rfl)) ⟨_, rfl, congrArg (fun b => some (Value.bool b)) hg_5_3⟩ rfl ?_
   rintro r o ⟨rfl, rfl⟩
   refine AK.val _ (Yl.not rfl) ⟨_, rfl, congrArg (fun b => some (Value.bool b)) hg_5_3⟩ rfl ?_
   refine .v (.pickF rfl (hg_5_3) rfl) ?_
   refine .mv rfl ?_
   refine AK.knownF (g := 40) rfl ((by simp)) (fun hg_5_9 => ?_)
   refine AK.val _ (Yl.move rfl) ⟨_, rfl, congrArg (fun b => some (Value.bool b)) hg_5_9⟩ rfl ?_
   refine AK.val _ (Yl.lenR sl33 rfl rdp) ⟨_, rfl, congrArg (fun b => some (Value.bool b)) hg_5_9⟩ rfl ?_
   refine AK.val _ (Yl.move rfl) ⟨_, rfl, congrArg (fun b => some (Value.bool b)) hg_5_9⟩ rfl ?_
   refine AK.val _ (Yl.lenR sl33 rfl rdp) ⟨_, rfl, congrArg (fun b => some (Value.bool b)) hg_5_9⟩ rfl ?_
   refine AK.val _ (Yl.neq rfl rfl) ⟨_, rfl, congrArg (fun b => some (Value.bool b)) hg_5_9⟩ rfl ?_
   refine .v (.pickF rfl (hg_5_9) rfl) ?_
   refine .nt hK8 ?_
   refine AK.condNe rfl (fun hc1 => ?_) (fun hc1 => ?_)
   ·refine .sr fun _ hK9 => ?_
    refine .as rfl (.nt hK9 (.ret (.then_ret ?_)))
    refine AK.ret1 rfl rfl (fun w hw => ⟨_, _, ?_, rfl, Ret.of (hw.pick [] (by decide) rfl rfl)⟩)
    exact absurd rfl hc1
   ·refine .skip ?_
    refine AK.then_ (hK7 _ ?_)
    refine .seq fun _ hK10 => ?_
    refine .sr fun _ hK11 => ?_
    refine .mv rfl ?_
    refine .v (.lenR sl33 rfl rdp) ?_
    refine .mv rfl (.nt hK11 (.block ?_))
    refine AK.loopK (X := Nat) [(4, _), (7, _), (48, _)] (fun x => [(49, .int .i64 (x : Int))]) (fun x => [box bx1 25 5 [.int .i64 n.L, .int .i64 n.S, uv n.st, uv n.fi, vE], row aF 4 1 (SubV n (allS n.S)).fin.length ((SubV n (allS n.S)).fin.map Value.bool), row aN 41 1 (SubV n (allS n.S)).nx.length as1, bigA (matG (Value.int .i64) 3 as1 (SubV n (allS n.S)).nx), row aS 22 1 (SetV n (allS n.S)).length ((SetV n (allS n.S)).map uv), box bx3 32 4 [.int .i64 (SubV n (allS n.S)).L, .int .i64 (SubV n (allS n.S)).s, aF, aN], row bF 4 1 (SubV n (allS n.S)).fin.length ((SubV n (allS n.S)).fin.map Value.bool), row bN 41 1 (SubV n (allS n.S)).nx.length bs1, bigA (matG (Value.int .i64) 3 bs1 (SubV n (allS n.S)).nx), row bS 22 1 (SetV n (allS n.S)).length ((SetV n (allS n.S)).map uv), box bx6 32 4 [.int .i64 (SubV n (allS n.S)).L, .int .i64 (SubV n (allS n.S)).s, bF, bN]]) (fun x => x ≤ (SetV n (allS n.S)).length) (fun x => (SetV n (allS n.S)).length - x) (0) slr ?_ ?_ ?_ ?_
    ·exact Nat.zero_le _
    ·exact slr
    ·exact fun w hw => hw
    ·intro x hg0 _ hK12
     refine .sr fun _ hK13 => ?_
     refine .v (.lss rfl rfl) ?_
     refine .nt hK13 ?_
     refine .seq fun _ hK14 => ?_
     refine AK.condD rfl (fun hc2 => ?_) (fun hc2 => ?_)
     ·refine .skip ?_
      refine AK.then_ (hK14 _ ?_)
      refine .seq fun _ hK15 => ?_
      refine .block ?_
      refine .sr fun _ hK16 => ?_
      refine .mv rfl (.as rfl (.nt hK16 ?_))
      refine .seq fun _ hK17 => ?_
      refine AK.quiet mixed krf ?_
      refine .mv rfl (.mv rfl ?_)
      first | refine .v (.iN sl33 rfl rfl) ?_ | refine .v (.iK sl33 rfl rfl) ?_
      refine .v (.loadU on22 rfl rdp (by omega)) ?_
      refine .mv rfl (.mv rfl ?_)
      first | refine .v (.iN sl33 rfl rfl) ?_ | refine .v (.iK sl33 rfl rfl) ?_
      refine .v (.loadU on22 rfl rdp (by omega)) ?_
      refine .v (.neqU rfl rfl) ?_
      refine QK.nil (QK.fin ?_)
      refine AK.then_ (hK17 _ ?_)
      refine AK.condNe rfl (fun hc3 => ?_) (fun hc3 => ?_)
      ·refine .sr fun _ hK18 => ?_
       refine .as rfl (.nt hK18 (.ret (.block_ret (.then_ret (.then_ret (.block_ret (.then_ret ?_)))))))
       refine AK.ret1 rfl rfl (fun w hw => ⟨_, _, ?_, rfl, Ret.of (hw.pick [] (by decide) rfl rfl)⟩)
       exact absurd rfl hc3
      ·refine .skip (.block_normal ?_)
       refine AK.then_ (hK15 _ ?_)
       refine AK.region ?_
       refine .v (.add rfl rfl (by omega)) ?_
       refine .mv rfl (.nil ?_)
       refine AK.then_ (hK12 _ _ (x + 1) (by omega) (by omega) (slr) (fun w hw => hw))
     ·refine .exit (.then_exit (.then_exit (.block_exit ?_)))
      refine AK.then_ (hK10 _ ?_)
      refine .sr fun _ hK19 => ?_
      refine AK.call co7 rfl (fun w hw => s_awake w) trivial rfl ?_
      rintro r o ⟨rfl, rfl⟩
      refine .as rfl (.nt hK19 (.ret ?_))
      refine AK.ret1 rfl rfl (fun w hw => ⟨_, _, ?_, rfl, Ret.of (hw.pick [] (by decide) rfl rfl)⟩)
      exact ⟨rfl, rfl⟩
 ·have hg_1_3' := hg_1_3
  try simp only [bs] at hg_1_3'
  refine AK.pass rfl rfl (hg_1_3) rfl ?_
  refine AK.pass rfl rfl (hg_1_3) rfl ?_
  refine AK.pass rfl rfl (hg_1_3) rfl ?_
  refine .v (.pickF rfl (hg_1_3) rfl) ?_
  refine .nt hK3 ?_
  refine AK.cond_f rfl (rfl) ?_
  have hU : VN n → UOk n (allS n.S) := fun hv => uok_small hv (by have h0 := errN_iff.2 hv; first | omega | (simp_all; omega))
  have hSl : (SetV n (allS n.S)).length ≤ 512 := by
   by_cases hE : errN n = 0
   ·rw [show SetV n (allS n.S) = setU n (allS n.S) from if_pos hE]
    have h1 := hU (errN_iff.1 hE)
    exact Nat.le_trans (exI_bd h1.st h1.step _) h1.len
   ·rw [show SetV n (allS n.S) = [] from if_neg hE]
    exact Nat.zero_le _
  refine .skip ?_
  refine AK.then_ (hK2 _ ?_)
  refine .sr fun _ hK20 => ?_
  refine .v (.loadBoxG ag25 rfl bsp rfl rfl) ?_
  refine AK.call co8 rfl (fun w hw => s_subset w _ n (h0.at hw) (allS n.S) hU (hT.at hw)) trivial rfl ?_
  rintro r o ⟨aF, aN, aS, as1, rfl, has, saF, saN, saS, rfl⟩
  refine .mv rfl ?_
  refine .v (.extract rfl rfl) ?_
  refine .v (.extract rfl rfl) ?_
  refine .v (.extract rfl rfl) ?_
  refine AK.alloc el32 rfl rfl trivial rfl (fun bx3 => ?_)
  refine AK.storeBox 5 (us := [.int .i64 (SubV n (allS n.S)).L, .int .i64 (SubV n (allS n.S)).s, aF, aN]) (cs' := [.int .i64 (SubV n (allS n.S)).L, .int .i64 (SubV n (allS n.S)).s, aF, aN]) rfl sz32 rfl rfl rfl rfl oneP (Nat.le_of_ble_eq_true rfl) rfl trivial ?_
  refine .as rfl (.as rfl (.nt hK20 ?_))
  refine .sr fun _ hK21 => ?_
  refine .v (.loadBoxG ag25 rfl bsp rfl rfl) ?_
  refine AK.call co9 rfl (fun w hw => s_refsubset w _ n (h0.at hw) (allS n.S) hU) trivial rfl ?_
  rintro r o ⟨bF, bN, bS, bs1, rfl, hbs, sbF, sbN, sbS, rfl⟩
  refine .mv rfl ?_
  refine .v (.extract rfl rfl) ?_
  refine .v (.extract rfl rfl) ?_
  refine .v (.extract rfl rfl) ?_
  refine AK.alloc el32 rfl rfl trivial rfl (fun bx6 => ?_)
  refine AK.storeBox 10 (us := [.int .i64 (SubV n (allS n.S)).L, .int .i64 (SubV n (allS n.S)).s, bF, bN]) (cs' := [.int .i64 (SubV n (allS n.S)).L, .int .i64 (SubV n (allS n.S)).s, bF, bN]) rfl sz32 rfl rfl rfl rfl oneP (Nat.le_of_ble_eq_true rfl) rfl trivial ?_
  refine .as rfl (.as rfl (.nt hK21 ?_))
  refine .seq fun _ hK22 => ?_
  refine .sr fun _ hK23 => ?_
  refine .mv rfl (.mv rfl ?_)
  refine .v (.neq rfl rfl) ?_
  refine .mv rfl ?_
  refine AK.knownF (g := 34) rfl (decide_eq_false (not_not_intro rfl)) (fun hg_5_3 => ?_)
  refine AK.val _ (Yl.loadBoxG ag32 rfl bsp rfl rfl) ⟨_, rfl, congrArg (fun b => some (Value.bool b)) hg_5_3⟩ rfl ?_
  refine AK.val _ (Yl.loadBoxG ag32 rfl bsp rfl rfl) ⟨_, rfl, congrArg (fun b => some (Value.bool b)) hg_5_3⟩ rfl ?_
  refine AK.call co10 rfl (fun w hw => s_sameD w _ _ (SubV n (allS n.S)) (SubV n (allS n.S)) (RdD.own 1 hw has rfl rfl rfl) (RdD.own 6 hw hbs rfl rfl rfl)) ⟨_, rfl, congrArg (fun b => some (Value.bool b)) hg_5_3⟩ rfl ?_
  rintro r o ⟨rfl, rfl⟩
  refine AK.val _ (Yl.not rfl) ⟨_, rfl, congrArg (fun b => some (Value.bool b)) hg_5_3⟩ rfl ?_
  refine .v (.pickF rfl (hg_5_3) rfl) ?_
  refine .mv rfl ?_
  refine AK.knownF (g := 40) rfl ((by simp)) (fun hg_5_9 => ?_)
  refine AK.val _ (Yl.move rfl) ⟨_, rfl, congrArg (fun b => some (Value.bool b)) hg_5_9⟩ rfl ?_
  refine AK.val _ (Yl.lenR sl33 rfl rdp) ⟨_, rfl, congrArg (fun b => some (Value.bool b)) hg_5_9⟩ rfl ?_
  refine AK.val _ (Yl.move rfl) ⟨_, rfl, congrArg (fun b => some (Value.bool b)) hg_5_9⟩ rfl ?_
  refine AK.val _ (Yl.lenR sl33 rfl rdp) ⟨_, rfl, congrArg (fun b => some (Value.bool b)) hg_5_9⟩ rfl ?_
  refine AK.val _ (Yl.neq rfl rfl) ⟨_, rfl, congrArg (fun b => some (Value.bool b)) hg_5_9⟩ rfl ?_
  refine .v (.pickF rfl (hg_5_9) rfl) ?_
  refine .nt hK23 ?_
  refine AK.condNe rfl (fun hc1 => ?_) (fun hc1 => ?_)
  ·refine .sr fun _ hK24 => ?_
   refine .as rfl (.nt hK24 (.ret (.then_ret ?_)))
   refine AK.ret1 rfl rfl (fun w hw => ⟨_, _, ?_, rfl, Ret.of (hw.pick [] (by decide) rfl rfl)⟩)
   exact absurd rfl hc1
  ·refine .skip ?_
   refine AK.then_ (hK22 _ ?_)
   refine .seq fun _ hK25 => ?_
   refine .sr fun _ hK26 => ?_
   refine .mv rfl ?_
   refine .v (.lenR sl33 rfl rdp) ?_
   refine .mv rfl (.nt hK26 (.block ?_))
   refine AK.loopK (X := Nat) [(4, _), (7, _), (48, _)] (fun x => [(49, .int .i64 (x : Int))]) (fun x => [box bx1 25 5 [.int .i64 n.L, .int .i64 n.S, uv n.st, uv n.fi, vE], row aF 4 1 (SubV n (allS n.S)).fin.length ((SubV n (allS n.S)).fin.map Value.bool), row aN 41 1 (SubV n (allS n.S)).nx.length as1, bigA (matG (Value.int .i64) 3 as1 (SubV n (allS n.S)).nx), row aS 22 1 (SetV n (allS n.S)).length ((SetV n (allS n.S)).map uv), box bx3 32 4 [.int .i64 (SubV n (allS n.S)).L, .int .i64 (SubV n (allS n.S)).s, aF, aN], row bF 4 1 (SubV n (allS n.S)).fin.length ((SubV n (allS n.S)).fin.map Value.bool), row bN 41 1 (SubV n (allS n.S)).nx.length bs1, bigA (matG (Value.int .i64) 3 bs1 (SubV n (allS n.S)).nx), row bS 22 1 (SetV n (allS n.S)).length ((SetV n (allS n.S)).map uv), box bx6 32 4 [.int .i64 (SubV n (allS n.S)).L, .int .i64 (SubV n (allS n.S)).s, bF, bN]]) (fun x => x ≤ (SetV n (allS n.S)).length) (fun x => (SetV n (allS n.S)).length - x) (0) slr ?_ ?_ ?_ ?_
   ·exact Nat.zero_le _
   ·exact slr
   ·exact fun w hw => hw
   ·intro x hg0 _ hK27
    refine .sr fun _ hK28 => ?_
    refine .v (.lss rfl rfl) ?_
    refine .nt hK28 ?_
    refine .seq fun _ hK29 => ?_
    refine AK.condD rfl (fun hc2 => ?_) (fun hc2 => ?_)
    ·refine .skip ?_
     refine AK.then_ (hK29 _ ?_)
     refine .seq fun _ hK30 => ?_
     refine .block ?_
     refine .sr fun _ hK31 => ?_
     refine .mv rfl (.as rfl (.nt hK31 ?_))
     refine .seq fun _ hK32 => ?_
     refine AK.quiet mixed krf ?_
     refine .mv rfl (.mv rfl ?_)
     first | refine .v (.iN sl33 rfl rfl) ?_ | refine .v (.iK sl33 rfl rfl) ?_
     refine .v (.loadU on22 rfl rdp (by omega)) ?_
     refine .mv rfl (.mv rfl ?_)
     first | refine .v (.iN sl33 rfl rfl) ?_ | refine .v (.iK sl33 rfl rfl) ?_
     refine .v (.loadU on22 rfl rdp (by omega)) ?_
     refine .v (.neqU rfl rfl) ?_
     refine QK.nil (QK.fin ?_)
     refine AK.then_ (hK32 _ ?_)
     refine AK.condNe rfl (fun hc3 => ?_) (fun hc3 => ?_)
     ·refine .sr fun _ hK33 => ?_
      refine .as rfl (.nt hK33 (.ret (.block_ret (.then_ret (.then_ret (.block_ret (.then_ret ?_)))))))
      refine AK.ret1 rfl rfl (fun w hw => ⟨_, _, ?_, rfl, Ret.of (hw.pick [] (by decide) rfl rfl)⟩)
      exact absurd rfl hc3
     ·refine .skip (.block_normal ?_)
      refine AK.then_ (hK30 _ ?_)
      refine AK.region ?_
      refine .v (.add rfl rfl (by omega)) ?_
      refine .mv rfl (.nil ?_)
      refine AK.then_ (hK27 _ _ (x + 1) (by omega) (by omega) (slr) (fun w hw => hw))
    ·refine .exit (.then_exit (.then_exit (.block_exit ?_)))
     refine AK.then_ (hK25 _ ?_)
     refine .sr fun _ hK34 => ?_
     refine AK.call co7 rfl (fun w hw => s_awake w) trivial rfl ?_
     rintro r o ⟨rfl, rfl⟩
     refine .as rfl (.nt hK34 (.ret ?_))
     refine AK.ret1 rfl rfl (fun w hw => ⟨_, _, ?_, rfl, Ret.of (hw.pick [] (by decide) rfl rfl)⟩)
     exact ⟨rfl, rfl⟩

end Go.Proofs.YtckicbgffhbacaaDoor
