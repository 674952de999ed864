import Derived.Test.YtckicbgffhbacaaDoorN2
set_option linter.unusedVariables false
set_option linter.unusedSimpArgs false
namespace Go.Proofs.YtckicbgffhbacaaDoor
open Go.Sx Go.RowKit
set_option maxHeartbeats 1000000 in
set_option maxRecDepth 100000 in
theorem s_sameN (w : World) (u v : Value) (n : Nfa) (hu : RdN (fun _ => False) w u n) (hv : RdN (fun _ => False) w v n) : CallS Tryd.prog 13 [u, v] w (fun r o => r = .bool true ∧ o = []) := by
 obtain ⟨uE, rfl, hU⟩ := hu
 obtain ⟨vE, rfl, hE⟩ := hv
 have sE := Rd.sl hE
 have sU := Rd.sl hU
 have hme := Rd.le hE
 refine spec_of Tryd.func13 rfl (Nat.le_of_ble_eq_true rfl) ?_
 refine .sr fun _ hK1 => ?_
 refine AK.box_ (E := 25) (cs := [.int .i64 n.L, .int .i64 n.S, uv n.st, uv n.fi, uE]) rfl rfl rfl trivial rfl (fun bx2 => ?_)
 refine AK.box_ (E := 25) (cs := [.int .i64 n.L, .int .i64 n.S, uv n.st, uv n.fi, vE]) rfl rfl rfl trivial rfl (fun bx3 => ?_)
 refine .as rfl (.nt hK1 ?_)
 refine .seq fun _ hK2 => ?_
 refine .sr fun _ hK3 => ?_
 refine .v (.fieldAddr fd25_0 rfl) ?_
 refine .v (.loadBox on3 rfl bsp rfl) ?_
 refine .v (.fieldAddr fd25_0 rfl) ?_
 refine .v (.loadBox on3 rfl bsp rfl) ?_
 refine .v (.neq rfl rfl) ?_
 refine .mv rfl ?_
 refine AK.knownF (g := 11) rfl (decide_eq_false (not_not_intro rfl)) (fun hg_1_5 => ?_)
 refine AK.val _ (Yl.fieldAddr fd25_1 rfl) ⟨_, rfl, congrArg (fun b => some (Value.bool b)) hg_1_5⟩ rfl ?_
 refine AK.val _ (Yl.loadBox on3 rfl bsp rfl) ⟨_, rfl, congrArg (fun b => some (Value.bool b)) hg_1_5⟩ rfl ?_
 refine AK.val _ (Yl.fieldAddr fd25_1 rfl) ⟨_, rfl, congrArg (fun b => some (Value.bool b)) hg_1_5⟩ rfl ?_
 refine AK.val _ (Yl.loadBox on3 rfl bsp rfl) ⟨_, rfl, congrArg (fun b => some (Value.bool b)) hg_1_5⟩ rfl ?_
 refine AK.val _ (Yl.neq rfl rfl) ⟨_, rfl, congrArg (fun b => some (Value.bool b)) hg_1_5⟩ rfl ?_
 refine .v (.pickF rfl (hg_1_5) rfl) ?_
 refine .mv rfl ?_
 refine AK.knownF (g := 18) rfl (decide_eq_false (not_not_intro rfl)) (fun hg_1_12 => ?_)
 refine AK.val _ (Yl.fieldAddr fd25_2 rfl) ⟨_, rfl, congrArg (fun b => some (Value.bool b)) hg_1_12⟩ rfl ?_
 refine AK.val _ (Yl.loadBox on22 rfl bsp rfl) ⟨_, rfl, congrArg (fun b => some (Value.bool b)) hg_1_12⟩ rfl ?_
 refine AK.val _ (Yl.fieldAddr fd25_2 rfl) ⟨_, rfl, congrArg (fun b => some (Value.bool b)) hg_1_12⟩ rfl ?_
 refine AK.val _ (Yl.loadBox on22 rfl bsp rfl) ⟨_, rfl, congrArg (fun b => some (Value.bool b)) hg_1_12⟩ rfl ?_
 refine AK.val _ (Yl.neqU rfl rfl) ⟨_, rfl, congrArg (fun b => some (Value.bool b)) hg_1_12⟩ rfl ?_
 refine .v (.pickF rfl (hg_1_12) rfl) ?_
 refine .mv rfl ?_
 refine AK.knownF (g := 25) rfl (decide_eq_false (not_not_intro rfl)) (fun hg_1_19 => ?_)
 refine AK.val _ (Yl.fieldAddr fd25_3 rfl) ⟨_, rfl, congrArg (fun b => some (Value.bool b)) hg_1_19⟩ rfl ?_
 refine AK.val _ (Yl.loadBox on22 rfl bsp rfl) ⟨_, rfl, congrArg (fun b => some (Value.bool b)) hg_1_19⟩ rfl ?_
 refine AK.val _ (Yl.fieldAddr fd25_3 rfl) ⟨_, rfl, congrArg (fun b => some (Value.bool b)) hg_1_19⟩ rfl ?_
 refine AK.val _ (Yl.loadBox on22 rfl bsp rfl) ⟨_, rfl, congrArg (fun b => some (Value.bool b)) hg_1_19⟩ rfl ?_
 refine AK.val _ (Yl.neqU rfl rfl) ⟨_, rfl, congrArg (fun b => some (Value.bool b)) hg_1_19⟩ rfl ?_
 refine .v (.pickF rfl (hg_1_19) rfl) ?_
 refine .mv rfl ?_
 refine AK.knownF (g := 32) rfl (decide_eq_false (not_not_intro rfl)) (fun hg_1_26 => ?_)
 refine AK.val _ (Yl.fieldAddr fd25_4 rfl) ⟨_, rfl, congrArg (fun b => some (Value.bool b)) hg_1_26⟩ rfl ?_
 refine AK.val _ (Yl.loadBox on23 rfl bsp rfl) ⟨_, rfl, congrArg (fun b => some (Value.bool b)) hg_1_26⟩ rfl ?_
 refine AK.val _ (Yl.lenR sl23 rfl rdp) ⟨_, rfl, congrArg (fun b => some (Value.bool b)) hg_1_26⟩ rfl ?_
 refine AK.val _ (Yl.fieldAddr fd25_4 rfl) ⟨_, rfl, congrArg (fun b => some (Value.bool b)) hg_1_26⟩ rfl ?_
 refine AK.val _ (Yl.loadBox on23 rfl bsp rfl) ⟨_, rfl, congrArg (fun b => some (Value.bool b)) hg_1_26⟩ rfl ?_
 refine AK.val _ (Yl.lenR sl23 rfl rdp) ⟨_, rfl, congrArg (fun b => some (Value.bool b)) hg_1_26⟩ rfl ?_
 refine AK.val _ (Yl.neq rfl rfl) ⟨_, rfl, congrArg (fun b => some (Value.bool b)) hg_1_26⟩ rfl ?_
 refine .v (.pickF rfl (hg_1_26) rfl) ?_
 refine .nt hK3 ?_
 refine AK.cond_f rfl (decide_eq_false (not_not_intro rfl)) ?_
 refine .skip ?_
 refine AK.then_ (hK2 _ ?_)
 refine .seq fun _ hK4 => ?_
 refine .sr fun _ hK5 => ?_
 refine .v (.fieldAddr fd25_4 rfl) ?_
 refine .v (.loadBox on23 rfl bsp rfl) ?_
 refine .v (.lenR sl23 rfl rdp) ?_
 refine .mv rfl (.nt hK5 (.block ?_))
 refine AK.loopK (X := Nat) [(2, _), (3, _), (43, _)] (fun k => [(44, .int .i64 (k : Int))]) (fun k => [box bx2 25 5 [.int .i64 n.L, .int .i64 n.S, uv n.st, uv n.fi, uE], box bx3 25 5 [.int .i64 n.L, .int .i64 n.S, uv n.st, uv n.fi, vE]]) (fun k => k ≤ n.es.length) (fun k => n.es.length - k) (0) slr ?_ ?_ ?_ ?_
 ·exact Nat.zero_le _
 ·exact slr
 ·exact fun w hw => hw
 ·intro k hg0 _ hK6
  refine .sr fun _ hK7 => ?_
  refine .v (.lss rfl rfl) ?_
  refine .nt hK7 ?_
  refine .seq fun _ hK8 => ?_
  refine AK.condD rfl (fun hc1 => ?_) (fun hc1 => ?_)
  ·refine .skip ?_
   refine AK.then_ (hK8 _ ?_)
   refine .seq fun _ hK9 => ?_
   refine .block ?_
   refine .sr fun _ hK10 => ?_
   refine .mv rfl (.as rfl (.nt hK10 ?_))
   refine .seq fun _ hK11 => ?_
   refine AK.quiet mixed krf ?_
   refine .v (.fieldAddr fd25_4 rfl) ?_
   refine .v (.loadBox on23 rfl bsp rfl) ?_
   refine .mv rfl ?_
   first | refine .v (.iN sl23 rfl rfl) ?_ | refine .v (.iK sl23 rfl rfl) ?_
   refine .v (.loadEd ag51 rfl (.arg hU) (by omega)) ?_
   refine .v (.fieldAddr fd25_4 rfl) ?_
   refine .v (.loadBox on23 rfl bsp rfl) ?_
   refine .mv rfl ?_
   first | refine .v (.iN sl23 rfl rfl) ?_ | refine .v (.iK sl23 rfl rfl) ?_
   refine .v (.loadEd ag51 rfl (.arg hE) (by omega)) ?_
   refine .v (.neqE eqe51 rfl rfl) ?_
   refine QK.nil (QK.fin ?_)
   refine AK.then_ (hK11 _ ?_)
   refine AK.cond_f rfl (decide_eq_false (not_not_intro rfl)) ?_
   refine .skip (.block_normal ?_)
   refine AK.then_ (hK9 _ ?_)
   refine AK.region ?_
   refine .v (.add rfl rfl (by omega)) ?_
   refine .mv rfl (.nil ?_)
   refine AK.then_ (hK6 _ _ (k + 1) (by omega) (by omega) (slr) (fun w hw => hw))
  ·refine .exit (.then_exit (.then_exit (.block_exit ?_)))
   refine AK.then_ (hK4 _ ?_)
   refine .sr fun _ hK12 => ?_
   refine .as rfl (.nt hK12 (.ret ?_))
   refine AK.ret1 rfl rfl (fun w hw => ⟨_, _, ?_, rfl, Ret.of (hw.pick [] (by decide) rfl rfl)⟩)
   exact ⟨rfl, rfl⟩

end Go.Proofs.YtckicbgffhbacaaDoor
