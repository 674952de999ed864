import Derived.Test.YtckicbgffhbacaaDoorN9
import Derived.Test.YtckicbgffhbacaaDoorD5
set_option linter.unusedVariables false
set_option linter.unusedSimpArgs false
namespace Go.Proofs.YtckicbgffhbacaaDoor
open Go.Sx Go.RowKit
set_option maxHeartbeats 1000000 in
set_option maxRecDepth 100000 in
theorem l_determinizes (w : World) (v : Value) (n : Nfa) (h : RdN (fun _ => False) w v n) (l : List UInt8) (hm : l.length ≤ 9223372036854775807) (hT : TbA w) : CallS Tryd.prog 5 [v, sv l] w (fun r o => r = .bool true ∧ o = []) := by
 have h0 := h
 obtain ⟨vE, rfl, hE⟩ := h
 have sE := Rd.sl hE
 have hme := Rd.le hE
 refine spec_of Tryd.func5 rfl (Nat.le_of_ble_eq_true rfl) ?_
 refine .sr fun _ hK1 => ?_
 refine AK.box_ (E := 25) (cs := [.int .i64 n.L, .int .i64 n.S, uv n.st, uv n.fi, vE]) rfl rfl rfl trivial rfl (fun bx2 => ?_)
 refine .as rfl (.nt hK1 ?_)
 refine .seq fun _ hK2 => ?_
 refine .sr fun _ hK3 => ?_
 refine .v (.loadBoxG ag25 rfl bsp rfl rfl) ?_
 refine AK.call co6 rfl (fun w hw => s_nrefvalidate w _ n (h0.at hw)) trivial rfl ?_
 rintro r o ⟨rfl, rfl⟩
 refine .v (.neq rfl rfl) ?_
 refine .mv rfl ?_
 refine AK.splitB (g := 11) rfl (fun hg_1_3 => ?_) (fun hg_1_3 => ?_)
 ·have hg_1_3' := hg_1_3
  try simp only [bs] at hg_1_3'
  refine AK.pass rfl rfl (hg_1_3) rfl ?_
  refine AK.pass rfl rfl (hg_1_3) rfl ?_
  refine AK.pass rfl rfl (hg_1_3) rfl ?_
  refine .v (.pickT rfl (hg_1_3) rfl) ?_
  refine .nt hK3 ?_
  refine AK.cond_t rfl (rfl) ?_
  refine .sr fun _ hK4 => ?_
  refine AK.call co7 rfl (fun w hw => s_awake w) trivial rfl ?_
  rintro r o ⟨rfl, rfl⟩
  refine .as rfl (.nt hK4 (.ret (.then_ret ?_)))
  refine AK.ret1 rfl rfl (fun w hw => ⟨_, _, ?_, rfl, Ret.of (hw.pick [] (by decide) rfl rfl)⟩)
  exact ⟨rfl, rfl⟩
 ·have hg_1_3' := hg_1_3
  try simp only [bs] at hg_1_3'
  refine AK.val _ (Yl.fieldAddr fd25_1 rfl) ⟨_, rfl, congrArg (fun b => some (Value.bool b)) hg_1_3⟩ rfl ?_
  refine AK.val _ (Yl.loadBox on3 rfl bsp rfl) ⟨_, rfl, congrArg (fun b => some (Value.bool b)) hg_1_3⟩ rfl ?_
  refine AK.val _ (Yl.gtr rfl rfl) ⟨_, rfl, congrArg (fun b => some (Value.bool b)) hg_1_3⟩ rfl ?_
  refine .v (.pickF rfl (hg_1_3) rfl) ?_
  refine .nt hK3 ?_
  refine AK.condD rfl (fun hc0 => ?_) (fun hc0 => ?_)
  ·refine .sr fun _ hK5 => ?_
   refine AK.call co7 rfl (fun w hw => s_awake w) trivial rfl ?_
   rintro r o ⟨rfl, rfl⟩
   refine .as rfl (.nt hK5 (.ret (.then_ret ?_)))
   refine AK.ret1 rfl rfl (fun w hw => ⟨_, _, ?_, rfl, Ret.of (hw.pick [] (by decide) rfl rfl)⟩)
   exact ⟨rfl, rfl⟩
  ·have hE : errN n = 0 := (by first | omega | (simp_all; done) | (simp_all; omega))
   have hv : VN n := errN_iff.1 hE
   have hU : UOk n (allS n.S) := uok_small hv (by first | omega | (simp_all; omega))
   have hSub : SubV n (allS n.S) = subU n (allS n.S) := if_pos hE
   have hvd : errV (SubV n (allS n.S)) = 0 := (errV_iff _).2 (by rw [hSub]; exact sub_vd hv hU)
   have hac : AccV (SubV n (allS n.S)) l = AccN n l := (by rw [hSub]; exact acc_sub hv hU l)
   refine .skip ?_
   refine AK.then_ (hK2 _ ?_)
   refine .sr fun _ hK6 => ?_
   refine .v (.loadBoxG ag25 rfl bsp rfl rfl) ?_
   refine AK.call co8 rfl (fun w hw => s_subset w _ n (h0.at hw) (allS n.S) (fun _ => hU) (hT.at hw)) trivial rfl ?_
   rintro r o ⟨aF, aN, aS, as1, rfl, has, saF, saN, saS, rfl⟩
   refine .mv rfl ?_
   refine .v (.extract rfl rfl) ?_
   refine .v (.extract rfl rfl) ?_
   refine .v (.extract rfl rfl) ?_
   refine AK.alloc el32 rfl rfl trivial rfl (fun bx5 => ?_)
   refine AK.storeBox 5 (us := [.int .i64 (SubV n (allS n.S)).L, .int .i64 (SubV n (allS n.S)).s, aF, aN]) (cs' := [.int .i64 (SubV n (allS n.S)).L, .int .i64 (SubV n (allS n.S)).s, aF, aN]) rfl sz32 rfl rfl rfl rfl oneP (Nat.le_of_ble_eq_true rfl) rfl trivial ?_
   refine .as rfl (.as rfl (.nt hK6 ?_))
   refine .seq fun _ hK7 => ?_
   try (conv => enter [2, 2]; dsimp only [List.set_cons_zero, List.set_cons_succ, List.cons_append, List.nil_append])
   refine AK.held 20 mixed ?_
   refine HeldK.first 0 (fuel := 19) (listed' := (lb 20 1)) _ rfl krf krf rfl (Yl.move rfl) trivial rfl ?_
   refine HeldK.first 1 (fuel := 18) (listed' := (lb 20 3)) _ rfl krf krf rfl (Yl.eql rfl rfl) trivial rfl ?_
   refine HeldK.first 2 (fuel := 17) (listed' := (lb 20 7)) _ rfl krf krf rfl (Yl.move rfl) trivial rfl ?_
   refine AK.knownT (g := 25) rfl (decide_eq_true hE) (fun hg_4_2 => ?_)
   refine HeldK.first 3 (fuel := 16) (listed' := (lb 20 15)) _ rfl krf krf rfl (Yl.loadBoxG ag32 rfl bsp rfl rfl) ⟨_, rfl, congrArg (fun b => some (Value.bool b)) hg_4_2⟩ rfl ?_
   refine HeldK.one 4 (fuel := 15) (listed' := (lb 20 31)) krf rfl krf ?_
   refine AK.call co15 rfl (fun w hw => s_validate w _ (SubV n (allS n.S)) (RdD.own 1 hw has rfl rfl rfl)) ⟨_, rfl, congrArg (fun b => some (Value.bool b)) hg_4_2⟩ rfl ?_
   rintro r o ⟨rfl, rfl⟩
   refine .nil ?_
   try (conv => enter [2, 2]; dsimp only [List.set_cons_zero, List.set_cons_succ, List.cons_append, List.nil_append])
   refine HeldK.back Go.Sx.hle ?_
   refine HeldK.first 5 (fuel := 14) (listed' := (lb 20 63)) _ rfl krf krf rfl (Yl.eql rfl rfl) ⟨_, rfl, congrArg (fun b => some (Value.bool b)) hg_4_2⟩ rfl ?_
   refine HeldK.first 6 (fuel := 13) (listed' := (lb 20 127)) _ rfl krf krf rfl (Yl.pickT rfl (hg_4_2) rfl) trivial rfl ?_
   refine HeldK.first 7 (fuel := 12) (listed' := (lb 20 255)) _ rfl krf krf rfl (Yl.move rfl) trivial rfl ?_
   refine AK.knownT (g := 30) rfl (decide_eq_true hvd) (fun hg_4_7 => ?_)
   refine HeldK.first 8 (fuel := 11) (listed' := (lb 20 511)) _ rfl krf krf rfl (Yl.loadBoxG ag32 rfl bsp rfl rfl) ⟨_, rfl, congrArg (fun b => some (Value.bool b)) hg_4_7⟩ rfl ?_
   refine HeldK.first 9 (fuel := 10) (listed' := (lb 20 1023)) _ rfl krf krf rfl (Yl.move rfl) ⟨_, rfl, congrArg (fun b => some (Value.bool b)) hg_4_7⟩ rfl ?_
   refine HeldK.first 11 (fuel := 9) (listed' := (lb 20 3071)) _ rfl krf krf rfl (Yl.loadBoxG ag25 rfl bsp rfl rfl) ⟨_, rfl, congrArg (fun b => some (Value.bool b)) hg_4_7⟩ rfl ?_
   refine HeldK.first 12 (fuel := 8) (listed' := (lb 20 7167)) _ rfl krf krf rfl (Yl.move rfl) ⟨_, rfl, congrArg (fun b => some (Value.bool b)) hg_4_7⟩ rfl ?_
   refine HeldK.one 10 (fuel := 7) (listed' := (lb 20 8191)) krf rfl krf ?_
   refine AK.call co16 rfl (fun w hw => s_acc w _ (SubV n (allS n.S)) (RdD.own 1 hw has rfl rfl rfl) l hm) ⟨_, rfl, congrArg (fun b => some (Value.bool b)) hg_4_7⟩ rfl ?_
   rintro r o ⟨rfl, rfl⟩
   refine .nil ?_
   try (conv => enter [2, 2]; dsimp only [List.set_cons_zero, List.set_cons_succ, List.cons_append, List.nil_append])
   refine HeldK.back Go.Sx.hle ?_
   refine HeldK.one 13 (fuel := 6) (listed' := (lb 20 16383)) krf rfl krf ?_
   refine AK.call co17 rfl (fun w hw => s_naccepts w _ n (h0.at hw) l hm (hT.at hw)) ⟨_, rfl, congrArg (fun b => some (Value.bool b)) hg_4_7⟩ rfl ?_
   rintro r o ⟨rfl, rfl⟩
   refine .nil ?_
   try (conv => enter [2, 2]; dsimp only [List.set_cons_zero, List.set_cons_succ, List.cons_append, List.nil_append])
   refine HeldK.back Go.Sx.hle ?_
   refine HeldK.first 14 (fuel := 5) (listed' := (lb 20 32767)) _ rfl krf krf rfl (Yl.eqlB bo4 rfl rfl) ⟨_, rfl, congrArg (fun b => some (Value.bool b)) hg_4_7⟩ rfl ?_
   refine HeldK.first 15 (fuel := 4) (listed' := (lb 20 65535)) _ rfl krf krf rfl (Yl.pickT rfl (hg_4_7) rfl) trivial rfl ?_
   refine HeldK.first 16 (fuel := 3) (listed' := (lb 20 131071)) _ rfl krf krf rfl (Yl.move rfl) trivial rfl ?_
   refine HeldK.one 17 (fuel := 2) (listed' := (lb 20 262143)) krf rfl krf ?_
   refine AK.knownT (g := 39) rfl (decide_eq_true hac) (fun hg_4_16 => ?_)
   refine AK.call co7 rfl (fun w hw => s_awake w) ⟨_, rfl, congrArg (fun b => some (Value.bool b)) hg_4_16⟩ rfl ?_
   rintro r o ⟨rfl, rfl⟩
   refine .nil ?_
   try (conv => enter [2, 2]; dsimp only [List.set_cons_zero, List.set_cons_succ, List.cons_append, List.nil_append])
   refine HeldK.back Go.Sx.hle ?_
   refine HeldK.first 18 (fuel := 1) (listed' := (lb 20 524287)) _ rfl krf krf rfl (Yl.pickT rfl (hg_4_16) rfl) trivial rfl ?_
   refine HeldK.first 19 (fuel := 0) (listed' := (lb 20 1048575)) _ rfl krf krf rfl (Yl.assign rfl) trivial rfl ?_
   refine HeldK.done krf ?_
   refine AK.then_ (hK7 _ ?_)
   refine .ret ?_
   refine AK.ret1 rfl rfl (fun w hw => ⟨_, _, ?_, rfl, Ret.of (hw.pick [] (by decide) rfl rfl)⟩)
   exact ⟨rfl, rfl⟩

end Go.Proofs.YtckicbgffhbacaaDoor
