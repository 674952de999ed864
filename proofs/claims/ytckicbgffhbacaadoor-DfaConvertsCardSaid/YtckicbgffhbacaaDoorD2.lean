import Derived.Test.YtckicbgffhbacaaDoorD1
import Derived.Test.YtckicbgffhbacaaDoorDP
set_option linter.unusedVariables false
set_option linter.unusedSimpArgs false
namespace Go.Proofs.YtckicbgffhbacaaDoor
open Go.Sx Go.RowKit
set_option maxRecDepth 100000 in
theorem s_wvalid (w : World) (l : List UInt8) (L : Int) (hm : l.length ≤ 9223372036854775807) : CallS Tryd.prog 35 [sv l, .int .i64 L] w (fun r o => r = .bool (validW L l) ∧ o = []) := by
 refine spec_of Tryd.func35 rfl (Nat.le_of_ble_eq_true rfl) ?_
 refine .sr fun _ hK1 => ?_
 refine .as rfl (.nt hK1 ?_)
 refine .seq fun _ hK2 => ?_
 refine .sr fun _ hK3 => ?_
 refine .mv rfl ?_
 refine .v (.lss rfl rfl) ?_
 refine .mv rfl ?_
 refine AK.splitB (g := 8) rfl (fun hg_1_2 => ?_) (fun hg_1_2 => ?_)
 ·have hg_1_2' := hg_1_2
  try simp only [bs] at hg_1_2'
  refine AK.pass rfl rfl (hg_1_2) rfl ?_
  refine AK.pass rfl rfl (hg_1_2) rfl ?_
  refine .v (.pickT rfl (hg_1_2) rfl) ?_
  refine .mv rfl ?_
  refine AK.pass rfl rfl rfl rfl ?_
  refine AK.pass rfl rfl rfl rfl ?_
  refine AK.pass rfl rfl rfl rfl ?_
  refine .v (.pickT rfl (rfl) rfl) ?_
  refine .nt hK3 ?_
  refine AK.cond_t rfl (rfl) ?_
  refine .sr fun _ hK4 => ?_
  refine .as rfl (.nt hK4 (.ret (.then_ret ?_)))
  refine AK.ret1 rfl rfl (fun w hw => ⟨_, _, ?_, rfl, Ret.of (hw.pick [] (by decide) rfl rfl)⟩)
  refine ⟨congrArg Value.bool ?_, rfl⟩
  symm; unfold validW; rw [decide_eq_false (by omega), Bool.false_and]
 ·have hg_1_2' := hg_1_2
  try simp only [bs] at hg_1_2'
  refine AK.val _ (Yl.move rfl) ⟨_, rfl, congrArg (fun b => some (Value.bool b)) hg_1_2⟩ rfl ?_
  refine AK.val _ (Yl.gtr rfl rfl) ⟨_, rfl, congrArg (fun b => some (Value.bool b)) hg_1_2⟩ rfl ?_
  refine .v (.pickF rfl (hg_1_2) rfl) ?_
  refine .mv rfl ?_
  refine AK.splitB (g := 12) rfl (fun hg_1_6 => ?_) (fun hg_1_6 => ?_)
  ·have hg_1_6' := hg_1_6
   try simp only [bs] at hg_1_6'
   refine AK.pass rfl rfl (hg_1_6) rfl ?_
   refine AK.pass rfl rfl (hg_1_6) rfl ?_
   refine AK.pass rfl rfl (hg_1_6) rfl ?_
   refine .v (.pickT rfl (hg_1_6) rfl) ?_
   refine .nt hK3 ?_
   refine AK.cond_t rfl (rfl) ?_
   refine .sr fun _ hK5 => ?_
   refine .as rfl (.nt hK5 (.ret (.then_ret ?_)))
   refine AK.ret1 rfl rfl (fun w hw => ⟨_, _, ?_, rfl, Ret.of (hw.pick [] (by decide) rfl rfl)⟩)
   refine ⟨congrArg Value.bool ?_, rfl⟩
   symm; unfold validW; rw [decide_eq_false (by omega), Bool.false_and]
  ·have hg_1_6' := hg_1_6
   try simp only [bs] at hg_1_6'
   refine AK.val _ (Yl.move rfl) ⟨_, rfl, congrArg (fun b => some (Value.bool b)) hg_1_6⟩ rfl ?_
   refine AK.val _ (Yl.lenS un9 rfl) ⟨_, rfl, congrArg (fun b => some (Value.bool b)) hg_1_6⟩ rfl ?_
   refine AK.val _ (Yl.gtr rfl rfl) ⟨_, rfl, congrArg (fun b => some (Value.bool b)) hg_1_6⟩ rfl ?_
   refine .v (.pickF rfl (hg_1_6) rfl) ?_
   refine .nt hK3 ?_
   refine AK.condD rfl (fun hc0 => ?_) (fun hc0 => ?_)
   ·refine .sr fun _ hK6 => ?_
    refine .as rfl (.nt hK6 (.ret (.then_ret ?_)))
    refine AK.ret1 rfl rfl (fun w hw => ⟨_, _, ?_, rfl, Ret.of (hw.pick [] (by decide) rfl rfl)⟩)
    refine ⟨congrArg Value.bool ?_, rfl⟩
    symm; unfold validW; rw [decide_eq_false (by omega), Bool.false_and]
   ·refine .skip ?_
    refine AK.then_ (hK2 _ ?_)
    refine .seq fun _ hK7 => ?_
    refine .sr fun _ hK8 => ?_
    refine .mv rfl ?_
    refine .v (.lenS un9 rfl) ?_
    refine .mv rfl (.nt hK8 (.block ?_))
    refine AK.loopK (X := Nat) [(0, _), (1, _), (18, _)] (fun k => [(19, .int .i64 (k : Int))]) (fun k => []) (fun k => k ≤ l.length ∧ (1 ≤ L ∧ L ≤ 6 ∧ l.length ≤ 2048) ∧ (l.take k).all (okB L) = true) (fun k => l.length - k) (0) slr ?_ ?_ ?_ ?_
    ·exact ⟨Nat.zero_le _, by omega, rfl⟩
    ·exact slr
    ·exact fun w hw => hw
    ·intro k hg0 _ hK9
     obtain ⟨hk, hL, ha⟩ := hg0
     have hc8 := UInt8.toNat_lt (l.getD k 0)
     refine .sr fun _ hK10 => ?_
     refine .v (.lss rfl rfl) ?_
     refine .nt hK10 ?_
     refine .seq fun _ hK11 => ?_
     refine AK.condD rfl (fun hc1 => ?_) (fun hc1 => ?_)
     ·refine .skip ?_
      refine AK.then_ (hK11 _ ?_)
      refine .seq fun _ hK12 => ?_
      refine .block ?_
      refine .sr fun _ hK13 => ?_
      refine .mv rfl (.as rfl (.nt hK13 ?_))
      refine .sr fun _ hK14 => ?_
      refine .mv rfl (.mv rfl ?_)
      first | refine .v (.idxSN un9 rfl rfl (by omega)) ?_ | refine .v (.idxS un9 rfl rfl (by omega)) ?_
      refine .v (.lss rfl rfl) ?_
      refine .mv rfl ?_
      refine AK.splitB (g := 26) rfl (fun hg_6_4 => ?_) (fun hg_6_4 => ?_)
      ·have hg_6_4' := hg_6_4
       try simp only [bs] at hg_6_4'
       refine AK.pass rfl rfl (hg_6_4) rfl ?_
       refine AK.pass rfl rfl (hg_6_4) rfl ?_
       refine AK.pass rfl rfl (hg_6_4) rfl ?_
       refine AK.pass rfl rfl (hg_6_4) rfl ?_
       refine AK.pass rfl rfl (hg_6_4) rfl ?_
       refine AK.pass rfl rfl (hg_6_4) rfl ?_
       refine AK.pass rfl rfl (hg_6_4) rfl ?_
       refine .v (.pickT rfl (hg_6_4) rfl) ?_
       refine .nt hK14 ?_
       refine AK.cond_t rfl (rfl) ?_
       refine .sr fun _ hK15 => ?_
       refine .as rfl (.nt hK15 (.ret (.block_ret (.then_ret (.then_ret (.block_ret (.then_ret ?_)))))))
       refine AK.ret1 rfl rfl (fun w hw => ⟨_, _, ?_, rfl, Ret.of (hw.pick [] (by decide) rfl rfl)⟩)
       refine ⟨congrArg Value.bool ?_, rfl⟩
       symm; unfold validW; rw [all_at _ 0 (by omega : k < l.length) (by unfold okB; rw [decide_eq_false_iff_not]; omega), Bool.and_false]
      ·have hg_6_4' := hg_6_4
       try simp only [bs] at hg_6_4'
       refine AK.val _ (Yl.move rfl) ⟨_, rfl, congrArg (fun b => some (Value.bool b)) hg_6_4⟩ rfl ?_
       refine AK.val _ (Yl.move rfl) ⟨_, rfl, congrArg (fun b => some (Value.bool b)) hg_6_4⟩ rfl ?_
       first | refine AK.val _ (Yl.idxSN un9 rfl rfl (by omega)) ⟨_, rfl, congrArg (fun b => some (Value.bool b)) hg_6_4⟩ rfl ?_ | refine AK.val _ (Yl.idxS un9 rfl rfl (by omega)) ⟨_, rfl, congrArg (fun b => some (Value.bool b)) hg_6_4⟩ rfl ?_
       refine AK.val _ (Yl.subU8 rfl rfl (by omega)) ⟨_, rfl, congrArg (fun b => some (Value.bool b)) hg_6_4⟩ rfl ?_
       refine AK.val _ (Yl.convI (by kernel_rfl) un3 rfl (wrap_i64 (by omega))) ⟨_, rfl, congrArg (fun b => some (Value.bool b)) hg_6_4⟩ rfl ?_
       refine AK.val _ (Yl.move rfl) ⟨_, rfl, congrArg (fun b => some (Value.bool b)) hg_6_4⟩ rfl ?_
       refine AK.val _ (Yl.geq rfl rfl) ⟨_, rfl, congrArg (fun b => some (Value.bool b)) hg_6_4⟩ rfl ?_
       refine .v (.pickF rfl (hg_6_4) rfl) ?_
       refine .nt hK14 ?_
       refine AK.condD rfl (fun hc2 => ?_) (fun hc2 => ?_)
       ·refine .sr fun _ hK16 => ?_
        refine .as rfl (.nt hK16 (.ret (.block_ret (.then_ret (.then_ret (.block_ret (.then_ret ?_)))))))
        refine AK.ret1 rfl rfl (fun w hw => ⟨_, _, ?_, rfl, Ret.of (hw.pick [] (by decide) rfl rfl)⟩)
        refine ⟨congrArg Value.bool ?_, rfl⟩
        symm; unfold validW; rw [all_at _ 0 (by omega : k < l.length) (by unfold okB; rw [decide_eq_false_iff_not]; omega), Bool.and_false]
       ·refine .skip (.block_normal ?_)
        refine AK.then_ (hK12 _ ?_)
        refine AK.region ?_
        refine .v (.add rfl rfl (by omega)) ?_
        refine .mv rfl (.nil ?_)
        refine AK.then_ (hK9 _ _ (k + 1) ⟨by omega, hL, all_take_succ _ 0 (by omega) ha (by unfold okB; rw [decide_eq_true_eq]; omega)⟩ (by omega) (slr) (fun w hw => hw))
     ·refine .exit (.then_exit (.then_exit (.block_exit ?_)))
      refine AK.then_ (hK7 _ ?_)
      refine .sr fun _ hK17 => ?_
      refine .as rfl (.nt hK17 (.ret ?_))
      refine AK.ret1 rfl rfl (fun w hw => ⟨_, _, ?_, rfl, Ret.of (hw.pick [] (by decide) rfl rfl)⟩)
      refine ⟨congrArg Value.bool ?_, rfl⟩
      rw [show k = l.length by omega, List.take_length] at ha
      symm; unfold validW; rw [decide_eq_true hL, ha]; rfl

set_option maxRecDepth 100000 in
theorem s_run (w : World) (v : Value) (d : Dfa) (h : RdD (fun _ => False) w v d) (q : Int) (l : List UInt8) (hm : l.length ≤ 9223372036854775807) : CallS Tryd.prog 34 [v, .int .i64 q, sv l] w (fun r o => r = .int .i64 (RunV d q l) ∧ o = []) := by
 have h0 := h
 obtain ⟨vF, vN, rfl, hF, hN⟩ := h
 have hF0 := hF
 have hN0 := hN
 obtain ⟨rs, hrl, hNr, hNi⟩ := hN
 have sF := hF.sl
 have sN := hNr.sl
 have hmf := hF.le
 have hmn := hNr.le
 unfold RdL at hF
 refine spec_of Tryd.func34 rfl (Nat.le_of_ble_eq_true rfl) ?_
 refine .sr fun _ hK1 => ?_
 refine AK.box_ (E := 32) (cs := [.int .i64 d.L, .int .i64 d.s, vF, vN]) rfl rfl rfl trivial rfl (fun bx3 => ?_)
 refine .as rfl (.nt hK1 ?_)
 refine .seq fun _ hK2 => ?_
 refine .sr fun _ hK3 => ?_
 refine .v (.loadBoxG ag32 rfl bsp rfl rfl) ?_
 refine AK.call co15 rfl (fun w hw => s_validate w _ d (h0.at hw)) trivial rfl ?_
 rintro r o ⟨rfl, rfl⟩
 refine .v (.neq rfl rfl) ?_
 refine .mv rfl ?_
 refine AK.splitB (g := 11) rfl (fun hg_1_3 => ?_) (fun hg_1_3 => ?_)
 ·have hg_1_3' := hg_1_3
  try simp only [bs] at hg_1_3'
  refine AK.pass rfl rfl (hg_1_3) rfl ?_
  refine AK.pass rfl rfl (hg_1_3) rfl ?_
  refine .v (.pickT rfl (hg_1_3) rfl) ?_
  refine .mv rfl ?_
  refine AK.pass rfl rfl rfl rfl ?_
  refine AK.pass rfl rfl rfl rfl ?_
  refine AK.pass rfl rfl rfl rfl ?_
  refine AK.pass rfl rfl rfl rfl ?_
  refine AK.pass rfl rfl rfl rfl ?_
  refine .v (.pickT rfl (rfl) rfl) ?_
  refine .mv rfl ?_
  refine AK.pass rfl rfl rfl rfl ?_
  refine AK.pass rfl rfl rfl rfl ?_
  refine AK.pass rfl rfl rfl rfl ?_
  refine AK.pass rfl rfl rfl rfl ?_
  refine AK.pass rfl rfl rfl rfl ?_
  refine .v (.pickT rfl (rfl) rfl) ?_
  refine .nt hK3 ?_
  refine AK.cond_t rfl (rfl) ?_
  refine .sr fun _ hK4 => ?_
  refine .as rfl (.nt hK4 (.ret (.then_ret ?_)))
  refine AK.ret1 rfl rfl (fun w hw => ⟨_, _, ?_, rfl, Ret.of (hw.pick [] (by decide) rfl rfl)⟩)
  refine ⟨congrArg (Value.int .i64) ?_, rfl⟩
  unfold RunV; rw [if_neg]
  rintro ⟨h1, h2, h3⟩
  first | omega | (simp_all; done) | (simp_all; omega)
 ·have hg_1_3' := hg_1_3
  try simp only [bs] at hg_1_3'
  refine AK.val _ (Yl.move rfl) ⟨_, rfl, congrArg (fun b => some (Value.bool b)) hg_1_3⟩ rfl ?_
  refine AK.val _ (Yl.lss rfl rfl) ⟨_, rfl, congrArg (fun b => some (Value.bool b)) hg_1_3⟩ rfl ?_
  refine .v (.pickF rfl (hg_1_3) rfl) ?_
  refine .mv rfl ?_
  refine AK.splitB (g := 15) rfl (fun hg_1_7 => ?_) (fun hg_1_7 => ?_)
  ·have hg_1_7' := hg_1_7
   try simp only [bs] at hg_1_7'
   refine AK.pass rfl rfl (hg_1_7) rfl ?_
   refine AK.pass rfl rfl (hg_1_7) rfl ?_
   refine AK.pass rfl rfl (hg_1_7) rfl ?_
   refine AK.pass rfl rfl (hg_1_7) rfl ?_
   refine AK.pass rfl rfl (hg_1_7) rfl ?_
   refine .v (.pickT rfl (hg_1_7) rfl) ?_
   refine .mv rfl ?_
   refine AK.pass rfl rfl rfl rfl ?_
   refine AK.pass rfl rfl rfl rfl ?_
   refine AK.pass rfl rfl rfl rfl ?_
   refine AK.pass rfl rfl rfl rfl ?_
   refine AK.pass rfl rfl rfl rfl ?_
   refine .v (.pickT rfl (rfl) rfl) ?_
   refine .nt hK3 ?_
   refine AK.cond_t rfl (rfl) ?_
   refine .sr fun _ hK5 => ?_
   refine .as rfl (.nt hK5 (.ret (.then_ret ?_)))
   refine AK.ret1 rfl rfl (fun w hw => ⟨_, _, ?_, rfl, Ret.of (hw.pick [] (by decide) rfl rfl)⟩)
   refine ⟨congrArg (Value.int .i64) ?_, rfl⟩
   unfold RunV; rw [if_neg]
   rintro ⟨h1, h2, h3⟩
   first | omega | (simp_all; done) | (simp_all; omega)
  ·have hg_1_7' := hg_1_7
   try simp only [bs] at hg_1_7'
   refine AK.val _ (Yl.move rfl) ⟨_, rfl, congrArg (fun b => some (Value.bool b)) hg_1_7⟩ rfl ?_
   refine AK.val _ (Yl.fieldAddr fd32_2 rfl) ⟨_, rfl, congrArg (fun b => some (Value.bool b)) hg_1_7⟩ rfl ?_
   refine AK.val _ (Yl.loadBox on29 rfl bsp rfl) ⟨_, rfl, congrArg (fun b => some (Value.bool b)) hg_1_7⟩ rfl ?_
   refine AK.val _ (Yl.lenR sl29 rfl (by first | exact rdp | exact .arg (hNi _ (by omega)))) ⟨_, rfl, congrArg (fun b => some (Value.bool b)) hg_1_7⟩ rfl ?_
   refine AK.val _ (Yl.geq rfl rfl) ⟨_, rfl, congrArg (fun b => some (Value.bool b)) hg_1_7⟩ rfl ?_
   refine .v (.pickF rfl (hg_1_7) rfl) ?_
   refine .mv rfl ?_
   refine AK.splitB (g := 22) rfl (fun hg_1_14 => ?_) (fun hg_1_14 => ?_)
   ·have hg_1_14' := hg_1_14
    try simp only [bs] at hg_1_14'
    refine AK.pass rfl rfl (hg_1_14) rfl ?_
    refine AK.pass rfl rfl (hg_1_14) rfl ?_
    refine AK.pass rfl rfl (hg_1_14) rfl ?_
    refine AK.pass rfl rfl (hg_1_14) rfl ?_
    refine AK.pass rfl rfl (hg_1_14) rfl ?_
    refine .v (.pickT rfl (hg_1_14) rfl) ?_
    refine .nt hK3 ?_
    refine AK.cond_t rfl (rfl) ?_
    refine .sr fun _ hK6 => ?_
    refine .as rfl (.nt hK6 (.ret (.then_ret ?_)))
    refine AK.ret1 rfl rfl (fun w hw => ⟨_, _, ?_, rfl, Ret.of (hw.pick [] (by decide) rfl rfl)⟩)
    refine ⟨congrArg (Value.int .i64) ?_, rfl⟩
    unfold RunV; rw [if_neg]
    rintro ⟨h1, h2, h3⟩
    first | omega | (simp_all; done) | (simp_all; omega)
   ·have hg_1_14' := hg_1_14
    try simp only [bs] at hg_1_14'
    refine AK.val _ (Yl.move rfl) ⟨_, rfl, congrArg (fun b => some (Value.bool b)) hg_1_14⟩ rfl ?_
    refine AK.val _ (Yl.fieldAddr fd32_0 rfl) ⟨_, rfl, congrArg (fun b => some (Value.bool b)) hg_1_14⟩ rfl ?_
    refine AK.val _ (Yl.loadBox on3 rfl bsp rfl) ⟨_, rfl, congrArg (fun b => some (Value.bool b)) hg_1_14⟩ rfl ?_
    refine AK.call co35 rfl (fun w hw => s_wvalid w l d.L hm) ⟨_, rfl, congrArg (fun b => some (Value.bool b)) hg_1_14⟩ rfl ?_
    rintro r o ⟨rfl, rfl⟩
    refine AK.val _ (Yl.not rfl) ⟨_, rfl, congrArg (fun b => some (Value.bool b)) hg_1_14⟩ rfl ?_
    refine .v (.pickF rfl (hg_1_14) rfl) ?_
    refine .nt hK3 ?_
    refine AK.condB rfl (fun hc0 => ?_) (fun hc0 => ?_)
    ·refine .sr fun _ hK7 => ?_
     refine .as rfl (.nt hK7 (.ret (.then_ret ?_)))
     refine AK.ret1 rfl rfl (fun w hw => ⟨_, _, ?_, rfl, Ret.of (hw.pick [] (by decide) rfl rfl)⟩)
     refine ⟨congrArg (Value.int .i64) ?_, rfl⟩
     unfold RunV; rw [if_neg]
     rintro ⟨h1, h2, h3⟩
     first | omega | (simp_all; done) | (simp_all; omega)
    ·have hv : VD d := (errV_iff d).1 hg_1_3'
     have hwv : validW d.L l = true := by simpa using hc0
     have hq : 0 ≤ q ∧ q < d.fin.length := by omega
     have hok := (validW_iff.1 hwv).2
     refine .skip ?_
     refine AK.then_ (hK2 _ ?_)
     refine .seq fun _ hK8 => ?_
     refine .sr fun _ hK9 => ?_
     refine .mv rfl ?_
     refine .v (.lenS un9 rfl) ?_
     refine .mv rfl (.nt hK9 (.block ?_))
     refine AK.loopK (X := Nat) [(2, _), (3, _), (30, _)] (fun k => [(1, .int .i64 (runI d q (l.take k))), (31, .int .i64 (k : Int))]) (fun k => [box bx3 32 4 [.int .i64 d.L, .int .i64 d.s, vF, vN]]) (fun k => k ≤ l.length) (fun k => l.length - k) (0) slr ?_ ?_ ?_ ?_
     ·exact Nat.zero_le _
     ·exact slr
     ·exact fun w hw => hw
     ·intro k hg0 _ hK10
      have hb := runI_bd hv hq hwv k
      have hrw := hv.row (runI d q (l.take k)).toNat (by omega)
      have hnx := hv.nx
      have hc8 := UInt8.toNat_lt (l.getD k 0)
      refine .sr fun _ hK11 => ?_
      refine .v (.lss rfl rfl) ?_
      refine .nt hK11 ?_
      refine .seq fun _ hK12 => ?_
      refine AK.condD rfl (fun hc1 => ?_) (fun hc1 => ?_)
      ·have hok1 := hok k (by omega)
       refine .skip ?_
       refine AK.then_ (hK12 _ ?_)
       refine .seq fun _ hK13 => ?_
       refine .block ?_
       refine .sr fun _ hK14 => ?_
       refine .mv rfl (.as rfl (.nt hK14 ?_))
       refine AK.quiet mixed krf ?_
       refine .v (.fieldAddr fd32_3 rfl) ?_
       refine .v (.loadBox on30 rfl bsp rfl) ?_
       refine .mv rfl ?_
       first | refine .v (.iN sl30 rfl rfl (hr := (by first | exact rdp | exact .arg (hNi _ (by omega))))) ?_ | refine .v (.iK sl30 rfl rfl (hr := (by first | exact rdp | exact .arg (hNi _ (by omega))))) ?_
       refine .v (.loadV on41 rfl (by first | exact rdp | exact .arg (hNi _ (by omega))) (by omega)) ?_
       refine .mv rfl (.mv rfl ?_)
       first | refine .v (.idxSN un9 rfl rfl (by omega)) ?_ | refine .v (.idxS un9 rfl rfl (by omega)) ?_
       refine .v (.subU8 rfl rfl (by omega)) ?_
       first | refine .v (.iN sl41 rfl rfl (hr := (by first | exact rdp | exact .arg (hNi _ (by omega))))) ?_ | refine .v (.iK sl41 rfl rfl (hr := (by first | exact rdp | exact .arg (hNi _ (by omega))))) ?_
       refine .v (.loadI on3 rfl (by first | exact rdp | exact .arg (hNi _ (by omega))) (by omega)) ?_
       refine .as rfl ?_
       refine QK.nil (QK.fin ?_)
       refine .block_normal ?_
       refine AK.then_ (hK13 _ ?_)
       refine AK.region ?_
       refine .v (.add rfl rfl (by omega)) ?_
       refine .mv rfl (.nil ?_)
       refine AK.then_ (hK10 _ _ (k + 1) (by omega) (by omega) (.cons (slI rfl (by rw [runI_snoc d q l k (by omega)]; rfl)) (slr)) (fun w hw => hw))
      ·refine .exit (.then_exit (.then_exit (.block_exit ?_)))
       refine AK.then_ (hK8 _ ?_)
       refine .sr fun _ hK15 => ?_
       refine .mv rfl (.as rfl (.nt hK15 (.ret ?_)))
       refine AK.ret1 rfl rfl (fun w hw => ⟨_, _, ?_, rfl, Ret.of (hw.pick [] (by decide) rfl rfl)⟩)
       refine ⟨congrArg (Value.int .i64) ?_, rfl⟩
       unfold RunV; rw [if_pos ⟨(errV_iff d).2 hv, hq, hwv⟩, show k = l.length by omega, List.take_length]

set_option maxRecDepth 100000 in
theorem s_acc (w : World) (v : Value) (d : Dfa) (h : RdD (fun _ => False) w v d) (l : List UInt8) (hm : l.length ≤ 9223372036854775807) : CallS Tryd.prog 16 [v, sv l] w (fun r o => r = .bool (AccV d l) ∧ o = []) := by
 have h0 := h
 obtain ⟨vF, vN, rfl, hF, hN⟩ := h
 have hF0 := hF
 have hN0 := hN
 obtain ⟨rs, hrl, hNr, hNi⟩ := hN
 have sF := hF.sl
 have sN := hNr.sl
 have hmf := hF.le
 have hmn := hNr.le
 unfold RdL at hF
 refine spec_of Tryd.func16 rfl (Nat.le_of_ble_eq_true rfl) ?_
 refine .sr fun _ hK1 => ?_
 refine AK.box_ (E := 32) (cs := [.int .i64 d.L, .int .i64 d.s, vF, vN]) rfl rfl rfl trivial rfl (fun bx2 => ?_)
 refine .as rfl (.nt hK1 ?_)
 refine .sr fun _ hK2 => ?_
 refine .v (.loadBoxG ag32 rfl bsp rfl rfl) ?_
 refine .v (.fieldAddr fd32_1 rfl) ?_
 refine .v (.loadBox on3 rfl bsp rfl) ?_
 refine .mv rfl ?_
 refine AK.call co34 rfl (fun w hw => s_run w _ d (h0.at hw) d.s l hm) trivial rfl ?_
 rintro r o ⟨rfl, rfl⟩
 have hb := @RunV_bd d d.s l
 refine .as rfl (.nt hK2 ?_)
 refine .sr fun _ hK3 => ?_
 refine .mv rfl ?_
 refine .v (.geq rfl rfl) ?_
 refine .mv rfl ?_
 refine AK.splitB (g := 13) rfl (fun hg_2_2 => ?_) (fun hg_2_2 => ?_)
 ·have hg_2_2' := hg_2_2
  try simp only [bs] at hg_2_2'
  refine AK.val _ (Yl.fieldAddr fd32_2 rfl) ⟨_, rfl, congrArg (fun b => some (Value.bool b)) hg_2_2⟩ rfl ?_
  refine AK.val _ (Yl.loadBox on29 rfl bsp rfl) ⟨_, rfl, congrArg (fun b => some (Value.bool b)) hg_2_2⟩ rfl ?_
  refine AK.val _ (Yl.move rfl) ⟨_, rfl, congrArg (fun b => some (Value.bool b)) hg_2_2⟩ rfl ?_
  first | refine AK.val _ (.iN sl29 rfl rfl (h0 := (by have := hb (by omega); omega))) ⟨_, rfl, congrArg (fun b => some (Value.bool b)) hg_2_2⟩ rfl ?_ | refine AK.val _ (.iK sl29 rfl rfl (h0 := (by have := hb (by omega); omega))) ⟨_, rfl, congrArg (fun b => some (Value.bool b)) hg_2_2⟩ rfl ?_
  refine AK.val _ (Yl.loadB on4 rfl rdp (by have := hb (by omega); omega)) ⟨_, rfl, congrArg (fun b => some (Value.bool b)) hg_2_2⟩ rfl ?_
  refine .v (.pickT rfl (hg_2_2) rfl) ?_
  refine .as rfl (.nt hK3 (.ret ?_))
  refine AK.ret1 rfl rfl (fun w hw => ⟨_, _, ?_, rfl, Ret.of (hw.pick [] (by decide) rfl rfl)⟩)
  refine ⟨congrArg Value.bool ?_, rfl⟩
  unfold AccV
  first | rw [if_pos (by omega)] | rw [if_neg (by omega)]
 ·have hg_2_2' := hg_2_2
  try simp only [bs] at hg_2_2'
  refine AK.pass rfl rfl (hg_2_2) rfl ?_
  refine AK.pass rfl rfl (hg_2_2) rfl ?_
  refine AK.pass rfl rfl (hg_2_2) rfl ?_
  refine AK.pass rfl rfl (hg_2_2) rfl ?_
  refine AK.pass rfl rfl (hg_2_2) rfl ?_
  refine .v (.pickF rfl (hg_2_2) rfl) ?_
  refine .as rfl (.nt hK3 (.ret ?_))
  refine AK.ret1 rfl rfl (fun w hw => ⟨_, _, ?_, rfl, Ret.of (hw.pick [] (by decide) rfl rfl)⟩)
  refine ⟨congrArg Value.bool ?_, rfl⟩
  unfold AccV
  first | rw [if_pos (by omega)] | rw [if_neg (by omega)]

end Go.Proofs.YtckicbgffhbacaaDoor
