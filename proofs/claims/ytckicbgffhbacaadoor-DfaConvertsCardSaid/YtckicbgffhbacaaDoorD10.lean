import Derived.Test.YtckicbgffhbacaaDoorD9
set_option linter.unusedVariables false
set_option linter.unusedSimpArgs false
namespace Go.Proofs.YtckicbgffhbacaaDoor
open Go.Sx Go.RowKit
set_option maxHeartbeats 600000 in
set_option maxRecDepth 100000 in
theorem s_sameD (w : World) (u v : Value) (a b : Dfa) (hu : RdD (fun _ => False) w u a) (hv : RdD (fun _ => False) w v b) : CallS Tryd.prog 10 [u, v] w (fun r o => r = .bool (decide (a = b)) ∧ o = []) := by
 obtain ⟨uF, uN, rfl, huF, huN⟩ := hu
 obtain ⟨vF, vN, rfl, hvF, hvN⟩ := hv
 obtain ⟨ru, hru, huNr, huNi⟩ := huN
 obtain ⟨rv, hrv, hvNr, hvNi⟩ := hvN
 have mu1 := huF.le
 have mu2 := huNr.le
 unfold RdL at huF hvF
 refine spec_of Tryd.func10 rfl (Nat.le_of_ble_eq_true rfl) ?_
 refine .sr fun _ hK1 => ?_
 refine AK.box_ (E := 32) (cs := [.int .i64 a.L, .int .i64 a.s, uF, uN]) rfl rfl rfl trivial rfl (fun bx2 => ?_)
 refine AK.box_ (E := 32) (cs := [.int .i64 b.L, .int .i64 b.s, vF, vN]) rfl rfl rfl trivial rfl (fun bx3 => ?_)
 refine .as rfl (.nt hK1 ?_)
 refine .seq fun _ hK2 => ?_
 refine .sr fun _ hK3 => ?_
 refine .v (.fieldAddr fd32_0 rfl) ?_
 refine .v (.loadBox on3 rfl bsp rfl) ?_
 refine .v (.fieldAddr fd32_0 rfl) ?_
 refine .v (.loadBox on3 rfl bsp rfl) ?_
 refine .v (.neq rfl rfl) ?_
 refine .mv rfl ?_
 refine AK.splitB (g := 13) rfl (fun hg_1_5 => ?_) (fun hg_1_5 => ?_)
 ·have hg_1_5' := hg_1_5
  try simp only [bs] at hg_1_5'
  refine AK.pass rfl rfl (hg_1_5) rfl ?_
  refine AK.pass rfl rfl (hg_1_5) rfl ?_
  refine AK.pass rfl rfl (hg_1_5) rfl ?_
  refine AK.pass rfl rfl (hg_1_5) rfl ?_
  refine AK.pass rfl rfl (hg_1_5) rfl ?_
  refine .v (.pickT rfl (hg_1_5) rfl) ?_
  refine .mv rfl ?_
  refine AK.pass rfl rfl rfl rfl ?_
  refine AK.pass rfl rfl rfl rfl ?_
  refine AK.pass rfl rfl rfl rfl ?_
  refine AK.pass rfl rfl rfl rfl ?_
  refine AK.pass rfl rfl rfl rfl ?_
  refine AK.pass rfl rfl rfl rfl ?_
  refine AK.pass rfl rfl rfl rfl ?_
  refine .v (.pickT rfl (rfl) rfl) ?_
  refine .mv rfl ?_
  refine AK.pass rfl rfl rfl rfl ?_
  refine AK.pass rfl rfl rfl rfl ?_
  refine AK.pass rfl rfl rfl rfl ?_
  refine AK.pass rfl rfl rfl rfl ?_
  refine AK.pass rfl rfl rfl rfl ?_
  refine AK.pass rfl rfl rfl rfl ?_
  refine AK.pass rfl rfl rfl rfl ?_
  refine .v (.pickT rfl (rfl) rfl) ?_
  refine .nt hK3 ?_
  refine AK.cond_t rfl (rfl) ?_
  refine .sr fun _ hK4 => ?_
  refine .as rfl (.nt hK4 (.ret (.then_ret ?_)))
  refine AK.ret1 rfl rfl (fun w hw => ⟨_, _, ?_, rfl, Ret.of (hw.pick [] (by decide) rfl rfl)⟩)
  refine ⟨congrArg Value.bool ?_, rfl⟩
  symm; rw [decide_eq_false_iff_not]; intro e; subst e
  omega
 ·have hg_1_5' := hg_1_5
  try simp only [bs] at hg_1_5'
  refine AK.val _ (Yl.fieldAddr fd32_1 rfl) ⟨_, rfl, congrArg (fun b => some (Value.bool b)) hg_1_5⟩ rfl ?_
  refine AK.val _ (Yl.loadBox on3 rfl bsp rfl) ⟨_, rfl, congrArg (fun b => some (Value.bool b)) hg_1_5⟩ rfl ?_
  refine AK.val _ (Yl.fieldAddr fd32_1 rfl) ⟨_, rfl, congrArg (fun b => some (Value.bool b)) hg_1_5⟩ rfl ?_
  refine AK.val _ (Yl.loadBox on3 rfl bsp rfl) ⟨_, rfl, congrArg (fun b => some (Value.bool b)) hg_1_5⟩ rfl ?_
  refine AK.val _ (Yl.neq rfl rfl) ⟨_, rfl, congrArg (fun b => some (Value.bool b)) hg_1_5⟩ rfl ?_
  refine .v (.pickF rfl (hg_1_5) rfl) ?_
  refine .mv rfl ?_
  refine AK.splitB (g := 20) rfl (fun hg_1_12 => ?_) (fun hg_1_12 => ?_)
  ·have hg_1_12' := hg_1_12
   try simp only [bs] at hg_1_12'
   refine AK.pass rfl rfl (hg_1_12) rfl ?_
   refine AK.pass rfl rfl (hg_1_12) rfl ?_
   refine AK.pass rfl rfl (hg_1_12) rfl ?_
   refine AK.pass rfl rfl (hg_1_12) rfl ?_
   refine AK.pass rfl rfl (hg_1_12) rfl ?_
   refine AK.pass rfl rfl (hg_1_12) rfl ?_
   refine AK.pass rfl rfl (hg_1_12) rfl ?_
   refine .v (.pickT rfl (hg_1_12) rfl) ?_
   refine .mv rfl ?_
   refine AK.pass rfl rfl rfl rfl ?_
   refine AK.pass rfl rfl rfl rfl ?_
   refine AK.pass rfl rfl rfl rfl ?_
   refine AK.pass rfl rfl rfl rfl ?_
   refine AK.pass rfl rfl rfl rfl ?_
   refine AK.pass rfl rfl rfl rfl ?_
   refine AK.pass rfl rfl rfl rfl ?_
   refine .v (.pickT rfl (rfl) rfl) ?_
   refine .nt hK3 ?_
   refine AK.cond_t rfl (rfl) ?_
   refine .sr fun _ hK5 => ?_
   refine .as rfl (.nt hK5 (.ret (.then_ret ?_)))
   refine AK.ret1 rfl rfl (fun w hw => ⟨_, _, ?_, rfl, Ret.of (hw.pick [] (by decide) rfl rfl)⟩)
   refine ⟨congrArg Value.bool ?_, rfl⟩
   symm; rw [decide_eq_false_iff_not]; intro e; subst e
   omega
  ·have hg_1_12' := hg_1_12
   try simp only [bs] at hg_1_12'
   refine AK.val _ (Yl.fieldAddr fd32_2 rfl) ⟨_, rfl, congrArg (fun b => some (Value.bool b)) hg_1_12⟩ rfl ?_
   refine AK.val _ (Yl.loadBox on29 rfl bsp rfl) ⟨_, rfl, congrArg (fun b => some (Value.bool b)) hg_1_12⟩ rfl ?_
   refine AK.val _ (Yl.lenR sl29 rfl (by first | exact rdp | exact .arg huF | exact .arg hvF | exact .arg huNr | exact .arg hvNr | exact .arg (huNi _ (by omega)) | exact .arg (hvNi _ (by omega)))) ⟨_, rfl, congrArg (fun b => some (Value.bool b)) hg_1_12⟩ rfl ?_
   refine AK.val _ (Yl.fieldAddr fd32_2 rfl) ⟨_, rfl, congrArg (fun b => some (Value.bool b)) hg_1_12⟩ rfl ?_
   refine AK.val _ (Yl.loadBox on29 rfl bsp rfl) ⟨_, rfl, congrArg (fun b => some (Value.bool b)) hg_1_12⟩ rfl ?_
   refine AK.val _ (Yl.lenR sl29 rfl (by first | exact rdp | exact .arg huF | exact .arg hvF | exact .arg huNr | exact .arg hvNr | exact .arg (huNi _ (by omega)) | exact .arg (hvNi _ (by omega)))) ⟨_, rfl, congrArg (fun b => some (Value.bool b)) hg_1_12⟩ rfl ?_
   refine AK.val _ (Yl.neq rfl rfl) ⟨_, rfl, congrArg (fun b => some (Value.bool b)) hg_1_12⟩ rfl ?_
   refine .v (.pickF rfl (hg_1_12) rfl) ?_
   refine .mv rfl ?_
   refine AK.splitB (g := 29) rfl (fun hg_1_21 => ?_) (fun hg_1_21 => ?_)
   ·have hg_1_21' := hg_1_21
    try simp only [bs] at hg_1_21'
    refine AK.pass rfl rfl (hg_1_21) rfl ?_
    refine AK.pass rfl rfl (hg_1_21) rfl ?_
    refine AK.pass rfl rfl (hg_1_21) rfl ?_
    refine AK.pass rfl rfl (hg_1_21) rfl ?_
    refine AK.pass rfl rfl (hg_1_21) rfl ?_
    refine AK.pass rfl rfl (hg_1_21) rfl ?_
    refine AK.pass rfl rfl (hg_1_21) rfl ?_
    refine .v (.pickT rfl (hg_1_21) rfl) ?_
    refine .nt hK3 ?_
    refine AK.cond_t rfl (rfl) ?_
    refine .sr fun _ hK6 => ?_
    refine .as rfl (.nt hK6 (.ret (.then_ret ?_)))
    refine AK.ret1 rfl rfl (fun w hw => ⟨_, _, ?_, rfl, Ret.of (hw.pick [] (by decide) rfl rfl)⟩)
    refine ⟨congrArg Value.bool ?_, rfl⟩
    symm; rw [decide_eq_false_iff_not]; intro e; subst e
    omega
   ·have hg_1_21' := hg_1_21
    try simp only [bs] at hg_1_21'
    refine AK.val _ (Yl.fieldAddr fd32_3 rfl) ⟨_, rfl, congrArg (fun b => some (Value.bool b)) hg_1_21⟩ rfl ?_
    refine AK.val _ (Yl.loadBox on30 rfl bsp rfl) ⟨_, rfl, congrArg (fun b => some (Value.bool b)) hg_1_21⟩ rfl ?_
    refine AK.val _ (Yl.lenR sl30 rfl (by first | exact rdp | exact .arg huF | exact .arg hvF | exact .arg huNr | exact .arg hvNr | exact .arg (huNi _ (by omega)) | exact .arg (hvNi _ (by omega)))) ⟨_, rfl, congrArg (fun b => some (Value.bool b)) hg_1_21⟩ rfl ?_
    refine AK.val _ (Yl.fieldAddr fd32_3 rfl) ⟨_, rfl, congrArg (fun b => some (Value.bool b)) hg_1_21⟩ rfl ?_
    refine AK.val _ (Yl.loadBox on30 rfl bsp rfl) ⟨_, rfl, congrArg (fun b => some (Value.bool b)) hg_1_21⟩ rfl ?_
    refine AK.val _ (Yl.lenR sl30 rfl (by first | exact rdp | exact .arg huF | exact .arg hvF | exact .arg huNr | exact .arg hvNr | exact .arg (huNi _ (by omega)) | exact .arg (hvNi _ (by omega)))) ⟨_, rfl, congrArg (fun b => some (Value.bool b)) hg_1_21⟩ rfl ?_
    refine AK.val _ (Yl.neq rfl rfl) ⟨_, rfl, congrArg (fun b => some (Value.bool b)) hg_1_21⟩ rfl ?_
    refine .v (.pickF rfl (hg_1_21) rfl) ?_
    refine .nt hK3 ?_
    refine AK.condNe rfl (fun hc0 => ?_) (fun hc0 => ?_)
    ·refine .sr fun _ hK7 => ?_
     refine .as rfl (.nt hK7 (.ret (.then_ret ?_)))
     refine AK.ret1 rfl rfl (fun w hw => ⟨_, _, ?_, rfl, Ret.of (hw.pick [] (by decide) rfl rfl)⟩)
     refine ⟨congrArg Value.bool ?_, rfl⟩
     symm; rw [decide_eq_false_iff_not]; intro e; subst e
     omega
    ·have hL : a.L = b.L := (by simpa using hg_1_5')
     have hs : a.s = b.s := (by simpa using hg_1_12')
     have hlF : a.fin.length = b.fin.length := (by have := hg_1_21'; omega)
     have hlN : a.nx.length = b.nx.length := (by omega)
     refine .skip ?_
     refine AK.then_ (hK2 _ ?_)
     refine .seq fun _ hK8 => ?_
     refine .sr fun _ hK9 => ?_
     refine .v (.fieldAddr fd32_2 rfl) ?_
     refine .v (.loadBox on29 rfl bsp rfl) ?_
     refine .v (.lenR sl29 rfl (by first | exact rdp | exact .arg huF | exact .arg hvF | exact .arg huNr | exact .arg hvNr | exact .arg (huNi _ (by omega)) | exact .arg (hvNi _ (by omega)))) ?_
     refine .mv rfl (.nt hK9 (.block ?_))
     refine AK.loopK (X := Nat) [(2, _), (3, _), (40, _)] (fun k => [(41, .int .i64 (k : Int))]) (fun k => [box bx2 32 4 [.int .i64 a.L, .int .i64 a.s, uF, uN], box bx3 32 4 [.int .i64 b.L, .int .i64 b.s, vF, vN]]) (fun k => k ≤ a.fin.length ∧ a.fin.take k = b.fin.take k) (fun k => a.fin.length - k) (0) slr ?_ ?_ ?_ ?_
     ·exact ⟨Nat.zero_le _, by simp⟩
     ·exact slr
     ·exact fun w hw => hw
     ·intro k hg0 _ hK10
      obtain ⟨hk, ht⟩ := hg0
      refine .sr fun _ hK11 => ?_
      refine .v (.lss rfl rfl) ?_
      refine .nt hK11 ?_
      refine .seq fun _ hK12 => ?_
      refine AK.condD rfl (fun hc1 => ?_) (fun hc1 => ?_)
      ·refine .skip ?_
       refine AK.then_ (hK12 _ ?_)
       refine .seq fun _ hK13 => ?_
       refine .block ?_
       refine .sr fun _ hK14 => ?_
       refine .mv rfl (.as rfl (.nt hK14 ?_))
       refine .seq fun _ hK15 => ?_
       refine AK.quiet mixed krf ?_
       refine .v (.fieldAddr fd32_2 rfl) ?_
       refine .v (.loadBox on29 rfl bsp rfl) ?_
       refine .mv rfl ?_
       first | refine .v (.iN sl29 rfl rfl (hr := (by first | exact rdp | exact .arg huF | exact .arg hvF | exact .arg huNr | exact .arg hvNr | exact .arg (huNi _ (by omega)) | exact .arg (hvNi _ (by omega))))) ?_ | refine .v (.iK sl29 rfl rfl (hr := (by first | exact rdp | exact .arg huF | exact .arg hvF | exact .arg huNr | exact .arg hvNr | exact .arg (huNi _ (by omega)) | exact .arg (hvNi _ (by omega))))) ?_
       refine .v (.loadB on4 rfl (by first | exact rdp | exact .arg huF | exact .arg hvF | exact .arg huNr | exact .arg hvNr | exact .arg (huNi _ (by omega)) | exact .arg (hvNi _ (by omega))) (by omega)) ?_
       refine .v (.fieldAddr fd32_2 rfl) ?_
       refine .v (.loadBox on29 rfl bsp rfl) ?_
       refine .mv rfl ?_
       first | refine .v (.iN sl29 rfl rfl (hr := (by first | exact rdp | exact .arg huF | exact .arg hvF | exact .arg huNr | exact .arg hvNr | exact .arg (huNi _ (by omega)) | exact .arg (hvNi _ (by omega))))) ?_ | refine .v (.iK sl29 rfl rfl (hr := (by first | exact rdp | exact .arg huF | exact .arg hvF | exact .arg huNr | exact .arg hvNr | exact .arg (huNi _ (by omega)) | exact .arg (hvNi _ (by omega))))) ?_
       refine .v (.loadB on4 rfl (by first | exact rdp | exact .arg huF | exact .arg hvF | exact .arg huNr | exact .arg hvNr | exact .arg (huNi _ (by omega)) | exact .arg (hvNi _ (by omega))) (by omega)) ?_
       refine .v (.neqB bo4 rfl rfl) ?_
       refine QK.nil (QK.fin ?_)
       refine AK.then_ (hK15 _ ?_)
       refine AK.cond rfl (fun hc2 => ?_) (fun hc2 => ?_)
       ·try simp only [bs] at hc2
        refine .sr fun _ hK16 => ?_
        refine .as rfl (.nt hK16 (.ret (.block_ret (.then_ret (.then_ret (.block_ret (.then_ret ?_)))))))
        refine AK.ret1 rfl rfl (fun w hw => ⟨_, _, ?_, rfl, Ret.of (hw.pick [] (by decide) rfl rfl)⟩)
        refine ⟨congrArg Value.bool ?_, rfl⟩
        symm; rw [decide_eq_false_iff_not]; intro e; subst e
        simp at hc2
       ·try simp only [bs] at hc2
        refine .skip (.block_normal ?_)
        refine AK.then_ (hK13 _ ?_)
        refine AK.region ?_
        refine .v (.add rfl rfl (by omega)) ?_
        refine .mv rfl (.nil ?_)
        refine AK.then_ (hK10 _ _ (k + 1) ⟨by omega, (beq_takeD false hlF k (by omega) ht).2 (by simpa using hc2)⟩ (by omega) (slr) (fun w hw => hw))
      ·have hFin : a.fin = b.fin := (by rw [show k = a.fin.length by omega, List.take_length, hlF, List.take_length] at ht; exact ht)
       refine .exit (.then_exit (.then_exit (.block_exit ?_)))
       refine AK.then_ (hK8 _ ?_)
       refine .seq fun _ hK17 => ?_
       refine .sr fun _ hK18 => ?_
       refine .v (.fieldAddr fd32_3 rfl) ?_
       refine .v (.loadBox on30 rfl bsp rfl) ?_
       refine .v (.lenR sl30 rfl (by first | exact rdp | exact .arg huF | exact .arg hvF | exact .arg huNr | exact .arg hvNr | exact .arg (huNi _ (by omega)) | exact .arg (hvNi _ (by omega)))) ?_
       refine .mv rfl (.nt hK18 (.block ?_))
       refine AK.loopK (X := Nat) [(2, _), (3, _), (58, _)] (fun k => [(59, .int .i64 (k : Int))]) (fun k => [box bx2 32 4 [.int .i64 a.L, .int .i64 a.s, uF, uN], box bx3 32 4 [.int .i64 b.L, .int .i64 b.s, vF, vN]]) (fun k => k ≤ a.nx.length ∧ a.nx.take k = b.nx.take k) (fun k => a.nx.length - k) (0) slr ?_ ?_ ?_ ?_
       ·exact ⟨Nat.zero_le _, by simp⟩
       ·exact slr
       ·exact fun w hw => hw
       ·intro k hg1 _ hK19
        obtain ⟨hk2, ht2⟩ := hg1
        have hmr := fun h => (huNi k h).le
        refine .sr fun _ hK20 => ?_
        refine .v (.lss rfl rfl) ?_
        refine .nt hK20 ?_
        refine .seq fun _ hK21 => ?_
        refine AK.condD rfl (fun hc3 => ?_) (fun hc3 => ?_)
        ·refine .skip ?_
         refine AK.then_ (hK21 _ ?_)
         refine .seq fun _ hK22 => ?_
         refine .block ?_
         refine .sr fun _ hK23 => ?_
         refine .mv rfl (.as rfl (.nt hK23 ?_))
         refine .seq fun _ hK24 => ?_
         refine .seq fun _ hK25 => ?_
         refine AK.quiet mixed krf ?_
         refine .v (.fieldAddr fd32_3 rfl) ?_
         refine .v (.loadBox on30 rfl bsp rfl) ?_
         refine .mv rfl ?_
         first | refine .v (.iN sl30 rfl rfl (hr := (by first | exact rdp | exact .arg huF | exact .arg hvF | exact .arg huNr | exact .arg hvNr | exact .arg (huNi _ (by omega)) | exact .arg (hvNi _ (by omega))))) ?_ | refine .v (.iK sl30 rfl rfl (hr := (by first | exact rdp | exact .arg huF | exact .arg hvF | exact .arg huNr | exact .arg hvNr | exact .arg (huNi _ (by omega)) | exact .arg (hvNi _ (by omega))))) ?_
         refine .v (.loadV on41 rfl (by first | exact rdp | exact .arg huF | exact .arg hvF | exact .arg huNr | exact .arg hvNr | exact .arg (huNi _ (by omega)) | exact .arg (hvNi _ (by omega))) (by omega)) ?_
         refine .v (.lenR sl41 rfl (by first | exact rdp | exact .arg huF | exact .arg hvF | exact .arg huNr | exact .arg hvNr | exact .arg (huNi _ (by omega)) | exact .arg (hvNi _ (by omega)))) ?_
         refine .v (.fieldAddr fd32_3 rfl) ?_
         refine .v (.loadBox on30 rfl bsp rfl) ?_
         refine .mv rfl ?_
         first | refine .v (.iN sl30 rfl rfl (hr := (by first | exact rdp | exact .arg huF | exact .arg hvF | exact .arg huNr | exact .arg hvNr | exact .arg (huNi _ (by omega)) | exact .arg (hvNi _ (by omega))))) ?_ | refine .v (.iK sl30 rfl rfl (hr := (by first | exact rdp | exact .arg huF | exact .arg hvF | exact .arg huNr | exact .arg hvNr | exact .arg (huNi _ (by omega)) | exact .arg (hvNi _ (by omega))))) ?_
         refine .v (.loadV on41 rfl (by first | exact rdp | exact .arg huF | exact .arg hvF | exact .arg huNr | exact .arg hvNr | exact .arg (huNi _ (by omega)) | exact .arg (hvNi _ (by omega))) (by omega)) ?_
         refine .v (.lenR sl41 rfl (by first | exact rdp | exact .arg huF | exact .arg hvF | exact .arg huNr | exact .arg hvNr | exact .arg (huNi _ (by omega)) | exact .arg (hvNi _ (by omega)))) ?_
         refine .v (.neq rfl rfl) ?_
         refine QK.nil (QK.fin ?_)
         refine AK.then_ (hK25 _ ?_)
         refine AK.condNe rfl (fun hc4 => ?_) (fun hc4 => ?_)
         ·refine .sr fun _ hK26 => ?_
          refine .as rfl (.nt hK26 (.ret (.then_ret (.block_ret (.then_ret (.then_ret (.block_ret (.then_ret ?_))))))))
          refine AK.ret1 rfl rfl (fun w hw => ⟨_, _, ?_, rfl, Ret.of (hw.pick [] (by decide) rfl rfl)⟩)
          refine ⟨congrArg Value.bool ?_, rfl⟩
          symm; rw [decide_eq_false_iff_not]; intro e; subst e
          omega
         ·refine .skip ?_
          refine AK.then_ (hK24 _ ?_)
          refine .sr fun _ hK27 => ?_
          refine .v (.fieldAddr fd32_3 rfl) ?_
          refine .v (.loadBox on30 rfl bsp rfl) ?_
          refine .mv rfl ?_
          first | refine .v (.iN sl30 rfl rfl (hr := (by first | exact rdp | exact .arg huF | exact .arg hvF | exact .arg huNr | exact .arg hvNr | exact .arg (huNi _ (by omega)) | exact .arg (hvNi _ (by omega))))) ?_ | refine .v (.iK sl30 rfl rfl (hr := (by first | exact rdp | exact .arg huF | exact .arg hvF | exact .arg huNr | exact .arg hvNr | exact .arg (huNi _ (by omega)) | exact .arg (hvNi _ (by omega))))) ?_
          refine .v (.loadV on41 rfl (by first | exact rdp | exact .arg huF | exact .arg hvF | exact .arg huNr | exact .arg hvNr | exact .arg (huNi _ (by omega)) | exact .arg (hvNi _ (by omega))) (by omega)) ?_
          refine .v (.lenR sl41 rfl (by first | exact rdp | exact .arg huF | exact .arg hvF | exact .arg huNr | exact .arg hvNr | exact .arg (huNi _ (by omega)) | exact .arg (hvNi _ (by omega)))) ?_
          refine .mv rfl (.nt hK27 (.block ?_))
          refine AK.loopK (X := Nat) [(2, _), (3, _), (6, _), (58, _), (59, _), (80, _)] (fun j => [(81, .int .i64 (j : Int))]) (fun j => [box bx2 32 4 [.int .i64 a.L, .int .i64 a.s, uF, uN], box bx3 32 4 [.int .i64 b.L, .int .i64 b.s, vF, vN]]) (fun j => j ≤ (a.nx.getD k []).length ∧ (a.nx.getD k []).take j = (b.nx.getD k []).take j) (fun j => (a.nx.getD k []).length - j) (0) slr ?_ ?_ ?_ ?_
          ·exact ⟨Nat.zero_le _, by simp⟩
          ·exact slr
          ·exact fun w hw => hw
          ·intro j hg2 _ hK28
           obtain ⟨hj, ht3⟩ := hg2
           have hmr2 := hmr (by omega)
           refine .sr fun _ hK29 => ?_
           refine .v (.lss rfl rfl) ?_
           refine .nt hK29 ?_
           refine .seq fun _ hK30 => ?_
           refine AK.condD rfl (fun hc5 => ?_) (fun hc5 => ?_)
           ·refine .skip ?_
            refine AK.then_ (hK30 _ ?_)
            refine .seq fun _ hK31 => ?_
            refine .block ?_
            refine .sr fun _ hK32 => ?_
            refine .mv rfl (.as rfl (.nt hK32 ?_))
            refine .seq fun _ hK33 => ?_
            refine AK.quiet mixed krf ?_
            refine .v (.fieldAddr fd32_3 rfl) ?_
            refine .v (.loadBox on30 rfl bsp rfl) ?_
            refine .mv rfl ?_
            first | refine .v (.iN sl30 rfl rfl (hr := (by first | exact rdp | exact .arg huF | exact .arg hvF | exact .arg huNr | exact .arg hvNr | exact .arg (huNi _ (by omega)) | exact .arg (hvNi _ (by omega))))) ?_ | refine .v (.iK sl30 rfl rfl (hr := (by first | exact rdp | exact .arg huF | exact .arg hvF | exact .arg huNr | exact .arg hvNr | exact .arg (huNi _ (by omega)) | exact .arg (hvNi _ (by omega))))) ?_
            refine .v (.loadV on41 rfl (by first | exact rdp | exact .arg huF | exact .arg hvF | exact .arg huNr | exact .arg hvNr | exact .arg (huNi _ (by omega)) | exact .arg (hvNi _ (by omega))) (by omega)) ?_
            refine .mv rfl ?_
            first | refine .v (.iN sl41 rfl rfl (hr := (by first | exact rdp | exact .arg huF | exact .arg hvF | exact .arg huNr | exact .arg hvNr | exact .arg (huNi _ (by omega)) | exact .arg (hvNi _ (by omega))))) ?_ | refine .v (.iK sl41 rfl rfl (hr := (by first | exact rdp | exact .arg huF | exact .arg hvF | exact .arg huNr | exact .arg hvNr | exact .arg (huNi _ (by omega)) | exact .arg (hvNi _ (by omega))))) ?_
            refine .v (.loadI on3 rfl (by first | exact rdp | exact .arg huF | exact .arg hvF | exact .arg huNr | exact .arg hvNr | exact .arg (huNi _ (by omega)) | exact .arg (hvNi _ (by omega))) (by omega)) ?_
            refine .v (.fieldAddr fd32_3 rfl) ?_
            refine .v (.loadBox on30 rfl bsp rfl) ?_
            refine .mv rfl ?_
            first | refine .v (.iN sl30 rfl rfl (hr := (by first | exact rdp | exact .arg huF | exact .arg hvF | exact .arg huNr | exact .arg hvNr | exact .arg (huNi _ (by omega)) | exact .arg (hvNi _ (by omega))))) ?_ | refine .v (.iK sl30 rfl rfl (hr := (by first | exact rdp | exact .arg huF | exact .arg hvF | exact .arg huNr | exact .arg hvNr | exact .arg (huNi _ (by omega)) | exact .arg (hvNi _ (by omega))))) ?_
            refine .v (.loadV on41 rfl (by first | exact rdp | exact .arg huF | exact .arg hvF | exact .arg huNr | exact .arg hvNr | exact .arg (huNi _ (by omega)) | exact .arg (hvNi _ (by omega))) (by omega)) ?_
            refine .mv rfl ?_
            first | refine .v (.iN sl41 rfl rfl (hr := (by first | exact rdp | exact .arg huF | exact .arg hvF | exact .arg huNr | exact .arg hvNr | exact .arg (huNi _ (by omega)) | exact .arg (hvNi _ (by omega))))) ?_ | refine .v (.iK sl41 rfl rfl (hr := (by first | exact rdp | exact .arg huF | exact .arg hvF | exact .arg huNr | exact .arg hvNr | exact .arg (huNi _ (by omega)) | exact .arg (hvNi _ (by omega))))) ?_
            refine .v (.loadI on3 rfl (by first | exact rdp | exact .arg huF | exact .arg hvF | exact .arg huNr | exact .arg hvNr | exact .arg (huNi _ (by omega)) | exact .arg (hvNi _ (by omega))) (by omega)) ?_
            refine .v (.neq rfl rfl) ?_
            refine QK.nil (QK.fin ?_)
            refine AK.then_ (hK33 _ ?_)
            refine AK.condNe rfl (fun hc6 => ?_) (fun hc6 => ?_)
            ·refine .sr fun _ hK34 => ?_
             refine .as rfl (.nt hK34 (.ret (.block_ret (.then_ret (.then_ret (.block_ret (.block_ret (.then_ret (.then_ret (.block_ret (.then_ret ?_)))))))))))
             refine AK.ret1 rfl rfl (fun w hw => ⟨_, _, ?_, rfl, Ret.of (hw.pick [] (by decide) rfl rfl)⟩)
             refine ⟨congrArg Value.bool ?_, rfl⟩
             symm; rw [decide_eq_false_iff_not]; intro e; subst e
             omega
            ·refine .skip (.block_normal ?_)
             refine AK.then_ (hK31 _ ?_)
             refine AK.region ?_
             refine .v (.add rfl rfl (by omega)) ?_
             refine .mv rfl (.nil ?_)
             refine AK.then_ (hK28 _ _ (j + 1) ⟨by omega, (beq_takeD 0 (by omega) j (by omega) ht3).2 (by omega)⟩ (by omega) (slr) (fun w hw => hw))
           ·refine .exit (.then_exit (.then_exit (.block_exit (.block_normal ?_))))
            refine AK.then_ (hK22 _ ?_)
            refine AK.region ?_
            refine .v (.add rfl rfl (by omega)) ?_
            refine .mv rfl (.nil ?_)
            refine AK.then_ (hK19 _ _ (k + 1) ⟨by omega, (beq_takeD [] hlN k (by omega) ht2).2 (by have e : j = (a.nx.getD k []).length := (by omega); have h1 := ht3; rw [e, List.take_length] at h1; rw [h1]; rw [show (a.nx.getD k []).length = (b.nx.getD k []).length by omega, List.take_length])⟩ (by omega) (slr) (fun w hw => hw))
        ·refine .exit (.then_exit (.then_exit (.block_exit ?_)))
         refine AK.then_ (hK17 _ ?_)
         refine .sr fun _ hK35 => ?_
         refine .as rfl (.nt hK35 (.ret ?_))
         refine AK.ret1 rfl rfl (fun w hw => ⟨_, _, ?_, rfl, Ret.of (hw.pick [] (by decide) rfl rfl)⟩)
         refine ⟨congrArg Value.bool ?_, rfl⟩
         symm; rw [decide_eq_true_eq]
         rw [show k = a.nx.length by omega, List.take_length, hlN, List.take_length] at ht2
         have h3 := hFin
         obtain ⟨aL, aS, af, an⟩ := a
         obtain ⟨bL, bS, bf, bn⟩ := b
         simp only at hL hs h3 ht2
         subst hL hs h3 ht2; rfl


theorem beq_take {xs ys : List Int} (hl : xs.length = ys.length) (k : Nat) (hk : k < xs.length) (h : xs.take k = ys.take k) : xs.take (k + 1) = ys.take (k + 1) ↔ xs.getD k 0 = ys.getD k 0 := by
  rw [take_snocD 0 xs k hk, take_snocD 0 ys k (by omega), h]
  simp

theorem rd_nilD {w : World} : RdD (fun _ => False) w (.agg #[.int .i64 0, .int .i64 0, .slice none 0 0, .slice none 0 0]) nilD :=
  ⟨_, _, rfl, ⟨none, 0, rfl, by simp [nilD, maxLen], rfl, fun h => by simp [nilD] at h, fun a j u ha => by cases ha⟩, ⟨[], rfl, ⟨none, 0, rfl, by simp [nilD, maxLen], rfl, fun h => by simp [nilD] at h, fun a j u ha => by cases ha⟩, fun i hi => by simp [nilD] at hi⟩⟩
end Go.Proofs.YtckicbgffhbacaaDoor
