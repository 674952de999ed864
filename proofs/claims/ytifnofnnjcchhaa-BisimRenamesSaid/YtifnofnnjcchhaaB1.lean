import Derived.Test.YtifnofnnjcchhaaD2
import Derived.Test.YtifnofnnjcchhaaBP
set_option linter.unusedVariables false
set_option linter.unusedSimpArgs false
namespace Go.Proofs.Ytifnofnnjcchhaa
open Go.Sx Go.RowKit
set_option maxRecDepth 100000 in
theorem s_by (w : World) (op : Int) (p q : Bool) (ho : 0 ≤ op ∧ op ≤ 15) : CallS Try.prog 40 [.int .i64 op, .bool p, .bool q] w (fun r o => r = .bool (byB op p q) ∧ o = []) := by
 refine spec_of Try.func40 rfl (Nat.le_of_ble_eq_true rfl) ?_
 refine .sr fun _ hK1 => ?_
 refine .as rfl (.nt hK1 ?_)
 refine .sr fun _ hK2 => ?_
 refine .as rfl (.nt hK2 ?_)
 refine .seq fun _ hK3 => ?_
 refine .sr fun _ hK4 => ?_
 refine .mv rfl (.nt hK4 ?_)
 refine AK.cond rfl (fun hc0 => ?_) (fun hc0 => ?_)
 ·try simp only [bs] at hc0
  refine AK.region ?_
  refine .as rfl (.nt hK3 ?_)
  refine .seq fun _ hK5 => ?_
  refine .sr fun _ hK6 => ?_
  refine .mv rfl (.nt hK6 ?_)
  refine AK.cond rfl (fun hc1 => ?_) (fun hc1 => ?_)
  ·try simp only [bs] at hc1
   refine AK.region ?_
   refine .mv rfl ?_
   refine .v (.add rfl rfl (by omega)) ?_
   refine .as rfl (.nt hK5 ?_)
   refine .sr fun _ hK7 => ?_
   refine .mv rfl (.mv rfl ?_)
   refine .v (.convI (by kernel_rfl) un85 rfl (wrap_u64 (by omega))) ?_
   refine .v (.shr rfl rfl (by omega) (by omega)) ?_
   refine .v (.and1 rfl rfl (div_bd ho _)) ?_
   refine .v (.eql rfl rfl) ?_
   refine .as rfl (.nt hK7 (.ret ?_))
   refine AK.ret1 rfl rfl (fun w hw => ⟨_, _, ?_, rfl, Ret.of (hw.pick [] (by decide) rfl rfl)⟩)
   refine ⟨congrArg Value.bool ?_, rfl⟩
   unfold byB; rw [hc0, hc1]; rfl
  ·try simp only [bs] at hc1
   refine .skip ?_
   refine AK.then_ (hK5 _ ?_)
   refine .sr fun _ hK8 => ?_
   refine .mv rfl (.mv rfl ?_)
   refine .v (.convI (by kernel_rfl) un85 rfl (wrap_u64 (by omega))) ?_
   refine .v (.shr rfl rfl (by omega) (by omega)) ?_
   refine .v (.and1 rfl rfl (div_bd ho _)) ?_
   refine .v (.eql rfl rfl) ?_
   refine .as rfl (.nt hK8 (.ret ?_))
   refine AK.ret1 rfl rfl (fun w hw => ⟨_, _, ?_, rfl, Ret.of (hw.pick [] (by decide) rfl rfl)⟩)
   refine ⟨congrArg Value.bool ?_, rfl⟩
   unfold byB; rw [hc0, hc1]; rfl
 ·try simp only [bs] at hc0
  refine .skip ?_
  refine AK.then_ (hK3 _ ?_)
  refine .seq fun _ hK9 => ?_
  refine .sr fun _ hK10 => ?_
  refine .mv rfl (.nt hK10 ?_)
  refine AK.cond rfl (fun hc1 => ?_) (fun hc1 => ?_)
  ·try simp only [bs] at hc1
   refine AK.region ?_
   refine .mv rfl ?_
   refine .v (.add rfl rfl (by omega)) ?_
   refine .as rfl (.nt hK9 ?_)
   refine .sr fun _ hK11 => ?_
   refine .mv rfl (.mv rfl ?_)
   refine .v (.convI (by kernel_rfl) un85 rfl (wrap_u64 (by omega))) ?_
   refine .v (.shr rfl rfl (by omega) (by omega)) ?_
   refine .v (.and1 rfl rfl (div_bd ho _)) ?_
   refine .v (.eql rfl rfl) ?_
   refine .as rfl (.nt hK11 (.ret ?_))
   refine AK.ret1 rfl rfl (fun w hw => ⟨_, _, ?_, rfl, Ret.of (hw.pick [] (by decide) rfl rfl)⟩)
   refine ⟨congrArg Value.bool ?_, rfl⟩
   unfold byB; rw [hc0, hc1]; rfl
  ·try simp only [bs] at hc1
   refine .skip ?_
   refine AK.then_ (hK9 _ ?_)
   refine .sr fun _ hK12 => ?_
   refine .mv rfl (.mv rfl ?_)
   refine .v (.convI (by kernel_rfl) un85 rfl (wrap_u64 (by omega))) ?_
   refine .v (.shr rfl rfl (by omega) (by omega)) ?_
   refine .v (.and1 rfl rfl (div_bd ho _)) ?_
   refine .v (.eql rfl rfl) ?_
   refine .as rfl (.nt hK12 (.ret ?_))
   refine AK.ret1 rfl rfl (fun w hw => ⟨_, _, ?_, rfl, Ret.of (hw.pick [] (by decide) rfl rfl)⟩)
   refine ⟨congrArg Value.bool ?_, rfl⟩
   unfold byB; rw [hc0, hc1]; rfl

set_option maxRecDepth 100000 in
theorem s_refpair (w : World) (u v : Value) (a b : Dfa) (hu : RdD (fun _ => False) w u a) (hv : RdD (fun _ => False) w v b) : CallS Try.prog 14 [u, v] w (fun r o => r = .int .i64 (pairE a b) ∧ o = []) := by
 have hu0 := hu
 have hv0 := hv
 obtain ⟨aF, aN, rfl, haF, haN⟩ := hu
 obtain ⟨bF, bN, rfl, hbF, hbN⟩ := hv
 have haF0 := haF
 have hbF0 := hbF
 have haN0 := haN
 have hbN0 := hbN
 obtain ⟨ra, hra, haNr, haNi⟩ := haN
 obtain ⟨rb, hrb, hbNr, hbNi⟩ := hbN
 unfold RdL at haF hbF
 have m1 := haF.le
 have m2 := hbF.le
 refine spec_of Try.func14 rfl (Nat.le_of_ble_eq_true rfl) ?_
 refine .sr fun _ hK1 => ?_
 refine AK.box_ (E := 25) (cs := [.int .i64 a.L, .int .i64 a.s, aF, aN]) rfl rfl rfl trivial rfl (fun bx2 => ?_)
 refine AK.box_ (E := 25) (cs := [.int .i64 b.L, .int .i64 b.s, bF, bN]) rfl rfl rfl trivial rfl (fun bx3 => ?_)
 refine .as rfl (.nt hK1 ?_)
 refine .seq fun _ hK2 => ?_
 refine .sr fun _ hK3 => ?_
 refine .v (.loadBoxG ag25 rfl bsp rfl rfl) ?_
 refine AK.call co26 rfl (fun w hw => s_refvalidate w _ a (hu0.at hw)) trivial rfl ?_
 rintro r o ⟨rfl, rfl⟩
 refine .as rfl (.nt hK3 ?_)
 refine .sr fun _ hK4 => ?_
 refine .mv rfl ?_
 refine .v (.neq rfl rfl) ?_
 refine .nt hK4 ?_
 refine AK.condNe rfl (fun hc0 => ?_) (fun hc0 => ?_)
 ·refine .sr fun _ hK5 => ?_
  refine .mv rfl (.as rfl (.nt hK5 (.ret (.then_ret ?_))))
  refine AK.ret1 rfl rfl (fun w hw => ⟨_, _, ?_, rfl, Ret.of (hw.pick [] (by decide) rfl rfl)⟩)
  refine ⟨congrArg (Value.int .i64) ?_, rfl⟩
  unfold pairE
  rw [if_pos hc0]
 ·refine .skip ?_
  refine AK.then_ (hK2 _ ?_)
  refine .seq fun _ hK6 => ?_
  refine .sr fun _ hK7 => ?_
  refine .v (.loadBoxG ag25 rfl bsp rfl rfl) ?_
  refine AK.call co26 rfl (fun w hw => s_refvalidate w _ b (hv0.at hw)) trivial rfl ?_
  rintro r o ⟨rfl, rfl⟩
  refine .as rfl (.nt hK7 ?_)
  refine .sr fun _ hK8 => ?_
  refine .mv rfl ?_
  refine .v (.neq rfl rfl) ?_
  refine .nt hK8 ?_
  refine AK.condNe rfl (fun hc1 => ?_) (fun hc1 => ?_)
  ·refine .sr fun _ hK9 => ?_
   refine .mv rfl (.as rfl (.nt hK9 (.ret (.then_ret ?_))))
   refine AK.ret1 rfl rfl (fun w hw => ⟨_, _, ?_, rfl, Ret.of (hw.pick [] (by decide) rfl rfl)⟩)
   refine ⟨congrArg (Value.int .i64) ?_, rfl⟩
   unfold pairE
   rw [if_neg (by omega), if_pos hc1]
  ·refine .skip ?_
   refine AK.then_ (hK6 _ ?_)
   refine .seq fun _ hK10 => ?_
   refine .sr fun _ hK11 => ?_
   refine .v (.fieldAddr fd25_0 rfl) ?_
   refine .v (.loadBox on3 rfl bsp rfl) ?_
   refine .v (.fieldAddr fd25_0 rfl) ?_
   refine .v (.loadBox on3 rfl bsp rfl) ?_
   refine .v (.neq rfl rfl) ?_
   refine .nt hK11 ?_
   refine AK.condNe rfl (fun hc2 => ?_) (fun hc2 => ?_)
   ·refine .sr fun _ hK12 => ?_
    refine .as rfl (.nt hK12 (.ret (.then_ret ?_)))
    refine AK.ret1 rfl rfl (fun w hw => ⟨_, _, ?_, rfl, Ret.of (hw.pick [] (by decide) rfl rfl)⟩)
    refine ⟨congrArg (Value.int .i64) ?_, rfl⟩
    unfold pairE
    rw [if_neg (by omega), if_neg (by omega), if_pos hc2]
   ·refine .skip ?_
    refine AK.then_ (hK10 _ ?_)
    refine .sr fun _ hK13 => ?_
    refine .as rfl (.nt hK13 (.ret ?_))
    refine AK.ret1 rfl rfl (fun w hw => ⟨_, _, ?_, rfl, Ret.of (hw.pick [] (by decide) rfl rfl)⟩)
    refine ⟨congrArg (Value.int .i64) ?_, rfl⟩
    unfold pairE
    rw [if_neg (by omega), if_neg (by omega), if_neg (by omega)]

set_option maxRecDepth 100000 in
theorem s_bvalid (w : World) (u v : Value) (a b : Dfa) (hu : RdD (fun _ => False) w u a) (hv : RdD (fun _ => False) w v b) : CallS Try.prog 35 [u, v] w (fun r o => r = .int .i64 (pairE a b) ∧ o = []) := by
 have hu0 := hu
 have hv0 := hv
 obtain ⟨aF, aN, rfl, haF, haN⟩ := hu
 obtain ⟨bF, bN, rfl, hbF, hbN⟩ := hv
 have haF0 := haF
 have hbF0 := hbF
 have haN0 := haN
 have hbN0 := hbN
 obtain ⟨ra, hra, haNr, haNi⟩ := haN
 obtain ⟨rb, hrb, hbNr, hbNi⟩ := hbN
 unfold RdL at haF hbF
 have m1 := haF.le
 have m2 := hbF.le
 refine spec_of Try.func35 rfl (Nat.le_of_ble_eq_true rfl) ?_
 refine .sr fun _ hK1 => ?_
 refine AK.box_ (E := 25) (cs := [.int .i64 a.L, .int .i64 a.s, aF, aN]) rfl rfl rfl trivial rfl (fun bx2 => ?_)
 refine AK.box_ (E := 25) (cs := [.int .i64 b.L, .int .i64 b.s, bF, bN]) rfl rfl rfl trivial rfl (fun bx3 => ?_)
 refine .as rfl (.nt hK1 ?_)
 refine .seq fun _ hK2 => ?_
 refine .sr fun _ hK3 => ?_
 refine .v (.loadBoxG ag25 rfl bsp rfl rfl) ?_
 refine AK.call co52 rfl (fun w hw => s_validate w _ a (hu0.at hw)) trivial rfl ?_
 rintro r o ⟨rfl, rfl⟩
 refine .as rfl (.nt hK3 ?_)
 refine .sr fun _ hK4 => ?_
 refine .mv rfl ?_
 refine .v (.neq rfl rfl) ?_
 refine .nt hK4 ?_
 refine AK.condNe rfl (fun hc0 => ?_) (fun hc0 => ?_)
 ·refine .sr fun _ hK5 => ?_
  refine .mv rfl (.as rfl (.nt hK5 (.ret (.then_ret ?_))))
  refine AK.ret1 rfl rfl (fun w hw => ⟨_, _, ?_, rfl, Ret.of (hw.pick [] (by decide) rfl rfl)⟩)
  refine ⟨congrArg (Value.int .i64) ?_, rfl⟩
  unfold pairE
  rw [if_pos hc0]
 ·refine .skip ?_
  refine AK.then_ (hK2 _ ?_)
  refine .seq fun _ hK6 => ?_
  refine .sr fun _ hK7 => ?_
  refine .v (.loadBoxG ag25 rfl bsp rfl rfl) ?_
  refine AK.call co52 rfl (fun w hw => s_validate w _ b (hv0.at hw)) trivial rfl ?_
  rintro r o ⟨rfl, rfl⟩
  refine .as rfl (.nt hK7 ?_)
  refine .sr fun _ hK8 => ?_
  refine .mv rfl ?_
  refine .v (.neq rfl rfl) ?_
  refine .nt hK8 ?_
  refine AK.condNe rfl (fun hc1 => ?_) (fun hc1 => ?_)
  ·refine .sr fun _ hK9 => ?_
   refine .mv rfl (.as rfl (.nt hK9 (.ret (.then_ret ?_))))
   refine AK.ret1 rfl rfl (fun w hw => ⟨_, _, ?_, rfl, Ret.of (hw.pick [] (by decide) rfl rfl)⟩)
   refine ⟨congrArg (Value.int .i64) ?_, rfl⟩
   unfold pairE
   rw [if_neg (by omega), if_pos hc1]
  ·refine .skip ?_
   refine AK.then_ (hK6 _ ?_)
   refine .seq fun _ hK10 => ?_
   refine .sr fun _ hK11 => ?_
   refine .v (.fieldAddr fd25_0 rfl) ?_
   refine .v (.loadBox on3 rfl bsp rfl) ?_
   refine .v (.fieldAddr fd25_0 rfl) ?_
   refine .v (.loadBox on3 rfl bsp rfl) ?_
   refine .v (.neq rfl rfl) ?_
   refine .nt hK11 ?_
   refine AK.condNe rfl (fun hc2 => ?_) (fun hc2 => ?_)
   ·refine .sr fun _ hK12 => ?_
    refine .as rfl (.nt hK12 (.ret (.then_ret ?_)))
    refine AK.ret1 rfl rfl (fun w hw => ⟨_, _, ?_, rfl, Ret.of (hw.pick [] (by decide) rfl rfl)⟩)
    refine ⟨congrArg (Value.int .i64) ?_, rfl⟩
    unfold pairE
    rw [if_neg (by omega), if_neg (by omega), if_pos hc2]
   ·refine .skip ?_
    refine AK.then_ (hK10 _ ?_)
    refine .sr fun _ hK13 => ?_
    refine .as rfl (.nt hK13 (.ret ?_))
    refine AK.ret1 rfl rfl (fun w hw => ⟨_, _, ?_, rfl, Ret.of (hw.pick [] (by decide) rfl rfl)⟩)
    refine ⟨congrArg (Value.int .i64) ?_, rfl⟩
    unfold pairE
    rw [if_neg (by omega), if_neg (by omega), if_neg (by omega)]

set_option maxRecDepth 100000 in
theorem s_find1 (w : World) (p q : Int) (b2 b3 : Nat) (a b : Dfa) (aF aN bF bN : Value) (h2 : BxA w b2 [.int .i64 a.L, .int .i64 a.s, aF, aN]) (h3 : BxA w b3 [.int .i64 b.L, .int .i64 b.s, bF, bN]) (haF0 : RdL (fun _ => False) Value.bool w aF a.fin) (hbF0 : RdL (fun _ => False) Value.bool w bF b.fin) (hp : InR a p) (hq : InR b q) : CallS Try.prog 38 [.int .i64 p, .int .i64 q, .pointer (some ⟨b2, 0, none⟩), .pointer (some ⟨b3, 0, none⟩)] w (fun r o => r = .bool (finQ a p != finQ b q) ∧ o = []) := by
 have haF := haF0
 have hbF := hbF0
 unfold RdL at haF hbF
 have hp1 := hp.1
 have hp2 := hp.2
 have hq1 := hq.1
 have hq2 := hq.2
 refine spec_of Try.func38 rfl (Nat.le_of_ble_eq_true rfl) ?_
 refine .sr fun _ hK1 => ?_
 refine .as rfl (.nt hK1 ?_)
 refine .seq fun _ hK2 => ?_
 refine AK.quiet mixed krf ?_
 refine .v (.fieldAddr fd25_2 rfl) ?_
 refine .v (.loadBox on22 rfl bsp rfl) ?_
 refine .mv rfl ?_
 first | refine .v (.iN sl22 rfl rfl) ?_ | refine .v (.iK sl22 rfl rfl) ?_
 refine .v (.loadB on4 rfl rdp (by omega)) ?_
 refine .v (.fieldAddr fd25_2 rfl) ?_
 refine .v (.loadBox on22 rfl bsp rfl) ?_
 refine .mv rfl ?_
 first | refine .v (.iN sl22 rfl rfl) ?_ | refine .v (.iK sl22 rfl rfl) ?_
 refine .v (.loadB on4 rfl rdp (by omega)) ?_
 refine .v (.neqB bo4 rfl rfl) ?_
 refine .as rfl ?_
 refine QK.nil (QK.fin ?_)
 refine AK.then_ (hK2 _ ?_)
 refine .ret ?_
 refine AK.ret1 rfl rfl (fun w hw => ⟨_, _, ?_, rfl, Ret.of (hw.pick [] (by decide) rfl rfl)⟩)
 exact ⟨rfl, rfl⟩

set_option maxRecDepth 100000 in
theorem s_incl1 (w : World) (p q : Int) (b2 b3 : Nat) (a b : Dfa) (aF aN bF bN : Value) (h2 : BxA w b2 [.int .i64 a.L, .int .i64 a.s, aF, aN]) (h3 : BxA w b3 [.int .i64 b.L, .int .i64 b.s, bF, bN]) (haF0 : RdL (fun _ => False) Value.bool w aF a.fin) (hbF0 : RdL (fun _ => False) Value.bool w bF b.fin) (hp : InR a p) (hq : InR b q) : CallS Try.prog 44 [.int .i64 p, .int .i64 q, .pointer (some ⟨b2, 0, none⟩), .pointer (some ⟨b3, 0, none⟩)] w (fun r o => r = .bool (finQ a p && !finQ b q) ∧ o = []) := by
 have haF := haF0
 have hbF := hbF0
 unfold RdL at haF hbF
 have hp1 := hp.1
 have hp2 := hp.2
 have hq1 := hq.1
 have hq2 := hq.2
 refine spec_of Try.func44 rfl (Nat.le_of_ble_eq_true rfl) ?_
 refine .sr fun _ hK1 => ?_
 refine .as rfl (.nt hK1 ?_)
 refine .sr fun _ hK2 => ?_
 refine .v (.fieldAddr fd25_2 rfl) ?_
 refine .v (.loadBox on22 rfl bsp rfl) ?_
 refine .mv rfl ?_
 first | refine .v (.iN sl22 rfl rfl) ?_ | refine .v (.iK sl22 rfl rfl) ?_
 refine .v (.loadB on4 rfl rdp (by omega)) ?_
 refine .mv rfl ?_
 refine AK.splitB (g := 12) rfl (fun hg_1_5 => ?_) (fun hg_1_5 => ?_)
 ·have hg_1_5' := hg_1_5
  try simp only [bs] at hg_1_5'
  refine AK.val _ (Yl.fieldAddr fd25_2 rfl) ⟨_, rfl, congrArg (fun b => some (Value.bool b)) hg_1_5⟩ rfl ?_
  refine AK.val _ (Yl.loadBox on22 rfl bsp rfl) ⟨_, rfl, congrArg (fun b => some (Value.bool b)) hg_1_5⟩ rfl ?_
  refine AK.val _ (Yl.move rfl) ⟨_, rfl, congrArg (fun b => some (Value.bool b)) hg_1_5⟩ rfl ?_
  first | refine AK.val _ (.iN sl22 rfl rfl) ⟨_, rfl, congrArg (fun b => some (Value.bool b)) hg_1_5⟩ rfl ?_ | refine AK.val _ (.iK sl22 rfl rfl) ⟨_, rfl, congrArg (fun b => some (Value.bool b)) hg_1_5⟩ rfl ?_
  refine AK.val _ (Yl.loadB on4 rfl rdp (by omega)) ⟨_, rfl, congrArg (fun b => some (Value.bool b)) hg_1_5⟩ rfl ?_
  refine AK.val _ (Yl.not rfl) ⟨_, rfl, congrArg (fun b => some (Value.bool b)) hg_1_5⟩ rfl ?_
  refine .v (.pickT rfl (hg_1_5) rfl) ?_
  refine .as rfl (.nt hK2 (.ret ?_))
  refine AK.ret1 rfl rfl (fun w hw => ⟨_, _, ?_, rfl, Ret.of (hw.pick [] (by decide) rfl rfl)⟩)
  refine ⟨congrArg Value.bool ?_, rfl⟩
  unfold finQ
  simp_all
 ·have hg_1_5' := hg_1_5
  try simp only [bs] at hg_1_5'
  refine AK.pass rfl rfl (hg_1_5) rfl ?_
  refine AK.pass rfl rfl (hg_1_5) rfl ?_
  refine AK.pass rfl rfl (hg_1_5) rfl ?_
  refine AK.pass rfl rfl (hg_1_5) rfl ?_
  refine AK.pass rfl rfl (hg_1_5) rfl ?_
  refine AK.pass rfl rfl (hg_1_5) rfl ?_
  refine .v (.pickF rfl (hg_1_5) rfl) ?_
  refine .as rfl (.nt hK2 (.ret ?_))
  refine AK.ret1 rfl rfl (fun w hw => ⟨_, _, ?_, rfl, Ret.of (hw.pick [] (by decide) rfl rfl)⟩)
  refine ⟨congrArg Value.bool ?_, rfl⟩
  unfold finQ
  simp_all

end Go.Proofs.Ytifnofnnjcchhaa
