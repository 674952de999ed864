import Derived.Test.YtifnofnnjcchhaaB5
import Derived.Test.YtifnofnnjcchhaaB3
import Derived.Test.YtifnofnnjcchhaaB8
set_option linter.unusedVariables false
set_option linter.unusedSimpArgs false
namespace Go.Proofs.Ytifnofnnjcchhaa
open Go.Sx Go.RowKit Go.Sx.Pt
set_option maxHeartbeats 1000000 in
set_option maxRecDepth 100000 in
theorem l_finds (w : World) (u v : Value) (a b : Dfa) (hu : RdD (fun _ => False) w u a) (hv : RdD (fun _ => False) w v b) : CallS Try.prog 3 [u, v] w (fun r o => r = .bool true ∧ o = []) := by
 have hu0 := hu
 obtain ⟨aF, aN, rfl, haF, haN⟩ := hu
 have haF0 := haF
 unfold RdL at haF
 have m1 := haF.le
 have hv0 := hv
 obtain ⟨bF, bN, rfl, hbF, hbN⟩ := hv
 have hbF0 := hbF
 unfold RdL at hbF
 have m2 := hbF.le
 refine spec_of Try.func3 rfl (Nat.le_of_ble_eq_true rfl) ?_
 refine .sr fun _ hK1 => ?_
 refine AK.box_ (E := 25) (cs := [.int .i64 a.L, .int .i64 a.s, aF, aN]) rfl rfl rfl trivial rfl (fun bx2 => ?_)
 refine AK.box_ (E := 25) (cs := [.int .i64 b.L, .int .i64 b.s, bF, bN]) rfl rfl rfl trivial rfl (fun bx3 => ?_)
 refine .as rfl (.nt hK1 ?_)
 refine .sr fun _ hK2 => ?_
 refine .v (.loadBoxG ag25 rfl bsp rfl rfl) ?_
 refine .v (.loadBoxG ag25 rfl bsp rfl rfl) ?_
 refine AK.call co13 rfl (fun w hw => s_find w _ _ a b (hu0.at hw) (hv0.at hw)) trivial rfl ?_
 rintro r o ⟨pv, rfl, spv, rfl⟩
 refine .mv rfl ?_
 refine .v (.extract rfl rfl) ?_
 refine .v (.extract rfl rfl) ?_
 refine .v (.extract rfl rfl) ?_
 refine .v (.extract rfl rfl) ?_
 refine .as rfl (.as rfl (.as rfl (.as rfl (.nt hK2 ?_))))
 refine .seq fun _ hK3 => ?_
 refine .sr fun _ hK4 => ?_
 refine .v (.loadBoxG ag25 rfl bsp rfl rfl) ?_
 refine .v (.loadBoxG ag25 rfl bsp rfl rfl) ?_
 refine AK.call co14 rfl (fun w hw => s_refpair w _ _ a b (hu0.at hw) (hv0.at hw)) trivial rfl ?_
 rintro r o ⟨rfl, rfl⟩
 refine .as rfl (.nt hK4 ?_)
 refine .sr fun _ hK5 => ?_
 refine .mv rfl ?_
 refine .v (.neq rfl rfl) ?_
 refine .nt hK5 ?_
 refine AK.condNe rfl (fun hc0 => ?_) (fun hc0 => ?_)
 ·have hE : pairE a b ≠ 0 := by omega
  obtain ⟨e1, e2, e3⟩ := find_bad hE
  refine .sr fun _ hK6 => ?_
  refine .mv rfl (.mv rfl ?_)
  refine .v (.eql rfl rfl) ?_
  refine .mv rfl ?_
  refine AK.knownT (g := 28) rfl (decide_eq_true rfl) (fun hg_4_3 => ?_)
  refine AK.val _ (Yl.move rfl) ⟨_, rfl, congrArg (fun b => some (Value.bool b)) hg_4_3⟩ rfl ?_
  refine AK.val _ (Yl.lenR sl26 rfl rdp) ⟨_, rfl, congrArg (fun b => some (Value.bool b)) hg_4_3⟩ rfl ?_
  refine AK.val _ (Yl.eql rfl rfl) ⟨_, rfl, congrArg (fun b => some (Value.bool b)) hg_4_3⟩ rfl ?_
  refine .v (.pickT rfl (hg_4_3) rfl) ?_
  refine .mv rfl ?_
  refine AK.knownT (g := 33) rfl (decide_eq_true (by rw [e3]; rfl)) (fun hg_4_8 => ?_)
  refine AK.val _ (Yl.move rfl) ⟨_, rfl, congrArg (fun b => some (Value.bool b)) hg_4_8⟩ rfl ?_
  refine AK.val _ (Yl.eqlS un9 rfl rfl) ⟨_, rfl, congrArg (fun b => some (Value.bool b)) hg_4_8⟩ rfl ?_
  refine .v (.pickT rfl (hg_4_8) rfl) ?_
  refine .mv rfl ?_
  refine AK.knownT (g := 37) rfl (by rw [e2]; rfl) (fun hg_4_12 => ?_)
  refine AK.val _ (Yl.move rfl) ⟨_, rfl, congrArg (fun b => some (Value.bool b)) hg_4_12⟩ rfl ?_
  refine AK.val _ (Yl.not rfl) ⟨_, rfl, congrArg (fun b => some (Value.bool b)) hg_4_12⟩ rfl ?_
  refine .v (.pickT rfl (hg_4_12) rfl) ?_
  refine .mv rfl ?_
  refine AK.knownT (g := 41) rfl (by rw [e1]; rfl) (fun hg_4_16 => ?_)
  refine AK.call co15 rfl (fun w hw => s_awake w) ⟨_, rfl, congrArg (fun b => some (Value.bool b)) hg_4_16⟩ rfl ?_
  rintro r o ⟨rfl, rfl⟩
  refine .v (.pickT rfl (hg_4_16) rfl) ?_
  refine .as rfl (.nt hK6 (.ret (.then_ret ?_)))
  refine AK.ret1 rfl rfl (fun w hw => ⟨_, _, ?_, rfl, Ret.of (hw.pick [] (by decide) rfl rfl)⟩)
  exact ⟨rfl, rfl⟩
 ·have hE : pairE a b = 0 := by omega
  obtain ⟨ha, hb, hL⟩ := pairE_zero hE
  obtain ⟨e1, e2⟩ := find_ok hE
  have hna := ha.n
  have hnb := hb.n
  refine .skip ?_
  refine AK.then_ (hK3 _ ?_)
  refine .seq fun _ hK7 => ?_
  refine .sr fun _ hK8 => ?_
  refine .v (.fieldAddr fd25_2 rfl) ?_
  refine .v (.loadBox on22 rfl bsp rfl) ?_
  refine .v (.lenR sl22 rfl rdp) ?_
  refine .v (.gtr rfl rfl) ?_
  refine .mv rfl ?_
  refine AK.splitB (g := 48) rfl (fun hg_5_4 => ?_) (fun hg_5_4 => ?_)
  ·have hg_5_4' := hg_5_4
   try simp only [bs] at hg_5_4'
   refine AK.pass rfl rfl (hg_5_4) rfl ?_
   refine AK.pass rfl rfl (hg_5_4) rfl ?_
   refine AK.pass rfl rfl (hg_5_4) rfl ?_
   refine AK.pass rfl rfl (hg_5_4) rfl ?_
   refine .v (.pickT rfl (hg_5_4) rfl) ?_
   refine .nt hK8 ?_
   refine AK.cond_t rfl (rfl) ?_
   refine .sr fun _ hK9 => ?_
   refine AK.call co15 rfl (fun w hw => s_awake w) trivial rfl ?_
   rintro r o ⟨rfl, rfl⟩
   refine .as rfl (.nt hK9 (.ret (.then_ret ?_)))
   refine AK.ret1 rfl rfl (fun w hw => ⟨_, _, ?_, rfl, Ret.of (hw.pick [] (by decide) rfl rfl)⟩)
   exact ⟨rfl, rfl⟩
  ·have hg_5_4' := hg_5_4
   try simp only [bs] at hg_5_4'
   refine AK.val _ (Yl.fieldAddr fd25_2 rfl) ⟨_, rfl, congrArg (fun b => some (Value.bool b)) hg_5_4⟩ rfl ?_
   refine AK.val _ (Yl.loadBox on22 rfl bsp rfl) ⟨_, rfl, congrArg (fun b => some (Value.bool b)) hg_5_4⟩ rfl ?_
   refine AK.val _ (Yl.lenR sl22 rfl rdp) ⟨_, rfl, congrArg (fun b => some (Value.bool b)) hg_5_4⟩ rfl ?_
   refine AK.val _ (Yl.gtr rfl rfl) ⟨_, rfl, congrArg (fun b => some (Value.bool b)) hg_5_4⟩ rfl ?_
   refine .v (.pickF rfl (hg_5_4) rfl) ?_
   refine .nt hK8 ?_
   refine AK.condD rfl (fun hc1 => ?_) (fun hc1 => ?_)
   ·refine .sr fun _ hK10 => ?_
    refine AK.call co15 rfl (fun w hw => s_awake w) trivial rfl ?_
    rintro r o ⟨rfl, rfl⟩
    refine .as rfl (.nt hK10 (.ret (.then_ret ?_)))
    refine AK.ret1 rfl rfl (fun w hw => ⟨_, _, ?_, rfl, Ret.of (hw.pick [] (by decide) rfl rfl)⟩)
    exact ⟨rfl, rfl⟩
   ·refine .skip ?_
    refine AK.then_ (hK7 _ ?_)
    refine .sr fun _ hK11 => ?_
    refine .v (.loadBoxG ag25 rfl bsp rfl rfl) ?_
    refine .v (.loadBoxG ag25 rfl bsp rfl rfl) ?_
    refine AK.call co16 rfl (fun w hw => s_refdiff w _ _ a b (hu0.at hw) (hv0.at hw) ha hb hL 6 (by decide)) trivial rfl ?_
    rintro r o ⟨rfl, rfl⟩
    refine .mv rfl ?_
    refine .v (.extract rfl rfl) ?_
    refine .v (.extract rfl rfl) ?_
    refine .as rfl (.as rfl (.nt hK11 ?_))
    refine .seq fun _ hK12 => ?_
    refine .sr fun _ hK13 => ?_
    refine .mv rfl ?_
    refine .v (.neq rfl rfl) ?_
    refine .mv rfl ?_
    refine AK.knownF (g := 63) rfl (decide_eq_false (fun h => h hE)) (fun hg_8_2 => ?_)
    refine AK.val _ (Yl.move rfl) ⟨_, rfl, congrArg (fun b => some (Value.bool b)) hg_8_2⟩ rfl ?_
    refine AK.val _ (Yl.move rfl) ⟨_, rfl, congrArg (fun b => some (Value.bool b)) hg_8_2⟩ rfl ?_
    refine AK.val _ (Yl.eqlB bo4 rfl rfl) ⟨_, rfl, congrArg (fun b => some (Value.bool b)) hg_8_2⟩ rfl ?_
    refine .v (.pickF rfl (hg_8_2) rfl) ?_
    refine .mv rfl ?_
    refine AK.knownF (g := 68) rfl (by rw [e1]; show ((!(DifD a b 6).2) == (DifD a b 6).2) = false; cases (DifD a b 6).2 <;> rfl) (fun hg_8_7 => ?_)
    refine AK.val _ (Yl.move rfl) ⟨_, rfl, congrArg (fun b => some (Value.bool b)) hg_8_7⟩ rfl ?_
    refine AK.val _ (Yl.move rfl) ⟨_, rfl, congrArg (fun b => some (Value.bool b)) hg_8_7⟩ rfl ?_
    refine AK.val _ (Yl.neqS un9 rfl rfl) ⟨_, rfl, congrArg (fun b => some (Value.bool b)) hg_8_7⟩ rfl ?_
    refine .v (.pickF rfl (hg_8_7) rfl) ?_
    refine .nt hK13 ?_
    refine AK.cond_f rfl (decide_eq_false (fun h => h e2)) ?_
    refine .skip ?_
    refine AK.then_ (hK12 _ ?_)
    refine .seq fun _ hK14 => ?_
    refine .sr fun _ hK15 => ?_
    refine .mv rfl (.nt hK15 ?_)
    refine AK.cond rfl (fun hc3 => ?_) (fun hc3 => ?_)
    ·try simp only [bs] at hc3
     have hD : (DifD a b 6).2 = true := hc3
     have hfp : FindP a b = [] := if_neg (by rw [e1, hD]; decide)
     refine .sr fun _ hK16 => ?_
     refine .mv rfl ?_
     refine .v (.lenR sl26 rfl rdp) ?_
     refine .v (.eql rfl rfl) ?_
     refine .mv rfl ?_
     refine AK.knownT (g := 77) rfl (decide_eq_true (by rw [hfp]; rfl)) (fun hg_11_3 => ?_)
     refine AK.call co15 rfl (fun w hw => s_awake w) ⟨_, rfl, congrArg (fun b => some (Value.bool b)) hg_11_3⟩ rfl ?_
     rintro r o ⟨rfl, rfl⟩
     refine .v (.pickT rfl (hg_11_3) rfl) ?_
     refine .as rfl (.nt hK16 (.ret (.then_ret ?_)))
     refine AK.ret1 rfl rfl (fun w hw => ⟨_, _, ?_, rfl, Ret.of (hw.pick [] (by decide) rfl rfl)⟩)
     exact ⟨rfl, rfl⟩
    ·try simp only [bs] at hc3
     have hD : (DifD a b 6).2 = false := hc3
     have hfl : FindP a b = leastL a b := if_pos (by rw [e1, hD]; decide)
     refine .skip ?_
     refine AK.then_ (hK14 _ ?_)
     refine .sr fun _ hK17 => ?_
     refine .mv rfl ?_
     refine .v (.loadBoxG ag25 rfl bsp rfl rfl) ?_
     refine .v (.loadBoxG ag25 rfl bsp rfl rfl) ?_
     refine AK.call co18 rfl (fun w hw => s_least w _ _ a b (hu0.at hw) (hv0.at hw) ha hb hL) trivial rfl ?_
     rintro lv o ⟨slv, rfl⟩
     refine AK.call co17 rfl (fun w hw => s_same w pv lv (FindP a b) (leastL a b) (RdL.own 2 hw rfl) (RdL.own 3 hw rfl) (by rw [hfl, leastL_len ha hb hL]; omega)) trivial rfl ?_
     rintro r o ⟨rfl, rfl⟩
     refine .mv rfl ?_
     refine AK.knownT (g := 85) rfl (decide_eq_true hfl) (fun hg_12_5 => ?_)
     refine AK.call co15 rfl (fun w hw => s_awake w) ⟨_, rfl, congrArg (fun b => some (Value.bool b)) hg_12_5⟩ rfl ?_
     rintro r o ⟨rfl, rfl⟩
     refine .v (.pickT rfl (hg_12_5) rfl) ?_
     refine .as rfl (.nt hK17 (.ret ?_))
     refine AK.ret1 rfl rfl (fun w hw => ⟨_, _, ?_, rfl, Ret.of (hw.pick [] (by decide) rfl rfl)⟩)
     exact ⟨rfl, rfl⟩

end Go.Proofs.Ytifnofnnjcchhaa
