import Derived.Test.YtifnofnnjcchhaaB1
import Derived.Test.YtifnofnnjcchhaaD10
import Derived.Test.YtifnofnnjcchhaaBe
set_option linter.unusedVariables false
set_option linter.unusedSimpArgs false
namespace Go.Proofs.Ytifnofnnjcchhaa
open Go.Sx Go.RowKit Go.Sx.Pt
set_option maxHeartbeats 1000000 in
set_option maxRecDepth 100000 in
theorem s_equal (w : World) (u v : Value) (a b : Dfa) (hu : RdD (fun _ => False) w u a) (hv : RdD (fun _ => False) w v b) (ha : VD a) (hb : VD b) (hL : a.L = b.L) : CallS Try.prog 49 [u, v] w (fun r o => r = .bool (decide (a.fin = b.fin ∧ a.nx = b.nx)) ∧ o = []) := by
 have hu0 := hu
 have hv0 := hv
 obtain ⟨aF, aN, rfl, haF, haN⟩ := hu
 obtain ⟨bF, bN, rfl, hbF, hbN⟩ := hv
 obtain ⟨ra, hra, haNr, haNi⟩ := haN
 obtain ⟨rb, hrb, hbNr, hbNi⟩ := hbN
 unfold RdL at haF hbF
 have m1 := haF.le
 have m2 := hbF.le
 have hax := ha.nx
 have hbx := hb.nx
 have hna := ha.n
 have hnb := hb.n
 have haL := ha.L
 refine spec_of Try.func49 rfl (Nat.le_of_ble_eq_true rfl) ?_
 refine .sr fun _ hK1 => ?_
 refine AK.box_ (E := 25) (cs := [.int .i64 a.L, .int .i64 a.s, aF, aN]) rfl rfl rfl trivial rfl (fun bx2 => ?_)
 refine AK.box_ (E := 25) (cs := [.int .i64 b.L, .int .i64 b.s, bF, bN]) rfl rfl rfl trivial rfl (fun bx3 => ?_)
 refine .as rfl (.nt hK1 ?_)
 refine .seq fun _ hK2 => ?_
 refine .sr fun _ hK3 => ?_
 refine .v (.fieldAddr fd25_2 rfl) ?_
 refine .v (.loadBox on22 rfl bsp rfl) ?_
 refine .v (.lenR sl22 rfl (by first | exact rdp | exact .arg (haNi _ (by omega)) | exact .arg (hbNi _ (by omega)))) ?_
 refine .v (.fieldAddr fd25_2 rfl) ?_
 refine .v (.loadBox on22 rfl bsp rfl) ?_
 refine .v (.lenR sl22 rfl (by first | exact rdp | exact .arg (haNi _ (by omega)) | exact .arg (hbNi _ (by omega)))) ?_
 refine .v (.neq rfl rfl) ?_
 refine .nt hK3 ?_
 refine AK.condNe rfl (fun hc0 => ?_) (fun hc0 => ?_)
 ·refine .sr fun _ hK4 => ?_
  refine .as rfl (.nt hK4 (.ret (.then_ret ?_)))
  refine AK.ret1 rfl rfl (fun w hw => ⟨_, _, ?_, rfl, Ret.of (hw.pick [] (by decide) rfl rfl)⟩)
  refine ⟨congrArg Value.bool ?_, rfl⟩
  symm; rw [decide_eq_false_iff_not]
  rintro ⟨e1, e2⟩
  exact hc0 (by rw [e1])
 ·refine .skip ?_
  refine AK.then_ (hK2 _ ?_)
  refine .seq fun _ hK5 => ?_
  refine .sr fun _ hK6 => ?_
  refine .v (.fieldAddr fd25_3 rfl) ?_
  refine .v (.loadBox on23 rfl bsp rfl) ?_
  refine .v (.lenR sl23 rfl (by first | exact rdp | exact .arg (haNi _ (by omega)) | exact .arg (hbNi _ (by omega)))) ?_
  refine .mv rfl (.nt hK6 (.block ?_))
  refine AK.loopK (X := Nat) [(2, _), (3, _), (17, _), (18, _)] (fun x => [(19, .int .i64 (x : Int))]) (fun x => [box bx2 25 4 [.int .i64 a.L, .int .i64 a.s, aF, aN], box bx3 25 4 [.int .i64 b.L, .int .i64 b.s, bF, bN]]) (fun x => x ≤ a.fin.length ∧ a.fin.take x = b.fin.take x ∧ a.nx.take x = b.nx.take x) (fun x => a.fin.length - x) (0) slr ?_ ?_ ?_ ?_
  ·exact ⟨Nat.zero_le _, rfl, rfl⟩
  ·exact slr
  ·exact fun w hw => hw
  ·intro x hg0 _ hK7
   refine .sr fun _ hK8 => ?_
   refine .v (.lss rfl rfl) ?_
   refine .nt hK8 ?_
   refine .seq fun _ hK9 => ?_
   refine AK.condD rfl (fun hc1 => ?_) (fun hc1 => ?_)
   ·have hrwa := ha.row x (by omega)
    have hrwb := hb.row x (by omega)
    refine .skip ?_
    refine AK.then_ (hK9 _ ?_)
    refine .seq fun _ hK10 => ?_
    refine .block ?_
    refine .sr fun _ hK11 => ?_
    refine .mv rfl ?_
    first | refine .v (.iN sl23 rfl rfl (hr := (by first | exact rdp | exact .arg (haNi _ (by omega)) | exact .arg (hbNi _ (by omega))))) ?_ | refine .v (.iK sl23 rfl rfl (hr := (by first | exact rdp | exact .arg (haNi _ (by omega)) | exact .arg (hbNi _ (by omega))))) ?_
    refine .v (.loadV on26 rfl (by first | exact rdp | exact .arg (haNi _ (by omega)) | exact .arg (hbNi _ (by omega))) (by omega)) ?_
    refine .as rfl (.as rfl (.nt hK11 ?_))
    refine .seq fun _ hK12 => ?_
    refine .seq fun _ hK13 => ?_
    refine AK.quiet mixed krf ?_
    refine .v (.fieldAddr fd25_2 rfl) ?_
    refine .v (.loadBox on22 rfl bsp rfl) ?_
    refine .mv rfl ?_
    first | refine .v (.iN sl22 rfl rfl (hr := (by first | exact rdp | exact .arg (haNi _ (by omega)) | exact .arg (hbNi _ (by omega))))) ?_ | refine .v (.iK sl22 rfl rfl (hr := (by first | exact rdp | exact .arg (haNi _ (by omega)) | exact .arg (hbNi _ (by omega))))) ?_
    refine .v (.loadB on4 rfl (by first | exact rdp | exact .arg (haNi _ (by omega)) | exact .arg (hbNi _ (by omega))) (by omega)) ?_
    refine .v (.fieldAddr fd25_2 rfl) ?_
    refine .v (.loadBox on22 rfl bsp rfl) ?_
    refine .mv rfl ?_
    first | refine .v (.iN sl22 rfl rfl (hr := (by first | exact rdp | exact .arg (haNi _ (by omega)) | exact .arg (hbNi _ (by omega))))) ?_ | refine .v (.iK sl22 rfl rfl (hr := (by first | exact rdp | exact .arg (haNi _ (by omega)) | exact .arg (hbNi _ (by omega))))) ?_
    refine .v (.loadB on4 rfl (by first | exact rdp | exact .arg (haNi _ (by omega)) | exact .arg (hbNi _ (by omega))) (by omega)) ?_
    refine .v (.neqB bo4 rfl rfl) ?_
    refine QK.nil (QK.fin ?_)
    refine AK.then_ (hK13 _ ?_)
    refine AK.cond rfl (fun hc2 => ?_) (fun hc2 => ?_)
    ·try simp only [bs] at hc2
     refine .sr fun _ hK14 => ?_
     refine .as rfl (.nt hK14 (.ret (.then_ret (.block_ret (.then_ret (.then_ret (.block_ret (.then_ret ?_))))))))
     refine AK.ret1 rfl rfl (fun w hw => ⟨_, _, ?_, rfl, Ret.of (hw.pick [] (by decide) rfl rfl)⟩)
     refine ⟨congrArg Value.bool ?_, rfl⟩
     symm; rw [decide_eq_false_iff_not]
     rintro ⟨e1, e2⟩
     apply absurd hc2; rw [e1]; simp
    ·try simp only [bs] at hc2
     refine .skip ?_
     refine AK.then_ (hK12 _ ?_)
     refine .sr fun _ hK15 => ?_
     refine .mv rfl ?_
     refine .v (.lenR sl26 rfl (by first | exact rdp | exact .arg (haNi _ (by omega)) | exact .arg (hbNi _ (by omega)))) ?_
     refine .mv rfl (.nt hK15 (.block ?_))
     refine AK.loopK (X := Nat) [(2, _), (3, _), (5, _), (17, _), (18, _), (19, _), (35, _), (36, _)] (fun y => [(37, .int .i64 (y : Int))]) (fun y => [box bx2 25 4 [.int .i64 a.L, .int .i64 a.s, aF, aN], box bx3 25 4 [.int .i64 b.L, .int .i64 b.s, bF, bN]]) (fun y => y ≤ (a.nx.getD x []).length ∧ (a.nx.getD x []).take y = (b.nx.getD x []).take y) (fun y => (a.nx.getD x []).length - y) (0) slr ?_ ?_ ?_ ?_
     ·exact ⟨Nat.zero_le _, rfl⟩
     ·exact slr
     ·exact fun w hw => hw
     ·intro y hg1 _ hK16
      refine .sr fun _ hK17 => ?_
      refine .v (.lss rfl rfl) ?_
      refine .nt hK17 ?_
      refine .seq fun _ hK18 => ?_
      refine AK.condD rfl (fun hc3 => ?_) (fun hc3 => ?_)
      ·refine .skip ?_
       refine AK.then_ (hK18 _ ?_)
       refine .seq fun _ hK19 => ?_
       refine .block ?_
       refine .sr fun _ hK20 => ?_
       refine .mv rfl ?_
       first | refine .v (.iN sl26 rfl rfl (hr := (by first | exact rdp | exact .arg (haNi _ (by omega)) | exact .arg (hbNi _ (by omega))))) ?_ | refine .v (.iK sl26 rfl rfl (hr := (by first | exact rdp | exact .arg (haNi _ (by omega)) | exact .arg (hbNi _ (by omega))))) ?_
       refine .v (.loadI on3 rfl (by first | exact rdp | exact .arg (haNi _ (by omega)) | exact .arg (hbNi _ (by omega))) (by omega)) ?_
       refine .as rfl (.as rfl (.nt hK20 ?_))
       refine .sr fun _ hK21 => ?_
       refine .v (.fieldAddr fd25_3 rfl) ?_
       refine .v (.loadBox on23 rfl bsp rfl) ?_
       refine .mv rfl ?_
       first | refine .v (.iN sl23 rfl rfl (hr := (by first | exact rdp | exact .arg (haNi _ (by omega)) | exact .arg (hbNi _ (by omega))))) ?_ | refine .v (.iK sl23 rfl rfl (hr := (by first | exact rdp | exact .arg (haNi _ (by omega)) | exact .arg (hbNi _ (by omega))))) ?_
       refine .v (.loadV on26 rfl (by first | exact rdp | exact .arg (haNi _ (by omega)) | exact .arg (hbNi _ (by omega))) (by omega)) ?_
       refine .mv rfl ?_
       first | refine .v (.iN sl26 rfl rfl (hr := (by first | exact rdp | exact .arg (haNi _ (by omega)) | exact .arg (hbNi _ (by omega))))) ?_ | refine .v (.iK sl26 rfl rfl (hr := (by first | exact rdp | exact .arg (haNi _ (by omega)) | exact .arg (hbNi _ (by omega))))) ?_
       refine .v (.loadI on3 rfl (by first | exact rdp | exact .arg (haNi _ (by omega)) | exact .arg (hbNi _ (by omega))) (by omega)) ?_
       refine .mv rfl ?_
       refine .v (.neq rfl rfl) ?_
       refine .nt hK21 ?_
       refine AK.condNe rfl (fun hc4 => ?_) (fun hc4 => ?_)
       ·refine .sr fun _ hK22 => ?_
        refine .as rfl (.nt hK22 (.ret (.block_ret (.then_ret (.then_ret (.block_ret (.block_ret (.then_ret (.then_ret (.block_ret (.then_ret ?_)))))))))))
        refine AK.ret1 rfl rfl (fun w hw => ⟨_, _, ?_, rfl, Ret.of (hw.pick [] (by decide) rfl rfl)⟩)
        refine ⟨congrArg Value.bool ?_, rfl⟩
        symm; rw [decide_eq_false_iff_not]
        rintro ⟨e1, e2⟩
        exact hc4 (by rw [e2])
       ·refine .skip (.block_normal ?_)
        refine AK.then_ (hK19 _ ?_)
        refine AK.region ?_
        refine .v (.add rfl rfl (by omega)) ?_
        refine .mv rfl (.nil ?_)
        refine AK.then_ (hK16 _ _ (y + 1) ⟨by omega, (beq_takeD 0 (by omega) y (by omega) hg1.2).2 hc4.symm⟩ (by omega) (slr) (fun w hw => hw))
      ·refine .exit (.then_exit (.then_exit (.block_exit (.block_normal ?_))))
       refine AK.then_ (hK10 _ ?_)
       refine AK.region ?_
       refine .v (.add rfl rfl (by omega)) ?_
       refine .mv rfl (.nil ?_)
       refine AK.then_ (hK7 _ _ (x + 1) ⟨by omega, (beq_takeD false (by omega) x (by omega) hg0.2.1).2 (by simpa using hc2), (beq_takeD [] (by omega) x (by omega) hg0.2.2).2 (by have h := hg1.2; rw [List.take_of_length_le (by omega), List.take_of_length_le (by omega)] at h; exact h)⟩ (by omega) (slr) (fun w hw => hw))
   ·refine .exit (.then_exit (.then_exit (.block_exit ?_)))
    refine AK.then_ (hK5 _ ?_)
    refine .sr fun _ hK23 => ?_
    refine .as rfl (.nt hK23 (.ret ?_))
    refine AK.ret1 rfl rfl (fun w hw => ⟨_, _, ?_, rfl, Ret.of (hw.pick [] (by decide) rfl rfl)⟩)
    refine ⟨congrArg Value.bool ?_, rfl⟩
    symm; rw [decide_eq_true_eq]
    have h1 := hg0.2.1
    have h2 := hg0.2.2
    rw [List.take_of_length_le (by omega), List.take_of_length_le (by omega)] at h1 h2
    exact ⟨h1, h2⟩

set_option maxHeartbeats 2000000 in
set_option maxRecDepth 100000 in
theorem s_iso (w : World) (u v : Value) (a b : Dfa) (hu : RdD (fun _ => False) w u a) (hv : RdD (fun _ => False) w v b) : CallS Try.prog 23 [u, v] w (fun r o => ∃ fv, r = .tuple #[fv, .bool (IsoB a b), .int .i64 (IsoE a b)] ∧ IsSl fv ∧ o = [row fv 3 1 (IsoF a b).length ((IsoF a b).map (Value.int .i64))]) := by
 have hu0 := hu
 have hv0 := hv
 obtain ⟨aF, aN, rfl, haF, haN⟩ := hu
 obtain ⟨bF, bN, rfl, hbF, hbN⟩ := hv
 obtain ⟨ra, hra, haNr, haNi⟩ := haN
 obtain ⟨rb, hrb, hbNr, hbNi⟩ := hbN
 unfold RdL at haF hbF
 have m1 := haF.le
 have m2 := hbF.le
 refine spec_of Try.func23 rfl (Nat.le_of_ble_eq_true rfl) ?_
 refine .sr fun _ hK1 => ?_
 refine AK.box_ (E := 25) (cs := [.int .i64 a.L, .int .i64 a.s, aF, aN]) rfl rfl rfl trivial rfl (fun bx2 => ?_)
 refine AK.box_ (E := 25) (cs := [.int .i64 b.L, .int .i64 b.s, bF, bN]) rfl rfl rfl trivial rfl (fun bx3 => ?_)
 refine .as rfl (.as rfl (.as rfl (.nt hK1 ?_)))
 refine .seq fun _ hK2 => ?_
 refine .sr fun _ hK3 => ?_
 refine .v (.loadBoxG ag25 rfl bsp rfl rfl) ?_
 refine .v (.loadBoxG ag25 rfl bsp rfl rfl) ?_
 refine AK.call co35 rfl (fun w hw => s_bvalid w _ _ a b (hu0.at hw) (hv0.at hw)) trivial rfl ?_
 rintro r o ⟨rfl, rfl⟩
 refine .as rfl (.nt hK3 ?_)
 refine .sr fun _ hK4 => ?_
 refine .mv rfl ?_
 refine .v (.neq rfl rfl) ?_
 refine .nt hK4 ?_
 refine AK.condNe rfl (fun hc0 => ?_) (fun hc0 => ?_)
 ·have hE : pairE a b ≠ 0 := by omega
  have eE : IsoE a b = pairE a b := if_pos hE
  have eB : IsoB a b = false := by unfold IsoB; rw [eE, decide_eq_false hE]; rfl
  have eF : IsoF a b = [] := if_neg (by rw [eB]; decide)
  refine .sr fun _ hK5 => ?_
  refine .mv rfl (.as rfl (.as rfl (.as rfl (.nt hK5 (.ret (.then_ret ?_))))))
  refine AK.ghost 3 1 ?_
  refine AK.retG [.tmp 4, .tmp 5, .tmp 6] rfl (.cons (.tmp rfl) (.cons (.tmp rfl) (.cons (.tmp rfl) (.nil)))) (fun w hw => ⟨_, _, ?_, rfl, Ret.of (hw.pick [2] (by decide) rfl rfl)⟩)
  rw [eE, eB, eF]
  exact ⟨_, rfl, nilSl, rfl⟩
 ·have hE : pairE a b = 0 := by omega
  obtain ⟨ha, hb, hL⟩ := pairE_zero hE
  have eTa : TrimV a = trimD a := if_pos ha
  have eNa : NumV a = numT a := if_pos ha
  have eTb : TrimV b = trimD b := if_pos hb
  have eNb : NumV b = numT b := if_pos hb
  have fa := trim_fl a
  have fb := trim_fl b
  have la := numT_len a
  have lb2 := numT_len b
  have hna := ha.n
  have hnb := hb.n
  refine .skip ?_
  refine AK.then_ (hK2 _ ?_)
  refine .sr fun _ hK6 => ?_
  refine .v (.loadBoxG ag25 rfl bsp rfl rfl) ?_
  refine AK.call co48 rfl (fun w hw => s_trim w _ a (hu0.at hw)) trivial rfl ?_
  rintro r o ⟨tF, tN, tM, trs, rfl, htrs, stF, stN, stM, rfl⟩
  rw [eTa] at htrs
  rw [eTa, eNa]
  refine .mv rfl ?_
  refine .v (.extract rfl rfl) ?_
  refine .v (.extract rfl rfl) ?_
  refine AK.alloc el25 rfl rfl trivial rfl (fun bx8 => ?_)
  refine AK.storeBox 6 (us := [.int .i64 (trimD a).L, .int .i64 (trimD a).s, tF, tN]) (cs' := [.int .i64 (trimD a).L, .int .i64 (trimD a).s, tF, tN]) rfl sz25 rfl rfl rfl rfl oneP (Nat.le_of_ble_eq_true rfl) rfl trivial ?_
  refine .as rfl (.nt hK6 ?_)
  refine .sr fun _ hK7 => ?_
  refine .v (.loadBoxG ag25 rfl bsp rfl rfl) ?_
  refine AK.call co48 rfl (fun w hw => s_trim w _ b (hv0.at hw)) trivial rfl ?_
  rintro r o ⟨nF, nN, nM, nrs, rfl, hnrs, snF, snN, snM, rfl⟩
  rw [eTb] at hnrs
  rw [eTb, eNb]
  refine .mv rfl ?_
  refine .v (.extract rfl rfl) ?_
  refine .v (.extract rfl rfl) ?_
  refine AK.alloc el25 rfl rfl trivial rfl (fun bx10 => ?_)
  refine AK.storeBox 11 (us := [.int .i64 (trimD b).L, .int .i64 (trimD b).s, nF, nN]) (cs' := [.int .i64 (trimD b).L, .int .i64 (trimD b).s, nF, nN]) rfl sz25 rfl rfl rfl rfl oneP (Nat.le_of_ble_eq_true rfl) rfl trivial ?_
  refine .as rfl (.nt hK7 ?_)
  refine .seq fun _ hK8 => ?_
  refine .sr fun _ hK9 => ?_
  refine .v (.fieldAddr fd25_2 rfl) ?_
  refine .v (.loadBox on22 rfl bsp rfl) ?_
  refine .v (.lenR sl22 rfl rdp) ?_
  refine .v (.fieldAddr fd25_2 rfl) ?_
  refine .v (.loadBox on22 rfl bsp rfl) ?_
  refine .v (.lenR sl22 rfl rdp) ?_
  refine .v (.neq rfl rfl) ?_
  refine .mv rfl ?_
  refine AK.splitB (g := 41) rfl (fun hg_6_7 => ?_) (fun hg_6_7 => ?_)
  ·have hg_6_7' := hg_6_7
   try simp only [bs] at hg_6_7'
   refine AK.pass rfl rfl (hg_6_7) rfl ?_
   refine AK.pass rfl rfl (hg_6_7) rfl ?_
   refine AK.pass rfl rfl (hg_6_7) rfl ?_
   refine AK.pass rfl rfl (hg_6_7) rfl ?_
   refine AK.pass rfl rfl (hg_6_7) rfl ?_
   refine AK.pass rfl rfl (hg_6_7) rfl ?_
   refine AK.pass rfl rfl (hg_6_7) rfl ?_
   refine .v (.pickT rfl (hg_6_7) rfl) ?_
   refine .nt hK9 ?_
   refine AK.cond_t rfl (rfl) ?_
   have hnf : ¬ (Full a ∧ Full b) := by rintro ⟨h1, h2⟩; unfold Full at h1 h2; omega
   have eE : IsoE a b = 4 := by unfold IsoE; rw [if_neg (by omega), if_neg hnf]
   have eB : IsoB a b = false := by unfold IsoB; rw [eE]; rfl
   have eF : IsoF a b = [] := if_neg (by rw [eB]; decide)
   refine .sr fun _ hK10 => ?_
   refine .as rfl (.as rfl (.as rfl (.nt hK10 (.ret (.then_ret ?_)))))
   refine AK.ghost 3 1 ?_
   refine AK.retG [.tmp 4, .tmp 5, .tmp 6] rfl (.cons (.tmp rfl) (.cons (.tmp rfl) (.cons (.tmp rfl) (.nil)))) (fun w hw => ⟨_, _, ?_, rfl, Ret.of (hw.pick [12] (by decide) rfl rfl)⟩)
   rw [eE, eB, eF]
   exact ⟨_, rfl, nilSl, rfl⟩
  ·have hg_6_7' := hg_6_7
   try simp only [bs] at hg_6_7'
   refine AK.val _ (Yl.fieldAddr fd25_2 rfl) ⟨_, rfl, congrArg (fun b => some (Value.bool b)) hg_6_7⟩ rfl ?_
   refine AK.val _ (Yl.loadBox on22 rfl bsp rfl) ⟨_, rfl, congrArg (fun b => some (Value.bool b)) hg_6_7⟩ rfl ?_
   refine AK.val _ (Yl.lenR sl22 rfl rdp) ⟨_, rfl, congrArg (fun b => some (Value.bool b)) hg_6_7⟩ rfl ?_
   refine AK.val _ (Yl.fieldAddr fd25_2 rfl) ⟨_, rfl, congrArg (fun b => some (Value.bool b)) hg_6_7⟩ rfl ?_
   refine AK.val _ (Yl.loadBox on22 rfl bsp rfl) ⟨_, rfl, congrArg (fun b => some (Value.bool b)) hg_6_7⟩ rfl ?_
   refine AK.val _ (Yl.lenR sl22 rfl rdp) ⟨_, rfl, congrArg (fun b => some (Value.bool b)) hg_6_7⟩ rfl ?_
   refine AK.val _ (Yl.neq rfl rfl) ⟨_, rfl, congrArg (fun b => some (Value.bool b)) hg_6_7⟩ rfl ?_
   refine .v (.pickF rfl (hg_6_7) rfl) ?_
   refine .nt hK9 ?_
   refine AK.condNe rfl (fun hc1 => ?_) (fun hc1 => ?_)
   ·have hnf : ¬ (Full a ∧ Full b) := by rintro ⟨h1, h2⟩; unfold Full at h1 h2; omega
    have eE : IsoE a b = 4 := by unfold IsoE; rw [if_neg (by omega), if_neg hnf]
    have eB : IsoB a b = false := by unfold IsoB; rw [eE]; rfl
    have eF : IsoF a b = [] := if_neg (by rw [eB]; decide)
    refine .sr fun _ hK11 => ?_
    refine .as rfl (.as rfl (.as rfl (.nt hK11 (.ret (.then_ret ?_)))))
    refine AK.ghost 3 1 ?_
    refine AK.retG [.tmp 4, .tmp 5, .tmp 6] rfl (.cons (.tmp rfl) (.cons (.tmp rfl) (.cons (.tmp rfl) (.nil)))) (fun w hw => ⟨_, _, ?_, rfl, Ret.of (hw.pick [12] (by decide) rfl rfl)⟩)
    rw [eE, eB, eF]
    exact ⟨_, rfl, nilSl, rfl⟩
   ·have hfa : Full a := by unfold Full; omega
    have hfb : Full b := by unfold Full; omega
    have eE : IsoE a b = 0 := by unfold IsoE; rw [if_neg (by omega), if_pos ⟨hfa, hfb⟩]
    have hteq : trimD a = trimD b ↔ (trimD a).fin = (trimD b).fin ∧ (trimD a).nx = (trimD b).nx := ⟨fun e => by rw [e]; exact ⟨rfl, rfl⟩, fun e => by unfold trimD at e ⊢; dsimp only at e; rw [e.1, e.2, hL]⟩
    refine .skip ?_
    refine AK.then_ (hK8 _ ?_)
    refine .seq fun _ hK12 => ?_
    refine .sr fun _ hK13 => ?_
    refine .v (.loadBoxG ag25 rfl bsp rfl rfl) ?_
    refine .v (.loadBoxG ag25 rfl bsp rfl rfl) ?_
    refine AK.call co49 rfl (fun w hw => s_equal w _ _ (trimD a) (trimD b) (RdD.own 2 hw htrs rfl rfl rfl) (RdD.own 7 hw hnrs rfl rfl rfl) (trim_vd ha) (trim_vd hb) hL) trivial rfl ?_
    rintro r o ⟨rfl, rfl⟩
    refine .v (.not rfl) ?_
    refine .nt hK13 ?_
    refine AK.condB rfl (fun hc2 => ?_) (fun hc2 => ?_)
    ·have eB : IsoB a b = false := by unfold IsoB; rw [decide_eq_false (fun e => (of_decide_eq_false hc2) (hteq.1 e)), Bool.and_false]
     have eF : IsoF a b = [] := if_neg (by rw [eB]; decide)
     refine .sr fun _ hK14 => ?_
     refine .as rfl (.as rfl (.as rfl (.nt hK14 (.ret (.then_ret ?_)))))
     refine AK.ghost 3 1 ?_
     refine AK.retG [.tmp 4, .tmp 5, .tmp 6] rfl (.cons (.tmp rfl) (.cons (.tmp rfl) (.cons (.tmp rfl) (.nil)))) (fun w hw => ⟨_, _, ?_, rfl, Ret.of (hw.pick [12] (by decide) rfl rfl)⟩)
     rw [eE, eB, eF]
     exact ⟨_, rfl, nilSl, rfl⟩
    ·have htt := hteq.2 (of_decide_eq_true hc2)
     have eB : IsoB a b = true := by unfold IsoB; rw [eE, decide_eq_true htt]; rfl
     have eF : IsoF a b = isoL a b := if_pos eB
     have hnn := trim_len2 hfa hfb htt
     refine .skip ?_
     refine AK.then_ (hK12 _ ?_)
     refine .sr fun _ hK15 => ?_
     refine .v (.fieldAddr fd25_2 rfl) ?_
     refine .v (.loadBox on22 rfl bsp rfl) ?_
     refine .v (.lenR sl22 rfl rdp) ?_
     refine AK.make1 (n := b.fin.length) sl26 el3 rfl rfl rfl (by omega) (by omega) trivial rfl (fun mv0 => ?_)
     refine .as rfl (.nt hK15 ?_)
     refine .seq fun _ hK16 => ?_
     refine .sr fun _ hK17 => ?_
     refine .mv rfl ?_
     refine .v (.lenR sl26 rfl rdp) ?_
     refine .mv rfl (.nt hK17 (.block ?_))
     refine AK.loopK (X := Nat × List Int) [(2, _), (9, _), (12, _), (58, _), (59, _)] (fun x => [(60, .int .i64 (x.1 : Int))]) (fun x => [box bx2 25 4 [.int .i64 a.L, .int .i64 a.s, aF, aN], box bx3 25 4 [.int .i64 b.L, .int .i64 b.s, bF, bN], row tF 4 1 (trimD a).fin.length ((trimD a).fin.map Value.bool), row tN 26 1 (trimD a).nx.length trs, bigA (matG (Value.int .i64) 3 trs (trimD a).nx), row tM 3 1 (numT a).length ((numT a).map (Value.int .i64)), box bx8 25 4 [.int .i64 (trimD a).L, .int .i64 (trimD a).s, tF, tN], row nF 4 1 (trimD b).fin.length ((trimD b).fin.map Value.bool), row nN 26 1 (trimD b).nx.length nrs, bigA (matG (Value.int .i64) 3 nrs (trimD b).nx), row nM 3 1 (numT b).length ((numT b).map (Value.int .i64)), box bx10 25 4 [.int .i64 (trimD b).L, .int .i64 (trimD b).s, nF, nN], row mv0 3 1 b.fin.length (x.2.map (Value.int .i64))]) (fun x => x.1 ≤ b.fin.length ∧ StK b x.1 x.2) (fun x => b.fin.length - x.1) ((0, List.replicate b.fin.length 0)) slr ?_ ?_ ?_ ?_
     ·exact ⟨Nat.zero_le _, by simp, fun q hq => by cases hq⟩
     ·exact slr
     ·exact fun w hw => by dsimp only; rw [List.map_replicate]; exact hw
     ·intro x hg0 _ hK18
      refine .sr fun _ hK19 => ?_
      refine .v (.lss rfl rfl) ?_
      refine .nt hK19 ?_
      refine .seq fun _ hK20 => ?_
      refine AK.condD rfl (fun hc3 => ?_) (fun hc3 => ?_)
      ·have hpb := full_pos hb hfb (q := (x.1 : Int)) (by omega)
       have hxl := hg0.2.1
       refine .skip ?_
       refine AK.then_ (hK20 _ ?_)
       refine .seq fun _ hK21 => ?_
       refine .block ?_
       refine .sr fun _ hK22 => ?_
       refine .mv rfl ?_
       first | refine .v (.iN sl26 rfl rfl) ?_ | refine .v (.iK sl26 rfl rfl) ?_
       refine AK.val (.int .i64 ((posN (TSt b) (x.1 : Int) : Nat) : Int)) (Yl.valE (Yl.loadI on3 rfl rdp (by omega)) (congrArg (Value.int .i64) (full_num hb hfb (by omega)))) trivial rfl ?_
       refine .as rfl (.as rfl (.nt hK22 ?_))
       refine AK.region ?_
       refine .mv rfl (.mv rfl (.mv rfl ?_))
       first | refine .v (.iN sl26 rfl rfl) ?_ | refine .v (.iK sl26 rfl rfl) ?_
       refine AK.store1e 12 rfl sz3 rfl rfl rfl rfl (by omega) (cs' := ((x.2.set (posN (TSt b) (x.1 : Int)) (x.1 : Int)).map (Value.int .i64))) (by rw [List.map_set]) trivial ?_
       refine .nil (.block_normal ?_)
       refine AK.then_ (hK21 _ ?_)
       refine AK.region ?_
       refine .v (.add rfl rfl (by omega)) ?_
       refine .mv rfl (.nil ?_)
       refine AK.then_ (hK18 _ _ ((x.1 + 1, x.2.set (posN (TSt b) (x.1 : Int)) (x.1 : Int))) ⟨by dsimp only; omega, hg0.2.step hb hfb (by omega)⟩ (by dsimp only; omega) (slr) (fun w hw => hw))
      ·have hst : x.2 = TSt b := StK.done hb hfb (by rw [show b.fin.length = x.1 by omega]; exact hg0.2)
       have hxl := hg0.2.1
       refine .exit (.then_exit (.then_exit (.block_exit ?_)))
       refine AK.then_ (hK16 _ ?_)
       refine .sr fun _ hK23 => ?_
       refine .v (.fieldAddr fd25_2 rfl) ?_
       refine .v (.loadBox on22 rfl bsp rfl) ?_
       refine .v (.lenR sl22 rfl rdp) ?_
       refine AK.make1 (n := a.fin.length) sl26 el3 rfl rfl rfl (by omega) (by omega) trivial rfl (fun mv1 => ?_)
       refine AK.shape 13 rfl (fun smv1 => ?_)
       refine .as rfl (.nt hK23 ?_)
       refine .seq fun _ hK24 => ?_
       refine .sr fun _ hK25 => ?_
       refine .mv rfl ?_
       refine .v (.lenR sl26 rfl rdp) ?_
       refine .mv rfl (.nt hK25 (.block ?_))
       refine AK.loopK (X := Nat) [(12, _), (15, _), (74, _), (75, _)] (fun y => [(76, .int .i64 (y : Int))]) (fun y => [box bx2 25 4 [.int .i64 a.L, .int .i64 a.s, aF, aN], box bx3 25 4 [.int .i64 b.L, .int .i64 b.s, bF, bN], row tF 4 1 (trimD a).fin.length ((trimD a).fin.map Value.bool), row tN 26 1 (trimD a).nx.length trs, bigA (matG (Value.int .i64) 3 trs (trimD a).nx), row tM 3 1 (numT a).length ((numT a).map (Value.int .i64)), box bx8 25 4 [.int .i64 (trimD a).L, .int .i64 (trimD a).s, tF, tN], row nF 4 1 (trimD b).fin.length ((trimD b).fin.map Value.bool), row nN 26 1 (trimD b).nx.length nrs, bigA (matG (Value.int .i64) 3 nrs (trimD b).nx), row nM 3 1 (numT b).length ((numT b).map (Value.int .i64)), box bx10 25 4 [.int .i64 (trimD b).L, .int .i64 (trimD b).s, nF, nN], row mv0 3 1 b.fin.length (x.2.map (Value.int .i64)), row mv1 3 1 a.fin.length (((isoL a b).take y ++ List.replicate (a.fin.length - y) 0).map (Value.int .i64))]) (fun y => y ≤ a.fin.length) (fun y => a.fin.length - y) (0) slr ?_ ?_ ?_ ?_
       ·exact Nat.zero_le _
       ·exact slr
       ·exact fun w hw => by simpa using hw
       ·intro y hg1 _ hK26
        refine .sr fun _ hK27 => ?_
        refine .v (.lss rfl rfl) ?_
        refine .nt hK27 ?_
        refine .seq fun _ hK28 => ?_
        refine AK.condD rfl (fun hc4 => ?_) (fun hc4 => ?_)
        ·have hpa := full_pos ha hfa (q := (y : Int)) (by omega)
         refine .skip ?_
         refine AK.then_ (hK28 _ ?_)
         refine .seq fun _ hK29 => ?_
         refine .block ?_
         refine .sr fun _ hK30 => ?_
         refine .mv rfl ?_
         first | refine .v (.iN sl26 rfl rfl) ?_ | refine .v (.iK sl26 rfl rfl) ?_
         refine AK.val (.int .i64 ((posN (TSt a) (y : Int) : Nat) : Int)) (Yl.valE (Yl.loadI on3 rfl rdp (by omega)) (congrArg (Value.int .i64) (full_num ha hfa (by omega)))) trivial rfl ?_
         refine .as rfl (.as rfl (.nt hK30 ?_))
         refine AK.region ?_
         refine .mv rfl (.mv rfl (.mv rfl (.mv rfl ?_)))
         first | refine .v (.iN sl26 rfl rfl) ?_ | refine .v (.iK sl26 rfl rfl) ?_
         refine AK.val (.int .i64 ((isoL a b).getD y 0)) (Yl.valE (Yl.loadI on3 rfl rdp (by omega)) (congrArg (Value.int .i64) (by rw [hst, ← isoL_get (by omega)]))) trivial rfl ?_
         first | refine .v (.iN sl26 rfl rfl) ?_ | refine .v (.iK sl26 rfl rfl) ?_
         refine AK.store1e 13 rfl sz3 rfl rfl rfl rfl (by omega) (cs' := (((isoL a b).take (y + 1) ++ List.replicate (a.fin.length - (y + 1)) 0).map (Value.int .i64))) (by rw [take_snocD 0 (isoL a b) y (by rw [isoL_len]; omega)]; exact fill_set (Value.int .i64) ((isoL a b).take y) 0 ((isoL a b).getD y 0) a.fin.length y (by rw [List.length_take, isoL_len]; omega) (by omega)) trivial ?_
         refine .nil (.block_normal ?_)
         refine AK.then_ (hK29 _ ?_)
         refine AK.region ?_
         refine .v (.add rfl rfl (by omega)) ?_
         refine .mv rfl (.nil ?_)
         refine AK.then_ (hK26 _ _ (y + 1) (by omega) (by omega) (slr) (fun w hw => hw))
        ·refine .exit (.then_exit (.then_exit (.block_exit ?_)))
         refine AK.then_ (hK24 _ ?_)
         refine .sr fun _ hK31 => ?_
         refine .mv rfl (.as rfl (.as rfl (.as rfl (.nt hK31 (.ret ?_)))))
         refine AK.retG [.tmp 4, .tmp 5, .tmp 6] rfl (.cons (.tmp rfl) (.cons (.tmp rfl) (.cons (.tmp rfl) (.nil)))) (fun w hw => ⟨_, _, ?_, rfl, Ret.of (hw.pick [13] (by decide) rfl rfl)⟩)
         rw [eE, eB, eF]
         refine ⟨mv1, rfl, smv1, ?_⟩
         rw [show y = (isoL a b).length by rw [isoL_len]; omega, List.take_length, ← isoL_len a b, Nat.sub_self, List.replicate_zero, List.append_nil]
         rfl

set_option maxHeartbeats 2000000 in
set_option maxRecDepth 100000 in
theorem s_refiso (w : World) (u v : Value) (a b : Dfa) (hu : RdD (fun _ => False) w u a) (hv : RdD (fun _ => False) w v b) (ha : VD a) (hb : VD b) (hfa : Full a) (hfb : Full b) : CallS Try.prog 25 [u, v] w (fun r o => ∃ fv, r = .tuple #[fv, .bool (decide (trimD a = trimD b))] ∧ IsSl fv ∧ o = [row fv 3 1 (if trimD a = trimD b then isoL a b else []).length ((if trimD a = trimD b then isoL a b else []).map (Value.int .i64))]) := by
 have hu0 := hu
 have hv0 := hv
 obtain ⟨aF, aN, rfl, haF, haN⟩ := hu
 obtain ⟨bF, bN, rfl, hbF, hbN⟩ := hv
 obtain ⟨ra, hra, haNr, haNi⟩ := haN
 obtain ⟨rb, hrb, hbNr, hbNi⟩ := hbN
 unfold RdL at haF hbF
 have m1 := haF.le
 have m2 := hbF.le
 have hna := ha.n
 have hnb := hb.n
 have hfa2 : (TSt a).length = a.fin.length := hfa
 have hfb2 : (TSt b).length = b.fin.length := hfb
 obtain ⟨ta1, ta2, ta3, ta4⟩ := TSt_ok ha
 refine spec_of Try.func25 rfl (Nat.le_of_ble_eq_true rfl) ?_
 refine .sr fun _ hK1 => ?_
 refine AK.box_ (E := 25) (cs := [.int .i64 a.L, .int .i64 a.s, aF, aN]) rfl rfl rfl trivial rfl (fun bx2 => ?_)
 refine AK.box_ (E := 25) (cs := [.int .i64 b.L, .int .i64 b.s, bF, bN]) rfl rfl rfl trivial rfl (fun bx3 => ?_)
 refine .as rfl (.as rfl (.nt hK1 ?_))
 refine .seq fun _ hK2 => ?_
 refine .sr fun _ hK3 => ?_
 refine .v (.fieldAddr fd25_2 rfl) ?_
 refine .v (.loadBox on22 rfl bsp rfl) ?_
 refine .v (.lenR sl22 rfl rdp) ?_
 refine .v (.fieldAddr fd25_2 rfl) ?_
 refine .v (.loadBox on22 rfl bsp rfl) ?_
 refine .v (.lenR sl22 rfl rdp) ?_
 refine .v (.neq rfl rfl) ?_
 refine .nt hK3 ?_
 refine AK.condNe rfl (fun hc0 => ?_) (fun hc0 => ?_)
 ·have hne : ¬ trimD a = trimD b := fun e => hc0 (congrArg (fun (n : Nat) => (n : Int)) (trim_len2 hfa hfb e))
  refine .sr fun _ hK4 => ?_
  refine .as rfl (.as rfl (.nt hK4 (.ret (.then_ret ?_))))
  refine AK.ghost 3 1 ?_
  refine AK.ret2 rfl rfl rfl (fun w hw => ⟨_, _, ?_, rfl, Ret.of (hw.pick [2] (by decide) rfl rfl)⟩)
  rw [if_neg hne, decide_eq_false hne]
  exact ⟨_, rfl, nilSl, rfl⟩
 ·refine .skip ?_
  refine AK.then_ (hK2 _ ?_)
  refine .sr fun _ hK5 => ?_
  refine .v (.loadBoxG ag25 rfl bsp rfl rfl) ?_
  refine AK.call co24 rfl (fun w hw => s_refaccess w _ a (hu0.at hw) ha) trivial rfl ?_
  rintro r o ⟨va, wa, sva, swa, rfl, rfl⟩
  refine .mv rfl ?_
  refine .v (.extract rfl rfl) ?_
  refine .v (.extract rfl rfl) ?_
  refine .as rfl (.as rfl (.nt hK5 ?_))
  refine .sr fun _ hK6 => ?_
  refine .v (.loadBoxG ag25 rfl bsp rfl rfl) ?_
  refine AK.call co24 rfl (fun w hw => s_refaccess w _ b (hv0.at hw) hb) trivial rfl ?_
  rintro r o ⟨vb, wb, svb, swb, rfl, rfl⟩
  refine .mv rfl ?_
  refine .v (.extract rfl rfl) ?_
  refine .v (.extract rfl rfl) ?_
  refine .as rfl (.as rfl (.nt hK6 ?_))
  refine .sr fun _ hK7 => ?_
  refine .v (.loadBoxG ag25 rfl bsp rfl rfl) ?_
  refine AK.call co27 rfl (fun w hw => s_reftrim w _ a (hu0.at hw) ha) trivial rfl ?_
  rintro r o ⟨tF, tN, tM, trs, rfl, htrs, stF, stN, stM, rfl⟩
  refine .mv rfl ?_
  refine .v (.extract rfl rfl) ?_
  refine .v (.extract rfl rfl) ?_
  refine AK.alloc el25 rfl rfl trivial rfl (fun bx10 => ?_)
  refine AK.storeBox 10 (us := [.int .i64 (trimD a).L, .int .i64 (trimD a).s, tF, tN]) (cs' := [.int .i64 (trimD a).L, .int .i64 (trimD a).s, tF, tN]) rfl sz25 rfl rfl rfl rfl oneP (Nat.le_of_ble_eq_true rfl) rfl trivial ?_
  refine .as rfl (.nt hK7 ?_)
  refine .sr fun _ hK8 => ?_
  refine .v (.loadBoxG ag25 rfl bsp rfl rfl) ?_
  refine AK.call co27 rfl (fun w hw => s_reftrim w _ b (hv0.at hw) hb) trivial rfl ?_
  rintro r o ⟨nF, nN, nM, nrs, rfl, hnrs, snF, snN, snM, rfl⟩
  refine .mv rfl ?_
  refine .v (.extract rfl rfl) ?_
  refine .v (.extract rfl rfl) ?_
  refine AK.alloc el25 rfl rfl trivial rfl (fun bx12 => ?_)
  refine AK.storeBox 15 (us := [.int .i64 (trimD b).L, .int .i64 (trimD b).s, nF, nN]) (cs' := [.int .i64 (trimD b).L, .int .i64 (trimD b).s, nF, nN]) rfl sz25 rfl rfl rfl rfl oneP (Nat.le_of_ble_eq_true rfl) rfl trivial ?_
  refine .as rfl (.nt hK8 ?_)
  refine .seq fun _ hK9 => ?_
  refine .sr fun _ hK10 => ?_
  refine .v (.loadBoxG ag25 rfl bsp rfl rfl) ?_
  refine .v (.loadBoxG ag25 rfl bsp rfl rfl) ?_
  refine AK.call co33 rfl (fun w hw => s_sameD w _ _ (trimD a) (trimD b) (RdD.own 6 hw htrs rfl rfl rfl) (RdD.own 11 hw hnrs rfl rfl rfl)) trivial rfl ?_
  rintro r o ⟨rfl, rfl⟩
  refine .v (.not rfl) ?_
  refine .nt hK10 ?_
  refine AK.condB rfl (fun hc1 => ?_) (fun hc1 => ?_)
  ·have hne : ¬ trimD a = trimD b := of_decide_eq_false hc1
   refine .sr fun _ hK11 => ?_
   refine .as rfl (.as rfl (.nt hK11 (.ret (.then_ret ?_))))
   refine AK.ghost 3 1 ?_
   refine AK.ret2 rfl rfl rfl (fun w hw => ⟨_, _, ?_, rfl, Ret.of (hw.pick [16] (by decide) rfl rfl)⟩)
   rw [if_neg hne, decide_eq_false hne]
   exact ⟨_, rfl, nilSl, rfl⟩
  ·have heq : trimD a = trimD b := of_decide_eq_true hc1
   refine .skip ?_
   refine AK.then_ (hK9 _ ?_)
   refine .sr fun _ hK12 => ?_
   refine .mv rfl ?_
   refine AK.val (.int .i64 (a.fin.length : Int)) (Yl.valE (Yl.lenR sl26 rfl rdp) (by rw [hfa2])) trivial rfl ?_
   refine AK.make1 (n := a.fin.length) sl26 el3 rfl rfl rfl (by omega) (by omega) trivial rfl (fun mv0 => ?_)
   refine AK.shape 16 rfl (fun smv => ?_)
   refine .as rfl (.nt hK12 ?_)
   refine .seq fun _ hK13 => ?_
   refine .sr fun _ hK14 => ?_
   refine .mv rfl ?_
   refine .v (.lenR sl26 rfl rdp) ?_
   refine .mv rfl (.nt hK14 (.block ?_))
   refine AK.loopK (X := Nat × List Int) [(6, _), (8, _), (14, _), (51, _)] (fun x => [(52, .int .i64 (x.1 : Int))]) (fun x => [box bx2 25 4 [.int .i64 a.L, .int .i64 a.s, aF, aN], box bx3 25 4 [.int .i64 b.L, .int .i64 b.s, bF, bN], row va 3 1 (TSt a).length ((TSt a).map (Value.int .i64)), row wa 9 1 (TWo a).length ((TWo a).map sv), row vb 3 1 (TSt b).length ((TSt b).map (Value.int .i64)), row wb 9 1 (TWo b).length ((TWo b).map sv), row tF 4 1 (trimD a).fin.length ((trimD a).fin.map Value.bool), row tN 26 1 (trimD a).nx.length trs, bigA (matG (Value.int .i64) 3 trs (trimD a).nx), row tM 3 1 (numT a).length ((numT a).map (Value.int .i64)), box bx10 25 4 [.int .i64 (trimD a).L, .int .i64 (trimD a).s, tF, tN], row nF 4 1 (trimD b).fin.length ((trimD b).fin.map Value.bool), row nN 26 1 (trimD b).nx.length nrs, bigA (matG (Value.int .i64) 3 nrs (trimD b).nx), row nM 3 1 (numT b).length ((numT b).map (Value.int .i64)), box bx12 25 4 [.int .i64 (trimD b).L, .int .i64 (trimD b).s, nF, nN], row mv0 3 1 a.fin.length (x.2.map (Value.int .i64))]) (fun x => x.1 ≤ (TSt a).length ∧ FtK a b x.1 x.2) (fun x => (TSt a).length - x.1) ((0, List.replicate a.fin.length 0)) slr ?_ ?_ ?_ ?_
   ·exact ⟨Nat.zero_le _, by simp, fun q hq => by cases hq⟩
   ·exact slr
   ·exact fun w hw => by dsimp only; rw [List.map_replicate]; exact hw
   ·intro x hg0 _ hK15
    refine .sr fun _ hK16 => ?_
    refine .v (.lss rfl rfl) ?_
    refine .nt hK16 ?_
    refine .seq fun _ hK17 => ?_
    refine AK.condD rfl (fun hc2 => ?_) (fun hc2 => ?_)
    ·have htm := ta2 _ (getD_mem (d := 0) (xs := TSt a) (k := x.1) (by omega))
     have hxl := hg0.2.1
     refine .skip ?_
     refine AK.then_ (hK17 _ ?_)
     refine .seq fun _ hK18 => ?_
     refine .block ?_
     refine .sr fun _ hK19 => ?_
     refine .mv rfl (.as rfl (.nt hK19 ?_))
     refine AK.stillTail 10 mixed krf (fun _ hws => ?_)
     refine .v hws (.move rfl) ?_
     refine .v hws (.move rfl) ?_
     refine .v hws (.move rfl) ?_
     first | refine .v hws (.iN sl26 rfl rfl) ?_ | refine .v hws (.iK sl26 rfl rfl) ?_
     refine .v hws (.loadI on3 rfl rdp (by omega)) ?_
     refine .v hws (.move rfl) ?_
     refine .v hws (.move rfl) ?_
     first | refine .v hws (.iN sl26 rfl rfl) ?_ | refine .v hws (.iK sl26 rfl rfl) ?_
     refine .v hws (.loadI on3 rfl rdp (by omega)) ?_
     first | refine .v hws (.iN sl26 rfl rfl) ?_ | refine .v hws (.iK sl26 rfl rfl) ?_
     refine SK.nil (SK.fin hws ?_)
     refine AK.store1e 16 rfl sz3 rfl rfl rfl rfl (by omega) (cs' := ((x.2.set ((TSt a).getD x.1 0).toNat ((TSt b).getD x.1 0)).map (Value.int .i64))) (by rw [List.map_set]) trivial ?_
     refine .nil (.block_normal ?_)
     refine AK.then_ (hK18 _ ?_)
     refine AK.region ?_
     refine .v (.add rfl rfl (by omega)) ?_
     refine .mv rfl (.nil ?_)
     refine AK.then_ (hK15 _ _ ((x.1 + 1, x.2.set ((TSt a).getD x.1 0).toNat ((TSt b).getD x.1 0))) ⟨by dsimp only; omega, hg0.2.step ha (by omega)⟩ (by dsimp only; omega) (slr) (fun w hw => hw))
    ·refine .exit (.then_exit (.then_exit (.block_exit ?_)))
     refine AK.then_ (hK13 _ ?_)
     refine .sr fun _ hK20 => ?_
     refine .mv rfl (.as rfl (.as rfl (.nt hK20 (.ret ?_))))
     refine AK.ret2 rfl rfl rfl (fun w hw => ⟨_, _, ?_, rfl, Ret.of (hw.pick [16] (by decide) rfl rfl)⟩)
     have e : x.2 = isoL a b := FtK.done ha hfa (by rw [show (TSt a).length = x.1 by omega]; exact hg0.2)
     rw [if_pos heq, decide_eq_true heq, isoL_len, ← e]
     exact ⟨mv0, rfl, smv, rfl⟩

end Go.Proofs.Ytifnofnnjcchhaa
