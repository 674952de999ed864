import Derived.Test.YtoikhoniogicdaaE5
import Derived.Test.YtoikhoniogicdaaEf
import Derived.Test.YtoikhoniogicdaaD10
set_option linter.unusedVariables false
set_option linter.unusedSimpArgs false
namespace Go.Proofs.Ytoikhoniogicdaa
open Go.Sx Go.RowKit
set_option maxHeartbeats 600000 in
set_option maxRecDepth 100000 in
theorem l_classes (w : World) (v : Value) (d : Dfa) (h : RdD (fun _ => False) w v d) : CallS Try.prog 3 [v] w (fun r o => r = .bool true ∧ o = []) := by
 have h0 := h
 obtain ⟨vF, vN, rfl, hF, hN⟩ := h
 have hF0 := hF
 have hN0 := hN
 obtain ⟨rs, hrl, hNr, hNi⟩ := hN
 have sF := hF.sl
 have sN := hNr.sl
 have hmf := hF.le
 have hmn := hNr.le
 unfold RdL at hF
 refine spec_of Try.func3 rfl (Nat.le_of_ble_eq_true rfl) ?_
 refine .sr fun _ hK1 => ?_
 refine AK.box_ (E := 25) (cs := [.int .i64 d.L, .int .i64 d.s, vF, vN]) rfl rfl rfl trivial rfl (fun bx1 => ?_)
 refine .as rfl (.nt hK1 ?_)
 refine .sr fun _ hK2 => ?_
 refine .v (.loadBoxG ag25 rfl bsp rfl rfl) ?_
 refine AK.call co14 rfl (fun w hw => s_classes w _ d (h0.at hw)) trivial rfl ?_
 rintro cv o ⟨scv, rfl⟩
 refine .as rfl (.nt hK2 ?_)
 refine .seq fun _ hK3 => ?_
 refine .sr fun _ hK4 => ?_
 refine .v (.loadBoxG ag25 rfl bsp rfl rfl) ?_
 refine AK.call co15 rfl (fun w hw => s_refvalidate w _ d (h0.at hw)) trivial rfl ?_
 rintro r o ⟨rfl, rfl⟩
 refine .v (.neq rfl rfl) ?_
 refine .nt hK4 ?_
 refine AK.condNe rfl (fun hc0 => ?_) (fun hc0 => ?_)
 ·have hnv : ¬ VD d := fun h => hc0 ((errV_iff d).2 h)
  have hce : ClsV d = [] := if_neg hnv
  refine .sr fun _ hK5 => ?_
  refine .mv rfl ?_
  refine .v (.lenR sl26 rfl rdp) ?_
  refine .v (.eql rfl rfl) ?_
  refine .mv rfl ?_
  refine AK.knownT (g := 12) rfl (decide_eq_true (by rw [hce]; rfl)) (fun hg_3_3 => ?_)
  refine AK.call co16 rfl (fun w hw => s_awake w) ⟨_, rfl, congrArg (fun b => some (Value.bool b)) hg_3_3⟩ rfl ?_
  rintro r o ⟨rfl, rfl⟩
  refine .v (.pickT rfl (hg_3_3) rfl) ?_
  refine .as rfl (.nt hK5 (.ret (.then_ret ?_)))
  refine AK.ret1 rfl rfl (fun w hw => ⟨_, _, ?_, rfl, Ret.of (hw.pick [] (by decide) rfl rfl)⟩)
  exact ⟨rfl, rfl⟩
 ·have hv : VD d := (errV_iff d).1 hc0
  have hce : ClsV d = clsD d := if_pos hv
  have hn5 := hv.n
  refine .skip ?_
  refine AK.then_ (hK3 _ ?_)
  refine .seq fun _ hK6 => ?_
  refine .sr fun _ hK7 => ?_
  refine .v (.fieldAddr fd25_2 rfl) ?_
  refine .v (.loadBox on22 rfl bsp rfl) ?_
  refine .v (.lenR sl22 rfl rdp) ?_
  refine .v (.gtr rfl rfl) ?_
  refine .nt hK7 ?_
  refine AK.condD rfl (fun hc1 => ?_) (fun hc1 => ?_)
  ·refine .sr fun _ hK8 => ?_
   refine AK.call co16 rfl (fun w hw => s_awake w) trivial rfl ?_
   rintro r o ⟨rfl, rfl⟩
   refine .as rfl (.nt hK8 (.ret (.then_ret ?_)))
   refine AK.ret1 rfl rfl (fun w hw => ⟨_, _, ?_, rfl, Ret.of (hw.pick [] (by decide) rfl rfl)⟩)
   exact ⟨rfl, rfl⟩
  ·refine .skip ?_
   refine AK.then_ (hK6 _ ?_)
   refine .sr fun _ hK9 => ?_
   refine .mv rfl ?_
   refine .v (.loadBoxG ag25 rfl bsp rfl rfl) ?_
   refine AK.call co18 rfl (fun w hw => s_refclasses w _ d (h0.at hw) hv) trivial rfl ?_
   rintro cw o ⟨scw, rfl⟩
   refine AK.call co17 rfl (fun w hw => s_same w cv cw (ClsV d) (clsD d) (RdL.own 1 hw rfl) (RdL.own 2 hw rfl) (by rw [hce, cls_len]; omega)) trivial rfl ?_
   rintro r o ⟨rfl, rfl⟩
   refine .mv rfl ?_
   refine AK.knownT (g := 24) rfl (decide_eq_true hce) (fun hg_6_4 => ?_)
   refine AK.call co16 rfl (fun w hw => s_awake w) ⟨_, rfl, congrArg (fun b => some (Value.bool b)) hg_6_4⟩ rfl ?_
   rintro r o ⟨rfl, rfl⟩
   refine .v (.pickT rfl (hg_6_4) rfl) ?_
   refine .as rfl (.nt hK9 (.ret ?_))
   refine AK.ret1 rfl rfl (fun w hw => ⟨_, _, ?_, rfl, Ret.of (hw.pick [] (by decide) rfl rfl)⟩)
   exact ⟨rfl, rfl⟩

set_option maxHeartbeats 600000 in
set_option maxRecDepth 100000 in
theorem l_minimal (w : World) (v : Value) (d : Dfa) (h : RdD (fun _ => False) w v d) : CallS Try.prog 4 [v] w (fun r o => r = .bool true ∧ o = []) := by
 have h0 := h
 obtain ⟨vF, vN, rfl, hF, hN⟩ := h
 have hF0 := hF
 have hN0 := hN
 obtain ⟨rs, hrl, hNr, hNi⟩ := hN
 have sF := hF.sl
 have sN := hNr.sl
 have hmf := hF.le
 have hmn := hNr.le
 unfold RdL at hF
 refine spec_of Try.func4 rfl (Nat.le_of_ble_eq_true rfl) ?_
 refine .sr fun _ hK1 => ?_
 refine AK.box_ (E := 25) (cs := [.int .i64 d.L, .int .i64 d.s, vF, vN]) rfl rfl rfl trivial rfl (fun bx1 => ?_)
 refine .as rfl (.nt hK1 ?_)
 refine .sr fun _ hK2 => ?_
 refine .v (.loadBoxG ag25 rfl bsp rfl rfl) ?_
 refine AK.call co19 rfl (fun w hw => s_min w _ d (h0.at hw)) trivial rfl ?_
 rintro r o ⟨mF, mN, mrs, rfl, hmrs, smF, smN, rfl⟩
 refine AK.alloc el25 rfl rfl trivial rfl (fun bx3 => ?_)
 refine AK.storeBox 4 (us := [.int .i64 (MinV d).L, .int .i64 (MinV d).s, mF, mN]) (cs' := [.int .i64 (MinV d).L, .int .i64 (MinV d).s, mF, mN]) rfl sz25 rfl rfl rfl rfl oneP (Nat.le_of_ble_eq_true rfl) rfl trivial ?_
 refine .nt hK2 ?_
 refine .seq fun _ hK3 => ?_
 refine .sr fun _ hK4 => ?_
 refine .v (.loadBoxG ag25 rfl bsp rfl rfl) ?_
 refine AK.call co15 rfl (fun w hw => s_refvalidate w _ d (h0.at hw)) trivial rfl ?_
 rintro r o ⟨rfl, rfl⟩
 refine .v (.neq rfl rfl) ?_
 refine .nt hK4 ?_
 refine AK.condNe rfl (fun hc0 => ?_) (fun hc0 => ?_)
 ·have hnv : ¬ VD d := fun h => hc0 ((errV_iff d).2 h)
  have e1 : MinV d = nilD := if_neg hnv
  refine .sr fun _ hK5 => ?_
  refine .v (.loadBoxG ag25 rfl bsp rfl rfl) ?_
  refine .v (.build (parts := []) (cs := #[.int .i64 0, .int .i64 0, .slice none 0 0, .slice none 0 0]) rfl (by kernel_rfl)) ?_
  refine AK.call co20 rfl (fun w hw => s_sameD w _ _ (MinV d) nilD (RdD.own 1 hw hmrs rfl rfl rfl) rd_nilD) trivial rfl ?_
  rintro r o ⟨rfl, rfl⟩
  refine .mv rfl ?_
  refine AK.knownT (g := 12) rfl (decide_eq_true e1) (fun hg_3_3 => ?_)
  refine AK.call co16 rfl (fun w hw => s_awake w) ⟨_, rfl, congrArg (fun b => some (Value.bool b)) hg_3_3⟩ rfl ?_
  rintro r o ⟨rfl, rfl⟩
  refine .v (.pickT rfl (hg_3_3) rfl) ?_
  refine .as rfl (.nt hK5 (.ret (.then_ret ?_)))
  refine AK.ret1 rfl rfl (fun w hw => ⟨_, _, ?_, rfl, Ret.of (hw.pick [] (by decide) rfl rfl)⟩)
  exact ⟨rfl, rfl⟩
 ·have hv : VD d := (errV_iff d).1 hc0
  have e1 : MinV d = minD d := if_pos hv
  refine .skip ?_
  refine AK.then_ (hK3 _ ?_)
  refine .seq fun _ hK6 => ?_
  refine .sr fun _ hK7 => ?_
  refine .v (.fieldAddr fd25_2 rfl) ?_
  refine .v (.loadBox on22 rfl bsp rfl) ?_
  refine .v (.lenR sl22 rfl rdp) ?_
  refine .v (.gtr rfl rfl) ?_
  refine .nt hK7 ?_
  refine AK.condD rfl (fun hc1 => ?_) (fun hc1 => ?_)
  ·refine .sr fun _ hK8 => ?_
   refine AK.call co16 rfl (fun w hw => s_awake w) trivial rfl ?_
   rintro r o ⟨rfl, rfl⟩
   refine .as rfl (.nt hK8 (.ret (.then_ret ?_)))
   refine AK.ret1 rfl rfl (fun w hw => ⟨_, _, ?_, rfl, Ret.of (hw.pick [] (by decide) rfl rfl)⟩)
   exact ⟨rfl, rfl⟩
  ·refine .skip ?_
   refine AK.then_ (hK6 _ ?_)
   refine .seq fun _ hK9 => ?_
   try (conv => enter [2, 2]; dsimp only [List.set_cons_zero, List.set_cons_succ, List.cons_append, List.nil_append])
   refine AK.held 8 mixed ?_
   refine HeldK.first 0 (fuel := 7) (listed' := (lb 8 1)) _ rfl krf krf rfl (Yl.loadBoxG ag25 rfl bsp rfl rfl) trivial rfl ?_
   refine HeldK.first 1 (fuel := 6) (listed' := (lb 8 3)) _ rfl krf krf rfl (Yl.loadBoxG ag25 rfl bsp rfl rfl) trivial rfl ?_
   refine HeldK.one 2 (fuel := 5) (listed' := (lb 8 7)) krf rfl krf ?_
   refine AK.call co21 rfl (fun w hw => s_refmin w _ d (h0.at hw) hv) trivial rfl ?_
   rintro r o ⟨uF, uN, urs, rfl, hurs, suF, suN, rfl⟩
   refine .nil ?_
   try (conv => enter [2, 2]; dsimp only [List.set_cons_zero, List.set_cons_succ, List.cons_append, List.nil_append])
   refine HeldK.back hle ?_
   refine HeldK.one 3 (fuel := 4) (listed' := (lb 8 15)) krf rfl krf ?_
   refine AK.call co20 rfl (fun w hw => s_sameD w _ _ (MinV d) (minD d) (RdD.own 1 hw hmrs rfl rfl rfl) (RdD.own 5 hw hurs rfl rfl rfl)) trivial rfl ?_
   rintro r o ⟨rfl, rfl⟩
   refine .nil ?_
   try (conv => enter [2, 2]; dsimp only [List.set_cons_zero, List.set_cons_succ, List.cons_append, List.nil_append])
   refine HeldK.back hle ?_
   refine HeldK.first 4 (fuel := 3) (listed' := (lb 8 31)) _ rfl krf krf rfl (Yl.move rfl) trivial rfl ?_
   refine HeldK.one 5 (fuel := 2) (listed' := (lb 8 63)) krf rfl krf ?_
   refine AK.knownT (g := 24) rfl (decide_eq_true e1) (fun hg_6_4 => ?_)
   refine AK.call co16 rfl (fun w hw => s_awake w) ⟨_, rfl, congrArg (fun b => some (Value.bool b)) hg_6_4⟩ rfl ?_
   rintro r o ⟨rfl, rfl⟩
   refine .nil ?_
   try (conv => enter [2, 2]; dsimp only [List.set_cons_zero, List.set_cons_succ, List.cons_append, List.nil_append])
   refine HeldK.back hle ?_
   refine HeldK.first 6 (fuel := 1) (listed' := (lb 8 127)) _ rfl krf krf rfl (Yl.pickT rfl (hg_6_4) rfl) trivial rfl ?_
   refine HeldK.first 7 (fuel := 0) (listed' := (lb 8 255)) _ rfl krf krf rfl (Yl.assign rfl) trivial rfl ?_
   refine HeldK.done krf ?_
   refine AK.then_ (hK9 _ ?_)
   refine .ret ?_
   refine AK.ret1 rfl rfl (fun w hw => ⟨_, _, ?_, rfl, Ret.of (hw.pick [] (by decide) rfl rfl)⟩)
   exact ⟨rfl, rfl⟩

theorem minV_facts {d : Dfa} (hv : VD d) : MinV d = minD d ∧ TrimV (minD d) = minD d ∧ MinV (minD d) = minD d ∧ NumV (minD d) = numT (minD d) ∧ ClsV (minD d) = (List.range (minD d).fin.length).map (fun (i : Nat) => (i : Int)) := by
  have hm := min_vd hv
  exact ⟨if_pos hv, (if_pos hm).trans (min_trimmed hv), (if_pos hm).trans (min_min hv), if_pos hm, (if_pos hm).trans (min_cls hv)⟩
set_option maxHeartbeats 2000000 in
set_option maxRecDepth 100000 in
theorem l_keeps (w : World) (v : Value) (d : Dfa) (h : RdD (fun _ => False) w v d) (l : List UInt8) (hm : l.length ≤ 9223372036854775807) : CallS Try.prog 6 [v, sv l] w (fun r o => r = .bool true ∧ o = []) := by
 have h0 := h
 obtain ⟨vF, vN, rfl, hF, hN⟩ := h
 have hF0 := hF
 have hN0 := hN
 obtain ⟨rs, hrl, hNr, hNi⟩ := hN
 have sF := hF.sl
 have sN := hNr.sl
 have hmf := hF.le
 have hmn := hNr.le
 unfold RdL at hF
 refine spec_of Try.func6 rfl (Nat.le_of_ble_eq_true rfl) ?_
 refine .sr fun _ hK1 => ?_
 refine AK.box_ (E := 25) (cs := [.int .i64 d.L, .int .i64 d.s, vF, vN]) rfl rfl rfl trivial rfl (fun bx2 => ?_)
 refine .as rfl (.nt hK1 ?_)
 refine .seq fun _ hK2 => ?_
 refine .sr fun _ hK3 => ?_
 refine .v (.loadBoxG ag25 rfl bsp rfl rfl) ?_
 refine AK.call co22 rfl (fun w hw => s_small w _ d (h0.at hw) 30) trivial rfl ?_
 rintro r o ⟨rfl, rfl⟩
 refine .v (.not rfl) ?_
 refine .nt hK3 ?_
 refine AK.condB rfl (fun hc0 => ?_) (fun hc0 => ?_)
 ·refine .sr fun _ hK4 => ?_
  refine AK.call co16 rfl (fun w hw => s_awake w) trivial rfl ?_
  rintro r o ⟨rfl, rfl⟩
  refine .as rfl (.nt hK4 (.ret (.then_ret ?_)))
  refine AK.ret1 rfl rfl (fun w hw => ⟨_, _, ?_, rfl, Ret.of (hw.pick [] (by decide) rfl rfl)⟩)
  exact ⟨rfl, rfl⟩
 ·have hv : VD d := (by simpa using hc0 : _ ∧ VD d).2
  obtain ⟨e1, e2, e3, e4, e5⟩ := minV_facts hv
  have hmv := min_vd hv
  have hml := min_len hv
  have hn5 := hv.n
  refine .skip ?_
  refine AK.then_ (hK2 _ ?_)
  refine .sr fun _ hK5 => ?_
  refine .v (.loadBoxG ag25 rfl bsp rfl rfl) ?_
  refine AK.call co19 rfl (fun w hw => s_min w _ d (h0.at hw)) trivial rfl ?_
  rintro r o ⟨mF, mN, mrs, rfl, hmrs, smF, smN, rfl⟩
  rw [e1] at hmrs
  rw [e1]
  refine AK.alloc el25 rfl rfl trivial rfl (fun bx5 => ?_)
  refine AK.storeBox 4 (us := [.int .i64 (minD d).L, .int .i64 (minD d).s, mF, mN]) (cs' := [.int .i64 (minD d).L, .int .i64 (minD d).s, mF, mN]) rfl sz25 rfl rfl rfl rfl oneP (Nat.le_of_ble_eq_true rfl) rfl trivial ?_
  refine .nt hK5 ?_
  refine .sr fun _ hK6 => ?_
  refine .v (.loadBoxG ag25 rfl bsp rfl rfl) ?_
  refine AK.call co24 rfl (fun w hw => s_trim w _ (minD d) (RdD.own 1 hw hmrs rfl rfl rfl)) trivial rfl ?_
  rintro r o ⟨tF, tN, tM, trs, rfl, htrs, stF, stN, stM, rfl⟩
  rw [e2] at htrs
  rw [e2]
  refine .mv rfl ?_
  refine .v (.extract rfl rfl) ?_
  refine .v (.extract rfl rfl) ?_
  refine AK.alloc el25 rfl rfl trivial rfl (fun bx6 => ?_)
  refine AK.storeBox 9 (us := [.int .i64 (minD d).L, .int .i64 (minD d).s, tF, tN]) (cs' := [.int .i64 (minD d).L, .int .i64 (minD d).s, tF, tN]) rfl sz25 rfl rfl rfl rfl oneP (Nat.le_of_ble_eq_true rfl) rfl trivial ?_
  refine .as rfl (.nt hK6 ?_)
  refine .seq fun _ hK7 => ?_
  try (conv => enter [2, 2]; dsimp only [List.set_cons_zero, List.set_cons_succ, List.cons_append, List.nil_append])
  refine AK.held 45 mixed ?_
  refine HeldK.first 0 (fuel := 44) (listed' := (lb 45 1)) _ rfl krf krf rfl (Yl.loadBoxG ag25 rfl bsp rfl rfl) trivial rfl ?_
  refine HeldK.one 1 (fuel := 43) (listed' := (lb 45 3)) krf rfl krf ?_
  refine AK.call co23 rfl (fun w hw => s_validate w _ (minD d) (RdD.own 1 hw hmrs rfl rfl rfl)) trivial rfl ?_
  rintro r o ⟨rfl, rfl⟩
  refine .nil ?_
  try (conv => enter [2, 2]; dsimp only [List.set_cons_zero, List.set_cons_succ, List.cons_append, List.nil_append])
  refine HeldK.back hle ?_
  refine HeldK.first 2 (fuel := 42) (listed' := (lb 45 7)) _ rfl krf krf rfl (Yl.eql rfl rfl) trivial rfl ?_
  refine HeldK.first 3 (fuel := 41) (listed' := (lb 45 15)) _ rfl krf krf rfl (Yl.move rfl) trivial rfl ?_
  refine AK.knownT (g := 22) rfl (decide_eq_true ((errV_iff _).2 hmv)) (fun hg_5_3 => ?_)
  refine HeldK.first 4 (fuel := 40) (listed' := (lb 45 31)) _ rfl krf krf rfl (Yl.fieldAddr fd25_2 rfl) ⟨_, rfl, congrArg (fun b => some (Value.bool b)) hg_5_3⟩ rfl ?_
  refine HeldK.first 5 (fuel := 39) (listed' := (lb 45 63)) _ rfl krf krf rfl (Yl.loadBox on22 rfl bsp rfl) ⟨_, rfl, congrArg (fun b => some (Value.bool b)) hg_5_3⟩ rfl ?_
  refine HeldK.first 6 (fuel := 38) (listed' := (lb 45 127)) _ rfl krf krf rfl (Yl.lenR sl22 rfl rdp) ⟨_, rfl, congrArg (fun b => some (Value.bool b)) hg_5_3⟩ rfl ?_
  refine HeldK.first 7 (fuel := 37) (listed' := (lb 45 255)) _ rfl krf krf rfl (Yl.fieldAddr fd25_2 rfl) ⟨_, rfl, congrArg (fun b => some (Value.bool b)) hg_5_3⟩ rfl ?_
  refine HeldK.first 8 (fuel := 36) (listed' := (lb 45 511)) _ rfl krf krf rfl (Yl.loadBox on22 rfl bsp rfl) ⟨_, rfl, congrArg (fun b => some (Value.bool b)) hg_5_3⟩ rfl ?_
  refine HeldK.first 9 (fuel := 35) (listed' := (lb 45 1023)) _ rfl krf krf rfl (Yl.lenR sl22 rfl rdp) ⟨_, rfl, congrArg (fun b => some (Value.bool b)) hg_5_3⟩ rfl ?_
  refine HeldK.first 10 (fuel := 34) (listed' := (lb 45 2047)) _ rfl krf krf rfl (Yl.leq rfl rfl) ⟨_, rfl, congrArg (fun b => some (Value.bool b)) hg_5_3⟩ rfl ?_
  refine HeldK.first 11 (fuel := 33) (listed' := (lb 45 4095)) _ rfl krf krf rfl (Yl.pickT rfl (hg_5_3) rfl) trivial rfl ?_
  refine HeldK.first 12 (fuel := 32) (listed' := (lb 45 8191)) _ rfl krf krf rfl (Yl.move rfl) trivial rfl ?_
  refine AK.knownT (g := 31) rfl (decide_eq_true (by omega)) (fun hg_5_12 => ?_)
  refine HeldK.first 13 (fuel := 31) (listed' := (lb 45 16383)) _ rfl krf krf rfl (Yl.loadBoxG ag25 rfl bsp rfl rfl) ⟨_, rfl, congrArg (fun b => some (Value.bool b)) hg_5_12⟩ rfl ?_
  refine HeldK.first 14 (fuel := 30) (listed' := (lb 45 32767)) _ rfl krf krf rfl (Yl.move rfl) ⟨_, rfl, congrArg (fun b => some (Value.bool b)) hg_5_12⟩ rfl ?_
  refine HeldK.first 16 (fuel := 29) (listed' := (lb 45 98303)) _ rfl krf krf rfl (Yl.loadBoxG ag25 rfl bsp rfl rfl) ⟨_, rfl, congrArg (fun b => some (Value.bool b)) hg_5_12⟩ rfl ?_
  refine HeldK.first 17 (fuel := 28) (listed' := (lb 45 229375)) _ rfl krf krf rfl (Yl.move rfl) ⟨_, rfl, congrArg (fun b => some (Value.bool b)) hg_5_12⟩ rfl ?_
  refine HeldK.one 15 (fuel := 27) (listed' := (lb 45 262143)) krf rfl krf ?_
  refine AK.call co25 rfl (fun w hw => s_acc w _ (minD d) (RdD.own 1 hw hmrs rfl rfl rfl) l hm) ⟨_, rfl, congrArg (fun b => some (Value.bool b)) hg_5_12⟩ rfl ?_
  rintro r o ⟨rfl, rfl⟩
  refine .nil ?_
  try (conv => enter [2, 2]; dsimp only [List.set_cons_zero, List.set_cons_succ, List.cons_append, List.nil_append])
  refine HeldK.back hle ?_
  refine HeldK.one 18 (fuel := 26) (listed' := (lb 45 524287)) krf rfl krf ?_
  refine AK.call co25 rfl (fun w hw => s_acc w _ d (h0.at hw) l hm) ⟨_, rfl, congrArg (fun b => some (Value.bool b)) hg_5_12⟩ rfl ?_
  rintro r o ⟨rfl, rfl⟩
  refine .nil ?_
  try (conv => enter [2, 2]; dsimp only [List.set_cons_zero, List.set_cons_succ, List.cons_append, List.nil_append])
  refine HeldK.back hle ?_
  refine HeldK.first 19 (fuel := 25) (listed' := (lb 45 1048575)) _ rfl krf krf rfl (Yl.eqlB bo4 rfl rfl) ⟨_, rfl, congrArg (fun b => some (Value.bool b)) hg_5_12⟩ rfl ?_
  refine HeldK.first 20 (fuel := 24) (listed' := (lb 45 2097151)) _ rfl krf krf rfl (Yl.pickT rfl (hg_5_12) rfl) trivial rfl ?_
  refine HeldK.first 21 (fuel := 23) (listed' := (lb 45 4194303)) _ rfl krf krf rfl (Yl.move rfl) trivial rfl ?_
  refine AK.knownT (g := 40) rfl (by rw [min_acc hv]; exact beq_self_eq_true _) (fun hg_5_21 => ?_)
  refine HeldK.first 22 (fuel := 22) (listed' := (lb 45 8388607)) _ rfl krf krf rfl (Yl.loadBoxG ag25 rfl bsp rfl rfl) ⟨_, rfl, congrArg (fun b => some (Value.bool b)) hg_5_21⟩ rfl ?_
  refine HeldK.first 23 (fuel := 21) (listed' := (lb 45 16777215)) _ rfl krf krf rfl (Yl.loadBoxG ag25 rfl bsp rfl rfl) ⟨_, rfl, congrArg (fun b => some (Value.bool b)) hg_5_21⟩ rfl ?_
  refine HeldK.one 24 (fuel := 20) (listed' := (lb 45 33554431)) krf rfl krf ?_
  refine AK.call co20 rfl (fun w hw => s_sameD w _ _ (minD d) (minD d) (RdD.own 5 hw htrs rfl rfl rfl) (RdD.own 1 hw hmrs rfl rfl rfl)) ⟨_, rfl, congrArg (fun b => some (Value.bool b)) hg_5_21⟩ rfl ?_
  rintro r o ⟨rfl, rfl⟩
  refine .nil ?_
  try (conv => enter [2, 2]; dsimp only [List.set_cons_zero, List.set_cons_succ, List.cons_append, List.nil_append])
  refine HeldK.back hle ?_
  refine HeldK.first 25 (fuel := 19) (listed' := (lb 45 67108863)) _ rfl krf krf rfl (Yl.pickT rfl (hg_5_21) rfl) trivial rfl ?_
  refine HeldK.first 26 (fuel := 18) (listed' := (lb 45 134217727)) _ rfl krf krf rfl (Yl.move rfl) trivial rfl ?_
  refine AK.knownT (g := 45) rfl (decide_eq_true rfl) (fun hg_5_26 => ?_)
  refine HeldK.first 27 (fuel := 17) (listed' := (lb 45 268435455)) _ rfl krf krf rfl (Yl.loadBoxG ag25 rfl bsp rfl rfl) ⟨_, rfl, congrArg (fun b => some (Value.bool b)) hg_5_26⟩ rfl ?_
  refine HeldK.first 29 (fuel := 16) (listed' := (lb 45 805306367)) _ rfl krf krf rfl (Yl.loadBoxG ag25 rfl bsp rfl rfl) ⟨_, rfl, congrArg (fun b => some (Value.bool b)) hg_5_26⟩ rfl ?_
  refine HeldK.one 28 (fuel := 15) (listed' := (lb 45 1073741823)) krf rfl krf ?_
  refine AK.call co19 rfl (fun w hw => s_min w _ (minD d) (RdD.own 1 hw hmrs rfl rfl rfl)) ⟨_, rfl, congrArg (fun b => some (Value.bool b)) hg_5_26⟩ rfl ?_
  rintro r o ⟨uF, uN, urs, rfl, hurs, suF, suN, rfl⟩
  rw [e3] at hurs
  rw [e3]
  refine .nil ?_
  try (conv => enter [2, 2]; dsimp only [List.set_cons_zero, List.set_cons_succ, List.cons_append, List.nil_append])
  refine HeldK.back hle ?_
  refine HeldK.one 30 (fuel := 14) (listed' := (lb 45 2147483647)) krf rfl krf ?_
  refine AK.call co20 rfl (fun w hw => s_sameD w _ _ (minD d) (minD d) (RdD.own 10 hw hurs rfl rfl rfl) (RdD.own 1 hw hmrs rfl rfl rfl)) ⟨_, rfl, congrArg (fun b => some (Value.bool b)) hg_5_26⟩ rfl ?_
  rintro r o ⟨rfl, rfl⟩
  refine .nil ?_
  try (conv => enter [2, 2]; dsimp only [List.set_cons_zero, List.set_cons_succ, List.cons_append, List.nil_append])
  refine HeldK.back hle ?_
  refine HeldK.first 31 (fuel := 13) (listed' := (lb 45 4294967295)) _ rfl krf krf rfl (Yl.pickT rfl (hg_5_26) rfl) trivial rfl ?_
  refine HeldK.first 32 (fuel := 12) (listed' := (lb 45 8589934591)) _ rfl krf krf rfl (Yl.move rfl) trivial rfl ?_
  refine AK.knownT (g := 51) rfl (decide_eq_true rfl) (fun hg_5_32 => ?_)
  refine HeldK.first 33 (fuel := 11) (listed' := (lb 45 17179869183)) _ rfl krf krf rfl (Yl.loadBoxG ag25 rfl bsp rfl rfl) ⟨_, rfl, congrArg (fun b => some (Value.bool b)) hg_5_32⟩ rfl ?_
  refine HeldK.first 35 (fuel := 10) (listed' := (lb 45 51539607551)) _ rfl krf krf rfl (Yl.fieldAddr fd25_2 rfl) ⟨_, rfl, congrArg (fun b => some (Value.bool b)) hg_5_32⟩ rfl ?_
  refine HeldK.first 36 (fuel := 9) (listed' := (lb 45 120259084287)) _ rfl krf krf rfl (Yl.loadBox on22 rfl bsp rfl) ⟨_, rfl, congrArg (fun b => some (Value.bool b)) hg_5_32⟩ rfl ?_
  refine HeldK.first 37 (fuel := 8) (listed' := (lb 45 257698037759)) _ rfl krf krf rfl (Yl.lenR sl22 rfl rdp) ⟨_, rfl, congrArg (fun b => some (Value.bool b)) hg_5_32⟩ rfl ?_
  refine HeldK.one 34 (fuel := 7) (listed' := (lb 45 274877906943)) krf rfl krf ?_
  refine AK.call co14 rfl (fun w hw => s_classes w _ (minD d) (RdD.own 1 hw hmrs rfl rfl rfl)) ⟨_, rfl, congrArg (fun b => some (Value.bool b)) hg_5_32⟩ rfl ?_
  rintro cv o ⟨scv, rfl⟩
  refine .nil ?_
  try (conv => enter [2, 2]; dsimp only [List.set_cons_zero, List.set_cons_succ, List.cons_append, List.nil_append])
  refine HeldK.back hle ?_
  refine HeldK.one 38 (fuel := 6) (listed' := (lb 45 549755813887)) krf rfl krf ?_
  refine AK.call co26 rfl (fun w hw => s_refdisc w (minD d).fin.length (by omega)) ⟨_, rfl, congrArg (fun b => some (Value.bool b)) hg_5_32⟩ rfl ?_
  rintro dv o ⟨sdv, rfl⟩
  refine .nil ?_
  try (conv => enter [2, 2]; dsimp only [List.set_cons_zero, List.set_cons_succ, List.cons_append, List.nil_append])
  refine HeldK.back hle ?_
  refine HeldK.one 39 (fuel := 5) (listed' := (lb 45 1099511627775)) krf rfl krf ?_
  refine AK.call co17 rfl (fun w hw => s_same w cv dv (ClsV (minD d)) _ (RdL.own 13 hw rfl) (RdL.ownE 14 hw rfl (by simp) rfl) (by rw [e5, List.length_map, List.length_range]; omega)) ⟨_, rfl, congrArg (fun b => some (Value.bool b)) hg_5_32⟩ rfl ?_
  rintro r o ⟨rfl, rfl⟩
  refine .nil ?_
  try (conv => enter [2, 2]; dsimp only [List.set_cons_zero, List.set_cons_succ, List.cons_append, List.nil_append])
  refine HeldK.back hle ?_
  refine HeldK.first 40 (fuel := 4) (listed' := (lb 45 2199023255551)) _ rfl krf krf rfl (Yl.pickT rfl (hg_5_32) rfl) trivial rfl ?_
  refine HeldK.first 41 (fuel := 3) (listed' := (lb 45 4398046511103)) _ rfl krf krf rfl (Yl.move rfl) trivial rfl ?_
  refine HeldK.one 42 (fuel := 2) (listed' := (lb 45 8796093022207)) krf rfl krf ?_
  refine AK.knownT (g := 60) rfl (decide_eq_true e5) (fun hg_5_41 => ?_)
  refine AK.call co16 rfl (fun w hw => s_awake w) ⟨_, rfl, congrArg (fun b => some (Value.bool b)) hg_5_41⟩ rfl ?_
  rintro r o ⟨rfl, rfl⟩
  refine .nil ?_
  try (conv => enter [2, 2]; dsimp only [List.set_cons_zero, List.set_cons_succ, List.cons_append, List.nil_append])
  refine HeldK.back hle ?_
  refine HeldK.first 43 (fuel := 1) (listed' := (lb 45 17592186044415)) _ rfl krf krf rfl (Yl.pickT rfl (hg_5_41) rfl) trivial rfl ?_
  refine HeldK.first 44 (fuel := 0) (listed' := (lb 45 35184372088831)) _ rfl krf krf rfl (Yl.assign rfl) trivial rfl ?_
  refine HeldK.done krf ?_
  refine AK.then_ (hK7 _ ?_)
  refine .ret ?_
  refine AK.ret1 rfl rfl (fun w hw => ⟨_, _, ?_, rfl, Ret.of (hw.pick [] (by decide) rfl rfl)⟩)
  exact ⟨rfl, rfl⟩

end Go.Proofs.Ytoikhoniogicdaa
