import Derived.Test.YtckicbgffhbacaaDoorN2
import Derived.Test.YtckicbgffhbacaaDoorNe
set_option linter.unusedVariables false
set_option linter.unusedSimpArgs false
namespace Go.Proofs.YtckicbgffhbacaaDoor
open Go.Sx Go.RowKit
set_option maxRecDepth 100000 in
theorem s_tz (w : World) (s : W64) (hT : TbA w) : CallS Tryd.prog 51 [uv s] w (fun r o => r = .int .i64 ((Lib.ctz 64 s.toNat : Nat) : Int) ∧ o = []) := by
 refine spec_of Tryd.func51 rfl (Nat.le_of_ble_eq_true rfl) ?_
 refine .sr fun _ hK1 => ?_
 refine .as rfl (.nt hK1 ?_)
 refine .seq fun _ hK2 => ?_
 refine .sr fun _ hK3 => ?_
 refine .mv rfl ?_
 refine .v (.eqlU (b := 0) rfl rfl) ?_
 refine .nt hK3 ?_
 refine AK.condD rfl (fun hc0 => ?_) (fun hc0 => ?_)
 ·refine .sr fun _ hK4 => ?_
  refine .as rfl (.nt hK4 (.ret (.then_ret ?_)))
  refine AK.ret1 rfl rfl (fun w hw => ⟨_, _, ?_, rfl, Ret.of (hw.pick [] (by decide) rfl rfl)⟩)
  rw [hc0]
  exact ⟨rfl, rfl⟩
 ·obtain ⟨k, hk1, hk2, hk3⟩ := tz_key (s := s) hc0
  have hct := (low_bits hc0).1
  refine .skip ?_
  refine AK.then_ (hK2 _ ?_)
  refine .sr fun _ hK5 => ?_
  refine .mv rfl (.mv rfl ?_)
  refine .v (.negU rfl) ?_
  refine .v (.andU rfl rfl) ?_
  refine .v (.mulU (b := 285870213051353865) rfl rfl) ?_
  refine AK.val (.int .u64 (k : Int)) (Yl.valE (Yl.shrU (n := 58) rfl rfl (by omega)) (by show uv (((s &&& -s) * 285870213051353865) >>> 58) = _; rw [hk2]; exact uv_nat hk1)) trivial rfl ?_
  refine AK.val (.pointer (some ⟨0, k, none⟩)) (Yl.valE (Yl.idxArrU ar93 rfl rfl hk1) (by simp)) trivial rfl ?_
  refine AK.val (.int .u8 ((Lib.ctz 64 s.toNat : Nat) : Int)) (Yl.valE (Yl.loadTb on5 rfl hk1 hT) (by rw [hk3])) trivial rfl ?_
  refine .v (.convI (by kernel_rfl) un3 rfl (wrap_i64 (by omega))) ?_
  refine .as rfl (.nt hK5 (.ret ?_))
  refine AK.ret1 rfl rfl (fun w hw => ⟨_, _, ?_, rfl, Ret.of (hw.pick [] (by decide) rfl rfl)⟩)
  exact ⟨rfl, rfl⟩

set_option maxHeartbeats 1000000 in
set_option maxRecDepth 100000 in
theorem s_members (w : World) (s : W64) (hT : TbA w) : CallS Tryd.prog 47 [uv s] w (fun r o => IsSl r ∧ o = [row r 3 1 (mems s).length ((mI (mems s)).map (Value.int .i64))]) := by
 refine spec_of Tryd.func47 rfl (Nat.le_of_ble_eq_true rfl) ?_
 refine .sr fun _ hK1 => ?_
 refine .as rfl (.nt hK1 ?_)
 refine .sr fun _ hK2 => ?_
 refine .as rfl (.nt hK2 ?_)
 refine .seq fun _ hK3 => ?_
 refine .block ?_
 refine AK.loopK (X := W64 × Value × List Nat) [] (fun x => [(0, uv x.1), (3, x.2.1)]) (fun x => [row x.2.1 3 1 x.2.2.length ((mI x.2.2).map (Value.int .i64))]) (fun x => x.2.2 ++ mems x.1 = mems s ∧ IsSl x.2.1) (fun x => (mems x.1).length) ((s, .slice none 0 0, [])) slr ?_ ?_ ?_ ?_
 ·exact ⟨rfl, nilSl⟩
 ·exact slr
 ·exact fun w hw => by exact hw.ghost 3 1
 ·intro x hg0 _ hK4
  have sx := hg0.2
  refine .seq fun _ hK5 => ?_
  refine .sr fun _ hK6 => ?_
  refine .mv rfl ?_
  refine .v (.neqU (b := 0) rfl rfl) ?_
  refine .nt hK6 ?_
  refine AK.condNe rfl (fun hc0 => ?_) (fun hc0 => ?_)
  ·have hnx := mems_next hc0
   have hml := mems_len s
   rw [← hg0.1, hnx, List.length_append, List.length_cons] at hml
   refine .skip ?_
   refine AK.then_ (hK5 _ ?_)
   refine .seq fun _ hK7 => ?_
   refine .block ?_
   refine AK.region ?_
   refine .mv rfl (.mv rfl ?_)
   refine AK.call co51 rfl (fun w hw => s_tz w x.1 (hT.at hw)) trivial rfl ?_
   rintro r o ⟨rfl, rfl⟩
   refine AK.append1 0 rfl sl41 el3 rfl (by decide) rfl (by intro k hk; cases hk; rfl) rfl (by intro u hu; simp [Value.cells] at hu; subst hu; rfl) (by omega) (by omega) (by decide) rfl rfl (fun va _ ha => ?_)
   refine .as rfl (.nil (.block_normal ?_))
   refine AK.then_ (hK7 _ ?_)
   refine AK.region ?_
   refine .mv rfl (.mv rfl ?_)
   refine .v (.subU (b := 1) rfl rfl) ?_
   refine .v (.andU rfl rfl) ?_
   refine .as rfl (.nil ?_)
   refine AK.then_ (hK4 _ _ ((x.1 &&& (x.1 - 1), va, x.2.2 ++ [Lib.ctz 64 x.1.toNat])) ⟨by dsimp only; rw [← hg0.1, hnx, List.append_assoc]; rfl, ha⟩ (by dsimp only; rw [hnx]; simp) (slr) (fun w hw => by dsimp only; rw [mI_app, List.length_append, List.map_append]; exact hw))
  ·refine .exit (.then_exit (.then_exit (.block_exit ?_)))
   refine AK.then_ (hK3 _ ?_)
   refine .sr fun _ hK8 => ?_
   refine .mv rfl (.as rfl (.nt hK8 (.ret ?_)))
   refine AK.ret1 rfl rfl (fun w hw => ⟨_, _, ?_, rfl, Ret.of (hw.pick [0] (by decide) rfl rfl)⟩)
   have e : x.2.2 = mems s := (by rw [← hg0.1, hc0, mems_zero, List.append_nil])
   rw [← e]
   exact ⟨hg0.2, rfl⟩

set_option maxRecDepth 100000 in
theorem s_relvalid (w : World) (v : Value) (rs : List W64) (h : RdL (fun _ => False) uv w v rs) (hl : rs.length ≤ 64) (hr : ∀ j, j < rs.length → rs.getD j 0 &&& ~~~(below (rs.length : Int)) = 0) : CallS Tryd.prog 46 [v] w (fun r o => r = .bool true ∧ o = []) := by
 unfold RdL at h
 have hb := Rd.le h
 refine spec_of Tryd.func46 rfl (Nat.le_of_ble_eq_true rfl) ?_
 refine .sr fun _ hK1 => ?_
 refine .as rfl (.nt hK1 ?_)
 refine .seq fun _ hK2 => ?_
 refine .sr fun _ hK3 => ?_
 refine .mv rfl ?_
 refine .v (.lenR sl33 rfl rdp) ?_
 refine .v (.gtr rfl rfl) ?_
 refine .nt hK3 ?_
 refine AK.cond_f rfl (decide_eq_false (by omega)) ?_
 refine .skip ?_
 refine AK.then_ (hK2 _ ?_)
 refine .seq fun _ hK4 => ?_
 refine .sr fun _ hK5 => ?_
 refine .mv rfl ?_
 refine .v (.lenR sl33 rfl rdp) ?_
 refine .mv rfl (.nt hK5 (.block ?_))
 refine AK.loopK (X := Nat) [(0, _), (8, _), (9, _)] (fun k => [(10, .int .i64 (k : Int))]) (fun k => []) (fun k => k ≤ rs.length) (fun k => rs.length - k) (0) slr ?_ ?_ ?_ ?_
 ·exact Nat.zero_le _
 ·exact slr
 ·exact fun w hw => hw
 ·intro k hg0 _ hK6
  refine .sr fun _ hK7 => ?_
  refine .v (.lss rfl rfl) ?_
  refine .nt hK7 ?_
  refine .seq fun _ hK8 => ?_
  refine AK.condD rfl (fun hc1 => ?_) (fun hc1 => ?_)
  ·refine .skip ?_
   refine AK.then_ (hK8 _ ?_)
   refine .seq fun _ hK9 => ?_
   refine .block ?_
   refine .sr fun _ hK10 => ?_
   first | refine .v (.iN sl33 rfl rfl) ?_ | refine .v (.iK sl33 rfl rfl) ?_
   refine .v (.loadU on22 rfl rdp (by omega)) ?_
   refine .as rfl (.nt hK10 ?_)
   refine .sr fun _ hK11 => ?_
   refine .mv rfl (.mv rfl ?_)
   refine .v (.lenR sl33 rfl rdp) ?_
   refine AK.call co48 rfl (fun w hw => s_points w (rs.length : Int) (by omega)) trivial rfl ?_
   rintro r o ⟨rfl, rfl⟩
   refine .v (.andNotU rfl rfl) ?_
   refine .v (.neqU (b := 0) rfl rfl) ?_
   refine .nt hK11 ?_
   refine AK.cond_f rfl (decide_eq_false (not_not_intro (hr k (by omega)))) ?_
   refine .skip (.block_normal ?_)
   refine AK.then_ (hK9 _ ?_)
   refine AK.region ?_
   refine .v (.add rfl rfl (by omega)) ?_
   refine .mv rfl (.nil ?_)
   refine AK.then_ (hK6 _ _ (k + 1) (by omega) (by omega) (slr) (fun w hw => hw))
  ·refine .exit (.then_exit (.then_exit (.block_exit ?_)))
   refine AK.then_ (hK4 _ ?_)
   refine .sr fun _ hK12 => ?_
   refine .as rfl (.nt hK12 (.ret ?_))
   refine AK.ret1 rfl rfl (fun w hw => ⟨_, _, ?_, rfl, Ret.of (hw.pick [] (by decide) rfl rfl)⟩)
   exact ⟨rfl, rfl⟩

set_option maxHeartbeats 1000000 in
set_option maxRecDepth 100000 in
theorem s_image (w : World) (v : Value) (rs : List W64) (h : RdL (fun _ => False) uv w v rs) (hl : rs.length ≤ 64) (hr : ∀ j, j < rs.length → rs.getD j 0 &&& ~~~(below (rs.length : Int)) = 0) (s : W64) (hT : TbA w) : CallS Tryd.prog 37 [v, uv s] w (fun r o => r = uv (imgN rs s) ∧ o = []) := by
 have h0 := h
 unfold RdL at h
 have hb := Rd.le h
 have hml := mems_len (s &&& below (rs.length : Int))
 refine spec_of Tryd.func37 rfl (Nat.le_of_ble_eq_true rfl) ?_
 refine .sr fun _ hK1 => ?_
 refine .as rfl (.nt hK1 ?_)
 refine .seq fun _ hK2 => ?_
 refine .sr fun _ hK3 => ?_
 refine .mv rfl ?_
 refine AK.call co46 rfl (fun w hw => s_relvalid w v rs (RdL.at h0 hw) hl hr) trivial rfl ?_
 rintro r o ⟨rfl, rfl⟩
 refine .v (.not rfl) ?_
 refine .nt hK3 ?_
 refine AK.cond_f rfl (rfl) ?_
 refine .skip ?_
 refine AK.then_ (hK2 _ ?_)
 refine .sr fun _ hK4 => ?_
 refine .as rfl (.nt hK4 ?_)
 refine .seq fun _ hK5 => ?_
 refine .sr fun _ hK6 => ?_
 refine .mv rfl (.mv rfl ?_)
 refine .v (.lenR sl33 rfl rdp) ?_
 refine AK.call co48 rfl (fun w hw => s_points w (rs.length : Int) (by omega)) trivial rfl ?_
 rintro r o ⟨rfl, rfl⟩
 refine .v (.andU rfl rfl) ?_
 refine AK.call co47 rfl (fun w hw => s_members w (s &&& below (rs.length : Int)) (hT.at hw)) trivial rfl ?_
 rintro mv o ⟨smv, rfl⟩
 refine .v (.lenR sl41 rfl rdp) ?_
 refine .mv rfl (.nt hK6 (.block ?_))
 refine AK.loopK (X := Nat) [(0, _), (16, _), (17, _)] (fun k => [(5, uv (imgL rs 0 ((mems (s &&& below (rs.length : Int))).take k))), (18, .int .i64 (k : Int))]) (fun k => [row mv 3 1 (mems (s &&& below (rs.length : Int))).length ((mI (mems (s &&& below (rs.length : Int)))).map (Value.int .i64))]) (fun k => k ≤ (mems (s &&& below (rs.length : Int))).length) (fun k => (mems (s &&& below (rs.length : Int))).length - k) (0) slr ?_ ?_ ?_ ?_
 ·exact Nat.zero_le _
 ·exact slr
 ·exact fun w hw => hw
 ·intro k hg0 _ hK7
  refine .sr fun _ hK8 => ?_
  refine .v (.lss rfl rfl) ?_
  refine .nt hK8 ?_
  refine .seq fun _ hK9 => ?_
  refine AK.condD rfl (fun hc1 => ?_) (fun hc1 => ?_)
  ·have hqm := mem_lt (s := s) hl (k := k) (by omega)
   refine .skip ?_
   refine AK.then_ (hK9 _ ?_)
   refine .seq fun _ hK10 => ?_
   refine .block ?_
   refine .sr fun _ hK11 => ?_
   first | refine .v (.iN sl41 rfl rfl) ?_ | refine .v (.iK sl41 rfl rfl) ?_
   refine AK.val (.int .i64 (((mems (s &&& below (rs.length : Int))).getD k 0 : Nat) : Int)) (Yl.valE (Yl.loadI on3 rfl rdp (by rw [mI_len]; omega)) (congrArg (Value.int .i64) (mI_get (by omega)))) trivial rfl ?_
   refine .as rfl (.nt hK11 ?_)
   refine AK.region ?_
   refine .mv rfl (.mv rfl (.mv rfl ?_))
   first | refine .v (.iN sl33 rfl rfl) ?_ | refine .v (.iK sl33 rfl rfl) ?_
   refine .v (.loadU on22 rfl rdp (by omega)) ?_
   refine .v (.orU rfl rfl) ?_
   refine .as rfl (.nil (.block_normal ?_))
   refine AK.then_ (hK10 _ ?_)
   refine AK.region ?_
   refine .v (.add rfl rfl (by omega)) ?_
   refine .mv rfl (.nil ?_)
   refine AK.then_ (hK7 _ _ (k + 1) (by omega) (by omega) (.cons ((by rw [imgL_next (by omega)]; rfl)) (slr)) (fun w hw => hw))
  ·refine .exit (.then_exit (.then_exit (.block_exit ?_)))
   refine AK.then_ (hK5 _ ?_)
   refine .sr fun _ hK12 => ?_
   refine .mv rfl (.as rfl (.nt hK12 (.ret ?_)))
   refine AK.ret1 rfl rfl (fun w hw => ⟨_, _, ?_, rfl, Ret.of (hw.pick [] (by decide) rfl rfl)⟩)
   unfold imgN
   rw [show (mems (s &&& below (rs.length : Int))).take k = (mems (s &&& below (rs.length : Int))) from List.take_of_length_le (by omega)]
   exact ⟨rfl, rfl⟩

set_option maxHeartbeats 1000000 in
set_option maxRecDepth 100000 in
theorem s_refstep (w : World) (v : Value) (n : Nfa) (h : RdN (fun _ => False) w v n) (hv : VN n) (s : W64) (x : Int) : CallS Tryd.prog 28 [v, uv s, .int .i64 x] w (fun r o => r = uv (stpN n s x) ∧ o = []) := by
 have h0 := h
 obtain ⟨vE, rfl, hE⟩ := h
 have sE := Rd.sl hE
 have hme := Rd.le hE
 have hS := hv.S
 refine spec_of Tryd.func28 rfl (Nat.le_of_ble_eq_true rfl) ?_
 refine .sr fun _ hK1 => ?_
 refine AK.box_ (E := 25) (cs := [.int .i64 n.L, .int .i64 n.S, uv n.st, uv n.fi, vE]) rfl rfl rfl trivial rfl (fun bx3 => ?_)
 refine .as rfl (.nt hK1 ?_)
 refine .sr fun _ hK2 => ?_
 refine .as rfl (.nt hK2 ?_)
 refine .seq fun _ hK3 => ?_
 refine .sr fun _ hK4 => ?_
 refine .v (.fieldAddr fd25_4 rfl) ?_
 refine .v (.loadBox on23 rfl bsp rfl) ?_
 refine .v (.lenR sl23 rfl rdp) ?_
 refine .mv rfl (.nt hK4 (.block ?_))
 refine AK.loopK (X := Nat) [(1, _), (2, _), (11, _), (12, _)] (fun k => [(7, uv (stpK n.es s x k)), (13, .int .i64 (k : Int))]) (fun k => [box bx3 25 5 [.int .i64 n.L, .int .i64 n.S, uv n.st, uv n.fi, vE]]) (fun k => k ≤ n.es.length) (fun k => n.es.length - k) (0) slr ?_ ?_ ?_ ?_
 ·exact Nat.zero_le _
 ·exact slr
 ·exact fun w hw => hw
 ·intro k hg0 _ hK5
  refine .sr fun _ hK6 => ?_
  refine .v (.lss rfl rfl) ?_
  refine .nt hK6 ?_
  refine .seq fun _ hK7 => ?_
  refine AK.condD rfl (fun hc0 => ?_) (fun hc0 => ?_)
  ·have hed := hv.edge (k := k) (by omega)
   refine .skip ?_
   refine AK.then_ (hK7 _ ?_)
   refine .seq fun _ hK8 => ?_
   refine .block ?_
   refine .sr fun _ hK9 => ?_
   first | refine .v (.iN sl23 rfl rfl) ?_ | refine .v (.iK sl23 rfl rfl) ?_
   refine .v (.loadEd ag51 rfl rdp (by omega)) ?_
   refine AK.alloc el51 rfl rfl trivial rfl (fun bx9 => ?_)
   refine AK.storeBox 1 (us := ecs (n.es.getD k (0, 0, 0))) (cs' := ecs (n.es.getD k (0, 0, 0))) rfl sz51 rfl rfl rfl rfl (ecs_one _) (Nat.le_of_ble_eq_true rfl) rfl trivial ?_
   refine .nt hK9 ?_
   refine .sr fun _ hK10 => ?_
   refine .v (.fieldAddr fd51_1 rfl) ?_
   refine .v (.loadBox on3 rfl bsp rfl) ?_
   refine .mv rfl ?_
   refine .v (.eql rfl rfl) ?_
   refine .mv rfl ?_
   refine AK.splitB (g := 21) rfl (fun hg_5_4 => ?_) (fun hg_5_4 => ?_)
   ·have hg_5_4' := hg_5_4
    try simp only [bs] at hg_5_4'
    refine AK.val _ (Yl.move rfl) ⟨_, rfl, congrArg (fun b => some (Value.bool b)) hg_5_4⟩ rfl ?_
    refine AK.val _ (Yl.fieldAddr fd51_0 rfl) ⟨_, rfl, congrArg (fun b => some (Value.bool b)) hg_5_4⟩ rfl ?_
    refine AK.val _ (Yl.loadBox on3 rfl bsp rfl) ⟨_, rfl, congrArg (fun b => some (Value.bool b)) hg_5_4⟩ rfl ?_
    refine AK.call co44 rfl (fun w hw => s_has w s (n.es.getD k (0, 0, 0)).1 (by omega)) ⟨_, rfl, congrArg (fun b => some (Value.bool b)) hg_5_4⟩ rfl ?_
    rintro r o ⟨rfl, rfl⟩
    refine .v (.pickT rfl (hg_5_4) rfl) ?_
    refine .nt hK10 ?_
    refine AK.cond rfl (fun hc1 => ?_) (fun hc1 => ?_)
    ·try simp only [bs] at hc1
     refine AK.region ?_
     refine .mv rfl ?_
     refine .v (.fieldAddr fd51_2 rfl) ?_
     refine .v (.loadBox on3 rfl bsp rfl) ?_
     refine AK.call co30 rfl (fun w hw => s_bit w (n.es.getD k (0, 0, 0)).2.2 (by omega)) trivial rfl ?_
     rintro r o ⟨rfl, rfl⟩
     refine .v (.orU rfl rfl) ?_
     refine .as rfl (.nil (.block_normal ?_))
     refine AK.then_ (hK8 _ ?_)
     refine AK.region ?_
     refine .v (.add rfl rfl (by omega)) ?_
     refine .mv rfl (.nil ?_)
     first | refine AK.then_ (hK5 _ _ (k + 1) (by omega) (by omega) (.cons ((by rw [stpK_yes hg_5_4' hc1]; rfl)) (slr)) (fun w hw => hw.pick [0] (by decide) rfl rfl)) | refine AK.then_ (hK5 _ _ (k + 1) (by omega) (by omega) (.cons ((by rw [stpK_no2 hc1]; rfl)) (slr)) (fun w hw => hw.pick [0] (by decide) rfl rfl)) | refine AK.then_ (hK5 _ _ (k + 1) (by omega) (by omega) (.cons ((by rw [stpK_no1 hg_5_4']; rfl)) (slr)) (fun w hw => hw.pick [0] (by decide) rfl rfl))
    ·try simp only [bs] at hc1
     refine .skip (.block_normal ?_)
     refine AK.then_ (hK8 _ ?_)
     refine AK.region ?_
     refine .v (.add rfl rfl (by omega)) ?_
     refine .mv rfl (.nil ?_)
     first | refine AK.then_ (hK5 _ _ (k + 1) (by omega) (by omega) (.cons ((by rw [stpK_yes hg_5_4' hc1]; rfl)) (slr)) (fun w hw => hw.pick [0] (by decide) rfl rfl)) | refine AK.then_ (hK5 _ _ (k + 1) (by omega) (by omega) (.cons ((by rw [stpK_no2 hc1]; rfl)) (slr)) (fun w hw => hw.pick [0] (by decide) rfl rfl)) | refine AK.then_ (hK5 _ _ (k + 1) (by omega) (by omega) (.cons ((by rw [stpK_no1 hg_5_4']; rfl)) (slr)) (fun w hw => hw.pick [0] (by decide) rfl rfl))
   ·have hg_5_4' := hg_5_4
    try simp only [bs] at hg_5_4'
    refine AK.pass rfl rfl (hg_5_4) rfl ?_
    refine AK.pass rfl rfl (hg_5_4) rfl ?_
    refine AK.pass rfl rfl (hg_5_4) rfl ?_
    refine AK.pass rfl rfl (hg_5_4) rfl ?_
    refine .v (.pickF rfl (hg_5_4) rfl) ?_
    refine .nt hK10 ?_
    refine AK.cond_f rfl (rfl) ?_
    refine .skip (.block_normal ?_)
    refine AK.then_ (hK8 _ ?_)
    refine AK.region ?_
    refine .v (.add rfl rfl (by omega)) ?_
    refine .mv rfl (.nil ?_)
    first | refine AK.then_ (hK5 _ _ (k + 1) (by omega) (by omega) (.cons ((by rw [stpK_yes hg_5_4' hc1]; rfl)) (slr)) (fun w hw => hw.pick [0] (by decide) rfl rfl)) | refine AK.then_ (hK5 _ _ (k + 1) (by omega) (by omega) (.cons ((by rw [stpK_no2 hc1]; rfl)) (slr)) (fun w hw => hw.pick [0] (by decide) rfl rfl)) | refine AK.then_ (hK5 _ _ (k + 1) (by omega) (by omega) (.cons ((by rw [stpK_no1 hg_5_4']; rfl)) (slr)) (fun w hw => hw.pick [0] (by decide) rfl rfl))
  ·refine .exit (.then_exit (.then_exit (.block_exit ?_)))
   refine AK.then_ (hK3 _ ?_)
   refine .sr fun _ hK11 => ?_
   refine .mv rfl (.as rfl (.nt hK11 (.ret ?_)))
   refine AK.ret1 rfl rfl (fun w hw => ⟨_, _, ?_, rfl, Ret.of (hw.pick [] (by decide) rfl rfl)⟩)
   unfold stpN
   rw [show n.es.length = k by omega]
   exact ⟨rfl, rfl⟩

end Go.Proofs.YtckicbgffhbacaaDoor
