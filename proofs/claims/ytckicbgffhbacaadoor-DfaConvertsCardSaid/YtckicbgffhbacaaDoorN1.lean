import Derived.Test.YtckicbgffhbacaaDoorD1
import Derived.Test.YtckicbgffhbacaaDoorNc
set_option linter.unusedVariables false
set_option linter.unusedSimpArgs false
namespace Go.Proofs.YtckicbgffhbacaaDoor
open Go.Sx Go.RowKit
set_option maxRecDepth 100000 in
theorem s_states (w : World) (x : Int) (hx : 0 ≤ x) : CallS Tryd.prog 40 [.int .i64 x] w (fun r o => r = uv (below x) ∧ o = []) := by
 refine spec_of Tryd.func40 rfl (Nat.le_of_ble_eq_true rfl) ?_
 refine .sr fun _ hK1 => ?_
 refine .as rfl (.nt hK1 ?_)
 refine .sr fun _ hK2 => ?_
 refine .mv rfl ?_
 refine .v (.shlU (a := 1) rfl rfl (by omega)) ?_
 refine .v (.subU (b := 1) rfl rfl) ?_
 refine .as rfl (.nt hK2 (.ret ?_))
 refine AK.ret1 rfl rfl (fun w hw => ⟨_, _, ?_, rfl, Ret.of (hw.pick [] (by decide) rfl rfl)⟩)
 exact ⟨rfl, rfl⟩

set_option maxRecDepth 100000 in
theorem s_points (w : World) (x : Int) (hx : 0 ≤ x) : CallS Tryd.prog 48 [.int .i64 x] w (fun r o => r = uv (below x) ∧ o = []) := by
 refine spec_of Tryd.func48 rfl (Nat.le_of_ble_eq_true rfl) ?_
 refine .sr fun _ hK1 => ?_
 refine .as rfl (.nt hK1 ?_)
 refine .sr fun _ hK2 => ?_
 refine .mv rfl ?_
 refine .v (.shlU (a := 1) rfl rfl (by omega)) ?_
 refine .v (.subU (b := 1) rfl rfl) ?_
 refine .as rfl (.nt hK2 (.ret ?_))
 refine AK.ret1 rfl rfl (fun w hw => ⟨_, _, ?_, rfl, Ret.of (hw.pick [] (by decide) rfl rfl)⟩)
 exact ⟨rfl, rfl⟩

set_option maxRecDepth 100000 in
theorem s_below (w : World) (x : Int) (hx : 0 ≤ x ∧ x ≤ 64) : CallS Tryd.prog 19 [.int .i64 x] w (fun r o => r = uv (below x) ∧ o = []) := by
 refine spec_of Tryd.func19 rfl (Nat.le_of_ble_eq_true rfl) ?_
 refine .sr fun _ hK1 => ?_
 refine .as rfl (.nt hK1 ?_)
 refine .seq fun _ hK2 => ?_
 refine .sr fun _ hK3 => ?_
 refine .mv rfl ?_
 refine .v (.geq rfl rfl) ?_
 refine .nt hK3 ?_
 refine AK.condD rfl (fun hc0 => ?_) (fun hc0 => ?_)
 ·refine .sr fun _ hK4 => ?_
  refine .as rfl (.nt hK4 (.ret (.then_ret ?_)))
  refine AK.ret1 rfl rfl (fun w hw => ⟨_, _, ?_, rfl, Ret.of (hw.pick [] (by decide) rfl rfl)⟩)
  obtain rfl : x = 64 := (by omega)
  exact ⟨congrArg (Value.int .u64) (by decide), rfl⟩
 ·refine .skip ?_
  refine AK.then_ (hK2 _ ?_)
  refine .sr fun _ hK5 => ?_
  refine .mv rfl ?_
  refine .v (.convI (by kernel_rfl) un72 rfl (wrap_u64 (by omega))) ?_
  refine .v (.shlU (a := 1) rfl rfl (by omega)) ?_
  refine .v (.subU (b := 1) rfl rfl) ?_
  refine .as rfl (.nt hK5 (.ret ?_))
  refine AK.ret1 rfl rfl (fun w hw => ⟨_, _, ?_, rfl, Ret.of (hw.pick [] (by decide) rfl rfl)⟩)
  exact ⟨rfl, rfl⟩

set_option maxRecDepth 100000 in
theorem s_bit (w : World) (x : Int) (hx : 0 ≤ x ∧ x < 64) : CallS Tryd.prog 30 [.int .i64 x] w (fun r o => r = uv (bit x) ∧ o = []) := by
 refine spec_of Tryd.func30 rfl (Nat.le_of_ble_eq_true rfl) ?_
 refine .sr fun _ hK1 => ?_
 refine .as rfl (.nt hK1 ?_)
 refine .sr fun _ hK2 => ?_
 refine .mv rfl ?_
 refine .v (.convI (by kernel_rfl) un72 rfl (wrap_u64 (by omega))) ?_
 refine .v (.shlU (a := 1) rfl rfl (by omega)) ?_
 refine .as rfl (.nt hK2 (.ret ?_))
 refine AK.ret1 rfl rfl (fun w hw => ⟨_, _, ?_, rfl, Ret.of (hw.pick [] (by decide) rfl rfl)⟩)
 exact ⟨rfl, rfl⟩

set_option maxRecDepth 100000 in
theorem s_has (w : World) (s : W64) (x : Int) (hx : 0 ≤ x ∧ x < 64) : CallS Tryd.prog 44 [uv s, .int .i64 x] w (fun r o => r = .bool (has s x) ∧ o = []) := by
 refine spec_of Tryd.func44 rfl (Nat.le_of_ble_eq_true rfl) ?_
 refine .sr fun _ hK1 => ?_
 refine .as rfl (.nt hK1 ?_)
 refine .sr fun _ hK2 => ?_
 refine .mv rfl (.mv rfl ?_)
 refine .v (.convI (by kernel_rfl) un72 rfl (wrap_u64 (by omega))) ?_
 refine .v (.shrU rfl rfl (by omega)) ?_
 refine .v (.andU (b := 1) rfl rfl) ?_
 refine .v (.eqlU (b := 1) rfl rfl) ?_
 refine .as rfl (.nt hK2 (.ret ?_))
 refine AK.ret1 rfl rfl (fun w hw => ⟨_, _, ?_, rfl, Ret.of (hw.pick [] (by decide) rfl rfl)⟩)
 exact ⟨congrArg Value.bool (has_shr s _), rfl⟩

set_option maxRecDepth 100000 in
theorem s_before (w : World) (a b : Edg) : CallS Tryd.prog 20 [ev a, ev b] w (fun r o => r = .bool (bef a b) ∧ o = []) := by
 refine spec_of Tryd.func20 rfl (Nat.le_of_ble_eq_true rfl) ?_
 refine .sr fun _ hK1 => ?_
 refine AK.box_ (E := 51) (cs := ecs a) rfl rfl rfl trivial rfl (fun bx2 => ?_)
 refine AK.box_ (E := 51) (cs := ecs b) rfl rfl rfl trivial rfl (fun bx3 => ?_)
 refine .as rfl (.nt hK1 ?_)
 refine .seq fun _ hK2 => ?_
 refine .sr fun _ hK3 => ?_
 refine .v (.fieldAddr fd51_0 rfl) ?_
 refine .v (.loadBox on3 rfl bsp rfl) ?_
 refine .v (.fieldAddr fd51_0 rfl) ?_
 refine .v (.loadBox on3 rfl bsp rfl) ?_
 refine .v (.neq rfl rfl) ?_
 refine .nt hK3 ?_
 refine AK.condNe rfl (fun hc0 => ?_) (fun hc0 => ?_)
 ·refine .sr fun _ hK4 => ?_
  refine .v (.fieldAddr fd51_0 rfl) ?_
  refine .v (.loadBox on3 rfl bsp rfl) ?_
  refine .v (.fieldAddr fd51_0 rfl) ?_
  refine .v (.loadBox on3 rfl bsp rfl) ?_
  refine .v (.lss rfl rfl) ?_
  refine .as rfl (.nt hK4 (.ret (.then_ret ?_)))
  refine AK.ret1 rfl rfl (fun w hw => ⟨_, _, ?_, rfl, Ret.of (hw.pick [] (by decide) rfl rfl)⟩)
  unfold bef; rw [if_pos (by assumption)]; exact ⟨rfl, rfl⟩
 ·refine .skip ?_
  refine AK.then_ (hK2 _ ?_)
  refine .seq fun _ hK5 => ?_
  refine .sr fun _ hK6 => ?_
  refine .v (.fieldAddr fd51_1 rfl) ?_
  refine .v (.loadBox on3 rfl bsp rfl) ?_
  refine .v (.fieldAddr fd51_1 rfl) ?_
  refine .v (.loadBox on3 rfl bsp rfl) ?_
  refine .v (.neq rfl rfl) ?_
  refine .nt hK6 ?_
  refine AK.condNe rfl (fun hc1 => ?_) (fun hc1 => ?_)
  ·refine .sr fun _ hK7 => ?_
   refine .v (.fieldAddr fd51_1 rfl) ?_
   refine .v (.loadBox on3 rfl bsp rfl) ?_
   refine .v (.fieldAddr fd51_1 rfl) ?_
   refine .v (.loadBox on3 rfl bsp rfl) ?_
   refine .v (.lss rfl rfl) ?_
   refine .as rfl (.nt hK7 (.ret (.then_ret ?_)))
   refine AK.ret1 rfl rfl (fun w hw => ⟨_, _, ?_, rfl, Ret.of (hw.pick [] (by decide) rfl rfl)⟩)
   unfold bef; rw [if_neg (not_not_intro (by assumption)), if_pos (by assumption)]; exact ⟨rfl, rfl⟩
  ·refine .skip ?_
   refine AK.then_ (hK5 _ ?_)
   refine .sr fun _ hK8 => ?_
   refine .v (.fieldAddr fd51_2 rfl) ?_
   refine .v (.loadBox on3 rfl bsp rfl) ?_
   refine .v (.fieldAddr fd51_2 rfl) ?_
   refine .v (.loadBox on3 rfl bsp rfl) ?_
   refine .v (.lss rfl rfl) ?_
   refine .as rfl (.nt hK8 (.ret ?_))
   refine AK.ret1 rfl rfl (fun w hw => ⟨_, _, ?_, rfl, Ret.of (hw.pick [] (by decide) rfl rfl)⟩)
   unfold bef; rw [if_neg (not_not_intro (by assumption)), if_neg (not_not_intro (by assumption))]; exact ⟨rfl, rfl⟩

set_option maxRecDepth 100000 in
theorem s_isnan (w : World) (x : Int) : CallS Tryd.prog 52 [.int .i64 x] w (fun r o => r = .bool false ∧ o = []) := by
 refine spec_of Tryd.func52 rfl (Nat.le_of_ble_eq_true rfl) ?_
 refine .sr fun _ hK1 => ?_
 refine .as rfl (.nt hK1 ?_)
 refine .sr fun _ hK2 => ?_
 refine .mv rfl (.mv rfl ?_)
 refine .v (.neq rfl rfl) ?_
 refine .as rfl (.nt hK2 (.ret ?_))
 refine AK.ret1 rfl rfl (fun w hw => ⟨_, _, ?_, rfl, Ret.of (hw.pick [] (by decide) rfl rfl)⟩)
 refine ⟨congrArg Value.bool ?_, rfl⟩
 simp

set_option maxRecDepth 100000 in
theorem s_cmpi (w : World) (x y : Int) : CallS Tryd.prog 50 [.int .i64 x, .int .i64 y] w (fun r o => r = .int .i64 (cmpI x y) ∧ o = []) := by
 refine spec_of Tryd.func50 rfl (Nat.le_of_ble_eq_true rfl) ?_
 refine .sr fun _ hK1 => ?_
 refine .as rfl (.nt hK1 ?_)
 refine .sr fun _ hK2 => ?_
 refine .mv rfl ?_
 refine AK.call co52 rfl (fun w hw => s_isnan w x) trivial rfl ?_
 rintro r o ⟨rfl, rfl⟩
 refine .as rfl (.nt hK2 ?_)
 refine .sr fun _ hK3 => ?_
 refine .mv rfl ?_
 refine AK.call co52 rfl (fun w hw => s_isnan w y) trivial rfl ?_
 rintro r o ⟨rfl, rfl⟩
 refine .as rfl (.nt hK3 ?_)
 refine .seq fun _ hK4 => ?_
 refine .sr fun _ hK5 => ?_
 refine .mv rfl (.nt hK5 ?_)
 refine AK.cond_f rfl (rfl) ?_
 refine .skip ?_
 refine AK.then_ (hK4 _ ?_)
 refine .seq fun _ hK6 => ?_
 refine .sr fun _ hK7 => ?_
 refine .mv rfl (.nt hK7 ?_)
 refine AK.cond_f rfl (rfl) ?_
 refine .skip ?_
 refine AK.then_ (hK6 _ ?_)
 refine .seq fun _ hK8 => ?_
 refine .sr fun _ hK9 => ?_
 refine .mv rfl (.mv rfl ?_)
 refine .v (.lss rfl rfl) ?_
 refine .nt hK9 ?_
 refine AK.condD rfl (fun hc3 => ?_) (fun hc3 => ?_)
 ·refine .sr fun _ hK10 => ?_
  refine .as rfl (.nt hK10 (.ret (.then_ret ?_)))
  refine AK.ret1 rfl rfl (fun w hw => ⟨_, _, ?_, rfl, Ret.of (hw.pick [] (by decide) rfl rfl)⟩)
  refine ⟨congrArg (Value.int .i64) ?_, rfl⟩
  unfold cmpI
  first | (rw [if_pos (by omega)]; done) | (rw [if_neg (by omega), if_pos (by omega)]; done) | (rw [if_neg (by omega), if_neg (by omega)]; done)
 ·refine .skip ?_
  refine AK.then_ (hK8 _ ?_)
  refine .seq fun _ hK11 => ?_
  refine .sr fun _ hK12 => ?_
  refine .mv rfl (.mv rfl ?_)
  refine .v (.gtr rfl rfl) ?_
  refine .nt hK12 ?_
  refine AK.condD rfl (fun hc4 => ?_) (fun hc4 => ?_)
  ·refine .sr fun _ hK13 => ?_
   refine .as rfl (.nt hK13 (.ret (.then_ret ?_)))
   refine AK.ret1 rfl rfl (fun w hw => ⟨_, _, ?_, rfl, Ret.of (hw.pick [] (by decide) rfl rfl)⟩)
   refine ⟨congrArg (Value.int .i64) ?_, rfl⟩
   unfold cmpI
   first | (rw [if_pos (by omega)]; done) | (rw [if_neg (by omega), if_pos (by omega)]; done) | (rw [if_neg (by omega), if_neg (by omega)]; done)
  ·refine .skip ?_
   refine AK.then_ (hK11 _ ?_)
   refine .sr fun _ hK14 => ?_
   refine .as rfl (.nt hK14 (.ret ?_))
   refine AK.ret1 rfl rfl (fun w hw => ⟨_, _, ?_, rfl, Ret.of (hw.pick [] (by decide) rfl rfl)⟩)
   refine ⟨congrArg (Value.int .i64) ?_, rfl⟩
   unfold cmpI
   first | (rw [if_pos (by omega)]; done) | (rw [if_neg (by omega), if_pos (by omega)]; done) | (rw [if_neg (by omega), if_neg (by omega)]; done)

set_option maxRecDepth 100000 in
theorem s_or (w : World) (v : Value) (xs : List Int) (h : RdI w v xs) : CallS Tryd.prog 49 [v] w (fun r o => r = .int .i64 (orI xs) ∧ o = []) := by
 unfold RdI at h
 have hb := Rd.le h
 refine spec_of Tryd.func49 rfl (Nat.le_of_ble_eq_true rfl) ?_
 refine .sr fun _ hK1 => ?_
 refine .as rfl (.nt hK1 ?_)
 refine .sr fun _ hK2 => ?_
 refine .as rfl (.nt hK2 ?_)
 refine .seq fun _ hK3 => ?_
 refine .sr fun _ hK4 => ?_
 refine .mv rfl ?_
 refine .v (.lenR sl41 rfl rdp) ?_
 refine .mv rfl (.nt hK4 (.block ?_))
 refine AK.loopK (X := Nat) [(3, _), (6, _), (7, _)] (fun k => [(8, .int .i64 (k : Int))]) (fun k => []) (fun k => k ≤ xs.length ∧ orI xs = orI (xs.drop k)) (fun k => xs.length - k) (0) slr ?_ ?_ ?_ ?_
 ·exact ⟨Nat.zero_le _, rfl⟩
 ·exact slr
 ·exact fun w hw => hw
 ·intro k hg0 _ hK5
  refine .sr fun _ hK6 => ?_
  refine .v (.lss rfl rfl) ?_
  refine .nt hK6 ?_
  refine .seq fun _ hK7 => ?_
  refine AK.condD rfl (fun hc0 => ?_) (fun hc0 => ?_)
  ·refine .skip ?_
   refine AK.then_ (hK7 _ ?_)
   refine .seq fun _ hK8 => ?_
   refine .block ?_
   refine .sr fun _ hK9 => ?_
   first | refine .v (.iN sl41 rfl rfl) ?_ | refine .v (.iK sl41 rfl rfl) ?_
   refine .v (.loadI on3 rfl rdp (by omega)) ?_
   refine .as rfl (.nt hK9 ?_)
   refine .sr fun _ hK10 => ?_
   refine .mv rfl (.mv rfl ?_)
   refine .v (.neq rfl rfl) ?_
   refine .nt hK10 ?_
   refine AK.condNe rfl (fun hc1 => ?_) (fun hc1 => ?_)
   ·refine .sr fun _ hK11 => ?_
    refine .mv rfl (.as rfl (.nt hK11 (.ret (.block_ret (.then_ret (.then_ret (.block_ret (.then_ret ?_))))))))
    refine AK.ret1 rfl rfl (fun w hw => ⟨_, _, ?_, rfl, Ret.of (hw.pick [] (by decide) rfl rfl)⟩)
    exact ⟨congrArg (Value.int .i64) (hg0.2.trans (orI_hit (by omega) (by assumption))).symm, rfl⟩
   ·refine .skip (.block_normal ?_)
    refine AK.then_ (hK8 _ ?_)
    refine AK.region ?_
    refine .v (.add rfl rfl (by omega)) ?_
    refine .mv rfl (.nil ?_)
    refine AK.then_ (hK5 _ _ (k + 1) ⟨by omega, hg0.2.trans (orI_drop (by omega) (by assumption))⟩ (by omega) (slr) (fun w hw => hw))
  ·refine .exit (.then_exit (.then_exit (.block_exit ?_)))
   refine AK.then_ (hK3 _ ?_)
   refine .sr fun _ hK12 => ?_
   refine .mv rfl (.as rfl (.nt hK12 (.ret ?_)))
   refine AK.ret1 rfl rfl (fun w hw => ⟨_, _, ?_, rfl, Ret.of (hw.pick [] (by decide) rfl rfl)⟩)
   exact ⟨congrArg (Value.int .i64) (hg0.2.trans (orI_end (by omega))).symm, rfl⟩

set_option maxHeartbeats 1000000 in
set_option maxRecDepth 100000 in
theorem s_cmpe (w : World) (a b : Edg) : CallS Tryd.prog 41 [ev a, ev b] w (fun r o => r = .int .i64 (cmpE a b) ∧ o = []) := by
 refine spec_of Tryd.func41 rfl (Nat.le_of_ble_eq_true rfl) ?_
 refine .sr fun _ hK1 => ?_
 refine AK.box_ (E := 51) (cs := ecs a) rfl rfl rfl trivial rfl (fun bx2 => ?_)
 refine AK.box_ (E := 51) (cs := ecs b) rfl rfl rfl trivial rfl (fun bx3 => ?_)
 refine .as rfl (.nt hK1 ?_)
 refine .seq fun _ hK2 => ?_
 refine AK.joinK (X := Unit) [] (fun z => [(4, .int .i64 (cmpE a b))]) (fun z => [box bx2 51 3 (ecs a), box bx3 51 3 (ecs b)]) (fun z => True) slr (fun _ hJ => ?_) (fun z hg => ?_)
 ·try (conv => enter [2, 2]; dsimp only [List.set_cons_zero, List.set_cons_succ, List.cons_append, List.nil_append])
  refine AK.held 18 mixed ?_
  refine HeldK.first 0 (fuel := 17) (listed' := (lb 18 1)) _ rfl krf krf rfl (Yl.fieldAddr fd51_0 rfl) trivial rfl ?_
  refine HeldK.first 1 (fuel := 16) (listed' := (lb 18 3)) _ rfl krf krf rfl (Yl.loadBox on3 rfl bsp rfl) trivial rfl ?_
  refine HeldK.first 2 (fuel := 15) (listed' := (lb 18 7)) _ rfl krf krf rfl (Yl.fieldAddr fd51_0 rfl) trivial rfl ?_
  refine HeldK.first 3 (fuel := 14) (listed' := (lb 18 15)) _ rfl krf krf rfl (Yl.loadBox on3 rfl bsp rfl) trivial rfl ?_
  refine HeldK.first 5 (fuel := 13) (listed' := (lb 18 47)) _ rfl krf krf rfl (Yl.fieldAddr fd51_1 rfl) trivial rfl ?_
  refine HeldK.first 6 (fuel := 12) (listed' := (lb 18 111)) _ rfl krf krf rfl (Yl.loadBox on3 rfl bsp rfl) trivial rfl ?_
  refine HeldK.first 7 (fuel := 11) (listed' := (lb 18 239)) _ rfl krf krf rfl (Yl.fieldAddr fd51_1 rfl) trivial rfl ?_
  refine HeldK.first 8 (fuel := 10) (listed' := (lb 18 495)) _ rfl krf krf rfl (Yl.loadBox on3 rfl bsp rfl) trivial rfl ?_
  refine HeldK.first 10 (fuel := 9) (listed' := (lb 18 1519)) _ rfl krf krf rfl (Yl.fieldAddr fd51_2 rfl) trivial rfl ?_
  refine HeldK.first 11 (fuel := 8) (listed' := (lb 18 3567)) _ rfl krf krf rfl (Yl.loadBox on3 rfl bsp rfl) trivial rfl ?_
  refine HeldK.first 12 (fuel := 7) (listed' := (lb 18 7663)) _ rfl krf krf rfl (Yl.fieldAddr fd51_2 rfl) trivial rfl ?_
  refine HeldK.first 13 (fuel := 6) (listed' := (lb 18 15855)) _ rfl krf krf rfl (Yl.loadBox on3 rfl bsp rfl) trivial rfl ?_
  refine HeldK.one 4 (fuel := 5) (listed' := (lb 18 15871)) krf rfl krf ?_
  refine AK.call co50 rfl (fun w hw => s_cmpi w a.1 b.1) trivial rfl ?_
  rintro r o ⟨rfl, rfl⟩
  refine .nil ?_
  try (conv => enter [2, 2]; dsimp only [List.set_cons_zero, List.set_cons_succ, List.cons_append, List.nil_append])
  refine HeldK.back Go.Sx.hle ?_
  refine HeldK.one 9 (fuel := 4) (listed' := (lb 18 16383)) krf rfl krf ?_
  refine AK.call co50 rfl (fun w hw => s_cmpi w a.2.1 b.2.1) trivial rfl ?_
  rintro r o ⟨rfl, rfl⟩
  refine .nil ?_
  try (conv => enter [2, 2]; dsimp only [List.set_cons_zero, List.set_cons_succ, List.cons_append, List.nil_append])
  refine HeldK.back Go.Sx.hle ?_
  refine HeldK.one 14 (fuel := 3) (listed' := (lb 18 32767)) krf rfl krf ?_
  refine AK.call co50 rfl (fun w hw => s_cmpi w a.2.2 b.2.2) trivial rfl ?_
  rintro r o ⟨rfl, rfl⟩
  refine .nil ?_
  try (conv => enter [2, 2]; dsimp only [List.set_cons_zero, List.set_cons_succ, List.cons_append, List.nil_append])
  refine HeldK.back Go.Sx.hle ?_
  refine HeldK.one 15 (fuel := 2) (listed' := (lb 18 65535)) krf rfl krf ?_
  refine AK.lit (xs := [.tmp 9, .tmp 14, .tmp 19]) sl41 el3 rfl rfl rfl (by intro a ha; simp at ha; rcases ha with rfl | rfl | rfl <;> rfl) (by decide) (by decide) trivial rfl (fun lv => ?_)
  refine .nil ?_
  try (conv => enter [2, 2]; dsimp only [List.set_cons_zero, List.set_cons_succ, List.cons_append, List.nil_append])
  refine HeldK.back Go.Sx.hle ?_
  refine HeldK.one 16 (fuel := 1) (listed' := (lb 18 131071)) krf rfl krf ?_
  refine AK.call co49 rfl (fun w hw => s_or w lv [cmpI a.1 b.1, cmpI a.2.1 b.2.1, cmpI a.2.2 b.2.2] (RdI.own 2 hw rfl)) trivial rfl ?_
  rintro r o ⟨rfl, rfl⟩
  refine .nil ?_
  try (conv => enter [2, 2]; dsimp only [List.set_cons_zero, List.set_cons_succ, List.cons_append, List.nil_append])
  refine HeldK.back Go.Sx.hle ?_
  refine HeldK.first 17 (fuel := 0) (listed' := (lb 18 262143)) _ rfl krf krf rfl (Yl.assign rfl) trivial rfl ?_
  refine HeldK.done krf ?_
  exact hJ _ _ (()) trivial (slr) (fun w hw => by first | exact hw.pickLe [0, 1] (by decide) pkl)
 ·skip
  refine AK.then_ (hK2 _ ?_)
  refine .ret ?_
  refine AK.ret1 rfl rfl (fun w hw => ⟨_, _, ?_, rfl, Ret.of (hw.pick [] (by decide) rfl rfl)⟩)
  exact ⟨rfl, rfl⟩

end Go.Proofs.YtckicbgffhbacaaDoor
