import Derived.Test.YtoikhoniogicdaaD2
import Derived.Test.YtoikhoniogicdaaMP
import Derived.Test.YtoikhoniogicdaaS2
set_option linter.unusedVariables false
set_option linter.unusedSimpArgs false
namespace Go.Proofs.Ytoikhoniogicdaa
open Go.Sx Go.RowKit
theorem kl59 : KeyL Try.prog 59 (tv : Tup 7 → Value) := keyTup ar59.1 un3 sz3
set_option maxRecDepth 100000 in
theorem s_small (w : World) (v : Value) (d : Dfa) (h : RdD (fun _ => False) w v d) (m : Int) : CallS Try.prog 22 [v, .int .i64 m] w (fun r o => r = .bool (decide ((d.fin.length : Int) ≤ m ∧ VD d)) ∧ o = []) := by
 have h0 := h
 obtain ⟨vF, vN, rfl, hF, hN⟩ := h
 have hF0 := hF
 have hN0 := hN
 obtain ⟨rs, hrl, hNr, hNi⟩ := hN
 have sF := hF.sl
 have sN := hNr.sl
 have hmf := hF.le
 have hmn := hNr.le
 unfold RdL at hF
 refine spec_of Try.func22 rfl (Nat.le_of_ble_eq_true rfl) ?_
 refine .sr fun _ hK1 => ?_
 refine AK.box_ (E := 25) (cs := [.int .i64 d.L, .int .i64 d.s, vF, vN]) rfl rfl rfl trivial rfl (fun bx2 => ?_)
 refine .as rfl (.nt hK1 ?_)
 refine .sr fun _ hK2 => ?_
 refine .v (.fieldAddr fd25_2 rfl) ?_
 refine .v (.loadBox on22 rfl bsp rfl) ?_
 refine .v (.lenR sl22 rfl rdp) ?_
 refine .mv rfl ?_
 refine .v (.leq rfl rfl) ?_
 refine .mv rfl ?_
 refine AK.splitB (g := 10) rfl (fun hg_1_5 => ?_) (fun hg_1_5 => ?_)
 ·have hg_1_5' := hg_1_5
  try simp only [bs] at hg_1_5'
  refine AK.val _ (Yl.loadBoxG ag25 rfl bsp rfl rfl) ⟨_, rfl, congrArg (fun b => some (Value.bool b)) hg_1_5⟩ rfl ?_
  refine AK.call co15 rfl (fun w hw => s_refvalidate w _ d (h0.at hw)) ⟨_, rfl, congrArg (fun b => some (Value.bool b)) hg_1_5⟩ rfl ?_
  rintro r o ⟨rfl, rfl⟩
  refine AK.val _ (Yl.eql rfl rfl) ⟨_, rfl, congrArg (fun b => some (Value.bool b)) hg_1_5⟩ rfl ?_
  refine .v (.pickT rfl (hg_1_5) rfl) ?_
  refine .as rfl (.nt hK2 (.ret ?_))
  refine AK.ret1 rfl rfl (fun w hw => ⟨_, _, ?_, rfl, Ret.of (hw.pick [] (by decide) rfl rfl)⟩)
  refine ⟨congrArg Value.bool ?_, rfl⟩
  first | exact decide_eq_decide.2 ⟨fun h => ⟨by omega, (errV_iff d).1 h⟩, fun h => (errV_iff d).2 h.2⟩ | (symm; rw [decide_eq_false_iff_not]; omega)
 ·have hg_1_5' := hg_1_5
  try simp only [bs] at hg_1_5'
  refine AK.pass rfl rfl (hg_1_5) rfl ?_
  refine AK.pass rfl rfl (hg_1_5) rfl ?_
  refine AK.pass rfl rfl (hg_1_5) rfl ?_
  refine .v (.pickF rfl (hg_1_5) rfl) ?_
  refine .as rfl (.nt hK2 (.ret ?_))
  refine AK.ret1 rfl rfl (fun w hw => ⟨_, _, ?_, rfl, Ret.of (hw.pick [] (by decide) rfl rfl)⟩)
  refine ⟨congrArg Value.bool ?_, rfl⟩
  first | exact decide_eq_decide.2 ⟨fun h => ⟨by omega, (errV_iff d).1 h⟩, fun h => (errV_iff d).2 h.2⟩ | (symm; rw [decide_eq_false_iff_not]; omega)

set_option maxHeartbeats 400000 in
set_option maxRecDepth 100000 in
theorem s_number (w : World) (v : Value) (xs : List Int) (h : RdL (fun _ => False) (Value.int .i64) w v xs) (hb0 : xs.length ≤ 100000) : CallS Try.prog 37 [v] w (fun r o => IsSl r ∧ o = [row r 3 1 xs.length ((canN xs).map (Value.int .i64))]) := by
 have hb := h.le
 unfold RdL at h
 refine spec_of Try.func37 rfl (Nat.le_of_ble_eq_true rfl) ?_
 refine .sr fun _ hK1 => ?_
 refine .as rfl (.nt hK1 ?_)
 refine .sr fun _ hK2 => ?_
 refine AK.makeMap trivial rfl (fun mb => ?_)
 refine .as rfl (.nt hK2 ?_)
 refine .sr fun _ hK3 => ?_
 refine .mv rfl ?_
 refine .v (.lenR sl26 rfl rdp) ?_
 refine AK.make1 (n := xs.length) sl26 el3 rfl rfl rfl (by omega) (by omega) trivial rfl (fun mv => ?_)
 refine AK.shape 1 rfl (fun smv => ?_)
 refine .as rfl (.nt hK3 ?_)
 refine .seq fun _ hK4 => ?_
 refine .sr fun _ hK5 => ?_
 refine .mv rfl ?_
 refine .v (.lenR sl26 rfl rdp) ?_
 refine .mv rfl (.nt hK5 (.block ?_))
 refine AK.loopK (X := Nat) [(3, _), (4, _), (13, _), (14, _)] (fun k => [(15, .int .i64 (k : Int))]) (fun k => [mapA mb (mkv (Value.int .i64) (Value.int .i64) (numM (ded (xs.take k)))), row mv 3 1 xs.length ((canN (xs.take k) ++ List.replicate (xs.length - k) 0).map (Value.int .i64))]) (fun k => k ≤ xs.length) (fun k => xs.length - k) (0) slr ?_ ?_ ?_ ?_
 ·exact Nat.zero_le _
 ·exact slr
 ·exact fun w hw => by have e : ((canN (xs.take 0) ++ List.replicate (xs.length - 0) 0).map (Value.int .i64)) = List.replicate xs.length (Value.int .i64 0) := (by simp [canN]); rw [e]; exact hw
 ·intro k hg0 _ hK6
  refine .sr fun _ hK7 => ?_
  refine .v (.lss rfl rfl) ?_
  refine .nt hK7 ?_
  refine .seq fun _ hK8 => ?_
  refine AK.condD rfl (fun hc0 => ?_) (fun hc0 => ?_)
  ·have hdl := ded_le (xs.take k)
   rw [List.length_take] at hdl
   have hnl := numM_len (ded (xs.take k))
   refine .skip ?_
   refine AK.then_ (hK8 _ ?_)
   refine .seq fun _ hK9 => ?_
   refine .block ?_
   refine .sr fun _ hK10 => ?_
   refine .mv rfl ?_
   first | refine .v (.iN sl26 rfl rfl) ?_ | refine .v (.iK sl26 rfl rfl) ?_
   refine .v (.loadI on3 rfl rdp (by omega)) ?_
   refine .as rfl (.as rfl (.nt hK10 ?_))
   refine .sr fun _ hK11 => ?_
   refine .mv rfl (.mv rfl ?_)
   refine .v (.lookup2I mp79 (keyInt un3) el3 rfl rfl msp) ?_
   refine .mv rfl ?_
   refine .v (.extract rfl rfl) ?_
   refine .v (.extract rfl rfl) ?_
   refine .as rfl (.as rfl (.nt hK11 ?_))
   refine .seq fun _ hK12 => ?_
   refine .sr fun _ hK13 => ?_
   refine .mv rfl ?_
   refine .v (.not rfl) ?_
   refine .nt hK13 ?_
   refine AK.condB rfl (fun hc1 => ?_) (fun hc1 => ?_)
   ·obtain ⟨hx, hcv⟩ := num_new hc1
    refine .sr fun _ hK14 => ?_
    refine .mv rfl ?_
    refine .v (.lenM mp79 rfl msp) ?_
    refine .as rfl (.nt hK14 ?_)
    refine AK.region ?_
    refine .mv rfl (.mv rfl (.mv rfl ?_))
    refine AK.mapSet 0 rfl mp79 (keyInt un3) rfl rfl rfl trivial ?_
    refine .nt hK12 ?_
    refine AK.region ?_
    refine .mv rfl (.mv rfl (.mv rfl ?_))
    first | refine .v (.iN sl26 rfl rfl) ?_ | refine .v (.iK sl26 rfl rfl) ?_
    refine AK.store1e 1 rfl sz3 rfl rfl rfl rfl (by omega) (cs' := ((canN (xs.take (k + 1)) ++ List.replicate (xs.length - (k + 1)) 0).map (Value.int .i64))) (by exact can_fill 0 rfl (by omega) hcv) trivial ?_
    refine .nil (.block_normal ?_)
    refine AK.then_ (hK9 _ ?_)
    refine AK.region ?_
    refine .v (.add rfl rfl (by omega)) ?_
    refine .mv rfl (.nil ?_)
    first | refine AK.then_ (hK6 _ _ (k + 1) (by omega) (by omega) (slr) (fun w hw => by rw [← ded_new 0 (by omega) hx]; exact hw)) | refine AK.then_ (hK6 _ _ (k + 1) (by omega) (by omega) (slr) (fun w hw => by rw [ded_old 0 (by omega) (by assumption)]; exact hw))
   ·obtain ⟨hx, hcv⟩ := num_old hc1
    refine .skip ?_
    refine AK.then_ (hK12 _ ?_)
    refine AK.region ?_
    refine .mv rfl (.mv rfl (.mv rfl ?_))
    first | refine .v (.iN sl26 rfl rfl) ?_ | refine .v (.iK sl26 rfl rfl) ?_
    refine AK.store1e 1 rfl sz3 rfl rfl rfl rfl (by omega) (cs' := ((canN (xs.take (k + 1)) ++ List.replicate (xs.length - (k + 1)) 0).map (Value.int .i64))) (by exact can_fill 0 rfl (by omega) hcv) trivial ?_
    refine .nil (.block_normal ?_)
    refine AK.then_ (hK9 _ ?_)
    refine AK.region ?_
    refine .v (.add rfl rfl (by omega)) ?_
    refine .mv rfl (.nil ?_)
    first | refine AK.then_ (hK6 _ _ (k + 1) (by omega) (by omega) (slr) (fun w hw => by rw [← ded_new 0 (by omega) hx]; exact hw)) | refine AK.then_ (hK6 _ _ (k + 1) (by omega) (by omega) (slr) (fun w hw => by rw [ded_old 0 (by omega) (by assumption)]; exact hw))
  ·refine .exit (.then_exit (.then_exit (.block_exit ?_)))
   refine AK.then_ (hK4 _ ?_)
   refine .sr fun _ hK15 => ?_
   refine .mv rfl (.as rfl (.nt hK15 (.ret ?_)))
   refine AK.ret1 rfl rfl (fun w hw => ⟨_, _, ?_, rfl, Ret.of (hw.pick [1] (by decide) rfl rfl)⟩)
   have e : k = xs.length := (by omega)
   refine ⟨smv, ?_⟩
   rw [e, List.take_length, Nat.sub_self, List.replicate_zero, List.append_nil]
   rfl

set_option maxHeartbeats 400000 in
set_option maxRecDepth 100000 in
theorem s_both (w : World) (u v : Value) (p q : List Int) (hu : RdL (fun _ => False) (Value.int .i64) w u p) (hv : RdL (fun _ => False) (Value.int .i64) w v q) (hp : Bdn p.length p) (hq : Bdn p.length q) (hn : p.length ≤ 512) : CallS Try.prog 38 [u, v] w (fun r o => IsSl r ∧ o = [row r 3 1 p.length ((canN (bothL p q)).map (Value.int .i64))]) := by
 have hql := hq.1
 unfold RdL at hu hv
 refine spec_of Try.func38 rfl (Nat.le_of_ble_eq_true rfl) ?_
 refine .sr fun _ hK1 => ?_
 refine .as rfl (.nt hK1 ?_)
 refine .sr fun _ hK2 => ?_
 refine .mv rfl ?_
 refine .v (.lenR sl26 rfl rdp) ?_
 refine AK.make1 (n := p.length) sl26 el3 rfl rfl rfl (by omega) (by omega) trivial rfl (fun mv => ?_)
 refine AK.shape 0 rfl (fun smv => ?_)
 refine .as rfl (.nt hK2 ?_)
 refine .seq fun _ hK3 => ?_
 refine .sr fun _ hK4 => ?_
 refine .mv rfl ?_
 refine .v (.lenR sl26 rfl rdp) ?_
 refine .mv rfl (.nt hK4 (.block ?_))
 refine AK.loopK (X := Nat) [(0, _), (1, _), (5, _), (11, _)] (fun k => [(12, .int .i64 (k : Int))]) (fun k => [row mv 3 1 p.length (((bothL p q).take k ++ List.replicate (p.length - k) 0).map (Value.int .i64))]) (fun k => k ≤ p.length) (fun k => p.length - k) (0) slr ?_ ?_ ?_ ?_
 ·exact Nat.zero_le _
 ·exact slr
 ·exact fun w hw => by have e : (((bothL p q).take 0 ++ List.replicate (p.length - 0) 0).map (Value.int .i64)) = List.replicate p.length (Value.int .i64 0) := (by simp); rw [e]; exact hw
 ·intro k hg0 _ hK5
  refine .sr fun _ hK6 => ?_
  refine .v (.lss rfl rfl) ?_
  refine .nt hK6 ?_
  refine .seq fun _ hK7 => ?_
  refine AK.condD rfl (fun hc0 => ?_) (fun hc0 => ?_)
  ·have hp1 := hp.2 k (by omega)
   have hq1 := hq.2 k (by omega)
   have hbl := bothL_len p q
   have hmul : 0 ≤ p.getD k 0 * ((p.length : Int) + 1) ∧ p.getD k 0 * ((p.length : Int) + 1) ≤ 512 * 513 := ⟨Int.mul_nonneg hp1.1 (by omega), Int.le_trans (Int.mul_le_mul_of_nonneg_right (c := (p.length : Int) + 1) (show p.getD k 0 ≤ 512 by omega) (by omega)) (by omega)⟩
   refine .skip ?_
   refine AK.then_ (hK7 _ ?_)
   refine .seq fun _ hK8 => ?_
   refine .block ?_
   refine .sr fun _ hK9 => ?_
   refine .mv rfl (.as rfl (.nt hK9 ?_))
   refine AK.stillTail 16 mixed krf (fun _ hws => ?_)
   refine .v hws (.move rfl) ?_
   refine .v hws (.move rfl) ?_
   refine .v hws (.move rfl) ?_
   refine .v hws (.move rfl) ?_
   first | refine .v hws (.iN sl26 rfl rfl) ?_ | refine .v hws (.iK sl26 rfl rfl) ?_
   refine .v hws (.loadI on3 rfl rdp (by omega)) ?_
   refine .v hws (.move rfl) ?_
   refine .v hws (.lenR sl26 rfl rdp) ?_
   refine .v hws (.add rfl rfl (by omega)) ?_
   refine .v hws (.mul rfl rfl (by omega)) ?_
   refine .v hws (.move rfl) ?_
   refine .v hws (.move rfl) ?_
   first | refine .v hws (.iN sl26 rfl rfl) ?_ | refine .v hws (.iK sl26 rfl rfl) ?_
   refine .v hws (.loadI on3 rfl rdp (by omega)) ?_
   refine .v hws (.add rfl rfl (by omega)) ?_
   first | refine .v hws (.iN sl26 rfl rfl) ?_ | refine .v hws (.iK sl26 rfl rfl) ?_
   refine SK.nil (SK.fin hws ?_)
   refine AK.store1e 0 rfl sz3 rfl rfl rfl rfl (by omega) (cs' := (((bothL p q).take (k + 1) ++ List.replicate (p.length - (k + 1)) 0).map (Value.int .i64))) (by rw [take_snocD 0 (bothL p q) k (by omega), bothL_get (by omega)]; exact fill_set (Value.int .i64) _ 0 _ p.length k (by rw [List.length_take]; omega) (by omega)) trivial ?_
   refine .nil (.block_normal ?_)
   refine AK.then_ (hK8 _ ?_)
   refine AK.region ?_
   refine .v (.add rfl rfl (by omega)) ?_
   refine .mv rfl (.nil ?_)
   refine AK.then_ (hK5 _ _ (k + 1) (by omega) (by omega) (slr) (fun w hw => hw))
  ·refine .exit (.then_exit (.then_exit (.block_exit ?_)))
   refine AK.then_ (hK3 _ ?_)
   refine .sr fun _ hK10 => ?_
   refine .mv rfl ?_
   refine AK.call co37 rfl (fun w hw => s_number w mv (bothL p q) (RdL.ownE 0 hw rfl (by rw [bothL_len]) (by rw [show k = p.length by omega, Nat.sub_self, List.replicate_zero, List.append_nil, ← bothL_len p q, List.take_length])) (by rw [bothL_len]; omega)) trivial rfl ?_
   rintro r o ⟨sr, rfl⟩
   refine .as rfl (.nt hK10 (.ret ?_))
   refine AK.ret1 rfl rfl (fun w hw => ⟨_, _, ?_, rfl, Ret.of (hw.pick [1] (by decide) rfl rfl)⟩)
   exact ⟨sr, by rw [bothL_len]; rfl⟩

end Go.Proofs.Ytoikhoniogicdaa
