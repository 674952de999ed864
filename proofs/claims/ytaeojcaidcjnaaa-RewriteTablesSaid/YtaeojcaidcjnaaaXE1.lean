import Derived.Test.YtaeojcaidcjnaaaXD2
import Derived.Test.YtaeojcaidcjnaaaXMP
import Derived.Test.YtaeojcaidcjnaaaXS2
set_option linter.unusedVariables false
set_option linter.unusedSimpArgs false
namespace Go.Proofs.Ytaeojcaidcjnaaa
open Go.Sx Go.RowKit
theorem kl114 : KeyL Try.prog 114 (tv : Tup 7 → Value) := keyTup ar114.1 un3 sz3
set_option maxHeartbeats 400000 in
set_option maxRecDepth 100000 in
theorem s_number (w : World) (v : Value) (xs : List Int) (h : RdL (fun _ => False) (Value.int .i64) w v xs) (hb0 : xs.length ≤ 100000) : CallS Try.prog 73 [v] w (fun r o => IsSl r ∧ o = [row r 3 1 xs.length ((canN xs).map (Value.int .i64))]) := by
 have hb := h.le
 unfold RdL at h
 refine spec_of Try.func73 rfl (Nat.le_of_ble_eq_true rfl) ?_
 refine .sr fun _ hK1 => ?_
 refine .as rfl (.nt hK1 ?_)
 refine .sr fun _ hK2 => ?_
 refine AK.makeMap trivial rfl (fun mb => ?_)
 refine .as rfl (.nt hK2 ?_)
 refine .sr fun _ hK3 => ?_
 refine .mv rfl ?_
 refine .v (.lenR sl74 rfl rdp) ?_
 refine AK.make1 (n := xs.length) sl74 el3 rfl rfl rfl (by omega) (by omega) trivial rfl (fun mv => ?_)
 refine AK.shape 1 rfl (fun smv => ?_)
 refine .as rfl (.nt hK3 ?_)
 refine .seq fun _ hK4 => ?_
 refine .sr fun _ hK5 => ?_
 refine .mv rfl ?_
 refine .v (.lenR sl74 rfl rdp) ?_
 refine .mv rfl (.nt hK5 (.block ?_))
 refine AK.loopK (X := Nat) [(3, _), (4, _), (13, _), (14, _)] (fun k => [(15, .int .i64 (k : Int))]) (fun k => [mapA mb (mkv (Value.int .i64) (Value.int .i64) (numM (ded (xs.take k)))), row mv 3 1 xs.length ((canN (xs.take k) ++ List.replicate (xs.length - k) 0).map (Value.int .i64))]) (fun k => k ≤ xs.length) (fun k => xs.length - k) (0) slr ?_ ?_ ?_ ?_
 ·exact Nat.zero_le _
 ·exact slr
 ·exact fun w hw => by have e : ((canN (xs.take 0) ++ List.replicate (xs.length - 0) 0).map (Value.int .i64)) = List.replicate xs.length (Value.int .i64 0) := (by simp [canN]); rw [e]; exact hw
 ·intro k hg0 _ hK6
  refine .sr fun _ hK7 => ?_
  refine .v (.lss rfl rfl) ?_
  refine .nt hK7 ?_
  refine .seq fun _ hK8 => ?_
  refine AK.condD rfl (fun hc0 => ?_) (fun hc0 => ?_)
  ·have hdl := ded_le (xs.take k)
   rw [List.length_take] at hdl
   have hnl := numM_len (ded (xs.take k))
   refine .skip ?_
   refine AK.then_ (hK8 _ ?_)
   refine .seq fun _ hK9 => ?_
   refine .block ?_
   refine .sr fun _ hK10 => ?_
   refine .mv rfl ?_
   first | refine .v (.iN sl74 rfl rfl) ?_ | refine .v (.iK sl74 rfl rfl) ?_
   refine .v (.loadI on3 rfl rdp (by omega)) ?_
   refine .as rfl (.as rfl (.nt hK10 ?_))
   refine .sr fun _ hK11 => ?_
   refine .mv rfl (.mv rfl ?_)
   refine .v (.lookup2I mp115 (keyInt un3) el3 rfl rfl msp) ?_
   refine .mv rfl ?_
   refine .v (.extract rfl rfl) ?_
   refine .v (.extract rfl rfl) ?_
   refine .as rfl (.as rfl (.nt hK11 ?_))
   refine .seq fun _ hK12 => ?_
   refine .sr fun _ hK13 => ?_
   refine .mv rfl ?_
   refine .v (.not rfl) ?_
   refine .nt hK13 ?_
   refine AK.condB rfl (fun hc1 => ?_) (fun hc1 => ?_)
   ·obtain ⟨hx, hcv⟩ := num_new hc1
    refine .sr fun _ hK14 => ?_
    refine .mv rfl ?_
    refine .v (.lenM mp115 rfl msp) ?_
    refine .as rfl (.nt hK14 ?_)
    refine AK.region ?_
    refine .mv rfl (.mv rfl (.mv rfl ?_))
    refine AK.mapSet 0 rfl mp115 (keyInt un3) rfl rfl rfl trivial ?_
    refine .nt hK12 ?_
    refine AK.region ?_
    refine .mv rfl (.mv rfl (.mv rfl ?_))
    first | refine .v (.iN sl74 rfl rfl) ?_ | refine .v (.iK sl74 rfl rfl) ?_
    refine AK.store1e 1 rfl sz3 rfl rfl rfl rfl (by omega) (cs' := ((canN (xs.take (k + 1)) ++ List.replicate (xs.length - (k + 1)) 0).map (Value.int .i64))) (by exact can_fill 0 rfl (by omega) hcv) trivial ?_
    refine .nil (.block_normal ?_)
    refine AK.then_ (hK9 _ ?_)
    refine AK.region ?_
    refine .v (.add rfl rfl (by omega)) ?_
    refine .mv rfl (.nil ?_)
    first | refine AK.then_ (hK6 _ _ (k + 1) (by omega) (by omega) (slr) (fun w hw => by rw [← ded_new 0 (by omega) hx]; exact hw)) | refine AK.then_ (hK6 _ _ (k + 1) (by omega) (by omega) (slr) (fun w hw => by rw [ded_old 0 (by omega) (by assumption)]; exact hw))
   ·obtain ⟨hx, hcv⟩ := num_old hc1
    refine .skip ?_
    refine AK.then_ (hK12 _ ?_)
    refine AK.region ?_
    refine .mv rfl (.mv rfl (.mv rfl ?_))
    first | refine .v (.iN sl74 rfl rfl) ?_ | refine .v (.iK sl74 rfl rfl) ?_
    refine AK.store1e 1 rfl sz3 rfl rfl rfl rfl (by omega) (cs' := ((canN (xs.take (k + 1)) ++ List.replicate (xs.length - (k + 1)) 0).map (Value.int .i64))) (by exact can_fill 0 rfl (by omega) hcv) trivial ?_
    refine .nil (.block_normal ?_)
    refine AK.then_ (hK9 _ ?_)
    refine AK.region ?_
    refine .v (.add rfl rfl (by omega)) ?_
    refine .mv rfl (.nil ?_)
    first | refine AK.then_ (hK6 _ _ (k + 1) (by omega) (by omega) (slr) (fun w hw => by rw [← ded_new 0 (by omega) hx]; exact hw)) | refine AK.then_ (hK6 _ _ (k + 1) (by omega) (by omega) (slr) (fun w hw => by rw [ded_old 0 (by omega) (by assumption)]; exact hw))
  ·refine .exit (.then_exit (.then_exit (.block_exit ?_)))
   refine AK.then_ (hK4 _ ?_)
   refine .sr fun _ hK15 => ?_
   refine .mv rfl (.as rfl (.nt hK15 (.ret ?_)))
   refine AK.ret1 rfl rfl (fun w hw => ⟨_, _, ?_, rfl, Ret.of (hw.pick [1] (by decide) rfl rfl)⟩)
   have e : k = xs.length := (by omega)
   refine ⟨smv, ?_⟩
   rw [e, List.take_length, Nat.sub_self, List.replicate_zero, List.append_nil]
   rfl

set_option maxHeartbeats 400000 in
set_option maxRecDepth 100000 in
theorem s_both (w : World) (u v : Value) (p q : List Int) (hu : RdL (fun _ => False) (Value.int .i64) w u p) (hv : RdL (fun _ => False) (Value.int .i64) w v q) (hp : Bdn p.length p) (hq : Bdn p.length q) (hn : p.length ≤ 512) : CallS Try.prog 74 [u, v] w (fun r o => IsSl r ∧ o = [row r 3 1 p.length ((canN (bothL p q)).map (Value.int .i64))]) := by
 have hql := hq.1
 unfold RdL at hu hv
 refine spec_of Try.func74 rfl (Nat.le_of_ble_eq_true rfl) ?_
 refine .sr fun _ hK1 => ?_
 refine .as rfl (.nt hK1 ?_)
 refine .sr fun _ hK2 => ?_
 refine .mv rfl ?_
 refine .v (.lenR sl74 rfl rdp) ?_
 refine AK.make1 (n := p.length) sl74 el3 rfl rfl rfl (by omega) (by omega) trivial rfl (fun mv => ?_)
 refine AK.shape 0 rfl (fun smv => ?_)
 refine .as rfl (.nt hK2 ?_)
 refine .seq fun _ hK3 => ?_
 refine .sr fun _ hK4 => ?_
 refine .mv rfl ?_
 refine .v (.lenR sl74 rfl rdp) ?_
 refine .mv rfl (.nt hK4 (.block ?_))
 refine AK.loopK (X := Nat) [(0, _), (1, _), (5, _), (11, _)] (fun k => [(12, .int .i64 (k : Int))]) (fun k => [row mv 3 1 p.length (((bothL p q).take k ++ List.replicate (p.length - k) 0).map (Value.int .i64))]) (fun k => k ≤ p.length) (fun k => p.length - k) (0) slr ?_ ?_ ?_ ?_
 ·exact Nat.zero_le _
 ·exact slr
 ·exact fun w hw => by have e : (((bothL p q).take 0 ++ List.replicate (p.length - 0) 0).map (Value.int .i64)) = List.replicate p.length (Value.int .i64 0) := (by simp); rw [e]; exact hw
 ·intro k hg0 _ hK5
  refine .sr fun _ hK6 => ?_
  refine .v (.lss rfl rfl) ?_
  refine .nt hK6 ?_
  refine .seq fun _ hK7 => ?_
  refine AK.condD rfl (fun hc0 => ?_) (fun hc0 => ?_)
  ·have hp1 := hp.2 k (by omega)
   have hq1 := hq.2 k (by omega)
   have hbl := bothL_len p q
   have hmul : 0 ≤ p.getD k 0 * ((p.length : Int) + 1) ∧ p.getD k 0 * ((p.length : Int) + 1) ≤ 512 * 513 := ⟨Int.mul_nonneg hp1.1 (by omega), Int.le_trans (Int.mul_le_mul_of_nonneg_right (c := (p.length : Int) + 1) (show p.getD k 0 ≤ 512 by omega) (by omega)) (by omega)⟩
   refine .skip ?_
   refine AK.then_ (hK7 _ ?_)
   refine .seq fun _ hK8 => ?_
   refine .block ?_
   refine .sr fun _ hK9 => ?_
   refine .mv rfl (.as rfl (.nt hK9 ?_))
   refine AK.stillTail 16 mixed krf (fun _ hws => ?_)
   refine .v hws (.move rfl) ?_
   refine .v hws (.move rfl) ?_
   refine .v hws (.move rfl) ?_
   refine .v hws (.move rfl) ?_
   first | refine .v hws (.iN sl74 rfl rfl) ?_ | refine .v hws (.iK sl74 rfl rfl) ?_
   refine .v hws (.loadI on3 rfl rdp (by omega)) ?_
   refine .v hws (.move rfl) ?_
   refine .v hws (.lenR sl74 rfl rdp) ?_
   refine .v hws (.add rfl rfl (by omega)) ?_
   refine .v hws (.mul rfl rfl (by omega)) ?_
   refine .v hws (.move rfl) ?_
   refine .v hws (.move rfl) ?_
   first | refine .v hws (.iN sl74 rfl rfl) ?_ | refine .v hws (.iK sl74 rfl rfl) ?_
   refine .v hws (.loadI on3 rfl rdp (by omega)) ?_
   refine .v hws (.add rfl rfl (by omega)) ?_
   first | refine .v hws (.iN sl74 rfl rfl) ?_ | refine .v hws (.iK sl74 rfl rfl) ?_
   refine SK.nil (SK.fin hws ?_)
   refine AK.store1e 0 rfl sz3 rfl rfl rfl rfl (by omega) (cs' := (((bothL p q).take (k + 1) ++ List.replicate (p.length - (k + 1)) 0).map (Value.int .i64))) (by rw [take_snocD 0 (bothL p q) k (by omega), bothL_get (by omega)]; exact fill_set (Value.int .i64) _ 0 _ p.length k (by rw [List.length_take]; omega) (by omega)) trivial ?_
   refine .nil (.block_normal ?_)
   refine AK.then_ (hK8 _ ?_)
   refine AK.region ?_
   refine .v (.add rfl rfl (by omega)) ?_
   refine .mv rfl (.nil ?_)
   refine AK.then_ (hK5 _ _ (k + 1) (by omega) (by omega) (slr) (fun w hw => hw))
  ·refine .exit (.then_exit (.then_exit (.block_exit ?_)))
   refine AK.then_ (hK3 _ ?_)
   refine .sr fun _ hK10 => ?_
   refine .mv rfl ?_
   refine AK.call co73 rfl (fun w hw => s_number w mv (bothL p q) (RdL.ownE 0 hw rfl (by rw [bothL_len]) (by rw [show k = p.length by omega, Nat.sub_self, List.replicate_zero, List.append_nil, ← bothL_len p q, List.take_length])) (by rw [bothL_len]; omega)) trivial rfl ?_
   rintro r o ⟨sr, rfl⟩
   refine .as rfl (.nt hK10 (.ret ?_))
   refine AK.ret1 rfl rfl (fun w hw => ⟨_, _, ?_, rfl, Ret.of (hw.pick [1] (by decide) rfl rfl)⟩)
   exact ⟨sr, by rw [bothL_len]; rfl⟩

end Go.Proofs.Ytaeojcaidcjnaaa
