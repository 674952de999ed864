import Derived.Test.YtaeojcaidcjnaaaXWa
import Derived.Test.YtaeojcaidcjnaaaXDx
import Derived.Test.YtaeojcaidcjnaaaXRR
set_option linter.unusedVariables false
set_option linter.unusedSimpArgs false
namespace Go.Proofs.Ytaeojcaidcjnaaa
open Go.Sx Go.RowKit
set_option maxHeartbeats 600000 in
set_option maxRecDepth 100000 in
theorem s_little (w : World) (v : Value) (rs : List Rul) (h : RdR (fun _ => False) w v rs) (hll : ∀ k, k < rs.length → (rs.getD k ([], [])).1.length ≤ 9223372036854775807 ∧ (rs.getD k ([], [])).2.length ≤ 9223372036854775807) (L m : Int) : CallS Try.prog 21 [v, .int .i64 L, .int .i64 m] w (fun r o => r = .bool (litV L m rs) ∧ o = []) := by
 have h0 := h
 have hb := h.len
 have sv0 := Rd.sl h
 unfold RdR at h
 refine spec_of Try.func21 rfl (Nat.le_of_ble_eq_true rfl) ?_
 refine .sr fun _ hK1 => ?_
 refine .as rfl (.nt hK1 ?_)
 refine .seq fun _ hK2 => ?_
 refine .sr fun _ hK3 => ?_
 refine .mv rfl (.mv rfl ?_)
 refine AK.call co14 rfl (fun w hw => s_refrval w v rs (h0.at hw) hll L) trivial rfl ?_
 rintro r o ⟨rfl, rfl⟩
 refine .v (.neq rfl rfl) ?_
 refine .mv rfl ?_
 refine AK.splitB (g := 13) rfl (fun hg_1_4 => ?_) (fun hg_1_4 => ?_)
 ·have hg_1_4' := hg_1_4
  try simp only [bs] at hg_1_4'
  refine AK.pass rfl rfl (hg_1_4) rfl ?_
  refine AK.pass rfl rfl (hg_1_4) rfl ?_
  refine AK.pass rfl rfl (hg_1_4) rfl ?_
  refine AK.pass rfl rfl (hg_1_4) rfl ?_
  refine .v (.pickT rfl (hg_1_4) rfl) ?_
  refine .nt hK3 ?_
  refine AK.cond_t rfl (rfl) ?_
  refine .sr fun _ hK4 => ?_
  refine .as rfl (.nt hK4 (.ret (.then_ret ?_)))
  refine AK.ret1 rfl rfl (fun w hw => ⟨_, _, ?_, rfl, Ret.of (hw.pick [] (by decide) rfl rfl)⟩)
  first | (rw [lit_no (fun h => by have := h.1; omega)]; exact ⟨rfl, rfl⟩) | (rw [lit_no (fun h => by have := h.2.1; omega)]; exact ⟨rfl, rfl⟩)
 ·have hg_1_4' := hg_1_4
  try simp only [bs] at hg_1_4'
  refine AK.val _ (Yl.move rfl) ⟨_, rfl, congrArg (fun b => some (Value.bool b)) hg_1_4⟩ rfl ?_
  refine AK.val _ (Yl.lenR sl22 rfl rdp) ⟨_, rfl, congrArg (fun b => some (Value.bool b)) hg_1_4⟩ rfl ?_
  refine AK.val _ (Yl.move rfl) ⟨_, rfl, congrArg (fun b => some (Value.bool b)) hg_1_4⟩ rfl ?_
  refine AK.val _ (Yl.gtr rfl rfl) ⟨_, rfl, congrArg (fun b => some (Value.bool b)) hg_1_4⟩ rfl ?_
  refine .v (.pickF rfl (hg_1_4) rfl) ?_
  refine .nt hK3 ?_
  refine AK.condD rfl (fun hc0 => ?_) (fun hc0 => ?_)
  ·refine .sr fun _ hK5 => ?_
   refine .as rfl (.nt hK5 (.ret (.then_ret ?_)))
   refine AK.ret1 rfl rfl (fun w hw => ⟨_, _, ?_, rfl, Ret.of (hw.pick [] (by decide) rfl rfl)⟩)
   first | (rw [lit_no (fun h => by have := h.1; omega)]; exact ⟨rfl, rfl⟩) | (rw [lit_no (fun h => by have := h.2.1; omega)]; exact ⟨rfl, rfl⟩)
  ·refine .skip ?_
   refine AK.then_ (hK2 _ ?_)
   refine .seq fun _ hK6 => ?_
   refine .sr fun _ hK7 => ?_
   refine .mv rfl ?_
   refine .v (.lenR sl22 rfl rdp) ?_
   refine .mv rfl (.nt hK7 (.block ?_))
   refine AK.loopK (X := Nat) [(19, _), (20, _)] (fun k => [(21, .int .i64 (k : Int))]) (fun k => []) (fun k => k ≤ rs.length ∧ ∀ j, j < k → (rs.getD j ([], [])).1.length ≤ 6) (fun k => rs.length - k) (0) slr ?_ ?_ ?_ ?_
   ·exact ⟨Nat.zero_le _, fun j hj => by omega⟩
   ·exact slr
   ·exact fun w hw => hw
   ·intro k hg0 _ hK8
    refine .sr fun _ hK9 => ?_
    refine .v (.lss rfl rfl) ?_
    refine .nt hK9 ?_
    refine .seq fun _ hK10 => ?_
    refine AK.condD rfl (fun hc1 => ?_) (fun hc1 => ?_)
    ·refine .skip ?_
     refine AK.then_ (hK10 _ ?_)
     refine .seq fun _ hK11 => ?_
     refine .block ?_
     refine .sr fun _ hK12 => ?_
     first | refine .v (.iN sl22 rfl rfl) ?_ | refine .v (.iK sl22 rfl rfl) ?_
     refine .v (.loadRu ag41 rfl rdp (by omega)) ?_
     refine AK.alloc el41 rfl rfl trivial rfl (fun bx8 => ?_)
     refine AK.storeBox 0 (us := rcs (rs.getD k ([], []))) (cs' := rcs (rs.getD k ([], []))) rfl sz41 rfl rfl rfl rfl oneP (Nat.le_of_ble_eq_true rfl) rfl trivial ?_
     refine .nt hK12 ?_
     refine .sr fun _ hK13 => ?_
     refine .v (.fieldAddr fd41_0 rfl) ?_
     refine .v (.loadBox on9 rfl bsp rfl) ?_
     refine .v (.lenS un9 rfl) ?_
     refine .v (.gtr rfl rfl) ?_
     refine .nt hK13 ?_
     refine AK.condD rfl (fun hc2 => ?_) (fun hc2 => ?_)
     ·refine .sr fun _ hK14 => ?_
      refine .as rfl (.nt hK14 (.ret (.block_ret (.then_ret (.then_ret (.block_ret (.then_ret ?_)))))))
      refine AK.ret1 rfl rfl (fun w hw => ⟨_, _, ?_, rfl, Ret.of (hw.pick [] (by decide) rfl rfl)⟩)
      rw [lit_no (fun h => by have := h.2.2 k (by omega); omega)]
      exact ⟨rfl, rfl⟩
     ·refine .skip (.block_normal ?_)
      refine AK.then_ (hK11 _ ?_)
      refine AK.region ?_
      refine .v (.add rfl rfl (by omega)) ?_
      refine .mv rfl (.nil ?_)
      refine AK.then_ (hK8 _ _ (k + 1) ⟨by omega, ext_lt hg0.2 (by omega)⟩ (by omega) (slr) (fun w hw => hw.pick [] (by decide) rfl rfl))
    ·refine .exit (.then_exit (.then_exit (.block_exit ?_)))
     refine AK.then_ (hK6 _ ?_)
     refine .sr fun _ hK15 => ?_
     refine .as rfl (.nt hK15 (.ret ?_))
     refine AK.ret1 rfl rfl (fun w hw => ⟨_, _, ?_, rfl, Ret.of (hw.pick [] (by decide) rfl rfl)⟩)
     rw [lit_iff.2 ⟨by omega, by omega, fun j hj => hg0.2 j (by omega)⟩]
     exact ⟨rfl, rfl⟩

end Go.Proofs.Ytaeojcaidcjnaaa
