import Derived.Test.YtaeojcaidcjnaaaWa
import Derived.Test.YtaeojcaidcjnaaaDx
import Derived.Test.YtaeojcaidcjnaaaRk
set_option linter.unusedVariables false
set_option linter.unusedSimpArgs false
namespace Go.Proofs.Ytaeojcaidcjnaaa
open Go.Sx Go.RowKit
set_option maxHeartbeats 600000 in
set_option maxRecDepth 100000 in
theorem s_little (w : World) (v : Value) (rs : List Rul) (h : RdR (fun _ => False) w v rs) (hll : ∀ k, k < rs.length → (rs.getD k ([], [])).1.length ≤ 9223372036854775807 ∧ (rs.getD k ([], [])).2.length ≤ 9223372036854775807) (L m : Int) : CallS Try.prog 21 [v, .int .i64 L, .int .i64 m] w (fun r o => r = .bool (litV L m rs) ∧ o = []) := by
 have h0 := h
 have hb := h.len
 have sv0 := Rd.sl h
 unfold RdR at h
 refine spec_of Try.func21 rfl (Nat.le_of_ble_eq_true rfl) ?_
 refine .sr fun _ hK1 => ?_
 refine .as rfl (.nt hK1 ?_)
 refine .seq fun _ hK2 => ?_
 refine .sr fun _ hK3 => ?_
 refine .mv rfl (.mv rfl ?_)
 refine AK.call co14 rfl (fun w hw => s_refrval w v rs (h0.at hw) hll L) trivial rfl ?_
 rintro r o ⟨rfl, rfl⟩
 refine .v (.neq rfl rfl) ?_
 refine .mv rfl ?_
 refine AK.splitB (g := 13) rfl (fun hg_1_4 => ?_) (fun hg_1_4 => ?_)
 ·have hg_1_4' := hg_1_4
  try simp only [bs] at hg_1_4'
  refine AK.pass rfl rfl (hg_1_4) rfl ?_
  refine AK.pass rfl rfl (hg_1_4) rfl ?_
  refine AK.pass rfl rfl (hg_1_4) rfl ?_
  refine AK.pass rfl rfl (hg_1_4) rfl ?_
  refine .v (.pickT rfl (hg_1_4) rfl) ?_
  refine .nt hK3 ?_
  refine AK.cond_t rfl (rfl) ?_
  refine .sr fun _ hK4 => ?_
  refine .as rfl (.nt hK4 (.ret (.then_ret ?_)))
  refine AK.ret1 rfl rfl (fun w hw => ⟨_, _, ?_, rfl, Ret.of (hw.pick [] (by decide) rfl rfl)⟩)
  first | (rw [lit_no (fun h => by have := h.1; omega)]; exact ⟨rfl, rfl⟩) | (rw [lit_no (fun h => by have := h.2.1; omega)]; exact ⟨rfl, rfl⟩)
 ·have hg_1_4' := hg_1_4
  try simp only [bs] at hg_1_4'
  refine AK.val _ (Yl.move rfl) ⟨_, rfl, congrArg (fun b => some (Value.bool b)) hg_1_4⟩ rfl ?_
  refine AK.val _ (Yl.lenR sl22 rfl rdp) ⟨_, rfl, congrArg (fun b => some (Value.bool b)) hg_1_4⟩ rfl ?_
  refine AK.val _ (Yl.move rfl) ⟨_, rfl, congrArg (fun b => some (Value.bool b)) hg_1_4⟩ rfl ?_
  refine AK.val _ (Yl.gtr rfl rfl) ⟨_, rfl, congrArg (fun b => some (Value.bool b)) hg_1_4⟩ rfl ?_
  refine .v (.pickF rfl (hg_1_4) rfl) ?_
  refine .nt hK3 ?_
  refine AK.condD rfl (fun hc0 => ?_) (fun hc0 => ?_)
  ·refine .sr fun _ hK5 => ?_
   refine .as rfl (.nt hK5 (.ret (.then_ret ?_)))
   refine AK.ret1 rfl rfl (fun w hw => ⟨_, _, ?_, rfl, Ret.of (hw.pick [] (by decide) rfl rfl)⟩)
   first | (rw [lit_no (fun h => by have := h.1; omega)]; exact ⟨rfl, rfl⟩) | (rw [lit_no (fun h => by have := h.2.1; omega)]; exact ⟨rfl, rfl⟩)
  ·refine .skip ?_
   refine AK.then_ (hK2 _ ?_)
   refine .seq fun _ hK6 => ?_
   refine .sr fun _ hK7 => ?_
   refine .mv rfl ?_
   refine .v (.lenR sl22 rfl rdp) ?_
   refine .mv rfl (.nt hK7 (.block ?_))
   refine AK.loopK (X := Nat) [(19, _), (20, _)] (fun k => [(21, .int .i64 (k : Int))]) (fun k => []) (fun k => k ≤ rs.length ∧ ∀ j, j < k → (rs.getD j ([], [])).1.length ≤ 6) (fun k => rs.length - k) (0) slr ?_ ?_ ?_ ?_
   ·exact ⟨Nat.zero_le _, fun j hj => by omega⟩
   ·exact slr
   ·exact fun w hw => hw
   ·intro k hg0 _ hK8
    refine .sr fun _ hK9 => ?_
    refine .v (.lss rfl rfl) ?_
    refine .nt hK9 ?_
    refine .seq fun _ hK10 => ?_
    refine AK.condD rfl (fun hc1 => ?_) (fun hc1 => ?_)
    ·refine .skip ?_
     refine AK.then_ (hK10 _ ?_)
     refine .seq fun _ hK11 => ?_
     refine .block ?_
     refine .sr fun _ hK12 => ?_
     first | refine .v (.iN sl22 rfl rfl) ?_ | refine .v (.iK sl22 rfl rfl) ?_
     refine .v (.loadRu ag41 rfl rdp (by omega)) ?_
     refine AK.alloc el41 rfl rfl trivial rfl (fun bx8 => ?_)
     refine AK.storeBox 0 (us := rcs (rs.getD k ([], []))) (cs' := rcs (rs.getD k ([], []))) rfl sz41 rfl rfl rfl rfl oneP (Nat.le_of_ble_eq_true rfl) rfl trivial ?_
     refine .nt hK12 ?_
     refine .sr fun _ hK13 => ?_
     refine .v (.fieldAddr fd41_0 rfl) ?_
     refine .v (.loadBox on9 rfl bsp rfl) ?_
     refine .v (.lenS un9 rfl) ?_
     refine .v (.gtr rfl rfl) ?_
     refine .nt hK13 ?_
     refine AK.condD rfl (fun hc2 => ?_) (fun hc2 => ?_)
     ·refine .sr fun _ hK14 => ?_
      refine .as rfl (.nt hK14 (.ret (.block_ret (.then_ret (.then_ret (.block_ret (.then_ret ?_)))))))
      refine AK.ret1 rfl rfl (fun w hw => ⟨_, _, ?_, rfl, Ret.of (hw.pick [] (by decide) rfl rfl)⟩)
      rw [lit_no (fun h => by have := h.2.2 k (by omega); omega)]
      exact ⟨rfl, rfl⟩
     ·refine .skip (.block_normal ?_)
      refine AK.then_ (hK11 _ ?_)
      refine AK.region ?_
      refine .v (.add rfl rfl (by omega)) ?_
      refine .mv rfl (.nil ?_)
      refine AK.then_ (hK8 _ _ (k + 1) ⟨by omega, ext_lt hg0.2 (by omega)⟩ (by omega) (slr) (fun w hw => hw.pick [] (by decide) rfl rfl))
    ·refine .exit (.then_exit (.then_exit (.block_exit ?_)))
     refine AK.then_ (hK6 _ ?_)
     refine .sr fun _ hK15 => ?_
     refine .as rfl (.nt hK15 (.ret ?_))
     refine AK.ret1 rfl rfl (fun w hw => ⟨_, _, ?_, rfl, Ret.of (hw.pick [] (by decide) rfl rfl)⟩)
     rw [lit_iff.2 ⟨by omega, by omega, fun j hj => hg0.2 j (by omega)⟩]
     exact ⟨rfl, rfl⟩

set_option maxHeartbeats 1600000 in
set_option maxRecDepth 100000 in
theorem l_reduces (w : World) (v : Value) (rs : List Rul) (h : RdR (fun _ => False) w v rs) (hll : ∀ k, k < rs.length → (rs.getD k ([], [])).1.length ≤ 9223372036854775807 ∧ (rs.getD k ([], [])).2.length ≤ 9223372036854775807) (u : Wrd) (hu : u.length ≤ 9223372036854775807) (hX : MxA w) : CallS Try.prog 4 [v, sv u] w (fun r o => r = .bool true ∧ o = []) := by
 have h0 := h
 have hb := h.len
 have sv0 := Rd.sl h
 unfold RdR at h
 refine spec_of Try.func4 rfl (Nat.le_of_ble_eq_true rfl) ?_
 refine .sr fun _ hK1 => ?_
 refine .as rfl (.nt hK1 ?_)
 refine .sr fun _ hK2 => ?_
 refine .mv rfl (.mv rfl ?_)
 refine AK.call co16 rfl (fun w hw => s_Reduce w v rs (h0.at hw) hll u hu) trivial rfl ?_
 rintro r o ⟨rfl, rfl⟩
 refine .mv rfl ?_
 refine .v (.extract rfl rfl) ?_
 refine .v (.extract rfl rfl) ?_
 refine .as rfl (.as rfl (.nt hK2 ?_))
 refine .sr fun _ hK3 => ?_
 refine .mv rfl (.mv rfl ?_)
 refine AK.call co17 rfl (fun w hw => s_Reduced w v rs (h0.at hw) hll u hu (hX.at hw)) trivial rfl ?_
 rintro r o ⟨rfl, rfl⟩
 refine .as rfl (.nt hK3 ?_)
 refine .seq fun _ hK4 => ?_
 refine .sr fun _ hK5 => ?_
 refine .mv rfl ?_
 refine AK.call co14 rfl (fun w hw => s_refrval w v rs (h0.at hw) hll 6) trivial rfl ?_
 rintro r o ⟨rfl, rfl⟩
 refine .as rfl (.nt hK5 ?_)
 refine .sr fun _ hK6 => ?_
 refine .mv rfl ?_
 refine .v (.neq rfl rfl) ?_
 refine .mv rfl ?_
 refine AK.splitB (g := 24) rfl (fun hg_4_2 => ?_) (fun hg_4_2 => ?_)
 ·have hg_4_2' := hg_4_2
  try simp only [bs] at hg_4_2'
  refine AK.pass rfl rfl (hg_4_2) rfl ?_
  refine AK.pass rfl rfl (hg_4_2) rfl ?_
  refine AK.pass rfl rfl (hg_4_2) rfl ?_
  refine .v (.pickT rfl (hg_4_2) rfl) ?_
  refine .nt hK6 ?_
  refine AK.cond_t rfl (rfl) ?_
  refine .seq fun _ hK7 => ?_
  refine .sr fun _ hK8 => ?_
  refine .mv rfl ?_
  refine .v (.eql rfl rfl) ?_
  refine .nt hK8 ?_
  refine AK.cond_f rfl (decide_eq_false (by omega)) ?_
  refine .skip ?_
  refine AK.then_ (hK7 _ ?_)
  refine .sr fun _ hK9 => ?_
  refine .mv rfl (.mv rfl ?_)
  refine .v (.eql rfl rfl) ?_
  refine .mv rfl ?_
  refine AK.knownT (g := 34) rfl (decide_eq_true (by first | exact redE_bad1 (by omega) | exact redE_bad2 (by omega) (by simpa using hc0))) (fun hg_7_3 => ?_)
  refine AK.val _ (Yl.move rfl) ⟨_, rfl, congrArg (fun b => some (Value.bool b)) hg_7_3⟩ rfl ?_
  refine AK.val _ (Yl.eqlS un9 rfl rfl) ⟨_, rfl, congrArg (fun b => some (Value.bool b)) hg_7_3⟩ rfl ?_
  refine .v (.pickT rfl (hg_7_3) rfl) ?_
  refine .mv rfl ?_
  refine AK.knownT (g := 38) rfl (decide_eq_true (redV_bad (by first | exact .inl (by omega) | exact .inr (by simpa using hc0)))) (fun hg_7_7 => ?_)
  refine AK.val _ (Yl.move rfl) ⟨_, rfl, congrArg (fun b => some (Value.bool b)) hg_7_7⟩ rfl ?_
  refine AK.val _ (Yl.not rfl) ⟨_, rfl, congrArg (fun b => some (Value.bool b)) hg_7_7⟩ rfl ?_
  refine .v (.pickT rfl (hg_7_7) rfl) ?_
  refine .mv rfl ?_
  refine AK.knownT (g := 42) rfl (by rw [rdc_bad (by first | exact .inl (by omega) | exact .inr (by simpa using hc0))]; rfl) (fun hg_7_11 => ?_)
  refine AK.call co15 rfl (fun w hw => s_awake w) ⟨_, rfl, congrArg (fun b => some (Value.bool b)) hg_7_11⟩ rfl ?_
  rintro r o ⟨rfl, rfl⟩
  refine .v (.pickT rfl (hg_7_11) rfl) ?_
  refine .as rfl (.nt hK9 (.ret (.then_ret ?_)))
  refine AK.ret1 rfl rfl (fun w hw => ⟨_, _, ?_, rfl, Ret.of (hw.pick [] (by decide) rfl rfl)⟩)
  exact ⟨rfl, rfl⟩
 ·have hg_4_2' := hg_4_2
  try simp only [bs] at hg_4_2'
  refine AK.val _ (Yl.move rfl) ⟨_, rfl, congrArg (fun b => some (Value.bool b)) hg_4_2⟩ rfl ?_
  refine AK.call co18 rfl (fun w hw => s_refwvalid w u 6 hu) ⟨_, rfl, congrArg (fun b => some (Value.bool b)) hg_4_2⟩ rfl ?_
  rintro r o ⟨rfl, rfl⟩
  refine AK.val _ (Yl.not rfl) ⟨_, rfl, congrArg (fun b => some (Value.bool b)) hg_4_2⟩ rfl ?_
  refine .v (.pickF rfl (hg_4_2) rfl) ?_
  refine .nt hK6 ?_
  refine AK.condB rfl (fun hc0 => ?_) (fun hc0 => ?_)
  ·refine .seq fun _ hK10 => ?_
   refine .sr fun _ hK11 => ?_
   refine .mv rfl ?_
   refine .v (.eql rfl rfl) ?_
   refine .nt hK11 ?_
   refine AK.cond_t rfl (decide_eq_true (by omega)) ?_
   refine AK.region ?_
   refine .as rfl (.nt hK10 ?_)
   refine .sr fun _ hK12 => ?_
   refine .mv rfl (.mv rfl ?_)
   refine .v (.eql rfl rfl) ?_
   refine .mv rfl ?_
   refine AK.knownT (g := 34) rfl (decide_eq_true (by first | exact redE_bad1 (by omega) | exact redE_bad2 (by omega) (by simpa using hc0))) (fun hg_7_3 => ?_)
   refine AK.val _ (Yl.move rfl) ⟨_, rfl, congrArg (fun b => some (Value.bool b)) hg_7_3⟩ rfl ?_
   refine AK.val _ (Yl.eqlS un9 rfl rfl) ⟨_, rfl, congrArg (fun b => some (Value.bool b)) hg_7_3⟩ rfl ?_
   refine .v (.pickT rfl (hg_7_3) rfl) ?_
   refine .mv rfl ?_
   refine AK.knownT (g := 38) rfl (decide_eq_true (redV_bad (by first | exact .inl (by omega) | exact .inr (by simpa using hc0)))) (fun hg_7_7 => ?_)
   refine AK.val _ (Yl.move rfl) ⟨_, rfl, congrArg (fun b => some (Value.bool b)) hg_7_7⟩ rfl ?_
   refine AK.val _ (Yl.not rfl) ⟨_, rfl, congrArg (fun b => some (Value.bool b)) hg_7_7⟩ rfl ?_
   refine .v (.pickT rfl (hg_7_7) rfl) ?_
   refine .mv rfl ?_
   refine AK.knownT (g := 42) rfl (by rw [rdc_bad (by first | exact .inl (by omega) | exact .inr (by simpa using hc0))]; rfl) (fun hg_7_11 => ?_)
   refine AK.call co15 rfl (fun w hw => s_awake w) ⟨_, rfl, congrArg (fun b => some (Value.bool b)) hg_7_11⟩ rfl ?_
   rintro r o ⟨rfl, rfl⟩
   refine .v (.pickT rfl (hg_7_11) rfl) ?_
   refine .as rfl (.nt hK12 (.ret (.then_ret ?_)))
   refine AK.ret1 rfl rfl (fun w hw => ⟨_, _, ?_, rfl, Ret.of (hw.pick [] (by decide) rfl rfl)⟩)
   exact ⟨rfl, rfl⟩
  ·have hW : validW 6 u = true := (by simpa using hc0)
   have hE : errR 6 rs = 0 := (by omega)
   have hV := errR_iff.1 hE
   refine .skip ?_
   refine AK.then_ (hK4 _ ?_)
   refine .seq fun _ hK13 => ?_
   refine .sr fun _ hK14 => ?_
   refine .mv rfl ?_
   refine .v (.lenR sl22 rfl rdp) ?_
   refine .v (.gtr rfl rfl) ?_
   refine .mv rfl ?_
   refine AK.splitB (g := 48) rfl (fun hg_8_3 => ?_) (fun hg_8_3 => ?_)
   ·have hg_8_3' := hg_8_3
    try simp only [bs] at hg_8_3'
    refine AK.pass rfl rfl (hg_8_3) rfl ?_
    refine AK.pass rfl rfl (hg_8_3) rfl ?_
    refine AK.pass rfl rfl (hg_8_3) rfl ?_
    refine .v (.pickT rfl (hg_8_3) rfl) ?_
    refine .nt hK14 ?_
    refine AK.cond_t rfl (rfl) ?_
    refine .sr fun _ hK15 => ?_
    refine AK.call co15 rfl (fun w hw => s_awake w) trivial rfl ?_
    rintro r o ⟨rfl, rfl⟩
    refine .as rfl (.nt hK15 (.ret (.then_ret ?_)))
    refine AK.ret1 rfl rfl (fun w hw => ⟨_, _, ?_, rfl, Ret.of (hw.pick [] (by decide) rfl rfl)⟩)
    exact ⟨rfl, rfl⟩
   ·have hg_8_3' := hg_8_3
    try simp only [bs] at hg_8_3'
    refine AK.val _ (Yl.move rfl) ⟨_, rfl, congrArg (fun b => some (Value.bool b)) hg_8_3⟩ rfl ?_
    refine AK.val _ (Yl.lenS un9 rfl) ⟨_, rfl, congrArg (fun b => some (Value.bool b)) hg_8_3⟩ rfl ?_
    refine AK.val _ (Yl.gtr rfl rfl) ⟨_, rfl, congrArg (fun b => some (Value.bool b)) hg_8_3⟩ rfl ?_
    refine .v (.pickF rfl (hg_8_3) rfl) ?_
    refine .nt hK14 ?_
    refine AK.condD rfl (fun hc2 => ?_) (fun hc2 => ?_)
    ·refine .sr fun _ hK16 => ?_
     refine AK.call co15 rfl (fun w hw => s_awake w) trivial rfl ?_
     rintro r o ⟨rfl, rfl⟩
     refine .as rfl (.nt hK16 (.ret (.then_ret ?_)))
     refine AK.ret1 rfl rfl (fun w hw => ⟨_, _, ?_, rfl, Ret.of (hw.pick [] (by decide) rfl rfl)⟩)
     exact ⟨rfl, rfl⟩
    ·refine .skip ?_
     refine AK.then_ (hK13 _ ?_)
     refine .sr fun _ hK17 => ?_
     refine .mv rfl (.mv rfl ?_)
     refine AK.call co19 rfl (fun w hw => s_refreduce w v rs (h0.at hw) 6 hV u hu) trivial rfl ?_
     rintro r o ⟨rfl, rfl⟩
     rw [(ref_eq hE hW).1, (ref_eq hE hW).2]
     refine .mv rfl ?_
     refine .v (.extract rfl rfl) ?_
     refine .v (.extract rfl rfl) ?_
     refine .as rfl (.as rfl (.nt hK17 ?_))
     refine .sr fun _ hK18 => ?_
     refine .mv rfl (.mv rfl ?_)
     refine .v (.eql rfl rfl) ?_
     refine .mv rfl ?_
     refine AK.knownT (g := 63) rfl (decide_eq_true rfl) (fun hg_11_3 => ?_)
     refine AK.val _ (Yl.move rfl) ⟨_, rfl, congrArg (fun b => some (Value.bool b)) hg_11_3⟩ rfl ?_
     refine AK.val _ (Yl.move rfl) ⟨_, rfl, congrArg (fun b => some (Value.bool b)) hg_11_3⟩ rfl ?_
     refine AK.val _ (Yl.eqlS un9 rfl rfl) ⟨_, rfl, congrArg (fun b => some (Value.bool b)) hg_11_3⟩ rfl ?_
     refine .v (.pickT rfl (hg_11_3) rfl) ?_
     refine .mv rfl ?_
     refine AK.knownT (g := 68) rfl (decide_eq_true rfl) (fun hg_11_8 => ?_)
     refine AK.val _ (Yl.move rfl) ⟨_, rfl, congrArg (fun b => some (Value.bool b)) hg_11_8⟩ rfl ?_
     refine AK.val _ (Yl.move rfl) ⟨_, rfl, congrArg (fun b => some (Value.bool b)) hg_11_8⟩ rfl ?_
     refine AK.val _ (Yl.move rfl) ⟨_, rfl, congrArg (fun b => some (Value.bool b)) hg_11_8⟩ rfl ?_
     refine AK.call co20 rfl (fun w hw => s_refreduced w v rs (h0.at hw) 6 hV u (validW_al hW)) ⟨_, rfl, congrArg (fun b => some (Value.bool b)) hg_11_8⟩ rfl ?_
     rintro r o ⟨rfl, rfl⟩
     rw [← rdc_ok hE hW]
     refine AK.val _ (Yl.eqlB bo4 rfl rfl) ⟨_, rfl, congrArg (fun b => some (Value.bool b)) hg_11_8⟩ rfl ?_
     refine .v (.pickT rfl (hg_11_8) rfl) ?_
     refine .mv rfl ?_
     refine AK.knownT (g := 75) rfl (by simp) (fun hg_11_15 => ?_)
     refine AK.call co15 rfl (fun w hw => s_awake w) ⟨_, rfl, congrArg (fun b => some (Value.bool b)) hg_11_15⟩ rfl ?_
     rintro r o ⟨rfl, rfl⟩
     refine .v (.pickT rfl (hg_11_15) rfl) ?_
     refine .as rfl (.nt hK18 (.ret ?_))
     refine AK.ret1 rfl rfl (fun w hw => ⟨_, _, ?_, rfl, Ret.of (hw.pick [] (by decide) rfl rfl)⟩)
     exact ⟨rfl, rfl⟩

set_option maxHeartbeats 1600000 in
set_option maxRecDepth 100000 in
theorem l_settles (w : World) (v : Value) (rs : List Rul) (h : RdR (fun _ => False) w v rs) (hll : ∀ k, k < rs.length → (rs.getD k ([], [])).1.length ≤ 9223372036854775807 ∧ (rs.getD k ([], [])).2.length ≤ 9223372036854775807) (u : Wrd) (hu : u.length ≤ 9223372036854775807) (hX : MxA w) : CallS Try.prog 5 [v, sv u] w (fun r o => r = .bool true ∧ o = []) := by
 have h0 := h
 have hb := h.len
 have sv0 := Rd.sl h
 unfold RdR at h
 refine spec_of Try.func5 rfl (Nat.le_of_ble_eq_true rfl) ?_
 refine .sr fun _ hK1 => ?_
 refine .as rfl (.nt hK1 ?_)
 refine .seq fun _ hK2 => ?_
 refine .sr fun _ hK3 => ?_
 refine .mv rfl ?_
 refine AK.call co21 rfl (fun w hw => s_little w v rs (h0.at hw) hll 6 12) trivial rfl ?_
 rintro r o ⟨rfl, rfl⟩
 refine .v (.not rfl) ?_
 refine .mv rfl ?_
 refine AK.splitB (g := 10) rfl (fun hg_1_3 => ?_) (fun hg_1_3 => ?_)
 ·have hg_1_3' := hg_1_3
  try simp only [bs] at hg_1_3'
  refine AK.pass rfl rfl (hg_1_3) rfl ?_
  refine AK.pass rfl rfl (hg_1_3) rfl ?_
  refine AK.pass rfl rfl (hg_1_3) rfl ?_
  refine .v (.pickT rfl (hg_1_3) rfl) ?_
  refine .mv rfl ?_
  refine AK.pass rfl rfl rfl rfl ?_
  refine AK.pass rfl rfl rfl rfl ?_
  refine AK.pass rfl rfl rfl rfl ?_
  refine .v (.pickT rfl (rfl) rfl) ?_
  refine .nt hK3 ?_
  refine AK.cond_t rfl (rfl) ?_
  refine .sr fun _ hK4 => ?_
  refine AK.call co15 rfl (fun w hw => s_awake w) trivial rfl ?_
  rintro r o ⟨rfl, rfl⟩
  refine .as rfl (.nt hK4 (.ret (.then_ret ?_)))
  refine AK.ret1 rfl rfl (fun w hw => ⟨_, _, ?_, rfl, Ret.of (hw.pick [] (by decide) rfl rfl)⟩)
  exact ⟨rfl, rfl⟩
 ·have hg_1_3' := hg_1_3
  try simp only [bs] at hg_1_3'
  refine AK.val _ (Yl.move rfl) ⟨_, rfl, congrArg (fun b => some (Value.bool b)) hg_1_3⟩ rfl ?_
  refine AK.call co18 rfl (fun w hw => s_refwvalid w u 6 hu) ⟨_, rfl, congrArg (fun b => some (Value.bool b)) hg_1_3⟩ rfl ?_
  rintro r o ⟨rfl, rfl⟩
  refine AK.val _ (Yl.not rfl) ⟨_, rfl, congrArg (fun b => some (Value.bool b)) hg_1_3⟩ rfl ?_
  refine .v (.pickF rfl (hg_1_3) rfl) ?_
  refine .mv rfl ?_
  refine AK.splitB (g := 15) rfl (fun hg_1_8 => ?_) (fun hg_1_8 => ?_)
  ·have hg_1_8' := hg_1_8
   try simp only [bs] at hg_1_8'
   refine AK.pass rfl rfl (hg_1_8) rfl ?_
   refine AK.pass rfl rfl (hg_1_8) rfl ?_
   refine AK.pass rfl rfl (hg_1_8) rfl ?_
   refine .v (.pickT rfl (hg_1_8) rfl) ?_
   refine .nt hK3 ?_
   refine AK.cond_t rfl (rfl) ?_
   refine .sr fun _ hK5 => ?_
   refine AK.call co15 rfl (fun w hw => s_awake w) trivial rfl ?_
   rintro r o ⟨rfl, rfl⟩
   refine .as rfl (.nt hK5 (.ret (.then_ret ?_)))
   refine AK.ret1 rfl rfl (fun w hw => ⟨_, _, ?_, rfl, Ret.of (hw.pick [] (by decide) rfl rfl)⟩)
   exact ⟨rfl, rfl⟩
  ·have hg_1_8' := hg_1_8
   try simp only [bs] at hg_1_8'
   refine AK.val _ (Yl.move rfl) ⟨_, rfl, congrArg (fun b => some (Value.bool b)) hg_1_8⟩ rfl ?_
   refine AK.val _ (Yl.lenS un9 rfl) ⟨_, rfl, congrArg (fun b => some (Value.bool b)) hg_1_8⟩ rfl ?_
   refine AK.val _ (Yl.gtr rfl rfl) ⟨_, rfl, congrArg (fun b => some (Value.bool b)) hg_1_8⟩ rfl ?_
   refine .v (.pickF rfl (hg_1_8) rfl) ?_
   refine .nt hK3 ?_
   refine AK.condD rfl (fun hc0 => ?_) (fun hc0 => ?_)
   ·refine .sr fun _ hK6 => ?_
    refine AK.call co15 rfl (fun w hw => s_awake w) trivial rfl ?_
    rintro r o ⟨rfl, rfl⟩
    refine .as rfl (.nt hK6 (.ret (.then_ret ?_)))
    refine AK.ret1 rfl rfl (fun w hw => ⟨_, _, ?_, rfl, Ret.of (hw.pick [] (by decide) rfl rfl)⟩)
    exact ⟨rfl, rfl⟩
   ·have hW : validW 6 u = true := (by simpa using hg_1_8)
    have hLt := lit_iff.1 (by simpa using hg_1_3)
    have hE := hLt.1
    refine .skip ?_
    refine AK.then_ (hK2 _ ?_)
    refine .sr fun _ hK7 => ?_
    refine .mv rfl (.mv rfl ?_)
    refine AK.call co16 rfl (fun w hw => s_Reduce w v rs (h0.at hw) hll u hu) trivial rfl ?_
    rintro r o ⟨rfl, rfl⟩
    refine .mv rfl ?_
    refine .v (.extract rfl rfl) ?_
    refine .v (.extract rfl rfl) ?_
    refine .as rfl (.as rfl (.nt hK7 ?_))
    refine .seq fun _ hK8 => ?_
    refine .sr fun _ hK9 => ?_
    refine .mv rfl ?_
    refine .v (.neq rfl rfl) ?_
    refine .nt hK9 ?_
    refine AK.condNe rfl (fun hc1 => ?_) (fun hc1 => ?_)
    ·refine .sr fun _ hK10 => ?_
     refine .mv rfl ?_
     refine .v (.eql rfl rfl) ?_
     refine .mv rfl ?_
     refine AK.knownT (g := 31) rfl (decide_eq_true (settles3 hE hW hc1)) (fun hg_5_2 => ?_)
     refine AK.call co15 rfl (fun w hw => s_awake w) ⟨_, rfl, congrArg (fun b => some (Value.bool b)) hg_5_2⟩ rfl ?_
     rintro r o ⟨rfl, rfl⟩
     refine .v (.pickT rfl (hg_5_2) rfl) ?_
     refine .as rfl (.nt hK10 (.ret (.then_ret ?_)))
     refine AK.ret1 rfl rfl (fun w hw => ⟨_, _, ?_, rfl, Ret.of (hw.pick [] (by decide) rfl rfl)⟩)
     exact ⟨rfl, rfl⟩
    ·refine .skip ?_
     refine AK.then_ (hK8 _ ?_)
     refine .sr fun _ hK11 => ?_
     refine .mv rfl (.mv rfl ?_)
     refine AK.call co17 rfl (fun w hw => s_Reduced w v rs (h0.at hw) hll (RedV rs u) (by have := (settles hE hW (by omega)).2.2.2; omega) (hX.at hw)) trivial rfl ?_
     rintro r o ⟨rfl, rfl⟩
     refine .mv rfl ?_
     refine AK.knownT (g := 37) rfl ((settles hE hW (by omega)).1) (fun hg_6_3 => ?_)
     refine AK.val _ (Yl.move rfl) ⟨_, rfl, congrArg (fun b => some (Value.bool b)) hg_6_3⟩ rfl ?_
     refine AK.val _ (Yl.move rfl) ⟨_, rfl, congrArg (fun b => some (Value.bool b)) hg_6_3⟩ rfl ?_
     refine AK.call co22 rfl (fun w hw => s_compare w (RedV rs u) u) ⟨_, rfl, congrArg (fun b => some (Value.bool b)) hg_6_3⟩ rfl ?_
     rintro r o ⟨rfl, rfl⟩
     refine AK.val _ (Yl.leq rfl rfl) ⟨_, rfl, congrArg (fun b => some (Value.bool b)) hg_6_3⟩ rfl ?_
     refine .v (.pickT rfl (hg_6_3) rfl) ?_
     refine .mv rfl ?_
     refine AK.knownT (g := 43) rfl (decide_eq_true (settles hE hW (by omega)).2.1) (fun hg_6_9 => ?_)
     refine AK.val _ (Yl.move rfl) ⟨_, rfl, congrArg (fun b => some (Value.bool b)) hg_6_9⟩ rfl ?_
     refine AK.val _ (Yl.move rfl) ⟨_, rfl, congrArg (fun b => some (Value.bool b)) hg_6_9⟩ rfl ?_
     refine AK.call co17 rfl (fun w hw => s_Reduced w v rs (h0.at hw) hll u hu (hX.at hw)) ⟨_, rfl, congrArg (fun b => some (Value.bool b)) hg_6_9⟩ rfl ?_
     rintro r o ⟨rfl, rfl⟩
     refine AK.val _ (Yl.move rfl) ⟨_, rfl, congrArg (fun b => some (Value.bool b)) hg_6_9⟩ rfl ?_
     refine AK.val _ (Yl.move rfl) ⟨_, rfl, congrArg (fun b => some (Value.bool b)) hg_6_9⟩ rfl ?_
     refine AK.val _ (Yl.eqlS un9 rfl rfl) ⟨_, rfl, congrArg (fun b => some (Value.bool b)) hg_6_9⟩ rfl ?_
     refine AK.val _ (Yl.eqlB bo4 rfl rfl) ⟨_, rfl, congrArg (fun b => some (Value.bool b)) hg_6_9⟩ rfl ?_
     refine .v (.pickT rfl (hg_6_9) rfl) ?_
     refine .mv rfl ?_
     refine AK.knownT (g := 52) rfl (by rw [(settles hE hW (by omega)).2.2.1]; simp) (fun hg_6_18 => ?_)
     refine AK.call co15 rfl (fun w hw => s_awake w) ⟨_, rfl, congrArg (fun b => some (Value.bool b)) hg_6_18⟩ rfl ?_
     rintro r o ⟨rfl, rfl⟩
     refine .v (.pickT rfl (hg_6_18) rfl) ?_
     refine .as rfl (.nt hK11 (.ret ?_))
     refine AK.ret1 rfl rfl (fun w hw => ⟨_, _, ?_, rfl, Ret.of (hw.pick [] (by decide) rfl rfl)⟩)
     exact ⟨rfl, rfl⟩

end Go.Proofs.Ytaeojcaidcjnaaa
