import Derived.Test.YtaeojcaidcjnaaaWh
import Derived.Test.YtaeojcaidcjnaaaRv
set_option linter.unusedVariables false
set_option linter.unusedSimpArgs false
namespace Go.Proofs.Ytaeojcaidcjnaaa
open Go.Sx Go.RowKit
theorem eqt45 : eqT3B Try.prog 45 = true := by kernel_rfl
set_option maxHeartbeats 1600000 in
set_option maxRecDepth 100000 in
theorem l_pairs (w : World) (v : Value) (rs : List Rul) (h : RdR (fun _ => False) w v rs) (hll : ∀ k, k < rs.length → (rs.getD k ([], [])).1.length ≤ 9223372036854775807 ∧ (rs.getD k ([], [])).2.length ≤ 9223372036854775807) (hX : MxA w) : CallS Try.prog 7 [v] w (fun r o => r = .bool true ∧ o = []) := by
 have h0 := h
 have hb := h.len
 have sv0 := Rd.sl h
 unfold RdR at h
 refine spec_of Try.func7 rfl (Nat.le_of_ble_eq_true rfl) ?_
 refine .sr fun _ hK1 => ?_
 refine .as rfl (.nt hK1 ?_)
 refine .seq fun _ hK2 => ?_
 refine .sr fun _ hK3 => ?_
 refine .mv rfl ?_
 refine AK.call co14 rfl (fun w hw => s_refrval w v rs (h0.at hw) hll 6) trivial rfl ?_
 rintro r o ⟨rfl, rfl⟩
 refine .v (.neq rfl rfl) ?_
 refine .nt hK3 ?_
 refine AK.condNe rfl (fun hc0 => ?_) (fun hc0 => ?_)
 ·refine .sr fun _ hK4 => ?_
  refine .mv rfl ?_
  refine AK.call co26 rfl (fun w hw => s_pairs w v rs (h0.at hw) hll (hX.at hw)) trivial rfl ?_
  rintro r o ⟨vs, hv1, hv2, svs, rfl⟩
  have hvs := hv1 hc0
  subst hvs
  refine .v (.lenR sl42 rfl rdp) ?_
  refine .v (.eql rfl rfl) ?_
  refine .mv rfl ?_
  refine AK.knownT (g := 13) rfl (decide_eq_true rfl) (fun hg_2_4 => ?_)
  refine AK.call co15 rfl (fun w hw => s_awake w) ⟨_, rfl, congrArg (fun b => some (Value.bool b)) hg_2_4⟩ rfl ?_
  rintro r o ⟨rfl, rfl⟩
  refine .v (.pickT rfl (hg_2_4) rfl) ?_
  refine .as rfl (.nt hK4 (.ret (.then_ret ?_)))
  refine AK.ret1 rfl rfl (fun w hw => ⟨_, _, ?_, rfl, Ret.of (hw.pick [] (by decide) rfl rfl)⟩)
  exact ⟨rfl, rfl⟩
 ·have hE : errR 6 rs = 0 := (by omega)
  have hV := errR_iff.1 hE
  have hrn := hV.n
  have hcl := crA_len hV (List.prefix_refl _)
  refine .skip ?_
  refine AK.then_ (hK2 _ ?_)
  refine .seq fun _ hK5 => ?_
  refine .sr fun _ hK6 => ?_
  refine .mv rfl ?_
  refine AK.call co21 rfl (fun w hw => s_little w v rs (h0.at hw) hll 6 30) trivial rfl ?_
  rintro r o ⟨rfl, rfl⟩
  refine .v (.not rfl) ?_
  refine .nt hK6 ?_
  refine AK.condB rfl (fun hc1 => ?_) (fun hc1 => ?_)
  ·refine .sr fun _ hK7 => ?_
   refine AK.call co15 rfl (fun w hw => s_awake w) trivial rfl ?_
   rintro r o ⟨rfl, rfl⟩
   refine .as rfl (.nt hK7 (.ret (.then_ret ?_)))
   refine AK.ret1 rfl rfl (fun w hw => ⟨_, _, ?_, rfl, Ret.of (hw.pick [] (by decide) rfl rfl)⟩)
   exact ⟨rfl, rfl⟩
  ·refine .skip ?_
   refine AK.then_ (hK5 _ ?_)
   refine .sr fun _ hK8 => ?_
   refine .mv rfl ?_
   refine AK.call co26 rfl (fun w hw => s_pairs w v rs (h0.at hw) hll (hX.at hw)) trivial rfl ?_
   rintro r1 o ⟨vs, hv1, hv2, svs, rfl⟩
   have hvs := hv2 hE
   subst hvs
   refine .mv rfl ?_
   refine AK.call co27 rfl (fun w hw => s_refpairs w v rs (h0.at hw) 6 hV) trivial rfl ?_
   rintro r2 o ⟨sws, rfl⟩
   refine .as rfl (.as rfl (.nt hK8 ?_))
   refine .seq fun _ hK9 => ?_
   refine .sr fun _ hK10 => ?_
   refine .mv rfl ?_
   refine .v (.lenR sl42 rfl rdp) ?_
   refine .mv rfl ?_
   refine .v (.lenR sl42 rfl rdp) ?_
   refine .v (.neq rfl rfl) ?_
   refine .nt hK10 ?_
   refine AK.cond_f rfl (by simp) ?_
   refine .skip ?_
   refine AK.then_ (hK9 _ ?_)
   refine .seq fun _ hK11 => ?_
   refine .sr fun _ hK12 => ?_
   refine .mv rfl ?_
   refine .v (.lenR sl42 rfl rdp) ?_
   refine .mv rfl (.nt hK12 (.block ?_))
   refine AK.loopK (X := Nat) [(3, _), (4, _), (30, _)] (fun k => [(31, .int .i64 (k : Int))]) (fun k => [row r1 45 3 (crA rs).length (crc (crA rs)), row r2 45 3 (crA rs).length (crc (crA rs))]) (fun k => k ≤ (crA rs).length) (fun k => (crA rs).length - k) (0) slr ?_ ?_ ?_ ?_
   ·exact Nat.zero_le _
   ·exact slr
   ·exact fun w hw => hw
   ·intro k hg0 _ hK13
    refine .sr fun _ hK14 => ?_
    refine .v (.lss rfl rfl) ?_
    refine .nt hK14 ?_
    refine .seq fun _ hK15 => ?_
    refine AK.condD rfl (fun hc3 => ?_) (fun hc3 => ?_)
    ·refine .skip ?_
     refine AK.then_ (hK15 _ ?_)
     refine .seq fun _ hK16 => ?_
     refine .block ?_
     refine .sr fun _ hK17 => ?_
     refine .mv rfl (.as rfl (.nt hK17 ?_))
     refine .seq fun _ hK18 => ?_
     refine AK.quiet mixed krf ?_
     refine .mv rfl (.mv rfl ?_)
     first | refine .v (.iN sl42 rfl rfl) ?_ | refine .v (.iK sl42 rfl rfl) ?_
     refine .v (.loadCr ag45 rfl rdp (by omega)) ?_
     refine .mv rfl (.mv rfl ?_)
     first | refine .v (.iN sl42 rfl rfl) ?_ | refine .v (.iK sl42 rfl rfl) ?_
     refine .v (.loadCr ag45 rfl rdp (by omega)) ?_
     refine QK.val (.bool false) (Yl.valE (Yl.neqCr eqt45 rfl rfl) (by simp)) trivial rfl ?_
     refine QK.nil (QK.fin ?_)
     refine AK.then_ (hK18 _ ?_)
     refine AK.cond_f rfl (rfl) ?_
     refine .skip (.block_normal ?_)
     refine AK.then_ (hK16 _ ?_)
     refine AK.region ?_
     refine .v (.add rfl rfl (by omega)) ?_
     refine .mv rfl (.nil ?_)
     refine AK.then_ (hK13 _ _ (k + 1) (by omega) (by omega) (slr) (fun w hw => hw))
    ·refine .exit (.then_exit (.then_exit (.block_exit ?_)))
     refine AK.then_ (hK11 _ ?_)
     refine .sr fun _ hK19 => ?_
     refine AK.call co15 rfl (fun w hw => s_awake w) trivial rfl ?_
     rintro r o ⟨rfl, rfl⟩
     refine .as rfl (.nt hK19 (.ret ?_))
     refine AK.ret1 rfl rfl (fun w hw => ⟨_, _, ?_, rfl, Ret.of (hw.pick [] (by decide) rfl rfl)⟩)
     exact ⟨rfl, rfl⟩

end Go.Proofs.Ytaeojcaidcjnaaa
