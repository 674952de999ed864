import Derived.Test.YtaeojcaidcjnaaaXW7
import Derived.Test.YtaeojcaidcjnaaaXW1
import Derived.Test.YtaeojcaidcjnaaaXRR
set_option linter.unusedVariables false
set_option linter.unusedSimpArgs false
namespace Go.Proofs.Ytaeojcaidcjnaaa
open Go.Sx Go.RowKit
set_option maxHeartbeats 1000000 in
set_option maxRecDepth 100000 in
theorem s_Reduce (w : World) (v : Value) (rs : List Rul) (h : RdR (fun _ => False) w v rs) (hll : ∀ k, k < rs.length → (rs.getD k ([], [])).1.length ≤ 9223372036854775807 ∧ (rs.getD k ([], [])).2.length ≤ 9223372036854775807) (u : Wrd) (hu : u.length ≤ 9223372036854775807) : CallS Try.prog 16 [v, sv u] w (fun r o => r = .tuple #[sv (RedV rs u), .int .i64 (RedE rs u)] ∧ o = []) := by
 have h0 := h
 have hb := h.len
 have sv0 := Rd.sl h
 unfold RdR at h
 refine spec_of Try.func16 rfl (Nat.le_of_ble_eq_true rfl) ?_
 refine .sr fun _ hK1 => ?_
 refine .as rfl (.as rfl (.nt hK1 ?_))
 refine .seq fun _ hK2 => ?_
 refine .sr fun _ hK3 => ?_
 refine .mv rfl ?_
 refine AK.call co13 rfl (fun w hw => s_rval w v rs (h0.at hw) hll 6) trivial rfl ?_
 rintro r o ⟨rfl, rfl⟩
 refine .as rfl (.nt hK3 ?_)
 refine .sr fun _ hK4 => ?_
 refine .mv rfl ?_
 refine .v (.neq rfl rfl) ?_
 refine .nt hK4 ?_
 refine AK.condNe rfl (fun hc0 => ?_) (fun hc0 => ?_)
 ·refine .sr fun _ hK5 => ?_
  refine .mv rfl (.as rfl (.as rfl (.nt hK5 (.ret (.then_ret ?_)))))
  refine AK.ret2 rfl rfl rfl (fun w hw => ⟨_, _, ?_, rfl, Ret.of (hw.pick [] (by decide) rfl rfl)⟩)
  rw [show RedV rs u = [] from if_neg (fun h => hc0 h.1), show RedE rs u = errR 6 rs from if_pos hc0]
  exact ⟨rfl, rfl⟩
 ·have hV : VR 6 rs := errR_iff.1 (by omega)
  refine .skip ?_
  refine AK.then_ (hK2 _ ?_)
  refine .seq fun _ hK6 => ?_
  refine .sr fun _ hK7 => ?_
  refine .mv rfl ?_
  refine AK.call co35 rfl (fun w hw => s_wvalid w u 6 hu) trivial rfl ?_
  rintro r o ⟨rfl, rfl⟩
  refine .v (.not rfl) ?_
  refine .nt hK7 ?_
  refine AK.condB rfl (fun hc1 => ?_) (fun hc1 => ?_)
  ·refine .sr fun _ hK8 => ?_
   refine .as rfl (.as rfl (.nt hK8 (.ret (.then_ret ?_))))
   refine AK.ret2 rfl rfl rfl (fun w hw => ⟨_, _, ?_, rfl, Ret.of (hw.pick [] (by decide) rfl rfl)⟩)
   have hW : ¬ validW 6 u = true := (by simpa using hc1)
   rw [show RedV rs u = [] from if_neg (fun h => hW h.2), show RedE rs u = 1 from (if_neg (fun h => h hc0)).trans (if_neg hW)]
   exact ⟨rfl, rfl⟩
  ·have hW : validW 6 u = true := (by simpa using hc1)
   have hAl := validW_al hW
   refine .skip ?_
   refine AK.then_ (hK6 _ ?_)
   refine .sr fun _ hK9 => ?_
   refine .mv rfl (.mv rfl ?_)
   refine .v (.lenS un9 rfl) ?_
   refine AK.call co38 rfl (fun w hw => s_newreducer w v rs (h0.at hw) hll 6 (u.length : Int) hV) trivial rfl ?_
   rintro r o ⟨bf, vn, vf, N, fl, fd, hF, hN, rfl, rfl⟩
   refine .mv rfl ?_
   refine AK.call co39 rfl (fun w hw => s_reduce w u hAl bf v vn vf N fl fd u.length 6 rs hV hF hN (BxA.own 0 hw rfl) (Rd.ownG 1 hw rfl) (Rd.ownG 2 hw rfl) (h0.at hw) (Nat.le_refl _) hAl.1) trivial rfl ?_
   rintro r o ⟨rfl, rfl⟩
   refine .v (.extract rfl rfl) ?_
   refine .v (.extract rfl rfl) ?_
   refine .as rfl (.as rfl (.nt hK9 (.ret ?_)))
   refine AK.ret2 rfl rfl rfl (fun w hw => ⟨_, _, ?_, rfl, Ret.of (hw.pick [] (by decide) rfl rfl)⟩)
   rw [show RedV rs u = redV rs u from if_pos ⟨by omega, hW⟩, show RedE rs u = redE rs u from (if_neg (fun h => h (by omega))).trans (if_pos hW)]
   exact ⟨rfl, rfl⟩

set_option maxRecDepth 100000 in
theorem s_awake (w : World) : CallS Try.prog 15 [] w (fun r o => r = .bool true ∧ o = []) := by
 refine spec_of Try.func15 rfl (Nat.le_of_ble_eq_true rfl) ?_
 refine .sr fun _ hK1 => ?_
 refine .as rfl (.nt hK1 ?_)
 refine .sr fun _ hK2 => ?_
 refine .v (.build (parts := [(0, .const (sv [98, 97])), (1, .const (sv [97, 98]))]) (cs := #[sv [98, 97], sv [97, 98]]) rfl (by kernel_rfl)) ?_
 refine AK.lit (xs := [.tmp 4]) sl22 el41 rfl rfl rfl (by intro a ha; simp at ha; subst ha; rfl) (by decide) (by decide) trivial rfl (fun lv => ?_)
 refine AK.call co16 rfl (fun w hw => s_Reduce w lv [(([98, 97] : List UInt8), ([97, 98] : List UInt8))] (RdR.own 0 hw rfl) (by intro k hk; have : k = 0 := (by simpa using hk); subst this; simp) [98, 97, 98] (by simp)) trivial rfl ?_
 rintro r o ⟨rfl, rfl⟩
 rw [awake_v, awake_e]
 refine .mv rfl ?_
 refine .v (.extract rfl rfl) ?_
 refine .v (.extract rfl rfl) ?_
 refine .as rfl (.as rfl (.nt hK2 ?_))
 refine .sr fun _ hK3 => ?_
 refine .mv rfl ?_
 refine .v (.eql rfl rfl) ?_
 refine .mv rfl ?_
 refine AK.knownT (g := 11) rfl (rfl) (fun hg_2_2 => ?_)
 refine AK.val _ (Yl.move rfl) ⟨_, rfl, congrArg (fun b => some (Value.bool b)) hg_2_2⟩ rfl ?_
 refine AK.val _ (Yl.eqlS un9 rfl rfl) ⟨_, rfl, congrArg (fun b => some (Value.bool b)) hg_2_2⟩ rfl ?_
 refine .v (.pickT rfl (hg_2_2) rfl) ?_
 refine .as rfl (.nt hK3 (.ret ?_))
 refine AK.ret1 rfl rfl (fun w hw => ⟨_, _, ?_, rfl, Ret.of (hw.pick [] (by decide) rfl rfl)⟩)
 exact ⟨rfl, rfl⟩

end Go.Proofs.Ytaeojcaidcjnaaa
