import Derived.Test.YtaeojcaidcjnaaaXWj
import Derived.Test.YtaeojcaidcjnaaaXRR
import Derived.Test.YtaeojcaidcjnaaaXWb
set_option linter.unusedVariables false
set_option linter.unusedSimpArgs false
namespace Go.Proofs.Ytaeojcaidcjnaaa
open Go.Sx Go.RowKit
set_option maxHeartbeats 4000000 in
set_option maxRecDepth 100000 in
theorem s_refconfluent (w : World) (v : Value) (rs : List Rul) (h : RdR (fun _ => False) w v rs) (L : Int) (hV : VR L rs) : CallS Try.prog 29 [v] w (fun r o => r = .tuple #[cv (cfR rs (crA rs)).1, .bool (cfR rs (crA rs)).2.1, .int .i64 (cfR rs (crA rs)).2.2] ∧ o = []) := by
 have h0 := h
 have hb := h.len
 have sv0 := Rd.sl h
 unfold RdR at h
 have hcl := crA_len hV (List.prefix_refl _)
 refine spec_of Try.func29 rfl (Nat.le_of_ble_eq_true rfl) ?_
 refine .sr fun _ hK1 => ?_
 refine AK.alloc el45 rfl rfl trivial rfl (fun bx2 => ?_)
 refine .as rfl (.as rfl (.nt hK1 ?_))
 refine .seq fun _ hK2 => ?_
 refine .sr fun _ hK3 => ?_
 refine .mv rfl ?_
 refine AK.call co27 rfl (fun w hw => s_refpairs w v rs (h0.at hw) L hV) trivial rfl ?_
 rintro rp o ⟨srp, rfl⟩
 refine .v (.lenR sl42 rfl rdp) ?_
 refine .mv rfl (.nt hK3 (.block ?_))
 refine AK.loopK (X := Nat) [(0, _), (2, _), (12, _), (13, _)] (fun k => [(14, .int .i64 (k : Int))]) (fun k => [box bx2 45 3 (ccs (([], [], []) : Crit)), row rp 45 3 (crA rs).length (crc (crA rs))]) (fun k => k ≤ (crA rs).length ∧ AllOk rs ((crA rs).take k)) (fun k => (crA rs).length - k) (0) slr ?_ ?_ ?_ ?_
 ·exact ⟨Nat.zero_le _, AllOk.nil⟩
 ·exact slr
 ·exact fun w hw => hw
 ·intro k hg0 _ hK4
  refine .sr fun _ hK5 => ?_
  refine .v (.lss rfl rfl) ?_
  refine .nt hK5 ?_
  refine .seq fun _ hK6 => ?_
  refine AK.condD rfl (fun hc0 => ?_) (fun hc0 => ?_)
  ·refine .skip ?_
   refine AK.then_ (hK6 _ ?_)
   refine .seq fun _ hK7 => ?_
   refine .block ?_
   refine .sr fun _ hK8 => ?_
   first | refine .v (.iN sl42 rfl rfl) ?_ | refine .v (.iK sl42 rfl rfl) ?_
   refine .v (.loadCr ag45 rfl rdp (by omega)) ?_
   refine AK.alloc el45 rfl rfl trivial rfl (fun bx6 => ?_)
   refine AK.storeBox 2 (us := ccs ((crA rs).getD k ([], [], []))) (cs' := ccs ((crA rs).getD k ([], [], []))) rfl sz45 rfl rfl rfl rfl (ccs_one _) (Nat.le_of_ble_eq_true rfl) rfl trivial ?_
   refine .nt hK8 ?_
   refine .seq fun _ hK9 => ?_
   refine .sr fun _ hK10 => ?_
   refine .v (.fieldAddr fd45_1 rfl) ?_
   refine .v (.loadBox on9 rfl bsp rfl) ?_
   refine .v (.lenS un9 rfl) ?_
   refine .v (.gtr rfl rfl) ?_
   refine .mv rfl ?_
   refine AK.splitB (g := 22) rfl (fun hg_4_4 => ?_) (fun hg_4_4 => ?_)
   ·have hg_4_4' := hg_4_4
    try simp only [bs] at hg_4_4'
    refine AK.pass rfl rfl (hg_4_4) rfl ?_
    refine AK.pass rfl rfl (hg_4_4) rfl ?_
    refine AK.pass rfl rfl (hg_4_4) rfl ?_
    refine AK.pass rfl rfl (hg_4_4) rfl ?_
    refine .v (.pickT rfl (hg_4_4) rfl) ?_
    refine .nt hK10 ?_
    refine AK.cond_t rfl (rfl) ?_
    refine .sr fun _ hK11 => ?_
    refine .v (.build (parts := []) (cs := #[.string ByteArray.empty, .string ByteArray.empty, .string ByteArray.empty]) rfl (by kernel_rfl)) ?_
    refine AK.storeBox 0 (us := ccs (([], [], []) : Crit)) (cs' := ccs (([], [], []) : Crit)) rfl sz45 rfl rfl rfl rfl (ccs_one _) (Nat.le_of_ble_eq_true rfl) rfl trivial ?_
    refine .as rfl (.as rfl (.nt hK11 (.ret (.then_ret (.block_ret (.then_ret (.then_ret (.block_ret (.then_ret ?_)))))))))
    refine AK.retG [.cell 2 45, .tmp 3, .tmp 4] rfl (.cons (.cell ag45 rfl bsp rfl rfl) (.cons (.tmp rfl) (.cons (.tmp rfl) (.nil)))) (fun w hw => ⟨_, _, ?_, rfl, Ret.of (hw.pick [] (by decide) rfl rfl)⟩)
    rw [cfR_getD (by omega) hg0.2 (crOk_long (by omega))]
    exact ⟨rfl, rfl⟩
   ·have hg_4_4' := hg_4_4
    try simp only [bs] at hg_4_4'
    refine AK.val _ (Yl.fieldAddr fd45_2 rfl) ⟨_, rfl, congrArg (fun b => some (Value.bool b)) hg_4_4⟩ rfl ?_
    refine AK.val _ (Yl.loadBox on9 rfl bsp rfl) ⟨_, rfl, congrArg (fun b => some (Value.bool b)) hg_4_4⟩ rfl ?_
    refine AK.val _ (Yl.lenS un9 rfl) ⟨_, rfl, congrArg (fun b => some (Value.bool b)) hg_4_4⟩ rfl ?_
    refine AK.val _ (Yl.gtr rfl rfl) ⟨_, rfl, congrArg (fun b => some (Value.bool b)) hg_4_4⟩ rfl ?_
    refine .v (.pickF rfl (hg_4_4) rfl) ?_
    refine .nt hK10 ?_
    refine AK.condD rfl (fun hc1 => ?_) (fun hc1 => ?_)
    ·refine .sr fun _ hK12 => ?_
     refine .v (.build (parts := []) (cs := #[.string ByteArray.empty, .string ByteArray.empty, .string ByteArray.empty]) rfl (by kernel_rfl)) ?_
     refine AK.storeBox 0 (us := ccs (([], [], []) : Crit)) (cs' := ccs (([], [], []) : Crit)) rfl sz45 rfl rfl rfl rfl (ccs_one _) (Nat.le_of_ble_eq_true rfl) rfl trivial ?_
     refine .as rfl (.as rfl (.nt hK12 (.ret (.then_ret (.block_ret (.then_ret (.then_ret (.block_ret (.then_ret ?_)))))))))
     refine AK.retG [.cell 2 45, .tmp 3, .tmp 4] rfl (.cons (.cell ag45 rfl bsp rfl rfl) (.cons (.tmp rfl) (.cons (.tmp rfl) (.nil)))) (fun w hw => ⟨_, _, ?_, rfl, Ret.of (hw.pick [] (by decide) rfl rfl)⟩)
     rw [cfR_getD (by omega) hg0.2 (crOk_long (by omega))]
     exact ⟨rfl, rfl⟩
    ·refine .skip ?_
     refine AK.then_ (hK9 _ ?_)
     refine .sr fun _ hK13 => ?_
     refine .mv rfl ?_
     refine .v (.fieldAddr fd45_1 rfl) ?_
     refine .v (.loadBox on9 rfl bsp rfl) ?_
     have hl1 : ((crA rs).getD k ([], [], [])).2.1.length ≤ 2048 := (by omega)
     have hl2 : ((crA rs).getD k ([], [], [])).2.2.length ≤ 2048 := (by omega)
     have ha1 := crA_al1 hV (crA_pre (rs := rs) (k := k) (by omega)) hl1
     have ha2 := crA_al2 hV (crA_pre (rs := rs) (k := k) (by omega)) hl2
     refine AK.call co19 rfl (fun w hw => s_refreduce w v rs (h0.at hw) L hV ((crA rs).getD k ([], [], [])).2.1 (by omega)) trivial rfl ?_
     rintro r o ⟨rfl, rfl⟩
     rw [(refV_al ha1).1, (refV_al ha1).2]
     refine .mv rfl ?_
     refine .v (.extract rfl rfl) ?_
     refine .v (.extract rfl rfl) ?_
     refine .as rfl (.as rfl (.nt hK13 ?_))
     refine .sr fun _ hK14 => ?_
     refine .mv rfl ?_
     refine .v (.fieldAddr fd45_2 rfl) ?_
     refine .v (.loadBox on9 rfl bsp rfl) ?_
     refine AK.call co19 rfl (fun w hw => s_refreduce w v rs (h0.at hw) L hV ((crA rs).getD k ([], [], [])).2.2 (by omega)) trivial rfl ?_
     rintro r o ⟨rfl, rfl⟩
     rw [(refV_al ha2).1, (refV_al ha2).2]
     refine .mv rfl ?_
     refine .v (.extract rfl rfl) ?_
     refine .v (.extract rfl rfl) ?_
     refine .as rfl (.as rfl (.nt hK14 ?_))
     refine .seq fun _ hK15 => ?_
     refine .sr fun _ hK16 => ?_
     refine .mv rfl ?_
     refine .v (.neq rfl rfl) ?_
     refine .mv rfl ?_
     refine AK.splitB (g := 45) rfl (fun hg_8_2 => ?_) (fun hg_8_2 => ?_)
     ·have hg_8_2' := hg_8_2
      try simp only [bs] at hg_8_2'
      refine AK.pass rfl rfl (hg_8_2) rfl ?_
      refine AK.pass rfl rfl (hg_8_2) rfl ?_
      refine .v (.pickT rfl (hg_8_2) rfl) ?_
      refine .nt hK16 ?_
      refine AK.cond_t rfl (rfl) ?_
      refine .sr fun _ hK17 => ?_
      refine .v (.build (parts := []) (cs := #[.string ByteArray.empty, .string ByteArray.empty, .string ByteArray.empty]) rfl (by kernel_rfl)) ?_
      refine AK.storeBox 0 (us := ccs (([], [], []) : Crit)) (cs' := ccs (([], [], []) : Crit)) rfl sz45 rfl rfl rfl rfl (ccs_one _) (Nat.le_of_ble_eq_true rfl) rfl trivial ?_
      refine .as rfl (.as rfl (.nt hK17 (.ret (.then_ret (.block_ret (.then_ret (.then_ret (.block_ret (.then_ret ?_)))))))))
      refine AK.retG [.cell 2 45, .tmp 3, .tmp 4] rfl (.cons (.cell ag45 rfl bsp rfl rfl) (.cons (.tmp rfl) (.cons (.tmp rfl) (.nil)))) (fun w hw => ⟨_, _, ?_, rfl, Ret.of (hw.pick [] (by decide) rfl rfl)⟩)
      have hz : crOk rs ((crA rs).getD k ([], [], [])) = some (([], [], []), false, 3) := by
       by_cases e1 : redE rs ((crA rs).getD k ([], [], [])).2.1 = 0
       ·exact (crOk_lim2 hl1 hl2 (by omega)).2
       ·exact (crOk_lim1 hl1 hl2 e1).2
      rw [cfR_getD (by omega) hg0.2 (hz)]
      exact ⟨rfl, rfl⟩
     ·have hg_8_2' := hg_8_2
      try simp only [bs] at hg_8_2'
      refine AK.val _ (Yl.move rfl) ⟨_, rfl, congrArg (fun b => some (Value.bool b)) hg_8_2⟩ rfl ?_
      refine AK.val _ (Yl.neq rfl rfl) ⟨_, rfl, congrArg (fun b => some (Value.bool b)) hg_8_2⟩ rfl ?_
      refine .v (.pickF rfl (hg_8_2) rfl) ?_
      refine .nt hK16 ?_
      refine AK.condNe rfl (fun hc2 => ?_) (fun hc2 => ?_)
      ·refine .sr fun _ hK18 => ?_
       refine .v (.build (parts := []) (cs := #[.string ByteArray.empty, .string ByteArray.empty, .string ByteArray.empty]) rfl (by kernel_rfl)) ?_
       refine AK.storeBox 0 (us := ccs (([], [], []) : Crit)) (cs' := ccs (([], [], []) : Crit)) rfl sz45 rfl rfl rfl rfl (ccs_one _) (Nat.le_of_ble_eq_true rfl) rfl trivial ?_
       refine .as rfl (.as rfl (.nt hK18 (.ret (.then_ret (.block_ret (.then_ret (.then_ret (.block_ret (.then_ret ?_)))))))))
       refine AK.retG [.cell 2 45, .tmp 3, .tmp 4] rfl (.cons (.cell ag45 rfl bsp rfl rfl) (.cons (.tmp rfl) (.cons (.tmp rfl) (.nil)))) (fun w hw => ⟨_, _, ?_, rfl, Ret.of (hw.pick [] (by decide) rfl rfl)⟩)
       have hz : crOk rs ((crA rs).getD k ([], [], [])) = some (([], [], []), false, 3) := by
        by_cases e1 : redE rs ((crA rs).getD k ([], [], [])).2.1 = 0
        ·exact (crOk_lim2 hl1 hl2 (by omega)).2
        ·exact (crOk_lim1 hl1 hl2 e1).2
       rw [cfR_getD (by omega) hg0.2 (hz)]
       exact ⟨rfl, rfl⟩
      ·refine .skip ?_
       refine AK.then_ (hK15 _ ?_)
       refine .sr fun _ hK19 => ?_
       refine .mv rfl (.mv rfl ?_)
       refine .v (.neqS un9 rfl rfl) ?_
       refine .nt hK19 ?_
       refine AK.condNe rfl (fun hc3 => ?_) (fun hc3 => ?_)
       ·refine .sr fun _ hK20 => ?_
        refine .v (.loadBoxC ag45 rfl bsp) ?_
        refine AK.storeBox 0 (us := ccs ((crA rs).getD k ([], [], []))) (cs' := ccs ((crA rs).getD k ([], [], []))) rfl sz45 rfl rfl rfl rfl (ccs_one _) (Nat.le_of_ble_eq_true rfl) rfl trivial ?_
        refine .as rfl (.as rfl (.nt hK20 (.ret (.block_ret (.then_ret (.then_ret (.block_ret (.then_ret ?_))))))))
        refine AK.retG [.cell 2 45, .tmp 3, .tmp 4] rfl (.cons (.cell ag45 rfl bsp rfl rfl) (.cons (.tmp rfl) (.cons (.tmp rfl) (.nil)))) (fun w hw => ⟨_, _, ?_, rfl, Ret.of (hw.pick [] (by decide) rfl rfl)⟩)
        rw [cfR_getD (by omega) hg0.2 (by rw [crOk_ok hl1 hl2 (by omega) (by omega)]; exact if_neg (by assumption))]
        exact ⟨rfl, rfl⟩
       ·refine .skip (.block_normal ?_)
        refine AK.then_ (hK7 _ ?_)
        refine AK.region ?_
        refine .v (.add rfl rfl (by omega)) ?_
        refine .mv rfl (.nil ?_)
        refine AK.then_ (hK4 _ _ (k + 1) ⟨by omega, allOk_getD (by omega) hg0.2 (by rw [crOk_ok hl1 hl2 (by omega) (by omega)]; exact if_pos (by assumption))⟩ (by omega) (slr) (fun w hw => hw.pick [0, 1] (by decide) rfl rfl))
  ·refine .exit (.then_exit (.then_exit (.block_exit ?_)))
   refine AK.then_ (hK2 _ ?_)
   refine .sr fun _ hK21 => ?_
   refine .v (.build (parts := []) (cs := #[.string ByteArray.empty, .string ByteArray.empty, .string ByteArray.empty]) rfl (by kernel_rfl)) ?_
   refine AK.storeBox 0 (us := ccs (([], [], []) : Crit)) (cs' := ccs (([], [], []) : Crit)) rfl sz45 rfl rfl rfl rfl (ccs_one _) (Nat.le_of_ble_eq_true rfl) rfl trivial ?_
   refine .as rfl (.as rfl (.nt hK21 (.ret ?_)))
   refine AK.retG [.cell 2 45, .tmp 3, .tmp 4] rfl (.cons (.cell ag45 rfl bsp rfl rfl) (.cons (.tmp rfl) (.cons (.tmp rfl) (.nil)))) (fun w hw => ⟨_, _, ?_, rfl, Ret.of (hw.pick [] (by decide) rfl rfl)⟩)
   have e : cfR rs (crA rs) = (([], [], []), true, 0) := cfR_all (by have h9 := hg0.2; rw [List.take_of_length_le (by omega)] at h9; exact h9)
   rw [e]
   exact ⟨rfl, rfl⟩

end Go.Proofs.Ytaeojcaidcjnaaa
