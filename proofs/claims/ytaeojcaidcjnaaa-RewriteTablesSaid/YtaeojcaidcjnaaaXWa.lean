import Derived.Test.YtaeojcaidcjnaaaXW8
import Derived.Test.YtaeojcaidcjnaaaXRR
set_option linter.unusedVariables false
set_option linter.unusedSimpArgs false
namespace Go.Proofs.Ytaeojcaidcjnaaa
open Go.Sx Go.RowKit
set_option maxHeartbeats 2000000 in
set_option maxRecDepth 100000 in
theorem s_once (w : World) (v : Value) (rs : List Rul) (h : RdR (fun _ => False) w v rs) (L : Int) (hV : VR L rs) (u : Wrd) (hu : Al u) : CallS Try.prog 41 [v, sv u] w (fun r o => r = .tuple #[sv (onV rs u), .bool (once rs u).isSome] ∧ o = []) := by
 have h0 := h
 have hb := h.len
 have sv0 := Rd.sl h
 unfold RdR at h
 have hll : ∀ k, k < rs.length → (rs.getD k ([], [])).1.length ≤ 2048 ∧ (rs.getD k ([], [])).2.length ≤ 2048 := fun k hk => by have h := hV.v _ (getD_mem (d := ([], [])) hk); exact ⟨(validW_al h.1).1, (validW_al h.2.1).1⟩
 have hul := hu.1
 have hrn := hV.n
 refine spec_of Try.func41 rfl (Nat.le_of_ble_eq_true rfl) ?_
 refine .sr fun _ hK1 => ?_
 refine .as rfl (.as rfl (.nt hK1 ?_))
 refine .seq fun _ hK2 => ?_
 refine .sr fun _ hK3 => ?_
 refine .mv rfl ?_
 refine AK.rangeS un9 rfl trivial rfl (fun bi10 => ?_)
 refine .nt hK3 (.block ?_)
 refine AK.loopK (X := Nat) [(0, _), (1, _), (10, _)] (fun x => []) (fun x => [iterA bi10 u x]) (fun x => x ≤ u.length ∧ ∀ j, j < x → ruleAt rs (u.drop j) = none) (fun x => u.length - x) (0) slr ?_ ?_ ?_ ?_
 ·exact ⟨Nat.zero_le _, fun j hj => by omega⟩
 ·exact slr
 ·exact fun w hw => hw
 ·intro x hg0 _ hK4
  refine .sr fun _ hK5 => ?_
  refine AK.nextC 0 (k := x) rfl rfl (fun hk => by have := hu.2 x hk; omega) trivial rfl (fun hn2 => ?_) (fun hn2 => ?_)
  ·refine .v (.extract rfl rfl) ?_
   refine .nt hK5 ?_
   refine .seq fun _ hK6 => ?_
   refine AK.cond_t rfl (rfl) ?_
   refine .skip ?_
   refine AK.then_ (hK6 _ ?_)
   refine .block ?_
   refine .sr fun _ hK7 => ?_
   refine .v (.extract rfl rfl) ?_
   refine .as rfl (.nt hK7 ?_)
   refine .sr fun _ hK8 => ?_
   refine .mv rfl ?_
   refine .v (.lenR sl22 rfl rdp) ?_
   refine .mv rfl (.nt hK8 (.block ?_))
   refine AK.loopK (X := Nat) [(0, _), (1, _), (6, _), (10, _), (14, _), (15, _)] (fun y => [(16, .int .i64 (y : Int))]) (fun y => [iterA bi10 u (x + 1)]) (fun y => y ≤ rs.length ∧ ∀ j, j < y → ¬ (rs.getD j ([], [])).1 <+: u.drop x) (fun y => rs.length - y) (0) slr ?_ ?_ ?_ ?_
   ·exact ⟨Nat.zero_le _, fun j hj => by omega⟩
   ·exact slr
   ·exact fun w hw => hw
   ·intro y hg1 _ hK9
    refine .sr fun _ hK10 => ?_
    refine .v (.lss rfl rfl) ?_
    refine .nt hK10 ?_
    refine .seq fun _ hK11 => ?_
    refine AK.condD rfl (fun hc1 => ?_) (fun hc1 => ?_)
    ·have hl1 := hll y (by omega)
     refine .skip ?_
     refine AK.then_ (hK11 _ ?_)
     refine .seq fun _ hK12 => ?_
     refine .block ?_
     refine .sr fun _ hK13 => ?_
     first | refine .v (.iN sl22 rfl rfl) ?_ | refine .v (.iK sl22 rfl rfl) ?_
     refine .v (.loadRu ag41 rfl rdp (by omega)) ?_
     refine AK.alloc el41 rfl rfl trivial rfl (fun bx8 => ?_)
     refine AK.storeBox 1 (us := rcs (rs.getD y ([], []))) (cs' := rcs (rs.getD y ([], []))) rfl sz41 rfl rfl rfl rfl oneP (Nat.le_of_ble_eq_true rfl) rfl trivial ?_
     refine .nt hK13 ?_
     refine .seq fun _ hK14 => ?_
     refine AK.quiet mixed krf ?_
     refine .v (.fieldAddr fd41_0 rfl) ?_
     refine .v (.loadBox on9 rfl bsp rfl) ?_
     refine .v (.lenS un9 rfl) ?_
     refine .mv rfl ?_
     refine .v (.lenS un9 rfl) ?_
     refine .mv rfl ?_
     refine .v (.sub rfl rfl (by omega)) ?_
     refine .v (.leq rfl rfl) ?_
     refine .mv rfl ?_
     refine QK.splitB (g := 28) rfl (fun hg_7_8 => ?_) (fun hg_7_8 => ?_)
     ·have hg_7_8' := hg_7_8
      try simp only [bs] at hg_7_8'
      refine QK.val _ (Yl.move rfl) ⟨_, rfl, congrArg (fun b => some (Value.bool b)) hg_7_8⟩ rfl ?_
      refine QK.val _ (Yl.move rfl) ⟨_, rfl, congrArg (fun b => some (Value.bool b)) hg_7_8⟩ rfl ?_
      refine QK.val _ (Yl.move rfl) ⟨_, rfl, congrArg (fun b => some (Value.bool b)) hg_7_8⟩ rfl ?_
      refine QK.val _ (Yl.fieldAddr fd41_0 rfl) ⟨_, rfl, congrArg (fun b => some (Value.bool b)) hg_7_8⟩ rfl ?_
      refine QK.val _ (Yl.loadBox on9 rfl bsp rfl) ⟨_, rfl, congrArg (fun b => some (Value.bool b)) hg_7_8⟩ rfl ?_
      refine QK.val _ (Yl.lenS un9 rfl) ⟨_, rfl, congrArg (fun b => some (Value.bool b)) hg_7_8⟩ rfl ?_
      refine QK.val _ (Yl.add rfl rfl (by omega)) ⟨_, rfl, congrArg (fun b => some (Value.bool b)) hg_7_8⟩ rfl ?_
      refine QK.val _ (Yl.valE (Yl.subS un9 rfl rfl rfl (by omega) (by omega)) (show _ = sv ((u.drop x).take (rs.getD y ([], [])).1.length) from congrArg sv (by rw [show ((x : Int) + ((rs.getD y ([], [])).1.length : Int)).toNat - ((x : Int)).toNat = (rs.getD y ([], [])).1.length by omega]; rfl))) ⟨_, rfl, congrArg (fun b => some (Value.bool b)) hg_7_8⟩ rfl ?_
      refine QK.val _ (Yl.fieldAddr fd41_0 rfl) ⟨_, rfl, congrArg (fun b => some (Value.bool b)) hg_7_8⟩ rfl ?_
      refine QK.val _ (Yl.loadBox on9 rfl bsp rfl) ⟨_, rfl, congrArg (fun b => some (Value.bool b)) hg_7_8⟩ rfl ?_
      refine QK.val _ (Yl.eqlS un9 rfl rfl) ⟨_, rfl, congrArg (fun b => some (Value.bool b)) hg_7_8⟩ rfl ?_
      refine .v (.pickT rfl (hg_7_8) rfl) ?_
      refine QK.nil (QK.fin ?_)
      refine AK.then_ (hK14 _ ?_)
      refine AK.condD rfl (fun hc2 => ?_) (fun hc2 => ?_)
      ·have hpe := (pre_eq hc2).length_le
       rw [List.length_drop] at hpe
       have ho := on_some (once_some x hn2 (ruleAt_of (by omega) (pre_eq hc2) hg1.2) hg0.2)
       refine .seq fun _ hK15 => ?_
       refine AK.quiet mixed krf ?_
       refine .mv rfl (.mv rfl ?_)
       refine .v (.valE (Yl.subTo un9 rfl rfl (by omega)) (show _ = sv (u.take x) from congrArg sv (by rw [Int.toNat_natCast]))) ?_
       refine .v (.fieldAddr fd41_1 rfl) ?_
       refine .v (.loadBox on9 rfl bsp rfl) ?_
       refine .v (.concat rfl rfl (by simp only [List.length_append, List.length_take, List.length_drop]; omega)) ?_
       refine .mv rfl (.mv rfl ?_)
       refine .v (.fieldAddr fd41_0 rfl) ?_
       refine .v (.loadBox on9 rfl bsp rfl) ?_
       refine .v (.lenS un9 rfl) ?_
       refine .v (.add rfl rfl (by omega)) ?_
       refine .v (.valE (Yl.subFr un9 rfl rfl (by omega)) (show _ = sv (u.drop (x + (rs.getD y ([], [])).1.length)) from congrArg sv (by congr 1 <;> omega))) ?_
       refine .v (.concat rfl rfl (by simp only [List.length_append, List.length_take, List.length_drop]; omega)) ?_
       refine .as rfl (.as rfl ?_)
       refine QK.nil (QK.fin ?_)
       refine AK.then_ (hK15 _ ?_)
       refine .ret (.block_ret (.then_ret (.then_ret (.block_ret (.block_ret (.then_ret (.block_ret (.then_ret ?_))))))))
       refine AK.ret2 rfl rfl rfl (fun w hw => ⟨_, _, ?_, rfl, Ret.of (hw.pick [] (by decide) rfl rfl)⟩)
       rw [ho.1, ho.2]
       exact ⟨rfl, rfl⟩
      ·refine .skip (.block_normal ?_)
       refine AK.then_ (hK12 _ ?_)
       refine AK.region ?_
       refine .v (.add rfl rfl (by omega)) ?_
       refine .mv rfl (.nil ?_)
       first | refine AK.then_ (hK9 _ _ (y + 1) ⟨by omega, ext_lt hg1.2 (noPre_eq hc2)⟩ (by omega) (slr) (fun w hw => hw.pick [0] (by decide) rfl rfl)) | refine AK.then_ (hK9 _ _ (y + 1) ⟨by omega, ext_lt hg1.2 (noPre_len (by rw [List.length_drop]; omega))⟩ (by omega) (slr) (fun w hw => hw.pick [0] (by decide) rfl rfl))
     ·have hg_7_8' := hg_7_8
      try simp only [bs] at hg_7_8'
      refine QK.pass rfl rfl (hg_7_8) rfl ?_
      refine QK.pass rfl rfl (hg_7_8) rfl ?_
      refine QK.pass rfl rfl (hg_7_8) rfl ?_
      refine QK.pass rfl rfl (hg_7_8) rfl ?_
      refine QK.pass rfl rfl (hg_7_8) rfl ?_
      refine QK.pass rfl rfl (hg_7_8) rfl ?_
      refine QK.pass rfl rfl (hg_7_8) rfl ?_
      refine QK.pass rfl rfl (hg_7_8) rfl ?_
      refine QK.pass rfl rfl (hg_7_8) rfl ?_
      refine QK.pass rfl rfl (hg_7_8) rfl ?_
      refine QK.pass rfl rfl (hg_7_8) rfl ?_
      refine .v (.pickF rfl (hg_7_8) rfl) ?_
      refine QK.nil (QK.fin ?_)
      refine AK.then_ (hK14 _ ?_)
      refine AK.cond_f rfl (rfl) ?_
      refine .skip (.block_normal ?_)
      refine AK.then_ (hK12 _ ?_)
      refine AK.region ?_
      refine .v (.add rfl rfl (by omega)) ?_
      refine .mv rfl (.nil ?_)
      first | refine AK.then_ (hK9 _ _ (y + 1) ⟨by omega, ext_lt hg1.2 (noPre_eq hc2)⟩ (by omega) (slr) (fun w hw => hw.pick [0] (by decide) rfl rfl)) | refine AK.then_ (hK9 _ _ (y + 1) ⟨by omega, ext_lt hg1.2 (noPre_len (by rw [List.length_drop]; omega))⟩ (by omega) (slr) (fun w hw => hw.pick [0] (by decide) rfl rfl))
    ·refine .exit (.then_exit (.then_exit (.block_exit (.block_normal ?_))))
     refine AK.then_ (hK4 _ _ (x + 1) ⟨by omega, ext_lt hg0.2 (ruleAt_none_iff.2 fun j hj => hg1.2 j (by omega))⟩ (by omega) (slr) (fun w hw => hw))
  ·refine .v (.extract rfl rfl) ?_
   refine .nt hK5 ?_
   refine .seq fun _ hK16 => ?_
   refine AK.cond_f rfl (rfl) ?_
   refine .exit (.then_exit (.then_exit (.block_exit ?_)))
   refine AK.then_ (hK2 _ ?_)
   refine .sr fun _ hK17 => ?_
   refine .mv rfl (.as rfl (.as rfl (.nt hK17 (.ret ?_))))
   refine AK.ret2 rfl rfl rfl (fun w hw => ⟨_, _, ?_, rfl, Ret.of (hw.pick [] (by decide) rfl rfl)⟩)
   have ho := on_none (once_none.2 fun i hi => hg0.2 i (by omega))
   rw [ho.1, ho.2]
   exact ⟨rfl, rfl⟩

set_option maxHeartbeats 600000 in
set_option maxRecDepth 100000 in
theorem s_refreduce (w : World) (v : Value) (rs : List Rul) (h : RdR (fun _ => False) w v rs) (L : Int) (hV : VR L rs) (u : Wrd) (hm : u.length ≤ 9223372036854775807) : CallS Try.prog 19 [v, sv u] w (fun r o => r = .tuple #[sv (RefV rs u), .int .i64 (RefE rs u)] ∧ o = []) := by
 have h0 := h
 have hb := h.len
 have sv0 := Rd.sl h
 unfold RdR at h
 refine spec_of Try.func19 rfl (Nat.le_of_ble_eq_true rfl) ?_
 refine .sr fun _ hK1 => ?_
 refine .as rfl (.as rfl (.nt hK1 ?_))
 refine .seq fun _ hK2 => ?_
 refine .sr fun _ hK3 => ?_
 refine .mv rfl ?_
 refine AK.call co18 rfl (fun w hw => s_refwvalid w u 6 hm) trivial rfl ?_
 rintro r o ⟨rfl, rfl⟩
 refine .v (.not rfl) ?_
 refine .nt hK3 ?_
 refine AK.condB rfl (fun hc0 => ?_) (fun hc0 => ?_)
 ·refine .sr fun _ hK4 => ?_
  refine .as rfl (.as rfl (.nt hK4 (.ret (.then_ret ?_))))
  refine AK.ret2 rfl rfl rfl (fun w hw => ⟨_, _, ?_, rfl, Ret.of (hw.pick [] (by decide) rfl rfl)⟩)
  have hW : ¬ validW 6 u = true := (by simpa using hc0)
  rw [show RefV rs u = [] from if_neg hW, show RefE rs u = 1 from if_neg hW]
  exact ⟨rfl, rfl⟩
 ·have hW : validW 6 u = true := (by simpa using hc0)
  have hAl := validW_al hW
  refine .skip ?_
  refine AK.then_ (hK2 _ ?_)
  refine .sr fun _ hK5 => ?_
  refine .as rfl (.nt hK5 (.block ?_))
  refine AK.loopK (X := Nat × Wrd) [(0, _)] (fun x => [(1, sv x.2), (6, .int .i64 (x.1 : Int))]) (fun x => []) (fun x => x.1 ≤ 100000 ∧ redF rs (100000 - x.1) x.2 = redF rs 100000 u ∧ Al x.2) (fun x => 100001 - x.1) ((0, u)) slr ?_ ?_ ?_ ?_
  ·exact ⟨Nat.zero_le _, rfl, hAl⟩
  ·exact slr
  ·exact fun w hw => hw
  ·intro x hg0 _ hK6
   have hx1 := hg0.1
   refine .seq fun _ hK7 => ?_
   refine .block ?_
   refine .sr fun _ hK8 => ?_
   refine .mv rfl (.mv rfl ?_)
   refine AK.call co41 rfl (fun w hw => s_once w v rs (h0.at hw) L hV x.2 hg0.2.2) trivial rfl ?_
   rintro r o ⟨rfl, rfl⟩
   refine .mv rfl ?_
   refine .v (.extract rfl rfl) ?_
   refine .v (.extract rfl rfl) ?_
   refine .as rfl (.as rfl (.nt hK8 ?_))
   refine .seq fun _ hK9 => ?_
   refine .sr fun _ hK10 => ?_
   refine .mv rfl ?_
   refine .v (.not rfl) ?_
   refine .nt hK10 ?_
   refine AK.condB rfl (fun hc1 => ?_) (fun hc1 => ?_)
   ·have ho : once rs x.2 = none := by cases h : once rs x.2 with | none => rfl | some z => rw [h] at hc1; simp at hc1
    refine .sr fun _ hK11 => ?_
    refine .mv rfl (.as rfl (.as rfl (.nt hK11 (.ret (.then_ret (.block_ret (.then_ret (.then_ret (.block_ret ?_)))))))))
    refine AK.ret2 rfl rfl rfl (fun w hw => ⟨_, _, ?_, rfl, Ret.of (hw.pick [] (by decide) rfl rfl)⟩)
    have hr := red_some (red_end hg0.2.1 ho)
    rw [show RefV rs u = redV rs u from if_pos hW, show RefE rs u = redE rs u from if_pos hW, hr.1, hr.2]
    exact ⟨rfl, rfl⟩
   ·obtain ⟨z, ho⟩ : ∃ z, once rs x.2 = some z := by cases h : once rs x.2 with | none => rw [h] at hc1; simp at hc1 | some z => exact ⟨z, rfl⟩
    have onS : onV rs x.2 = z := (on_some ho).1
    refine .skip ?_
    refine AK.then_ (hK9 _ ?_)
    refine .seq fun _ hK12 => ?_
    refine .sr fun _ hK13 => ?_
    refine .mv rfl ?_
    refine .v (.eql rfl rfl) ?_
    refine .nt hK13 ?_
    refine AK.condD rfl (fun hc2 => ?_) (fun hc2 => ?_)
    ·refine .sr fun _ hK14 => ?_
     refine .as rfl (.as rfl (.nt hK14 (.ret (.then_ret (.block_ret (.then_ret (.then_ret (.block_ret ?_))))))))
     refine AK.ret2 rfl rfl rfl (fun w hw => ⟨_, _, ?_, rfl, Ret.of (hw.pick [] (by decide) rfl rfl)⟩)
     have hr := red_none (red_lim hg0.2.1 (by omega) ho)
     rw [show RefV rs u = redV rs u from if_pos hW, show RefE rs u = redE rs u from if_pos hW, hr.1, hr.2]
     exact ⟨rfl, rfl⟩
    ·refine .skip ?_
     refine AK.then_ (hK12 _ ?_)
     refine AK.region ?_
     refine .mv rfl (.as rfl (.nil (.block_normal ?_)))
     refine AK.then_ (hK7 _ ?_)
     refine AK.region ?_
     refine .mv rfl ?_
     refine .v (.add rfl rfl (by omega)) ?_
     refine .as rfl (.nil ?_)
     refine AK.then_ (hK6 _ _ ((x.1 + 1, onV rs x.2)) ⟨by dsimp only; omega, by dsimp only; rw [onS]; exact red_go hg0.2.1 hg0.1 (by omega) ho, by dsimp only; rw [onS]; exact (once_al hV hg0.2.2 ho).1⟩ (by dsimp only; omega) (slr) (fun w hw => hw))

set_option maxRecDepth 100000 in
theorem s_refreduced (w : World) (v : Value) (rs : List Rul) (h : RdR (fun _ => False) w v rs) (L : Int) (hV : VR L rs) (u : Wrd) (hu : Al u) : CallS Try.prog 20 [v, sv u] w (fun r o => r = .bool (once rs u).isNone ∧ o = []) := by
 have h0 := h
 have hb := h.len
 have sv0 := Rd.sl h
 unfold RdR at h
 refine spec_of Try.func20 rfl (Nat.le_of_ble_eq_true rfl) ?_
 refine .sr fun _ hK1 => ?_
 refine .as rfl (.nt hK1 ?_)
 refine .sr fun _ hK2 => ?_
 refine .mv rfl (.mv rfl ?_)
 refine AK.call co41 rfl (fun w hw => s_once w v rs (h0.at hw) L hV u hu) trivial rfl ?_
 rintro r o ⟨rfl, rfl⟩
 refine .mv rfl ?_
 refine .v (.extract rfl rfl) ?_
 refine .v (.extract rfl rfl) ?_
 refine .as rfl (.as rfl (.nt hK2 ?_))
 refine .sr fun _ hK3 => ?_
 refine .mv rfl ?_
 refine .v (.not rfl) ?_
 refine .as rfl (.nt hK3 (.ret ?_))
 refine AK.ret1 rfl rfl (fun w hw => ⟨_, _, ?_, rfl, Ret.of (hw.pick [] (by decide) rfl rfl)⟩)
 exact ⟨by cases once rs u <;> rfl, rfl⟩

end Go.Proofs.Ytaeojcaidcjnaaa
