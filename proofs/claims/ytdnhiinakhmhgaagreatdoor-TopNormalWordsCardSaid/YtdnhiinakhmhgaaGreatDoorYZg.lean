import Derived.Test.YtdnhiinakhmhgaaGreatDoorYZe
import Derived.Test.YtdnhiinakhmhgaaGreatDoorYZf
import Derived.Lib.Builder
import Derived.Lib.AppendStr
import Derived.Laws.Externs
set_option linter.unusedVariables false
set_option linter.unusedSimpArgs false
set_option maxRecDepth 100000
namespace Go.Proofs.YtdnhiinakhmhgaaGreatDoor
open Go.Sx Go.RowKit
theorem s_tvalid (w : World) (v : Value) (xs : List Int) (h : RdL (fun _ => False) (Value.int .i64) w v xs) : CallS Tryz.prog 69 [v] w (fun r o => r = .bool (vfB xs) ∧ o = []) := by
 have h0 := h
 unfold RdL at h
 have hm := Rd.le h
 refine spec_of Tryz.func69 rfl (leb rfl) ?_
 refine .sr fun _ hK1 => ?_
 refine .as rfl (.nt hK1 ?_)
 refine .seq fun _ hK2 => ?_
 refine .sr fun _ hK3 => ?_
 refine .mv rfl (.v (.lenR sl26 rfl rdp) (.v (.lss rfl rfl) (.mv rfl ?_)))
 refine AK.splitB (g := 8) rfl (fun hg_1_3 => ?_) (fun hg_1_3 => ?_)
 ·have hg_1_3' := hg_1_3
  try simp only [bs] at hg_1_3'
  refine AK.pass rfl rfl (hg_1_3) rfl ?_
  refine AK.pass rfl rfl (hg_1_3) rfl ?_
  refine AK.pass rfl rfl (hg_1_3) rfl ?_
  refine .v (.pickT rfl (hg_1_3) rfl) (.nt hK3 ?_)
  refine AK.cond_t rfl (rfl) ?_
  refine .sr fun _ hK4 => ?_
  refine .as rfl (.nt hK4 (.ret (.then_ret ?_)))
  refine AK.ret1 rfl rfl (fun w hw => ⟨_, _, ?_, rfl, Ret.of (hw.pick [] (by decide) rfl rfl)⟩)
  refine ⟨congrArg Value.bool ?_, rfl⟩
  unfold vfB
  rw [decide_eq_false (by first | omega | grind), Bool.false_and]
 ·have hg_1_3' := hg_1_3
  try simp only [bs] at hg_1_3'
  refine AK.val _ (Yl.move rfl) ⟨_, rfl, gB hg_1_3⟩ rfl ?_
  refine AK.val _ (Yl.lenR sl26 rfl rdp) ⟨_, rfl, gB hg_1_3⟩ rfl ?_
  refine AK.val _ (Yl.gtr rfl rfl) ⟨_, rfl, gB hg_1_3⟩ rfl ?_
  refine .v (.pickF rfl (hg_1_3) rfl) (.nt hK3 ?_)
  refine AK.condD rfl (fun hc0 => ?_) (fun hc0 => ?_)
  ·refine .sr fun _ hK5 => ?_
   refine .as rfl (.nt hK5 (.ret (.then_ret ?_)))
   refine AK.ret1 rfl rfl (fun w hw => ⟨_, _, ?_, rfl, Ret.of (hw.pick [] (by decide) rfl rfl)⟩)
   refine ⟨congrArg Value.bool ?_, rfl⟩
   unfold vfB
   rw [decide_eq_false (by first | omega | grind), Bool.false_and]
  ·refine .skip ?_
   refine AK.then_ (hK2 _ ?_)
   refine .seq fun _ hK6 => ?_
   refine .sr fun _ hK7 => ?_
   refine .mv rfl (.v (.lenR sl26 rfl rdp) (.mv rfl (.nt hK7 (.block ?_))))
   refine AK.loopK (X := Nat) [(0, _), (13, _), (14, _)] (fun k => [(15, .int .i64 (k : Int))]) (fun k => []) (fun k => k ≤ xs.length ∧ ∀ i, i < k → 0 ≤ xs.getD i 0 ∧ xs.getD i 0 < (xs.length : Int)) (fun k => xs.length - k) (0) slr ?_ ?_ ?_ ?_
   ·exact ⟨Nat.zero_le _, fun i hi => absurd hi (Nat.not_lt_zero i)⟩
   ·exact slr
   ·exact fun w hw => hw
   ·intro k hg0 _ hK8
    refine .sr fun _ hK9 => ?_
    refine .v (.lss rfl rfl) (.nt hK9 ?_)
    refine .seq fun _ hK10 => ?_
    refine AK.condD rfl (fun hc1 => ?_) (fun hc1 => ?_)
    ·refine .skip ?_
     refine AK.then_ (hK10 _ ?_)
     refine .seq fun _ hK11 => ?_
     refine .block ?_
     refine .sr fun _ hK12 => ?_
     first | refine .v (.iN sl26 rfl rfl) ?_ | refine .v (.iK sl26 rfl rfl) ?_
     refine .v (.loadI on3 rfl rdp (by omega)) ?_
     refine .as rfl (.nt hK12 ?_)
     refine .sr fun _ hK13 => ?_
     refine .mv rfl (.v (.lss rfl rfl) (.mv rfl ?_))
     refine AK.splitB (g := 21) rfl (fun hg_6_2 => ?_) (fun hg_6_2 => ?_)
     ·have hg_6_2' := hg_6_2
      try simp only [bs] at hg_6_2'
      refine AK.pass rfl rfl (hg_6_2) rfl ?_
      refine AK.pass rfl rfl (hg_6_2) rfl ?_
      refine AK.pass rfl rfl (hg_6_2) rfl ?_
      refine AK.pass rfl rfl (hg_6_2) rfl ?_
      refine .v (.pickT rfl (hg_6_2) rfl) (.nt hK13 ?_)
      refine AK.cond_t rfl (rfl) ?_
      refine .sr fun _ hK14 => ?_
      refine .as rfl (.nt hK14 (.ret (.block_ret (.then_ret (.then_ret (.block_ret (.then_ret ?_)))))))
      refine AK.ret1 rfl rfl (fun w hw => ⟨_, _, ?_, rfl, Ret.of (hw.pick [] (by decide) rfl rfl)⟩)
      refine ⟨congrArg Value.bool ?_, rfl⟩
      exact vfB_bad (k := k) (by omega) (by first | omega | grind)
     ·have hg_6_2' := hg_6_2
      try simp only [bs] at hg_6_2'
      refine AK.val _ (Yl.move rfl) ⟨_, rfl, gB hg_6_2⟩ rfl ?_
      refine AK.val _ (Yl.move rfl) ⟨_, rfl, gB hg_6_2⟩ rfl ?_
      refine AK.val _ (Yl.lenR sl26 rfl rdp) ⟨_, rfl, gB hg_6_2⟩ rfl ?_
      refine AK.val _ (Yl.geq rfl rfl) ⟨_, rfl, gB hg_6_2⟩ rfl ?_
      refine .v (.pickF rfl (hg_6_2) rfl) (.nt hK13 ?_)
      refine AK.condD rfl (fun hc2 => ?_) (fun hc2 => ?_)
      ·refine .sr fun _ hK15 => ?_
       refine .as rfl (.nt hK15 (.ret (.block_ret (.then_ret (.then_ret (.block_ret (.then_ret ?_)))))))
       refine AK.ret1 rfl rfl (fun w hw => ⟨_, _, ?_, rfl, Ret.of (hw.pick [] (by decide) rfl rfl)⟩)
       refine ⟨congrArg Value.bool ?_, rfl⟩
       exact vfB_bad (k := k) (by omega) (by first | omega | grind)
      ·refine .skip (.block_normal ?_)
       refine AK.then_ (hK11 _ ?_)
       refine AK.region ?_
       refine .v (.add rfl rfl (by omega)) ?_
       refine .mv rfl (.nil ?_)
       refine AK.then_ (hK8 _ _ (k + 1) ⟨by omega, fun i hi => by rcases Nat.lt_or_ge i k with hik | hik; exact hg0.2 i hik; obtain rfl : i = k := (by omega); first | omega | grind⟩ (by omega) (slr) (fun w hw => hw))
    ·refine .exit (.then_exit (.then_exit (.block_exit ?_)))
     refine AK.then_ (hK6 _ ?_)
     refine .sr fun _ hK16 => ?_
     refine .as rfl (.nt hK16 (.ret ?_))
     refine AK.ret1 rfl rfl (fun w hw => ⟨_, _, ?_, rfl, Ret.of (hw.pick [] (by decide) rfl rfl)⟩)
     refine ⟨congrArg Value.bool ?_, rfl⟩
     exact vfB_ok (by omega) (fun i hi => hg0.2 i (by omega))

theorem s_rvalid (w : World) (v : Value) (xs : List Int) (h : RdL (fun _ => False) (Value.int .i64) w v xs) : CallS Tryz.prog 56 [v] w (fun r o => r = .bool (vfB xs) ∧ o = []) := by
 have h0 := h
 unfold RdL at h
 have hm := Rd.le h
 refine spec_of Tryz.func56 rfl (leb rfl) ?_
 refine .sr fun _ hK1 => ?_
 refine .as rfl (.nt hK1 ?_)
 refine .seq fun _ hK2 => ?_
 refine .sr fun _ hK3 => ?_
 refine .mv rfl (.v (.lenR sl26 rfl rdp) (.v (.lss rfl rfl) (.mv rfl ?_)))
 refine AK.splitB (g := 8) rfl (fun hg_1_3 => ?_) (fun hg_1_3 => ?_)
 ·have hg_1_3' := hg_1_3
  try simp only [bs] at hg_1_3'
  refine AK.pass rfl rfl (hg_1_3) rfl ?_
  refine AK.pass rfl rfl (hg_1_3) rfl ?_
  refine AK.pass rfl rfl (hg_1_3) rfl ?_
  refine .v (.pickT rfl (hg_1_3) rfl) (.nt hK3 ?_)
  refine AK.cond_t rfl (rfl) ?_
  refine .sr fun _ hK4 => ?_
  refine .as rfl (.nt hK4 (.ret (.then_ret ?_)))
  refine AK.ret1 rfl rfl (fun w hw => ⟨_, _, ?_, rfl, Ret.of (hw.pick [] (by decide) rfl rfl)⟩)
  refine ⟨congrArg Value.bool ?_, rfl⟩
  unfold vfB
  rw [decide_eq_false (by first | omega | grind), Bool.false_and]
 ·have hg_1_3' := hg_1_3
  try simp only [bs] at hg_1_3'
  refine AK.val _ (Yl.move rfl) ⟨_, rfl, gB hg_1_3⟩ rfl ?_
  refine AK.val _ (Yl.lenR sl26 rfl rdp) ⟨_, rfl, gB hg_1_3⟩ rfl ?_
  refine AK.val _ (Yl.gtr rfl rfl) ⟨_, rfl, gB hg_1_3⟩ rfl ?_
  refine .v (.pickF rfl (hg_1_3) rfl) (.nt hK3 ?_)
  refine AK.condD rfl (fun hc0 => ?_) (fun hc0 => ?_)
  ·refine .sr fun _ hK5 => ?_
   refine .as rfl (.nt hK5 (.ret (.then_ret ?_)))
   refine AK.ret1 rfl rfl (fun w hw => ⟨_, _, ?_, rfl, Ret.of (hw.pick [] (by decide) rfl rfl)⟩)
   refine ⟨congrArg Value.bool ?_, rfl⟩
   unfold vfB
   rw [decide_eq_false (by first | omega | grind), Bool.false_and]
  ·refine .skip ?_
   refine AK.then_ (hK2 _ ?_)
   refine .seq fun _ hK6 => ?_
   refine .sr fun _ hK7 => ?_
   refine .mv rfl (.v (.lenR sl26 rfl rdp) (.mv rfl (.nt hK7 (.block ?_))))
   refine AK.loopK (X := Nat) [(0, _), (13, _), (14, _)] (fun k => [(15, .int .i64 (k : Int))]) (fun k => []) (fun k => k ≤ xs.length ∧ ∀ i, i < k → 0 ≤ xs.getD i 0 ∧ xs.getD i 0 < (xs.length : Int)) (fun k => xs.length - k) (0) slr ?_ ?_ ?_ ?_
   ·exact ⟨Nat.zero_le _, fun i hi => absurd hi (Nat.not_lt_zero i)⟩
   ·exact slr
   ·exact fun w hw => hw
   ·intro k hg0 _ hK8
    refine .sr fun _ hK9 => ?_
    refine .v (.lss rfl rfl) (.nt hK9 ?_)
    refine .seq fun _ hK10 => ?_
    refine AK.condD rfl (fun hc1 => ?_) (fun hc1 => ?_)
    ·refine .skip ?_
     refine AK.then_ (hK10 _ ?_)
     refine .seq fun _ hK11 => ?_
     refine .block ?_
     refine .sr fun _ hK12 => ?_
     first | refine .v (.iN sl26 rfl rfl) ?_ | refine .v (.iK sl26 rfl rfl) ?_
     refine .v (.loadI on3 rfl rdp (by omega)) ?_
     refine .as rfl (.nt hK12 ?_)
     refine .sr fun _ hK13 => ?_
     refine .mv rfl (.v (.lss rfl rfl) (.mv rfl ?_))
     refine AK.splitB (g := 21) rfl (fun hg_6_2 => ?_) (fun hg_6_2 => ?_)
     ·have hg_6_2' := hg_6_2
      try simp only [bs] at hg_6_2'
      refine AK.pass rfl rfl (hg_6_2) rfl ?_
      refine AK.pass rfl rfl (hg_6_2) rfl ?_
      refine AK.pass rfl rfl (hg_6_2) rfl ?_
      refine AK.pass rfl rfl (hg_6_2) rfl ?_
      refine .v (.pickT rfl (hg_6_2) rfl) (.nt hK13 ?_)
      refine AK.cond_t rfl (rfl) ?_
      refine .sr fun _ hK14 => ?_
      refine .as rfl (.nt hK14 (.ret (.block_ret (.then_ret (.then_ret (.block_ret (.then_ret ?_)))))))
      refine AK.ret1 rfl rfl (fun w hw => ⟨_, _, ?_, rfl, Ret.of (hw.pick [] (by decide) rfl rfl)⟩)
      refine ⟨congrArg Value.bool ?_, rfl⟩
      exact vfB_bad (k := k) (by omega) (by first | omega | grind)
     ·have hg_6_2' := hg_6_2
      try simp only [bs] at hg_6_2'
      refine AK.val _ (Yl.move rfl) ⟨_, rfl, gB hg_6_2⟩ rfl ?_
      refine AK.val _ (Yl.move rfl) ⟨_, rfl, gB hg_6_2⟩ rfl ?_
      refine AK.val _ (Yl.lenR sl26 rfl rdp) ⟨_, rfl, gB hg_6_2⟩ rfl ?_
      refine AK.val _ (Yl.geq rfl rfl) ⟨_, rfl, gB hg_6_2⟩ rfl ?_
      refine .v (.pickF rfl (hg_6_2) rfl) (.nt hK13 ?_)
      refine AK.condD rfl (fun hc2 => ?_) (fun hc2 => ?_)
      ·refine .sr fun _ hK15 => ?_
       refine .as rfl (.nt hK15 (.ret (.block_ret (.then_ret (.then_ret (.block_ret (.then_ret ?_)))))))
       refine AK.ret1 rfl rfl (fun w hw => ⟨_, _, ?_, rfl, Ret.of (hw.pick [] (by decide) rfl rfl)⟩)
       refine ⟨congrArg Value.bool ?_, rfl⟩
       exact vfB_bad (k := k) (by omega) (by first | omega | grind)
      ·refine .skip (.block_normal ?_)
       refine AK.then_ (hK11 _ ?_)
       refine AK.region ?_
       refine .v (.add rfl rfl (by omega)) ?_
       refine .mv rfl (.nil ?_)
       refine AK.then_ (hK8 _ _ (k + 1) ⟨by omega, fun i hi => by rcases Nat.lt_or_ge i k with hik | hik; exact hg0.2 i hik; obtain rfl : i = k := (by omega); first | omega | grind⟩ (by omega) (slr) (fun w hw => hw))
    ·refine .exit (.then_exit (.then_exit (.block_exit ?_)))
     refine AK.then_ (hK6 _ ?_)
     refine .sr fun _ hK16 => ?_
     refine .as rfl (.nt hK16 (.ret ?_))
     refine AK.ret1 rfl rfl (fun w hw => ⟨_, _, ?_, rfl, Ret.of (hw.pick [] (by decide) rfl rfl)⟩)
     refine ⟨congrArg Value.bool ?_, rfl⟩
     exact vfB_ok (by omega) (fun i hi => hg0.2 i (by omega))

theorem s_maygens (w : World) (v : Value) (G : List (List Int)) (h : RdLL (fun _ => False) (Value.int .i64) w v G) : CallS Tryz.prog 28 [v] w (fun r o => r = .bool (mgB G) ∧ o = []) := by
 obtain ⟨gs, hgl, h1, h2⟩ := h
 have hm := Rd.le h1
 refine spec_of Tryz.func28 rfl (leb rfl) ?_
 refine .sr fun _ hK1 => ?_
 refine .as rfl (.nt hK1 ?_)
 refine .seq fun _ hK2 => ?_
 refine .sr fun _ hK3 => ?_
 refine .mv rfl (.v (.lenR sl22 rfl rdp) (.v (.lss rfl rfl) (.mv rfl ?_)))
 refine AK.splitB (g := 8) rfl (fun hg_1_3 => ?_) (fun hg_1_3 => ?_)
 ·have hg_1_3' := hg_1_3
  try simp only [bs] at hg_1_3'
  refine AK.pass rfl rfl (hg_1_3) rfl ?_
  refine AK.pass rfl rfl (hg_1_3) rfl ?_
  refine AK.pass rfl rfl (hg_1_3) rfl ?_
  refine .v (.pickT rfl (hg_1_3) rfl) (.nt hK3 ?_)
  refine AK.cond_t rfl (rfl) ?_
  refine .sr fun _ hK4 => ?_
  refine .as rfl (.nt hK4 (.ret (.then_ret ?_)))
  refine AK.ret1 rfl rfl (fun w hw => ⟨_, _, ?_, rfl, Ret.of (hw.pick [] (by decide) rfl rfl)⟩)
  refine ⟨congrArg Value.bool ?_, rfl⟩
  unfold mgB
  rw [decide_eq_false (by first | omega | grind), Bool.false_and]
 ·have hg_1_3' := hg_1_3
  try simp only [bs] at hg_1_3'
  refine AK.val _ (Yl.move rfl) ⟨_, rfl, gB hg_1_3⟩ rfl ?_
  refine AK.val _ (Yl.lenR sl22 rfl rdp) ⟨_, rfl, gB hg_1_3⟩ rfl ?_
  refine AK.val _ (Yl.gtr rfl rfl) ⟨_, rfl, gB hg_1_3⟩ rfl ?_
  refine .v (.pickF rfl (hg_1_3) rfl) (.nt hK3 ?_)
  refine AK.condD rfl (fun hc0 => ?_) (fun hc0 => ?_)
  ·refine .sr fun _ hK5 => ?_
   refine .as rfl (.nt hK5 (.ret (.then_ret ?_)))
   refine AK.ret1 rfl rfl (fun w hw => ⟨_, _, ?_, rfl, Ret.of (hw.pick [] (by decide) rfl rfl)⟩)
   refine ⟨congrArg Value.bool ?_, rfl⟩
   unfold mgB
   rw [decide_eq_false (by first | omega | grind), Bool.false_and]
  ·refine .skip ?_
   refine AK.then_ (hK2 _ ?_)
   refine .seq fun _ hK6 => ?_
   refine .sr fun _ hK7 => ?_
   refine .mv rfl (.v (.lenR sl22 rfl rdp) (.mv rfl (.nt hK7 (.block ?_))))
   refine AK.loopK (X := Nat) [(0, _), (13, _), (14, _)] (fun k => [(15, .int .i64 (k : Int))]) (fun k => []) (fun k => k ≤ G.length ∧ ∀ i, i < k → vfB (G.getD i []) = true ∧ (G.getD i []).length = (G.getD 0 []).length) (fun k => G.length - k) (0) slr ?_ ?_ ?_ ?_
   ·exact ⟨Nat.zero_le _, fun i hi => absurd hi (Nat.not_lt_zero i)⟩
   ·exact slr
   ·exact fun w hw => hw
   ·intro k hg0 _ hK8
    refine .sr fun _ hK9 => ?_
    refine .v (.lss rfl rfl) (.nt hK9 ?_)
    refine .seq fun _ hK10 => ?_
    refine AK.condD rfl (fun hc1 => ?_) (fun hc1 => ?_)
    ·have hk1 := h2 k (by omega)
     have hk0 := h2 0 (by omega)
     unfold RdL at hk1 hk0
     have hm1 := Rd.le hk1
     have hm0 := Rd.le hk0
     refine .skip ?_
     refine AK.then_ (hK10 _ ?_)
     refine .seq fun _ hK11 => ?_
     refine .block ?_
     refine .sr fun _ hK12 => ?_
     first | refine .v (.iN sl22 rfl rfl) ?_ | refine .v (.iK sl22 rfl rfl) ?_
     refine .v (.loadV on26 rfl rdp (by omega)) ?_
     refine .as rfl (.nt hK12 ?_)
     refine .sr fun _ hK13 => ?_
     refine .mv rfl ?_
     refine AK.call co56 rfl (fun w hw => s_rvalid w _ (G.getD k []) (RdL.at (h2 k (by omega)) hw)) trivial rfl ?_
     rintro r o ⟨rfl, rfl⟩
     refine .v (.not rfl) (.mv rfl ?_)
     refine AK.splitB (g := 22) rfl (fun hg_6_3 => ?_) (fun hg_6_3 => ?_)
     ·have hg_6_3' := hg_6_3
      try simp only [bs] at hg_6_3'
      refine AK.pass rfl rfl (hg_6_3) rfl ?_
      refine AK.pass rfl rfl (hg_6_3) rfl ?_
      refine AK.pass rfl rfl (hg_6_3) rfl ?_
      refine AK.pass rfl rfl (hg_6_3) rfl ?_
      refine AK.pass rfl rfl (hg_6_3) rfl ?_
      refine AK.pass rfl rfl (hg_6_3) rfl ?_
      refine AK.pass rfl rfl (hg_6_3) rfl ?_
      refine .v (.pickT rfl (hg_6_3) rfl) (.nt hK13 ?_)
      refine AK.cond_t rfl (rfl) ?_
      refine .sr fun _ hK14 => ?_
      refine .as rfl (.nt hK14 (.ret (.block_ret (.then_ret (.then_ret (.block_ret (.then_ret ?_)))))))
      refine AK.ret1 rfl rfl (fun w hw => ⟨_, _, ?_, rfl, Ret.of (hw.pick [] (by decide) rfl rfl)⟩)
      refine ⟨congrArg Value.bool ?_, rfl⟩
      exact mgB_bad (k := k) (by omega) (by first | omega | grind)
     ·have hg_6_3' := hg_6_3
      try simp only [bs] at hg_6_3'
      refine AK.val _ (Yl.move rfl) ⟨_, rfl, gB hg_6_3⟩ rfl ?_
      refine AK.val _ (Yl.lenR sl26 rfl rdp) ⟨_, rfl, gB hg_6_3⟩ rfl ?_
      refine AK.val _ (Yl.move rfl) ⟨_, rfl, gB hg_6_3⟩ rfl ?_
      refine AK.val _ (Yl.idxN (k := 0) sl22 rfl rfl rdp (by decide) (by omega)) ⟨_, rfl, gB hg_6_3⟩ rfl ?_
      refine AK.val _ (Yl.loadV on26 rfl rdp (by omega)) ⟨_, rfl, gB hg_6_3⟩ rfl ?_
      refine AK.val _ (Yl.lenR sl26 rfl rdp) ⟨_, rfl, gB hg_6_3⟩ rfl ?_
      refine AK.val _ (Yl.neq rfl rfl) ⟨_, rfl, gB hg_6_3⟩ rfl ?_
      refine .v (.pickF rfl (hg_6_3) rfl) (.nt hK13 ?_)
      refine AK.condNe rfl (fun hc2 => ?_) (fun hc2 => ?_)
      ·refine .sr fun _ hK15 => ?_
       refine .as rfl (.nt hK15 (.ret (.block_ret (.then_ret (.then_ret (.block_ret (.then_ret ?_)))))))
       refine AK.ret1 rfl rfl (fun w hw => ⟨_, _, ?_, rfl, Ret.of (hw.pick [] (by decide) rfl rfl)⟩)
       refine ⟨congrArg Value.bool ?_, rfl⟩
       exact mgB_bad (k := k) (by omega) (by first | omega | grind)
      ·refine .skip (.block_normal ?_)
       refine AK.then_ (hK11 _ ?_)
       refine AK.region ?_
       refine .v (.add rfl rfl (by omega)) ?_
       refine .mv rfl (.nil ?_)
       refine AK.then_ (hK8 _ _ (k + 1) ⟨by omega, fun i hi => by rcases Nat.lt_or_ge i k with hik | hik; exact hg0.2 i hik; obtain rfl : i = k := (by omega); first | (constructor <;> first | omega | grind) | grind⟩ (by omega) (slr) (fun w hw => hw))
    ·refine .exit (.then_exit (.then_exit (.block_exit ?_)))
     refine AK.then_ (hK6 _ ?_)
     refine .sr fun _ hK16 => ?_
     refine .as rfl (.nt hK16 (.ret ?_))
     refine AK.ret1 rfl rfl (fun w hw => ⟨_, _, ?_, rfl, Ret.of (hw.pick [] (by decide) rfl rfl)⟩)
     refine ⟨congrArg Value.bool ?_, rfl⟩
     exact mgB_ok (by omega) (fun i hi => hg0.2 i (by omega))

theorem s_right (w : World) (v : Value) (G : List (List Int)) (h : RdLL (fun _ => False) (Value.int .i64) w v G) (n : Int) : CallS Tryz.prog 6 [v, .int .i64 n] w (fun r o => r = .bool (rightB G n) ∧ o = []) := by
 have h0 := h
 obtain ⟨gs, hgl, h1, h2⟩ := h
 have hm := Rd.le h1
 refine spec_of Tryz.func6 rfl (leb rfl) ?_
 refine .sr fun _ hK1 => ?_
 refine .as rfl (.nt hK1 ?_)
 refine .sr fun _ hK2 => ?_
 refine .mv rfl ?_
 refine AK.call co28 rfl (fun w hw => s_maygens w _ G (h0.at hw)) trivial rfl ?_
 rintro r o ⟨rfl, rfl⟩
 refine .mv rfl ?_
 refine AK.splitB (g := 7) rfl (fun hg_1_2 => ?_) (fun hg_1_2 => ?_)
 ·have hg_1_2' := hg_1_2
  try simp only [bs] at hg_1_2'
  refine AK.val _ (Yl.move rfl) ⟨_, rfl, gB hg_1_2⟩ rfl ?_
  refine AK.val _ (Yl.lenR sl22 rfl rdp) ⟨_, rfl, gB hg_1_2⟩ rfl ?_
  refine AK.val _ (Yl.leq rfl rfl) ⟨_, rfl, gB hg_1_2⟩ rfl ?_
  refine .v (.pickT rfl (hg_1_2) rfl) (.mv rfl ?_)
  refine AK.splitB (g := 12) rfl (fun hg_1_7 => ?_) (fun hg_1_7 => ?_)
  ·have hg_1_7' := hg_1_7
   try simp only [bs] at hg_1_7'
   refine AK.val _ (Yl.move rfl) ⟨_, rfl, gB hg_1_7⟩ rfl ?_
   have hl1 := mgB_len hg_1_2'
   have hk0 := h2 0 (by omega)
   unfold RdL at hk0
   have hm0 := Rd.le hk0
   refine AK.val _ (Yl.iK sl22 rfl rfl) ⟨_, rfl, gB hg_1_7⟩ rfl ?_
   refine AK.val _ (Yl.loadV on26 rfl rdp (by omega)) ⟨_, rfl, gB hg_1_7⟩ rfl ?_
   refine AK.val _ (Yl.lenR sl26 rfl rdp) ⟨_, rfl, gB hg_1_7⟩ rfl ?_
   refine AK.val _ (Yl.move rfl) ⟨_, rfl, gB hg_1_7⟩ rfl ?_
   refine AK.val _ (Yl.leq rfl rfl) ⟨_, rfl, gB hg_1_7⟩ rfl ?_
   refine .v (.pickT rfl (hg_1_7) rfl) (.as rfl (.nt hK2 (.ret ?_)))
   refine AK.ret1 rfl rfl (fun w hw => ⟨_, _, ?_, rfl, Ret.of (hw.pick [] (by decide) rfl rfl)⟩)
   refine ⟨congrArg Value.bool ?_, rfl⟩
   unfold rightB
   first | (simp_all; done) | grind
  ·have hg_1_7' := hg_1_7
   try simp only [bs] at hg_1_7'
   refine AK.pass rfl rfl (hg_1_7) rfl ?_
   refine AK.pass rfl rfl (hg_1_7) rfl ?_
   refine AK.pass rfl rfl (hg_1_7) rfl ?_
   refine AK.pass rfl rfl (hg_1_7) rfl ?_
   refine AK.pass rfl rfl (hg_1_7) rfl ?_
   refine AK.pass rfl rfl (hg_1_7) rfl ?_
   refine .v (.pickF rfl (hg_1_7) rfl) (.as rfl (.nt hK2 (.ret ?_)))
   refine AK.ret1 rfl rfl (fun w hw => ⟨_, _, ?_, rfl, Ret.of (hw.pick [] (by decide) rfl rfl)⟩)
   refine ⟨congrArg Value.bool ?_, rfl⟩
   unfold rightB
   first | (simp_all; done) | grind
 ·have hg_1_2' := hg_1_2
  try simp only [bs] at hg_1_2'
  refine AK.pass rfl rfl (hg_1_2) rfl ?_
  refine AK.pass rfl rfl (hg_1_2) rfl ?_
  refine AK.pass rfl rfl (hg_1_2) rfl ?_
  refine .v (.pickF rfl (hg_1_2) rfl) (.mv rfl ?_)
  refine AK.pass rfl rfl rfl rfl ?_
  refine AK.pass rfl rfl rfl rfl ?_
  refine AK.pass rfl rfl rfl rfl ?_
  refine AK.pass rfl rfl rfl rfl ?_
  refine AK.pass rfl rfl rfl rfl ?_
  refine AK.pass rfl rfl rfl rfl ?_
  refine .v (.pickF rfl (rfl) rfl) (.as rfl (.nt hK2 (.ret ?_)))
  refine AK.ret1 rfl rfl (fun w hw => ⟨_, _, ?_, rfl, Ret.of (hw.pick [] (by decide) rfl rfl)⟩)
  refine ⟨congrArg Value.bool ?_, rfl⟩
  unfold rightB
  first | (simp_all; done) | grind

theorem s_eqint (w : World) (u v : Value) (xs ys : List Int) (hu : RdL (fun _ => False) (Value.int .i64) w u xs) (hv : RdL (fun _ => False) (Value.int .i64) w v ys) : CallS Tryz.prog 108 [u, v] w (fun r o => r = .bool (decide (xs = ys)) ∧ o = []) := by
 unfold RdL at hu hv
 have hm := Rd.le hu
 have hm2 := Rd.le hv
 refine spec_of Tryz.func108 rfl (leb rfl) ?_
 refine .sr fun _ hK1 => ?_
 refine .as rfl (.nt hK1 ?_)
 refine .seq fun _ hK2 => ?_
 refine .sr fun _ hK3 => ?_
 refine .mv rfl (.v (.lenR sl26 rfl rdp) (.mv rfl (.v (.lenR sl26 rfl rdp) (.v (.neq rfl rfl) (.nt hK3 ?_)))))
 refine AK.condNe rfl (fun hc0 => ?_) (fun hc0 => ?_)
 ·refine .sr fun _ hK4 => ?_
  refine .as rfl (.nt hK4 (.ret (.then_ret ?_)))
  refine AK.ret1 rfl rfl (fun w hw => ⟨_, _, ?_, rfl, Ret.of (hw.pick [] (by decide) rfl rfl)⟩)
  exact ⟨by simp; intro e; subst e; omega, rfl⟩
 ·refine .skip ?_
  refine AK.then_ (hK2 _ ?_)
  refine .seq fun _ hK5 => ?_
  refine .sr fun _ hK6 => ?_
  refine .mv rfl (.v (.lenR sl26 rfl rdp) (.mv rfl (.nt hK6 (.block ?_))))
  refine AK.loopK (X := Nat) [(0, _), (1, _), (12, _)] (fun k => [(13, .int .i64 (k : Int))]) (fun k => []) (fun k => k ≤ xs.length ∧ xs.length = ys.length ∧ xs.take k = ys.take k) (fun k => xs.length - k) (0) slr ?_ ?_ ?_ ?_
  ·exact ⟨Nat.zero_le _, by omega, by simp⟩
  ·exact slr
  ·exact fun w hw => hw
  ·intro k hg0 _ hK7
   obtain ⟨hk, hl, ht⟩ := hg0
   refine .sr fun _ hK8 => ?_
   refine .v (.lss rfl rfl) (.nt hK8 ?_)
   refine .seq fun _ hK9 => ?_
   refine AK.condD rfl (fun hc1 => ?_) (fun hc1 => ?_)
   ·refine .skip ?_
    refine AK.then_ (hK9 _ ?_)
    refine .seq fun _ hK10 => ?_
    refine .block ?_
    refine .sr fun _ hK11 => ?_
    refine .mv rfl (.as rfl (.nt hK11 ?_))
    refine .seq fun _ hK12 => ?_
    refine AK.quiet mixed krf ?_
    refine .mv rfl (.mv rfl ?_)
    first | refine .v (.iN sl26 rfl rfl) ?_ | refine .v (.iK sl26 rfl rfl) ?_
    refine .v (.loadI on3 rfl rdp (by omega)) ?_
    refine .mv rfl (.mv rfl ?_)
    first | refine .v (.iN sl26 rfl rfl) ?_ | refine .v (.iK sl26 rfl rfl) ?_
    refine .v (.loadI on3 rfl rdp (by omega)) ?_
    refine .v (.neq rfl rfl) ?_
    refine QK.nil (QK.fin ?_)
    refine AK.then_ (hK12 _ ?_)
    refine AK.condNe rfl (fun hc2 => ?_) (fun hc2 => ?_)
    ·refine .sr fun _ hK13 => ?_
     refine .as rfl (.nt hK13 (.ret (.block_ret (.then_ret (.then_ret (.block_ret (.then_ret ?_)))))))
     refine AK.ret1 rfl rfl (fun w hw => ⟨_, _, ?_, rfl, Ret.of (hw.pick [] (by decide) rfl rfl)⟩)
     exact ⟨by simp; intro e; subst e; simp at *, rfl⟩
    ·refine .skip (.block_normal ?_)
     refine AK.then_ (hK10 _ ?_)
     refine AK.region ?_
     refine .v (.add rfl rfl (by omega)) ?_
     refine .mv rfl (.nil ?_)
     refine AK.then_ (hK7 _ _ (k + 1) ⟨by omega, by omega, (beq_takeD 0 hl k (by omega) ht).2 (by assumption)⟩ (by omega) (slr) (fun w hw => hw))
   ·refine .exit (.then_exit (.then_exit (.block_exit ?_)))
    refine AK.then_ (hK5 _ ?_)
    refine .sr fun _ hK14 => ?_
    refine .as rfl (.nt hK14 (.ret ?_))
    refine AK.ret1 rfl rfl (fun w hw => ⟨_, _, ?_, rfl, Ret.of (hw.pick [] (by decide) rfl rfl)⟩)
    have : k = xs.length := by omega
    subst this
    exact ⟨by simp; rw [List.take_length, hl, List.take_length] at ht; exact ht, rfl⟩

theorem s_eqfunc (w : World) (u v : Value) (xss yss : List (List Int)) (hu : RdLL (fun _ => False) (Value.int .i64) w u xss) (hv : RdLL (fun _ => False) (Value.int .i64) w v yss) : CallS Tryz.prog 107 [u, v, .func (.func 108) #[] #[]] w (fun r o => r = .bool (decide (xss = yss)) ∧ o = []) := by
 obtain ⟨us, hul, hu1, hu2⟩ := hu
 obtain ⟨vs, hvl, hv1, hv2⟩ := hv
 have hmx := Rd.le hu1
 have hmy := Rd.le hv1
 refine spec_of Tryz.func107 rfl (leb rfl) ?_
 refine .sr fun _ hK1 => ?_
 refine .as rfl (.nt hK1 ?_)
 refine .seq fun _ hK2 => ?_
 refine .sr fun _ hK3 => ?_
 refine .mv rfl (.v (.lenR sl22 rfl rdp) (.mv rfl (.v (.lenR sl22 rfl rdp) (.v (.neq rfl rfl) (.nt hK3 ?_)))))
 refine AK.condNe rfl (fun hc0 => ?_) (fun hc0 => ?_)
 ·refine .sr fun _ hK4 => ?_
  refine .as rfl (.nt hK4 (.ret (.then_ret ?_)))
  refine AK.ret1 rfl rfl (fun w hw => ⟨_, _, ?_, rfl, Ret.of (hw.pick [] (by decide) rfl rfl)⟩)
  exact ⟨by simp; intro e; subst e; omega, rfl⟩
 ·refine .skip ?_
  refine AK.then_ (hK2 _ ?_)
  refine .seq fun _ hK5 => ?_
  refine .sr fun _ hK6 => ?_
  refine .mv rfl (.v (.lenR sl22 rfl rdp) (.mv rfl (.nt hK6 (.block ?_))))
  refine AK.loopK (X := Nat) [(1, _), (2, _), (15, _), (16, _)] (fun k => [(17, .int .i64 (k : Int))]) (fun k => []) (fun k => k ≤ xss.length ∧ xss.length = yss.length ∧ xss.take k = yss.take k) (fun k => xss.length - k) (0) slr ?_ ?_ ?_ ?_
  ·exact ⟨Nat.zero_le _, by omega, by simp⟩
  ·exact slr
  ·exact fun w hw => hw
  ·intro k hg0 _ hK7
   obtain ⟨hk, hl, ht⟩ := hg0
   refine .sr fun _ hK8 => ?_
   refine .v (.lss rfl rfl) (.nt hK8 ?_)
   refine .seq fun _ hK9 => ?_
   refine AK.condD rfl (fun hc1 => ?_) (fun hc1 => ?_)
   ·refine .skip ?_
    refine AK.then_ (hK9 _ ?_)
    refine .seq fun _ hK10 => ?_
    refine .block ?_
    refine .sr fun _ hK11 => ?_
    refine .mv rfl ?_
    first | refine .v (.iN sl22 rfl rfl) ?_ | refine .v (.iK sl22 rfl rfl) ?_
    refine .v (.loadV on26 rfl rdp (by omega)) ?_
    refine .as rfl (.as rfl (.nt hK11 ?_))
    refine .sr fun _ hK12 => ?_
    refine .mv rfl (.mv rfl ?_)
    first | refine .v (.iN sl22 rfl rfl) ?_ | refine .v (.iK sl22 rfl rfl) ?_
    refine .v (.loadV on26 rfl rdp (by omega)) ?_
    refine .as rfl (.nt hK12 ?_)
    refine .sr fun _ hK13 => ?_
    refine .mv rfl (.mv rfl (.mv rfl ?_))
    refine AK.callV (us := []) (cs := []) co108 rfl rfl (fun w hw => s_eqint w (us.getD k undef) (vs.getD k undef) (xss.getD k []) (yss.getD k []) (RdL.at (hu2 k (by omega)) hw) (RdL.at (hv2 k (by omega)) hw)) trivial rfl ?_
    rintro r o ⟨rfl, rfl⟩
    refine .v (.not rfl) (.nt hK13 ?_)
    refine AK.condB rfl (fun hc2 => ?_) (fun hc2 => ?_)
    ·refine .sr fun _ hK14 => ?_
     refine .as rfl (.nt hK14 (.ret (.block_ret (.then_ret (.then_ret (.block_ret (.then_ret ?_)))))))
     refine AK.ret1 rfl rfl (fun w hw => ⟨_, _, ?_, rfl, Ret.of (hw.pick [] (by decide) rfl rfl)⟩)
     exact ⟨by simp; intro e; subst e; simp at *, rfl⟩
    ·refine .skip (.block_normal ?_)
     refine AK.then_ (hK10 _ ?_)
     refine AK.region ?_
     refine .v (.add rfl rfl (by omega)) ?_
     refine .mv rfl (.nil ?_)
     refine AK.then_ (hK7 _ _ (k + 1) ⟨by omega, by omega, (beq_takeD [] hl k (by omega) ht).2 (of_decide_eq_true hc2)⟩ (by omega) (slr) (fun w hw => hw))
   ·refine .exit (.then_exit (.then_exit (.block_exit ?_)))
    refine AK.then_ (hK5 _ ?_)
    refine .sr fun _ hK15 => ?_
    refine .as rfl (.nt hK15 (.ret ?_))
    refine AK.ret1 rfl rfl (fun w hw => ⟨_, _, ?_, rfl, Ret.of (hw.pick [] (by decide) rfl rfl)⟩)
    have : k = xss.length := by omega
    subst this
    exact ⟨by simp; rw [List.take_length, hl, List.take_length] at ht; exact ht, rfl⟩

theorem eqt39 : eqT2B Tryz.prog 39 = true := by kernel_rfl
theorem s_eqrule (w : World) (u v : Value) (xs ys : List Rul) (hu : RdR (fun _ => False) w u xs) (hv : RdR (fun _ => False) w v ys) : CallS Tryz.prog 109 [u, v] w (fun r o => r = .bool (decide (xs = ys)) ∧ o = []) := by
 unfold RdR at hu hv
 have hm := Rd.le hu
 have hm2 := Rd.le hv
 refine spec_of Tryz.func109 rfl (leb rfl) ?_
 refine .sr fun _ hK1 => ?_
 refine .as rfl (.nt hK1 ?_)
 refine .seq fun _ hK2 => ?_
 refine .sr fun _ hK3 => ?_
 refine .mv rfl (.v (.lenR sl27 rfl rdp) (.mv rfl (.v (.lenR sl27 rfl rdp) (.v (.neq rfl rfl) (.nt hK3 ?_)))))
 refine AK.condNe rfl (fun hc0 => ?_) (fun hc0 => ?_)
 ·refine .sr fun _ hK4 => ?_
  refine .as rfl (.nt hK4 (.ret (.then_ret ?_)))
  refine AK.ret1 rfl rfl (fun w hw => ⟨_, _, ?_, rfl, Ret.of (hw.pick [] (by decide) rfl rfl)⟩)
  exact ⟨by simp; intro e; subst e; omega, rfl⟩
 ·refine .skip ?_
  refine AK.then_ (hK2 _ ?_)
  refine .seq fun _ hK5 => ?_
  refine .sr fun _ hK6 => ?_
  refine .mv rfl (.v (.lenR sl27 rfl rdp) (.mv rfl (.nt hK6 (.block ?_))))
  refine AK.loopK (X := Nat) [(0, _), (1, _), (12, _)] (fun k => [(13, .int .i64 (k : Int))]) (fun k => []) (fun k => k ≤ xs.length ∧ xs.length = ys.length ∧ xs.take k = ys.take k) (fun k => xs.length - k) (0) slr ?_ ?_ ?_ ?_
  ·exact ⟨Nat.zero_le _, by omega, by simp⟩
  ·exact slr
  ·exact fun w hw => hw
  ·intro k hg0 _ hK7
   obtain ⟨hk, hl, ht⟩ := hg0
   refine .sr fun _ hK8 => ?_
   refine .v (.lss rfl rfl) (.nt hK8 ?_)
   refine .seq fun _ hK9 => ?_
   refine AK.condD rfl (fun hc1 => ?_) (fun hc1 => ?_)
   ·refine .skip ?_
    refine AK.then_ (hK9 _ ?_)
    refine .seq fun _ hK10 => ?_
    refine .block ?_
    refine .sr fun _ hK11 => ?_
    refine .mv rfl (.as rfl (.nt hK11 ?_))
    refine .seq fun _ hK12 => ?_
    refine AK.quiet mixed krf ?_
    refine .mv rfl (.mv rfl ?_)
    first | refine .v (.iN sl27 rfl rfl) ?_ | refine .v (.iK sl27 rfl rfl) ?_
    refine .v (.loadRu ag39 rfl rdp (by omega)) ?_
    refine .mv rfl (.mv rfl ?_)
    first | refine .v (.iN sl27 rfl rfl) ?_ | refine .v (.iK sl27 rfl rfl) ?_
    refine .v (.loadRu ag39 rfl rdp (by omega)) ?_
    refine .v (.neqRu eqt39 rfl rfl) ?_
    refine QK.nil (QK.fin ?_)
    refine AK.then_ (hK12 _ ?_)
    refine AK.cond rfl (fun hc2 => ?_) (fun hc2 => ?_)
    ·try simp only [bs] at hc2
     refine .sr fun _ hK13 => ?_
     refine .as rfl (.nt hK13 (.ret (.block_ret (.then_ret (.then_ret (.block_ret (.then_ret ?_)))))))
     refine AK.ret1 rfl rfl (fun w hw => ⟨_, _, ?_, rfl, Ret.of (hw.pick [] (by decide) rfl rfl)⟩)
     exact ⟨by simp; intro e; subst e; simp at *, rfl⟩
    ·try simp only [bs] at hc2
     refine .skip (.block_normal ?_)
     refine AK.then_ (hK10 _ ?_)
     refine AK.region ?_
     refine .v (.add rfl rfl (by omega)) ?_
     refine .mv rfl (.nil ?_)
     refine AK.then_ (hK7 _ _ (k + 1) ⟨by omega, by omega, (beq_takeD ([], []) hl k (by omega) ht).2 (by assumption)⟩ (by omega) (slr) (fun w hw => hw))
   ·refine .exit (.then_exit (.then_exit (.block_exit ?_)))
    refine AK.then_ (hK5 _ ?_)
    refine .sr fun _ hK14 => ?_
    refine .as rfl (.nt hK14 (.ret ?_))
    refine AK.ret1 rfl rfl (fun w hw => ⟨_, _, ?_, rfl, Ret.of (hw.pick [] (by decide) rfl rfl)⟩)
    have : k = xs.length := by omega
    subst this
    exact ⟨by simp; rw [List.take_length, hl, List.take_length] at ht; exact ht, rfl⟩

theorem s_clone (w : World) (v : Value) (xs : List Int) (h : RdL (fun _ => False) (Value.int .i64) w v xs) (hx : xs.length ≤ 100000) : CallS Tryz.prog 70 [v] w (fun r o => IsSl r ∧ o = [row r 3 1 xs.length (xs.map (Value.int .i64))]) := by
 have hh := h
 unfold RdL at hh
 have hm := hh.le
 obtain ⟨oa, cp, rfl, h1, h2, h3, h4⟩ := h
 refine spec_of Tryz.func70 rfl (leb rfl) ?_
 refine .sr fun _ hK1 => ?_
 refine .as rfl (.nt hK1 ?_)
 refine .seq fun _ hK2 => ?_
 refine .sr fun _ hK3 => ?_
 refine .mv rfl (.v (.eqlSl sl26.1 rfl) (.nt hK3 ?_))
 refine AK.cond rfl (fun hc0 => ?_) (fun hc0 => ?_)
 ·try simp only [bs] at hc0
  refine .sr fun _ hK4 => ?_
  refine .as rfl (.nt hK4 (.ret (.then_ret ?_)))
  refine AK.ghost 3 1 ?_
  refine AK.ret1 rfl rfl (fun w hw => ⟨_, _, ?_, rfl, Ret.of (hw.pick [0] (by decide) rfl rfl)⟩)
  have e : xs = [] := by
   cases oa with
   | some a => cases hc0
   | none =>
    cases xs with
    | nil => rfl
    | cons x l => have := h3 (by simp) (by omega); cases this
  subst e
  exact ⟨nilSl, rfl⟩
 ·try simp only [bs] at hc0
  refine .skip ?_
  refine AK.then_ (hK2 _ ?_)
  refine .sr fun _ hK5 => ?_
  refine AK.lit (xs := []) sl26 el3 rfl rfl rfl (by intro a ha; cases ha) (by decide) (by decide) trivial rfl (fun lv => ?_)
  refine .mv rfl ?_
  refine AK.appendS 0 rfl sl26 el3 rfl (by decide) rfl rfl rfl rdp (one'_map _ (fun _ => rfl) xs) (by omega) (by omega) trivial rfl (fun av => ?_)
  refine AK.shape 0 rfl (fun sv => ?_)
  refine .as rfl (.nt hK5 (.ret ?_))
  refine AK.ret1 rfl rfl (fun w hw => ⟨_, _, ?_, rfl, Ret.of (hw.pick [0] (by decide) rfl rfl)⟩)
  refine ⟨sv, ?_⟩
  simp

theorem s_ident (w : World) (n : Nat) (hn : 1 ≤ n ∧ n ≤ 32) : CallS Tryz.prog 72 [.int .i64 (n : Int)] w (fun r o => IsSl r ∧ o = [row r 3 1 (idF n).length ((idF n).map (Value.int .i64))]) := by
 refine spec_of Tryz.func72 rfl (leb rfl) ?_
 refine .sr fun _ hK1 => ?_
 refine .as rfl (.nt hK1 ?_)
 refine .seq fun _ hK2 => ?_
 refine .sr fun _ hK3 => ?_
 refine .mv rfl (.v (.lss rfl rfl) (.mv rfl ?_))
 refine AK.knownF (g := 7) rfl (decide_eq_false (by omega)) (fun hg_1_2 => ?_)
 refine AK.val _ (Yl.move rfl) ⟨_, rfl, gB hg_1_2⟩ rfl ?_
 refine AK.val _ (Yl.gtr rfl rfl) ⟨_, rfl, gB hg_1_2⟩ rfl ?_
 refine .v (.pickF rfl (hg_1_2) rfl) (.nt hK3 ?_)
 refine AK.cond_f rfl (decide_eq_false (by omega)) ?_
 refine .skip ?_
 refine AK.then_ (hK2 _ ?_)
 refine .sr fun _ hK4 => ?_
 refine .mv rfl ?_
 refine AK.make1 sl26 el3 rfl rfl rfl (by omega) (by omega) trivial rfl (fun mv0 => ?_)
 refine AK.shape 0 rfl (fun smv => ?_)
 refine .as rfl (.nt hK4 ?_)
 refine .seq fun _ hK5 => ?_
 refine .sr fun _ hK6 => ?_
 refine .mv rfl (.v (.lenR sl26 rfl rdp) (.mv rfl (.nt hK6 (.block ?_))))
 refine AK.loopK (X := Nat) [(3, _), (14, _)] (fun k => [(15, .int .i64 (k : Int))]) (fun k => [row mv0 3 1 n ((((List.range k).map fun (i : Nat) => (i : Int)) ++ List.replicate (n - k) 0).map (Value.int .i64))]) (fun k => k ≤ n) (fun k => n - k) (0) slr ?_ ?_ ?_ ?_
 ·exact Nat.zero_le _
 ·exact slr
 ·exact fun w hw => by simpa using hw
 ·intro k hg0 _ hK7
  refine .sr fun _ hK8 => ?_
  refine .v (.lss rfl rfl) (.nt hK8 ?_)
  refine .seq fun _ hK9 => ?_
  refine AK.condD rfl (fun hc1 => ?_) (fun hc1 => ?_)
  ·refine .skip ?_
   refine AK.then_ (hK9 _ ?_)
   refine .seq fun _ hK10 => ?_
   refine .block ?_
   refine .sr fun _ hK11 => ?_
   refine .mv rfl (.as rfl (.nt hK11 ?_))
   refine AK.region ?_
   refine .mv rfl (.mv rfl (.mv rfl ?_))
   first | refine .v (.iN sl26 rfl rfl) ?_ | refine .v (.iK sl26 rfl rfl) ?_
   refine AK.store1e 0 rfl sz3 rfl rfl rfl rfl (by omega) (cs' := _) (fill_set (Value.int .i64) _ 0 (k : Int) n k (by simp) (by omega)) trivial ?_
   refine .nil (.block_normal ?_)
   refine AK.then_ (hK10 _ ?_)
   refine AK.region ?_
   refine .v (.add rfl rfl (by omega)) ?_
   refine .mv rfl (.nil ?_)
   refine AK.then_ (hK7 _ _ (k + 1) (by omega) (by omega) (slr) (fun w hw => by rw [show (List.range (k + 1)).map (fun (i : Nat) => (i : Int)) = (List.range k).map (fun (i : Nat) => (i : Int)) ++ [(k : Int)] from by rw [List.range_succ, List.map_append]; rfl]; exact hw))
  ·refine .exit (.then_exit (.then_exit (.block_exit ?_)))
   refine AK.then_ (hK5 _ ?_)
   refine .sr fun _ hK12 => ?_
   refine .mv rfl (.as rfl (.nt hK12 (.ret ?_)))
   refine AK.ret1 rfl rfl (fun w hw => ⟨_, _, ?_, rfl, Ret.of (hw.pick [0] (by decide) rfl rfl)⟩)
   refine ⟨smv, ?_⟩
   obtain rfl : k = n := by omega
   rw [Nat.sub_self, List.replicate_zero, List.append_nil, show (idF k).length = k by simp [idF]]
   rfl

end Go.Proofs.YtdnhiinakhmhgaaGreatDoor

namespace Go.Sx
theorem compF_take {f g : List Int} {k : Nat} (hk : k < f.length) : (compF f g).take (k + 1) = (compF f g).take k ++ [g.getD (f.getD k 0).toNat 0] := by
  rw [take_snocD 0 _ k (by simpa [compF] using hk)]
  congr 2
  unfold compF
  simp [List.getD_eq_getElem?_getD, List.getElem?_map, hk]
theorem byv_ofNat {a : Int} (h0 : 0 ≤ a) (h1 : a < 256) : Value.int .u8 a = byv (UInt8.ofNat a.toNat) := by
  unfold byv
  congr 1
  simp
  omega
theorem textF_len (f : List Int) : (textF f).length = f.length := by simp [textF]
theorem RdLL.slv {α : Type} {F : Nat → Prop} {f : α → Value} {w : World} {v : Value} {xss : List (List α)} (h : RdLL F f w v xss) : IsSl v := by
  obtain ⟨rs, h1, h2, h3⟩ := h; exact Rd.sl h2
/-- the run's record, read -/
structure RnR (w : World) (rb mb : Nat) (m : EnM) (q : Rn) : Prop where
  b : BxA w rb (enB mb m q)
  g : RdLL (fun _ => False) (Value.int .i64) w m.vG q.gens
  e : RdLL (fun _ => False) (Value.int .i64) w m.vE q.elems
  p : RdL (fun _ => False) (Value.int .i64) w m.vP q.pre
  l : RdL (fun _ => False) (Value.int .i64) w m.vL q.las
  ri : RdLL (fun _ => False) (Value.int .i64) w m.vR q.right
  u : RdR (fun _ => False) w m.vU q.rules
  s : RdL (fun _ => False) (Value.int .i64) w m.vS q.sing
theorem RnR.own {C : Cx} {own : List Asn} {w : World} {TR TRI TI TRU TS rb mb : Nat} {m : EnM} {r : Rn} (hw : HW C own w) (hm : EnF m r) (h0 : own.take 14 = enO TR TRI TI TRU TS rb mb m r) : RnR w rb mb m r :=
  have h : ∀ k, k < 14 → own[k]? = (enO TR TRI TI TRU TS rb mb m r)[k]? := fun k hk => by rw [← h0, List.getElem?_take, if_pos hk]
  ⟨BxA.own 9 hw (h 9 (by decide)), RdLL.own 0 1 hw hm.gl (h 0 (by decide)) (h 1 (by decide)), RdLL.own 2 3 hw hm.el (h 2 (by decide)) (h 3 (by decide)), RdL.own 4 hw (h 4 (by decide)), RdL.own 5 hw (h 5 (by decide)), RdLL.own 6 7 hw hm.rl (h 6 (by decide)) (h 7 (by decide)), RdR.own 8 hw (h 8 (by decide)), RdL.own 13 hw (h 13 (by decide))⟩
theorem RnR.at {C : Cx} {own : List Asn} {w : World} {rb mb : Nat} {m : EnM} {r : Rn} (h : RnR C.W0 rb mb m r) (hS : C.S = fun _ => False) (hw : HW C own w) : RnR w rb mb m r := by
  have hf := hw.frame
  rw [hS] at hf
  have k : ∀ {v : Value} {sz n : Nat} {cs : List Value}, Rd (fun b => ¬ (fun _ => False) b) C.W0 v sz n cs → Rd (fun b => ¬ (fun _ => False) b) w v sz n cs := fun h => Rd.mono h fun b hb hlt => ⟨hb, hf.block b hlt hb⟩
  have kk : ∀ {v : Value} {xss : List (List Int)}, RdLL (fun _ => False) (Value.int .i64) C.W0 v xss → RdLL (fun _ => False) (Value.int .i64) w v xss := fun h => by
    obtain ⟨rs, h1, h2, h3⟩ := h
    exact ⟨rs, h1, k h2, fun i hi => k (h3 i hi)⟩
  exact ⟨h.b.fr hf, kk h.g, kk h.e, k h.p, k h.l, kk h.ri, k h.u, k h.s⟩
theorem EnF.wG {m m2 : EnM} {r : Rn} (h : EnF m2 r) (h1 : m2.vG = m.vG) (h2 : m2.gs = m.gs) : EnF { m2 with vG := m.vG, gs := m.gs } r := by
  rw [← h1, ← h2]; exact h
theorem letN_new {r : Rn} {x : Nat} (h : textF (prodN r x) ∉ txs r) : letN r x = (addN r (prodN r x) (r.done : Int) (x : Int) (longN r x) (afterN r (r.beh.getD r.done 0) x), (r.elems.length : Int)) := if_neg h
theorem letN_old {r : Rn} {x : Nat} (h : textF (prodN r x) ∈ txs r) : letN r x = (if r.words.getD r.done [] ≠ [] ∧ redN r (r.beh.getD r.done 0) x = true then ruleN r (longN r x) (r.words.getD (posN (txs r) (textF (prodN r x))) []) else r, ((posN (txs r) (textF (prodN r x)) : Nat) : Int)) := if_pos h
theorem EnF.rule {m : EnM} {r : Rn} (h : EnF m r) (w v : List UInt8) {u : Value} (hu : IsSl u) : EnF { m with vU := u } (ruleN r w v) := ⟨h.gl, h.el, h.rl, h.sG, h.sE, h.sP, h.sL, h.sR, hu, h.sW, h.sB, h.sS⟩
theorem rlc_snoc (a : List Rul) (w v : List UInt8) : rlc (a ++ [(w, v)]) = rlc a ++ [sv w, sv v] := by rw [rlc_append]; rfl
theorem rn0_ok {G : List (List Int)} {n : Nat} (hG : VG G n) (mon : Bool) (hn : (G.getD 0 []).length = n) : RnI (rn0 G mon) 0 0 :=
  ⟨by show VG G (G.getD 0 []).length; rw [hn]; exact hG, fun i hi => absurd hi (by simp [rn0]), by simp [txs, rn0], rfl, rfl, rfl, rfl, rfl, Nat.le_refl _, fun i hi => absurd hi (by simp [rn0]), fun i hi => absurd hi (by simp [rn0]), fun i hi => absurd hi (by simp [rn0]), Nat.le_refl _, rfl, fun x hx => absurd hx (by omega), Nat.zero_le _⟩
theorem EnF.sing {m : EnM} {r : Rn} (h : EnF m r) (i : Int) {u : Value} (hu : IsSl u) : EnF { m with vS := u } (singN r i) := ⟨h.gl, h.el, h.rl, h.sG, h.sE, h.sP, h.sL, h.sR, h.sU, h.sW, h.sB, hu⟩
end Go.Sx

namespace Go.Proofs.YtdnhiinakhmhgaaGreatDoor
open Go.Sx Go.RowKit
set_option maxHeartbeats 400000 in
theorem s_compose (w : World) (n : Nat) (hn : 1 ≤ n ∧ n ≤ 32) (u v : Value) (f g : List Int) (hu : RdL (fun _ => False) (Value.int .i64) w u f) (hv : RdL (fun _ => False) (Value.int .i64) w v g) (hf : VF n f) (hg : VF n g) : CallS Tryz.prog 75 [u, v] w (fun r o => IsSl r ∧ o = [row r 3 1 (compF f g).length ((compF f g).map (Value.int .i64))]) := by
 have hu0 := hu
 have hv0 := hv
 unfold RdL at hu hv
 have hfl := hf.1
 have hgl := hg.1
 refine spec_of Tryz.func75 rfl (leb rfl) ?_
 refine .sr fun _ hK1 => ?_
 refine .as rfl (.nt hK1 ?_)
 refine .seq fun _ hK2 => ?_
 refine .sr fun _ hK3 => ?_
 refine .mv rfl (.v (.lenR sl26 rfl rdp) (.mv rfl (.v (.lenR sl26 rfl rdp) (.v (.neq rfl rfl) (.mv rfl ?_)))))
 refine AK.knownF (g := 13) rfl (decide_eq_false (by omega)) (fun hg_1_5 => ?_)
 refine AK.val _ (Yl.move rfl) ⟨_, rfl, gB hg_1_5⟩ rfl ?_
 refine AK.call co69 rfl (fun w hw => s_tvalid w u f (hu0.at hw)) ⟨_, rfl, gB hg_1_5⟩ rfl ?_
 rintro r o ⟨rfl, rfl⟩
 refine AK.val _ (Yl.not rfl) ⟨_, rfl, gB hg_1_5⟩ rfl ?_
 refine .v (.pickF rfl (hg_1_5) rfl) (.mv rfl ?_)
 refine AK.knownF (g := 18) rfl (by rw [hf.vfB hn]; rfl) (fun hg_1_10 => ?_)
 refine AK.val _ (Yl.move rfl) ⟨_, rfl, gB hg_1_10⟩ rfl ?_
 refine AK.call co69 rfl (fun w hw => s_tvalid w v g (hv0.at hw)) ⟨_, rfl, gB hg_1_10⟩ rfl ?_
 rintro r o ⟨rfl, rfl⟩
 refine AK.val _ (Yl.not rfl) ⟨_, rfl, gB hg_1_10⟩ rfl ?_
 refine .v (.pickF rfl (hg_1_10) rfl) (.nt hK3 ?_)
 refine AK.cond_f rfl (by rw [hg.vfB hn]; rfl) ?_
 refine .skip ?_
 refine AK.then_ (hK2 _ ?_)
 refine .sr fun _ hK4 => ?_
 refine .mv rfl (.v (.lenR sl26 rfl rdp) ?_)
 refine AK.make1 sl26 el3 rfl rfl rfl (by omega) (by omega) trivial rfl (fun mv0 => ?_)
 refine AK.shape 0 rfl (fun smv => ?_)
 refine .as rfl (.nt hK4 ?_)
 refine .seq fun _ hK5 => ?_
 refine .sr fun _ hK6 => ?_
 refine .mv rfl (.v (.lenR sl26 rfl rdp) (.mv rfl (.nt hK6 (.block ?_))))
 refine AK.loopK (X := Nat) [(1, _), (5, _), (26, _), (27, _)] (fun k => [(28, .int .i64 (k : Int))]) (fun k => [row mv0 3 1 f.length (((compF f g).take k ++ List.replicate (f.length - k) 0).map (Value.int .i64))]) (fun k => k ≤ f.length) (fun k => f.length - k) (0) slr ?_ ?_ ?_ ?_
 ·exact Nat.zero_le _
 ·exact slr
 ·exact fun w hw => by simpa using hw
 ·intro k hg0 _ hK7
  refine .sr fun _ hK8 => ?_
  refine .v (.lss rfl rfl) (.nt hK8 ?_)
  refine .seq fun _ hK9 => ?_
  refine AK.condD rfl (fun hc1 => ?_) (fun hc1 => ?_)
  ·have hfk := hf.2 k (by omega)
   refine .skip ?_
   refine AK.then_ (hK9 _ ?_)
   refine .seq fun _ hK10 => ?_
   refine .block ?_
   refine .sr fun _ hK11 => ?_
   refine .mv rfl ?_
   first | refine .v (.iN sl26 rfl rfl) ?_ | refine .v (.iK sl26 rfl rfl) ?_
   refine .v (.loadI on3 rfl rdp (by omega)) ?_
   refine .as rfl (.as rfl (.nt hK11 ?_))
   refine AK.region ?_
   refine .mv rfl (.mv rfl (.mv rfl (.mv rfl ?_)))
   first | refine .v (.iN sl26 rfl rfl) ?_ | refine .v (.iK sl26 rfl rfl) ?_
   refine .v (.loadI on3 rfl rdp (by omega)) ?_
   first | refine .v (.iN sl26 rfl rfl) ?_ | refine .v (.iK sl26 rfl rfl) ?_
   refine AK.store1e 0 rfl sz3 rfl rfl rfl rfl (by omega) (cs' := _) (fill_set (Value.int .i64) _ 0 (g.getD (f.getD k 0).toNat 0) f.length k (by simp [compF]; omega) (by omega)) trivial ?_
   refine .nil (.block_normal ?_)
   refine AK.then_ (hK10 _ ?_)
   refine AK.region ?_
   refine .v (.add rfl rfl (by omega)) ?_
   refine .mv rfl (.nil ?_)
   refine AK.then_ (hK7 _ _ (k + 1) (by omega) (by omega) (slr) (fun w hw => by rw [compF_take (by omega)]; exact hw))
  ·refine .exit (.then_exit (.then_exit (.block_exit ?_)))
   refine AK.then_ (hK5 _ ?_)
   refine .sr fun _ hK12 => ?_
   refine .mv rfl (.as rfl (.nt hK12 (.ret ?_)))
   refine AK.ret1 rfl rfl (fun w hw => ⟨_, _, ?_, rfl, Ret.of (hw.pick [0] (by decide) rfl rfl)⟩)
   refine ⟨smv, ?_⟩
   obtain rfl : k = f.length := by omega
   rw [Nat.sub_self, List.replicate_zero, List.append_nil, List.take_of_length_le (by simp [compF]), show (compF f g).length = f.length by simp [compF]]
   rfl

set_option maxHeartbeats 400000 in
theorem s_text (w : World) (u : Value) (f : List Int) (hu : RdL (fun _ => False) (Value.int .i64) w u f) (hl : f.length ≤ 1000) (hb : ∀ i, i < f.length → 0 ≤ f.getD i 0 ∧ f.getD i 0 < 256) : CallS Tryz.prog 73 [u] w (fun r o => r = sv (textF f) ∧ o = []) := by
 unfold RdL at hu
 refine spec_of Tryz.func73 rfl (leb rfl) ?_
 refine .sr fun _ hK1 => ?_
 refine .as rfl (.nt hK1 ?_)
 refine .sr fun _ hK2 => ?_
 refine .mv rfl (.v (.lenR sl26 rfl rdp) ?_)
 refine AK.make1 sl23 el5 rfl rfl rfl (by omega) (by omega) trivial rfl (fun mv0 => ?_)
 refine .as rfl (.nt hK2 ?_)
 refine .seq fun _ hK3 => ?_
 refine .sr fun _ hK4 => ?_
 refine .mv rfl (.v (.lenR sl26 rfl rdp) (.mv rfl (.nt hK4 (.block ?_))))
 refine AK.loopK (X := Nat) [(3, _), (9, _), (10, _)] (fun k => [(11, .int .i64 (k : Int))]) (fun k => [row mv0 5 1 f.length ((textF (f.take k) ++ List.replicate (f.length - k) 0).map byv)]) (fun k => k ≤ f.length) (fun k => f.length - k) (0) slr ?_ ?_ ?_ ?_
 ·exact Nat.zero_le _
 ·exact slr
 ·exact fun w hw => by simpa [textF, byv] using hw
 ·intro k hg0 _ hK5
  refine .sr fun _ hK6 => ?_
  refine .v (.lss rfl rfl) (.nt hK6 ?_)
  refine .seq fun _ hK7 => ?_
  refine AK.condD rfl (fun hc0 => ?_) (fun hc0 => ?_)
  ·have hfk := hb k (by omega)
   refine .skip ?_
   refine AK.then_ (hK7 _ ?_)
   refine .seq fun _ hK8 => ?_
   refine .block ?_
   refine .sr fun _ hK9 => ?_
   refine .mv rfl ?_
   first | refine .v (.iN sl26 rfl rfl) ?_ | refine .v (.iK sl26 rfl rfl) ?_
   refine .v (.loadI on3 rfl rdp (by omega)) ?_
   refine .as rfl (.as rfl (.nt hK9 ?_))
   refine AK.region ?_
   refine .mv rfl (.mv rfl (.mv rfl ?_))
   refine AK.val (byv (UInt8.ofNat (f.getD k 0).toNat)) (Yl.valE (Yl.convI (by kernel_rfl) un5 rfl (wrap_u8 (by omega))) (byv_ofNat (by omega) (by omega))) trivial rfl ?_
   first | refine .v (.iN sl23 rfl rfl) ?_ | refine .v (.iK sl23 rfl rfl) ?_
   refine AK.store1e 0 rfl sz5 rfl rfl rfl rfl (by omega) (cs' := _) (fill_set byv _ 0 (UInt8.ofNat (f.getD k 0).toNat) f.length k (by rw [textF_len, List.length_take]; omega) (by omega)) trivial ?_
   refine .nil (.block_normal ?_)
   refine AK.then_ (hK8 _ ?_)
   refine AK.region ?_
   refine .v (.add rfl rfl (by omega)) ?_
   refine .mv rfl (.nil ?_)
   refine AK.then_ (hK5 _ _ (k + 1) (by omega) (by omega) (slr) (fun w hw => by rw [textF_take f k (by omega)]; exact hw))
  ·obtain rfl : k = f.length := by omega
   refine AK.own' [row mv0 5 1 f.length ((textF f).map byv)] (fun w hw => by rw [Nat.sub_self, List.replicate_zero, List.append_nil, List.take_length] at hw; exact hw) ?_
   refine .exit (.then_exit (.then_exit (.block_exit ?_)))
   refine AK.then_ (hK3 _ ?_)
   refine .sr fun _ hK10 => ?_
   refine .mv rfl (.v (.bytesS (l := textF f) sl23.1 un5 un9 rfl (RdS.own 0 rfl)) (.as rfl (.nt hK10 (.ret ?_))))
   refine AK.ret1 rfl rfl (fun w hw => ⟨_, _, ?_, rfl, Ret.of (hw.pick [] (by decide) rfl rfl)⟩)
   exact ⟨rfl, rfl⟩

theorem s_efin (w : World) (rb mb : Nat) (m : EnM) (q : Rn) (hr : RnR w rb mb m q) : CallS Tryz.prog 36 [.pointer (some ⟨rb, 0, none⟩)] w (fun r o => r = .bool (decide (q.done = q.elems.length)) ∧ o = []) := by
 have hbx : BoxS ⟨Tryz.prog, Tryz.f36.ntmps, w, fun _ => False⟩ [] rb (enB mb m q) := BoxS.arg hr.b
 unfold enB at hbx
 obtain ⟨es, hel, he1, he2⟩ := hr.e
 have hme := Rd.le he1
 refine spec_of Tryz.func36 rfl (leb rfl) ?_
 refine .sr fun _ hK1 => ?_
 refine .as rfl (.nt hK1 ?_)
 refine .seq fun _ hK2 => ?_
 refine AK.quiet mixed krf ?_
 refine .mv rfl (.v (.nilCheck rfl) (.v (.fieldAddr fd75_0 rfl) (.v (.fieldAddr fd29_8 rfl) (.v (.loadBox on3 rfl bsp rfl) (.mv rfl (.v (.nilCheck rfl) (.v (.fieldAddr fd75_0 rfl) ?_)))))))
 refine .v (.fieldAddr fd29_3 rfl) (.v (.loadBox on22 rfl bsp rfl) (.v (.lenR sl22 rfl rdp) (.v (.eql rfl rfl) (.as rfl ?_))))
 refine QK.nil (QK.fin ?_)
 refine AK.then_ (hK2 _ ?_)
 refine .ret ?_
 refine AK.ret1 rfl rfl (fun w hw => ⟨_, _, ?_, rfl, Ret.of (hw.pick [] (by decide) rfl rfl)⟩)
 refine ⟨congrArg Value.bool ?_, rfl⟩
 exact decide_eq_decide.2 (by omega)

set_option maxHeartbeats 400000 in
theorem s_after (w : World) (rb mb : Nat) (m : EnM) (q : Rn) (hr : RnR w rb mb m q) (i : Int) (x : Nat) (hx : (i = -1 ∧ x < q.sing.length) ∨ (0 ≤ i ∧ i < q.right.length ∧ x < (q.right.getD i.toNat []).length)) : CallS Tryz.prog 76 [.pointer (some ⟨rb, 0, none⟩), .int .i64 i, .int .i64 (x : Int)] w (fun r o => r = .int .i64 (afterN q i x) ∧ o = []) := by
 have hbx : BoxS ⟨Tryz.prog, Tryz.f76.ntmps, w, fun _ => False⟩ [] rb (enB mb m q) := BoxS.arg hr.b
 unfold enB at hbx
 obtain ⟨rs, hrl, hr1, hr2⟩ := hr.ri
 have hs := hr.s
 unfold RdL at hs
 have hms := Rd.le hs
 have hmr := Rd.le hr1
 refine spec_of Tryz.func76 rfl (leb rfl) ?_
 refine .sr fun _ hK1 => ?_
 refine .as rfl (.nt hK1 ?_)
 refine .seq fun _ hK2 => ?_
 refine .sr fun _ hK3 => ?_
 refine .mv rfl (.v (.eql rfl rfl) (.nt hK3 ?_))
 refine AK.condD rfl (fun hc0 => ?_) (fun hc0 => ?_)
 ·refine .sr fun _ hK4 => ?_
  refine .mv rfl (.v (.nilCheck rfl) (.v (.fieldAddr fd75_4 rfl) (.v (.loadBox on26 rfl bsp rfl) (.mv rfl ?_))))
  first | refine .v (.iN sl26 rfl rfl) ?_ | refine .v (.iK sl26 rfl rfl) ?_
  refine .v (.loadI on3 rfl rdp (by omega)) ?_
  refine .as rfl (.nt hK4 (.ret (.then_ret ?_)))
  refine AK.ret1 rfl rfl (fun w hw => ⟨_, _, ?_, rfl, Ret.of (hw.pick [] (by decide) rfl rfl)⟩)
  refine ⟨congrArg (Value.int .i64) ?_, rfl⟩
  unfold afterN
  rw [if_pos (by omega)]
 ·have hx2 := hx.resolve_left (fun h => by omega)
  have hri := hr2 i.toNat (by omega)
  unfold RdL at hri
  have hmi := Rd.le hri
  refine .skip ?_
  refine AK.then_ (hK2 _ ?_)
  refine .sr fun _ hK5 => ?_
  refine .mv rfl (.v (.nilCheck rfl) (.v (.fieldAddr fd75_0 rfl) (.v (.fieldAddr fd29_6 rfl) (.v (.loadBox on22 rfl bsp rfl) (.mv rfl ?_)))))
  first | refine .v (.iN sl22 rfl rfl) ?_ | refine .v (.iK sl22 rfl rfl) ?_
  refine .v (.loadV on26 rfl rdp (by omega)) ?_
  refine .mv rfl ?_
  first | refine .v (.iN sl26 rfl rfl) ?_ | refine .v (.iK sl26 rfl rfl) ?_
  refine .v (.loadI on3 rfl rdp (by omega)) ?_
  refine .as rfl (.nt hK5 (.ret ?_))
  refine AK.ret1 rfl rfl (fun w hw => ⟨_, _, ?_, rfl, Ret.of (hw.pick [] (by decide) rfl rfl)⟩)
  refine ⟨congrArg (Value.int .i64) ?_, rfl⟩
  unfold afterN
  rw [if_neg (by omega)]

set_option maxHeartbeats 400000 in
theorem s_redafter (w : World) (rb mb : Nat) (m : EnM) (q : Rn) (hr : RnR w rb mb m q) (i : Int) (x : Nat) (hx : (i = -1 ∧ x < q.sing.length) ∨ (0 ≤ i ∧ i < q.right.length ∧ x < (q.right.getD i.toNat []).length)) (hp : 0 ≤ afterN q i x ∧ afterN q i x < q.pre.length ∧ afterN q i x < q.las.length) : CallS Tryz.prog 77 [.pointer (some ⟨rb, 0, none⟩), .int .i64 i, .int .i64 (x : Int)] w (fun r o => r = .bool (redN q i x) ∧ o = []) := by
 have hbx : BoxS ⟨Tryz.prog, Tryz.f77.ntmps, w, fun _ => False⟩ [] rb (enB mb m q) := BoxS.arg hr.b
 unfold enB at hbx
 have hp1 := hr.p
 have hl1 := hr.l
 unfold RdL at hp1 hl1
 have hmp := Rd.le hp1
 have hml := Rd.le hl1
 refine spec_of Tryz.func77 rfl (leb rfl) ?_
 refine .sr fun _ hK1 => ?_
 refine .as rfl (.nt hK1 ?_)
 refine .sr fun _ hK2 => ?_
 refine .mv rfl (.mv rfl (.mv rfl ?_))
 refine AK.call co76 rfl (fun w hw => s_after w rb mb m q (hr.at rfl hw) i x hx) trivial rfl ?_
 rintro r o ⟨rfl, rfl⟩
 refine .as rfl (.nt hK2 ?_)
 refine .sr fun _ hK3 => ?_
 refine .mv rfl (.v (.nilCheck rfl) (.v (.fieldAddr fd75_0 rfl) (.v (.fieldAddr fd29_4 rfl) (.v (.loadBox on26 rfl bsp rfl) (.mv rfl ?_)))))
 first | refine .v (.iN sl26 rfl rfl) ?_ | refine .v (.iK sl26 rfl rfl) ?_
 refine .v (.loadI on3 rfl rdp (by omega)) ?_
 refine .mv rfl (.v (.eql rfl rfl) (.mv rfl ?_))
 refine AK.splitB (g := 22) rfl (fun hg_2_10 => ?_) (fun hg_2_10 => ?_)
 ·have hg_2_10' := hg_2_10
  try simp only [bs] at hg_2_10'
  refine AK.val _ (Yl.move rfl) ⟨_, rfl, gB hg_2_10⟩ rfl ?_
  refine AK.val _ (Yl.nilCheck rfl) ⟨_, rfl, gB hg_2_10⟩ rfl ?_
  refine AK.val _ (Yl.fieldAddr fd75_0 rfl) ⟨_, rfl, gB hg_2_10⟩ rfl ?_
  refine AK.val _ (Yl.fieldAddr fd29_5 rfl) ⟨_, rfl, gB hg_2_10⟩ rfl ?_
  refine AK.val _ (Yl.loadBox on26 rfl bsp rfl) ⟨_, rfl, gB hg_2_10⟩ rfl ?_
  refine AK.val _ (Yl.move rfl) ⟨_, rfl, gB hg_2_10⟩ rfl ?_
  first | refine AK.val _ (.iN sl26 rfl rfl) ⟨_, rfl, gB hg_2_10⟩ rfl ?_ | refine AK.val _ (.iK sl26 rfl rfl) ⟨_, rfl, gB hg_2_10⟩ rfl ?_
  refine AK.val _ (Yl.loadI on3 rfl rdp (by omega)) ⟨_, rfl, gB hg_2_10⟩ rfl ?_
  refine AK.val _ (Yl.move rfl) ⟨_, rfl, gB hg_2_10⟩ rfl ?_
  refine AK.val _ (Yl.eql rfl rfl) ⟨_, rfl, gB hg_2_10⟩ rfl ?_
  refine .v (.pickT rfl (hg_2_10) rfl) (.as rfl (.nt hK3 (.ret ?_)))
  refine AK.ret1 rfl rfl (fun w hw => ⟨_, _, ?_, rfl, Ret.of (hw.pick [] (by decide) rfl rfl)⟩)
  refine ⟨congrArg Value.bool ?_, rfl⟩
  unfold redN
  first | (simp_all; done) | grind
 ·have hg_2_10' := hg_2_10
  try simp only [bs] at hg_2_10'
  refine AK.pass rfl rfl (hg_2_10) rfl ?_
  refine AK.pass rfl rfl (hg_2_10) rfl ?_
  refine AK.pass rfl rfl (hg_2_10) rfl ?_
  refine AK.pass rfl rfl (hg_2_10) rfl ?_
  refine AK.pass rfl rfl (hg_2_10) rfl ?_
  refine AK.pass rfl rfl (hg_2_10) rfl ?_
  refine AK.pass rfl rfl (hg_2_10) rfl ?_
  refine AK.pass rfl rfl (hg_2_10) rfl ?_
  refine AK.pass rfl rfl (hg_2_10) rfl ?_
  refine AK.pass rfl rfl (hg_2_10) rfl ?_
  refine .v (.pickF rfl (hg_2_10) rfl) (.as rfl (.nt hK3 (.ret ?_)))
  refine AK.ret1 rfl rfl (fun w hw => ⟨_, _, ?_, rfl, Ret.of (hw.pick [] (by decide) rfl rfl)⟩)
  refine ⟨congrArg Value.bool ?_, rfl⟩
  unfold redN
  first | (simp_all; done) | grind

end Go.Proofs.YtdnhiinakhmhgaaGreatDoor

namespace Go.Sx
open Go.RowKit
theorem addr_add_add (a : Addr) (x y : Nat) : (a.add x).add y = a.add (x + y) := by
  unfold Addr.add; repeat' split
  all_goals first | rfl | omega | (simp; omega) | (simp_all; done) | (congr 1; omega)
/-- the end of a slice, read -/
theorem RdS.fr {C : Cx} {own : List Asn} {v : Value} {sz n a : Nat} {cs : List Value} (h : RdS C own v sz n cs) (hc : CutS C own v n) (ha : a ≤ n) : RdS C own (slFr v sz a) sz (n - a) (cs.drop (a * sz)) := fun w hw => by
  obtain ⟨oa, cap, rfl, h1, h2, h3, h4⟩ := h w hw
  obtain ⟨ao, c, e, hnc⟩ := hc w hw
  cases e
  have hlen : (cs.drop (a * sz)).length = (n - a) * sz := by rw [List.length_drop, h2, Nat.sub_mul]
  rcases Nat.lt_or_ge a n with hlt | hge
  · have hne : cap ≠ a := by omega
    refine ⟨oa.map (·.add (a * sz)), cap - a, by simp [slFr, hne], by omega, hlen, fun _ hs => by simpa using h3 (by omega) hs, fun ad j u had hj => ?_⟩
    obtain ⟨ad0, rfl⟩ : ∃ x, oa = some x := by cases oa with | none => simp at had | some x => exact ⟨x, rfl⟩
    simp at had
    subst had
    have hj' : cs[a * sz + j]? = some u := by rw [List.getElem?_drop] at hj; exact hj
    obtain ⟨_, h5⟩ := h4 ad0 (a * sz + j) u rfl hj'
    refine ⟨trivial, ?_⟩
    rw [addr_add_add]; exact h5
  · have e0 : n - a = 0 := by omega
    refine ⟨_, cap - a, by simp only [slFr]; rfl, by omega, hlen, fun hp => by omega, fun ad j u _ hj => ?_⟩
    rw [e0, Nat.zero_mul] at hlen
    rw [List.eq_nil_of_length_eq_zero hlen] at hj
    cases hj
/-- a row whatever it holds -/
def rowX (v : Value) (E : TypeId) (sz n : Nat) : Asn where
  holds w F := ∃ cs, (row v E sz n cs).holds w F
  loc := by
    rintro w w' F ⟨cs, h⟩ hb
    exact ⟨cs, (row v E sz n cs).loc w w' F h hb⟩
  lt := by
    rintro w F ⟨cs, h⟩ b hb
    exact (row v E sz n cs).lt w F h b hb
theorem HW.toX {C : Cx} {own : List Asn} {w : World} {v : Value} {E : TypeId} {sz n : Nat} {cs : List Value} (i : Nat) (hi : own[i]? = some (row v E sz n cs)) (h : HW C own w) : HW C (own.set i (rowX v E sz n)) w :=
  HW.elem i hi (fun F hF => show (rowX v E sz n).holds w F from ⟨cs, hF⟩) h
theorem Yl.idxX {C : Cx} {sl : List (Nat × Value)} {own : List Asn} {dst : Option Nat} {ty : TypeId} {pos : String} {aft : Array Edge} {g : Option (Nat × Bool)} (j : Nat) {x i : Operand} {t e : TypeId} {E : TypeId} {sz : Nat} {v : Value} {n k : Nat} (hj : own[j]? = some (rowX v E sz n)) (ht : SlT C.P t e sz) (hx : opv ⟨sl, own⟩ x = some v) (hi : opv ⟨sl, own⟩ i = some (.int .i64 (k : Int)))
    (hz : 0 < sz) (h0 : k < n) : Yl C ⟨sl, own⟩ ⟨dst, .indexAddr t x i, ty, pos, aft, g⟩ (.pointer (some ((slA v).add (k * sz)))) :=
  fun a w hs => by
    obtain ⟨hf, Fs, hh, hal⟩ := hs.world
    obtain ⟨cs, hc⟩ := hh.at_ j _ hj
    obtain ⟨oa, cap, rfl, _, _, h4, _⟩ := row_rd hc
    have := h4 (by omega) hz
    obtain ⟨ad, rfl⟩ := Option.isSome_iff_exists.1 this
    obtain ⟨inf, h2, h3⟩ := ht.inf
    have h0' : (0 : Int) ≤ (k : Int) ∧ (k : Int) < (n : Int) := by omega
    simp [execOp, opv_eval hs hx, opv_eval hs hi, Instr.indexAt, asIntOf, run_underlying ht.1, h0'.1, h0, sizeOf, typeInfo, h2, h3, slA]
/-! ### derivatives -/
theorem dervL_at {a : Int} {nm : Bool} : ∀ {ks : List Ex} {ds : List Dv}, dervL a nm ks = some ds → ds.length = ks.length ∧ ∀ k, k < ks.length → dervE a nm (ks.getD k default) = some (ds.getD k default)
  | [], ds, h => by simp [dervL] at h; subst h; exact ⟨rfl, fun k hk => by simp at hk⟩
  | x :: ks, ds, h => by
    rw [dervL] at h
    obtain ⟨b, hb, h⟩ := bind_some h
    obtain ⟨M, hM, h⟩ := bind_some h
    cases h
    obtain ⟨h1, h2⟩ := dervL_at hM
    refine ⟨by simp [h1], fun k hk => ?_⟩
    cases k with
    | zero => simpa using hb
    | succ k => simpa using h2 k (by simpa using hk)
def nlD (op : Int) (ds : List Dv) : Bool := if op = 4 then decide (0 < (ds.filter (·.2.2)).length) else if op = 6 then decide ((ds.filter (·.2.2)).length = ds.length) else if op = 8 then decide ((ds.filter (·.2.2)).length = 0) else false
theorem boolD_some {op : Int} {ds : List Dv} {d : Dv} (h : boolD op ds = some d) : joinE op (ds.map (·.1)) = some d.1 ∧ joinE op (ds.map (·.2.1)) = some d.2.1 ∧ d.2.2 = nlD op ds := by
  unfold boolD at h
  obtain ⟨b, hb, h⟩ := bind_some h
  obtain ⟨s, hs, h⟩ := bind_some h
  cases h
  exact ⟨hb, hs, rfl⟩
theorem map_getD1 (ds : List Dv) (k : Nat) (h : k < ds.length) : (ds.map (·.1)).getD k default = (ds.getD k default).1 ∧ (ds.map (·.2.1)).getD k default = (ds.getD k default).2.1 := by
  simp [List.getD_eq_getElem?_getD, h]
theorem count_snoc (ds : List Dv) (k : Nat) (h : k < ds.length) : ((ds.take (k + 1)).filter (·.2.2)).length = ((ds.take k).filter (·.2.2)).length + if (ds.getD k default).2.2 then 1 else 0 := by
  rw [take_snocD default ds k h, List.filter_append, List.length_append]
  congr 1
  by_cases hq : (ds.getD k default).2.2 = true
  · rw [if_pos hq, List.filter_cons_of_pos (by simpa using hq)]; rfl
  · rw [if_neg hq, List.filter_cons_of_neg (by simpa using hq)]; rfl
theorem count_le (ds : List Dv) (k : Nat) : ((ds.take k).filter (·.2.2)).length ≤ ds.length := by
  have h1 := List.length_filter_le (fun d : Dv => d.2.2) (ds.take k)
  have h2 : (ds.take k).length ≤ ds.length := by rw [List.length_take]; omega
  omega
theorem dervE_bool {a : Int} {nm : Bool} {e : Ex} {d : Dv} (h : dervE a nm e = some d) (ho : e.op = 4 ∨ e.op = 6 ∨ e.op = 8) : e.kids.length ≤ 1073741824 ∧ ∃ ds, dervL a nm e.kids = some ds ∧ boolD e.op ds = some d := by
  cases e with
  | mk op lt ks =>
    simp only [Ex.op, Ex.kids] at ho ⊢
    rw [dervE, if_neg (by omega), if_neg (by omega), if_pos ho] at h
    split at h
    · obtain ⟨ds, h1, h2⟩ := bind_some h
      exact ⟨by assumption, ds, h1, h2⟩
    · cases h
theorem dervE_star {a : Int} {nm : Bool} {e : Ex} {d : Dv} (h : dervE a nm e = some d) (ho : e.op = 7) : ∃ k0 s b, 0 < e.kids.length ∧ dervE a nm (e.kids.getD 0 default) = some k0 ∧ joinE 7 [k0.2.1] = some s ∧ joinE 5 [k0.1, s] = some b ∧ d = (b, s, true) := by
  cases e with
  | mk op lt ks =>
    simp only [Ex.op, Ex.kids] at ho ⊢
    rw [dervE, if_neg (by omega), if_neg (by omega), if_neg (by omega), if_pos ho] at h
    obtain ⟨ds, h1, h⟩ := bind_some h
    obtain ⟨h3, h4⟩ := dervL_at h1
    split at h
    · cases h
    · obtain ⟨s, hs, h⟩ := bind_some h
      obtain ⟨b, hb, h⟩ := bind_some h
      cases h
      exact ⟨_, s, b, by omega, h4 0 (by omega), hs, hb, rfl⟩
theorem dervE_con {a : Int} {nm : Bool} {e : Ex} {d : Dv} (h : dervE a nm e = some d) (ho : e.op = 5) : e.kids.length ≤ 1073741824 ∧ ∃ BY SV N P, dervC a nm true e.kids = some (BY, SV, N) ∧ partsD BY SV = some P ∧ joinE 4 P = some d.1 ∧ joinE 5 SV = some d.2.1 ∧ d.2.2 = N := by
  cases e with
  | mk op lt ks =>
    simp only [Ex.op, Ex.kids] at ho ⊢
    rw [dervE, if_neg (by omega), if_neg (by omega), if_neg (by omega), if_neg (by omega), if_pos ho] at h
    split at h
    · obtain ⟨⟨BY, SV, N⟩, h1, h⟩ := bind_some h
      obtain ⟨P, hP, h⟩ := bind_some h
      obtain ⟨b, hb, h⟩ := bind_some h
      obtain ⟨s, hs, h⟩ := bind_some h
      cases h
      exact ⟨by assumption, BY, SV, N, P, h1, hP, hb, hs, rfl⟩
    · cases h
/-- a concatenation: k kids are read -/
structure CatI (a : Int) (nm : Bool) (ks BY SV : List Ex) (N nl : Bool) (k m : Nat) : Prop where
  kl : k ≤ ks.length
  ml : m ≤ BY.length
  sl : SV.length = ks.length
  d : dervC a nm nl (ks.drop k) = some (BY.drop m, SV.drop k, N)
theorem dervC_len {a : Int} {nm : Bool} : ∀ {ks : List Ex} {nl : Bool} {x : List Ex × List Ex × Bool}, dervC a nm nl ks = some x → x.2.1.length = ks.length ∧ x.1.length ≤ ks.length
  | [], nl, x, h => by simp [dervC] at h; subst h; simp
  | k :: ks, true, x, h => by
    rw [dervC] at h
    obtain ⟨d, _, h⟩ := bind_some h
    obtain ⟨y, hy, h⟩ := bind_some h
    cases h
    obtain ⟨h1, h2⟩ := dervC_len hy
    simp; omega
  | k :: ks, false, x, h => by
    rw [dervC] at h
    obtain ⟨d, _, h⟩ := bind_some h
    obtain ⟨y, hy, h⟩ := bind_some h
    cases h
    obtain ⟨h1, h2⟩ := dervC_len hy
    simp; omega
theorem CatI.start {a : Int} {nm : Bool} {ks BY SV : List Ex} {N : Bool} (h : dervC a nm true ks = some (BY, SV, N)) : CatI a nm ks BY SV N true 0 0 :=
  ⟨Nat.zero_le _, Nat.zero_le _, (dervC_len h).1, by simpa using h⟩
theorem drop_cons_getD {L : List Ex} {k : Nat} {x : Ex} {xs : List Ex} (h : L.drop k = x :: xs) : k < L.length ∧ L.getD k default = x ∧ L.drop (k + 1) = xs := by
  have hlt : k < L.length := by
    rcases Nat.lt_or_ge k L.length with h1 | h1
    · exact h1
    · rw [List.drop_eq_nil_of_le h1] at h; cases h
  rw [List.drop_eq_getElem_cons hlt] at h
  cases h
  exact ⟨hlt, by simp [List.getD_eq_getElem?_getD, hlt], rfl⟩
theorem CatI.yes {a : Int} {nm : Bool} {ks BY SV : List Ex} {N : Bool} {k m : Nat} (h : CatI a nm ks BY SV N true k m) (hk : k < ks.length) :
    ∃ d, dervE a nm (ks.getD k default) = some d ∧ m < BY.length ∧ BY.getD m default = d.1 ∧ SV.getD k default = d.2.1 ∧ CatI a nm ks BY SV N d.2.2 (k + 1) (m + 1) := by
  have hd := h.d
  rw [List.drop_eq_getElem_cons hk, dervC] at hd
  obtain ⟨d, h1, hd⟩ := bind_some hd
  obtain ⟨y, hy, hd⟩ := bind_some hd
  simp only [Option.some.injEq, Prod.mk.injEq] at hd
  obtain ⟨e1, e2, e3⟩ := hd
  obtain ⟨b1, b2, b3⟩ := drop_cons_getD e1.symm
  obtain ⟨s1, s2, s3⟩ := drop_cons_getD e2.symm
  refine ⟨d, by simpa [List.getD_eq_getElem?_getD, hk] using h1, b1, b2, s2, by omega, by omega, h.sl, ?_⟩
  rw [hy, b3, s3, ← e3]
theorem CatI.no {a : Int} {nm : Bool} {ks BY SV : List Ex} {N : Bool} {k m : Nat} (h : CatI a nm ks BY SV N false k m) (hk : k < ks.length) :
    ((if nm then some (ks.getD k default) else simpE (ks.getD k default)) = some (SV.getD k default)) ∧ CatI a nm ks BY SV N false (k + 1) m := by
  have hd := h.d
  rw [List.drop_eq_getElem_cons hk, dervC] at hd
  obtain ⟨s, h1, hd⟩ := bind_some hd
  obtain ⟨y, hy, hd⟩ := bind_some hd
  simp only [Option.some.injEq, Prod.mk.injEq] at hd
  obtain ⟨e1, e2, e3⟩ := hd
  obtain ⟨s1, s2, s3⟩ := drop_cons_getD e2.symm
  have e : ks.getD k default = ks[k] := by simp [List.getD_eq_getElem?_getD, hk]
  rw [e]
  refine ⟨by rw [h1, s2], by omega, h.ml, h.sl, ?_⟩
  rw [hy, s3, ← e1, ← e3]
theorem CatI.fin {a : Int} {nm : Bool} {ks BY SV : List Ex} {N nl : Bool} {m : Nat} (h : CatI a nm ks BY SV N nl ks.length m) : m = BY.length ∧ nl = N := by
  have hd := h.d
  rw [List.drop_length, dervC] at hd
  simp only [Option.some.injEq, Prod.mk.injEq] at hd
  have := congrArg List.length hd.1
  simp at this
  have := h.ml
  exact ⟨by omega, hd.2.2⟩
theorem partsD_at : ∀ {BY SV P : List Ex}, partsD BY SV = some P → P.length = BY.length ∧ ∀ i, i < BY.length → (if (BY.getD i default).op = 1 then some (BY.getD i default) else joinE 5 (BY.getD i default :: SV.drop (i + 1))) = some (P.getD i default)
  | [], SV, P, h => by simp [partsD] at h; subst h; exact ⟨rfl, fun i hi => by simp at hi⟩
  | b :: bs, SV, P, h => by
    rw [partsD] at h
    obtain ⟨p, hp, h⟩ := bind_some h
    obtain ⟨M, hM, h⟩ := bind_some h
    cases h
    obtain ⟨h1, h2⟩ := partsD_at hM
    refine ⟨by simp [h1], fun i hi => ?_⟩
    cases i with
    | zero => simpa using hp
    | succ i =>
      have := h2 i (by simpa using hi)
      rw [List.drop_drop, show 1 + (i + 1) = i + 1 + 1 by omega] at this
      simpa using this
theorem deep_cons_drop {l : List Itm} {b : Ex} {SV : List Ex} {sb : Value} {fs : List Value} {a : Nat} (hb : Itm.deep sb b.kids ∈ l) (h : Got l SV fs) (hf : fs.length = SV.length) : ∀ k, k < (b :: SV.drop a).length → Itm.deep ((sb :: fs.drop a).getD k undef) ((b :: SV.drop a).getD k default).kids ∈ l := fun k hk => by
  cases k with
  | zero => exact hb
  | succ k =>
    have hk' : k < SV.length - a := by simpa using hk
    have := h.d (a + k) (by omega)
    simpa [List.getD_eq_getElem?_getD] using this
theorem dervE_unit {a : Int} {nm : Bool} {e : Ex} {d : Dv} (h : dervE a nm e = some d) (ho : e.op = 2) : d = (emptyE, unitE, true) := by
  cases e with | mk op lt ks => simp only [Ex.op] at ho; rw [dervE, if_pos ho] at h; cases h; rfl
theorem dervE_let {a : Int} {nm : Bool} {e : Ex} {d : Dv} (h : dervE a nm e = some d) (ho : e.op = 3) : d = (if e.lt = a then unitE else emptyE, .mk 3 e.lt [], false) := by
  cases e with | mk op lt ks => simp only [Ex.op] at ho; rw [dervE, if_neg (by omega), if_pos ho] at h; cases h; rfl
theorem dervE_rest {a : Int} {nm : Bool} {e : Ex} {d : Dv} (h : dervE a nm e = some d) (h2 : e.op ≠ 2) (h3 : e.op ≠ 3) (h4 : e.op ≠ 4) (h6 : e.op ≠ 6) (h8 : e.op ≠ 8) (h7 : e.op ≠ 7) (h5 : e.op ≠ 5) : d = (emptyE, emptyE, false) := by
  cases e with | mk op lt ks => simp only [Ex.op] at h2 h3 h4 h5 h6 h7 h8; rw [dervE, if_neg h2, if_neg h3, if_neg (by omega), if_neg h7, if_neg h5] at h; cases h; rfl
theorem two_deep {l : List Itm} {s t : Value} {k m : Ex} (h : Itm.deep s k.kids ∈ l) (h' : Itm.deep t m.kids ∈ l) : ∀ i, i < [k, m].length → Itm.deep ([s, t].getD i undef) ([k, m].getD i default).kids ∈ l := fun i hi => by
  have : i = 0 ∨ i = 1 := by simp at hi; omega
  rcases this with rfl | rfl
  · exact h
  · exact h'
def limE (d : Dv) : Ex × Int := if validE d.1 6 = 0 then (d.1, 0) else (e0, 3)
def limS (d : Dv) (s : Value) : Value := if validE d.1 6 = 0 then s else nilV
theorem letE_some {e : Ex} {a : Int} {p : Ex × Int} (h : letE e a = some p) : ∃ d, dervE a true e = some d ∧ p = limE d := by
  unfold letE at h
  obtain ⟨d, hd, h⟩ := bind_some h
  cases h
  exact ⟨d, hd, rfl⟩
end Go.Sx

namespace Go.Sx
open Go.RowKit
/-! ### what strings.Builder does with pointers -/
section
variable {C : Cx} {sl : List (Nat × Value)} {own : List Asn} {dst : Option Nat} {ty : TypeId} {pos : String} {aft : Array Edge} {g : Option (Nat × Bool)} {x y : Operand} {t t' : TypeId}
theorem Yl.eqlNilNil (ht : (C.P.underlying t).map (fun d => match d with | .pointer e => (C.P.info? e).isSome | _ => false) = some true) (hx : opv ⟨sl, own⟩ x = some (.pointer none)) (hy : opv ⟨sl, own⟩ y = some (.pointer none)) : Yl C ⟨sl, own⟩ ⟨dst, .binOp .eql t x y t', ty, pos, aft, g⟩ (.bool true) :=
  fun a w hs => by
    obtain ⟨d, hd, h2⟩ := Option.map_eq_some_iff.1 ht
    cases d <;> simp at h2
    rename_i te
    obtain ⟨j, hj⟩ := Option.isSome_iff_exists.1 h2
    have h : ∀ d : Nat, (Op.equalIn (d + 1) t (.pointer none) (.pointer none)).run C.P w = .ok true w := fun d => by simp [Op.equalIn, run_underlying hd, sizeOf, typeInfo, hj]
    have h9 : (binOp .eql t (.pointer none) (.pointer none)).run C.P w = .ok (.bool true) w := by
      simp only [binOp]
      simp [Op.equal, Op.maxDepth, h 9999]
    simp only [execOp, opv_eval hs hx, opv_eval hs hy, eqGuard_at_pointer, Sem.run_bind, Sem.run_pure, h9, Result.andThen_ok]
theorem Yl.eqlSomeNil {p : Addr} (ht : (C.P.underlying t).map (fun d => match d with | .pointer e => (C.P.info? e).isSome | _ => false) = some true) (hx : opv ⟨sl, own⟩ x = some (.pointer (some p))) (hy : opv ⟨sl, own⟩ y = some (.pointer none)) : Yl C ⟨sl, own⟩ ⟨dst, .binOp .eql t x y t', ty, pos, aft, g⟩ (.bool false) :=
  fun a w hs => by
    obtain ⟨d, hd, h2⟩ := Option.map_eq_some_iff.1 ht
    cases d <;> simp at h2
    rename_i te
    obtain ⟨j, hj⟩ := Option.isSome_iff_exists.1 h2
    have h : ∀ d : Nat, (Op.equalIn (d + 1) t (.pointer (some p)) (.pointer none)).run C.P w = .ok false w := fun d => by simp [Op.equalIn, run_underlying hd, sizeOf, typeInfo, hj]
    have h9 : (binOp .eql t (.pointer (some p)) (.pointer none)).run C.P w = .ok (.bool false) w := by
      simp only [binOp]
      simp [Op.equal, Op.maxDepth, h 9999]
    simp only [execOp, opv_eval hs hx, opv_eval hs hy, eqGuard_at_pointer, Sem.run_bind, Sem.run_pure, h9, Result.andThen_ok]
theorem Yl.neqPtrSame {p : Addr} {te : TypeId} (ht : C.P.underlying t = some (.pointer te)) (h2 : (C.P.info? te).isSome = true) (hx : opv ⟨sl, own⟩ x = some (.pointer (some p))) (hy : opv ⟨sl, own⟩ y = some (.pointer (some p))) : Yl C ⟨sl, own⟩ ⟨dst, .binOp .neq t x y t', ty, pos, aft, g⟩ (.bool false) :=
  fun a w hs => by
    obtain ⟨j, hj⟩ := Option.isSome_iff_exists.1 h2
    have := Lib.run_neq_ptr_same (P := C.P) w p ht hj
    simp only [execOp, opv_eval hs hx, opv_eval hs hy, eqGuard_at_pointer, Sem.run_bind, this, Result.andThen_ok, Sem.run_pure]
theorem BoxS.shape {b : Nat} {cs : List Value} (h : BoxS C own b cs) {w : World} (hw : HW C own w) : ∃ E, w.shape? b = some (E, cs.length) := by
  obtain ⟨E, h⟩ := h w hw
  exact ⟨E, by simp [World.shape?, h]⟩
theorem Yl.toUnsafe {s d te : TypeId} {b off : Nat} {cs : List Value} (hs : C.P.underlying s = some (.pointer te)) (hd : C.P.underlying d = some .unsafePointer) (h2 : (C.P.info? te).map (fun j => decide (j.size = 0)) = some false) (hx : opv ⟨sl, own⟩ x = some (.pointer (some ⟨b, off, none⟩))) (hb : BoxS C own b cs) (ho : off < cs.length) :
    Yl C ⟨sl, own⟩ ⟨dst, .convert s d x, ty, pos, aft, g⟩ (.pointer (some ⟨b, off, none⟩)) :=
  fun a w hsim => by
    obtain ⟨j, hj, hz⟩ := Option.map_eq_some_iff.1 h2
    obtain ⟨E, hsh⟩ := hb.shape hsim.world
    have := Lib.run_to_unsafe (P := C.P) w (j := j) ⟨b, off, none⟩ hs hd hj (by simpa using hz) hsh ho
    simp only [execOp, opv_eval hsim hx, Sem.run_bind, this, Result.andThen_ok, Sem.run_pure]
theorem Yl.fromUnsafe {s d u E sz : Nat} {b off : Nat} {cs : List Value} (i : Nat) (hi : own[i]? = some (box b E sz cs)) (hs : C.P.underlying s = some .unsafePointer) (hd : C.P.underlying d = some (.pointer u)) (h2 : (C.P.info? u).isSome = true) (hl : liesAt C.P C.P.depth E (cs.length / C.P.cellsOf E) off u 1 = true) (hx : opv ⟨sl, own⟩ x = some (.pointer (some ⟨b, off, none⟩))) :
    Yl C ⟨sl, own⟩ ⟨dst, .convert s d x, ty, pos, aft, g⟩ (.pointer (some ⟨b, off, none⟩)) :=
  fun a w hsim => by
    obtain ⟨j, hj⟩ := Option.isSome_iff_exists.1 h2
    obtain ⟨hf, Fs, hh, hal⟩ := hsim.world
    have hb := (hh.at_ i _ hi).1.1
    have hsh : w.shape? (⟨b, off, none⟩ : Addr).block = some (E, cs.length) := by simp [World.shape?, hb]
    have := Lib.run_from_unsafe (P := C.P) w (j := j) ⟨b, off, none⟩ hs hd hj hsh hl
    simp only [execOp, opv_eval hsim hx, Sem.run_bind, this, Result.andThen_ok, Sem.run_pure]
/-- internal/abi.NoEscape, which the model carries out itself -/
def NoEsc (P : Program) (f : FuncId) : Prop := ∃ fn, P.funcs[f]? = some fn ∧ (fn.name == "runtime.NumGoroutine") = false ∧ fn.body.isNone = true ∧ (Extern.findNext fn).isNone = true ∧ Extern.find fn = some Extern.AbiNoEscape.same
theorem Yl.noEsc {f : FuncId} {tys : Array TypeId} {v : Value} (hf : NoEsc C.P f) (hx : opv ⟨sl, own⟩ x = some v) : Yl C ⟨sl, own⟩ ⟨dst, .call ⟨.value (.func f), #[x], tys⟩, ty, pos, aft, g⟩ v :=
  fun a w hs => by
    obtain ⟨fn, h1, h2, h3, h4, h5⟩ := hf
    have hr := run_callFunc_extern (P := C.P) h1 h2 h3 (by simpa using h4) h5 #[v] w
    have he : (Extern.AbiNoEscape.same #[v]).run C.P w = .ok v w := Lib.run_noEscape w v
    rw [he] at hr
    have hx' := opv_eval hs hx
    simp only [Result.andThen_ok] at hr
    have e0 : a.eval (.func f) = .func (.func f) #[] #[] := rfl
    simp [execOp, resolve, e0, Deferred.ofValue, invoke, hx', hr]
end
section
variable {C : Cx} {sl : List (Nat × Value)} {own : List Asn} {ops : Array Oper} {Q : Exit → Act → World → Prop} {ty : TypeId} {pos : String} {aft : Array Edge} {g : Option (Nat × Bool)} {rest : List Oper}
theorem strCells_sv (l : List UInt8) : Lib.strCells ⟨l.toArray⟩ = l.map byv := by simp [Lib.strCells, byv]
theorem run_append_str_at {P : Program} (w : World) (t u ty e : TypeId) (i : TypeInfo) (ht : P.underlying t = some (.slice e)) (hu : P.underlying u = some .string) (hi : P.info? e = some i) (hz : i.zero = some (.int .u8 0)) (hsize : i.size = 1) (hby : i.bytes = 1)
    (v : Value) (n : Nat) (xs : List Value) (hown : w.ownsRow 0 e 1 v n xs) (s : ByteArray) (hb : n + s.size ≤ 140737488355328) :
    ∃ v' w', (Builtin.append_ #[t, u] ty #[v, .string s]).run P w = .ok v' w' ∧ w'.ownsRow 0 e 1 v' (n + s.size) (xs ++ Lib.strCells s) ∧ w.grownBy w' v.ownBlock ∧ (∀ b, v'.ownBlock = some b → v.ownBlock = some b ∨ w.heap.size ≤ b) := by
  have h63 : n + s.size ≤ maxLen := by simp only [maxLen]; omega
  have hxl : xs.length = n := by simpa using hown.1
  have hlen : (xs ++ Lib.strCells s).length = (n + s.size) * 1 := by rw [List.length_append, hxl, Lib.strCells_length, Nat.mul_one]
  rcases hown.2 with ⟨rfl, rfl⟩ | ⟨gb, cap, cur, rfl, _, hg, hnc, hcm, hcs, htake⟩
  · obtain ⟨v', w', e1, e2, e3, _⟩ := Lib.run_append_own_string (P := P) w w.heap.size t u ty e i ht hu hi hz hsize hby _ 0 xs (ownsRow_base hown (by simp [Value.ownBlock])) s h63 hb (Nat.le_refl _)
    exact ⟨v', w', e1, ownsRow_base e2 (fun b _ => Nat.zero_le _), e3, fun b hb => .inr (e2.lt b hb).1⟩
  · by_cases hroom : n + s.size ≤ cap
    · have hcs' : cur.size = cap := by simpa using hcs
      have hr := Lib.run_append_room_string (P := P) w t u ty e i ht hu hi hsize gb n cap cur hg s hroom (by omega)
      refine ⟨_, _, hr, ⟨hlen, .inr ⟨gb, cap, _, rfl, Nat.zero_le _, setRow_heap w gb cur _ e _ hg, hroom, hcm, ?_, ?_⟩⟩, ⟨rfl, rfl, rfl, by simp, fun k _ hk => setRow_other w gb k _ (fun e => hk (by simp [Value.ownBlock, e]))⟩, fun b hb => .inl hb⟩
      · simp only [List.size_toArray, List.length_append, List.length_take, List.length_drop, Array.length_toList, Lib.strCells_length]
        omega
      · have ht' : cur.toList.take n = xs := by simpa using htake
        rw [ht', ← hlen]
        exact List.take_left
    · have holds : ∀ j u, xs[j]? = some u → w.cell? ((⟨gb, 0, none⟩ : Addr).add j) = some u := hown.cells (g := gb) rfl
      have hr := Lib.run_append_grow_string (P := P) w t u ty e i (.int .u8 0) ht hu hi hz ⟨gb, 0, none⟩ n cap xs (by rw [hsize]; simpa using hxl) holds s (by omega) (by omega) (by rw [hby]; exact growslice_fits (by omega) (by omega))
      have hge := grownCap_ge w (n + s.size) cap e
      have hcm' : grownCap w (n + s.size) cap e ≤ maxLen := grownCap_le_maxLen w (n + s.size) cap e h63
      refine ⟨_, _, hr, ⟨hlen, .inr ⟨w.heap.size, _, _, rfl, Nat.zero_le _, heap_alloc_new w.drew _, hge, hcm', ?_, ?_⟩⟩, ⟨rfl, rfl, rfl, by simp, fun k hk _ => Below.heap_alloc w.drew _ k hk⟩, fun b hb => .inr (by simp [Value.ownBlock] at hb; omega)⟩
      · have hz1 : (Value.int IntKind.u8 0).cells.size = 1 := rfl
        simp only [Array.size_append, List.size_toArray, size_zeroCells, hz1, hxl, Lib.strCells_length]
        omega
      · simp only [Array.toList_append, List.append_assoc]
        rw [← List.append_assoc, ← hlen]
        exact List.take_left
/-- append(s, str...), s owned -/
theorem AK.appendStr (i : Nat) {d : Nat} {s x : Operand} {t u E : TypeId} {v : Value} {n : Nat} {cs : List Value} {l : List UInt8} (hi : own[i]? = some (row v E 1 n cs)) (ht : SlT C.P t E 1) (hE : ElT C.P E (.int .u8 0) 1 1) (hu : C.P.underlying u = some .string)
    (hx : opv ⟨sl, own⟩ s = some v) (hy : opv ⟨sl, own⟩ x = some (sv l)) (hb : n + l.length ≤ 140737488355328) (hg : Grd ops sl g) (hd : Nat.blt d C.N = true)
    (h : ∀ v', AK C ⟨(d, v') :: sl, own.set i (row v' E 1 (n + l.length) (cs ++ l.map byv))⟩ (wpList C.P ops Q rest)) :
    AK C ⟨sl, own⟩ (wpList C.P ops Q (⟨some d, .call ⟨.builtin .append, #[s, x], #[t, u]⟩, ty, pos, aft, g⟩ :: rest)) := by
  intro a w hs
  refine wpList_step fun K hK => ?_
  rw [if_pos (wanted_of_Grd hs hg)]
  obtain ⟨inf, hi1, hi2, hi3, hi4⟩ := hE.inf
  obtain ⟨hf, Fs, hh, hal⟩ := hs.world
  obtain ⟨hown, hFs⟩ := hh.at_ i _ hi
  have hsz : (⟨l.toArray⟩ : ByteArray).size = l.length := by simp [ByteArray.size]
  obtain ⟨v', w', e1, e2, e3, e4⟩ := run_append_str_at (P := C.P) w t u ty E inf ht.1 hu hi1 hi2 hi3 hi4 v n cs hown ⟨l.toArray⟩ (by rw [hsz]; exact hb)
  have hrun : (execOp a.eval ⟨some d, .call ⟨.builtin .append, #[s, x], #[t, u]⟩, ty, pos, aft, g⟩).run C.P w = .ok (.value v') w' := by
    have hy' : a.eval x = .string ⟨l.toArray⟩ := opv_eval hs hy
    simp [execOp, resolve, invoke, builtin, opv_eval hs hx, hy', e1]
  simp only [Oper.wp, hrun, Oper.upon]
  rw [strCells_sv, hsz] at e2
  refine hK _ _ (h v' _ _ ?_)
  have hlt : i < own.length := (List.getElem?_eq_some_iff.1 hi).1
  have hup := HW.update (own2 := []) (A' := row v' E 1 (n + l.length) (cs ++ l.map byv)) hf hh hal hlt (.ofGrown e3 (fun k hk => (hFs k).2 hk.symm)) (HeapAt.one (row_of e2)) (fun j b hb => (e4 b hb.2).imp (hFs b).2 id)
  rw [List.append_nil] at hup
  exact hs.put hup (d := some d) (fun i hi => by cases hi; simpa [Nat.blt_eq] using hd) v'
/-- a last call, which may leave anything of what the function itself has made -/
theorem AK.callLast {f : FuncId} {d : Nat} {xs : List Operand} {tys : Array TypeId} {vs : List Value} {v : Value} (hS : ∀ b, ¬ C.S b) (hf : CallOk C.P f) (hx : opvs ⟨sl, own⟩ xs = some vs)
    (hspec : ∀ w, HW C own w → C.W0.heap.size ≤ w.heap.size → (∀ Fs, HeapAt own Fs w → (∀ i b, Fs i b → C.W0.heap.size ≤ b) → Calls C.P f vs.toArray w fun e w' => e = .returned v ∧ Below C.W0.heap.size w w')) (hg : Grd ops sl g) (hd : Nat.blt d C.N = true)
    (h : AK C ⟨(d, v) :: sl, []⟩ (wpList C.P ops Q rest)) : AK C ⟨sl, own⟩ (wpList C.P ops Q (⟨some d, .call ⟨.value (.func f), xs.toArray, tys⟩, ty, pos, aft, g⟩ :: rest)) := by
  intro a w hs
  refine wpList_step fun K hK => ?_
  rw [if_pos (wanted_of_Grd hs hg)]
  simp only [Oper.wp, run_call hs hf hx, Oper.upon]
  obtain ⟨hf', Fs, hh, hal⟩ := hs.world
  refine (hspec w ⟨hf', Fs, hh, hal⟩ hf'.size Fs hh (fun i b hb => (hal i b hb).resolve_right (hS b))).mono ?_
  rintro e w' ⟨rfl, hbl⟩
  refine hK _ _ (h _ _ ?_)
  have hw' : HW C [] w' := ⟨⟨hbl.os.trans hf'.os, hbl.tape.trans hf'.tape, hbl.output.trans hf'.output, Nat.le_trans hf'.size hbl.size, fun k hk hs => (hbl.block k hk).trans (hf'.block k hk hs)⟩, _, HeapAt.nil w', fun _ _ h => h.elim⟩
  exact hs.put hw' (d := some d) (fun i hi => by cases hi; simpa [Nat.blt_eq] using hd) v
end
end Go.Sx

namespace Go.Sx
open Go.RowKit
/-! ### a strings.Builder -/
def adOk (b : Nat) (ad : Value) : Prop := ad = .pointer none ∨ ad = .pointer (some ⟨b, 0, none⟩)
def bldA (T U : TypeId) (b : Nat) (ad v : Value) (l : List UInt8) : Asn := bigA [box b T 2 [ad, v], row v U 1 l.length (l.map byv)]
theorem bldA_snoc (T U : TypeId) (b : Nat) (ad v : Value) (l m : List UInt8) : bigA [box b T 2 [ad, v], row v U 1 (l.length + m.length) (l.map byv ++ m.map byv)] = bldA T U b ad v (l ++ m) := by
  unfold bldA; rw [List.length_append, List.map_append]
theorem ltr97 {n : Int} (h : 0 ≤ n ∧ n < 6) : (((97 + UInt8.ofNat n.toNat : UInt8).toNat : Nat) : Int) = 97 + n := by
  obtain ⟨m, rfl⟩ : ∃ m : Nat, n = m := ⟨n.toNat, by omega⟩
  have : m = 0 ∨ m = 1 ∨ m = 2 ∨ m = 3 ∨ m = 4 ∨ m = 5 := by omega
  rcases this with rfl | rfl | rfl | rfl | rfl | rfl <;> rfl
/-! ### the text of an expression -/
theorem wrE_eq (e : Ex) : wrE e = if e.op = 1 then [48] else if e.op = 2 then [49] else if e.op = 3 then [97 + UInt8.ofNat e.lt.toNat] else if e.op = 4 then wrL [124] 2 false e.kids else if e.op = 6 then wrL [38] 3 false e.kids
    else if e.op = 5 then wrL [] 4 false e.kids else if e.op = 8 then 33 :: wrL [] 4 false e.kids else if e.op = 7 then wrL [] 5 false e.kids ++ [42] else [] := by
  cases e with | mk op lt ks => simp only [wrE, Ex.op, Ex.lt, Ex.kids]; rfl
def bodyW (least : Int) (k : Ex) : List UInt8 := if least ≤ levE k.op then wrE k else 40 :: (wrE k ++ [41])
theorem wrL_snoc (sep : List UInt8) (least : Int) (k : Ex) : ∀ (b : Bool) (ks : List Ex), wrL sep least b (ks ++ [k]) = wrL sep least b ks ++ ((if b || !ks.isEmpty then sep else []) ++ bodyW least k)
  | b, [] => by cases b <;> simp [wrL, bodyW]
  | b, x :: ks => by
    simp only [List.cons_append, wrL, wrL_snoc sep least k true ks, Bool.true_or, if_true, List.isEmpty_cons, Bool.not_false, Bool.or_true, List.append_assoc]
theorem wrL_take (sep : List UInt8) (least : Int) (ks : List Ex) (k : Nat) (hk : k < ks.length) : wrL sep least false (ks.take (k + 1)) = wrL sep least false (ks.take k) ++ ((if 0 < k then sep else []) ++ bodyW least (ks.getD k default)) := by
  rw [take_snocD default ks k hk, wrL_snoc]
  congr 2
  rcases Nat.eq_zero_or_pos k with rfl | h
  · simp
  · have : (ks.take k).isEmpty = false := by
      cases ks with
      | nil => simp at hk
      | cons a l => obtain ⟨m, rfl⟩ : ∃ m, k = m + 1 := ⟨k - 1, by omega⟩; rfl
    rw [this]; simp [h]
theorem wrL_le (sep : List UInt8) (least : Int) (ks : List Ex) (k : Nat) : (wrL sep least false (ks.take k)).length ≤ (wrL sep least false ks).length := by
  have : ∀ (m : Nat), k ≤ m → m ≤ ks.length → (wrL sep least false (ks.take k)).length ≤ (wrL sep least false (ks.take m)).length := by
    intro m h1 h2
    induction m with
    | zero => rw [show k = 0 by omega]; exact Nat.le_refl _
    | succ m ih =>
      rcases Nat.lt_or_ge k (m + 1) with h | h
      · rw [wrL_take sep least ks m (by omega), List.length_append]
        have := ih (by omega) (by omega)
        omega
      · rw [show k = m + 1 by omega]; exact Nat.le_refl _
  rcases Nat.lt_or_ge k ks.length with h | h
  · have := this ks.length (by omega) (Nat.le_refl _)
    rwa [List.take_length] at this
  · rw [List.take_of_length_le h]; exact Nat.le_refl _
theorem bodyW_len (least : Int) (k : Ex) : (wrE k).length ≤ (bodyW least k).length := by
  unfold bodyW; split
  · exact Nat.le_refl _
  · simp; omega
theorem fmtE_some {e : Ex} {t : List UInt8} (h : fmtE e = some t) : (validE e 6 = 0 ∧ t = wrE e ∧ (wrE e).length ≤ 1073741824) ∨ (validE e 6 ≠ 0 ∧ t = []) := by
  unfold fmtE at h
  split at h
  · obtain ⟨h1, h2⟩ := lim_some h
    exact .inl ⟨by assumption, h1, h2⟩
  · cases h; exact .inr ⟨by assumption, rfl⟩
theorem valid_wf {e : Ex} {n : Int} (h : validE e n = 0) : wfE n e = true := by
  unfold validE at h
  split at h
  · cases h
  · split at h
    · split at h
      · assumption
      · cases h
    · cases h
theorem wf_kid {e : Ex} {n : Int} (h : wfE n e = true) {i : Nat} (hi : i < e.kids.length) : wfE n (e.kids.getD i default) = true := by
  rw [wfE_eq] at h
  have hall : e.kids.all (wfE n) = true → wfE n (e.kids.getD i default) = true := fun ha => by
    rw [List.all_eq_true] at ha
    have := ha e.kids[i] (List.getElem_mem hi)
    simpa [List.getD_eq_getElem?_getD, hi] using this
  split at h
  · simp only [Bool.and_eq_true, beq_iff_eq] at h; omega
  · split at h
    · cases h
    · split at h
      · simp only [beq_iff_eq] at h; omega
      · split at h
        · simp only [Bool.and_eq_true] at h; exact hall h.2
        · split at h
          · simp only [Bool.and_eq_true] at h; exact hall h.2
          · cases h
theorem wf_letter {e : Ex} {n : Int} (h : wfE n e = true) (ho : e.op = 3) : 0 ≤ e.lt ∧ e.lt < n := by
  rw [wfE_eq, if_pos ho] at h
  simp only [Bool.and_eq_true, decide_eq_true_eq] at h
  exact ⟨h.1.2, h.2⟩
end Go.Sx

namespace Go.Sx
open Go.RowKit
theorem bbeqT (a b : List UInt8) : ((⟨a.toArray⟩ : ByteArray) == ⟨b.toArray⟩) = decide (a = b) := by
  show (a.toArray == b.toArray) = decide (a = b)
  rw [Bool.eq_iff_iff, beq_iff_eq, decide_eq_true_eq]
  constructor
  · intro h; simpa using h
  · intro h; rw [h]
theorem keyStrT {P : Program} {kt : TypeId} (hk : P.underlying kt = some .string) : KeyL P kt sv where
  find := by
    intro a es ks w h
    have now : ∀ (es : List MapEntry) (ks : List (List UInt8)) (j : Nat), es.map (·.key) = ks.map sv → Instr.findNow .string (sv a) es j = some ((fidx a ks).bind fun i => (es[i]?).map fun e => (j + i, e.val)) := by
      intro es
      induction es with
      | nil => intro ks j h; cases ks with
        | nil => simp [Instr.findNow, fidx]
        | cons k ks => simp at h
      | cons e es ih =>
        intro ks j h
        cases ks with
        | nil => simp at h
        | cons k ks =>
          simp at h
          have hq : Instr.sameNow .string (sv a) (sv k) = some (decide (a = k)) := by
            show some ((⟨a.toArray⟩ : ByteArray) == ⟨k.toArray⟩) = _
            rw [bbeqT]
          simp only [Instr.findNow, h.1, hq, fidx]
          by_cases hak : a = k
          · simp [hak]
          · simp only [hak, decide_false, if_false]
            rw [ih ks (j + 1) (by simpa using h.2)]
            cases fidx a ks with
            | none => simp
            | some i =>
              simp only [Option.map_some, Option.bind_some, List.getElem?_cons_succ]
              cases es[i]? with
              | none => rfl
              | some e' => simp; omega
    simp only [Instr.findKey, Sem.run_bind, run_underlying hk, Result.andThen_ok, now es ks 0 h]
    simp
  check := by
    intro e a w
    have : ∀ n, (Instr.checkKey e (n + 1) kt (sv a)).run P w = .ok () w := fun n => by simp [Instr.checkKey, run_underlying hk, sv]
    exact this 9999
  same := by
    intro a
    have : ∀ n, Instr.sameBits (n + 1) (sv a) (sv a) = true := fun n => by
      show ((⟨a.toArray⟩ : ByteArray) == ⟨a.toArray⟩) = true
      rw [bbeqT]; simp
    exact this 9999
/-! ### a computation of derivatives in memory -/
def runO (TR TE TRI TI : Nat) (rb mb : Nat) (vE vN : Value) (es rs : List Value) (r : Run) (B : Bs) (l : List Itm) : List Asn :=
  [box rb TR 5 [.int .i64 (r.L : Int), vE, vN, .int .i64 (r.dn : Int), .map (some mb)], row vE TE 3 r.ex.length (xcs r.ex es), row vN TRI 1 r.nx.length rs, bigA (matG (Value.int .i64) TI rs r.nx), mapA mb (mkv sv (Value.int .i64) r.num), forest B l]
structure RunF (vE vN : Value) (es rs : List Value) (r : Run) (l : List Itm) : Prop where
  eL : es.length = r.ex.length
  g : Got l r.ex es
  rl : rs.length = r.nx.length
  sE : IsSl vE
  sN : IsSl vN
  le : r.ex.length ≤ 512
  dn : r.dn ≤ r.ex.length
  nl : r.nx.length = r.dn
  Lb : r.L ≤ 6
theorem addR_some {r q : Run} {e : Ex} (h : addR r e = some q) : ∃ t, fmtE e = some t ∧ q = { r with ex := r.ex ++ [e], num := mset r.num t (r.ex.length : Int) } := by
  unfold addR at h
  obtain ⟨t, ht, h⟩ := bind_some h
  cases h
  exact ⟨t, ht, rfl⟩
theorem xcs_put {ks : List Ex} {ss : List Value} (h : ss.length = ks.length) (e : Ex) (s : Value) (z : List Value) (hz : z.length = 3) :
    (xcs ks ss ++ z).take (ks.length * 3) ++ [.int .i64 e.op, .int .i64 e.lt, s] ++ (xcs ks ss ++ z).drop (ks.length * 3 + 3) = xcs (ks ++ [e]) (ss ++ [s]) := by
  have hl := xcs_length ks ss h
  rw [List.take_left' hl, List.drop_eq_nil_of_le (by simp [hl, hz]), List.append_nil, xcs_snoc _ _ _ _ h]
theorem RunF.add {vE v2 vN : Value} {es rs : List Value} {r q : Run} {l : List Itm} {e : Ex} {s : Value} (h : RunF vE vN es rs r l) (hq : addR r e = some q) (hlt : r.ex.length < 512) (hd : Itm.deep s e.kids ∈ l) (hs : IsSl s) (h2 : IsSl v2) : RunF v2 vN (es ++ [s]) rs q l := by
  obtain ⟨t, ht, rfl⟩ := addR_some hq
  have h1 := h.eL; have h3 := h.dn
  refine ⟨by simp [h1], ?_, h.rl, h2, h.sN, by simp; omega, by simp; omega, h.nl, h.Lb⟩
  have g' : Got l (r.ex ++ [e]) es := ⟨fun i hi => by
    have := h.g.d i hi
    rw [getD_snoc, if_pos (by omega)]; exact this, h.g.s⟩
  exact g'.snoc (by rw [getD_snoc, h1, if_neg (by omega), if_pos rfl]; exact hd) hs
theorem RunF.later {vE vN : Value} {es rs : List Value} {r : Run} {l l' : List Itm} (h : RunF vE vN es rs r l) (hs : ∀ x ∈ l, x ∈ l') : RunF vE vN es rs r l' := ⟨h.eL, h.g.later hs, h.rl, h.sE, h.sN, h.le, h.dn, h.nl, h.Lb⟩
theorem rowR_succ {n x : Nat} {r : Run} {row : List Int} {f : Run × List Int × Int} (h : rowR (n + 1) x r row = some f) : ∃ p, letE (r.ex.getD r.dn default) (x : Int) = some p ∧ ((p.2 ≠ 0 ∧ f = (r, row, p.2)) ∨ (p.2 = 0 ∧ ∃ t, fmtE p.1 = some t ∧
    ((∃ i, mget r.num t = some i ∧ rowR n (x + 1) r (row ++ [i]) = some f) ∨ (mget r.num t = none ∧ ((r.ex.length = 512 ∧ f = (r, row, 3)) ∨ (r.ex.length ≠ 512 ∧ ∃ r2, addR r p.1 = some r2 ∧ rowR n (x + 1) r2 (row ++ [(r.ex.length : Int)]) = some f)))))) := by
  rw [rowR] at h
  obtain ⟨p, hp, h⟩ := bind_some h
  refine ⟨p, hp, ?_⟩
  by_cases h0 : p.2 = 0
  · rw [if_neg (by simp [h0])] at h
    obtain ⟨t, ht, h⟩ := bind_some h
    refine .inr ⟨h0, t, ht, ?_⟩
    cases hm : mget r.num t with
    | some i => rw [hm] at h; exact .inl ⟨i, rfl, h⟩
    | none =>
      rw [hm] at h
      refine .inr ⟨rfl, ?_⟩
      by_cases h5 : r.ex.length = 512
      · simp only [h5, if_true] at h; cases h; exact .inl ⟨h5, rfl⟩
      · simp only [h5, if_false] at h
        obtain ⟨r2, h2, h⟩ := bind_some h
        exact .inr ⟨h5, r2, h2, h⟩
  · rw [if_pos h0] at h; cases h; exact .inl ⟨h0, rfl⟩
theorem procR_some {q : Run} {res : Run × Int} (h : procR q = some res) : ∃ f, rowR q.L 0 q [] = some f ∧ res = (if f.2.2 ≠ 0 then (f.1, f.2.2) else ({ f.1 with nx := f.1.nx ++ [f.2.1], dn := f.1.dn + 1 }, 0)) := by
  unfold procR at h
  obtain ⟨f, hf, h⟩ := bind_some h
  refine ⟨f, hf, ?_⟩
  split at h <;> (cases h; split <;> first | rfl | contradiction)
/-- what add leaves alone -/
theorem addR_keeps {r q : Run} {e : Ex} (h : addR r e = some q) : q.L = r.L ∧ q.nx = r.nx ∧ q.dn = r.dn ∧ q.ex = r.ex ++ [e] := by
  obtain ⟨t, ht, rfl⟩ := addR_some h
  exact ⟨rfl, rfl, rfl, rfl⟩
theorem RunF.done {vE vN v2 mv : Value} {es rs : List Value} {r : Run} {l : List Itm} (h : RunF vE vN es rs r l) (hlt : r.dn < r.ex.length) (s2 : IsSl v2) (row : List Int) : RunF vE v2 es (rs ++ [mv]) { r with nx := r.nx ++ [row], dn := r.dn + 1 } l := by
  have h1 := h.rl; have h2 := h.nl
  exact ⟨h.eL, h.g, by simp [h1], h.sE, s2, h.le, hlt, by simp [h2], h.Lb⟩
end Go.Sx

namespace Go.Proofs.YtdnhiinakhmhgaaGreatDoor
open Go.Sx Go.RowKit
set_option maxHeartbeats 1000000 in
theorem s_eadd (w : World) (F : Nat → Prop) (rb mb : Nat) (m : EnM) (q : Rn) (hm : EnF m q) (k c : Nat) (hI : RnI q k c) (vf : Value) (f : List Int) (sf : IsSl vf) (hv : VF q.pts f) (hn : textF f ∉ txs q) (p l : Int) (wd : List UInt8) (b : Int) (hA : (bigA (enO 75 26 3 39 9 rb mb m q ++ [row vf 3 1 f.length (f.map (Value.int .i64))])).holds w F) : CallM Tryz.prog 71 [.pointer (some ⟨rb, 0, none⟩), vf, .int .i64 p, .int .i64 l, sv wd, .int .i64 b] w F (fun r A o => r = .int .i64 (q.elems.length : Int) ∧ o = [] ∧ ∃ m2, EnF m2 (addN q f p l wd b) ∧ m2.vG = m.vG ∧ m2.gs = m.gs ∧ A = bigA (enO 75 26 3 39 9 rb mb m2 (addN q f p l wd b))) := by
 unfold enO at hA
 simp only [List.cons_append, List.nil_append] at hA
 unfold enB at hA
 have hle := hI.le
 have hpl := hI.pl
 have hll := hI.ll
 have hwl := hI.wl
 have hbl := hI.bl
 have hpt := hI.g.pts
 have hfl := hv.1
 have hel := hm.el
 refine specM_of' Tryz.func71 rfl (leb rfl) hA ?_
 refine .sr fun _ hK1 => ?_
 refine .as rfl (.nt hK1 ?_)
 refine .sr fun _ hK2 => ?_
 refine .mv rfl (.v (.nilCheck rfl) (.v (.fieldAddr fd75_0 rfl) (.v (.fieldAddr fd29_3 rfl) (.v (.loadBox on22 rfl bsp rfl) (.v (.lenR sl22 rfl rdp) (.as rfl (.nt hK2 ?_)))))))
 refine .seq fun _ hK3 => ?_
 try (conv => enter [2, 2]; simp only [nrm])
 refine AK.held 7 mixed ?_
 refine HeldK.first 0 (fuel := 7) (listed' := (lb 8 1)) _ rfl krf krf rfl (Yl.move rfl) trivial rfl ?_
 refine HeldK.first 1 (fuel := 6) (listed' := (lb 8 3)) _ rfl krf krf rfl (Yl.nilCheck rfl) trivial rfl ?_
 refine HeldK.first 2 (fuel := 5) (listed' := (lb 8 7)) _ rfl krf krf rfl (Yl.fieldAddr fd75_1 rfl) trivial rfl ?_
 refine HeldK.first 3 (fuel := 4) (listed' := (lb 8 15)) _ rfl krf krf rfl (Yl.loadBox on73 rfl bsp rfl) trivial rfl ?_
 refine HeldK.first 4 (fuel := 3) (listed' := (lb 8 31)) _ rfl krf krf rfl (Yl.move rfl) trivial rfl ?_
 refine HeldK.first 6 (fuel := 2) (listed' := (lb 8 95)) _ rfl krf krf rfl (Yl.move rfl) trivial rfl ?_
 refine HeldK.one 5 (fuel := 1) (listed' := (lb 8 127)) krf rfl krf ?_
 refine AK.call co73 rfl (fun w hw => s_text w vf f (RdL.own 14 hw rfl) (by omega) (fun i hi => by have := hv.2 i (by omega); omega)) trivial rfl ?_
 rintro r o ⟨rfl, rfl⟩
 refine .nil ?_
 try (conv => enter [2, 2]; simp only [nrm])
 refine HeldK.back Go.Sx.hle ?_
 refine HeldK.one 7 (fuel := 0) (listed' := (lb 8 255)) krf rfl krf ?_
 refine AK.mapSet 10 rfl mp73 (keyStrT un9) rfl rfl rfl trivial ?_
 refine .nil ?_
 try (conv => enter [2, 2]; simp only [nrm])
 refine HeldK.backN 8 krf rfl krf ?_
 refine .nil ?_
 refine AK.fromQn ?_
 refine AK.then_ (hK3 _ ?_)
 refine .sr fun _ hK4 => ?_
 refine .mv rfl (.mv rfl (.v (.nilCheck rfl) (.v (.fieldAddr fd75_0 rfl) (.v (.fieldAddr fd29_3 rfl) (.v (.loadBox on22 rfl bsp rfl) (.mv rfl ?_))))))
 refine AK.append1 2 rfl sl22 el26 rfl (by decide) rfl (by intro k hk; cases hk; rfl) (by rw [sf.cells]; rfl) (by rw [sf.cells]; exact one'_cons (IsSl.one sf) one'_nil) (by omega) (by omega) (by decide) rfl rfl (fun vE2 _ svE2 => ?_)
 refine .v (.nilCheck rfl) (.v (.fieldAddr fd75_0 rfl) (.v (.fieldAddr fd29_3 rfl) ?_))
 refine AK.storeBox 9 (us := [vE2]) (cs' := [.int .i64 (q.pts : Int), .bool q.mon, m.vG, vE2, m.vP, m.vL, m.vR, m.vU, .int .i64 (q.done : Int), .map (some mb), m.vW, m.vB, m.vS]) rfl sz22 rfl rfl (by rw [IsSl.cells svE2]) rfl oneP (leb rfl) rfl trivial ?_
 refine .nt hK4 ?_
 refine .sr fun _ hK5 => ?_
 refine .mv rfl (.mv rfl (.v (.nilCheck rfl) (.v (.fieldAddr fd75_0 rfl) (.v (.fieldAddr fd29_4 rfl) (.v (.loadBox on26 rfl bsp rfl) (.mv rfl ?_))))))
 refine AK.append1 4 rfl sl26 el3 rfl (by decide) rfl (by intro k hk; cases hk; rfl) rfl (by intro u hu; simp [Value.cells] at hu; subst hu; rfl) (by omega) (by omega) (by decide) rfl rfl (fun vP2 _ svP2 => ?_)
 refine .v (.nilCheck rfl) (.v (.fieldAddr fd75_0 rfl) (.v (.fieldAddr fd29_4 rfl) ?_))
 refine AK.storeBox 9 (us := [vP2]) (cs' := [.int .i64 (q.pts : Int), .bool q.mon, m.vG, vE2, vP2, m.vL, m.vR, m.vU, .int .i64 (q.done : Int), .map (some mb), m.vW, m.vB, m.vS]) rfl sz26 rfl rfl (by rw [IsSl.cells svP2]) rfl oneP (leb rfl) rfl trivial ?_
 refine .nt hK5 ?_
 refine .sr fun _ hK6 => ?_
 refine .mv rfl (.mv rfl (.v (.nilCheck rfl) (.v (.fieldAddr fd75_0 rfl) (.v (.fieldAddr fd29_5 rfl) (.v (.loadBox on26 rfl bsp rfl) (.mv rfl ?_))))))
 refine AK.append1 5 rfl sl26 el3 rfl (by decide) rfl (by intro k hk; cases hk; rfl) rfl (by intro u hu; simp [Value.cells] at hu; subst hu; rfl) (by omega) (by omega) (by decide) rfl rfl (fun vL2 _ svL2 => ?_)
 refine .v (.nilCheck rfl) (.v (.fieldAddr fd75_0 rfl) (.v (.fieldAddr fd29_5 rfl) ?_))
 refine AK.storeBox 9 (us := [vL2]) (cs' := [.int .i64 (q.pts : Int), .bool q.mon, m.vG, vE2, vP2, vL2, m.vR, m.vU, .int .i64 (q.done : Int), .map (some mb), m.vW, m.vB, m.vS]) rfl sz26 rfl rfl (by rw [IsSl.cells svL2]) rfl oneP (leb rfl) rfl trivial ?_
 refine .nt hK6 ?_
 refine .sr fun _ hK7 => ?_
 refine .mv rfl (.mv rfl (.v (.nilCheck rfl) (.v (.fieldAddr fd75_2 rfl) (.v (.loadBox on44 rfl bsp rfl) (.mv rfl ?_)))))
 refine AK.append1 11 rfl sl44 el9 rfl (by decide) rfl (by intro k hk; cases hk; rfl) rfl (one'_cons rfl one'_nil) (by omega) (by omega) (by decide) rfl rfl (fun vW2 _ svW2 => ?_)
 refine .v (.nilCheck rfl) (.v (.fieldAddr fd75_2 rfl) ?_)
 refine AK.storeBox 9 (us := [vW2]) (cs' := [.int .i64 (q.pts : Int), .bool q.mon, m.vG, vE2, vP2, vL2, m.vR, m.vU, .int .i64 (q.done : Int), .map (some mb), vW2, m.vB, m.vS]) rfl sz44 rfl rfl (by rw [IsSl.cells svW2]) rfl oneP (leb rfl) rfl trivial ?_
 refine .nt hK7 ?_
 refine .sr fun _ hK8 => ?_
 refine .mv rfl (.mv rfl (.v (.nilCheck rfl) (.v (.fieldAddr fd75_3 rfl) (.v (.loadBox on26 rfl bsp rfl) (.mv rfl ?_)))))
 refine AK.append1 12 rfl sl26 el3 rfl (by decide) rfl (by intro k hk; cases hk; rfl) rfl (by intro u hu; simp [Value.cells] at hu; subst hu; rfl) (by omega) (by omega) (by decide) rfl rfl (fun vB2 _ svB2 => ?_)
 refine .v (.nilCheck rfl) (.v (.fieldAddr fd75_3 rfl) ?_)
 refine AK.storeBox 9 (us := [vB2]) (cs' := [.int .i64 (q.pts : Int), .bool q.mon, m.vG, vE2, vP2, vL2, m.vR, m.vU, .int .i64 (q.done : Int), .map (some mb), vW2, vB2, m.vS]) rfl sz26 rfl rfl (by rw [IsSl.cells svB2]) rfl oneP (leb rfl) rfl trivial ?_
 refine .nt hK8 ?_
 refine .sr fun _ hK9 => ?_
 refine .mv rfl (.as rfl (.nt hK9 (.ret ?_)))
 refine AK.own' (enO 75 26 3 39 9 rb mb { m with vE := vE2, es := m.es ++ [vf], vP := vP2, vL := vL2, vW := vW2, vB := vB2 } (addN q f p l wd b)) (fun w hw => by
 rw [sf.cells] at hw
 have h := HW.absorb (own := [_, _, _, _, _, _, _, _, _, _, _, _, _, _]) 3 rfl hw
 have e : txs (addN q f p l wd b) = txs q ++ [textF f] := by simp [txs, addN]
 have e2 := mset_numM hn
 rw [txs_len] at e2
 unfold enO
 rw [e, ← e2]
 simp only [enB, addN, List.length_append, List.length_singleton, List.map_append, List.map_cons, List.map_nil]
 rw [matG_snoc hm.el]
 exact h) ?_
 refine AK.ret1 rfl rfl (fun w hw => ⟨_, _, _, ?_, rfl, Ret.ofBig0 hw⟩)
 refine ⟨rfl, rfl, { m with vE := vE2, es := m.es ++ [vf], vP := vP2, vL := vL2, vW := vW2, vB := vB2 }, ⟨hm.gl, by simp [addN, hel], hm.rl, hm.sG, svE2, svP2, svL2, hm.sR, hm.sU, svW2, svB2, hm.sS⟩, rfl, rfl, rfl⟩

end Go.Proofs.YtdnhiinakhmhgaaGreatDoor

namespace Go.Sx
open Go.RowKit
/-- several ways meet behind a first part -/
theorem AK.seqJ {C : Cx} {sl : List (Nat × Value)} {own : List Asn} {x z : Code} {Q : Exit → Act → World → Prop} {X : Type} (kv : List (Nat × Value)) (ch : X → List (Nat × Value)) (ow : X → List Asn) (good : X → Prop) (hk : SlLe sl kv)
    (main : ∀ K : Act → World → Prop, (∀ sl' own' a, good a → SlLe sl' (ch a ++ kv) → (∀ w, HW C own' w → HW C (ow a) w) → AK C ⟨sl', own'⟩ K) → AK C ⟨sl, own⟩ (x.wp C.P (Exit.then K Q)))
    (h : ∀ a, good a → AK C ⟨ch a ++ kv, ow a⟩ (z.wp C.P Q)) : AK C ⟨sl, own⟩ ((Code.seq x z).wp C.P Q) :=
  AK.seq fun K hK => main K fun sl' own' a hg h1 h2 => hK _ (AK.weakenS h1 h2 (h a hg))
/-- a letter, without its number -/
def genP (r : Rn) (e : Int) (x : Nat) : Rn :=
  if textF (r.gens.getD x []) ∈ txs r then ruleN r [ltr x] (r.words.getD (posN (txs r) (textF (r.gens.getD x []))) []) else addN r (r.gens.getD x []) e (x : Int) [ltr x] e
def genX (r : Rn) (x : Nat) : Int := if textF (r.gens.getD x []) ∈ txs r then ((posN (txs r) (textF (r.gens.getD x [])) : Nat) : Int) else (r.elems.length : Int)
theorem genN_eq (r : Rn) (e : Int) (x : Nat) : genN r e x = singN (genP r e x) (genX r x) := by
  unfold genN genP genX; split <;> rfl
theorem genP_sing (r : Rn) (e : Int) (x : Nat) : (genP r e x).sing = r.sing := by unfold genP; split <;> rfl
end Go.Sx
