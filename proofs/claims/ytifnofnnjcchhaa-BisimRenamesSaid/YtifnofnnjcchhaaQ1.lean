import Derived.Test.YtifnofnnjcchhaaD10
import Derived.Test.YtifnofnnjcchhaaPP
set_option linter.unusedVariables false
set_option linter.unusedSimpArgs false
namespace Go.Proofs.Ytifnofnnjcchhaa
open Go.Sx Go.RowKit Go.Sx.Pt
set_option maxRecDepth 100000 in
theorem q_refcanon (w : World) (v : Value) (xs : List Int) (h : RdI w v xs) : CallS Try.prog 34 [v] w (fun r o => o = [row r 3 1 (canonB xs).length ((canonB xs).map (Value.int .i64))]) := by
 unfold RdI at h
 refine spec_of Try.func34 rfl (Nat.le_of_ble_eq_true rfl) ?_
 refine .sr fun _ hK1 => ?_
 refine .as rfl (.nt hK1 ?_)
 refine .seq fun _ hK2 => ?_
 refine .sr fun _ hK3 => ?_
 refine .mv rfl ?_
 refine .v (.lenR sl26 rfl rdp) ?_
 refine .v (.gtr rfl rfl) ?_
 refine .nt hK3 ?_
 refine AK.condD rfl (fun hc0 => ?_) (fun hc0 => ?_)
 ·refine .sr fun _ hK4 => ?_
  refine .as rfl (.nt hK4 (.ret (.then_ret ?_)))
  refine AK.ghost 3 1 ?_
  refine AK.ret1 rfl rfl (fun w hw => ⟨_, _, ?_, rfl, Ret.of (hw.pick [0] (by decide) rfl rfl)⟩)
  have e : canonB xs = [] := by unfold canonB; rw [if_neg (by omega)]
  rw [e]; rfl
 ·refine .skip ?_
  refine AK.then_ (hK2 _ ?_)
  refine .sr fun _ hK5 => ?_
  refine .mv rfl ?_
  refine .v (.lenR sl26 rfl rdp) ?_
  refine AK.make1 sl26 el3 rfl rfl rfl (by omega) (by omega) trivial rfl (fun mv0 => ?_)
  refine .as rfl (.nt hK5 ?_)
  refine .sr fun _ hK6 => ?_
  refine .as rfl (.nt hK6 ?_)
  refine .sr fun _ hK7 => ?_
  refine AK.makeMap trivial rfl (fun mb => ?_)
  refine .as rfl (.nt hK7 ?_)
  refine .seq fun _ hK8 => ?_
  refine .sr fun _ hK9 => ?_
  refine .mv rfl ?_
  refine .v (.lenR sl26 rfl rdp) ?_
  refine .mv rfl (.nt hK9 (.block ?_))
  refine AK.loopK (X := Nat) [(3, _), (5, _), (17, _), (18, _)] (fun k => [(19, .int .i64 (k : Int)), (4, .int .i64 ((cst (xs.take k)).2.length : Int))]) (fun k => [row mv0 3 1 xs.length ((canon (xs.take k) ++ List.replicate (xs.length - k) 0).map (Value.int .i64)), mapA mb (mkv (Value.int .i64) (Value.int .i64) (cst (xs.take k)).2)]) (fun k => k ≤ xs.length) (fun k => xs.length - k) (0) slr ?_ ?_ ?_ ?_
  ·exact Nat.zero_le _
  ·exact slr
  ·exact fun w hw => by simpa [canon, cst, mkv] using hw
  ·intro k hg0 _ hK10
   have hcl := cst_le (xs.take k)
   rw [List.length_take] at hcl
   refine .sr fun _ hK11 => ?_
   refine .v (.lss rfl rfl) ?_
   refine .nt hK11 ?_
   refine .seq fun _ hK12 => ?_
   refine AK.condD rfl (fun hc1 => ?_) (fun hc1 => ?_)
   ·refine .skip ?_
    refine AK.then_ (hK12 _ ?_)
    refine .seq fun _ hK13 => ?_
    refine .block ?_
    refine .sr fun _ hK14 => ?_
    refine .mv rfl ?_
    first | refine .v (.iN sl26 rfl rfl) ?_ | refine .v (.iK sl26 rfl rfl) ?_
    refine .v (.loadI on3 rfl rdp (by omega)) ?_
    refine .as rfl (.as rfl (.nt hK14 ?_))
    refine .sr fun _ hK15 => ?_
    refine .mv rfl (.mv rfl ?_)
    refine .v (.lookup2I mp77 (keyInt un3) el3 rfl rfl msp) ?_
    refine .mv rfl ?_
    refine .v (.extract rfl rfl) ?_
    refine .v (.extract rfl rfl) ?_
    refine .as rfl (.as rfl (.nt hK15 ?_))
    refine .seq fun _ hK16 => ?_
    refine .sr fun _ hK17 => ?_
    refine .mv rfl ?_
    refine .v (.not rfl) ?_
    refine .nt hK17 ?_
    refine AK.condB rfl (fun hc2 => ?_) (fun hc2 => ?_)
    ·refine .sr fun _ hK18 => ?_
     refine .mv rfl (.as rfl (.nt hK18 ?_))
     refine .sr fun _ hK19 => ?_
     refine .mv rfl (.mv rfl (.mv rfl ?_))
     refine AK.mapSet 1 rfl mp77 (keyInt un3) rfl rfl rfl trivial ?_
     refine .nt hK19 ?_
     refine AK.region ?_
     refine .mv rfl ?_
     refine .v (.add rfl rfl (by omega)) ?_
     refine .as rfl (.nt hK16 ?_)
     refine AK.region ?_
     refine .mv rfl (.mv rfl (.mv rfl ?_))
     first | refine .v (.iN sl26 rfl rfl) ?_ | refine .v (.iK sl26 rfl rfl) ?_
     refine AK.store1e 0 rfl sz3 rfl rfl rfl rfl (by omega) (cs' := ((canon (xs.take (k + 1)) ++ List.replicate (xs.length - (k + 1)) 0).map (Value.int .i64))) (by first | exact canon_fill_none 0 hc1 hc2 | exact canon_fill_some 0 hc1 hc2) trivial ?_
     refine .nil (.block_normal ?_)
     refine AK.then_ (hK13 _ ?_)
     refine AK.region ?_
     refine .v (.add rfl rfl (by omega)) ?_
     refine .mv rfl (.nil ?_)
     refine AK.then_ (hK10 _ _ (k + 1) (by omega) (by omega) (.cons (rfl) (.cons (slI rfl (by first | exact cst_len_none 0 hc1 hc2 | exact cst_len_some 0 hc1 hc2)) (slr))) (fun w hw => by first | (rw [cst_map_none 0 hc1 hc2]; exact hw) | (rw [cst_map_some 0 hc1 hc2]; exact hw)))
    ·refine .skip ?_
     refine AK.then_ (hK16 _ ?_)
     refine AK.region ?_
     refine .mv rfl (.mv rfl (.mv rfl ?_))
     first | refine .v (.iN sl26 rfl rfl) ?_ | refine .v (.iK sl26 rfl rfl) ?_
     refine AK.store1e 0 rfl sz3 rfl rfl rfl rfl (by omega) (cs' := ((canon (xs.take (k + 1)) ++ List.replicate (xs.length - (k + 1)) 0).map (Value.int .i64))) (by first | exact canon_fill_none 0 hc1 hc2 | exact canon_fill_some 0 hc1 hc2) trivial ?_
     refine .nil (.block_normal ?_)
     refine AK.then_ (hK13 _ ?_)
     refine AK.region ?_
     refine .v (.add rfl rfl (by omega)) ?_
     refine .mv rfl (.nil ?_)
     refine AK.then_ (hK10 _ _ (k + 1) (by omega) (by omega) (.cons (rfl) (.cons (slI rfl (by first | exact cst_len_none 0 hc1 hc2 | exact cst_len_some 0 hc1 hc2)) (slr))) (fun w hw => by first | (rw [cst_map_none 0 hc1 hc2]; exact hw) | (rw [cst_map_some 0 hc1 hc2]; exact hw)))
   ·refine .exit (.then_exit (.then_exit (.block_exit ?_)))
    refine AK.then_ (hK8 _ ?_)
    refine .sr fun _ hK20 => ?_
    refine .mv rfl (.as rfl (.nt hK20 (.ret ?_)))
    refine AK.ret1 rfl rfl (fun w hw => ⟨_, _, ?_, rfl, Ret.of (hw.pick [0] (by decide) rfl rfl)⟩)
    have hk : k = xs.length := by omega
    subst hk
    have e : canonB xs = canon xs := by unfold canonB; rw [if_pos (by omega)]
    rw [e, canon_length]
    simp

set_option maxRecDepth 100000 in
theorem q_canonI (w : World) (v : Value) (xs : List Int) (h : RdI w v xs) (hn : xs.length ≤ 4096) : CallS Try.prog 66 [v] w (fun r o => o = [row r 3 1 xs.length ((canon xs).map (Value.int .i64))]) := by
 unfold RdI at h
 refine spec_of Try.func66 rfl (Nat.le_of_ble_eq_true rfl) ?_
 refine .sr fun _ hK1 => ?_
 refine .as rfl (.nt hK1 ?_)
 refine .sr fun _ hK2 => ?_
 refine .mv rfl ?_
 refine .v (.lenR sl26 rfl rdp) ?_
 refine AK.make1 sl26 el3 rfl rfl rfl (by omega) (by omega) trivial rfl (fun mv0 => ?_)
 refine .as rfl (.nt hK2 ?_)
 refine .sr fun _ hK3 => ?_
 refine AK.makeMap trivial rfl (fun mb => ?_)
 refine .as rfl (.nt hK3 ?_)
 refine .seq fun _ hK4 => ?_
 refine .sr fun _ hK5 => ?_
 refine .mv rfl ?_
 refine .v (.lenR sl26 rfl rdp) ?_
 refine .mv rfl (.nt hK5 (.block ?_))
 refine AK.loopK (X := Nat) [(3, _), (4, _), (13, _), (14, _)] (fun k => [(15, .int .i64 (k : Int))]) (fun k => [row mv0 3 1 xs.length ((canon (xs.take k) ++ List.replicate (xs.length - k) 0).map (Value.int .i64)), mapA mb (mkv (Value.int .i64) (Value.int .i64) (cst (xs.take k)).2)]) (fun k => k ≤ xs.length) (fun k => xs.length - k) (0) slr ?_ ?_ ?_ ?_
 ·exact Nat.zero_le _
 ·exact slr
 ·exact fun w hw => by simpa [canon, cst, mkv] using hw
 ·intro k hg0 _ hK6
  have hcl := cst_le (xs.take k)
  rw [List.length_take] at hcl
  refine .sr fun _ hK7 => ?_
  refine .v (.lss rfl rfl) ?_
  refine .nt hK7 ?_
  refine .seq fun _ hK8 => ?_
  refine AK.condD rfl (fun hc0 => ?_) (fun hc0 => ?_)
  ·refine .skip ?_
   refine AK.then_ (hK8 _ ?_)
   refine .seq fun _ hK9 => ?_
   refine .block ?_
   refine .sr fun _ hK10 => ?_
   refine .mv rfl ?_
   first | refine .v (.iN sl26 rfl rfl) ?_ | refine .v (.iK sl26 rfl rfl) ?_
   refine .v (.loadI on3 rfl rdp (by omega)) ?_
   refine .as rfl (.as rfl (.nt hK10 ?_))
   refine .sr fun _ hK11 => ?_
   refine .mv rfl (.mv rfl ?_)
   refine .v (.lookup2I mp77 (keyInt un3) el3 rfl rfl msp) ?_
   refine .mv rfl ?_
   refine .v (.extract rfl rfl) ?_
   refine .v (.extract rfl rfl) ?_
   refine .as rfl (.as rfl (.nt hK11 ?_))
   refine .seq fun _ hK12 => ?_
   refine .sr fun _ hK13 => ?_
   refine .mv rfl ?_
   refine .v (.not rfl) ?_
   refine .nt hK13 ?_
   refine AK.condB rfl (fun hc1 => ?_) (fun hc1 => ?_)
   ·refine .sr fun _ hK14 => ?_
    refine .mv rfl ?_
    refine .v (.lenM mp77 rfl msp) ?_
    refine .as rfl (.nt hK14 ?_)
    refine AK.region ?_
    refine .mv rfl (.mv rfl (.mv rfl ?_))
    refine AK.mapSet 1 rfl mp77 (keyInt un3) rfl rfl rfl trivial ?_
    refine .nt hK12 ?_
    refine AK.region ?_
    refine .mv rfl (.mv rfl (.mv rfl ?_))
    first | refine .v (.iN sl26 rfl rfl) ?_ | refine .v (.iK sl26 rfl rfl) ?_
    refine AK.store1e 0 rfl sz3 rfl rfl rfl rfl (by omega) (cs' := ((canon (xs.take (k + 1)) ++ List.replicate (xs.length - (k + 1)) 0).map (Value.int .i64))) (by first | exact canon_fill_none 0 hc0 hc1 | exact canon_fill_some 0 hc0 hc1) trivial ?_
    refine .nil (.block_normal ?_)
    refine AK.then_ (hK9 _ ?_)
    refine AK.region ?_
    refine .v (.add rfl rfl (by omega)) ?_
    refine .mv rfl (.nil ?_)
    refine AK.then_ (hK6 _ _ (k + 1) (by omega) (by omega) (slr) (fun w hw => by first | (rw [cst_map_none 0 hc0 hc1]; exact hw) | (rw [cst_map_some 0 hc0 hc1]; exact hw)))
   ·refine .skip ?_
    refine AK.then_ (hK12 _ ?_)
    refine AK.region ?_
    refine .mv rfl (.mv rfl (.mv rfl ?_))
    first | refine .v (.iN sl26 rfl rfl) ?_ | refine .v (.iK sl26 rfl rfl) ?_
    refine AK.store1e 0 rfl sz3 rfl rfl rfl rfl (by omega) (cs' := ((canon (xs.take (k + 1)) ++ List.replicate (xs.length - (k + 1)) 0).map (Value.int .i64))) (by first | exact canon_fill_none 0 hc0 hc1 | exact canon_fill_some 0 hc0 hc1) trivial ?_
    refine .nil (.block_normal ?_)
    refine AK.then_ (hK9 _ ?_)
    refine AK.region ?_
    refine .v (.add rfl rfl (by omega)) ?_
    refine .mv rfl (.nil ?_)
    refine AK.then_ (hK6 _ _ (k + 1) (by omega) (by omega) (slr) (fun w hw => by first | (rw [cst_map_none 0 hc0 hc1]; exact hw) | (rw [cst_map_some 0 hc0 hc1]; exact hw)))
  ·refine .exit (.then_exit (.then_exit (.block_exit ?_)))
   refine AK.then_ (hK4 _ ?_)
   refine .sr fun _ hK15 => ?_
   refine .mv rfl (.as rfl (.nt hK15 (.ret ?_)))
   refine AK.ret1 rfl rfl (fun w hw => ⟨_, _, ?_, rfl, Ret.of (hw.pick [0] (by decide) rfl rfl)⟩)
   have hk : k = xs.length := by omega
   subst hk
   simp

set_option maxRecDepth 100000 in
theorem q_canon (w : World) (v : Value) (xs : List Int) (h : RdI w v xs) : CallS Try.prog 57 [v] w (fun r o => o = [row r 3 1 (canonB xs).length ((canonB xs).map (Value.int .i64))]) := by
 have h0 := h
 unfold RdI at h
 refine spec_of Try.func57 rfl (Nat.le_of_ble_eq_true rfl) ?_
 refine .sr fun _ hK1 => ?_
 refine .as rfl (.nt hK1 ?_)
 refine .seq fun _ hK2 => ?_
 refine .sr fun _ hK3 => ?_
 refine .mv rfl ?_
 refine .v (.lenR sl26 rfl rdp) ?_
 refine .v (.gtr rfl rfl) ?_
 refine .nt hK3 ?_
 refine AK.condD rfl (fun hc0 => ?_) (fun hc0 => ?_)
 ·refine .sr fun _ hK4 => ?_
  refine .as rfl (.nt hK4 (.ret (.then_ret ?_)))
  refine AK.ghost 3 1 ?_
  refine AK.ret1 rfl rfl (fun w hw => ⟨_, _, ?_, rfl, Ret.of (hw.pick [0] (by decide) rfl rfl)⟩)
  have e : canonB xs = [] := by unfold canonB; rw [if_neg (by omega)]
  rw [e]; rfl
 ·refine .skip ?_
  refine AK.then_ (hK2 _ ?_)
  refine .sr fun _ hK5 => ?_
  refine .mv rfl ?_
  refine AK.call co66 rfl (fun w hw => q_canonI w v xs (RdI.at h0 hw) (by omega)) trivial rfl ?_
  rintro r o rfl
  refine .as rfl (.nt hK5 (.ret ?_))
  refine AK.ret1 rfl rfl (fun w hw => ⟨_, _, ?_, rfl, Ret.of (hw.pick [0] (by decide) rfl rfl)⟩)
  have e : canonB xs = canon xs := by unfold canonB; rw [if_pos (by omega)]
  rw [e, canon_length]; rfl

set_option maxRecDepth 100000 in
theorem q_refvalid (w : World) (v : Value) (xs : List Int) (h : RdI w v xs) : CallS Try.prog 28 [v] w (fun r o => r = .bool (decide (ValidP xs)) ∧ o = []) := by
 have h0 := h
 unfold RdI at h
 refine spec_of Try.func28 rfl (Nat.le_of_ble_eq_true rfl) ?_
 refine .sr fun _ hK1 => ?_
 refine .as rfl (.nt hK1 ?_)
 refine .sr fun _ hK2 => ?_
 refine .mv rfl ?_
 refine .v (.lenR sl26 rfl rdp) ?_
 refine .v (.leq rfl rfl) ?_
 refine .mv rfl ?_
 refine AK.splitB (g := 6) rfl (fun hg_1_3 => ?_) (fun hg_1_3 => ?_)
 ·have hg_1_3' := hg_1_3
  try simp only [bs] at hg_1_3'
  refine AK.val _ (Yl.move rfl) ⟨_, rfl, congrArg (fun b => some (Value.bool b)) hg_1_3⟩ rfl ?_
  refine AK.val _ (Yl.move rfl) ⟨_, rfl, congrArg (fun b => some (Value.bool b)) hg_1_3⟩ rfl ?_
  refine AK.call co34 rfl (fun w hw => q_refcanon w v xs (RdI.at h0 hw)) ⟨_, rfl, congrArg (fun b => some (Value.bool b)) hg_1_3⟩ rfl ?_
  rintro r o rfl
  refine AK.call co17 rfl (fun w hw => s_same w v r xs (canonB xs) (RdI.at h0 hw) (RdI.own 0 hw rfl) (by omega)) ⟨_, rfl, congrArg (fun b => some (Value.bool b)) hg_1_3⟩ rfl ?_
  rintro r2 o2 ⟨rfl, rfl⟩
  refine .v (.pickT rfl (hg_1_3) rfl) ?_
  refine .as rfl (.nt hK2 (.ret ?_))
  refine AK.ret1 rfl rfl (fun w hw => ⟨_, _, ?_, rfl, Ret.of (hw.pick [] (by decide) rfl rfl)⟩)
  refine ⟨congrArg Value.bool ?_, rfl⟩
  first | exact refvalid_T hg_1_3' | exact refvalid_F hg_1_3'
 ·have hg_1_3' := hg_1_3
  try simp only [bs] at hg_1_3'
  refine AK.pass rfl rfl (hg_1_3) rfl ?_
  refine AK.pass rfl rfl (hg_1_3) rfl ?_
  refine AK.pass rfl rfl (hg_1_3) rfl ?_
  refine AK.pass rfl rfl (hg_1_3) rfl ?_
  refine .v (.pickF rfl (hg_1_3) rfl) ?_
  refine .as rfl (.nt hK2 (.ret ?_))
  refine AK.ret1 rfl rfl (fun w hw => ⟨_, _, ?_, rfl, Ret.of (hw.pick [] (by decide) rfl rfl)⟩)
  refine ⟨congrArg Value.bool ?_, rfl⟩
  first | exact refvalid_T hg_1_3' | exact refvalid_F hg_1_3'

set_option maxRecDepth 100000 in
theorem q_valid (w : World) (v : Value) (xs : List Int) (h : RdI w v xs) : CallS Try.prog 45 [v] w (fun r o => r = .bool (decide (ValidP xs)) ∧ o = []) := by
 unfold RdI at h
 refine spec_of Try.func45 rfl (Nat.le_of_ble_eq_true rfl) ?_
 refine .sr fun _ hK1 => ?_
 refine .as rfl (.nt hK1 ?_)
 refine .seq fun _ hK2 => ?_
 refine .sr fun _ hK3 => ?_
 refine .mv rfl ?_
 refine .v (.lenR sl26 rfl rdp) ?_
 refine .v (.gtr rfl rfl) ?_
 refine .nt hK3 ?_
 refine AK.condD rfl (fun hc0 => ?_) (fun hc0 => ?_)
 ·refine .sr fun _ hK4 => ?_
  refine .as rfl (.nt hK4 (.ret (.then_ret ?_)))
  refine AK.ret1 rfl rfl (fun w hw => ⟨_, _, ?_, rfl, Ret.of (hw.pick [] (by decide) rfl rfl)⟩)
  exact ⟨congrArg Value.bool (refvalid_F (by omega)), rfl⟩
 ·refine .skip ?_
  refine AK.then_ (hK2 _ ?_)
  refine .sr fun _ hK5 => ?_
  refine .as rfl (.nt hK5 ?_)
  refine .seq fun _ hK6 => ?_
  refine .sr fun _ hK7 => ?_
  refine .mv rfl ?_
  refine .v (.lenR sl26 rfl rdp) ?_
  refine .mv rfl (.nt hK7 (.block ?_))
  refine AK.loopK (X := Nat) [(9, _), (10, _)] (fun k => [(3, .int .i64 ((vst (xs.take k)).getD 0)), (11, .int .i64 (k : Int))]) (fun k => []) (fun k => k ≤ xs.length ∧ (vst (xs.take k)).isSome = true) (fun k => xs.length - k) (0) slr ?_ ?_ ?_ ?_
  ·exact ⟨Nat.zero_le _, rfl⟩
  ·exact slr
  ·exact fun w hw => hw
  ·intro k hg0 _ hK8
   obtain ⟨hk, hs⟩ := hg0
   obtain ⟨c, hc⟩ := Option.isSome_iff_exists.1 hs
   have hcl := vst_le _ _ hc
   rw [List.length_take] at hcl
   have hcv : (vst (xs.take k)).getD 0 = c := by rw [hc]; rfl
   refine .sr fun _ hK9 => ?_
   refine .v (.lss rfl rfl) ?_
   refine .nt hK9 ?_
   refine .seq fun _ hK10 => ?_
   refine AK.condD rfl (fun hc1 => ?_) (fun hc1 => ?_)
   ·refine .skip ?_
    refine AK.then_ (hK10 _ ?_)
    refine .seq fun _ hK11 => ?_
    refine .block ?_
    refine .sr fun _ hK12 => ?_
    first | refine .v (.iN sl26 rfl rfl) ?_ | refine .v (.iK sl26 rfl rfl) ?_
    refine .v (.loadI on3 rfl rdp (by omega)) ?_
    refine .as rfl (.nt hK12 ?_)
    refine .seq fun _ hK13 => ?_
    refine .sr fun _ hK14 => ?_
    refine .mv rfl ?_
    refine .v (.lss rfl rfl) ?_
    refine .mv rfl ?_
    refine AK.splitB (g := 17) rfl (fun hg_7_2 => ?_) (fun hg_7_2 => ?_)
    ·have hg_7_2' := hg_7_2
     try simp only [bs] at hg_7_2'
     refine AK.pass rfl rfl (hg_7_2) rfl ?_
     refine AK.pass rfl rfl (hg_7_2) rfl ?_
     refine AK.pass rfl rfl (hg_7_2) rfl ?_
     refine .v (.pickT rfl (hg_7_2) rfl) ?_
     refine .nt hK14 ?_
     refine AK.cond_t rfl (rfl) ?_
     refine .sr fun _ hK15 => ?_
     refine .as rfl (.nt hK15 (.ret (.then_ret (.block_ret (.then_ret (.then_ret (.block_ret (.then_ret ?_))))))))
     refine AK.ret1 rfl rfl (fun w hw => ⟨_, _, ?_, rfl, Ret.of (hw.pick [] (by decide) rfl rfl)⟩)
     refine ⟨congrArg Value.bool ?_, rfl⟩
     symm; rw [decide_eq_false_iff_not]
     rintro ⟨_, e⟩
     exact vst_none_step (xs := xs) (k := k) (by omega) hc (by first | exact .inl hg_7_2' | exact .inr (by omega)) e
    ·have hg_7_2' := hg_7_2
     try simp only [bs] at hg_7_2'
     refine AK.val _ (Yl.move rfl) ⟨_, rfl, congrArg (fun b => some (Value.bool b)) hg_7_2⟩ rfl ?_
     refine AK.val _ (Yl.move rfl) ⟨_, rfl, congrArg (fun b => some (Value.bool b)) hg_7_2⟩ rfl ?_
     refine AK.val _ (Yl.gtr rfl rfl) ⟨_, rfl, congrArg (fun b => some (Value.bool b)) hg_7_2⟩ rfl ?_
     refine .v (.pickF rfl (hg_7_2) rfl) ?_
     refine .nt hK14 ?_
     refine AK.condD rfl (fun hc2 => ?_) (fun hc2 => ?_)
     ·refine .sr fun _ hK16 => ?_
      refine .as rfl (.nt hK16 (.ret (.then_ret (.block_ret (.then_ret (.then_ret (.block_ret (.then_ret ?_))))))))
      refine AK.ret1 rfl rfl (fun w hw => ⟨_, _, ?_, rfl, Ret.of (hw.pick [] (by decide) rfl rfl)⟩)
      refine ⟨congrArg Value.bool ?_, rfl⟩
      symm; rw [decide_eq_false_iff_not]
      rintro ⟨_, e⟩
      exact vst_none_step (xs := xs) (k := k) (by omega) hc (by first | exact .inl hg_7_2' | exact .inr (by omega)) e
     ·refine .skip ?_
      refine AK.then_ (hK13 _ ?_)
      refine .sr fun _ hK17 => ?_
      refine .mv rfl (.mv rfl ?_)
      refine .v (.eql rfl rfl) ?_
      refine .nt hK17 ?_
      refine AK.condD rfl (fun hc3 => ?_) (fun hc3 => ?_)
      ·refine AK.region ?_
       refine .mv rfl ?_
       refine .v (.add rfl rfl (by omega)) ?_
       refine .as rfl (.nil (.block_normal ?_))
       refine AK.then_ (hK11 _ ?_)
       refine AK.region ?_
       refine .v (.add rfl rfl (by omega)) ?_
       refine .mv rfl (.nil ?_)
       refine AK.then_ (hK8 _ _ (k + 1) ⟨by omega, by rw [vst_step hc1 hc (by omega) (by omega)]; rfl⟩ (by omega) (.cons (slI rfl (by rw [vst_step hc1 hc (by omega) (by omega)]; show _ = ite _ _ _; split <;> omega)) (slr)) (fun w hw => hw))
      ·refine .skip (.block_normal ?_)
       refine AK.then_ (hK11 _ ?_)
       refine AK.region ?_
       refine .v (.add rfl rfl (by omega)) ?_
       refine .mv rfl (.nil ?_)
       refine AK.then_ (hK8 _ _ (k + 1) ⟨by omega, by rw [vst_step hc1 hc (by omega) (by omega)]; rfl⟩ (by omega) (.cons (slI rfl (by rw [vst_step hc1 hc (by omega) (by omega)]; show _ = ite _ _ _; split <;> omega)) (slr)) (fun w hw => hw))
   ·refine .exit (.then_exit (.then_exit (.block_exit ?_)))
    refine AK.then_ (hK6 _ ?_)
    refine .sr fun _ hK18 => ?_
    refine .as rfl (.nt hK18 (.ret ?_))
    refine AK.ret1 rfl rfl (fun w hw => ⟨_, _, ?_, rfl, Ret.of (hw.pick [] (by decide) rfl rfl)⟩)
    have hk' : k = xs.length := by omega
    subst hk'
    refine ⟨congrArg Value.bool ?_, rfl⟩
    symm; rw [decide_eq_true_eq]
    rw [List.take_length] at hs
    exact ⟨by omega, (vst_iff _).1 hs⟩

set_option maxRecDepth 100000 in
theorem q_disc (w : World) (n : Int) : CallS Try.prog 54 [.int .i64 n] w (fun r o => o = [row r 3 1 (discB n).length ((discB n).map (Value.int .i64))]) := by
 refine spec_of Try.func54 rfl (Nat.le_of_ble_eq_true rfl) ?_
 refine .sr fun _ hK1 => ?_
 refine .as rfl (.nt hK1 ?_)
 refine .seq fun _ hK2 => ?_
 refine .sr fun _ hK3 => ?_
 refine .mv rfl ?_
 refine .v (.lss rfl rfl) ?_
 refine .mv rfl ?_
 refine AK.splitB (g := 7) rfl (fun hg_1_2 => ?_) (fun hg_1_2 => ?_)
 ·have hg_1_2' := hg_1_2
  try simp only [bs] at hg_1_2'
  refine AK.pass rfl rfl (hg_1_2) rfl ?_
  refine AK.pass rfl rfl (hg_1_2) rfl ?_
  refine .v (.pickT rfl (hg_1_2) rfl) ?_
  refine .nt hK3 ?_
  refine AK.cond_t rfl (rfl) ?_
  refine .sr fun _ hK4 => ?_
  refine .as rfl (.nt hK4 (.ret (.then_ret ?_)))
  refine AK.ghost 3 1 ?_
  refine AK.ret1 rfl rfl (fun w hw => ⟨_, _, ?_, rfl, Ret.of (hw.pick [0] (by decide) rfl rfl)⟩)
  have e : discB n = [] := by unfold discB; rw [if_neg (by omega)]
  rw [e]; rfl
 ·have hg_1_2' := hg_1_2
  try simp only [bs] at hg_1_2'
  refine AK.val _ (Yl.move rfl) ⟨_, rfl, congrArg (fun b => some (Value.bool b)) hg_1_2⟩ rfl ?_
  refine AK.val _ (Yl.gtr rfl rfl) ⟨_, rfl, congrArg (fun b => some (Value.bool b)) hg_1_2⟩ rfl ?_
  refine .v (.pickF rfl (hg_1_2) rfl) ?_
  refine .nt hK3 ?_
  refine AK.condD rfl (fun hc0 => ?_) (fun hc0 => ?_)
  ·refine .sr fun _ hK5 => ?_
   refine .as rfl (.nt hK5 (.ret (.then_ret ?_)))
   refine AK.ghost 3 1 ?_
   refine AK.ret1 rfl rfl (fun w hw => ⟨_, _, ?_, rfl, Ret.of (hw.pick [0] (by decide) rfl rfl)⟩)
   have e : discB n = [] := by unfold discB; rw [if_neg (by omega)]
   rw [e]; rfl
  ·refine .skip ?_
   refine AK.then_ (hK2 _ ?_)
   refine .sr fun _ hK6 => ?_
   refine .mv rfl ?_
   refine AK.make1Z sl26 el3 rfl rfl rfl (by omega) (by omega) (by omega) trivial rfl (fun mv0 => ?_)
   refine .as rfl (.nt hK6 ?_)
   refine .seq fun _ hK7 => ?_
   refine .sr fun _ hK8 => ?_
   refine .mv rfl (.mv rfl (.nt hK8 (.block ?_)))
   refine AK.loopK (X := Nat) [(3, _), (13, _)] (fun k => [(14, .int .i64 (k : Int))]) (fun k => [row mv0 3 1 n.toNat ((idl k ++ List.replicate (n.toNat - k) 0).map (Value.int .i64))]) (fun k => k ≤ n.toNat) (fun k => n.toNat - k) (0) slr ?_ ?_ ?_ ?_
   ·exact Nat.zero_le _
   ·exact slr
   ·exact fun w hw => by simpa [idl] using hw
   ·intro k hg0 _ hK9
    refine .sr fun _ hK10 => ?_
    refine .v (.lss rfl rfl) ?_
    refine .nt hK10 ?_
    refine .seq fun _ hK11 => ?_
    refine AK.condD rfl (fun hc1 => ?_) (fun hc1 => ?_)
    ·refine .skip ?_
     refine AK.then_ (hK11 _ ?_)
     refine .seq fun _ hK12 => ?_
     refine .block ?_
     refine .sr fun _ hK13 => ?_
     refine .mv rfl (.as rfl (.nt hK13 ?_))
     refine AK.region ?_
     refine .mv rfl (.mv rfl (.mv rfl ?_))
     first | refine .v (.iN sl26 rfl rfl) ?_ | refine .v (.iK sl26 rfl rfl) ?_
     refine AK.store1e 0 rfl sz3 rfl rfl rfl rfl (by omega) (cs' := ((idl (k + 1) ++ List.replicate (n.toNat - (k + 1)) 0).map (Value.int .i64))) (by rw [idl_succ]; exact fill_set (Value.int .i64) (idl k) 0 _ n.toNat k (idl_length k) (by omega)) trivial ?_
     refine .nil (.block_normal ?_)
     refine AK.then_ (hK12 _ ?_)
     refine AK.region ?_
     refine .v (.add rfl rfl (by omega)) ?_
     refine .mv rfl (.nil ?_)
     refine AK.then_ (hK9 _ _ (k + 1) (by omega) (by omega) (slr) (fun w hw => hw))
    ·refine .exit (.then_exit (.then_exit (.block_exit ?_)))
     refine AK.then_ (hK7 _ ?_)
     refine .sr fun _ hK14 => ?_
     refine .mv rfl (.as rfl (.nt hK14 (.ret ?_)))
     refine AK.ret1 rfl rfl (fun w hw => ⟨_, _, ?_, rfl, Ret.of (hw.pick [0] (by decide) rfl rfl)⟩)
     have hk : k = n.toNat := by omega
     subst hk
     have e : discB n = idl n.toNat := by unfold discB; rw [if_pos (by omega)]
     rw [e, idl_length]
     simp

set_option maxRecDepth 100000 in
theorem q_merge (w : World) (F : Nat → Prop) (v : Value) (xs : List Int) (n : Nat) (i j : Int) (hA : (row v 3 1 n (xs.map (Value.int .i64))).holds w F) (hl : xs.length = n) (hi : 0 ≤ i ∧ i < n) (hj : 0 ≤ j ∧ j < n) (hn : n ≤ 4096) : CallM Try.prog 43 [v, .int .i64 i, .int .i64 j] w F (fun r A o => r = .tuple #[] ∧ A = row v 3 1 n ((mergeL xs i.toNat j.toNat).map (Value.int .i64)) ∧ o = []) := by
 refine specM_of Try.func43 rfl (Nat.le_of_ble_eq_true rfl) hA ?_
 refine .seq fun _ hK1 => ?_
 refine AK.quiet mixed krf ?_
 refine .mv rfl (.mv rfl ?_)
 first | refine .v (.iN sl26 rfl rfl) ?_ | refine .v (.iK sl26 rfl rfl) ?_
 refine .v (.loadI on3 rfl rdp (by omega)) ?_
 refine .mv rfl (.mv rfl ?_)
 first | refine .v (.iN sl26 rfl rfl) ?_ | refine .v (.iK sl26 rfl rfl) ?_
 refine .v (.loadI on3 rfl rdp (by omega)) ?_
 refine .as rfl (.as rfl ?_)
 refine QK.nil (QK.fin ?_)
 refine AK.then_ (hK1 _ ?_)
 refine .sr fun _ hK2 => ?_
 refine .mv rfl ?_
 refine .v (.lenR sl26 rfl rdp) ?_
 refine .mv rfl (.nt hK2 (.block ?_))
 refine AK.loopK (X := Nat) [(0, _), (6, _), (7, _), (18, _)] (fun k => [(19, .int .i64 (k : Int))]) (fun k => [row v 3 1 n ((mrgK xs i.toNat j.toNat k).map (Value.int .i64))]) (fun k => k ≤ n) (fun k => n - k) (0) slr ?_ ?_ ?_ ?_
 ·exact Nat.zero_le _
 ·exact slr
 ·exact fun w hw => by rw [mrgK_zero]; exact hw
 ·intro k hg0 _ hK3
  have hml := mrgK_length xs i.toNat j.toNat k
  refine .sr fun _ hK4 => ?_
  refine .v (.lss rfl rfl) ?_
  refine .nt hK4 ?_
  refine .seq fun _ hK5 => ?_
  refine AK.condD rfl (fun hc0 => ?_) (fun hc0 => ?_)
  ·refine .skip ?_
   refine AK.then_ (hK5 _ ?_)
   refine .seq fun _ hK6 => ?_
   refine .block ?_
   refine .sr fun _ hK7 => ?_
   refine .mv rfl (.as rfl (.nt hK7 ?_))
   refine .sr fun _ hK8 => ?_
   refine .mv rfl (.mv rfl ?_)
   first | refine .v (.iN sl26 rfl rfl) ?_ | refine .v (.iK sl26 rfl rfl) ?_
   refine .v (.loadI on3 rfl rdp (by omega)) ?_
   refine .mv rfl ?_
   refine .v (.eql rfl rfl) ?_
   refine .nt hK8 ?_
   refine AK.condD rfl (fun hc1 => ?_) (fun hc1 => ?_)
   ·refine AK.region ?_
    refine .mv rfl (.mv rfl (.mv rfl ?_))
    first | refine .v (.iN sl26 rfl rfl) ?_ | refine .v (.iK sl26 rfl rfl) ?_
    refine AK.store1e 0 rfl sz3 rfl rfl rfl rfl (by omega) (cs' := ((mrgK xs i.toNat j.toNat (k + 1)).map (Value.int .i64))) (by rw [mrgK_set (by omega) hc1]) trivial ?_
    refine .nil (.block_normal ?_)
    refine AK.then_ (hK6 _ ?_)
    refine AK.region ?_
    refine .v (.add rfl rfl (by omega)) ?_
    refine .mv rfl (.nil ?_)
    refine AK.then_ (hK3 _ _ (k + 1) (by omega) (by omega) (slr) (fun w hw => by first | exact hw | (rw [mrgK_skip (by omega) hc1]; exact hw)))
   ·refine .skip (.block_normal ?_)
    refine AK.then_ (hK6 _ ?_)
    refine AK.region ?_
    refine .v (.add rfl rfl (by omega)) ?_
    refine .mv rfl (.nil ?_)
    refine AK.then_ (hK3 _ _ (k + 1) (by omega) (by omega) (slr) (fun w hw => by first | exact hw | (rw [mrgK_skip (by omega) hc1]; exact hw)))
  ·refine .exit (.then_exit (.then_exit (.block_exit ?_)))
   refine AK.endG [] rfl (.nil) (fun w hw => ⟨_, _, _, ?_, rfl, Ret.of (hw.pick [0] (by decide) rfl rfl)⟩)
   have hk : k = n := (by omega)
   refine ⟨rfl, ?_, rfl⟩
   rw [hk, ← hl, mrgK_full]

set_option maxRecDepth 100000 in
theorem q_count (w : World) (v : Value) (xs : List Int) (h : RdI w v xs) : CallS Try.prog 60 [v] w (fun r o => r = .int .i64 (countB xs) ∧ o = []) := by
 have h0 := h
 unfold RdI at h
 refine spec_of Try.func60 rfl (Nat.le_of_ble_eq_true rfl) ?_
 refine .sr fun _ hK1 => ?_
 refine .as rfl (.nt hK1 ?_)
 refine .seq fun _ hK2 => ?_
 refine .sr fun _ hK3 => ?_
 refine .mv rfl ?_
 refine AK.call co45 rfl (fun w hw => q_valid w v xs (RdI.at h0 hw)) trivial rfl ?_
 rintro r o ⟨rfl, rfl⟩
 refine .v (.not rfl) ?_
 refine .nt hK3 ?_
 refine AK.condB rfl (fun hc0 => ?_) (fun hc0 => ?_)
 ·refine .sr fun _ hK4 => ?_
  refine .as rfl (.nt hK4 (.ret (.then_ret ?_)))
  refine AK.ret1 rfl rfl (fun w hw => ⟨_, _, ?_, rfl, Ret.of (hw.pick [] (by decide) rfl rfl)⟩)
  exact ⟨by unfold countB; rw [if_neg (of_decide_eq_false hc0)], rfl⟩
 ·have hvp := of_decide_eq_true hc0
  have hv := valid_cnt hvp
  have hl := hvp.1
  refine .skip ?_
  refine AK.then_ (hK2 _ ?_)
  refine .sr fun _ hK5 => ?_
  refine .as rfl (.nt hK5 ?_)
  refine .seq fun _ hK6 => ?_
  refine .sr fun _ hK7 => ?_
  refine .mv rfl ?_
  refine .v (.lenR sl26 rfl rdp) ?_
  refine .mv rfl (.nt hK7 (.block ?_))
  refine AK.loopK (X := Nat) [(9, _), (10, _)] (fun k => [(3, .int .i64 (cntL (xs.take k))), (11, .int .i64 (k : Int))]) (fun k => []) (fun k => k ≤ xs.length) (fun k => xs.length - k) (0) slr ?_ ?_ ?_ ?_
  ·exact Nat.zero_le _
  ·exact slr
  ·exact fun w hw => hw
  ·intro k hg0 _ hK8
   have hb := cntL_nonneg (xs.take k)
   have hb2 := cntL_take_le xs k
   have hm : k < xs.length → 0 ≤ xs.getD k 0 ∧ xs.getD k 0 < cntL xs := fun h => hv.2.2 _ (mem_getD 0 h)
   refine .sr fun _ hK9 => ?_
   refine .v (.lss rfl rfl) ?_
   refine .nt hK9 ?_
   refine .seq fun _ hK10 => ?_
   refine AK.condD rfl (fun hc1 => ?_) (fun hc1 => ?_)
   ·refine .skip ?_
    refine AK.then_ (hK10 _ ?_)
    refine .seq fun _ hK11 => ?_
    refine .block ?_
    refine .sr fun _ hK12 => ?_
    first | refine .v (.iN sl26 rfl rfl) ?_ | refine .v (.iK sl26 rfl rfl) ?_
    refine .v (.loadI on3 rfl rdp (by omega)) ?_
    refine .as rfl (.nt hK12 ?_)
    refine AK.region ?_
    refine .mv rfl (.mv rfl ?_)
    refine .v (.add rfl rfl (by omega)) ?_
    refine .v (.max rfl rfl) ?_
    refine .as rfl (.nil (.block_normal ?_))
    refine AK.then_ (hK11 _ ?_)
    refine AK.region ?_
    refine .v (.add rfl rfl (by omega)) ?_
    refine .mv rfl (.nil ?_)
    refine AK.then_ (hK8 _ _ (k + 1) (by omega) (by omega) (.cons (slI rfl (by rw [take_snocD 0 xs k (by omega), cntL_snoc])) (slr)) (fun w hw => hw))
   ·refine .exit (.then_exit (.then_exit (.block_exit ?_)))
    refine AK.then_ (hK6 _ ?_)
    refine .sr fun _ hK13 => ?_
    refine .mv rfl (.as rfl (.nt hK13 (.ret ?_)))
    refine AK.ret1 rfl rfl (fun w hw => ⟨_, _, ?_, rfl, Ret.of (hw.pick [] (by decide) rfl rfl)⟩)
    have hk : k = xs.length := (by omega)
    exact ⟨by unfold countB; rw [if_pos hvp, hk, List.take_length], rfl⟩

set_option maxRecDepth 100000 in
theorem q_classes (w : World) (v : Value) (xs : List Int) (h : RdI w v xs) : CallS Try.prog 46 [v] w (fun r o => ∃ rs, rs.length = (classB xs).length ∧ o = [row r 26 1 (classB xs).length rs, bigA (matL 3 rs (classB xs))]) := by
 have h0 := h
 unfold RdI at h
 refine spec_of Try.func46 rfl (Nat.le_of_ble_eq_true rfl) ?_
 refine .sr fun _ hK1 => ?_
 refine .as rfl (.nt hK1 ?_)
 refine .seq fun _ hK2 => ?_
 refine .sr fun _ hK3 => ?_
 refine .mv rfl ?_
 refine AK.call co45 rfl (fun w hw => q_valid w v xs (RdI.at h0 hw)) trivial rfl ?_
 rintro r o ⟨rfl, rfl⟩
 refine .v (.not rfl) ?_
 refine .nt hK3 ?_
 refine AK.condB rfl (fun hc0 => ?_) (fun hc0 => ?_)
 ·refine .sr fun _ hK4 => ?_
  refine .as rfl (.nt hK4 (.ret (.then_ret ?_)))
  refine AK.ghost 26 1 ?_
  refine AK.ghostM 3 ?_
  refine AK.ret1 rfl rfl (fun w hw => ⟨_, _, ?_, rfl, Ret.of (hw.pick [0, 1] (by decide) rfl rfl)⟩)
  have e : classB xs = [] := (by unfold classB; rw [if_neg (of_decide_eq_false hc0)])
  refine ⟨[], by rw [e]; rfl, ?_⟩
  rw [e]; rfl
 ·have hvp := of_decide_eq_true hc0
  have hv := valid_cnt hvp
  have hl := hvp.1
  refine .skip ?_
  refine AK.then_ (hK2 _ ?_)
  refine .sr fun _ hK5 => ?_
  refine .mv rfl ?_
  refine AK.call co60 rfl (fun w hw => q_count w v xs (RdI.at h0 hw)) trivial rfl ?_
  rintro r o ⟨rfl, rfl⟩
  have hce : countB xs = cntL xs := (by unfold countB; rw [if_pos hvp])
  rw [hce]
  refine AK.make1Z sl23 el26 rfl rfl rfl (by omega) (by omega) (by omega) trivial rfl (fun mv0 => ?_)
  refine .as rfl (.nt hK5 ?_)
  refine .seq fun _ hK6 => ?_
  refine .sr fun _ hK7 => ?_
  refine .mv rfl ?_
  refine .v (.lenR sl26 rfl rdp) ?_
  refine .mv rfl (.nt hK7 (.block ?_))
  refine AK.loopK (X := Nat × List Value) [(3, _), (12, _), (13, _)] (fun x => [(14, .int .i64 (x.1 : Int))]) (fun x => [row mv0 26 1 (cntL xs).toNat x.2, bigA (matL 3 x.2 (clsK (cntL xs).toNat (xs.take x.1)))]) (fun x => x.1 ≤ xs.length ∧ x.2.length = (cntL xs).toNat) (fun x => xs.length - x.1) ((0, List.replicate (cntL xs).toNat (.slice none 0 0))) slr ?_ ?_ ?_ ?_
  ·exact ⟨Nat.zero_le _, by simp⟩
  ·exact slr
  ·exact fun w hw => by have := hw.ghostMat 3 (cntL xs).toNat; rw [← clsK_nil] at this; exact this
  ·intro x hg0 _ hK8
   obtain ⟨hk1, hrl⟩ := hg0
   have hm : x.1 < xs.length → 0 ≤ xs.getD x.1 0 ∧ xs.getD x.1 0 < cntL xs := fun h => hv.2.2 _ (mem_getD 0 h)
   have hcl := clsK_length (cntL xs).toNat (xs.take x.1)
   refine .sr fun _ hK9 => ?_
   refine .v (.lss rfl rfl) ?_
   refine .nt hK9 ?_
   refine .seq fun _ hK10 => ?_
   refine AK.condD rfl (fun hc1 => ?_) (fun hc1 => ?_)
   ·refine .skip ?_
    refine AK.then_ (hK10 _ ?_)
    refine .seq fun _ hK11 => ?_
    refine .block ?_
    refine .sr fun _ hK12 => ?_
    refine .mv rfl ?_
    first | refine .v (.iN sl26 rfl rfl) ?_ | refine .v (.iK sl26 rfl rfl) ?_
    refine .v (.loadI on3 rfl rdp (by omega)) ?_
    refine .as rfl (.as rfl (.nt hK12 ?_))
    refine AK.region ?_
    refine .mv rfl (.mv rfl (.mv rfl (.mv rfl ?_)))
    first | refine .v (.iN sl23 rfl rfl) ?_ | refine .v (.iK sl23 rfl rfl) ?_
    refine .v (.loadV on26 rfl rdp (by omega)) ?_
    refine .mv rfl ?_
    refine AK.append1In 1 (xs.getD x.1 0).toNat rfl (matL_get (by rw [hrl, hcl]) (by rw [hcl]; omega)) sl26 el3 rfl (by decide) rfl (by intro k hk; cases hk; rfl) rfl (by intro u hu; simp [Value.cells] at hu; subst hu; rfl) (by rw [clsK_get (by omega)]; have := posL_length_le (((xs.getD x.1 0).toNat : Nat) : Int) (xs.take x.1); rw [List.length_take] at this; omega) (by rw [clsK_get (by omega)]; have := posL_length_le (((xs.getD x.1 0).toNat : Nat) : Int) (xs.take x.1); rw [List.length_take] at this; omega) (by decide) rfl rfl (fun av _ hsl => ?_)
    first | refine .v (.iN sl23 rfl rfl) ?_ | refine .v (.iK sl23 rfl rfl) ?_
    refine AK.store1 0 rfl sz26 rfl rfl hsl.cells hsl.one (by omega) trivial ?_
    refine .nil (.block_normal ?_)
    refine AK.then_ (hK11 _ ?_)
    refine AK.region ?_
    refine .v (.add rfl rfl (by omega)) ?_
    refine .mv rfl (.nil ?_)
    refine AK.then_ (hK8 _ _ ((x.1 + 1, x.2.set (xs.getD x.1 0).toNat av)) ⟨by dsimp only; omega, by simpa using hrl⟩ (by dsimp only; omega) (slr) (fun w hw => cls_own hrl (by omega) rfl (by omega) rfl hw))
   ·refine .exit (.then_exit (.then_exit (.block_exit ?_)))
    refine AK.then_ (hK6 _ ?_)
    refine .sr fun _ hK13 => ?_
    refine .mv rfl (.as rfl (.nt hK13 (.ret ?_)))
    refine AK.ret1 rfl rfl (fun w hw => ⟨_, _, ?_, rfl, Ret.of (hw.pick [0, 1] (by decide) rfl rfl)⟩)
    have hk : x.1 = xs.length := (by omega)
    have e : classB xs = clsK (cntL xs).toNat xs := (by unfold classB; rw [if_pos hvp])
    refine ⟨x.2, by rw [e, clsK_length]; exact hrl, ?_⟩
    rw [e, clsK_length, hk, List.take_length]; rfl

set_option maxRecDepth 100000 in
theorem q_refrefines (w : World) (u v : Value) (xs ys : List Int) (hu : RdI w u xs) (hv : RdI w v ys) (hle : xs.length = ys.length) : CallS Try.prog 29 [u, v] w (fun r o => r = .bool (kerB 0 xs ys) ∧ o = []) := by
 have hu0 := hu
 have hv0 := hv
 unfold RdI at hu hv
 have hmx := Rd.le hu
 refine spec_of Try.func29 rfl (Nat.le_of_ble_eq_true rfl) ?_
 refine .sr fun _ hK1 => ?_
 refine .as rfl (.nt hK1 ?_)
 refine .seq fun _ hK2 => ?_
 refine .sr fun _ hK3 => ?_
 refine .mv rfl ?_
 refine .v (.lenR sl26 rfl rdp) ?_
 refine .mv rfl (.nt hK3 (.block ?_))
 refine AK.loopK (X := Nat) [(0, _), (1, _), (8, _)] (fun a => [(9, .int .i64 (a : Int))]) (fun a => []) (fun a => a ≤ xs.length ∧ ∀ i, i < a → ∀ j, j < xs.length → xs.getD i 0 = xs.getD j 0 → ys.getD i 0 = ys.getD j 0) (fun a => xs.length - a) (0) slr ?_ ?_ ?_ ?_
 ·exact ⟨Nat.zero_le _, fun c h => absurd h (Nat.not_lt_zero _)⟩
 ·exact slr
 ·exact fun w hw => hw
 ·intro a hg0 _ hK4
  obtain ⟨ha, hoka⟩ := hg0
  refine .sr fun _ hK5 => ?_
  refine .v (.lss rfl rfl) ?_
  refine .nt hK5 ?_
  refine .seq fun _ hK6 => ?_
  refine AK.condD rfl (fun hc0 => ?_) (fun hc0 => ?_)
  ·refine .skip ?_
   refine AK.then_ (hK6 _ ?_)
   refine .seq fun _ hK7 => ?_
   refine .block ?_
   refine .sr fun _ hK8 => ?_
   refine .mv rfl (.as rfl (.nt hK8 ?_))
   refine .sr fun _ hK9 => ?_
   refine .mv rfl ?_
   refine .v (.lenR sl26 rfl rdp) ?_
   refine .mv rfl (.nt hK9 (.block ?_))
   refine AK.loopK (X := Nat) [(0, _), (1, _), (5, _), (8, _), (9, _), (13, _)] (fun m => [(14, .int .i64 (m : Int))]) (fun m => []) (fun m => m ≤ xs.length ∧ ∀ j, j < m → xs.getD a 0 = xs.getD j 0 → ys.getD a 0 = ys.getD j 0) (fun m => xs.length - m) (0) slr ?_ ?_ ?_ ?_
   ·exact ⟨Nat.zero_le _, fun c h => absurd h (Nat.not_lt_zero _)⟩
   ·exact slr
   ·exact fun w hw => hw
   ·intro m hg1 _ hK10
    obtain ⟨hm, hokm⟩ := hg1
    refine .sr fun _ hK11 => ?_
    refine .v (.lss rfl rfl) ?_
    refine .nt hK11 ?_
    refine .seq fun _ hK12 => ?_
    refine AK.condD rfl (fun hc1 => ?_) (fun hc1 => ?_)
    ·refine .skip ?_
     refine AK.then_ (hK12 _ ?_)
     refine .seq fun _ hK13 => ?_
     refine .block ?_
     refine .sr fun _ hK14 => ?_
     refine .mv rfl (.as rfl (.nt hK14 ?_))
     refine .seq fun _ hK15 => ?_
     refine AK.quiet mixed krf ?_
     refine .mv rfl (.mv rfl ?_)
     first | refine .v (.iN sl26 rfl rfl) ?_ | refine .v (.iK sl26 rfl rfl) ?_
     refine .v (.loadI on3 rfl rdp (by omega)) ?_
     refine .mv rfl (.mv rfl ?_)
     first | refine .v (.iN sl26 rfl rfl) ?_ | refine .v (.iK sl26 rfl rfl) ?_
     refine .v (.loadI on3 rfl rdp (by omega)) ?_
     refine .v (.eql rfl rfl) ?_
     refine .mv rfl ?_
     refine QK.splitB (g := 26) rfl (fun hg_7_9 => ?_) (fun hg_7_9 => ?_)
     ·have hg_7_9' := hg_7_9
      try simp only [bs] at hg_7_9'
      refine QK.val _ (Yl.move rfl) ⟨_, rfl, congrArg (fun b => some (Value.bool b)) hg_7_9⟩ rfl ?_
      refine QK.val _ (Yl.move rfl) ⟨_, rfl, congrArg (fun b => some (Value.bool b)) hg_7_9⟩ rfl ?_
      first | refine QK.val _ (.iN sl26 rfl rfl) ⟨_, rfl, congrArg (fun b => some (Value.bool b)) hg_7_9⟩ rfl ?_ | refine QK.val _ (.iK sl26 rfl rfl) ⟨_, rfl, congrArg (fun b => some (Value.bool b)) hg_7_9⟩ rfl ?_
      refine QK.val _ (Yl.loadI on3 rfl rdp (by omega)) ⟨_, rfl, congrArg (fun b => some (Value.bool b)) hg_7_9⟩ rfl ?_
      refine QK.val _ (Yl.move rfl) ⟨_, rfl, congrArg (fun b => some (Value.bool b)) hg_7_9⟩ rfl ?_
      refine QK.val _ (Yl.move rfl) ⟨_, rfl, congrArg (fun b => some (Value.bool b)) hg_7_9⟩ rfl ?_
      first | refine QK.val _ (.iN sl26 rfl rfl) ⟨_, rfl, congrArg (fun b => some (Value.bool b)) hg_7_9⟩ rfl ?_ | refine QK.val _ (.iK sl26 rfl rfl) ⟨_, rfl, congrArg (fun b => some (Value.bool b)) hg_7_9⟩ rfl ?_
      refine QK.val _ (Yl.loadI on3 rfl rdp (by omega)) ⟨_, rfl, congrArg (fun b => some (Value.bool b)) hg_7_9⟩ rfl ?_
      refine QK.val _ (Yl.neq rfl rfl) ⟨_, rfl, congrArg (fun b => some (Value.bool b)) hg_7_9⟩ rfl ?_
      refine .v (.pickT rfl (hg_7_9) rfl) ?_
      refine QK.nil (QK.fin ?_)
      refine AK.then_ (hK15 _ ?_)
      refine AK.condNe rfl (fun hc2 => ?_) (fun hc2 => ?_)
      ·refine .sr fun _ hK16 => ?_
       refine .as rfl (.nt hK16 (.ret (.block_ret (.then_ret (.then_ret (.block_ret (.block_ret (.then_ret (.then_ret (.block_ret (.then_ret ?_)))))))))))
       refine AK.ret1 rfl rfl (fun w hw => ⟨_, _, ?_, rfl, Ret.of (hw.pick [] (by decide) rfl rfl)⟩)
       exact ⟨congrArg Value.bool (kerB_false (d := 0) (xs := xs) (ys := ys) (i := a) (j := m) (by omega) (by omega) hg_7_9' hc2).symm, rfl⟩
      ·refine .skip (.block_normal ?_)
       refine AK.then_ (hK13 _ ?_)
       refine AK.region ?_
       refine .v (.add rfl rfl (by omega)) ?_
       refine .mv rfl (.nil ?_)
       refine AK.then_ (hK10 _ _ (m + 1) ⟨by omega, lt_succ_all hokm (fun he => by first | exact absurd he hg_7_9' | exact hc2)⟩ (by omega) (slr) (fun w hw => hw))
     ·have hg_7_9' := hg_7_9
      try simp only [bs] at hg_7_9'
      refine QK.pass rfl rfl (hg_7_9) rfl ?_
      refine QK.pass rfl rfl (hg_7_9) rfl ?_
      refine QK.pass rfl rfl (hg_7_9) rfl ?_
      refine QK.pass rfl rfl (hg_7_9) rfl ?_
      refine QK.pass rfl rfl (hg_7_9) rfl ?_
      refine QK.pass rfl rfl (hg_7_9) rfl ?_
      refine QK.pass rfl rfl (hg_7_9) rfl ?_
      refine QK.pass rfl rfl (hg_7_9) rfl ?_
      refine QK.pass rfl rfl (hg_7_9) rfl ?_
      refine .v (.pickF rfl (hg_7_9) rfl) ?_
      refine QK.nil (QK.fin ?_)
      refine AK.then_ (hK15 _ ?_)
      refine AK.cond_f rfl (rfl) ?_
      refine .skip (.block_normal ?_)
      refine AK.then_ (hK13 _ ?_)
      refine AK.region ?_
      refine .v (.add rfl rfl (by omega)) ?_
      refine .mv rfl (.nil ?_)
      refine AK.then_ (hK10 _ _ (m + 1) ⟨by omega, lt_succ_all hokm (fun he => by first | exact absurd he hg_7_9' | exact hc2)⟩ (by omega) (slr) (fun w hw => hw))
    ·refine .exit (.then_exit (.then_exit (.block_exit (.block_normal ?_))))
     refine AK.then_ (hK7 _ ?_)
     refine AK.region ?_
     refine .v (.add rfl rfl (by omega)) ?_
     refine .mv rfl (.nil ?_)
     refine AK.then_ (hK4 _ _ (a + 1) ⟨by omega, lt_succ_all hoka (fun j hj => hokm j (by omega))⟩ (by omega) (slr) (fun w hw => hw))
  ·refine .exit (.then_exit (.then_exit (.block_exit ?_)))
   refine AK.then_ (hK2 _ ?_)
   refine .sr fun _ hK17 => ?_
   refine .as rfl (.nt hK17 (.ret ?_))
   refine AK.ret1 rfl rfl (fun w hw => ⟨_, _, ?_, rfl, Ret.of (hw.pick [] (by decide) rfl rfl)⟩)
   have hal : a = xs.length := (by omega)
   subst hal
   exact ⟨congrArg Value.bool (kerB_iff.2 fun i j hi hj => hoka i hi j hj).symm, rfl⟩

end Go.Proofs.Ytifnofnnjcchhaa
