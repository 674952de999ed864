import Derived.Test.YtaeojcaidcjnaaaXD2
import Derived.Test.YtaeojcaidcjnaaaXDx
import Derived.Test.YtaeojcaidcjnaaaXRR
import Derived.Test.YtaeojcaidcjnaaaXSh
set_option linter.unusedVariables false
set_option linter.unusedSimpArgs false
namespace Go.Proofs.Ytaeojcaidcjnaaa
open Go.Sx Go.RowKit
theorem calls_cmp {w : World} (u v : List UInt8) (h : u.length = v.length) : CallS Try.prog 52 [sv u, sv v] w (fun r o => r = .int .i64 (CmpV u v) ∧ o = []) :=
  callS_pure (by have := Try.strings_Compare ⟨⟨u⟩⟩ ⟨⟨v⟩⟩ w; rw [cmpB_eq u v h] at this; exact this) ⟨rfl, rfl⟩
set_option maxRecDepth 100000 in
theorem s_isnan (w : World) (x : Int) : CallS Try.prog 67 [.int .i64 x] w (fun r o => r = .bool false ∧ o = []) := by
 refine spec_of Try.func67 rfl (Nat.le_of_ble_eq_true rfl) ?_
 refine .sr fun _ hK1 => ?_
 refine .as rfl (.nt hK1 ?_)
 refine .sr fun _ hK2 => ?_
 refine .mv rfl (.mv rfl ?_)
 refine .v (.neq rfl rfl) ?_
 refine .as rfl (.nt hK2 (.ret ?_))
 refine AK.ret1 rfl rfl (fun w hw => ⟨_, _, ?_, rfl, Ret.of (hw.pick [] (by decide) rfl rfl)⟩)
 refine ⟨congrArg Value.bool ?_, rfl⟩
 simp

set_option maxRecDepth 100000 in
theorem s_cmpi (w : World) (x y : Int) : CallS Try.prog 51 [.int .i64 x, .int .i64 y] w (fun r o => r = .int .i64 (if x < y then -1 else if y < x then 1 else 0) ∧ o = []) := by
 refine spec_of Try.func51 rfl (Nat.le_of_ble_eq_true rfl) ?_
 refine .sr fun _ hK1 => ?_
 refine .as rfl (.nt hK1 ?_)
 refine .sr fun _ hK2 => ?_
 refine .mv rfl ?_
 refine AK.call co67 rfl (fun w hw => s_isnan w x) trivial rfl ?_
 rintro r o ⟨rfl, rfl⟩
 refine .as rfl (.nt hK2 ?_)
 refine .sr fun _ hK3 => ?_
 refine .mv rfl ?_
 refine AK.call co67 rfl (fun w hw => s_isnan w y) trivial rfl ?_
 rintro r o ⟨rfl, rfl⟩
 refine .as rfl (.nt hK3 ?_)
 refine .seq fun _ hK4 => ?_
 refine .sr fun _ hK5 => ?_
 refine .mv rfl (.nt hK5 ?_)
 refine AK.cond_f rfl (rfl) ?_
 refine .skip ?_
 refine AK.then_ (hK4 _ ?_)
 refine .seq fun _ hK6 => ?_
 refine .sr fun _ hK7 => ?_
 refine .mv rfl (.nt hK7 ?_)
 refine AK.cond_f rfl (rfl) ?_
 refine .skip ?_
 refine AK.then_ (hK6 _ ?_)
 refine .seq fun _ hK8 => ?_
 refine .sr fun _ hK9 => ?_
 refine .mv rfl (.mv rfl ?_)
 refine .v (.lss rfl rfl) ?_
 refine .nt hK9 ?_
 refine AK.condD rfl (fun hc3 => ?_) (fun hc3 => ?_)
 ·refine .sr fun _ hK10 => ?_
  refine .as rfl (.nt hK10 (.ret (.then_ret ?_)))
  refine AK.ret1 rfl rfl (fun w hw => ⟨_, _, ?_, rfl, Ret.of (hw.pick [] (by decide) rfl rfl)⟩)
  refine ⟨congrArg (Value.int .i64) ?_, rfl⟩
  first | (rw [if_pos (by omega)]; done) | (rw [if_neg (by omega), if_pos (by omega)]; done) | (rw [if_neg (by omega), if_neg (by omega)]; done)
 ·refine .skip ?_
  refine AK.then_ (hK8 _ ?_)
  refine .seq fun _ hK11 => ?_
  refine .sr fun _ hK12 => ?_
  refine .mv rfl (.mv rfl ?_)
  refine .v (.gtr rfl rfl) ?_
  refine .nt hK12 ?_
  refine AK.condD rfl (fun hc4 => ?_) (fun hc4 => ?_)
  ·refine .sr fun _ hK13 => ?_
   refine .as rfl (.nt hK13 (.ret (.then_ret ?_)))
   refine AK.ret1 rfl rfl (fun w hw => ⟨_, _, ?_, rfl, Ret.of (hw.pick [] (by decide) rfl rfl)⟩)
   refine ⟨congrArg (Value.int .i64) ?_, rfl⟩
   first | (rw [if_pos (by omega)]; done) | (rw [if_neg (by omega), if_pos (by omega)]; done) | (rw [if_neg (by omega), if_neg (by omega)]; done)
  ·refine .skip ?_
   refine AK.then_ (hK11 _ ?_)
   refine .sr fun _ hK14 => ?_
   refine .as rfl (.nt hK14 (.ret ?_))
   refine AK.ret1 rfl rfl (fun w hw => ⟨_, _, ?_, rfl, Ret.of (hw.pick [] (by decide) rfl rfl)⟩)
   refine ⟨congrArg (Value.int .i64) ?_, rfl⟩
   first | (rw [if_pos (by omega)]; done) | (rw [if_neg (by omega), if_pos (by omega)]; done) | (rw [if_neg (by omega), if_neg (by omega)]; done)

set_option maxRecDepth 100000 in
theorem s_wcmp (w : World) (u v : List UInt8) (hu : u.length ≤ 9223372036854775807) (hv : v.length ≤ 9223372036854775807) : CallS Try.prog 36 [sv u, sv v] w (fun r o => r = .int .i64 (CmpV u v) ∧ o = []) := by
 refine spec_of Try.func36 rfl (Nat.le_of_ble_eq_true rfl) ?_
 refine .sr fun _ hK1 => ?_
 refine .as rfl (.nt hK1 ?_)
 refine .seq fun _ hK2 => ?_
 refine .sr fun _ hK3 => ?_
 refine .mv rfl ?_
 refine .v (.lenS un9 rfl) ?_
 refine .mv rfl ?_
 refine .v (.lenS un9 rfl) ?_
 refine .v (.neq rfl rfl) ?_
 refine .nt hK3 ?_
 refine AK.condNe rfl (fun hc0 => ?_) (fun hc0 => ?_)
 ·refine .sr fun _ hK4 => ?_
  refine .mv rfl ?_
  refine .v (.lenS un9 rfl) ?_
  refine .mv rfl ?_
  refine .v (.lenS un9 rfl) ?_
  refine AK.call co51 rfl (fun w hw => s_cmpi w (u.length : Int) (v.length : Int)) trivial rfl ?_
  rintro r o ⟨rfl, rfl⟩
  refine .as rfl (.nt hK4 (.ret (.then_ret ?_)))
  refine AK.ret1 rfl rfl (fun w hw => ⟨_, _, ?_, rfl, Ret.of (hw.pick [] (by decide) rfl rfl)⟩)
  refine ⟨congrArg (Value.int .i64) ?_, rfl⟩
  exact cmp_len (by omega)
 ·refine .skip ?_
  refine AK.then_ (hK2 _ ?_)
  refine .sr fun _ hK5 => ?_
  refine .mv rfl (.mv rfl ?_)
  refine AK.call co52 rfl (fun w hw => calls_cmp u v (by omega)) trivial rfl ?_
  rintro r o ⟨rfl, rfl⟩
  refine .as rfl (.nt hK5 (.ret ?_))
  refine AK.ret1 rfl rfl (fun w hw => ⟨_, _, ?_, rfl, Ret.of (hw.pick [] (by decide) rfl rfl)⟩)
  exact ⟨rfl, rfl⟩

set_option maxRecDepth 100000 in
theorem s_rval (w : World) (v : Value) (rs : List Rul) (h : RdR (fun _ => False) w v rs) (hll : ∀ k, k < rs.length → (rs.getD k ([], [])).1.length ≤ 9223372036854775807 ∧ (rs.getD k ([], [])).2.length ≤ 9223372036854775807) (L : Int) : CallS Try.prog 13 [v, .int .i64 L] w (fun r o => r = .int .i64 (errR L rs) ∧ o = []) := by
 have h0 := h
 have hb := h.len
 have sv0 := Rd.sl h
 unfold RdR at h
 refine spec_of Try.func13 rfl (Nat.le_of_ble_eq_true rfl) ?_
 refine .sr fun _ hK1 => ?_
 refine .as rfl (.nt hK1 ?_)
 refine .seq fun _ hK2 => ?_
 refine .sr fun _ hK3 => ?_
 refine .mv rfl ?_
 refine .v (.lss rfl rfl) ?_
 refine .mv rfl ?_
 refine AK.splitB (g := 9) rfl (fun hg_1_2 => ?_) (fun hg_1_2 => ?_)
 ·have hg_1_2' := hg_1_2
  try simp only [bs] at hg_1_2'
  refine AK.pass rfl rfl (hg_1_2) rfl ?_
  refine AK.pass rfl rfl (hg_1_2) rfl ?_
  refine .v (.pickT rfl (hg_1_2) rfl) ?_
  refine .nt hK3 ?_
  refine AK.cond_t rfl (rfl) ?_
  refine .sr fun _ hK4 => ?_
  refine .as rfl (.nt hK4 (.ret (.then_ret ?_)))
  refine AK.ret1 rfl rfl (fun w hw => ⟨_, _, ?_, rfl, Ret.of (hw.pick [] (by decide) rfl rfl)⟩)
  refine ⟨congrArg (Value.int .i64) ?_, rfl⟩; unfold errR; rw [if_pos (by omega)]
 ·have hg_1_2' := hg_1_2
  try simp only [bs] at hg_1_2'
  refine AK.val _ (Yl.move rfl) ⟨_, rfl, congrArg (fun b => some (Value.bool b)) hg_1_2⟩ rfl ?_
  refine AK.val _ (Yl.gtr rfl rfl) ⟨_, rfl, congrArg (fun b => some (Value.bool b)) hg_1_2⟩ rfl ?_
  refine .v (.pickF rfl (hg_1_2) rfl) ?_
  refine .nt hK3 ?_
  refine AK.condD rfl (fun hc0 => ?_) (fun hc0 => ?_)
  ·refine .sr fun _ hK5 => ?_
   refine .as rfl (.nt hK5 (.ret (.then_ret ?_)))
   refine AK.ret1 rfl rfl (fun w hw => ⟨_, _, ?_, rfl, Ret.of (hw.pick [] (by decide) rfl rfl)⟩)
   refine ⟨congrArg (Value.int .i64) ?_, rfl⟩; unfold errR; rw [if_pos (by omega)]
  ·refine .skip ?_
   refine AK.then_ (hK2 _ ?_)
   refine .seq fun _ hK6 => ?_
   refine .sr fun _ hK7 => ?_
   refine .mv rfl ?_
   refine .v (.lenR sl22 rfl rdp) ?_
   refine .v (.gtr rfl rfl) ?_
   refine .nt hK7 ?_
   refine AK.condD rfl (fun hc1 => ?_) (fun hc1 => ?_)
   ·refine .sr fun _ hK8 => ?_
    refine .as rfl (.nt hK8 (.ret (.then_ret ?_)))
    refine AK.ret1 rfl rfl (fun w hw => ⟨_, _, ?_, rfl, Ret.of (hw.pick [] (by decide) rfl rfl)⟩)
    refine ⟨congrArg (Value.int .i64) ?_, rfl⟩; unfold errR; rw [if_neg (by omega), if_pos (by omega)]
   ·refine .skip ?_
    refine AK.then_ (hK6 _ ?_)
    refine .seq fun _ hK9 => ?_
    refine .sr fun _ hK10 => ?_
    refine .mv rfl ?_
    refine .v (.lenR sl22 rfl rdp) ?_
    refine .mv rfl (.nt hK10 (.block ?_))
    refine AK.loopK (X := Nat) [(1, _), (16, _), (17, _)] (fun k => [(18, .int .i64 (k : Int))]) (fun k => []) (fun k => k ≤ rs.length ∧ (rs.take k).any (badR L) = false) (fun k => rs.length - k) (0) slr ?_ ?_ ?_ ?_
    ·exact ⟨Nat.zero_le _, rfl⟩
    ·exact slr
    ·exact fun w hw => hw
    ·intro k hg0 _ hK11
     obtain ⟨hk, hg1⟩ := hg0
     refine .sr fun _ hK12 => ?_
     refine .v (.lss rfl rfl) ?_
     refine .nt hK12 ?_
     refine .seq fun _ hK13 => ?_
     refine AK.condD rfl (fun hc2 => ?_) (fun hc2 => ?_)
     ·have hl1 := (hll k (by omega)).1
      have hl2 := (hll k (by omega)).2
      refine .skip ?_
      refine AK.then_ (hK13 _ ?_)
      refine .seq fun _ hK14 => ?_
      refine .block ?_
      refine .sr fun _ hK15 => ?_
      first | refine .v (.iN sl22 rfl rfl) ?_ | refine .v (.iK sl22 rfl rfl) ?_
      refine .v (.loadRu ag41 rfl rdp (by omega)) ?_
      refine AK.alloc el41 rfl rfl trivial rfl (fun bx6 => ?_)
      refine AK.storeBox 0 (us := rcs (rs.getD k ([], []))) (cs' := rcs (rs.getD k ([], []))) rfl sz41 rfl rfl rfl rfl oneP (Nat.le_of_ble_eq_true rfl) rfl trivial ?_
      refine .nt hK15 ?_
      refine .sr fun _ hK16 => ?_
      refine .v (.fieldAddr fd41_0 rfl) ?_
      refine .v (.loadBox on9 rfl bsp rfl) ?_
      refine .mv rfl ?_
      refine AK.call co35 rfl (fun w hw => s_wvalid w (rs.getD k ([], [])).1 L hl1) trivial rfl ?_
      rintro r o ⟨rfl, rfl⟩
      refine .v (.not rfl) ?_
      refine .mv rfl ?_
      refine AK.splitB (g := 27) rfl (fun hg_8_5 => ?_) (fun hg_8_5 => ?_)
      ·have hg_8_5' := hg_8_5
       try simp only [bs] at hg_8_5'
       refine AK.pass rfl rfl (hg_8_5) rfl ?_
       refine AK.pass rfl rfl (hg_8_5) rfl ?_
       refine AK.pass rfl rfl (hg_8_5) rfl ?_
       refine AK.pass rfl rfl (hg_8_5) rfl ?_
       refine AK.pass rfl rfl (hg_8_5) rfl ?_
       refine .v (.pickT rfl (hg_8_5) rfl) ?_
       refine .mv rfl ?_
       refine AK.pass rfl rfl rfl rfl ?_
       refine AK.pass rfl rfl rfl rfl ?_
       refine AK.pass rfl rfl rfl rfl ?_
       refine AK.pass rfl rfl rfl rfl ?_
       refine AK.pass rfl rfl rfl rfl ?_
       refine AK.pass rfl rfl rfl rfl ?_
       refine .v (.pickT rfl (rfl) rfl) ?_
       refine .nt hK16 ?_
       refine AK.cond_t rfl (rfl) ?_
       refine .sr fun _ hK17 => ?_
       refine .as rfl (.nt hK17 (.ret (.block_ret (.then_ret (.then_ret (.block_ret (.then_ret ?_)))))))
       refine AK.ret1 rfl rfl (fun w hw => ⟨_, _, ?_, rfl, Ret.of (hw.pick [] (by decide) rfl rfl)⟩)
       refine ⟨congrArg (Value.int .i64) ?_, rfl⟩; unfold errR; rw [if_neg (by omega), if_neg (by omega), if_pos (any_at _ ([], []) (by omega : k < rs.length) ?_)]
       clear hll hl1 hl2
       unfold badR
       first | (simp_all; done) | skip
      ·have hg_8_5' := hg_8_5
       try simp only [bs] at hg_8_5'
       refine AK.val _ (Yl.fieldAddr fd41_1 rfl) ⟨_, rfl, congrArg (fun b => some (Value.bool b)) hg_8_5⟩ rfl ?_
       refine AK.val _ (Yl.loadBox on9 rfl bsp rfl) ⟨_, rfl, congrArg (fun b => some (Value.bool b)) hg_8_5⟩ rfl ?_
       refine AK.val _ (Yl.move rfl) ⟨_, rfl, congrArg (fun b => some (Value.bool b)) hg_8_5⟩ rfl ?_
       refine AK.call co35 rfl (fun w hw => s_wvalid w (rs.getD k ([], [])).2 L hl2) ⟨_, rfl, congrArg (fun b => some (Value.bool b)) hg_8_5⟩ rfl ?_
       rintro r o ⟨rfl, rfl⟩
       refine AK.val _ (Yl.not rfl) ⟨_, rfl, congrArg (fun b => some (Value.bool b)) hg_8_5⟩ rfl ?_
       refine .v (.pickF rfl (hg_8_5) rfl) ?_
       refine .mv rfl ?_
       refine AK.splitB (g := 34) rfl (fun hg_8_12 => ?_) (fun hg_8_12 => ?_)
       ·have hg_8_12' := hg_8_12
        try simp only [bs] at hg_8_12'
        refine AK.pass rfl rfl (hg_8_12) rfl ?_
        refine AK.pass rfl rfl (hg_8_12) rfl ?_
        refine AK.pass rfl rfl (hg_8_12) rfl ?_
        refine AK.pass rfl rfl (hg_8_12) rfl ?_
        refine AK.pass rfl rfl (hg_8_12) rfl ?_
        refine AK.pass rfl rfl (hg_8_12) rfl ?_
        refine .v (.pickT rfl (hg_8_12) rfl) ?_
        refine .nt hK16 ?_
        refine AK.cond_t rfl (rfl) ?_
        refine .sr fun _ hK18 => ?_
        refine .as rfl (.nt hK18 (.ret (.block_ret (.then_ret (.then_ret (.block_ret (.then_ret ?_)))))))
        refine AK.ret1 rfl rfl (fun w hw => ⟨_, _, ?_, rfl, Ret.of (hw.pick [] (by decide) rfl rfl)⟩)
        refine ⟨congrArg (Value.int .i64) ?_, rfl⟩; unfold errR; rw [if_neg (by omega), if_neg (by omega), if_pos (any_at _ ([], []) (by omega : k < rs.length) ?_)]
        clear hll hl1 hl2
        unfold badR
        first | (simp_all; done) | skip
       ·have hg_8_12' := hg_8_12
        try simp only [bs] at hg_8_12'
        refine AK.val _ (Yl.fieldAddr fd41_0 rfl) ⟨_, rfl, congrArg (fun b => some (Value.bool b)) hg_8_12⟩ rfl ?_
        refine AK.val _ (Yl.loadBox on9 rfl bsp rfl) ⟨_, rfl, congrArg (fun b => some (Value.bool b)) hg_8_12⟩ rfl ?_
        refine AK.val _ (Yl.fieldAddr fd41_1 rfl) ⟨_, rfl, congrArg (fun b => some (Value.bool b)) hg_8_12⟩ rfl ?_
        refine AK.val _ (Yl.loadBox on9 rfl bsp rfl) ⟨_, rfl, congrArg (fun b => some (Value.bool b)) hg_8_12⟩ rfl ?_
        refine AK.call co36 rfl (fun w hw => s_wcmp w (rs.getD k ([], [])).1 (rs.getD k ([], [])).2 hl1 hl2) ⟨_, rfl, congrArg (fun b => some (Value.bool b)) hg_8_12⟩ rfl ?_
        rintro r o ⟨rfl, rfl⟩
        refine AK.val _ (Yl.leq rfl rfl) ⟨_, rfl, congrArg (fun b => some (Value.bool b)) hg_8_12⟩ rfl ?_
        refine .v (.pickF rfl (hg_8_12) rfl) ?_
        refine .nt hK16 ?_
        refine AK.condD rfl (fun hc3 => ?_) (fun hc3 => ?_)
        ·refine .sr fun _ hK19 => ?_
         refine .as rfl (.nt hK19 (.ret (.block_ret (.then_ret (.then_ret (.block_ret (.then_ret ?_)))))))
         refine AK.ret1 rfl rfl (fun w hw => ⟨_, _, ?_, rfl, Ret.of (hw.pick [] (by decide) rfl rfl)⟩)
         refine ⟨congrArg (Value.int .i64) ?_, rfl⟩; unfold errR; rw [if_neg (by omega), if_neg (by omega), if_pos (any_at _ ([], []) (by omega : k < rs.length) ?_)]
         clear hll hl1 hl2
         unfold badR
         first | (simp_all; done) | skip
        ·refine .skip (.block_normal ?_)
         refine AK.then_ (hK14 _ ?_)
         refine AK.region ?_
         refine .v (.add rfl rfl (by omega)) ?_
         refine .mv rfl (.nil ?_)
         refine AK.then_ (hK11 _ _ (k + 1) ⟨by omega, any_take_succ _ ([], []) (by omega) hg1 (badR_iff.2 ⟨by simp_all, by simp_all, CmpV_pos.1 (by simp_all)⟩)⟩ (by omega) (slr) (fun w hw => hw.pick [] (by decide) rfl rfl))
     ·refine .exit (.then_exit (.then_exit (.block_exit ?_)))
      refine AK.then_ (hK9 _ ?_)
      refine .sr fun _ hK20 => ?_
      refine .as rfl (.nt hK20 (.ret ?_))
      refine AK.ret1 rfl rfl (fun w hw => ⟨_, _, ?_, rfl, Ret.of (hw.pick [] (by decide) rfl rfl)⟩)
      refine ⟨congrArg (Value.int .i64) ?_, rfl⟩; unfold errR; rw [if_neg (by omega), if_neg (by omega), if_neg]; rw [show k = rs.length by omega, List.take_length] at hg1; rw [hg1]; exact Bool.false_ne_true

set_option maxRecDepth 100000 in
theorem s_refrval (w : World) (v : Value) (rs : List Rul) (h : RdR (fun _ => False) w v rs) (hll : ∀ k, k < rs.length → (rs.getD k ([], [])).1.length ≤ 9223372036854775807 ∧ (rs.getD k ([], [])).2.length ≤ 9223372036854775807) (L : Int) : CallS Try.prog 14 [v, .int .i64 L] w (fun r o => r = .int .i64 (errR L rs) ∧ o = []) := by
 have h0 := h
 have hb := h.len
 have sv0 := Rd.sl h
 unfold RdR at h
 refine spec_of Try.func14 rfl (Nat.le_of_ble_eq_true rfl) ?_
 refine .sr fun _ hK1 => ?_
 refine .as rfl (.nt hK1 ?_)
 refine .seq fun _ hK2 => ?_
 refine .block ?_
 refine .sr fun _ hK3 => ?_
 refine .mv rfl ?_
 refine AK.call co37 rfl (fun w hw => s_may w L) trivial rfl ?_
 rintro r o ⟨rfl, rfl⟩
 refine .v (.not rfl) ?_
 refine .as rfl (.nt hK3 ?_)
 refine AK.condB rfl (fun hc0 => ?_) (fun hc0 => ?_)
 ·refine .sr fun _ hK4 => ?_
  refine .as rfl (.nt hK4 (.ret (.block_ret (.then_ret ?_))))
  refine AK.ret1 rfl rfl (fun w hw => ⟨_, _, ?_, rfl, Ret.of (hw.pick [] (by decide) rfl rfl)⟩)
  refine ⟨congrArg (Value.int .i64) ?_, rfl⟩; unfold errR; rw [if_pos (by simpa using hc0)]
 ·refine .sr fun _ hK5 => ?_
  refine .mv rfl ?_
  refine .v (.lenR sl22 rfl rdp) ?_
  refine .v (.gtr rfl rfl) ?_
  refine .as rfl (.nt hK5 ?_)
  refine AK.condD rfl (fun hc1 => ?_) (fun hc1 => ?_)
  ·refine .sr fun _ hK6 => ?_
   refine .as rfl (.nt hK6 (.ret (.block_ret (.then_ret ?_))))
   refine AK.ret1 rfl rfl (fun w hw => ⟨_, _, ?_, rfl, Ret.of (hw.pick [] (by decide) rfl rfl)⟩)
   refine ⟨congrArg (Value.int .i64) ?_, rfl⟩; unfold errR; rw [if_neg (by simpa using hc0), if_pos (by omega)]
  ·refine .skip (.block_normal ?_)
   refine AK.then_ (hK2 _ ?_)
   refine .seq fun _ hK7 => ?_
   refine .sr fun _ hK8 => ?_
   refine .mv rfl ?_
   refine .v (.lenR sl22 rfl rdp) ?_
   refine .mv rfl (.nt hK8 (.block ?_))
   refine AK.loopK (X := Nat) [(1, _), (15, _), (16, _)] (fun k => [(17, .int .i64 (k : Int))]) (fun k => []) (fun k => k ≤ rs.length ∧ (rs.take k).any (badR L) = false) (fun k => rs.length - k) (0) slr ?_ ?_ ?_ ?_
   ·exact ⟨Nat.zero_le _, rfl⟩
   ·exact slr
   ·exact fun w hw => hw
   ·intro k hg0 _ hK9
    obtain ⟨hk, hg1⟩ := hg0
    refine .sr fun _ hK10 => ?_
    refine .v (.lss rfl rfl) ?_
    refine .nt hK10 ?_
    refine .seq fun _ hK11 => ?_
    refine AK.condD rfl (fun hc2 => ?_) (fun hc2 => ?_)
    ·have hl1 := (hll k (by omega)).1
     have hl2 := (hll k (by omega)).2
     refine .skip ?_
     refine AK.then_ (hK11 _ ?_)
     refine .seq fun _ hK12 => ?_
     refine .block ?_
     refine .sr fun _ hK13 => ?_
     first | refine .v (.iN sl22 rfl rfl) ?_ | refine .v (.iK sl22 rfl rfl) ?_
     refine .v (.loadRu ag41 rfl rdp (by omega)) ?_
     refine AK.alloc el41 rfl rfl trivial rfl (fun bx6 => ?_)
     refine AK.storeBox 0 (us := rcs (rs.getD k ([], []))) (cs' := rcs (rs.getD k ([], []))) rfl sz41 rfl rfl rfl rfl oneP (Nat.le_of_ble_eq_true rfl) rfl trivial ?_
     refine .nt hK13 ?_
     refine .sr fun _ hK14 => ?_
     refine .v (.fieldAddr fd41_0 rfl) ?_
     refine .v (.loadBox on9 rfl bsp rfl) ?_
     refine .mv rfl ?_
     refine AK.call co18 rfl (fun w hw => s_refwvalid w (rs.getD k ([], [])).1 L hl1) trivial rfl ?_
     rintro r o ⟨rfl, rfl⟩
     refine .v (.not rfl) ?_
     refine .mv rfl ?_
     refine AK.splitB (g := 26) rfl (fun hg_8_5 => ?_) (fun hg_8_5 => ?_)
     ·have hg_8_5' := hg_8_5
      try simp only [bs] at hg_8_5'
      refine AK.pass rfl rfl (hg_8_5) rfl ?_
      refine AK.pass rfl rfl (hg_8_5) rfl ?_
      refine AK.pass rfl rfl (hg_8_5) rfl ?_
      refine AK.pass rfl rfl (hg_8_5) rfl ?_
      refine AK.pass rfl rfl (hg_8_5) rfl ?_
      refine .v (.pickT rfl (hg_8_5) rfl) ?_
      refine .mv rfl ?_
      refine AK.pass rfl rfl rfl rfl ?_
      refine AK.pass rfl rfl rfl rfl ?_
      refine AK.pass rfl rfl rfl rfl ?_
      refine AK.pass rfl rfl rfl rfl ?_
      refine AK.pass rfl rfl rfl rfl ?_
      refine AK.pass rfl rfl rfl rfl ?_
      refine .v (.pickT rfl (rfl) rfl) ?_
      refine .nt hK14 ?_
      refine AK.cond_t rfl (rfl) ?_
      refine .sr fun _ hK15 => ?_
      refine .as rfl (.nt hK15 (.ret (.block_ret (.then_ret (.then_ret (.block_ret (.then_ret ?_)))))))
      refine AK.ret1 rfl rfl (fun w hw => ⟨_, _, ?_, rfl, Ret.of (hw.pick [] (by decide) rfl rfl)⟩)
      refine ⟨congrArg (Value.int .i64) ?_, rfl⟩; unfold errR; rw [if_neg (by simpa using hc0), if_neg (by omega), if_pos (any_at _ ([], []) (by omega : k < rs.length) ?_)]
      clear hll hl1 hl2
      unfold badR
      first | (simp_all; done) | skip
     ·have hg_8_5' := hg_8_5
      try simp only [bs] at hg_8_5'
      refine AK.val _ (Yl.fieldAddr fd41_1 rfl) ⟨_, rfl, congrArg (fun b => some (Value.bool b)) hg_8_5⟩ rfl ?_
      refine AK.val _ (Yl.loadBox on9 rfl bsp rfl) ⟨_, rfl, congrArg (fun b => some (Value.bool b)) hg_8_5⟩ rfl ?_
      refine AK.val _ (Yl.move rfl) ⟨_, rfl, congrArg (fun b => some (Value.bool b)) hg_8_5⟩ rfl ?_
      refine AK.call co18 rfl (fun w hw => s_refwvalid w (rs.getD k ([], [])).2 L hl2) ⟨_, rfl, congrArg (fun b => some (Value.bool b)) hg_8_5⟩ rfl ?_
      rintro r o ⟨rfl, rfl⟩
      refine AK.val _ (Yl.not rfl) ⟨_, rfl, congrArg (fun b => some (Value.bool b)) hg_8_5⟩ rfl ?_
      refine .v (.pickF rfl (hg_8_5) rfl) ?_
      refine .mv rfl ?_
      refine AK.splitB (g := 33) rfl (fun hg_8_12 => ?_) (fun hg_8_12 => ?_)
      ·have hg_8_12' := hg_8_12
       try simp only [bs] at hg_8_12'
       refine AK.pass rfl rfl (hg_8_12) rfl ?_
       refine AK.pass rfl rfl (hg_8_12) rfl ?_
       refine AK.pass rfl rfl (hg_8_12) rfl ?_
       refine AK.pass rfl rfl (hg_8_12) rfl ?_
       refine AK.pass rfl rfl (hg_8_12) rfl ?_
       refine AK.pass rfl rfl (hg_8_12) rfl ?_
       refine .v (.pickT rfl (hg_8_12) rfl) ?_
       refine .nt hK14 ?_
       refine AK.cond_t rfl (rfl) ?_
       refine .sr fun _ hK16 => ?_
       refine .as rfl (.nt hK16 (.ret (.block_ret (.then_ret (.then_ret (.block_ret (.then_ret ?_)))))))
       refine AK.ret1 rfl rfl (fun w hw => ⟨_, _, ?_, rfl, Ret.of (hw.pick [] (by decide) rfl rfl)⟩)
       refine ⟨congrArg (Value.int .i64) ?_, rfl⟩; unfold errR; rw [if_neg (by simpa using hc0), if_neg (by omega), if_pos (any_at _ ([], []) (by omega : k < rs.length) ?_)]
       clear hll hl1 hl2
       unfold badR
       first | (simp_all; done) | skip
      ·have hg_8_12' := hg_8_12
       try simp only [bs] at hg_8_12'
       refine AK.val _ (Yl.fieldAddr fd41_0 rfl) ⟨_, rfl, congrArg (fun b => some (Value.bool b)) hg_8_12⟩ rfl ?_
       refine AK.val _ (Yl.loadBox on9 rfl bsp rfl) ⟨_, rfl, congrArg (fun b => some (Value.bool b)) hg_8_12⟩ rfl ?_
       refine AK.val _ (Yl.fieldAddr fd41_1 rfl) ⟨_, rfl, congrArg (fun b => some (Value.bool b)) hg_8_12⟩ rfl ?_
       refine AK.val _ (Yl.loadBox on9 rfl bsp rfl) ⟨_, rfl, congrArg (fun b => some (Value.bool b)) hg_8_12⟩ rfl ?_
       refine AK.call co22 rfl (fun w hw => s_compare w (rs.getD k ([], [])).1 (rs.getD k ([], [])).2) ⟨_, rfl, congrArg (fun b => some (Value.bool b)) hg_8_12⟩ rfl ?_
       rintro r o ⟨rfl, rfl⟩
       refine AK.val _ (Yl.leq rfl rfl) ⟨_, rfl, congrArg (fun b => some (Value.bool b)) hg_8_12⟩ rfl ?_
       refine .v (.pickF rfl (hg_8_12) rfl) ?_
       refine .nt hK14 ?_
       refine AK.condD rfl (fun hc3 => ?_) (fun hc3 => ?_)
       ·refine .sr fun _ hK17 => ?_
        refine .as rfl (.nt hK17 (.ret (.block_ret (.then_ret (.then_ret (.block_ret (.then_ret ?_)))))))
        refine AK.ret1 rfl rfl (fun w hw => ⟨_, _, ?_, rfl, Ret.of (hw.pick [] (by decide) rfl rfl)⟩)
        refine ⟨congrArg (Value.int .i64) ?_, rfl⟩; unfold errR; rw [if_neg (by simpa using hc0), if_neg (by omega), if_pos (any_at _ ([], []) (by omega : k < rs.length) ?_)]
        clear hll hl1 hl2
        unfold badR
        first | (simp_all; done) | skip
       ·refine .skip (.block_normal ?_)
        refine AK.then_ (hK12 _ ?_)
        refine AK.region ?_
        refine .v (.add rfl rfl (by omega)) ?_
        refine .mv rfl (.nil ?_)
        refine AK.then_ (hK9 _ _ (k + 1) ⟨by omega, any_take_succ _ ([], []) (by omega) hg1 (badR_iff.2 ⟨by simp_all, by simp_all, CmpV_pos.1 (by simp_all)⟩)⟩ (by omega) (slr) (fun w hw => hw.pick [] (by decide) rfl rfl))
    ·refine .exit (.then_exit (.then_exit (.block_exit ?_)))
     refine AK.then_ (hK7 _ ?_)
     refine .sr fun _ hK18 => ?_
     refine .as rfl (.nt hK18 (.ret ?_))
     refine AK.ret1 rfl rfl (fun w hw => ⟨_, _, ?_, rfl, Ret.of (hw.pick [] (by decide) rfl rfl)⟩)
     refine ⟨congrArg (Value.int .i64) ?_, rfl⟩; unfold errR; rw [if_neg (by simpa using hc0), if_neg (by omega), if_neg]; rw [show k = rs.length by omega, List.take_length] at hg1; rw [hg1]; exact Bool.false_ne_true

end Go.Proofs.Ytaeojcaidcjnaaa
