import Derived.Test.YtaeojcaidcjnaaaXWb
import Derived.Test.YtaeojcaidcjnaaaXRR
set_option linter.unusedVariables false
set_option linter.unusedSimpArgs false
namespace Go.Proofs.Ytaeojcaidcjnaaa
open Go.Sx Go.RowKit
theorem calls_hasprefix {w : World} (u v : List UInt8) : CallS Try.prog 75 [sv u, sv v] w (fun r o => r = .bool (Lib.hasPrefix u v) ∧ o = []) :=
  callS_pure (Try.strings_HasPrefix ⟨⟨u⟩⟩ ⟨⟨v⟩⟩ w) ⟨rfl, rfl⟩
theorem calls_index {w : World} (u v : List UInt8) (hu : u.length ≤ 2048) (hm : MxA w) : CallS Try.prog 56 [sv u, sv v] w (fun r o => r = .int .i64 (Lib.index u v) ∧ o = []) := by
  obtain ⟨m, hm⟩ := hm
  exact callS_pure (Try.strings_Index ⟨⟨u⟩⟩ ⟨⟨v⟩⟩ m w (by show u.toArray.size < _; simp; omega) hm) ⟨rfl, rfl⟩
set_option maxHeartbeats 1600000 in
set_option maxRecDepth 100000 in
theorem s_overlaps (w : World) (F : Nat → Prop) (a b : Rul) (ha : a.1.length ≤ 2048 ∧ a.2.length ≤ 2048) (hb : b.1.length ≤ 2048 ∧ b.2.length ≤ 2048) (l : Nat) (T : List Crit → Prop) (J Jx : List Crit → Asn) (pre : List Crit) (hY : YC Try.prog l cv T J Jx w F) (hTq : ∀ q, q <+: ovl a b → T (pre ++ q)) (hA : (J pre).holds w F) : CallM Try.prog 63 [.agg #[sv a.1, sv a.2], .agg #[sv b.1, sv b.2], .func (.yield l) #[] #[]] w F (fun r A o => ∃ ok : Bool, r = .bool ok ∧ o = [] ∧ ((ok = true ∧ A = J (pre ++ ovl a b)) ∨ (ok = false ∧ ∃ q, q <+: ovl a b ∧ q ≠ [] ∧ A = Jx (pre ++ q)))) := by
 refine specM_of Try.func63 rfl (Nat.le_of_ble_eq_true rfl) hA ?_
 refine .sr fun _ hK1 => ?_
 refine AK.box_ (E := 41) (cs := rcs a) rfl rfl rfl trivial rfl (fun bx3 => ?_)
 refine AK.box_ (E := 41) (cs := rcs b) rfl rfl rfl trivial rfl (fun bx4 => ?_)
 refine .as rfl (.nt hK1 ?_)
 refine .seq fun _ hK2 => ?_
 refine .sr fun _ hK3 => ?_
 refine .as rfl (.nt hK3 (.block ?_))
 refine AK.loopK (X := Nat) [(2, _), (3, _), (4, _)] (fun k => [(7, .int .i64 (k : Int))]) (fun k => [J (pre ++ (up (ovP a b) (ovk a b) k)), box bx3 41 2 (rcs a), box bx4 41 2 (rcs b)]) (fun k => 1 ≤ k ∧ (k ≤ min a.1.length b.1.length ∨ k = 1)) (fun k => 2049 - k) (1) slr ?_ ?_ ?_ ?_
 ·exact ⟨Nat.le_refl _, .inr rfl⟩
 ·exact slr
 ·exact fun w hw => by rw [show up (ovP a b) (ovk a b) 1 = [] from up_no (ovP_zero a b), List.append_nil]; exact hw
 ·intro k hg0 _ hK4
  refine .seq fun _ hK5 => ?_
  refine .sr fun _ hK6 => ?_
  refine .mv rfl ?_
  refine .v (.fieldAddr fd41_0 rfl) ?_
  refine .v (.loadBox on9 rfl bsp rfl) ?_
  refine .v (.lenS un9 rfl) ?_
  refine .v (.fieldAddr fd41_0 rfl) ?_
  refine .v (.loadBox on9 rfl bsp rfl) ?_
  refine .v (.lenS un9 rfl) ?_
  refine .v (.min rfl rfl) ?_
  refine .v (.lss rfl rfl) ?_
  refine .nt hK6 ?_
  refine AK.condD rfl (fun hc0 => ?_) (fun hc0 => ?_)
  ·have hkm : k < min a.1.length b.1.length := (by omega)
   refine .skip ?_
   refine AK.then_ (hK5 _ ?_)
   refine .seq fun _ hK7 => ?_
   refine .block ?_
   refine .sr fun _ hK8 => ?_
   refine .v (.fieldAddr fd41_0 rfl) ?_
   refine .v (.loadBox on9 rfl bsp rfl) ?_
   refine .v (.lenS un9 rfl) ?_
   refine .mv rfl ?_
   refine .v (.subE (((a.1.length - k : Nat) : Int)) rfl rfl (by omega) (by omega)) ?_
   refine .as rfl (.nt hK8 ?_)
   refine .seq fun _ hK9 => ?_
   refine .seq fun _ hK10 => ?_
   refine AK.quiet mixed krf ?_
   refine .v (.fieldAddr fd41_0 rfl) ?_
   refine .v (.loadBox on9 rfl bsp rfl) ?_
   refine .mv rfl ?_
   first | refine .v (.idxSN un9 rfl rfl (by omega)) ?_ | refine .v (.idxS un9 rfl rfl (by omega)) ?_
   refine .v (.fieldAddr fd41_0 rfl) ?_
   refine .v (.loadBox on9 rfl bsp rfl) ?_
   first | refine .v (.idxSN un9 rfl rfl (by omega)) ?_ | refine .v (.idxS un9 rfl rfl (by omega)) ?_
   refine .v (.neq rfl rfl) ?_
   refine .mv rfl ?_
   refine QK.splitB (g := 34) rfl (fun hg_5_8 => ?_) (fun hg_5_8 => ?_)
   ·have hg_5_8' := hg_5_8
    try simp only [bs] at hg_5_8'
    refine QK.pass rfl rfl (hg_5_8) rfl ?_
    refine QK.pass rfl rfl (hg_5_8) rfl ?_
    refine QK.pass rfl rfl (hg_5_8) rfl ?_
    refine QK.pass rfl rfl (hg_5_8) rfl ?_
    refine QK.pass rfl rfl (hg_5_8) rfl ?_
    refine QK.pass rfl rfl (hg_5_8) rfl ?_
    refine QK.pass rfl rfl (hg_5_8) rfl ?_
    refine QK.pass rfl rfl (hg_5_8) rfl ?_
    refine .v (.pickT rfl (hg_5_8) rfl) ?_
    refine QK.nil (QK.fin ?_)
    refine AK.then_ (hK10 _ ?_)
    refine AK.cond_t rfl (rfl) ?_
    refine .exit (.then_exit (.block_exit ?_))
    refine AK.then_ (hK7 _ ?_)
    refine AK.region ?_
    refine .mv rfl ?_
    refine .v (.add rfl rfl (by omega)) ?_
    refine .as rfl (.nil ?_)
    first | refine AK.then_ (hK4 _ _ (k + 1) ⟨by omega, .inl (by omega)⟩ (by omega) (slr) (fun w hw => by rw [up_yes hPk, ← List.append_assoc]; exact hw.pick [0, 1, 2] (by decide) rfl rfl)) | refine AK.then_ (hK4 _ _ (k + 1) ⟨by omega, .inl (by omega)⟩ (by omega) (slr) (fun w hw => by rw [up_no (show ovP a b k = false by rw [ovP_has hg0.1 hkm]; simpa using hc1)]; exact hw.pick [0, 1, 2] (by decide) rfl rfl)) | refine AK.then_ (hK4 _ _ (k + 1) ⟨by omega, .inl (by omega)⟩ (by omega) (slr) (fun w hw => by rw [up_no (ovP_diff hg0.1 hkm (fun e => hg_5_8' (by rw [e]; rfl)))]; exact hw.pick [0, 1, 2] (by decide) rfl rfl))
   ·have hg_5_8' := hg_5_8
    try simp only [bs] at hg_5_8'
    refine QK.val _ (Yl.fieldAddr fd41_0 rfl) ⟨_, rfl, congrArg (fun b => some (Value.bool b)) hg_5_8⟩ rfl ?_
    refine QK.val _ (Yl.loadBox on9 rfl bsp rfl) ⟨_, rfl, congrArg (fun b => some (Value.bool b)) hg_5_8⟩ rfl ?_
    refine QK.val _ (Yl.fieldAddr fd41_0 rfl) ⟨_, rfl, congrArg (fun b => some (Value.bool b)) hg_5_8⟩ rfl ?_
    refine QK.val _ (Yl.loadBox on9 rfl bsp rfl) ⟨_, rfl, congrArg (fun b => some (Value.bool b)) hg_5_8⟩ rfl ?_
    refine QK.val _ (Yl.move rfl) ⟨_, rfl, congrArg (fun b => some (Value.bool b)) hg_5_8⟩ rfl ?_
    refine QK.val _ (Yl.valE (Yl.subFr un9 rfl rfl (by omega)) (show _ = sv (a.1.drop (a.1.length - k)) from congrArg sv (by rw [Int.toNat_natCast]))) ⟨_, rfl, congrArg (fun b => some (Value.bool b)) hg_5_8⟩ rfl ?_
    refine QK.call (.bool (Lib.hasPrefix b.1 (a.1.drop (a.1.length - k)))) co75 rfl (fun w hw => calls_hasprefix b.1 (a.1.drop (a.1.length - k))) (fun v o h => h.1) ⟨_, rfl, congrArg (fun b => some (Value.bool b)) hg_5_8⟩ rfl ?_
    refine QK.val _ (Yl.not rfl) ⟨_, rfl, congrArg (fun b => some (Value.bool b)) hg_5_8⟩ rfl ?_
    refine .v (.pickF rfl (hg_5_8) rfl) ?_
    refine QK.nil (QK.fin ?_)
    refine AK.then_ (hK10 _ ?_)
    refine AK.condB rfl (fun hc1 => ?_) (fun hc1 => ?_)
    ·refine .exit (.then_exit (.block_exit ?_))
     refine AK.then_ (hK7 _ ?_)
     refine AK.region ?_
     refine .mv rfl ?_
     refine .v (.add rfl rfl (by omega)) ?_
     refine .as rfl (.nil ?_)
     first | refine AK.then_ (hK4 _ _ (k + 1) ⟨by omega, .inl (by omega)⟩ (by omega) (slr) (fun w hw => by rw [up_yes hPk, ← List.append_assoc]; exact hw.pick [0, 1, 2] (by decide) rfl rfl)) | refine AK.then_ (hK4 _ _ (k + 1) ⟨by omega, .inl (by omega)⟩ (by omega) (slr) (fun w hw => by rw [up_no (show ovP a b k = false by rw [ovP_has hg0.1 hkm]; simpa using hc1)]; exact hw.pick [0, 1, 2] (by decide) rfl rfl)) | refine AK.then_ (hK4 _ _ (k + 1) ⟨by omega, .inl (by omega)⟩ (by omega) (slr) (fun w hw => by rw [up_no (ovP_diff hg0.1 hkm (fun e => hg_5_8' (by rw [e]; rfl)))]; exact hw.pick [0, 1, 2] (by decide) rfl rfl))
    ·have hPk : ovP a b k = true := (by rw [ovP_has hg0.1 hkm]; simpa using hc1)
     refine .skip ?_
     refine AK.then_ (hK9 _ ?_)
     refine .seq fun _ hK11 => ?_
     try (conv => enter [2, 2]; dsimp only [List.set_cons_zero, List.set_cons_succ, List.cons_append, List.nil_append])
     refine AK.held 23 mixed ?_
     refine HeldK.first 0 (fuel := 23) (listed' := (lb 24 1)) _ rfl krf krf rfl (Yl.fieldAddr fd41_0 rfl) trivial rfl ?_
     refine HeldK.first 1 (fuel := 22) (listed' := (lb 24 3)) _ rfl krf krf rfl (Yl.loadBox on9 rfl bsp rfl) trivial rfl ?_
     refine HeldK.first 2 (fuel := 21) (listed' := (lb 24 7)) _ rfl krf krf rfl (Yl.fieldAddr fd41_0 rfl) trivial rfl ?_
     refine HeldK.first 3 (fuel := 20) (listed' := (lb 24 15)) _ rfl krf krf rfl (Yl.loadBox on9 rfl bsp rfl) trivial rfl ?_
     refine HeldK.first 4 (fuel := 19) (listed' := (lb 24 31)) _ rfl krf krf rfl (Yl.move rfl) trivial rfl ?_
     refine HeldK.first 5 (fuel := 18) (listed' := (lb 24 63)) _ rfl krf krf rfl (Yl.valE (Yl.subFr un9 rfl rfl (by omega)) (show _ = sv (b.1.drop k) from congrArg sv (by rw [Int.toNat_natCast]))) trivial rfl ?_
     refine HeldK.first 6 (fuel := 17) (listed' := (lb 24 127)) _ rfl krf krf rfl (Yl.concat rfl rfl (by simp only [List.length_append, List.length_take, List.length_drop]; omega)) trivial rfl ?_
     refine HeldK.first 7 (fuel := 16) (listed' := (lb 24 255)) _ rfl krf krf rfl (Yl.fieldAddr fd41_1 rfl) trivial rfl ?_
     refine HeldK.first 8 (fuel := 15) (listed' := (lb 24 511)) _ rfl krf krf rfl (Yl.loadBox on9 rfl bsp rfl) trivial rfl ?_
     refine HeldK.first 9 (fuel := 14) (listed' := (lb 24 1023)) _ rfl krf krf rfl (Yl.fieldAddr fd41_0 rfl) trivial rfl ?_
     refine HeldK.first 10 (fuel := 13) (listed' := (lb 24 2047)) _ rfl krf krf rfl (Yl.loadBox on9 rfl bsp rfl) trivial rfl ?_
     refine HeldK.first 11 (fuel := 12) (listed' := (lb 24 4095)) _ rfl krf krf rfl (Yl.move rfl) trivial rfl ?_
     refine HeldK.first 12 (fuel := 11) (listed' := (lb 24 8191)) _ rfl krf krf rfl (Yl.valE (Yl.subFr un9 rfl rfl (by omega)) (show _ = sv (b.1.drop k) from congrArg sv (by rw [Int.toNat_natCast]))) trivial rfl ?_
     refine HeldK.first 13 (fuel := 10) (listed' := (lb 24 16383)) _ rfl krf krf rfl (Yl.concat rfl rfl (by simp only [List.length_append, List.length_take, List.length_drop]; omega)) trivial rfl ?_
     refine HeldK.first 14 (fuel := 9) (listed' := (lb 24 32767)) _ rfl krf krf rfl (Yl.fieldAddr fd41_0 rfl) trivial rfl ?_
     refine HeldK.first 15 (fuel := 8) (listed' := (lb 24 65535)) _ rfl krf krf rfl (Yl.loadBox on9 rfl bsp rfl) trivial rfl ?_
     refine HeldK.first 16 (fuel := 7) (listed' := (lb 24 131071)) _ rfl krf krf rfl (Yl.move rfl) trivial rfl ?_
     refine HeldK.first 17 (fuel := 6) (listed' := (lb 24 262143)) _ rfl krf krf rfl (Yl.valE (Yl.subTo un9 rfl rfl (by omega)) (show _ = sv (a.1.take (a.1.length - k)) from congrArg sv (by rw [Int.toNat_natCast]))) trivial rfl ?_
     refine HeldK.first 18 (fuel := 5) (listed' := (lb 24 524287)) _ rfl krf krf rfl (Yl.fieldAddr fd41_1 rfl) trivial rfl ?_
     refine HeldK.first 19 (fuel := 4) (listed' := (lb 24 1048575)) _ rfl krf krf rfl (Yl.loadBox on9 rfl bsp rfl) trivial rfl ?_
     refine HeldK.first 20 (fuel := 3) (listed' := (lb 24 2097151)) _ rfl krf krf rfl (Yl.concat rfl rfl (by simp only [List.length_append, List.length_take, List.length_drop]; omega)) trivial rfl ?_
     refine HeldK.first 21 (fuel := 2) (listed' := (lb 24 4194303)) _ rfl krf krf rfl (Yl.build (parts := [(0, .tmp 50), (1, .tmp 57), (2, .tmp 64)]) (cs := #[sv (ovk a b k).1, sv (ovk a b k).2.1, sv (ovk a b k).2.2]) rfl (by kernel_rfl)) trivial rfl ?_
     refine HeldK.one 22 (fuel := 1) (listed' := (lb 24 8388607)) krf rfl krf ?_
     refine AK.alloc el45 rfl rfl trivial rfl (fun bx9 => ?_)
     refine .nil ?_
     try (conv => enter [2, 2]; dsimp only [List.set_cons_zero, List.set_cons_succ, List.cons_append, List.nil_append])
     refine HeldK.back Go.Sx.hle ?_
     refine HeldK.one 23 (fuel := 0) (listed' := (lb 24 16777215)) krf rfl krf ?_
     refine AK.storeBox 3 (us := ccs (ovk a b k)) (cs' := ccs (ovk a b k)) rfl sz45 rfl rfl rfl rfl (ccs_one _) (Nat.le_of_ble_eq_true rfl) rfl trivial ?_
     refine .nil ?_
     try (conv => enter [2, 2]; dsimp only [List.set_cons_zero, List.set_cons_succ, List.cons_append, List.nil_append])
     refine HeldK.backN 24 krf rfl krf ?_
     refine .nil ?_
     refine AK.fromQn ?_
     refine AK.then_ (hK11 _ ?_)
     refine .seq fun _ hK12 => ?_
     refine AK.regionI ?_
     refine AK.valI _ (Yl.move rfl) trivial rfl ?_
     refine AK.valI _ (Yl.loadBoxG ag45 rfl bsp rfl rfl) trivial rfl ?_
     refine AK.yieldI 0 (ovk a b k) hY (by rw [List.append_assoc]; exact hTq _ (ov_pre hkm hPk)) rfl rfl rfl trivial rfl ?_ ?_
     ·refine AK.valI _ (Yl.not rfl) trivial rfl ?_
      refine AK.nilI ?_
      refine AK.then_ (hK12 _ ?_)
      refine AK.cond_f rfl (rfl) ?_
      refine .skip (.block_normal ?_)
      refine AK.then_ (hK7 _ ?_)
      refine AK.region ?_
      refine .mv rfl ?_
      refine .v (.add rfl rfl (by omega)) ?_
      refine .as rfl (.nil ?_)
      first | refine AK.then_ (hK4 _ _ (k + 1) ⟨by omega, .inl (by omega)⟩ (by omega) (slr) (fun w hw => by rw [up_yes hPk, ← List.append_assoc]; exact hw.pick [0, 1, 2] (by decide) rfl rfl)) | refine AK.then_ (hK4 _ _ (k + 1) ⟨by omega, .inl (by omega)⟩ (by omega) (slr) (fun w hw => by rw [up_no (show ovP a b k = false by rw [ovP_has hg0.1 hkm]; simpa using hc1)]; exact hw.pick [0, 1, 2] (by decide) rfl rfl)) | refine AK.then_ (hK4 _ _ (k + 1) ⟨by omega, .inl (by omega)⟩ (by omega) (slr) (fun w hw => by rw [up_no (ovP_diff hg0.1 hkm (fun e => hg_5_8' (by rw [e]; rfl)))]; exact hw.pick [0, 1, 2] (by decide) rfl rfl))
     ·refine AK.valI _ (Yl.not rfl) trivial rfl ?_
      refine AK.nilI ?_
      refine AK.then_ (hK12 _ ?_)
      refine AK.cond_t rfl (rfl) ?_
      refine .sr fun _ hK13 => ?_
      refine .as rfl (.nt hK13 (.ret (.block_ret (.then_ret (.then_ret (.block_ret (.then_ret ?_)))))))
      refine AK.ret1 rfl rfl (fun w hw => ⟨_, _, _, ?_, rfl, Ret.of (hw.pick [0] (by decide) rfl rfl)⟩)
      exact ⟨false, rfl, rfl, .inr ⟨rfl, _, ov_pre hkm hPk, by simp, by rw [← List.append_assoc]⟩⟩
  ·refine .exit (.then_exit (.then_exit (.block_exit ?_)))
   refine AK.then_ (hK2 _ ?_)
   refine .sr fun _ hK14 => ?_
   refine .as rfl (.nt hK14 (.ret ?_))
   refine AK.ret1 rfl rfl (fun w hw => ⟨_, _, _, ?_, rfl, Ret.of (hw.pick [0] (by decide) rfl rfl)⟩)
   exact ⟨true, rfl, rfl, .inl ⟨rfl, by rw [← ovl_end hg0.1 hg0.2 (by omega)]⟩⟩

set_option maxHeartbeats 1600000 in
set_option maxRecDepth 100000 in
theorem s_contained (w : World) (F : Nat → Prop) (a b : Rul) (ha : a.1.length ≤ 2048 ∧ a.2.length ≤ 2048) (hb : b.1.length ≤ 2048 ∧ b.2.length ≤ 2048) (hb0 : b.1 ≠ []) (l : Nat) (T : List Crit → Prop) (J Jx : List Crit → Asn) (pre : List Crit) (hY : YC Try.prog l cv T J Jx w F) (hX : MxA w) (hX0 : ¬ F 0) (hTq : ∀ q, q <+: cnl a b → T (pre ++ q)) (hA : (J pre).holds w F) : CallM Try.prog 64 [.agg #[sv a.1, sv a.2], .agg #[sv b.1, sv b.2], .func (.yield l) #[] #[]] w F (fun r A o => ∃ ok : Bool, r = .bool ok ∧ o = [] ∧ ((ok = true ∧ A = J (pre ++ cnl a b)) ∨ (ok = false ∧ ∃ q, q <+: cnl a b ∧ q ≠ [] ∧ A = Jx (pre ++ q)))) := by
 have hbp := List.length_pos_iff.2 hb0
 refine specM_of Try.func64 rfl (Nat.le_of_ble_eq_true rfl) hA ?_
 refine .sr fun _ hK1 => ?_
 refine AK.box_ (E := 41) (cs := rcs a) rfl rfl rfl trivial rfl (fun bx3 => ?_)
 refine AK.box_ (E := 41) (cs := rcs b) rfl rfl rfl trivial rfl (fun bx4 => ?_)
 refine .as rfl (.nt hK1 ?_)
 refine .sr fun _ hK2 => ?_
 refine .as rfl (.nt hK2 (.block ?_))
 refine AK.loopK (X := Nat) [(2, _), (3, _), (4, _)] (fun p => [(7, .int .i64 (p : Int))]) (fun p => [J (pre ++ (up (cnP a b) (cnk a b) p)), box bx3 41 2 (rcs a), box bx4 41 2 (rcs b)]) (fun p => p ≤ a.1.length) (fun p => a.1.length - p) (0) slr ?_ ?_ ?_ ?_
 ·exact Nat.zero_le _
 ·exact slr
 ·exact fun w hw => by rw [show up (cnP a b) (cnk a b) 0 = [] from rfl, List.append_nil]; exact hw
 ·intro p hg0 _ hK3
  refine .seq fun _ hK4 => ?_
  refine .block ?_
  refine .seq fun _ hK5 => ?_
  refine AK.quiet mixed krf ?_
  refine .v (.fieldAddr fd41_0 rfl) ?_
  refine .v (.loadBox on9 rfl bsp rfl) ?_
  refine .mv rfl ?_
  refine .v (.valE (Yl.subFr un9 rfl rfl (by omega)) (show _ = sv (a.1.drop p) from congrArg sv (by rw [Int.toNat_natCast]))) ?_
  refine .v (.fieldAddr fd41_0 rfl) ?_
  refine .v (.loadBox on9 rfl bsp rfl) ?_
  refine QK.call (.int .i64 (Lib.index (a.1.drop p) b.1)) co56 rfl (fun w hw => calls_index (a.1.drop p) b.1 (by rw [List.length_drop]; omega) (hX.off hX0 hw)) (fun v o h => h.1) trivial rfl ?_
  refine .as rfl ?_
  refine QK.nil (QK.fin ?_)
  refine AK.then_ (hK5 _ ?_)
  refine .seq fun _ hK6 => ?_
  refine .sr fun _ hK7 => ?_
  refine .mv rfl ?_
  refine .v (.lss rfl rfl) ?_
  refine .nt hK7 ?_
  refine AK.condD rfl (fun hc0 => ?_) (fun hc0 => ?_)
  ·have hend : (up (cnP a b) (cnk a b) p) = cnl a b := by
    rcases cn_index hg0 hb0 with ⟨_, h⟩ | ⟨m, h, _⟩
    ·exact h
    ·omega
   refine .sr fun _ hK8 => ?_
   refine .as rfl (.nt hK8 (.ret (.then_ret (.block_ret (.then_ret (.then_ret (.block_ret ?_)))))))
   refine AK.ret1 rfl rfl (fun w hw => ⟨_, _, _, ?_, rfl, Ret.of (hw.pick [0] (by decide) rfl rfl)⟩)
   exact ⟨true, rfl, rfl, .inl ⟨rfl, by rw [← hend]⟩⟩
  ·obtain ⟨m, hm1, hm2, hm3, hm4⟩ : ∃ m : Nat, Lib.index (a.1.drop p) b.1 = (m : Int) ∧ p + m + b.1.length ≤ a.1.length ∧ cnP a b (p + m) = true ∧ (up (cnP a b) (cnk a b) (p + m)) = (up (cnP a b) (cnk a b) p) := by
    rcases cn_index hg0 hb0 with ⟨h, _⟩ | h
    ·omega
    ·exact h
   refine .skip ?_
   refine AK.then_ (hK6 _ ?_)
   refine .sr fun _ hK9 => ?_
   refine .mv rfl (.mv rfl ?_)
   refine AK.val (.int .i64 ((p + m : Nat) : Int)) (Yl.valE (Yl.add rfl rfl (by omega)) (congrArg (Value.int .i64) (by omega))) trivial rfl ?_
   refine .as rfl (.nt hK9 ?_)
   refine .seq fun _ hK10 => ?_
   try (conv => enter [2, 2]; dsimp only [List.set_cons_zero, List.set_cons_succ, List.cons_append, List.nil_append])
   refine AK.held 22 mixed ?_
   refine HeldK.first 0 (fuel := 22) (listed' := (lb 23 1)) _ rfl krf krf rfl (Yl.fieldAddr fd41_0 rfl) trivial rfl ?_
   refine HeldK.first 1 (fuel := 21) (listed' := (lb 23 3)) _ rfl krf krf rfl (Yl.loadBox on9 rfl bsp rfl) trivial rfl ?_
   refine HeldK.first 2 (fuel := 20) (listed' := (lb 23 7)) _ rfl krf krf rfl (Yl.fieldAddr fd41_1 rfl) trivial rfl ?_
   refine HeldK.first 3 (fuel := 19) (listed' := (lb 23 15)) _ rfl krf krf rfl (Yl.loadBox on9 rfl bsp rfl) trivial rfl ?_
   refine HeldK.first 4 (fuel := 18) (listed' := (lb 23 31)) _ rfl krf krf rfl (Yl.fieldAddr fd41_0 rfl) trivial rfl ?_
   refine HeldK.first 5 (fuel := 17) (listed' := (lb 23 63)) _ rfl krf krf rfl (Yl.loadBox on9 rfl bsp rfl) trivial rfl ?_
   refine HeldK.first 6 (fuel := 16) (listed' := (lb 23 127)) _ rfl krf krf rfl (Yl.move rfl) trivial rfl ?_
   refine HeldK.first 7 (fuel := 15) (listed' := (lb 23 255)) _ rfl krf krf rfl (Yl.valE (Yl.subTo un9 rfl rfl (by omega)) (show _ = sv (a.1.take (p + m)) from congrArg sv (by rw [Int.toNat_natCast]))) trivial rfl ?_
   refine HeldK.first 8 (fuel := 14) (listed' := (lb 23 511)) _ rfl krf krf rfl (Yl.fieldAddr fd41_1 rfl) trivial rfl ?_
   refine HeldK.first 9 (fuel := 13) (listed' := (lb 23 1023)) _ rfl krf krf rfl (Yl.loadBox on9 rfl bsp rfl) trivial rfl ?_
   refine HeldK.first 10 (fuel := 12) (listed' := (lb 23 2047)) _ rfl krf krf rfl (Yl.concat rfl rfl (by simp only [List.length_append, List.length_take, List.length_drop]; omega)) trivial rfl ?_
   refine HeldK.first 11 (fuel := 11) (listed' := (lb 23 4095)) _ rfl krf krf rfl (Yl.fieldAddr fd41_0 rfl) trivial rfl ?_
   refine HeldK.first 12 (fuel := 10) (listed' := (lb 23 8191)) _ rfl krf krf rfl (Yl.loadBox on9 rfl bsp rfl) trivial rfl ?_
   refine HeldK.first 13 (fuel := 9) (listed' := (lb 23 16383)) _ rfl krf krf rfl (Yl.move rfl) trivial rfl ?_
   refine HeldK.first 14 (fuel := 8) (listed' := (lb 23 32767)) _ rfl krf krf rfl (Yl.fieldAddr fd41_0 rfl) trivial rfl ?_
   refine HeldK.first 15 (fuel := 7) (listed' := (lb 23 65535)) _ rfl krf krf rfl (Yl.loadBox on9 rfl bsp rfl) trivial rfl ?_
   refine HeldK.first 16 (fuel := 6) (listed' := (lb 23 131071)) _ rfl krf krf rfl (Yl.lenS un9 rfl) trivial rfl ?_
   refine HeldK.first 17 (fuel := 5) (listed' := (lb 23 262143)) _ rfl krf krf rfl (Yl.add rfl rfl (by omega)) trivial rfl ?_
   refine HeldK.first 18 (fuel := 4) (listed' := (lb 23 524287)) _ rfl krf krf rfl (Yl.valE (Yl.subFr un9 rfl rfl (by omega)) (show _ = sv (a.1.drop (p + m + b.1.length)) from congrArg sv (by congr 1))) trivial rfl ?_
   refine HeldK.first 19 (fuel := 3) (listed' := (lb 23 1048575)) _ rfl krf krf rfl (Yl.concat rfl rfl (by simp only [List.length_append, List.length_take, List.length_drop]; omega)) trivial rfl ?_
   refine HeldK.first 20 (fuel := 2) (listed' := (lb 23 2097151)) _ rfl krf krf rfl (Yl.build (parts := [(0, .tmp 25), (1, .tmp 27), (2, .tmp 43)]) (cs := #[sv (cnk a b (p + m)).1, sv (cnk a b (p + m)).2.1, sv (cnk a b (p + m)).2.2]) rfl (by kernel_rfl)) trivial rfl ?_
   refine HeldK.one 21 (fuel := 1) (listed' := (lb 23 4194303)) krf rfl krf ?_
   refine AK.alloc el45 rfl rfl trivial rfl (fun bx9 => ?_)
   refine .nil ?_
   try (conv => enter [2, 2]; dsimp only [List.set_cons_zero, List.set_cons_succ, List.cons_append, List.nil_append])
   refine HeldK.back Go.Sx.hle ?_
   refine HeldK.one 22 (fuel := 0) (listed' := (lb 23 8388607)) krf rfl krf ?_
   refine AK.storeBox 3 (us := ccs (cnk a b (p + m))) (cs' := ccs (cnk a b (p + m))) rfl sz45 rfl rfl rfl rfl (ccs_one _) (Nat.le_of_ble_eq_true rfl) rfl trivial ?_
   refine .nil ?_
   try (conv => enter [2, 2]; dsimp only [List.set_cons_zero, List.set_cons_succ, List.cons_append, List.nil_append])
   refine HeldK.backN 23 krf rfl krf ?_
   refine .nil ?_
   refine AK.fromQn ?_
   refine AK.then_ (hK10 _ ?_)
   refine .seq fun _ hK11 => ?_
   refine AK.regionI ?_
   refine AK.valI _ (Yl.move rfl) trivial rfl ?_
   refine AK.valI _ (Yl.loadBoxG ag45 rfl bsp rfl rfl) trivial rfl ?_
   refine AK.yieldI 0 (cnk a b (p + m)) hY (by rw [List.append_assoc]; exact hTq _ (by rw [← hm4]; exact cn_pre (by omega) hm3)) rfl rfl rfl trivial rfl ?_ ?_
   ·refine AK.valI _ (Yl.not rfl) trivial rfl ?_
    refine AK.nilI ?_
    refine AK.then_ (hK11 _ ?_)
    refine AK.cond_f rfl (rfl) ?_
    refine .skip (.block_normal ?_)
    refine AK.then_ (hK4 _ ?_)
    refine AK.region ?_
    refine .mv rfl ?_
    refine .v (.add rfl rfl (by omega)) ?_
    refine .as rfl (.nil ?_)
    refine AK.then_ (hK3 _ _ (p + m + 1) (by omega) (by omega) (slr) (fun w hw => by rw [up_yes hm3, hm4, ← List.append_assoc]; exact hw.pick [0, 1, 2] (by decide) rfl rfl))
   ·refine AK.valI _ (Yl.not rfl) trivial rfl ?_
    refine AK.nilI ?_
    refine AK.then_ (hK11 _ ?_)
    refine AK.cond_t rfl (rfl) ?_
    refine .sr fun _ hK12 => ?_
    refine .as rfl (.nt hK12 (.ret (.block_ret (.then_ret (.then_ret (.block_ret ?_))))))
    refine AK.ret1 rfl rfl (fun w hw => ⟨_, _, _, ?_, rfl, Ret.of (hw.pick [0] (by decide) rfl rfl)⟩)
    exact ⟨false, rfl, rfl, .inr ⟨rfl, _, cn_pre (by omega) hm3, by simp, by rw [hm4, ← List.append_assoc]⟩⟩

end Go.Proofs.Ytaeojcaidcjnaaa
