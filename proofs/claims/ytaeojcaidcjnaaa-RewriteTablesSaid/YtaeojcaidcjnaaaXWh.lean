import Derived.Test.YtaeojcaidcjnaaaXWg
import Derived.Test.YtaeojcaidcjnaaaXRR
set_option linter.unusedVariables false
set_option linter.unusedSimpArgs false
namespace Go.Proofs.Ytaeojcaidcjnaaa
open Go.Sx Go.RowKit
set_option maxHeartbeats 4000000 in
set_option maxRecDepth 100000 in
theorem s_refpairs (w : World) (v : Value) (rs : List Rul) (h : RdR (fun _ => False) w v rs) (L : Int) (hV : VR L rs) : CallS Try.prog 27 [v] w (fun r o => IsSl r ∧ o = [row r 45 3 (crA rs).length (crc (crA rs))]) := by
 have h0 := h
 have hb := h.len
 have sv0 := Rd.sl h
 unfold RdR at h
 have hrn := hV.n
 have hll : ∀ k, k < rs.length → (rs.getD k ([], [])).1.length ≤ 2048 ∧ (rs.getD k ([], [])).2.length ≤ 2048 := fun k hk => by have h := hV.v _ (getD_mem (d := ([], [])) hk); exact ⟨(validW_al h.1).1, (validW_al h.2.1).1⟩
 refine spec_of Try.func27 rfl (Nat.le_of_ble_eq_true rfl) ?_
 refine .sr fun _ hK1 => ?_
 refine .as rfl (.nt hK1 ?_)
 refine .sr fun _ hK2 => ?_
 refine .as rfl (.nt hK2 ?_)
 refine .seq fun _ hK3 => ?_
 refine .sr fun _ hK4 => ?_
 refine .mv rfl ?_
 refine .v (.lenR sl22 rfl rdp) ?_
 refine .mv rfl (.nt hK4 (.block ?_))
 refine AK.loopK (X := Nat × Value) [(0, _), (11, _), (12, _)] (fun x => [(3, x.2), (13, .int .i64 (x.1 : Int))]) (fun x => [row x.2 45 3 (crI rs x.1).length (crc (crI rs x.1))]) (fun x => x.1 ≤ rs.length ∧ IsSl x.2) (fun x => rs.length - x.1) ((0, .slice none 0 0)) slr ?_ ?_ ?_ ?_
 ·exact ⟨Nat.zero_le _, nilSl⟩
 ·exact slr
 ·exact fun w hw => by exact hw.ghost 45 3
 ·intro x hg0 _ hK5
  refine .sr fun _ hK6 => ?_
  refine .v (.lss rfl rfl) ?_
  refine .nt hK6 ?_
  refine .seq fun _ hK7 => ?_
  refine AK.condD rfl (fun hc0 => ?_) (fun hc0 => ?_)
  ·have hli := hll x.1 (by omega)
   refine .skip ?_
   refine AK.then_ (hK7 _ ?_)
   refine .seq fun _ hK8 => ?_
   refine .block ?_
   refine .sr fun _ hK9 => ?_
   refine .mv rfl ?_
   first | refine .v (.iN sl22 rfl rfl) ?_ | refine .v (.iK sl22 rfl rfl) ?_
   refine .v (.loadRu ag41 rfl rdp (by omega)) ?_
   refine AK.alloc el41 rfl rfl trivial rfl (fun bx5 => ?_)
   refine .as rfl ?_
   refine AK.storeBox 1 (us := rcs (rs.getD x.1 ([], []))) (cs' := rcs (rs.getD x.1 ([], []))) rfl sz41 rfl rfl rfl rfl oneP (Nat.le_of_ble_eq_true rfl) rfl trivial ?_
   refine .nt hK9 ?_
   refine .sr fun _ hK10 => ?_
   refine .mv rfl ?_
   refine .v (.lenR sl22 rfl rdp) ?_
   refine .mv rfl (.nt hK10 (.block ?_))
   refine AK.loopK (X := Nat × Value) [(0, _), (4, _), (5, _), (11, _), (12, _), (13, _), (18, _), (19, _)] (fun y => [(3, y.2), (20, .int .i64 (y.1 : Int))]) (fun y => [row y.2 45 3 (crI rs x.1 ++ crJ rs x.1 y.1).length (crc (crI rs x.1 ++ crJ rs x.1 y.1)), box bx5 41 2 (rcs (rs.getD x.1 ([], [])))]) (fun y => y.1 ≤ rs.length ∧ IsSl y.2) (fun y => rs.length - y.1) ((0, x.2)) slr ?_ ?_ ?_ ?_
   ·exact ⟨Nat.zero_le _, hg0.2⟩
   ·exact slr
   ·exact fun w hw => by dsimp only; rw [show crJ rs x.1 0 = [] from rfl, List.append_nil]; exact hw
   ·intro y hg1 _ hK11
    refine .sr fun _ hK12 => ?_
    refine .v (.lss rfl rfl) ?_
    refine .nt hK12 ?_
    refine .seq fun _ hK13 => ?_
    refine AK.condD rfl (fun hc1 => ?_) (fun hc1 => ?_)
    ·have hlj := hll y.1 (by omega)
     refine .skip ?_
     refine AK.then_ (hK13 _ ?_)
     refine .seq fun _ hK14 => ?_
     refine .block ?_
     refine .sr fun _ hK15 => ?_
     refine .mv rfl ?_
     first | refine .v (.iN sl22 rfl rfl) ?_ | refine .v (.iK sl22 rfl rfl) ?_
     refine .v (.loadRu ag41 rfl rdp (by omega)) ?_
     refine AK.alloc el41 rfl rfl trivial rfl (fun bx7 => ?_)
     refine .as rfl ?_
     refine AK.storeBox 2 (us := rcs (rs.getD y.1 ([], []))) (cs' := rcs (rs.getD y.1 ([], []))) rfl sz41 rfl rfl rfl rfl oneP (Nat.le_of_ble_eq_true rfl) rfl trivial ?_
     refine .nt hK15 ?_
     refine .seq fun _ hK16 => ?_
     refine .sr fun _ hK17 => ?_
     refine .as rfl (.nt hK17 (.block ?_))
     refine AK.loopK (X := Nat × Value) [(0, _), (4, _), (5, _), (6, _), (7, _), (11, _), (12, _), (13, _), (18, _), (19, _), (20, _)] (fun z => [(3, z.2), (8, .int .i64 (z.1 : Int))]) (fun z => [row z.2 45 3 (rp2 rs x.1 y.1 z.1).length (crc (rp2 rs x.1 y.1 z.1)), box bx5 41 2 (rcs (rs.getD x.1 ([], []))), box bx7 41 2 (rcs (rs.getD y.1 ([], [])))]) (fun z => 1 ≤ z.1 ∧ (z.1 ≤ min (rs.getD x.1 ([], [])).1.length (rs.getD y.1 ([], [])).1.length ∨ z.1 = 1) ∧ IsSl z.2) (fun z => 2049 - z.1) ((1, y.2)) slr ?_ ?_ ?_ ?_
     ·exact ⟨Nat.le_refl _, .inr rfl, hg1.2⟩
     ·exact slr
     ·exact fun w hw => by dsimp only; rw [rp2_one]; exact hw
     ·intro z hg2 _ hK18
      refine .seq fun _ hK19 => ?_
      refine .sr fun _ hK20 => ?_
      refine .mv rfl ?_
      refine .v (.fieldAddr fd41_0 rfl) ?_
      refine .v (.loadBox on9 rfl bsp rfl) ?_
      refine .v (.lenS un9 rfl) ?_
      refine .v (.lss rfl rfl) ?_
      refine .mv rfl ?_
      refine AK.splitB (g := 30) rfl (fun hg_9_5 => ?_) (fun hg_9_5 => ?_)
      ·have hg_9_5' := hg_9_5
       try simp only [bs] at hg_9_5'
       refine AK.val _ (Yl.move rfl) ⟨_, rfl, congrArg (fun b => some (Value.bool b)) hg_9_5⟩ rfl ?_
       refine AK.val _ (Yl.fieldAddr fd41_0 rfl) ⟨_, rfl, congrArg (fun b => some (Value.bool b)) hg_9_5⟩ rfl ?_
       refine AK.val _ (Yl.loadBox on9 rfl bsp rfl) ⟨_, rfl, congrArg (fun b => some (Value.bool b)) hg_9_5⟩ rfl ?_
       refine AK.val _ (Yl.lenS un9 rfl) ⟨_, rfl, congrArg (fun b => some (Value.bool b)) hg_9_5⟩ rfl ?_
       refine AK.val _ (Yl.lss rfl rfl) ⟨_, rfl, congrArg (fun b => some (Value.bool b)) hg_9_5⟩ rfl ?_
       refine .v (.pickT rfl (hg_9_5) rfl) ?_
       refine .nt hK20 ?_
       refine AK.condD rfl (fun hc2 => ?_) (fun hc2 => ?_)
       ·have hzm : z.1 < min (rs.getD x.1 ([], [])).1.length (rs.getD y.1 ([], [])).1.length := (by omega)
        have hzl := crA_len hV (rp2_pre (rs := rs) (i := x.1) (j := y.1) (by omega) (by omega) hg2.1 hg2.2.1)
        refine .skip ?_
        refine AK.then_ (hK19 _ ?_)
        refine .seq fun _ hK21 => ?_
        refine .block ?_
        refine .sr fun _ hK22 => ?_
        refine .v (.fieldAddr fd41_0 rfl) ?_
        refine .v (.loadBox on9 rfl bsp rfl) ?_
        refine .v (.fieldAddr fd41_0 rfl) ?_
        refine .v (.loadBox on9 rfl bsp rfl) ?_
        refine .v (.lenS un9 rfl) ?_
        refine .mv rfl ?_
        refine .v (.subE ((((rs.getD x.1 ([], [])).1.length - z.1 : Nat) : Int)) rfl rfl (by omega) (by omega)) ?_
        refine .v (.valE (Yl.subTo un9 rfl rfl (by omega)) (show _ = sv ((rs.getD x.1 ([], [])).1.take ((rs.getD x.1 ([], [])).1.length - z.1)) from congrArg sv (by rw [Int.toNat_natCast]))) ?_
        refine .as rfl (.nt hK22 ?_)
        refine .seq fun _ hK23 => ?_
        refine AK.quiet mixed krf ?_
        refine .v (.fieldAddr fd41_0 rfl) ?_
        refine .v (.loadBox on9 rfl bsp rfl) ?_
        refine .mv rfl ?_
        refine .v (.lenS un9 rfl) ?_
        refine .v (.valE (Yl.subFr un9 rfl rfl (by rw [List.length_take]; omega)) (show _ = sv ((rs.getD x.1 ([], [])).1.drop ((rs.getD x.1 ([], [])).1.length - z.1)) from congrArg sv (by rw [Int.toNat_natCast, List.length_take]; congr 1; omega))) ?_
        refine .v (.fieldAddr fd41_0 rfl) ?_
        refine .v (.loadBox on9 rfl bsp rfl) ?_
        refine .mv rfl ?_
        refine .v (.valE (Yl.subTo un9 rfl rfl (by omega)) (show _ = sv ((rs.getD y.1 ([], [])).1.take z.1) from congrArg sv (by rw [Int.toNat_natCast]))) ?_
        refine .v (.eqlS un9 rfl rfl) ?_
        refine QK.nil (QK.fin ?_)
        refine AK.then_ (hK23 _ ?_)
        refine AK.condD rfl (fun hc3 => ?_) (fun hc3 => ?_)
        ·refine AK.joinK (X := Value) [(0, _), (4, _), (5, _), (6, _), (7, _), (8, _), (11, _), (12, _), (13, _), (18, _), (19, _), (20, _)] (fun q => [(3, q)]) (fun q => [row q 45 3 ((rp2 rs x.1 y.1 z.1).length + 1) (crc (rp2 rs x.1 y.1 z.1) ++ ccs (ovk (rs.getD x.1 ([], [])) (rs.getD y.1 ([], [])) z.1)), box bx5 41 2 (rcs (rs.getD x.1 ([], []))), box bx7 41 2 (rcs (rs.getD y.1 ([], [])))]) (fun q => IsSl q) slr (fun _ hJ => ?_) (fun q hg => ?_)
         ·try (conv => enter [2, 2]; dsimp only [List.set_cons_zero, List.set_cons_succ, List.cons_append, List.nil_append])
          refine AK.held 23 mixed ?_
          refine HeldK.first 0 (fuel := 22) (listed' := (lb 23 1)) _ rfl krf krf rfl (Yl.move rfl) trivial rfl ?_
          refine HeldK.first 1 (fuel := 21) (listed' := (lb 23 3)) _ rfl krf krf rfl (Yl.fieldAddr fd41_0 rfl) trivial rfl ?_
          refine HeldK.first 2 (fuel := 20) (listed' := (lb 23 7)) _ rfl krf krf rfl (Yl.loadBox on9 rfl bsp rfl) trivial rfl ?_
          refine HeldK.first 3 (fuel := 19) (listed' := (lb 23 15)) _ rfl krf krf rfl (Yl.fieldAddr fd41_0 rfl) trivial rfl ?_
          refine HeldK.first 4 (fuel := 18) (listed' := (lb 23 31)) _ rfl krf krf rfl (Yl.loadBox on9 rfl bsp rfl) trivial rfl ?_
          refine HeldK.first 5 (fuel := 17) (listed' := (lb 23 63)) _ rfl krf krf rfl (Yl.move rfl) trivial rfl ?_
          refine HeldK.first 6 (fuel := 16) (listed' := (lb 23 127)) _ rfl krf krf rfl (Yl.valE (Yl.subFr un9 rfl rfl (by omega)) (show _ = sv ((rs.getD y.1 ([], [])).1.drop z.1) from congrArg sv (by rw [Int.toNat_natCast]))) trivial rfl ?_
          refine HeldK.first 7 (fuel := 15) (listed' := (lb 23 255)) _ rfl krf krf rfl (Yl.concat rfl rfl (by simp only [List.length_append, List.length_take, List.length_drop]; omega)) trivial rfl ?_
          refine HeldK.first 8 (fuel := 14) (listed' := (lb 23 511)) _ rfl krf krf rfl (Yl.fieldAddr fd41_1 rfl) trivial rfl ?_
          refine HeldK.first 9 (fuel := 13) (listed' := (lb 23 1023)) _ rfl krf krf rfl (Yl.loadBox on9 rfl bsp rfl) trivial rfl ?_
          refine HeldK.first 10 (fuel := 12) (listed' := (lb 23 2047)) _ rfl krf krf rfl (Yl.fieldAddr fd41_0 rfl) trivial rfl ?_
          refine HeldK.first 11 (fuel := 11) (listed' := (lb 23 4095)) _ rfl krf krf rfl (Yl.loadBox on9 rfl bsp rfl) trivial rfl ?_
          refine HeldK.first 12 (fuel := 10) (listed' := (lb 23 8191)) _ rfl krf krf rfl (Yl.move rfl) trivial rfl ?_
          refine HeldK.first 13 (fuel := 9) (listed' := (lb 23 16383)) _ rfl krf krf rfl (Yl.valE (Yl.subFr un9 rfl rfl (by omega)) (show _ = sv ((rs.getD y.1 ([], [])).1.drop z.1) from congrArg sv (by rw [Int.toNat_natCast]))) trivial rfl ?_
          refine HeldK.first 14 (fuel := 8) (listed' := (lb 23 32767)) _ rfl krf krf rfl (Yl.concat rfl rfl (by simp only [List.length_append, List.length_take, List.length_drop]; omega)) trivial rfl ?_
          refine HeldK.first 15 (fuel := 7) (listed' := (lb 23 65535)) _ rfl krf krf rfl (Yl.move rfl) trivial rfl ?_
          refine HeldK.first 16 (fuel := 6) (listed' := (lb 23 131071)) _ rfl krf krf rfl (Yl.fieldAddr fd41_1 rfl) trivial rfl ?_
          refine HeldK.first 17 (fuel := 5) (listed' := (lb 23 262143)) _ rfl krf krf rfl (Yl.loadBox on9 rfl bsp rfl) trivial rfl ?_
          refine HeldK.first 18 (fuel := 4) (listed' := (lb 23 524287)) _ rfl krf krf rfl (Yl.concat rfl rfl (by simp only [List.length_append, List.length_take, List.length_drop]; omega)) trivial rfl ?_
          refine HeldK.first 19 (fuel := 3) (listed' := (lb 23 1048575)) _ rfl krf krf rfl (Yl.build (parts := [(0, .tmp 64), (1, .tmp 71), (2, .tmp 75)]) (cs := #[sv (ovk (rs.getD x.1 ([], [])) (rs.getD y.1 ([], [])) z.1).1, sv (ovk (rs.getD x.1 ([], [])) (rs.getD y.1 ([], [])) z.1).2.1, sv (ovk (rs.getD x.1 ([], [])) (rs.getD y.1 ([], [])) z.1).2.2]) rfl (by kernel_rfl)) trivial rfl ?_
          refine HeldK.one 20 (fuel := 2) (listed' := (lb 23 2097151)) krf rfl krf ?_
          refine AK.lit (xs := [.tmp 76]) sl42 el45 rfl rfl rfl (by intro a ha; simp at ha; subst ha; rfl) (by decide) (by decide) trivial rfl (fun lt => ?_)
          refine .nil ?_
          try (conv => enter [2, 2]; dsimp only [List.set_cons_zero, List.set_cons_succ, List.cons_append, List.nil_append])
          refine HeldK.back Go.Sx.hle ?_
          refine HeldK.one 21 (fuel := 1) (listed' := (lb 23 4194303)) krf rfl krf ?_
          refine AK.appendH 0 rfl sl42 el45 rfl (by decide) rfl rfl rfl rdp (ccs_one (ovk (rs.getD x.1 ([], [])) (rs.getD y.1 ([], [])) z.1)) (by omega) (by omega) trivial rfl (fun va ha => ?_)
          refine .nil ?_
          try (conv => enter [2, 2]; dsimp only [List.set_cons_zero, List.set_cons_succ, List.cons_append, List.nil_append])
          refine HeldK.back Go.Sx.hle ?_
          refine HeldK.first 22 (fuel := 0) (listed' := (lb 23 8388607)) _ rfl krf krf rfl (Yl.assign rfl) trivial rfl ?_
          refine HeldK.done krf ?_
          exact hJ _ _ (va) ha (slr) (fun w hw => by first | exact hw.pickLe [0, 1, 2] (by decide) pkl)
         ·skip
          refine .block_normal ?_
          refine AK.then_ (hK21 _ ?_)
          refine AK.region ?_
          refine .mv rfl ?_
          refine .v (.add rfl rfl (by omega)) ?_
          refine .as rfl (.nil ?_)
          first | refine AK.then_ (hK18 _ _ ((z.1 + 1, q)) ⟨by dsimp only; omega, .inl (by dsimp only; omega), hg⟩ (by dsimp only; omega) (slr) (fun w hw => by dsimp only; rw [rp2_yes hg2.1 hc3, crc_snoc, List.length_append]; exact hw)) | refine AK.then_ (hK18 _ _ ((z.1 + 1, z.2)) ⟨by dsimp only; omega, .inl (by dsimp only; omega), hg2.2.2⟩ (by dsimp only; omega) (slr) (fun w hw => by dsimp only; rw [rp2_no hc3]; exact hw))
        ·refine .skip (.block_normal ?_)
         refine AK.then_ (hK21 _ ?_)
         refine AK.region ?_
         refine .mv rfl ?_
         refine .v (.add rfl rfl (by omega)) ?_
         refine .as rfl (.nil ?_)
         first | refine AK.then_ (hK18 _ _ ((z.1 + 1, q)) ⟨by dsimp only; omega, .inl (by dsimp only; omega), hg⟩ (by dsimp only; omega) (slr) (fun w hw => by dsimp only; rw [rp2_yes hg2.1 hc3, crc_snoc, List.length_append]; exact hw)) | refine AK.then_ (hK18 _ _ ((z.1 + 1, z.2)) ⟨by dsimp only; omega, .inl (by dsimp only; omega), hg2.2.2⟩ (by dsimp only; omega) (slr) (fun w hw => by dsimp only; rw [rp2_no hc3]; exact hw))
       ·refine .exit (.then_exit (.then_exit (.block_exit ?_)))
        refine AK.then_ (hK16 _ ?_)
        refine .sr fun _ hK24 => ?_
        refine .as rfl (.nt hK24 (.block ?_))
        refine AK.loopK (X := Nat × Value) [(0, _), (4, _), (5, _), (6, _), (7, _), (11, _), (12, _), (13, _), (18, _), (19, _), (20, _)] (fun u => [(3, u.2), (10, .int .i64 (u.1 : Int))]) (fun u => [row u.2 45 3 (rp3 rs x.1 y.1 u.1).length (crc (rp3 rs x.1 y.1 u.1)), box bx5 41 2 (rcs (rs.getD x.1 ([], []))), box bx7 41 2 (rcs (rs.getD y.1 ([], [])))]) (fun u => u.1 ≤ (rs.getD x.1 ([], [])).1.length + 1 ∧ (x.1 = y.1 → u.1 = 0) ∧ IsSl u.2) (fun u => 2050 - u.1) ((0, z.2)) slr ?_ ?_ ?_ ?_
        ·exact ⟨Nat.zero_le _, fun _ => rfl, hg2.2.2⟩
        ·exact slr
        ·exact fun w hw => by dsimp only; rw [← rp2_end hg2.1 hg2.2.1 (by omega)]; exact hw
        ·intro u hg3 _ hK25
         refine .seq fun _ hK26 => ?_
         refine .sr fun _ hK27 => ?_
         refine .mv rfl ?_
         refine .v (.fieldAddr fd41_0 rfl) ?_
         refine .v (.loadBox on9 rfl bsp rfl) ?_
         refine .v (.lenS un9 rfl) ?_
         refine .v (.add rfl rfl (by omega)) ?_
         refine .v (.fieldAddr fd41_0 rfl) ?_
         refine .v (.loadBox on9 rfl bsp rfl) ?_
         refine .v (.lenS un9 rfl) ?_
         refine .v (.leq rfl rfl) ?_
         refine .mv rfl ?_
         refine AK.splitB (g := 88) rfl (fun hg_15_9 => ?_) (fun hg_15_9 => ?_)
         ·have hg_15_9' := hg_15_9
          try simp only [bs] at hg_15_9'
          refine AK.val _ (Yl.move rfl) ⟨_, rfl, congrArg (fun b => some (Value.bool b)) hg_15_9⟩ rfl ?_
          refine AK.val _ (Yl.move rfl) ⟨_, rfl, congrArg (fun b => some (Value.bool b)) hg_15_9⟩ rfl ?_
          refine AK.val _ (Yl.neq rfl rfl) ⟨_, rfl, congrArg (fun b => some (Value.bool b)) hg_15_9⟩ rfl ?_
          refine .v (.pickT rfl (hg_15_9) rfl) ?_
          refine .nt hK27 ?_
          refine AK.condNe rfl (fun hc4 => ?_) (fun hc4 => ?_)
          ·have hul := crA_len hV (rp3_pre (rs := rs) (i := x.1) (j := y.1) (by omega) (by omega) hg3.1 hg3.2.1)
           have hij : ¬ x.1 = y.1 := (by omega)
           refine .skip ?_
           refine AK.then_ (hK26 _ ?_)
           refine .seq fun _ hK28 => ?_
           refine .block ?_
           refine .seq fun _ hK29 => ?_
           refine AK.quiet mixed krf ?_
           refine .v (.fieldAddr fd41_0 rfl) ?_
           refine .v (.loadBox on9 rfl bsp rfl) ?_
           refine .mv rfl (.mv rfl ?_)
           refine .v (.fieldAddr fd41_0 rfl) ?_
           refine .v (.loadBox on9 rfl bsp rfl) ?_
           refine .v (.lenS un9 rfl) ?_
           refine .v (.add rfl rfl (by omega)) ?_
           refine .v (.valE (Yl.subS un9 rfl rfl rfl (by omega) (by omega)) (show _ = sv (((rs.getD x.1 ([], [])).1.drop u.1).take (rs.getD y.1 ([], [])).1.length) from congrArg sv (by rw [show ((u.1 : Int) + ((rs.getD y.1 ([], [])).1.length : Int)).toNat - ((u.1 : Int)).toNat = (rs.getD y.1 ([], [])).1.length by omega]; rfl))) ?_
           refine .v (.fieldAddr fd41_0 rfl) ?_
           refine .v (.loadBox on9 rfl bsp rfl) ?_
           refine .v (.eqlS un9 rfl rfl) ?_
           refine QK.nil (QK.fin ?_)
           refine AK.then_ (hK29 _ ?_)
           refine AK.condD rfl (fun hc5 => ?_) (fun hc5 => ?_)
           ·refine AK.joinK (X := Value) [(0, _), (4, _), (5, _), (6, _), (7, _), (10, _), (11, _), (12, _), (13, _), (18, _), (19, _), (20, _)] (fun q => [(3, q)]) (fun q => [row q 45 3 ((rp3 rs x.1 y.1 u.1).length + 1) (crc (rp3 rs x.1 y.1 u.1) ++ ccs (cnk (rs.getD x.1 ([], [])) (rs.getD y.1 ([], [])) u.1)), box bx5 41 2 (rcs (rs.getD x.1 ([], []))), box bx7 41 2 (rcs (rs.getD y.1 ([], [])))]) (fun q => IsSl q) slr (fun _ hJ => ?_) (fun q hg => ?_)
            ·try (conv => enter [2, 2]; dsimp only [List.set_cons_zero, List.set_cons_succ, List.cons_append, List.nil_append])
             refine AK.held 25 mixed ?_
             refine HeldK.first 0 (fuel := 24) (listed' := (lb 25 1)) _ rfl krf krf rfl (Yl.move rfl) trivial rfl ?_
             refine HeldK.first 1 (fuel := 23) (listed' := (lb 25 3)) _ rfl krf krf rfl (Yl.fieldAddr fd41_0 rfl) trivial rfl ?_
             refine HeldK.first 2 (fuel := 22) (listed' := (lb 25 7)) _ rfl krf krf rfl (Yl.loadBox on9 rfl bsp rfl) trivial rfl ?_
             refine HeldK.first 3 (fuel := 21) (listed' := (lb 25 15)) _ rfl krf krf rfl (Yl.fieldAddr fd41_1 rfl) trivial rfl ?_
             refine HeldK.first 4 (fuel := 20) (listed' := (lb 25 31)) _ rfl krf krf rfl (Yl.loadBox on9 rfl bsp rfl) trivial rfl ?_
             refine HeldK.first 5 (fuel := 19) (listed' := (lb 25 63)) _ rfl krf krf rfl (Yl.fieldAddr fd41_0 rfl) trivial rfl ?_
             refine HeldK.first 6 (fuel := 18) (listed' := (lb 25 127)) _ rfl krf krf rfl (Yl.loadBox on9 rfl bsp rfl) trivial rfl ?_
             refine HeldK.first 7 (fuel := 17) (listed' := (lb 25 255)) _ rfl krf krf rfl (Yl.move rfl) trivial rfl ?_
             refine HeldK.first 8 (fuel := 16) (listed' := (lb 25 511)) _ rfl krf krf rfl (Yl.valE (Yl.subTo un9 rfl rfl (by omega)) (show _ = sv ((rs.getD x.1 ([], [])).1.take u.1) from congrArg sv (by rw [Int.toNat_natCast]))) trivial rfl ?_
             refine HeldK.first 9 (fuel := 15) (listed' := (lb 25 1023)) _ rfl krf krf rfl (Yl.fieldAddr fd41_1 rfl) trivial rfl ?_
             refine HeldK.first 10 (fuel := 14) (listed' := (lb 25 2047)) _ rfl krf krf rfl (Yl.loadBox on9 rfl bsp rfl) trivial rfl ?_
             refine HeldK.first 11 (fuel := 13) (listed' := (lb 25 4095)) _ rfl krf krf rfl (Yl.concat rfl rfl (by simp only [List.length_append, List.length_take, List.length_drop]; omega)) trivial rfl ?_
             refine HeldK.first 12 (fuel := 12) (listed' := (lb 25 8191)) _ rfl krf krf rfl (Yl.fieldAddr fd41_0 rfl) trivial rfl ?_
             refine HeldK.first 13 (fuel := 11) (listed' := (lb 25 16383)) _ rfl krf krf rfl (Yl.loadBox on9 rfl bsp rfl) trivial rfl ?_
             refine HeldK.first 14 (fuel := 10) (listed' := (lb 25 32767)) _ rfl krf krf rfl (Yl.move rfl) trivial rfl ?_
             refine HeldK.first 15 (fuel := 9) (listed' := (lb 25 65535)) _ rfl krf krf rfl (Yl.fieldAddr fd41_0 rfl) trivial rfl ?_
             refine HeldK.first 16 (fuel := 8) (listed' := (lb 25 131071)) _ rfl krf krf rfl (Yl.loadBox on9 rfl bsp rfl) trivial rfl ?_
             refine HeldK.first 17 (fuel := 7) (listed' := (lb 25 262143)) _ rfl krf krf rfl (Yl.lenS un9 rfl) trivial rfl ?_
             refine HeldK.first 18 (fuel := 6) (listed' := (lb 25 524287)) _ rfl krf krf rfl (Yl.add rfl rfl (by omega)) trivial rfl ?_
             refine HeldK.first 19 (fuel := 5) (listed' := (lb 25 1048575)) _ rfl krf krf rfl (Yl.valE (Yl.subFr un9 rfl rfl (by omega)) (show _ = sv ((rs.getD x.1 ([], [])).1.drop (u.1 + (rs.getD y.1 ([], [])).1.length)) from congrArg sv (by congr 1 <;> omega))) trivial rfl ?_
             refine HeldK.first 20 (fuel := 4) (listed' := (lb 25 2097151)) _ rfl krf krf rfl (Yl.concat rfl rfl (by simp only [List.length_append, List.length_take, List.length_drop]; omega)) trivial rfl ?_
             refine HeldK.first 21 (fuel := 3) (listed' := (lb 25 4194303)) _ rfl krf krf rfl (Yl.build (parts := [(0, .tmp 109), (1, .tmp 111), (2, .tmp 127)]) (cs := #[sv (cnk (rs.getD x.1 ([], [])) (rs.getD y.1 ([], [])) u.1).1, sv (cnk (rs.getD x.1 ([], [])) (rs.getD y.1 ([], [])) u.1).2.1, sv (cnk (rs.getD x.1 ([], [])) (rs.getD y.1 ([], [])) u.1).2.2]) rfl (by kernel_rfl)) trivial rfl ?_
             refine HeldK.one 22 (fuel := 2) (listed' := (lb 25 8388607)) krf rfl krf ?_
             refine AK.lit (xs := [.tmp 128]) sl42 el45 rfl rfl rfl (by intro a ha; simp at ha; subst ha; rfl) (by decide) (by decide) trivial rfl (fun lt => ?_)
             refine .nil ?_
             try (conv => enter [2, 2]; dsimp only [List.set_cons_zero, List.set_cons_succ, List.cons_append, List.nil_append])
             refine HeldK.back Go.Sx.hle ?_
             refine HeldK.one 23 (fuel := 1) (listed' := (lb 25 16777215)) krf rfl krf ?_
             refine AK.appendH 0 rfl sl42 el45 rfl (by decide) rfl rfl rfl rdp (ccs_one (cnk (rs.getD x.1 ([], [])) (rs.getD y.1 ([], [])) u.1)) (by omega) (by omega) trivial rfl (fun va ha => ?_)
             refine .nil ?_
             try (conv => enter [2, 2]; dsimp only [List.set_cons_zero, List.set_cons_succ, List.cons_append, List.nil_append])
             refine HeldK.back Go.Sx.hle ?_
             refine HeldK.first 24 (fuel := 0) (listed' := (lb 25 33554431)) _ rfl krf krf rfl (Yl.assign rfl) trivial rfl ?_
             refine HeldK.done krf ?_
             exact hJ _ _ (va) ha (slr) (fun w hw => by first | exact hw.pickLe [0, 1, 2] (by decide) pkl)
            ·skip
             refine .block_normal ?_
             refine AK.then_ (hK28 _ ?_)
             refine AK.region ?_
             refine .mv rfl ?_
             refine .v (.add rfl rfl (by omega)) ?_
             refine .as rfl (.nil ?_)
             first | refine AK.then_ (hK25 _ _ ((u.1 + 1, q)) ⟨by dsimp only; omega, fun e => absurd e hij, hg⟩ (by dsimp only; omega) (slr) (fun w hw => by dsimp only; rw [rp3_yes hc5, crc_snoc, List.length_append]; exact hw)) | refine AK.then_ (hK25 _ _ ((u.1 + 1, u.2)) ⟨by dsimp only; omega, fun e => absurd e hij, hg3.2.2⟩ (by dsimp only; omega) (slr) (fun w hw => by dsimp only; rw [rp3_no hc5]; exact hw))
           ·refine .skip (.block_normal ?_)
            refine AK.then_ (hK28 _ ?_)
            refine AK.region ?_
            refine .mv rfl ?_
            refine .v (.add rfl rfl (by omega)) ?_
            refine .as rfl (.nil ?_)
            first | refine AK.then_ (hK25 _ _ ((u.1 + 1, q)) ⟨by dsimp only; omega, fun e => absurd e hij, hg⟩ (by dsimp only; omega) (slr) (fun w hw => by dsimp only; rw [rp3_yes hc5, crc_snoc, List.length_append]; exact hw)) | refine AK.then_ (hK25 _ _ ((u.1 + 1, u.2)) ⟨by dsimp only; omega, fun e => absurd e hij, hg3.2.2⟩ (by dsimp only; omega) (slr) (fun w hw => by dsimp only; rw [rp3_no hc5]; exact hw))
          ·refine .exit (.then_exit (.then_exit (.block_exit (.block_normal ?_))))
           refine AK.then_ (hK14 _ ?_)
           refine AK.region ?_
           refine .v (.add rfl rfl (by omega)) ?_
           refine .mv rfl (.nil ?_)
           refine AK.then_ (hK11 _ _ ((y.1 + 1, u.2)) ⟨by dsimp only; omega, hg3.2.2⟩ (by dsimp only; omega) (slr) (fun w hw => by dsimp only; rw [← rp3_end hg3.1 hg3.2.1 (fun hne => by omega)]; exact hw.pick [0, 1] (by decide) rfl rfl))
         ·have hg_15_9' := hg_15_9
          try simp only [bs] at hg_15_9'
          refine AK.pass rfl rfl (hg_15_9) rfl ?_
          refine AK.pass rfl rfl (hg_15_9) rfl ?_
          refine AK.pass rfl rfl (hg_15_9) rfl ?_
          refine .v (.pickF rfl (hg_15_9) rfl) ?_
          refine .nt hK27 ?_
          refine AK.cond_f rfl (rfl) ?_
          refine .exit (.then_exit (.then_exit (.block_exit (.block_normal ?_))))
          refine AK.then_ (hK14 _ ?_)
          refine AK.region ?_
          refine .v (.add rfl rfl (by omega)) ?_
          refine .mv rfl (.nil ?_)
          refine AK.then_ (hK11 _ _ ((y.1 + 1, u.2)) ⟨by dsimp only; omega, hg3.2.2⟩ (by dsimp only; omega) (slr) (fun w hw => by dsimp only; rw [← rp3_end hg3.1 hg3.2.1 (fun hne => by omega)]; exact hw.pick [0, 1] (by decide) rfl rfl))
      ·have hg_9_5' := hg_9_5
       try simp only [bs] at hg_9_5'
       refine AK.pass rfl rfl (hg_9_5) rfl ?_
       refine AK.pass rfl rfl (hg_9_5) rfl ?_
       refine AK.pass rfl rfl (hg_9_5) rfl ?_
       refine AK.pass rfl rfl (hg_9_5) rfl ?_
       refine AK.pass rfl rfl (hg_9_5) rfl ?_
       refine .v (.pickF rfl (hg_9_5) rfl) ?_
       refine .nt hK20 ?_
       refine AK.cond_f rfl (rfl) ?_
       refine .exit (.then_exit (.then_exit (.block_exit ?_)))
       refine AK.then_ (hK16 _ ?_)
       refine .sr fun _ hK30 => ?_
       refine .as rfl (.nt hK30 (.block ?_))
       refine AK.loopK (X := Nat × Value) [(0, _), (4, _), (5, _), (6, _), (7, _), (11, _), (12, _), (13, _), (18, _), (19, _), (20, _)] (fun u => [(3, u.2), (10, .int .i64 (u.1 : Int))]) (fun u => [row u.2 45 3 (rp3 rs x.1 y.1 u.1).length (crc (rp3 rs x.1 y.1 u.1)), box bx5 41 2 (rcs (rs.getD x.1 ([], []))), box bx7 41 2 (rcs (rs.getD y.1 ([], [])))]) (fun u => u.1 ≤ (rs.getD x.1 ([], [])).1.length + 1 ∧ (x.1 = y.1 → u.1 = 0) ∧ IsSl u.2) (fun u => 2050 - u.1) ((0, z.2)) slr ?_ ?_ ?_ ?_
       ·exact ⟨Nat.zero_le _, fun _ => rfl, hg2.2.2⟩
       ·exact slr
       ·exact fun w hw => by dsimp only; rw [← rp2_end hg2.1 hg2.2.1 (by omega)]; exact hw
       ·intro u hg3 _ hK31
        refine .seq fun _ hK32 => ?_
        refine .sr fun _ hK33 => ?_
        refine .mv rfl ?_
        refine .v (.fieldAddr fd41_0 rfl) ?_
        refine .v (.loadBox on9 rfl bsp rfl) ?_
        refine .v (.lenS un9 rfl) ?_
        refine .v (.add rfl rfl (by omega)) ?_
        refine .v (.fieldAddr fd41_0 rfl) ?_
        refine .v (.loadBox on9 rfl bsp rfl) ?_
        refine .v (.lenS un9 rfl) ?_
        refine .v (.leq rfl rfl) ?_
        refine .mv rfl ?_
        refine AK.splitB (g := 88) rfl (fun hg_15_9 => ?_) (fun hg_15_9 => ?_)
        ·have hg_15_9' := hg_15_9
         try simp only [bs] at hg_15_9'
         refine AK.val _ (Yl.move rfl) ⟨_, rfl, congrArg (fun b => some (Value.bool b)) hg_15_9⟩ rfl ?_
         refine AK.val _ (Yl.move rfl) ⟨_, rfl, congrArg (fun b => some (Value.bool b)) hg_15_9⟩ rfl ?_
         refine AK.val _ (Yl.neq rfl rfl) ⟨_, rfl, congrArg (fun b => some (Value.bool b)) hg_15_9⟩ rfl ?_
         refine .v (.pickT rfl (hg_15_9) rfl) ?_
         refine .nt hK33 ?_
         refine AK.condNe rfl (fun hc4 => ?_) (fun hc4 => ?_)
         ·have hul := crA_len hV (rp3_pre (rs := rs) (i := x.1) (j := y.1) (by omega) (by omega) hg3.1 hg3.2.1)
          have hij : ¬ x.1 = y.1 := (by omega)
          refine .skip ?_
          refine AK.then_ (hK32 _ ?_)
          refine .seq fun _ hK34 => ?_
          refine .block ?_
          refine .seq fun _ hK35 => ?_
          refine AK.quiet mixed krf ?_
          refine .v (.fieldAddr fd41_0 rfl) ?_
          refine .v (.loadBox on9 rfl bsp rfl) ?_
          refine .mv rfl (.mv rfl ?_)
          refine .v (.fieldAddr fd41_0 rfl) ?_
          refine .v (.loadBox on9 rfl bsp rfl) ?_
          refine .v (.lenS un9 rfl) ?_
          refine .v (.add rfl rfl (by omega)) ?_
          refine .v (.valE (Yl.subS un9 rfl rfl rfl (by omega) (by omega)) (show _ = sv (((rs.getD x.1 ([], [])).1.drop u.1).take (rs.getD y.1 ([], [])).1.length) from congrArg sv (by rw [show ((u.1 : Int) + ((rs.getD y.1 ([], [])).1.length : Int)).toNat - ((u.1 : Int)).toNat = (rs.getD y.1 ([], [])).1.length by omega]; rfl))) ?_
          refine .v (.fieldAddr fd41_0 rfl) ?_
          refine .v (.loadBox on9 rfl bsp rfl) ?_
          refine .v (.eqlS un9 rfl rfl) ?_
          refine QK.nil (QK.fin ?_)
          refine AK.then_ (hK35 _ ?_)
          refine AK.condD rfl (fun hc5 => ?_) (fun hc5 => ?_)
          ·refine AK.joinK (X := Value) [(0, _), (4, _), (5, _), (6, _), (7, _), (10, _), (11, _), (12, _), (13, _), (18, _), (19, _), (20, _)] (fun q => [(3, q)]) (fun q => [row q 45 3 ((rp3 rs x.1 y.1 u.1).length + 1) (crc (rp3 rs x.1 y.1 u.1) ++ ccs (cnk (rs.getD x.1 ([], [])) (rs.getD y.1 ([], [])) u.1)), box bx5 41 2 (rcs (rs.getD x.1 ([], []))), box bx7 41 2 (rcs (rs.getD y.1 ([], [])))]) (fun q => IsSl q) slr (fun _ hJ => ?_) (fun q hg => ?_)
           ·try (conv => enter [2, 2]; dsimp only [List.set_cons_zero, List.set_cons_succ, List.cons_append, List.nil_append])
            refine AK.held 25 mixed ?_
            refine HeldK.first 0 (fuel := 24) (listed' := (lb 25 1)) _ rfl krf krf rfl (Yl.move rfl) trivial rfl ?_
            refine HeldK.first 1 (fuel := 23) (listed' := (lb 25 3)) _ rfl krf krf rfl (Yl.fieldAddr fd41_0 rfl) trivial rfl ?_
            refine HeldK.first 2 (fuel := 22) (listed' := (lb 25 7)) _ rfl krf krf rfl (Yl.loadBox on9 rfl bsp rfl) trivial rfl ?_
            refine HeldK.first 3 (fuel := 21) (listed' := (lb 25 15)) _ rfl krf krf rfl (Yl.fieldAddr fd41_1 rfl) trivial rfl ?_
            refine HeldK.first 4 (fuel := 20) (listed' := (lb 25 31)) _ rfl krf krf rfl (Yl.loadBox on9 rfl bsp rfl) trivial rfl ?_
            refine HeldK.first 5 (fuel := 19) (listed' := (lb 25 63)) _ rfl krf krf rfl (Yl.fieldAddr fd41_0 rfl) trivial rfl ?_
            refine HeldK.first 6 (fuel := 18) (listed' := (lb 25 127)) _ rfl krf krf rfl (Yl.loadBox on9 rfl bsp rfl) trivial rfl ?_
            refine HeldK.first 7 (fuel := 17) (listed' := (lb 25 255)) _ rfl krf krf rfl (Yl.move rfl) trivial rfl ?_
            refine HeldK.first 8 (fuel := 16) (listed' := (lb 25 511)) _ rfl krf krf rfl (Yl.valE (Yl.subTo un9 rfl rfl (by omega)) (show _ = sv ((rs.getD x.1 ([], [])).1.take u.1) from congrArg sv (by rw [Int.toNat_natCast]))) trivial rfl ?_
            refine HeldK.first 9 (fuel := 15) (listed' := (lb 25 1023)) _ rfl krf krf rfl (Yl.fieldAddr fd41_1 rfl) trivial rfl ?_
            refine HeldK.first 10 (fuel := 14) (listed' := (lb 25 2047)) _ rfl krf krf rfl (Yl.loadBox on9 rfl bsp rfl) trivial rfl ?_
            refine HeldK.first 11 (fuel := 13) (listed' := (lb 25 4095)) _ rfl krf krf rfl (Yl.concat rfl rfl (by simp only [List.length_append, List.length_take, List.length_drop]; omega)) trivial rfl ?_
            refine HeldK.first 12 (fuel := 12) (listed' := (lb 25 8191)) _ rfl krf krf rfl (Yl.fieldAddr fd41_0 rfl) trivial rfl ?_
            refine HeldK.first 13 (fuel := 11) (listed' := (lb 25 16383)) _ rfl krf krf rfl (Yl.loadBox on9 rfl bsp rfl) trivial rfl ?_
            refine HeldK.first 14 (fuel := 10) (listed' := (lb 25 32767)) _ rfl krf krf rfl (Yl.move rfl) trivial rfl ?_
            refine HeldK.first 15 (fuel := 9) (listed' := (lb 25 65535)) _ rfl krf krf rfl (Yl.fieldAddr fd41_0 rfl) trivial rfl ?_
            refine HeldK.first 16 (fuel := 8) (listed' := (lb 25 131071)) _ rfl krf krf rfl (Yl.loadBox on9 rfl bsp rfl) trivial rfl ?_
            refine HeldK.first 17 (fuel := 7) (listed' := (lb 25 262143)) _ rfl krf krf rfl (Yl.lenS un9 rfl) trivial rfl ?_
            refine HeldK.first 18 (fuel := 6) (listed' := (lb 25 524287)) _ rfl krf krf rfl (Yl.add rfl rfl (by omega)) trivial rfl ?_
            refine HeldK.first 19 (fuel := 5) (listed' := (lb 25 1048575)) _ rfl krf krf rfl (Yl.valE (Yl.subFr un9 rfl rfl (by omega)) (show _ = sv ((rs.getD x.1 ([], [])).1.drop (u.1 + (rs.getD y.1 ([], [])).1.length)) from congrArg sv (by congr 1 <;> omega))) trivial rfl ?_
            refine HeldK.first 20 (fuel := 4) (listed' := (lb 25 2097151)) _ rfl krf krf rfl (Yl.concat rfl rfl (by simp only [List.length_append, List.length_take, List.length_drop]; omega)) trivial rfl ?_
            refine HeldK.first 21 (fuel := 3) (listed' := (lb 25 4194303)) _ rfl krf krf rfl (Yl.build (parts := [(0, .tmp 109), (1, .tmp 111), (2, .tmp 127)]) (cs := #[sv (cnk (rs.getD x.1 ([], [])) (rs.getD y.1 ([], [])) u.1).1, sv (cnk (rs.getD x.1 ([], [])) (rs.getD y.1 ([], [])) u.1).2.1, sv (cnk (rs.getD x.1 ([], [])) (rs.getD y.1 ([], [])) u.1).2.2]) rfl (by kernel_rfl)) trivial rfl ?_
            refine HeldK.one 22 (fuel := 2) (listed' := (lb 25 8388607)) krf rfl krf ?_
            refine AK.lit (xs := [.tmp 128]) sl42 el45 rfl rfl rfl (by intro a ha; simp at ha; subst ha; rfl) (by decide) (by decide) trivial rfl (fun lt => ?_)
            refine .nil ?_
            try (conv => enter [2, 2]; dsimp only [List.set_cons_zero, List.set_cons_succ, List.cons_append, List.nil_append])
            refine HeldK.back Go.Sx.hle ?_
            refine HeldK.one 23 (fuel := 1) (listed' := (lb 25 16777215)) krf rfl krf ?_
            refine AK.appendH 0 rfl sl42 el45 rfl (by decide) rfl rfl rfl rdp (ccs_one (cnk (rs.getD x.1 ([], [])) (rs.getD y.1 ([], [])) u.1)) (by omega) (by omega) trivial rfl (fun va ha => ?_)
            refine .nil ?_
            try (conv => enter [2, 2]; dsimp only [List.set_cons_zero, List.set_cons_succ, List.cons_append, List.nil_append])
            refine HeldK.back Go.Sx.hle ?_
            refine HeldK.first 24 (fuel := 0) (listed' := (lb 25 33554431)) _ rfl krf krf rfl (Yl.assign rfl) trivial rfl ?_
            refine HeldK.done krf ?_
            exact hJ _ _ (va) ha (slr) (fun w hw => by first | exact hw.pickLe [0, 1, 2] (by decide) pkl)
           ·skip
            refine .block_normal ?_
            refine AK.then_ (hK34 _ ?_)
            refine AK.region ?_
            refine .mv rfl ?_
            refine .v (.add rfl rfl (by omega)) ?_
            refine .as rfl (.nil ?_)
            first | refine AK.then_ (hK31 _ _ ((u.1 + 1, q)) ⟨by dsimp only; omega, fun e => absurd e hij, hg⟩ (by dsimp only; omega) (slr) (fun w hw => by dsimp only; rw [rp3_yes hc5, crc_snoc, List.length_append]; exact hw)) | refine AK.then_ (hK31 _ _ ((u.1 + 1, u.2)) ⟨by dsimp only; omega, fun e => absurd e hij, hg3.2.2⟩ (by dsimp only; omega) (slr) (fun w hw => by dsimp only; rw [rp3_no hc5]; exact hw))
          ·refine .skip (.block_normal ?_)
           refine AK.then_ (hK34 _ ?_)
           refine AK.region ?_
           refine .mv rfl ?_
           refine .v (.add rfl rfl (by omega)) ?_
           refine .as rfl (.nil ?_)
           first | refine AK.then_ (hK31 _ _ ((u.1 + 1, q)) ⟨by dsimp only; omega, fun e => absurd e hij, hg⟩ (by dsimp only; omega) (slr) (fun w hw => by dsimp only; rw [rp3_yes hc5, crc_snoc, List.length_append]; exact hw)) | refine AK.then_ (hK31 _ _ ((u.1 + 1, u.2)) ⟨by dsimp only; omega, fun e => absurd e hij, hg3.2.2⟩ (by dsimp only; omega) (slr) (fun w hw => by dsimp only; rw [rp3_no hc5]; exact hw))
         ·refine .exit (.then_exit (.then_exit (.block_exit (.block_normal ?_))))
          refine AK.then_ (hK14 _ ?_)
          refine AK.region ?_
          refine .v (.add rfl rfl (by omega)) ?_
          refine .mv rfl (.nil ?_)
          refine AK.then_ (hK11 _ _ ((y.1 + 1, u.2)) ⟨by dsimp only; omega, hg3.2.2⟩ (by dsimp only; omega) (slr) (fun w hw => by dsimp only; rw [← rp3_end hg3.1 hg3.2.1 (fun hne => by omega)]; exact hw.pick [0, 1] (by decide) rfl rfl))
        ·have hg_15_9' := hg_15_9
         try simp only [bs] at hg_15_9'
         refine AK.pass rfl rfl (hg_15_9) rfl ?_
         refine AK.pass rfl rfl (hg_15_9) rfl ?_
         refine AK.pass rfl rfl (hg_15_9) rfl ?_
         refine .v (.pickF rfl (hg_15_9) rfl) ?_
         refine .nt hK33 ?_
         refine AK.cond_f rfl (rfl) ?_
         refine .exit (.then_exit (.then_exit (.block_exit (.block_normal ?_))))
         refine AK.then_ (hK14 _ ?_)
         refine AK.region ?_
         refine .v (.add rfl rfl (by omega)) ?_
         refine .mv rfl (.nil ?_)
         refine AK.then_ (hK11 _ _ ((y.1 + 1, u.2)) ⟨by dsimp only; omega, hg3.2.2⟩ (by dsimp only; omega) (slr) (fun w hw => by dsimp only; rw [← rp3_end hg3.1 hg3.2.1 (fun hne => by omega)]; exact hw.pick [0, 1] (by decide) rfl rfl))
    ·refine .exit (.then_exit (.then_exit (.block_exit (.block_normal ?_))))
     refine AK.then_ (hK8 _ ?_)
     refine AK.region ?_
     refine .v (.add rfl rfl (by omega)) ?_
     refine .mv rfl (.nil ?_)
     refine AK.then_ (hK5 _ _ ((x.1 + 1, y.2)) ⟨by dsimp only; omega, hg1.2⟩ (by dsimp only; omega) (slr) (fun w hw => by have e : y.1 = rs.length := (by omega); rw [e] at hw; exact hw.pick [0] (by decide) rfl rfl))
  ·refine .exit (.then_exit (.then_exit (.block_exit ?_)))
   refine AK.then_ (hK3 _ ?_)
   refine .sr fun _ hK36 => ?_
   refine .mv rfl (.as rfl (.nt hK36 (.ret ?_)))
   refine AK.ret1 rfl rfl (fun w hw => ⟨_, _, ?_, rfl, Ret.of (hw.pick [0] (by decide) rfl rfl)⟩)
   refine ⟨hg0.2, ?_⟩
   rw [show x.1 = rs.length by omega]; rfl

end Go.Proofs.Ytaeojcaidcjnaaa
