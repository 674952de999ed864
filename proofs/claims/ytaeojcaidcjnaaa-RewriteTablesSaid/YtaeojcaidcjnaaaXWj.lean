import Derived.Test.YtaeojcaidcjnaaaXWi
import Derived.Test.YtaeojcaidcjnaaaXRR
set_option linter.unusedVariables false
set_option linter.unusedSimpArgs false
namespace Go.Proofs.Ytaeojcaidcjnaaa
open Go.Sx Go.RowKit
set_option maxHeartbeats 4000000 in
set_option maxRecDepth 100000 in
theorem s_confluent (w : World) (v : Value) (rs : List Rul) (h : RdR (fun _ => False) w v rs) (hll : ∀ k, k < rs.length → (rs.getD k ([], [])).1.length ≤ 9223372036854775807 ∧ (rs.getD k ([], [])).2.length ≤ 9223372036854775807) (hX : MxA w) : CallS Try.prog 28 [v] w (fun r o => r = .tuple #[cv (CfR rs).1, .bool (CfR rs).2.1, .int .i64 (CfR rs).2.2] ∧ o = []) := by
 have h0 := h
 have hb := h.len
 have sv0 := Rd.sl h
 unfold RdR at h
 refine specW_of Try.func28 rfl (Nat.le_of_ble_eq_true rfl) ?_
 refine AK.seqW (fun _ hK1w hK1 => ?_)
 refine AK.region ?_
 refine AK.alloc el45 rfl rfl trivial rfl (fun bx2 => ?_)
 refine AK.alloc el4 rfl rfl trivial rfl (fun bx3 => ?_)
 refine AK.alloc el23 rfl rfl trivial rfl (fun bx4 => ?_)
 refine .nt hK1 ?_
 refine AK.seqW (fun _ hK2w hK2 => ?_)
 refine AK.seqW (fun _ hK3w hK3 => ?_)
 refine AK.region ?_
 refine .mv rfl ?_
 refine AK.call co13 rfl (fun w hw => s_rval w v rs (h0.at hw) hll 6) trivial rfl ?_
 rintro r o ⟨rfl, rfl⟩
 refine .as rfl (.nt hK3 ?_)
 refine AK.seqW (fun _ hK4w hK4 => ?_)
 refine AK.region ?_
 refine .mv rfl ?_
 refine .v (.neq rfl rfl) ?_
 refine .nt hK4 ?_
 refine AK.condNe rfl (fun hc0 => ?_) (fun hc0 => ?_)
 ·refine AK.seqW (fun _ hK5w hK5 => ?_)
  refine AK.region ?_
  refine .v (.build (parts := []) (cs := #[.string ByteArray.empty, .string ByteArray.empty, .string ByteArray.empty]) rfl (by kernel_rfl)) ?_
  refine .mv rfl ?_
  refine AK.storeBox 0 (us := ccs (([], [], []) : Crit)) (cs' := ccs (([], [], []) : Crit)) rfl sz45 rfl rfl rfl rfl (ccs_one _) (Nat.le_of_ble_eq_true rfl) rfl trivial ?_
  refine AK.storeBox 1 (us := [.bool false]) (cs' := [.bool false]) rfl sz4 rfl rfl rfl rfl oneP (Nat.le_of_ble_eq_true rfl) rfl trivial ?_
  refine AK.storeBox 2 (us := [.int .i64 (errR 6 rs)]) (cs' := [.int .i64 (errR 6 rs)]) rfl sz23 rfl rfl rfl rfl oneP (Nat.le_of_ble_eq_true rfl) rfl trivial ?_
  refine .nt hK5 (.ret (.then_ret ?_))
  refine AK.toW ?_
  refine AK.retG [.cell 2 45, .cell 3 4, .cell 4 23] rfl (.cons (.cell ag45 rfl bsp rfl rfl) (.cons (.cell1 on4 rfl bsp) (.cons (.cell1 on23 rfl bsp) (.nil)))) (fun w hw => ⟨_, _, ?_, rfl, Ret.of (hw.pick [] (by decide) rfl rfl)⟩)
  unfold CfR
  rw [if_pos hc0]
  exact ⟨rfl, rfl⟩
 ·have hE : errR 6 rs = 0 := (by omega)
  have hV := errR_iff.1 hE
  have hrn := hV.n
  have hll2 : ∀ k, k < rs.length → (rs.getD k ([], [])).1.length ≤ 2048 ∧ (rs.getD k ([], [])).2.length ≤ 2048 := fun k hk => by have h := hV.v _ (getD_mem (d := ([], [])) hk); exact ⟨(validW_al h.1).1, (validW_al h.2.1).1⟩
  refine .skip ?_
  refine AK.then_ (hK2 _ ?_)
  refine AK.seqW (fun _ hK6w hK6 => ?_)
  refine AK.region ?_
  refine .mv rfl ?_
  refine AK.call co38 rfl (fun w hw => s_newreducer w v rs (h0.at hw) hll 6 2048 hV) trivial rfl ?_
  rintro r o ⟨bf, vn, vf, N, fl, fd, hF, hN, rfl, rfl⟩
  refine AK.alloc el62 rfl rfl trivial rfl (fun bx6 => ?_)
  refine AK.storeBox 6 (us := [v, .pointer (some ⟨bf, 0, none⟩)]) (cs' := [v, .pointer (some ⟨bf, 0, none⟩)]) rfl sz62 rfl rfl rfl rfl (by first | exact two_one sv0 | exact oneP) (Nat.le_of_ble_eq_true rfl) rfl trivial ?_
  refine .nt hK6 ?_
  refine AK.seqW (fun _ hK7w hK7 => ?_)
  refine AK.seqW (fun _ hK8w hK8 => ?_)
  refine AK.region ?_
  refine .mv rfl ?_
  refine AK.call co45 rfl (fun w hw => s_critical w v sv0) trivial rfl ?_
  rintro r o ⟨b1, rfl, rfl⟩
  refine .nt hK8 (.block ?_)
  refine AK.rangeFunc (α := Crit) (enc := cv) (fun pre : List Crit => exA (fun _ : Unit => AllOk rs pre) (fun _ => bigA [box bx2 45 3 (ccs (([], [], []) : Crit)), box bx3 4 1 [.bool false], box bx4 23 1 [.int .i64 0], box bx6 62 2 [v, .pointer (some ⟨bf, 0, none⟩)], box bf 72 2 [vn, vf], row vn 73 6 N.length (fl.map (Value.int .i32)), row vf 21 1 N.length (fd.map (Value.int .i32))])) (fun (c : Code) (q : List Crit) => match c with | .ret => exA (fun z : Crit × Bool × Int => cfR rs (crA rs) = z) (fun z => bigA [box bx2 45 3 (ccs z.1), box bx3 4 1 [.bool z.2.1], box bx4 23 1 [.int .i64 z.2.2]]) | _ => botA) (fun q => q <+: crA rs) (fun xs => xs = crA rs) (fun q => q <+: crA rs ∧ q ≠ []) (box b1 22 1 [v]) rfl co62 rfl (fun w hw => by exact HW.exI (own := [bigA [box bx2 45 3 (ccs (([], [], []) : Crit)), box bx3 4 1 [.bool false], box bx4 23 1 [.int .i64 0], box bx6 62 2 [v, .pointer (some ⟨bf, 0, none⟩)], box bf 72 2 [vn, vf], row vn 73 6 N.length (fl.map (Value.int .i32)), row vf 21 1 N.length (fd.map (Value.int .i32))], box b1 22 1 [v]]) (A := fun _ : Unit => bigA [box bx2 45 3 (ccs (([], [], []) : Crit)), box bx3 4 1 [.bool false], box bx4 23 1 [.int .i64 0], box bx6 62 2 [v, .pointer (some ⟨bf, 0, none⟩)], box bf 72 2 [vn, vf], row vn 73 6 N.length (fl.map (Value.int .i32)), row vf 21 1 N.length (fd.map (Value.int .i32))]) 0 () AllOk.nil rfl (HW.unflat (l := [_, _, _, _, _, _, _]) (own := [_]) (hw.pick [0, 1, 2, 6, 3, 4, 5, 7] (by decide) rfl rfl))) (fun w Fs l J' Jx' hw hh hfr hal hY => s_crit w (Fs 0) b1 v rs (BxA.own 1 hw rfl) (hh.boxN 1 rfl (by decide)) (Rd.off h hfr hal) 6 hV l J' Jx' hY (hX.off2 (fun h => h) hfr) (not_F0 hX (fun h => h) hal) (hh.at_ 0 _ rfl)) ?_ ?_ ?_
  ·intro lr Dr rl pre x wr F hrl hT hfr0 hF0
   refine AK.exE 0 rfl (fun _ hall => ?_)
   refine AK.own' [bigA [box bx2 45 3 (ccs (([], [], []) : Crit)), box bx3 4 1 [.bool false], box bx4 23 1 [.int .i64 0], box bx6 62 2 [v, .pointer (some ⟨bf, 0, none⟩)], box bf 72 2 [vn, vf], row vn 73 6 N.length (fl.map (Value.int .i32)), row vf 21 1 N.length (fd.map (Value.int .i32))], objA Dr (.deferred (some [])), objA lr (.loop rl)] (fun w hw => hw) ?_
   refine AK.regionR (fun _ _ h => h) krf ?_
   refine AK.alloc el45 rfl rfl trivial rfl (fun bx7 => ?_)
   refine AK.storeBox 3 (us := ccs x) (cs' := ccs x) rfl sz45 rfl rfl rfl rfl (ccs_one x) (Nat.le_of_ble_eq_true rfl) rfl trivial ?_
   refine .nil ?_
   refine AK.then_ ?_
   refine AK.begin_ 2 rfl hrl ?_
   refine AK.blockR ?_
   refine AK.seqR (fun _ hK9 => ?_)
   refine AK.seqR (fun _ hK10 => ?_)
   refine AK.regionR (fun _ _ h => h) krf ?_
   refine AK.own' [box bx2 45 3 (ccs (([], [], []) : Crit)), box bx3 4 1 [.bool false], box bx4 23 1 [.int .i64 0], box bx6 62 2 [v, .pointer (some ⟨bf, 0, none⟩)], box bf 72 2 [vn, vf], row vn 73 6 N.length (fl.map (Value.int .i32)), row vf 21 1 N.length (fd.map (Value.int .i32)), objA Dr (.deferred (some [])), objA lr (.loop { rl with state := .busy }), box bx7 45 3 (ccs x)] (fun w hw => HW.flat (l := [_, _, _, _, _, _, _]) (own := [_, _, _]) hw) ?_
   refine .v (.fieldAddr fd45_1 rfl) ?_
   refine .v (.loadBox on9 rfl bsp rfl) ?_
   refine .v (.lenS un9 rfl) ?_
   refine .v (.gtr rfl rfl) ?_
   refine .mv rfl ?_
   refine AK.splitB (g := 26) rfl (fun hg_7_4 => ?_) (fun hg_7_4 => ?_)
   ·have hg_7_4' := hg_7_4
    try simp only [bs] at hg_7_4'
    refine AK.pass rfl rfl (hg_7_4) rfl ?_
    refine AK.pass rfl rfl (hg_7_4) rfl ?_
    refine AK.pass rfl rfl (hg_7_4) rfl ?_
    refine AK.pass rfl rfl (hg_7_4) rfl ?_
    refine .v (.pickT rfl (hg_7_4) rfl) ?_
    refine .nt hK10 ?_
    refine AK.condR_t rfl (rfl) ?_
    refine AK.seqR (fun _ hK11 => ?_)
    refine AK.regionR (fun _ _ h => h) krf ?_
    refine .v (.build (parts := []) (cs := #[.string ByteArray.empty, .string ByteArray.empty, .string ByteArray.empty]) rfl (by kernel_rfl)) ?_
    refine AK.storeBox 0 (us := ccs (([], [], []) : Crit)) (cs' := ccs (([], [], []) : Crit)) rfl sz45 rfl rfl rfl rfl (ccs_one _) (Nat.le_of_ble_eq_true rfl) rfl trivial ?_
    refine AK.storeBox 1 (us := [.bool false]) (cs' := [.bool false]) rfl sz4 rfl rfl rfl rfl oneP (Nat.le_of_ble_eq_true rfl) rfl trivial ?_
    refine AK.storeBox 2 (us := [.int .i64 3]) (cs' := [.int .i64 3]) rfl sz23 rfl rfl rfl rfl oneP (Nat.le_of_ble_eq_true rfl) rfl trivial ?_
    refine .nt hK11 ?_
    refine AK.retR ?_
    refine .then_ret (.block_ret ?_)
    exact fun a w hs => by
     have hw := hs.world.pick [0, 1, 2, 7, 8] (by decide) rfl rfl
     refine HW.exI (own := [bigA [box bx2 45 3 (ccs (([], [], []), false, 3).1), box bx3 4 1 [.bool (([], [], []), false, 3).2.1], box bx4 23 1 [.int .i64 (([], [], []), false, 3).2.2]], objA Dr (.deferred (some [])), objA lr (.loop { rl with state := .busy })]) (A := fun z => bigA [box bx2 45 3 (ccs z.1), box bx3 4 1 [.bool z.2.1], box bx4 23 1 [.int .i64 z.2.2]]) 0 (([], [], []), false, 3) (cfR_first hT hall (crOk_long (by omega))) rfl ?_
     exact HW.unflat (l := [_, _, _]) (own := [_, _]) hw
   ·have hg_7_4' := hg_7_4
    try simp only [bs] at hg_7_4'
    refine AK.val _ (Yl.fieldAddr fd45_2 rfl) ⟨_, rfl, congrArg (fun b => some (Value.bool b)) hg_7_4⟩ rfl ?_
    refine AK.val _ (Yl.loadBox on9 rfl bsp rfl) ⟨_, rfl, congrArg (fun b => some (Value.bool b)) hg_7_4⟩ rfl ?_
    refine AK.val _ (Yl.lenS un9 rfl) ⟨_, rfl, congrArg (fun b => some (Value.bool b)) hg_7_4⟩ rfl ?_
    refine AK.val _ (Yl.gtr rfl rfl) ⟨_, rfl, congrArg (fun b => some (Value.bool b)) hg_7_4⟩ rfl ?_
    refine .v (.pickF rfl (hg_7_4) rfl) ?_
    refine .nt hK10 ?_
    refine AK.condRD rfl (fun hc1 => ?_) (fun hc1 => ?_)
    ·refine AK.seqR (fun _ hK12 => ?_)
     refine AK.regionR (fun _ _ h => h) krf ?_
     refine .v (.build (parts := []) (cs := #[.string ByteArray.empty, .string ByteArray.empty, .string ByteArray.empty]) rfl (by kernel_rfl)) ?_
     refine AK.storeBox 0 (us := ccs (([], [], []) : Crit)) (cs' := ccs (([], [], []) : Crit)) rfl sz45 rfl rfl rfl rfl (ccs_one _) (Nat.le_of_ble_eq_true rfl) rfl trivial ?_
     refine AK.storeBox 1 (us := [.bool false]) (cs' := [.bool false]) rfl sz4 rfl rfl rfl rfl oneP (Nat.le_of_ble_eq_true rfl) rfl trivial ?_
     refine AK.storeBox 2 (us := [.int .i64 3]) (cs' := [.int .i64 3]) rfl sz23 rfl rfl rfl rfl oneP (Nat.le_of_ble_eq_true rfl) rfl trivial ?_
     refine .nt hK12 ?_
     refine AK.retR ?_
     refine .then_ret (.block_ret ?_)
     exact fun a w hs => by
      have hw := hs.world.pick [0, 1, 2, 7, 8] (by decide) rfl rfl
      refine HW.exI (own := [bigA [box bx2 45 3 (ccs (([], [], []), false, 3).1), box bx3 4 1 [.bool (([], [], []), false, 3).2.1], box bx4 23 1 [.int .i64 (([], [], []), false, 3).2.2]], objA Dr (.deferred (some [])), objA lr (.loop { rl with state := .busy })]) (A := fun z => bigA [box bx2 45 3 (ccs z.1), box bx3 4 1 [.bool z.2.1], box bx4 23 1 [.int .i64 z.2.2]]) 0 (([], [], []), false, 3) (cfR_first hT hall (crOk_long (by omega))) rfl ?_
      exact HW.unflat (l := [_, _, _]) (own := [_, _]) hw
    ·refine AK.skipR ?_
     refine AK.then_ (hK9 _ ?_)
     refine AK.seqR (fun _ hK13 => ?_)
     refine AK.regionR (fun _ _ h => h) krf ?_
     refine .v (.loadBoxG ag62 rfl bsp rfl rfl) ?_
     refine .v (.fieldAddr fd45_1 rfl) ?_
     refine .v (.loadBox on9 rfl bsp rfl) ?_
     have hl1 : x.2.1.length ≤ 2048 := (by omega)
     have hl2 : x.2.2.length ≤ 2048 := (by omega)
     refine AK.call co39 rfl (fun w hw => s_reduce w x.2.1 (crA_al1 hV hT hl1) bf v vn vf N fl fd 2048 6 rs hV hF hN (BxA.own 4 hw rfl) (Rd.ownG 5 hw rfl) (Rd.ownG 6 hw rfl) (Rd.keep (Rd.off h hfr0 (fun _ => hF0) (Fs := fun _ => F) (i := 0)) hw.frame (fun _ _ _ => id)) hl1 (Nat.le_refl _)) trivial rfl ?_
     rintro r o ⟨rfl, rfl⟩
     refine .mv rfl ?_
     refine .v (.extract rfl rfl) ?_
     refine .v (.extract rfl rfl) ?_
     refine .as rfl (.as rfl (.nt hK13 ?_))
     refine AK.seqR (fun _ hK14 => ?_)
     refine AK.seqR (fun _ hK15 => ?_)
     refine AK.regionR (fun _ _ h => h) krf ?_
     refine .mv rfl ?_
     refine .v (.neq rfl rfl) ?_
     refine .nt hK15 ?_
     refine AK.condRNe rfl (fun hc2 => ?_) (fun hc2 => ?_)
     ·refine AK.seqR (fun _ hK16 => ?_)
      refine AK.regionR (fun _ _ h => h) krf ?_
      refine .v (.build (parts := []) (cs := #[.string ByteArray.empty, .string ByteArray.empty, .string ByteArray.empty]) rfl (by kernel_rfl)) ?_
      refine .mv rfl ?_
      refine AK.storeBox 0 (us := ccs (([], [], []) : Crit)) (cs' := ccs (([], [], []) : Crit)) rfl sz45 rfl rfl rfl rfl (ccs_one _) (Nat.le_of_ble_eq_true rfl) rfl trivial ?_
      refine AK.storeBox 1 (us := [.bool false]) (cs' := [.bool false]) rfl sz4 rfl rfl rfl rfl oneP (Nat.le_of_ble_eq_true rfl) rfl trivial ?_
      refine AK.storeBox 2 (us := [.int .i64 (redE rs x.2.1)]) (cs' := [.int .i64 (redE rs x.2.1)]) rfl sz23 rfl rfl rfl rfl oneP (Nat.le_of_ble_eq_true rfl) rfl trivial ?_
      refine .nt hK16 ?_
      refine AK.retR ?_
      refine .then_ret (.block_ret ?_)
      obtain ⟨e3, hz⟩ := crOk_lim1 hl1 hl2 (by assumption)
      rw [e3]
      exact fun a w hs => by
       have hw := hs.world.pick [0, 1, 2, 7, 8] (by decide) rfl rfl
       refine HW.exI (own := [bigA [box bx2 45 3 (ccs (([], [], []), false, 3).1), box bx3 4 1 [.bool (([], [], []), false, 3).2.1], box bx4 23 1 [.int .i64 (([], [], []), false, 3).2.2]], objA Dr (.deferred (some [])), objA lr (.loop { rl with state := .busy })]) (A := fun z => bigA [box bx2 45 3 (ccs z.1), box bx3 4 1 [.bool z.2.1], box bx4 23 1 [.int .i64 z.2.2]]) 0 (([], [], []), false, 3) (cfR_first hT hall (hz)) rfl ?_
       exact HW.unflat (l := [_, _, _]) (own := [_, _]) hw
     ·refine AK.skipR ?_
      refine AK.then_ (hK14 _ ?_)
      refine AK.seqR (fun _ hK17 => ?_)
      refine AK.regionR (fun _ _ h => h) krf ?_
      refine .v (.loadBoxG ag62 rfl bsp rfl rfl) ?_
      refine .v (.fieldAddr fd45_2 rfl) ?_
      refine .v (.loadBox on9 rfl bsp rfl) ?_
      refine AK.call co39 rfl (fun w hw => s_reduce w x.2.2 (crA_al2 hV hT hl2) bf v vn vf N fl fd 2048 6 rs hV hF hN (BxA.own 4 hw rfl) (Rd.ownG 5 hw rfl) (Rd.ownG 6 hw rfl) (Rd.keep (Rd.off h hfr0 (fun _ => hF0) (Fs := fun _ => F) (i := 0)) hw.frame (fun _ _ _ => id)) hl2 (Nat.le_refl _)) trivial rfl ?_
      rintro r o ⟨rfl, rfl⟩
      refine .mv rfl ?_
      refine .v (.extract rfl rfl) ?_
      refine .v (.extract rfl rfl) ?_
      refine .as rfl (.as rfl (.nt hK17 ?_))
      refine AK.seqR (fun _ hK18 => ?_)
      refine AK.seqR (fun _ hK19 => ?_)
      refine AK.regionR (fun _ _ h => h) krf ?_
      refine .mv rfl ?_
      refine .v (.neq rfl rfl) ?_
      refine .nt hK19 ?_
      refine AK.condRNe rfl (fun hc3 => ?_) (fun hc3 => ?_)
      ·refine AK.seqR (fun _ hK20 => ?_)
       refine AK.regionR (fun _ _ h => h) krf ?_
       refine .v (.build (parts := []) (cs := #[.string ByteArray.empty, .string ByteArray.empty, .string ByteArray.empty]) rfl (by kernel_rfl)) ?_
       refine .mv rfl ?_
       refine AK.storeBox 0 (us := ccs (([], [], []) : Crit)) (cs' := ccs (([], [], []) : Crit)) rfl sz45 rfl rfl rfl rfl (ccs_one _) (Nat.le_of_ble_eq_true rfl) rfl trivial ?_
       refine AK.storeBox 1 (us := [.bool false]) (cs' := [.bool false]) rfl sz4 rfl rfl rfl rfl oneP (Nat.le_of_ble_eq_true rfl) rfl trivial ?_
       refine AK.storeBox 2 (us := [.int .i64 (redE rs x.2.2)]) (cs' := [.int .i64 (redE rs x.2.2)]) rfl sz23 rfl rfl rfl rfl oneP (Nat.le_of_ble_eq_true rfl) rfl trivial ?_
       refine .nt hK20 ?_
       refine AK.retR ?_
       refine .then_ret (.block_ret ?_)
       obtain ⟨e3, hz⟩ := crOk_lim2 hl1 hl2 (by assumption)
       rw [e3]
       exact fun a w hs => by
        have hw := hs.world.pick [0, 1, 2, 7, 8] (by decide) rfl rfl
        refine HW.exI (own := [bigA [box bx2 45 3 (ccs (([], [], []), false, 3).1), box bx3 4 1 [.bool (([], [], []), false, 3).2.1], box bx4 23 1 [.int .i64 (([], [], []), false, 3).2.2]], objA Dr (.deferred (some [])), objA lr (.loop { rl with state := .busy })]) (A := fun z => bigA [box bx2 45 3 (ccs z.1), box bx3 4 1 [.bool z.2.1], box bx4 23 1 [.int .i64 z.2.2]]) 0 (([], [], []), false, 3) (cfR_first hT hall (hz)) rfl ?_
        exact HW.unflat (l := [_, _, _]) (own := [_, _]) hw
      ·refine AK.skipR ?_
       refine AK.then_ (hK18 _ ?_)
       refine AK.seqR (fun _ hK21 => ?_)
       refine AK.regionR (fun _ _ h => h) krf ?_
       refine .mv rfl (.mv rfl ?_)
       refine .v (.neqS un9 rfl rfl) ?_
       refine .nt hK21 ?_
       refine AK.condRNe rfl (fun hc4 => ?_) (fun hc4 => ?_)
       ·refine AK.seqR (fun _ hK22 => ?_)
        refine AK.regionR (fun _ _ h => h) krf ?_
        refine .v (.loadBoxG ag45 rfl bsp rfl rfl) ?_
        refine AK.storeBox 0 (us := ccs x) (cs' := ccs x) rfl sz45 rfl rfl rfl rfl (ccs_one _) (Nat.le_of_ble_eq_true rfl) rfl trivial ?_
        refine AK.storeBox 1 (us := [.bool false]) (cs' := [.bool false]) rfl sz4 rfl rfl rfl rfl oneP (Nat.le_of_ble_eq_true rfl) rfl trivial ?_
        refine AK.storeBox 2 (us := [.int .i64 0]) (cs' := [.int .i64 0]) rfl sz23 rfl rfl rfl rfl oneP (Nat.le_of_ble_eq_true rfl) rfl trivial ?_
        refine .nt hK22 ?_
        refine AK.retR ?_
        refine .block_ret ?_
        exact fun a w hs => by
         have hw := hs.world.pick [0, 1, 2, 7, 8] (by decide) rfl rfl
         refine HW.exI (own := [bigA [box bx2 45 3 (ccs (x, false, 0).1), box bx3 4 1 [.bool (x, false, 0).2.1], box bx4 23 1 [.int .i64 (x, false, 0).2.2]], objA Dr (.deferred (some [])), objA lr (.loop { rl with state := .busy })]) (A := fun z => bigA [box bx2 45 3 (ccs z.1), box bx3 4 1 [.bool z.2.1], box bx4 23 1 [.int .i64 z.2.2]]) 0 (x, false, 0) (cfR_first hT hall (by rw [crOk_ok hl1 hl2 (by omega) (by omega)]; exact if_neg (by assumption))) rfl ?_
         exact HW.unflat (l := [_, _, _]) (own := [_, _]) hw
       ·refine AK.skipR ?_
        refine .block_normal ?_
        exact fun a w hs => by
         have hw := hs.world.pick [0, 1, 2, 3, 4, 5, 6, 7, 8] (by decide) rfl rfl
         refine HW.exI (own := [bigA [box bx2 45 3 (ccs (([], [], []) : Crit)), box bx3 4 1 [.bool false], box bx4 23 1 [.int .i64 0], box bx6 62 2 [v, .pointer (some ⟨bf, 0, none⟩)], box bf 72 2 [vn, vf], row vn 73 6 N.length (fl.map (Value.int .i32)), row vf 21 1 N.length (fd.map (Value.int .i32))], objA Dr (.deferred (some [])), objA lr (.loop { rl with state := .busy })]) (A := fun _ : Unit => bigA [box bx2 45 3 (ccs (([], [], []) : Crit)), box bx3 4 1 [.bool false], box bx4 23 1 [.int .i64 0], box bx6 62 2 [v, .pointer (some ⟨bf, 0, none⟩)], box bf 72 2 [vn, vf], row vn 73 6 N.length (fl.map (Value.int .i32)), row vf 21 1 N.length (fd.map (Value.int .i32))]) 0 () (hall.snoc (by rw [crOk_ok hl1 hl2 (by omega) (by omega)]; exact if_pos (by assumption))) rfl ?_
         exact HW.unflat (l := [_, _, _, _, _, _, _]) (own := [_, _]) hw
  ·intro D xs hS
   subst hS
   refine AKd.thenK hK7w ?_
   refine AKd.exE 0 rfl (fun _ hall => ?_)
   refine AKd.own' [box bx2 45 3 (ccs (([], [], []) : Crit)), box bx3 4 1 [.bool false], box bx4 23 1 [.int .i64 0], objA D (.deferred (some []))] (fun w hw => (HW.flat (l := [_, _, _, _, _, _, _]) (own := [_, _]) hw).pick [0, 1, 2, 8] (by decide) rfl rfl) ?_
   refine AKd.seq ?_
   refine AKd.region ⟨[(2, .pointer (some ⟨bx2, 0, none⟩)), (3, .pointer (some ⟨bx3, 0, none⟩)), (4, .pointer (some ⟨bx4, 0, none⟩))], [box bx2 45 3 (ccs (([], [], []) : Crit)), box bx3 4 1 [.bool true], box bx4 23 1 [.int .i64 0], objA D (.deferred (some []))]⟩ ?hq ?kq
   case hq =>
    refine .v (.build (parts := []) (cs := #[.string ByteArray.empty, .string ByteArray.empty, .string ByteArray.empty]) rfl (by kernel_rfl)) ?_
    refine AK.storeBox 0 (us := ccs (([], [], []) : Crit)) (cs' := ccs (([], [], []) : Crit)) rfl sz45 rfl rfl rfl rfl (ccs_one _) (Nat.le_of_ble_eq_true rfl) rfl trivial ?_
    refine AK.storeBox 1 (us := [.bool true]) (cs' := [.bool true]) rfl sz4 rfl rfl rfl rfl oneP (Nat.le_of_ble_eq_true rfl) rfl trivial ?_
    refine AK.storeBox 2 (us := [.int .i64 0]) (cs' := [.int .i64 0]) rfl sz23 rfl rfl rfl rfl oneP (Nat.le_of_ble_eq_true rfl) rfl trivial ?_
    exact AK.nil (AK.slots [(2, _), (3, _), (4, _)] slr (fun a w hs => hs))
   case kq =>
    refine AKd.retC ?_
    refine AKd.fin 3 rfl ?_
    refine AK.retG [.cell 2 45, .cell 3 4, .cell 4 23] rfl (.cons (.cell ag45 rfl bsp rfl rfl) (.cons (.cell1 on4 rfl bsp) (.cons (.cell1 on23 rfl bsp) .nil))) (fun w hw => ⟨_, _, ?_, rfl, Ret.of (hw.pick [] (by decide) rfl rfl)⟩)
    unfold CfR
    rw [if_neg (by omega), cfR_all hall]
    exact ⟨rfl, rfl⟩
  ·intro D c q hq
   cases c with
   | ret =>
    refine AKd.exE 0 rfl (fun z hz => ?_)
    refine AKd.own' [box bx2 45 3 (ccs z.1), box bx3 4 1 [.bool z.2.1], box bx4 23 1 [.int .i64 z.2.2], objA D (.deferred (some []))] (fun w hw => (HW.flat (l := [_, _, _]) (own := [_, _]) hw).pick [0, 1, 2, 4] (by decide) rfl rfl) ?_
    refine AKd.retC ?_
    refine AKd.fin 3 rfl ?_
    refine AK.retG [.cell 2 45, .cell 3 4, .cell 4 23] rfl (.cons (.cell ag45 rfl bsp rfl rfl) (.cons (.cell1 on4 rfl bsp) (.cons (.cell1 on23 rfl bsp) .nil))) (fun w hw => ⟨_, _, ?_, rfl, Ret.of (hw.pick [] (by decide) rfl rfl)⟩)
    unfold CfR
    rw [if_neg (by omega), hz]
    exact ⟨rfl, rfl⟩
   | _ => exact AKd.bot 0 rfl

end Go.Proofs.Ytaeojcaidcjnaaa
