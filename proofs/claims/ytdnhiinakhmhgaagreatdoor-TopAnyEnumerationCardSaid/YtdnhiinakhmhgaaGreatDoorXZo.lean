import Derived.Test.YtdnhiinakhmhgaaGreatDoorXZi
import Derived.Test.YtdnhiinakhmhgaaGreatDoorXZn
set_option linter.unusedVariables false
set_option linter.unusedSimpArgs false
set_option maxRecDepth 100000
namespace Go.Proofs.YtdnhiinakhmhgaaGreatDoor
open Go.Sx Go.RowKit
set_option maxHeartbeats 4000000 in
theorem l_anyenum (w : World) (v : Value) (G : List (List Int)) (h : RdLL (fun _ => False) (Value.int .i64) w v G) (mon : Bool) (v2 : Value) (bs : List UInt8) (h2 : RdL (fun _ => False) byv w v2 bs) (hT : TbA w) : CallS Tryz.prog 3 [v, .bool mon, v2] w (fun r o => r = .bool true ∧ o = []) := by
 unfold RdL at h2
 have hm2 := Rd.le h2
 refine spec_of Tryz.func3 rfl (leb rfl) ?_
 refine .sr fun _ hK1 => ?_
 refine .as rfl (.nt hK1 ?_)
 refine .seq fun _ hK2 => ?_
 refine .sr fun _ hK3 => ?_
 refine .mv rfl ?_
 refine AK.call co6 rfl (fun w hw => s_right w v G (h.at hw) 4) trivial rfl ?_
 rintro r o ⟨rfl, rfl⟩
 refine .v (.not rfl) ?_
 refine .mv rfl ?_
 refine AK.splitB (g := 17) rfl (fun hg_1_3 => ?_) (fun hg_1_3 => ?_)
 ·have hg_1_3' := hg_1_3
  try simp only [bs] at hg_1_3'
  refine AK.pass rfl rfl (hg_1_3) rfl ?_
  refine AK.pass rfl rfl (hg_1_3) rfl ?_
  refine AK.pass rfl rfl (hg_1_3) rfl ?_
  refine .v (.pickT rfl (hg_1_3) rfl) ?_
  refine .nt hK3 ?_
  refine AK.cond_t rfl (rfl) ?_
  refine .sr fun _ hK4 => ?_
  refine AK.call co7 rfl (fun w hw => s_awake w (hT.at hw)) trivial rfl ?_
  rintro r o ⟨rfl, rfl⟩
  refine .as rfl (.nt hK4 (.ret (.then_ret ?_)))
  refine AK.ret1 rfl rfl (fun w hw => ⟨_, _, ?_, rfl, Ret.of (hw.pick [] (by decide) rfl rfl)⟩)
  exact ⟨rfl, rfl⟩
 ·have hg_1_3' := hg_1_3
  try simp only [bs] at hg_1_3'
  refine AK.val _ (Yl.move rfl) ⟨_, rfl, gB hg_1_3⟩ rfl ?_
  refine AK.val _ (Yl.lenR sl23 rfl rdp) ⟨_, rfl, gB hg_1_3⟩ rfl ?_
  refine AK.val _ (Yl.gtr rfl rfl) ⟨_, rfl, gB hg_1_3⟩ rfl ?_
  refine .v (.pickF rfl (hg_1_3) rfl) ?_
  refine .nt hK3 ?_
  refine AK.condD rfl (fun hc0 => ?_) (fun hc0 => ?_)
  ·refine .sr fun _ hK5 => ?_
   refine AK.call co7 rfl (fun w hw => s_awake w (hT.at hw)) trivial rfl ?_
   rintro r o ⟨rfl, rfl⟩
   refine .as rfl (.nt hK5 (.ret (.then_ret ?_)))
   refine AK.ret1 rfl rfl (fun w hw => ⟨_, _, ?_, rfl, Ret.of (hw.pick [] (by decide) rfl rfl)⟩)
   exact ⟨rfl, rfl⟩
  ·have hr : rightB G 4 = true := by simpa using hg_1_3
   have hG := rightB_VG hr
   have hbl : bs.length ≤ 8 := by omega
   have hb0 := begN_ok hG mon rfl
   have hbI : RnI (begN G mon) (begN G mon).gens.length G.length := by rw [hb0.2]; exact hb0.1
   refine .skip ?_
   refine AK.then_ (hK2 _ ?_)
   refine .sr fun _ hK6 => ?_
   refine .mv rfl (.mv rfl ?_)
   refine AK.call co8 rfl (fun w hw => s_estart w v G (h.at hw) _ hG rfl mon) trivial rfl ?_
   rintro r o ⟨m0, rfl, hF0, rfl⟩
   refine .mv rfl ?_
   refine .v (.extract rfl rfl) ?_
   refine .v (.extract rfl rfl) ?_
   refine AK.alloc el29 rfl rfl trivial rfl (fun bx7 => ?_)
   refine AK.storeBox 1 (us := (enC m0 (begN G mon))) (cs' := (enC m0 (begN G mon))) rfl sz29 rfl rfl rfl rfl (enC_one hF0) (leb rfl) rfl trivial ?_
   refine .as rfl (.nt hK6 ?_)
   refine .seq fun _ hK7 => ?_
   refine .sr fun _ hK8 => ?_
   refine .mv rfl ?_
   refine .v (.lenR sl23 rfl rdp) ?_
   refine .mv rfl (.nt hK8 (.block ?_))
   refine AK.loopK (X := Nat × Nat × EnM) [(0, _), (1, _), (7, _), (29, _), (30, _)] (fun y => [(8, .int .i64 0), (31, .int .i64 (y.1 : Int))]) (fun y => [bigA (enS 26 3 39 y.2.2 (runK (begN G mon) y.2.1)), box bx7 29 9 (enC y.2.2 (runK (begN G mon) y.2.1))]) (fun y => y.1 ≤ bs.length ∧ EnF y.2.2 (runK (begN G mon) y.2.1)) (fun y => bs.length - y.1) ((0, 0, m0)) slr ?_ ?_ ?_ ?_
   ·exact ⟨Nat.zero_le _, hF0⟩
   ·exact slr
   ·exact fun w hw => hw
   ·intro y hg0 _ hK9
    refine .sr fun _ hK10 => ?_
    refine .v (.lss rfl rfl) ?_
    refine .nt hK10 ?_
    refine .seq fun _ hK11 => ?_
    refine AK.condD rfl (fun hc1 => ?_) (fun hc1 => ?_)
    ·have hF := hg0.2
     have hwy := Go.Sx.Way.run hG mon rfl y.2.1
     have hbi := b31_lt (bs.getD y.1 0)
     refine .skip ?_
     refine AK.then_ (hK11 _ ?_)
     refine .seq fun _ hK12 => ?_
     refine .block ?_
     refine .sr fun _ hK13 => ?_
     first | refine .v (.iN sl23 rfl rfl) ?_ | refine .v (.iK sl23 rfl rfl) ?_
     refine .v (.loadBy on5 rfl rdp (by omega)) ?_
     refine .as rfl (.nt hK13 ?_)
     refine .seq fun _ hK14 => ?_
     refine .sr fun _ hK15 => ?_
     refine .mv rfl ?_
     refine .v (.neq rfl rfl) ?_
     refine .mv rfl ?_
     refine AK.knownF (g := 37) rfl (rfl) (fun hg_7_2 => ?_)
     refine AK.val (.agg (enC y.2.2 (runK (begN G mon) y.2.1)).toArray) (Yl.loadBoxG (cs := enC y.2.2 (runK (begN G mon) y.2.1)) (us := enC y.2.2 (runK (begN G mon) y.2.1)) ag29 rfl bsp rfl rfl) ⟨_, rfl, gB hg_7_2⟩ rfl ?_
     refine AK.call co9 rfl (fun w hw => s_evalid w _ (runK (begN G mon) y.2.1) (RdEn.big (TRI := 26) (TI := 3) (TRU := 39) 0 hw hF rfl) hwy) ⟨_, rfl, gB hg_7_2⟩ rfl ?_
     rintro r o ⟨rfl, rfl⟩
     refine AK.val _ (Yl.neq rfl rfl) ⟨_, rfl, gB hg_7_2⟩ rfl ?_
     refine .v (.pickF rfl (hg_7_2) rfl) ?_
     refine .nt hK15 ?_
     refine AK.cond_f rfl (rfl) ?_
     refine .skip ?_
     refine AK.then_ (hK14 _ ?_)
     refine AK.region ?_
     refine AK.val (.agg (enC y.2.2 (runK (begN G mon) y.2.1)).toArray) (Yl.loadBoxG (cs := enC y.2.2 (runK (begN G mon) y.2.1)) (us := enC y.2.2 (runK (begN G mon) y.2.1)) ag29 rfl bsp rfl rfl) trivial rfl ?_
     refine .mv rfl ?_
     refine .v (.and31 rfl rfl) ?_
     refine .v (.convI (by kernel_rfl) un3 rfl (wrap_i64 (by omega))) ?_
     refine AK.call co10 rfl (fun w hw => s_estep w _ (runK (begN G mon) y.2.1) (RdEn.big (TRI := 26) (TI := 3) (TRU := 39) 0 hw hF rfl) hwy (b31 (bs.getD y.1 0)) (by omega) (runK (begN G mon) (y.2.1 + (b31 (bs.getD y.1 0)))) (runK_add _ _ _).symm) trivial rfl ?_
     rintro r o ⟨m2, rfl, hF2, rfl⟩
     refine .mv rfl ?_
     refine .v (.extract rfl rfl) ?_
     refine .v (.extract rfl rfl) ?_
     refine AK.storeBox 1 (us := (enC m2 (runK (begN G mon) (y.2.1 + (b31 (bs.getD y.1 0)))))) (cs' := (enC m2 (runK (begN G mon) (y.2.1 + (b31 (bs.getD y.1 0)))))) rfl sz29 rfl rfl rfl rfl (enC_one hF2) (leb rfl) rfl trivial ?_
     refine .as rfl (.nil (.block_normal ?_))
     refine AK.then_ (hK12 _ ?_)
     refine AK.region ?_
     refine .v (.add rfl rfl (by omega)) ?_
     refine .mv rfl (.nil ?_)
     refine AK.then_ (hK9 _ _ ((y.1 + 1, y.2.1 + (b31 (bs.getD y.1 0)), m2)) ⟨by dsimp only; omega, hF2⟩ (by dsimp only; omega) (slr) (fun w hw => hw.pick [2, 1] (by decide) rfl rfl))
    ·have hF := hg0.2
     have hwy := Go.Sx.Way.run hG mon rfl y.2.1
     have hwe := Go.Sx.Way.run hG mon rfl 257
     have hqe : runK (runK (begN G mon) y.2.1) 2000 = runK (begN G mon) 257 := by rw [← runK_add]; exact runK_same hbI (by omega) (Nat.le_refl _)
     have hfin : finR (runK (begN G mon) 257) := runK_ends hbI (Nat.le_refl _)
     obtain ⟨QE, hQ⟩ : ∃ q, runK (begN G mon) 257 = q := ⟨_, rfl⟩
     rw [hQ] at hwe hqe hfin
     have hrn : QE.rules.length ≤ 100000 := Nat.le_trans hwe.ok.ru hwe.bnd
     refine .exit (.then_exit (.then_exit (.block_exit ?_)))
     refine AK.then_ (hK7 _ ?_)
     refine .seq fun _ hK16 => ?_
     refine .sr fun _ hK17 => ?_
     refine .mv rfl ?_
     refine .v (.neq rfl rfl) ?_
     refine .nt hK17 ?_
     refine AK.cond_f rfl (rfl) ?_
     refine .skip ?_
     refine AK.then_ (hK16 _ ?_)
     refine .sr fun _ hK18 => ?_
     refine AK.val (.agg (enC y.2.2 (runK (begN G mon) y.2.1)).toArray) (Yl.loadBoxG (cs := enC y.2.2 (runK (begN G mon) y.2.1)) (us := enC y.2.2 (runK (begN G mon) y.2.1)) ag29 rfl bsp rfl rfl) trivial rfl ?_
     refine AK.call co10 rfl (fun w hw => s_estep w _ (runK (begN G mon) y.2.1) (RdEn.big (TRI := 26) (TI := 3) (TRU := 39) 0 hw hF rfl) hwy 2000 (by decide) QE hqe) trivial rfl ?_
     rintro r o ⟨m3, rfl, hF3, rfl⟩
     refine .mv rfl ?_
     refine .v (.extract rfl rfl) ?_
     refine .v (.extract rfl rfl) ?_
     refine AK.storeBox 1 (us := (enC m3 QE)) (cs' := (enC m3 QE)) rfl sz29 rfl rfl rfl rfl (enC_one hF3) (leb rfl) rfl trivial ?_
     refine .as rfl (.nt hK18 ?_)
     refine .sr fun _ hK19 => ?_
     refine .mv rfl (.mv rfl ?_)
     refine AK.call co11 rfl (fun w hw => s_ebuild w v G (h.at hw) _ hG rfl mon QE hQ) trivial rfl ?_
     rintro r o ⟨m4, rfl, hF4, rfl⟩
     refine .mv rfl ?_
     refine .v (.extract rfl rfl) ?_
     refine .v (.extract rfl rfl) ?_
     refine AK.alloc el29 rfl rfl trivial rfl (fun bx11 => ?_)
     refine AK.storeBox 4 (us := (enC m4 QE)) (cs' := (enC m4 QE)) rfl sz29 rfl rfl rfl rfl (enC_one hF4) (leb rfl) rfl trivial ?_
     refine .as rfl ?_
     refine AK.own' [box bx7 29 9 (enC m3 QE), row m3.vG 26 1 QE.gens.length m3.gs, bigA (matG (Value.int .i64) 3 m3.gs QE.gens), row m3.vE 26 1 QE.elems.length m3.es, bigA (matG (Value.int .i64) 3 m3.es QE.elems), row m3.vP 3 1 QE.pre.length (QE.pre.map (Value.int .i64)), row m3.vL 3 1 QE.las.length (QE.las.map (Value.int .i64)), row m3.vR 26 1 QE.right.length m3.rs, bigA (matG (Value.int .i64) 3 m3.rs QE.right), row m3.vU 39 2 QE.rules.length (rlc QE.rules), box bx11 29 9 (enC m4 QE), row m4.vG 26 1 QE.gens.length m4.gs, bigA (matG (Value.int .i64) 3 m4.gs QE.gens), row m4.vE 26 1 QE.elems.length m4.es, bigA (matG (Value.int .i64) 3 m4.es QE.elems), row m4.vP 3 1 QE.pre.length (QE.pre.map (Value.int .i64)), row m4.vL 3 1 QE.las.length (QE.las.map (Value.int .i64)), row m4.vR 26 1 QE.right.length m4.rs, bigA (matG (Value.int .i64) 3 m4.rs QE.right), row m4.vU 39 2 QE.rules.length (rlc QE.rules)] (fun w hw => by
      have h1 := hw.pick [1, 2, 4, 3] (by decide) rfl rfl
      have h2 := HW.flatAt (pre := [_]) (l := enS 26 3 39 m3 QE) (post := [_, _]) h1
      have h3 := HW.flatAt (pre := [_, _, _, _, _, _, _, _, _, _, _]) (l := enS 26 3 39 m4 QE) (post := []) h2
      exact h3) ?_
     refine .nt hK19 ?_
     refine .seq fun _ hK20 => ?_
     refine .sr fun _ hK21 => ?_
     refine .mv rfl ?_
     refine .v (.neq rfl rfl) ?_
     refine .mv rfl ?_
     refine AK.knownF (g := 66) rfl (rfl) (fun hg_15_2 => ?_)
     refine AK.val _ (Yl.move rfl) ⟨_, rfl, gB hg_15_2⟩ rfl ?_
     refine AK.val _ (Yl.neq rfl rfl) ⟨_, rfl, gB hg_15_2⟩ rfl ?_
     refine .v (.pickF rfl (hg_15_2) rfl) ?_
     refine .mv rfl ?_
     refine AK.knownF (g := 70) rfl (rfl) (fun hg_15_6 => ?_)
     refine AK.val (.agg (enC m3 QE).toArray) (Yl.loadBoxG (cs := enC m3 QE) (us := enC m3 QE) ag29 rfl bsp rfl rfl) ⟨_, rfl, gB hg_15_6⟩ rfl ?_
     refine AK.call co12 rfl (fun w hw => s_efinished w _ QE (RdEn.own (TRI := 26) (TI := 3) (TRU := 39) 0 (hw.pick [1, 2, 3, 4, 5, 6, 7, 8, 9] (by decide) (show enS 26 3 39 m3 QE = _ from rfl) rfl) hF3 (fun k hk => by rw [Nat.zero_add])) hwe) ⟨_, rfl, gB hg_15_6⟩ rfl ?_
     rintro r o ⟨rfl, rfl⟩
     refine AK.val _ (Yl.not rfl) ⟨_, rfl, gB hg_15_6⟩ rfl ?_
     refine .v (.pickF rfl (hg_15_6) rfl) ?_
     refine .mv rfl ?_
     refine AK.knownF (g := 75) rfl (by rw [decide_eq_true (show QE.done = QE.elems.length from hfin)]; rfl) (fun hg_15_11 => ?_)
     refine AK.val _ (Yl.fieldAddr fd29_3 rfl) ⟨_, rfl, gB hg_15_11⟩ rfl ?_
     refine AK.val _ (Yl.loadBox on22 rfl bsp rfl) ⟨_, rfl, gB hg_15_11⟩ rfl ?_
     refine AK.val _ (Yl.fieldAddr fd29_3 rfl) ⟨_, rfl, gB hg_15_11⟩ rfl ?_
     refine AK.val _ (Yl.loadBox on22 rfl bsp rfl) ⟨_, rfl, gB hg_15_11⟩ rfl ?_
     refine AK.call co13 rfl (fun w hw => s_samerows w _ _ QE.elems QE.elems (RdLL.own 3 4 hw hF3.el rfl rfl) (RdLL.own 13 14 hw hF4.el rfl rfl)) ⟨_, rfl, gB hg_15_11⟩ rfl ?_
     rintro r o ⟨rfl, rfl⟩
     refine AK.val _ (Yl.not rfl) ⟨_, rfl, gB hg_15_11⟩ rfl ?_
     refine .v (.pickF rfl (hg_15_11) rfl) ?_
     refine .mv rfl ?_
     refine AK.knownF (g := 83) rfl (by rw [decide_eq_true rfl]; rfl) (fun hg_15_19 => ?_)
     refine AK.val _ (Yl.fieldAddr fd29_6 rfl) ⟨_, rfl, gB hg_15_19⟩ rfl ?_
     refine AK.val _ (Yl.loadBox on22 rfl bsp rfl) ⟨_, rfl, gB hg_15_19⟩ rfl ?_
     refine AK.val _ (Yl.fieldAddr fd29_6 rfl) ⟨_, rfl, gB hg_15_19⟩ rfl ?_
     refine AK.val _ (Yl.loadBox on22 rfl bsp rfl) ⟨_, rfl, gB hg_15_19⟩ rfl ?_
     refine AK.call co13 rfl (fun w hw => s_samerows w _ _ QE.right QE.right (RdLL.own 7 8 hw hF3.rl rfl rfl) (RdLL.own 17 18 hw hF4.rl rfl rfl)) ⟨_, rfl, gB hg_15_19⟩ rfl ?_
     rintro r o ⟨rfl, rfl⟩
     refine AK.val _ (Yl.not rfl) ⟨_, rfl, gB hg_15_19⟩ rfl ?_
     refine .v (.pickF rfl (hg_15_19) rfl) ?_
     refine .mv rfl ?_
     refine AK.knownF (g := 91) rfl (by rw [decide_eq_true rfl]; rfl) (fun hg_15_27 => ?_)
     refine AK.val _ (Yl.fieldAddr fd29_4 rfl) ⟨_, rfl, gB hg_15_27⟩ rfl ?_
     refine AK.val _ (Yl.loadBox on26 rfl bsp rfl) ⟨_, rfl, gB hg_15_27⟩ rfl ?_
     refine AK.val _ (Yl.fieldAddr fd29_4 rfl) ⟨_, rfl, gB hg_15_27⟩ rfl ?_
     refine AK.val _ (Yl.loadBox on26 rfl bsp rfl) ⟨_, rfl, gB hg_15_27⟩ rfl ?_
     refine AK.call co14 rfl (fun w hw => s_same w _ _ QE.pre QE.pre (RdL.own 5 hw rfl) (RdL.own 15 hw rfl)) ⟨_, rfl, gB hg_15_27⟩ rfl ?_
     rintro r o ⟨rfl, rfl⟩
     refine AK.val _ (Yl.not rfl) ⟨_, rfl, gB hg_15_27⟩ rfl ?_
     refine .v (.pickF rfl (hg_15_27) rfl) ?_
     refine .mv rfl ?_
     refine AK.knownF (g := 99) rfl (by rw [decide_eq_true rfl]; rfl) (fun hg_15_35 => ?_)
     refine AK.val _ (Yl.fieldAddr fd29_5 rfl) ⟨_, rfl, gB hg_15_35⟩ rfl ?_
     refine AK.val _ (Yl.loadBox on26 rfl bsp rfl) ⟨_, rfl, gB hg_15_35⟩ rfl ?_
     refine AK.val _ (Yl.fieldAddr fd29_5 rfl) ⟨_, rfl, gB hg_15_35⟩ rfl ?_
     refine AK.val _ (Yl.loadBox on26 rfl bsp rfl) ⟨_, rfl, gB hg_15_35⟩ rfl ?_
     refine AK.call co14 rfl (fun w hw => s_same w _ _ QE.las QE.las (RdL.own 6 hw rfl) (RdL.own 16 hw rfl)) ⟨_, rfl, gB hg_15_35⟩ rfl ?_
     rintro r o ⟨rfl, rfl⟩
     refine AK.val _ (Yl.not rfl) ⟨_, rfl, gB hg_15_35⟩ rfl ?_
     refine .v (.pickF rfl (hg_15_35) rfl) ?_
     refine .mv rfl ?_
     refine AK.knownF (g := 107) rfl (by rw [decide_eq_true rfl]; rfl) (fun hg_15_43 => ?_)
     refine AK.val _ (Yl.fieldAddr fd29_7 rfl) ⟨_, rfl, gB hg_15_43⟩ rfl ?_
     refine AK.val _ (Yl.loadBox on27 rfl bsp rfl) ⟨_, rfl, gB hg_15_43⟩ rfl ?_
     refine AK.val _ (Yl.lenR sl27 rfl rdp) ⟨_, rfl, gB hg_15_43⟩ rfl ?_
     refine AK.val _ (Yl.fieldAddr fd29_7 rfl) ⟨_, rfl, gB hg_15_43⟩ rfl ?_
     refine AK.val _ (Yl.loadBox on27 rfl bsp rfl) ⟨_, rfl, gB hg_15_43⟩ rfl ?_
     refine AK.val _ (Yl.lenR sl27 rfl rdp) ⟨_, rfl, gB hg_15_43⟩ rfl ?_
     refine AK.val _ (Yl.neq rfl rfl) ⟨_, rfl, gB hg_15_43⟩ rfl ?_
     refine .v (.pickF rfl (hg_15_43) rfl) ?_
     refine .nt hK21 ?_
     refine AK.cond_f rfl (decide_eq_false (not_not_intro rfl)) ?_
     refine .skip ?_
     refine AK.then_ (hK20 _ ?_)
     refine .seq fun _ hK22 => ?_
     refine .sr fun _ hK23 => ?_
     refine .v (.fieldAddr fd29_7 rfl) ?_
     refine .v (.loadBox on27 rfl bsp rfl) ?_
     refine .v (.lenR sl27 rfl rdp) ?_
     refine .mv rfl (.nt hK23 (.block ?_))
     refine AK.loopK (X := Nat) [(7, _), (11, _), (118, _)] (fun k => [(119, .int .i64 (k : Int))]) (fun k => [box bx7 29 9 (enC m3 QE), row m3.vG 26 1 QE.gens.length m3.gs, bigA (matG (Value.int .i64) 3 m3.gs QE.gens), row m3.vE 26 1 QE.elems.length m3.es, bigA (matG (Value.int .i64) 3 m3.es QE.elems), row m3.vP 3 1 QE.pre.length (QE.pre.map (Value.int .i64)), row m3.vL 3 1 QE.las.length (QE.las.map (Value.int .i64)), row m3.vR 26 1 QE.right.length m3.rs, bigA (matG (Value.int .i64) 3 m3.rs QE.right), row m3.vU 39 2 QE.rules.length (rlc QE.rules), box bx11 29 9 (enC m4 QE), row m4.vG 26 1 QE.gens.length m4.gs, bigA (matG (Value.int .i64) 3 m4.gs QE.gens), row m4.vE 26 1 QE.elems.length m4.es, bigA (matG (Value.int .i64) 3 m4.es QE.elems), row m4.vP 3 1 QE.pre.length (QE.pre.map (Value.int .i64)), row m4.vL 3 1 QE.las.length (QE.las.map (Value.int .i64)), row m4.vR 26 1 QE.right.length m4.rs, bigA (matG (Value.int .i64) 3 m4.rs QE.right), row m4.vU 39 2 QE.rules.length (rlc QE.rules)]) (fun k => k ≤ QE.rules.length) (fun k => QE.rules.length - k) (0) slr ?_ ?_ ?_ ?_
     ·exact Nat.zero_le _
     ·exact slr
     ·exact fun w hw => hw
     ·intro k hg1 _ hK24
      refine .sr fun _ hK25 => ?_
      refine .v (.lss rfl rfl) ?_
      refine .nt hK25 ?_
      refine .seq fun _ hK26 => ?_
      refine AK.condD rfl (fun hc5 => ?_) (fun hc5 => ?_)
      ·refine .skip ?_
       refine AK.then_ (hK26 _ ?_)
       refine .seq fun _ hK27 => ?_
       refine .block ?_
       refine .sr fun _ hK28 => ?_
       refine .mv rfl (.as rfl (.nt hK28 ?_))
       refine .seq fun _ hK29 => ?_
       refine AK.quiet mixed krf ?_
       refine .v (.fieldAddr fd29_7 rfl) ?_
       refine .v (.loadBox on27 rfl bsp rfl) ?_
       refine .mv rfl ?_
       first | refine .v (.iN sl27 rfl rfl) ?_ | refine .v (.iK sl27 rfl rfl) ?_
       refine .v (.loadRu ag39 rfl rdp (by omega)) ?_
       refine .v (.fieldAddr fd29_7 rfl) ?_
       refine .v (.loadBox on27 rfl bsp rfl) ?_
       refine .mv rfl ?_
       first | refine .v (.iN sl27 rfl rfl) ?_ | refine .v (.iK sl27 rfl rfl) ?_
       refine .v (.loadRu ag39 rfl rdp (by omega)) ?_
       refine .v (.neqRu eqt39 rfl rfl) ?_
       refine QK.nil (QK.fin ?_)
       refine AK.then_ (hK29 _ ?_)
       refine AK.cond_f rfl (decide_eq_false (not_not_intro rfl)) ?_
       refine .skip (.block_normal ?_)
       refine AK.then_ (hK27 _ ?_)
       refine AK.region ?_
       refine .v (.add rfl rfl (by omega)) ?_
       refine .mv rfl (.nil ?_)
       refine AK.then_ (hK24 _ _ (k + 1) (by omega) (by omega) (slr) (fun w hw => hw))
      ·refine .exit (.then_exit (.then_exit (.block_exit ?_)))
       refine AK.then_ (hK22 _ ?_)
       refine .sr fun _ hK30 => ?_
       refine AK.call co7 rfl (fun w hw => s_awake w (hT.at hw)) trivial rfl ?_
       rintro r o ⟨rfl, rfl⟩
       refine .as rfl (.nt hK30 (.ret ?_))
       refine AK.ret1 rfl rfl (fun w hw => ⟨_, _, ?_, rfl, Ret.of (hw.pick [] (by decide) rfl rfl)⟩)
       exact ⟨rfl, rfl⟩

end Go.Proofs.YtdnhiinakhmhgaaGreatDoor
