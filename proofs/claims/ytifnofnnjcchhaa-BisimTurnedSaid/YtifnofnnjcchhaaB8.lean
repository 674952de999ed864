import Derived.Test.YtifnofnnjcchhaaB7
import Derived.Test.YtifnofnnjcchhaaB1
import Derived.Test.YtifnofnnjcchhaaBd
set_option linter.unusedVariables false
set_option linter.unusedSimpArgs false
namespace Go.Proofs.Ytifnofnnjcchhaa
open Go.Sx Go.RowKit Go.Sx.Pt
set_option maxRecDepth 100000 in
theorem q_refdisc (w : World) (n : Int) (hn : 0 ≤ n ∧ n ≤ 4096) : CallS Try.prog 42 [.int .i64 n] w (fun r o => o = [row r 3 1 n.toNat ((idl n.toNat).map (Value.int .i64))]) := by
 refine spec_of Try.func42 rfl (Nat.le_of_ble_eq_true rfl) ?_
 refine .sr fun _ hK1 => ?_
 refine .as rfl (.nt hK1 ?_)
 refine .sr fun _ hK2 => ?_
 refine .mv rfl ?_
 refine AK.make1Z sl26 el3 rfl rfl rfl (by omega) (by omega) (by omega) trivial rfl (fun mv0 => ?_)
 refine .as rfl (.nt hK2 ?_)
 refine .seq fun _ hK3 => ?_
 refine .sr fun _ hK4 => ?_
 refine .mv rfl ?_
 refine .v (.lenR sl26 rfl rdp) ?_
 refine .mv rfl (.nt hK4 (.block ?_))
 refine AK.loopK (X := Nat) [(3, _), (8, _)] (fun k => [(9, .int .i64 (k : Int))]) (fun k => [row mv0 3 1 n.toNat ((idl k ++ List.replicate (n.toNat - k) 0).map (Value.int .i64))]) (fun k => k ≤ n.toNat) (fun k => n.toNat - k) (0) slr ?_ ?_ ?_ ?_
 ·exact Nat.zero_le _
 ·exact slr
 ·exact fun w hw => by simpa [idl] using hw
 ·intro k hg0 _ hK5
  refine .sr fun _ hK6 => ?_
  refine .v (.lss rfl rfl) ?_
  refine .nt hK6 ?_
  refine .seq fun _ hK7 => ?_
  refine AK.condD rfl (fun hc0 => ?_) (fun hc0 => ?_)
  ·refine .skip ?_
   refine AK.then_ (hK7 _ ?_)
   refine .seq fun _ hK8 => ?_
   refine .block ?_
   refine .sr fun _ hK9 => ?_
   refine .mv rfl (.as rfl (.nt hK9 ?_))
   refine AK.region ?_
   refine .mv rfl (.mv rfl (.mv rfl ?_))
   first | refine .v (.iN sl26 rfl rfl) ?_ | refine .v (.iK sl26 rfl rfl) ?_
   refine AK.store1e 0 rfl sz3 rfl rfl rfl rfl (by omega) (cs' := ((idl (k + 1) ++ List.replicate (n.toNat - (k + 1)) 0).map (Value.int .i64))) (by rw [idl_succ]; exact fill_set (Value.int .i64) (idl k) 0 _ n.toNat k (idl_length k) (by omega)) trivial ?_
   refine .nil (.block_normal ?_)
   refine AK.then_ (hK8 _ ?_)
   refine AK.region ?_
   refine .v (.add rfl rfl (by omega)) ?_
   refine .mv rfl (.nil ?_)
   refine AK.then_ (hK5 _ _ (k + 1) (by omega) (by omega) (slr) (fun w hw => hw))
  ·refine .exit (.then_exit (.then_exit (.block_exit ?_)))
   refine AK.then_ (hK3 _ ?_)
   refine .sr fun _ hK10 => ?_
   refine .mv rfl (.as rfl (.nt hK10 (.ret ?_)))
   refine AK.ret1 rfl rfl (fun w hw => ⟨_, _, ?_, rfl, Ret.of (hw.pick [0] (by decide) rfl rfl)⟩)
   have hk : k = n.toNat := (by omega)
   subst hk
   simp

set_option maxHeartbeats 2000000 in
set_option maxRecDepth 100000 in
theorem s_least (w : World) (u v : Value) (a b : Dfa) (hu : RdD (fun _ => False) w u a) (hv : RdD (fun _ => False) w v b) (ha : VD a) (hb : VD b) (hL : a.L = b.L) : CallS Try.prog 18 [u, v] w (fun r o => IsSl r ∧ o = [row r 3 1 (leastL a b).length ((leastL a b).map (Value.int .i64))]) := by
 have hu0 := hu
 have hv0 := hv
 obtain ⟨aF, aN, rfl, haF, haN⟩ := hu
 obtain ⟨bF, bN, rfl, hbF, hbN⟩ := hv
 have haF0 := haF
 have hbF0 := hbF
 unfold RdL at haF hbF
 have m1 := haF.le
 have m2 := hbF.le
 have hna := ha.n
 have hnb := hb.n
 have has := ha.s
 have hbs := hb.s
 have haL := ha.L
 have hel := both_len a b
 have hnl := both_nlen ha hb
 have hbL2 : (bothD a b).L = a.L := rfl
 refine spec_of Try.func18 rfl (Nat.le_of_ble_eq_true rfl) ?_
 refine .sr fun _ hK1 => ?_
 refine AK.box_ (E := 25) (cs := [.int .i64 a.L, .int .i64 a.s, aF, aN]) rfl rfl rfl trivial rfl (fun bx2 => ?_)
 refine AK.box_ (E := 25) (cs := [.int .i64 b.L, .int .i64 b.s, bF, bN]) rfl rfl rfl trivial rfl (fun bx3 => ?_)
 refine .as rfl (.nt hK1 ?_)
 refine .sr fun _ hK2 => ?_
 refine .v (.loadBoxG ag25 rfl bsp rfl rfl) ?_
 refine .v (.loadBoxG ag25 rfl bsp rfl rfl) ?_
 refine AK.call co41 rfl (fun w hw => s_refboth w _ _ a b (hu0.at hw) (hv0.at hw) ha hb) trivial rfl ?_
 rintro r o ⟨eF, eN, er, rfl, hers, seF, seN, rfl⟩
 refine AK.alloc el25 rfl rfl trivial rfl (fun bx5 => ?_)
 refine AK.storeBox 5 (us := [.int .i64 (bothD a b).L, .int .i64 (bothD a b).s, eF, eN]) (cs' := [.int .i64 (bothD a b).L, .int .i64 (bothD a b).s, eF, eN]) rfl sz25 rfl rfl rfl rfl oneP (Nat.le_of_ble_eq_true rfl) rfl trivial ?_
 refine .nt hK2 ?_
 refine .sr fun _ hK3 => ?_
 refine .v (.fieldAddr fd25_2 rfl) ?_
 refine .v (.loadBox on22 rfl bsp rfl) ?_
 refine .v (.lenR sl22 rfl (by first | exact rdp | exact .big 4 _ rfl (matG_get hers (by omega)))) ?_
 refine AK.call co42 rfl (fun w hw => q_refdisc w ((bothD a b).fin.length : Int) (by omega)) trivial rfl ?_
 rintro dv o rfl
 rw [show (((bothD a b).fin.length : Nat) : Int).toNat = (a.fin.length + b.fin.length) from by omega]
 refine .as rfl (.nt hK3 ?_)
 refine .sr fun _ hK4 => ?_
 refine .mv rfl ?_
 refine .v (.fieldAddr fd25_1 rfl) ?_
 refine .v (.loadBox on3 rfl bsp rfl) ?_
 refine .v (.fieldAddr fd25_2 rfl) ?_
 refine .v (.loadBox on22 rfl bsp rfl) ?_
 refine .v (.lenR sl22 rfl (by first | exact rdp | exact .big 4 _ rfl (matG_get hers (by omega)))) ?_
 refine .v (.fieldAddr fd25_1 rfl) ?_
 refine .v (.loadBox on3 rfl bsp rfl) ?_
 refine .v (.add rfl rfl (by omega)) ?_
 refine AK.callM 6 rfl co43 rfl (fun w F hw hA => q_merge w F dv (idl (a.fin.length + b.fin.length)) (a.fin.length + b.fin.length) a.s ((a.fin.length : Int) + b.s) hA (idl_length _) (by omega) (by omega) (by omega)) trivial rfl ?_
 rintro r A o ⟨rfl, rfl, rfl⟩
 refine .nt hK4 ?_
 refine .seq fun _ hK5 => ?_
 refine .sr fun _ hK6 => ?_
 refine .as rfl (.nt hK6 (.block ?_))
 refine AK.loopK (X := Bool × List Int) [(5, _), (6, _)] (fun x => [(7, .bool x.1)]) (fun x => [box bx2 25 4 [.int .i64 a.L, .int .i64 a.s, aF, aN], box bx3 25 4 [.int .i64 b.L, .int .i64 b.s, bF, bN], row eF 4 1 (bothD a b).fin.length ((bothD a b).fin.map Value.bool), row eN 26 1 (bothD a b).nx.length er, bigA (matG (Value.int .i64) 3 er (bothD a b).nx), box bx5 25 4 [.int .i64 (bothD a b).L, .int .i64 (bothD a b).s, eF, eN], row dv 3 1 (a.fin.length + b.fin.length) (x.2.map (Value.int .i64))]) (fun x => LInv a b x.2 ∧ (x.1 = false → canonB x.2 = leastL a b)) (fun x => (ded x.2).length + x.1.toNat) ((true, (mergeL (idl (a.fin.length + b.fin.length)) a.s.toNat ((a.fin.length : Int) + b.s).toNat))) slr ?_ ?_ ?_ ?_
 ·exact ⟨LInv.init ha hb hL, fun h => (by cases h)⟩
 ·exact slr
 ·exact fun w hw => hw
 ·intro x hg0 _ hK7
  have hxl := hg0.1.len
  refine .seq fun _ hK8 => ?_
  refine .sr fun _ hK9 => ?_
  refine .mv rfl (.nt hK9 ?_)
  refine AK.cond rfl (fun hc0 => ?_) (fun hc0 => ?_)
  ·try simp only [bs] at hc0
   refine .skip ?_
   refine AK.then_ (hK8 _ ?_)
   refine .block ?_
   refine .sr fun _ hK10 => ?_
   refine .as rfl (.nt hK10 ?_)
   refine .sr fun _ hK11 => ?_
   refine .mv rfl ?_
   refine .v (.lenR sl26 rfl (by first | exact rdp | exact .big 4 _ rfl (matG_get hers (by omega)))) ?_
   refine .mv rfl (.nt hK11 (.block ?_))
   refine AK.loopK (X := Nat × Bool × List Int) [(5, _), (6, _), (32, _)] (fun y => [(7, .bool y.2.1), (33, .int .i64 (y.1 : Int))]) (fun y => [box bx2 25 4 [.int .i64 a.L, .int .i64 a.s, aF, aN], box bx3 25 4 [.int .i64 b.L, .int .i64 b.s, bF, bN], row eF 4 1 (bothD a b).fin.length ((bothD a b).fin.map Value.bool), row eN 26 1 (bothD a b).nx.length er, bigA (matG (Value.int .i64) 3 er (bothD a b).nx), box bx5 25 4 [.int .i64 (bothD a b).L, .int .i64 (bothD a b).s, eF, eN], row dv 3 1 (a.fin.length + b.fin.length) (y.2.2.map (Value.int .i64))]) (fun y => y.1 ≤ (a.fin.length + b.fin.length) ∧ LRnd a b x.2 y.1 0 0 y.2.1 y.2.2) (fun y => (a.fin.length + b.fin.length) - y.1) ((0, false, x.2)) slr ?_ ?_ ?_ ?_
   ·exact ⟨Nat.zero_le _, LRnd.init hg0.1⟩
   ·exact slr
   ·exact fun w hw => hw
   ·intro y hg1 _ hK12
    refine .sr fun _ hK13 => ?_
    refine .v (.lss rfl rfl) ?_
    refine .nt hK13 ?_
    refine .seq fun _ hK14 => ?_
    refine AK.condD rfl (fun hc1 => ?_) (fun hc1 => ?_)
    ·have hr1 := both_row ha hb hL (show y.1 < (a.fin.length + b.fin.length) by omega)
     refine .skip ?_
     refine AK.then_ (hK14 _ ?_)
     refine .seq fun _ hK15 => ?_
     refine .block ?_
     refine .sr fun _ hK16 => ?_
     refine .mv rfl (.as rfl (.nt hK16 ?_))
     refine .sr fun _ hK17 => ?_
     refine .as rfl (.nt hK17 (.block ?_))
     refine AK.loopK (X := Nat × Bool × List Int) [(5, _), (6, _), (8, _), (32, _), (33, _)] (fun z => [(7, .bool z.2.1), (9, .int .i64 (z.1 : Int))]) (fun z => [box bx2 25 4 [.int .i64 a.L, .int .i64 a.s, aF, aN], box bx3 25 4 [.int .i64 b.L, .int .i64 b.s, bF, bN], row eF 4 1 (bothD a b).fin.length ((bothD a b).fin.map Value.bool), row eN 26 1 (bothD a b).nx.length er, bigA (matG (Value.int .i64) 3 er (bothD a b).nx), box bx5 25 4 [.int .i64 (bothD a b).L, .int .i64 (bothD a b).s, eF, eN], row dv 3 1 (a.fin.length + b.fin.length) (z.2.2.map (Value.int .i64))]) (fun z => z.1 ≤ y.1 ∧ LRnd a b x.2 y.1 z.1 0 z.2.1 z.2.2) (fun z => y.1 - z.1) ((0, y.2)) slr ?_ ?_ ?_ ?_
     ·exact ⟨Nat.zero_le _, hg1.2⟩
     ·exact slr
     ·exact fun w hw => hw
     ·intro z hg2 _ hK18
      refine .seq fun _ hK19 => ?_
      refine .sr fun _ hK20 => ?_
      refine .mv rfl (.mv rfl ?_)
      refine .v (.lss rfl rfl) ?_
      refine .nt hK20 ?_
      refine AK.condD rfl (fun hc2 => ?_) (fun hc2 => ?_)
      ·have hr2 := both_row ha hb hL (show z.1 < (a.fin.length + b.fin.length) by omega)
       refine .skip ?_
       refine AK.then_ (hK19 _ ?_)
       refine .seq fun _ hK21 => ?_
       refine .block ?_
       refine .sr fun _ hK22 => ?_
       refine .as rfl (.nt hK22 (.block ?_))
       refine AK.loopK (X := Nat × Bool × List Int) [(5, _), (6, _), (8, _), (9, _), (32, _), (33, _)] (fun u => [(7, .bool u.2.1), (10, .int .i64 (u.1 : Int))]) (fun u => [box bx2 25 4 [.int .i64 a.L, .int .i64 a.s, aF, aN], box bx3 25 4 [.int .i64 b.L, .int .i64 b.s, bF, bN], row eF 4 1 (bothD a b).fin.length ((bothD a b).fin.map Value.bool), row eN 26 1 (bothD a b).nx.length er, bigA (matG (Value.int .i64) 3 er (bothD a b).nx), box bx5 25 4 [.int .i64 (bothD a b).L, .int .i64 (bothD a b).s, eF, eN], row dv 3 1 (a.fin.length + b.fin.length) (u.2.2.map (Value.int .i64))]) (fun u => (u.1 : Int) ≤ a.L ∧ LRnd a b x.2 y.1 z.1 u.1 u.2.1 u.2.2) (fun u => a.L.toNat - u.1) ((0, z.2)) slr ?_ ?_ ?_ ?_
       ·exact ⟨by dsimp only; omega, hg2.2⟩
       ·exact slr
       ·exact fun w hw => hw
       ·intro u hg3 _ hK23
        have hul := hg3.2.inv.len
        refine .seq fun _ hK24 => ?_
        refine .seq fun _ hK25 => ?_
        refine AK.quiet mixed krf ?_
        refine .mv rfl ?_
        refine .v (.fieldAddr fd25_0 rfl) ?_
        refine .v (.loadBox on3 rfl bsp rfl) ?_
        refine .v (.lss rfl rfl) ?_
        refine .mv rfl ?_
        refine QK.splitB (g := 45) rfl (fun hg_14_4 => ?_) (fun hg_14_4 => ?_)
        ·have hg_14_4' := hg_14_4
         try simp only [bs] at hg_14_4'
         refine QK.val _ (Yl.move rfl) ⟨_, rfl, congrArg (fun b => some (Value.bool b)) hg_14_4⟩ rfl ?_
         refine QK.val _ (Yl.move rfl) ⟨_, rfl, congrArg (fun b => some (Value.bool b)) hg_14_4⟩ rfl ?_
         first | refine QK.val _ (.iN sl26 rfl rfl (hr := (by first | exact rdp | exact .big 4 _ rfl (matG_get hers (by omega))))) ⟨_, rfl, congrArg (fun b => some (Value.bool b)) hg_14_4⟩ rfl ?_ | refine QK.val _ (.iK sl26 rfl rfl (hr := (by first | exact rdp | exact .big 4 _ rfl (matG_get hers (by omega))))) ⟨_, rfl, congrArg (fun b => some (Value.bool b)) hg_14_4⟩ rfl ?_
         refine QK.val _ (Yl.loadI on3 rfl (by first | exact rdp | exact .big 4 _ rfl (matG_get hers (by omega))) (by omega)) ⟨_, rfl, congrArg (fun b => some (Value.bool b)) hg_14_4⟩ rfl ?_
         refine QK.val _ (Yl.move rfl) ⟨_, rfl, congrArg (fun b => some (Value.bool b)) hg_14_4⟩ rfl ?_
         refine QK.val _ (Yl.move rfl) ⟨_, rfl, congrArg (fun b => some (Value.bool b)) hg_14_4⟩ rfl ?_
         first | refine QK.val _ (.iN sl26 rfl rfl (hr := (by first | exact rdp | exact .big 4 _ rfl (matG_get hers (by omega))))) ⟨_, rfl, congrArg (fun b => some (Value.bool b)) hg_14_4⟩ rfl ?_ | refine QK.val _ (.iK sl26 rfl rfl (hr := (by first | exact rdp | exact .big 4 _ rfl (matG_get hers (by omega))))) ⟨_, rfl, congrArg (fun b => some (Value.bool b)) hg_14_4⟩ rfl ?_
         refine QK.val _ (Yl.loadI on3 rfl (by first | exact rdp | exact .big 4 _ rfl (matG_get hers (by omega))) (by omega)) ⟨_, rfl, congrArg (fun b => some (Value.bool b)) hg_14_4⟩ rfl ?_
         refine QK.val _ (Yl.eql rfl rfl) ⟨_, rfl, congrArg (fun b => some (Value.bool b)) hg_14_4⟩ rfl ?_
         refine .v (.pickT rfl (hg_14_4) rfl) ?_
         refine QK.nil (QK.fin ?_)
         refine AK.then_ (hK25 _ ?_)
         refine AK.condD rfl (fun hc3 => ?_) (fun hc3 => ?_)
         ·have huL : (u.1 : Int) < a.L := by omega
          have hpl := hg3.2.inv.len
          have hs1 := sB_lt ha hb hL (show y.1 < (a.fin.length + b.fin.length) by omega) huL
          have hs2 := sB_lt ha hb hL (show z.1 < (a.fin.length + b.fin.length) by omega) huL
          refine .skip ?_
          refine AK.then_ (hK24 _ ?_)
          refine .seq fun _ hK26 => ?_
          refine .block ?_
          refine .seq fun _ hK27 => ?_
          refine AK.quiet mixed krf ?_
          refine .v (.fieldAddr fd25_3 rfl) ?_
          refine .v (.loadBox on23 rfl bsp rfl) ?_
          refine .mv rfl ?_
          first | refine .v (.iN sl23 rfl rfl (hr := (by first | exact rdp | exact .big 4 _ rfl (matG_get hers (by omega))))) ?_ | refine .v (.iK sl23 rfl rfl (hr := (by first | exact rdp | exact .big 4 _ rfl (matG_get hers (by omega))))) ?_
          refine .v (.loadV on26 rfl (by first | exact rdp | exact .big 4 _ rfl (matG_get hers (by omega))) (by omega)) ?_
          refine .mv rfl ?_
          first | refine .v (.iN sl26 rfl rfl (hr := (by first | exact rdp | exact .big 4 _ rfl (matG_get hers (by omega))))) ?_ | refine .v (.iK sl26 rfl rfl (hr := (by first | exact rdp | exact .big 4 _ rfl (matG_get hers (by omega))))) ?_
          refine QK.val (.int .i64 ((sB a b u.1 y.1 : Nat) : Int)) (Yl.valE (Yl.loadI on3 rfl (.big 4 _ rfl (matG_get hers (by omega))) (by omega)) (congrArg (Value.int .i64) (both_step ha hb hL (by omega) (by omega)))) trivial rfl ?_
          refine .v (.fieldAddr fd25_3 rfl) ?_
          refine .v (.loadBox on23 rfl bsp rfl) ?_
          refine .mv rfl ?_
          first | refine .v (.iN sl23 rfl rfl (hr := (by first | exact rdp | exact .big 4 _ rfl (matG_get hers (by omega))))) ?_ | refine .v (.iK sl23 rfl rfl (hr := (by first | exact rdp | exact .big 4 _ rfl (matG_get hers (by omega))))) ?_
          refine .v (.loadV on26 rfl (by first | exact rdp | exact .big 4 _ rfl (matG_get hers (by omega))) (by omega)) ?_
          refine .mv rfl ?_
          first | refine .v (.iN sl26 rfl rfl (hr := (by first | exact rdp | exact .big 4 _ rfl (matG_get hers (by omega))))) ?_ | refine .v (.iK sl26 rfl rfl (hr := (by first | exact rdp | exact .big 4 _ rfl (matG_get hers (by omega))))) ?_
          refine QK.val (.int .i64 ((sB a b u.1 z.1 : Nat) : Int)) (Yl.valE (Yl.loadI on3 rfl (.big 4 _ rfl (matG_get hers (by omega))) (by omega)) (congrArg (Value.int .i64) (both_step ha hb hL (by omega) (by omega)))) trivial rfl ?_
          refine .as rfl (.as rfl ?_)
          refine QK.nil (QK.fin ?_)
          refine AK.then_ (hK27 _ ?_)
          refine .seq fun _ hK28 => ?_
          refine AK.quiet mixed krf ?_
          refine .mv rfl (.mv rfl ?_)
          first | refine .v (.iN sl26 rfl rfl (hr := (by first | exact rdp | exact .big 4 _ rfl (matG_get hers (by omega))))) ?_ | refine .v (.iK sl26 rfl rfl (hr := (by first | exact rdp | exact .big 4 _ rfl (matG_get hers (by omega))))) ?_
          refine .v (.loadI on3 rfl (by first | exact rdp | exact .big 4 _ rfl (matG_get hers (by omega))) (by omega)) ?_
          refine .mv rfl (.mv rfl ?_)
          first | refine .v (.iN sl26 rfl rfl (hr := (by first | exact rdp | exact .big 4 _ rfl (matG_get hers (by omega))))) ?_ | refine .v (.iK sl26 rfl rfl (hr := (by first | exact rdp | exact .big 4 _ rfl (matG_get hers (by omega))))) ?_
          refine .v (.loadI on3 rfl (by first | exact rdp | exact .big 4 _ rfl (matG_get hers (by omega))) (by omega)) ?_
          refine .v (.neq rfl rfl) ?_
          refine QK.nil (QK.fin ?_)
          refine AK.then_ (hK28 _ ?_)
          refine AK.condNe rfl (fun hc4 => ?_) (fun hc4 => ?_)
          ·refine .sr fun _ hK29 => ?_
           refine .mv rfl (.mv rfl (.mv rfl ?_))
           refine AK.callM 6 rfl co43 rfl (fun w F hw hA => q_merge w F dv u.2.2 (a.fin.length + b.fin.length) ((sB a b u.1 y.1) : Int) ((sB a b u.1 z.1) : Int) hA hg3.2.inv.len (by omega) (by omega) (by omega)) trivial rfl ?_
           rintro r A o ⟨rfl, rfl, rfl⟩
           refine .nt hK29 ?_
           refine AK.region ?_
           refine .as rfl (.nil (.block_normal ?_))
           refine AK.then_ (hK26 _ ?_)
           refine AK.region ?_
           refine .mv rfl ?_
           refine .v (.add rfl rfl (by omega)) ?_
           refine .as rfl (.nil ?_)
           first | refine AK.then_ (hK23 _ _ ((u.1 + 1, true, mergeL u.2.2 (sB a b u.1 y.1) (sB a b u.1 z.1))) ⟨by dsimp only; omega, hg3.2.merge ha hb hL (by omega) (by omega) huL hc3 hc4⟩ (by dsimp only; omega) (slr) (fun w hw => hw)) | refine AK.then_ (hK23 _ _ ((u.1 + 1, u.2.1, u.2.2)) ⟨by dsimp only; omega, hg3.2.weak (fun hc i' j' x' h1 h2 h3 hs => by unfold Seen at hs ⊢; by_cases e : i' = y.1 ∧ j' = z.1 ∧ x' = u.1; (exact .inr (.inr ⟨e.1, e.2.1, e.2.2, by rw [e.1, e.2.1, e.2.2]; exact hc4⟩)); exact .inl (by omega))⟩ (by dsimp only; omega) (slr) (fun w hw => hw))
          ·refine .skip (.block_normal ?_)
           refine AK.then_ (hK26 _ ?_)
           refine AK.region ?_
           refine .mv rfl ?_
           refine .v (.add rfl rfl (by omega)) ?_
           refine .as rfl (.nil ?_)
           first | refine AK.then_ (hK23 _ _ ((u.1 + 1, true, mergeL u.2.2 (sB a b u.1 y.1) (sB a b u.1 z.1))) ⟨by dsimp only; omega, hg3.2.merge ha hb hL (by omega) (by omega) huL hc3 hc4⟩ (by dsimp only; omega) (slr) (fun w hw => hw)) | refine AK.then_ (hK23 _ _ ((u.1 + 1, u.2.1, u.2.2)) ⟨by dsimp only; omega, hg3.2.weak (fun hc i' j' x' h1 h2 h3 hs => by unfold Seen at hs ⊢; by_cases e : i' = y.1 ∧ j' = z.1 ∧ x' = u.1; (exact .inr (.inr ⟨e.1, e.2.1, e.2.2, by rw [e.1, e.2.1, e.2.2]; exact hc4⟩)); exact .inl (by omega))⟩ (by dsimp only; omega) (slr) (fun w hw => hw))
         ·refine .exit (.then_exit (.then_exit (.block_exit (.block_normal ?_))))
          refine AK.then_ (hK21 _ ?_)
          refine AK.region ?_
          refine .mv rfl ?_
          refine .v (.add rfl rfl (by omega)) ?_
          refine .as rfl (.nil ?_)
          refine AK.then_ (hK18 _ _ ((z.1 + 1, u.2.1, u.2.2)) ⟨by dsimp only; omega, hg3.2.weak (fun hc i' j' x' h1 h2 h3 hs => by unfold Seen at hs ⊢; by_cases e : i' = y.1 ∧ j' = z.1; (first | exact .inl (by omega) | exact .inr (.inl ⟨e.1, e.2, by rw [e.1, e.2]; exact hc3⟩)); exact .inl (by omega))⟩ (by dsimp only; omega) (slr) (fun w hw => hw))
        ·have hg_14_4' := hg_14_4
         try simp only [bs] at hg_14_4'
         refine QK.pass rfl rfl (hg_14_4) rfl ?_
         refine QK.pass rfl rfl (hg_14_4) rfl ?_
         refine QK.pass rfl rfl (hg_14_4) rfl ?_
         refine QK.pass rfl rfl (hg_14_4) rfl ?_
         refine QK.pass rfl rfl (hg_14_4) rfl ?_
         refine QK.pass rfl rfl (hg_14_4) rfl ?_
         refine QK.pass rfl rfl (hg_14_4) rfl ?_
         refine QK.pass rfl rfl (hg_14_4) rfl ?_
         refine QK.pass rfl rfl (hg_14_4) rfl ?_
         refine .v (.pickF rfl (hg_14_4) rfl) ?_
         refine QK.nil (QK.fin ?_)
         refine AK.then_ (hK25 _ ?_)
         refine AK.cond_f rfl (rfl) ?_
         refine .exit (.then_exit (.then_exit (.block_exit (.block_normal ?_))))
         refine AK.then_ (hK21 _ ?_)
         refine AK.region ?_
         refine .mv rfl ?_
         refine .v (.add rfl rfl (by omega)) ?_
         refine .as rfl (.nil ?_)
         refine AK.then_ (hK18 _ _ ((z.1 + 1, u.2.1, u.2.2)) ⟨by dsimp only; omega, hg3.2.weak (fun hc i' j' x' h1 h2 h3 hs => by unfold Seen at hs ⊢; by_cases e : i' = y.1 ∧ j' = z.1; (first | exact .inl (by omega) | exact .inr (.inl ⟨e.1, e.2, by rw [e.1, e.2]; exact hc3⟩)); exact .inl (by omega))⟩ (by dsimp only; omega) (slr) (fun w hw => hw))
      ·refine .exit (.then_exit (.then_exit (.block_exit (.block_normal ?_))))
       refine AK.then_ (hK15 _ ?_)
       refine AK.region ?_
       refine .v (.add rfl rfl (by omega)) ?_
       refine .mv rfl (.nil ?_)
       refine AK.then_ (hK12 _ _ ((y.1 + 1, z.2.1, z.2.2)) ⟨by dsimp only; omega, hg2.2.weak (fun hc i' j' x' h1 h2 h3 hs => by unfold Seen at hs ⊢; exact .inl (by omega))⟩ (by dsimp only; omega) (slr) (fun w hw => hw))
    ·refine .exit (.then_exit (.then_exit (.block_exit (.block_normal ?_))))
     refine AK.then_ (hK7 _ _ ((y.2.1, y.2.2)) ⟨hg1.2.inv, fun e => by have h := hg1.2; dsimp only at e; rw [e] at h; exact h.done ha hb hL (by omega)⟩ (by dsimp only; rw [hc0]; cases e : y.2.1; (rw [(hg1.2.same e).1]; show _ + 0 < _ + 1; omega); (have h := hg1.2.less e; show _ + 1 < _ + 1; omega)) (slr) (fun w hw => hw))
  ·try simp only [bs] at hc0
   refine .exit (.then_exit (.then_exit (.block_exit ?_)))
   refine AK.then_ (hK5 _ ?_)
   refine .sr fun _ hK30 => ?_
   refine .mv rfl ?_
   refine AK.call co34 rfl (fun w hw => q_refcanon w dv x.2 (RdI.ownE 6 hw rfl hg0.1.len.symm rfl)) trivial rfl ?_
   rintro cv o rfl
   refine AK.shape 7 rfl (fun scv => ?_)
   refine .as rfl (.nt hK30 (.ret ?_))
   refine AK.ret1 rfl rfl (fun w hw => ⟨_, _, ?_, rfl, Ret.of (hw.pick [7] (by decide) rfl rfl)⟩)
   rw [hg0.2 hc0]
   exact ⟨scv, rfl⟩

set_option maxHeartbeats 2000000 in
set_option maxRecDepth 100000 in
theorem s_refcheck (w : World) (u v : Value) (a b : Dfa) (hu : RdD (fun _ => False) w u a) (hv : RdD (fun _ => False) w v b) (vp : Value) (p : List Int) (hp : RdI w vp p) : CallS Try.prog 22 [u, v, vp] w (fun r o => ∃ bb, r = .bool bb ∧ (bb = true ↔ ChkP a b p) ∧ o = []) := by
 have hu0 := hu
 have hv0 := hv
 obtain ⟨aF, aN, rfl, haF, haN⟩ := hu
 obtain ⟨bF, bN, rfl, hbF, hbN⟩ := hv
 have haF0 := haF
 have hbF0 := hbF
 unfold RdL at haF hbF
 have m1 := haF.le
 have m2 := hbF.le
 have hp0 := hp
 unfold RdI at hp
 have m3 := Rd.le hp
 refine spec_of Try.func22 rfl (Nat.le_of_ble_eq_true rfl) ?_
 refine .sr fun _ hK1 => ?_
 refine AK.box_ (E := 25) (cs := [.int .i64 a.L, .int .i64 a.s, aF, aN]) rfl rfl rfl trivial rfl (fun bx3 => ?_)
 refine AK.box_ (E := 25) (cs := [.int .i64 b.L, .int .i64 b.s, bF, bN]) rfl rfl rfl trivial rfl (fun bx4 => ?_)
 refine .as rfl (.nt hK1 ?_)
 refine .seq fun _ hK2 => ?_
 refine .seq fun _ hK3 => ?_
 try (conv => enter [2, 2]; dsimp only [List.set_cons_zero, List.set_cons_succ, List.cons_append, List.nil_append])
 refine AK.held 38 mixed ?_
 refine HeldK.first 0 (fuel := 37) (listed' := (lb 38 1)) _ rfl krf krf rfl (Yl.loadBoxG ag25 rfl bsp rfl rfl) trivial rfl ?_
 refine HeldK.first 1 (fuel := 36) (listed' := (lb 38 3)) _ rfl krf krf rfl (Yl.loadBoxG ag25 rfl bsp rfl rfl) trivial rfl ?_
 refine HeldK.one 2 (fuel := 35) (listed' := (lb 38 7)) krf rfl krf ?_
 refine AK.call co14 rfl (fun w hw => s_refpair w _ _ a b (hu0.at hw) (hv0.at hw)) trivial rfl ?_
 rintro r o ⟨rfl, rfl⟩
 refine .nil ?_
 try (conv => enter [2, 2]; dsimp only [List.set_cons_zero, List.set_cons_succ, List.cons_append, List.nil_append])
 refine HeldK.back hle ?_
 refine HeldK.first 3 (fuel := 34) (listed' := (lb 38 15)) _ rfl krf krf rfl (Yl.neq rfl rfl) trivial rfl ?_
 refine HeldK.first 4 (fuel := 33) (listed' := (lb 38 31)) _ rfl krf krf rfl (Yl.move rfl) trivial rfl ?_
 refine AK.splitB (g := 15) rfl (fun hg_1_4 => ?_) (fun hg_1_4 => ?_)
 ·have hg_1_4' := hg_1_4
  try simp only [bs] at hg_1_4'
  refine HeldK.pass 5 (fuel := 32) (listed' := (lb 38 63)) rfl krf krf rfl rfl (hg_1_4) rfl ?_
  refine HeldK.pass 6 (fuel := 31) (listed' := (lb 38 127)) rfl krf krf rfl rfl (hg_1_4) rfl ?_
  refine HeldK.pass 7 (fuel := 30) (listed' := (lb 38 255)) rfl krf krf rfl rfl (hg_1_4) rfl ?_
  refine HeldK.pass 8 (fuel := 29) (listed' := (lb 38 511)) rfl krf krf rfl rfl (hg_1_4) rfl ?_
  refine HeldK.pass 9 (fuel := 28) (listed' := (lb 38 1023)) rfl krf krf rfl rfl (hg_1_4) rfl ?_
  refine HeldK.pass 10 (fuel := 27) (listed' := (lb 38 2047)) rfl krf krf rfl rfl (hg_1_4) rfl ?_
  refine HeldK.pass 11 (fuel := 26) (listed' := (lb 38 4095)) rfl krf krf rfl rfl (hg_1_4) rfl ?_
  refine HeldK.pass 12 (fuel := 25) (listed' := (lb 38 8191)) rfl krf krf rfl rfl (hg_1_4) rfl ?_
  refine HeldK.pass 13 (fuel := 24) (listed' := (lb 38 16383)) rfl krf krf rfl rfl (hg_1_4) rfl ?_
  refine HeldK.pass 14 (fuel := 23) (listed' := (lb 38 32767)) rfl krf krf rfl rfl (hg_1_4) rfl ?_
  refine HeldK.first 15 (fuel := 22) (listed' := (lb 38 65535)) _ rfl krf krf rfl (Yl.pickT rfl (hg_1_4) rfl) trivial rfl ?_
  refine HeldK.first 16 (fuel := 21) (listed' := (lb 38 131071)) _ rfl krf krf rfl (Yl.move rfl) trivial rfl ?_
  refine HeldK.pass 17 (fuel := 20) (listed' := (lb 38 262143)) rfl krf krf rfl rfl rfl rfl ?_
  refine HeldK.one 18 (fuel := 19) (listed' := (lb 38 524287)) krf rfl krf ?_
  refine AK.pass rfl rfl rfl rfl ?_
  refine .nil ?_
  try (conv => enter [2, 2]; dsimp only [List.set_cons_zero, List.set_cons_succ, List.cons_append, List.nil_append])
  refine HeldK.back hle ?_
  refine HeldK.pass 19 (fuel := 18) (listed' := (lb 38 1048575)) rfl krf krf rfl rfl rfl rfl ?_
  refine HeldK.first 20 (fuel := 17) (listed' := (lb 38 2097151)) _ rfl krf krf rfl (Yl.pickT rfl (rfl) rfl) trivial rfl ?_
  refine HeldK.first 21 (fuel := 16) (listed' := (lb 38 4194303)) _ rfl krf krf rfl (Yl.move rfl) trivial rfl ?_
  refine HeldK.pass 22 (fuel := 15) (listed' := (lb 38 8388607)) rfl krf krf rfl rfl rfl rfl ?_
  refine HeldK.pass 23 (fuel := 14) (listed' := (lb 38 16777215)) rfl krf krf rfl rfl rfl rfl ?_
  refine HeldK.pass 24 (fuel := 13) (listed' := (lb 38 33554431)) rfl krf krf rfl rfl rfl rfl ?_
  refine HeldK.pass 25 (fuel := 12) (listed' := (lb 38 67108863)) rfl krf krf rfl rfl rfl rfl ?_
  refine HeldK.pass 26 (fuel := 11) (listed' := (lb 38 134217727)) rfl krf krf rfl rfl rfl rfl ?_
  refine HeldK.pass 27 (fuel := 10) (listed' := (lb 38 268435455)) rfl krf krf rfl rfl rfl rfl ?_
  refine HeldK.pass 28 (fuel := 9) (listed' := (lb 38 536870911)) rfl krf krf rfl rfl rfl rfl ?_
  refine HeldK.pass 29 (fuel := 8) (listed' := (lb 38 1073741823)) rfl krf krf rfl rfl rfl rfl ?_
  refine HeldK.pass 30 (fuel := 7) (listed' := (lb 38 2147483647)) rfl krf krf rfl rfl rfl rfl ?_
  refine HeldK.pass 31 (fuel := 6) (listed' := (lb 38 4294967295)) rfl krf krf rfl rfl rfl rfl ?_
  refine HeldK.pass 32 (fuel := 5) (listed' := (lb 38 8589934591)) rfl krf krf rfl rfl rfl rfl ?_
  refine HeldK.pass 33 (fuel := 4) (listed' := (lb 38 17179869183)) rfl krf krf rfl rfl rfl rfl ?_
  refine HeldK.pass 34 (fuel := 3) (listed' := (lb 38 34359738367)) rfl krf krf rfl rfl rfl rfl ?_
  refine HeldK.pass 35 (fuel := 2) (listed' := (lb 38 68719476735)) rfl krf krf rfl rfl rfl rfl ?_
  refine HeldK.pass 36 (fuel := 1) (listed' := (lb 38 137438953471)) rfl krf krf rfl rfl rfl rfl ?_
  refine HeldK.first 37 (fuel := 0) (listed' := (lb 38 274877906943)) _ rfl krf krf rfl (Yl.pickT rfl (rfl) rfl) trivial rfl ?_
  refine HeldK.done krf ?_
  refine AK.then_ (hK3 _ ?_)
  refine AK.cond_t rfl (rfl) ?_
  refine .sr fun _ hK4 => ?_
  refine .as rfl (.nt hK4 (.ret (.then_ret ?_)))
  refine AK.ret1 rfl rfl (fun w hw => ⟨_, _, ?_, rfl, Ret.of (hw.pick [] (by decide) rfl rfl)⟩)
  refine ⟨_, rfl, ⟨fun h => (by cases h), fun h => ?_⟩, rfl⟩
  have h1 := h.ok
  have h2 := h.len
  have h3 := h.valid
  have h4 := h.start
  first | omega | (simp_all; done)
 ·have hg_1_4' := hg_1_4
  try simp only [bs] at hg_1_4'
  refine HeldK.first 5 (fuel := 32) (listed' := (lb 38 63)) _ rfl krf krf rfl (Yl.move rfl) ⟨_, rfl, congrArg (fun b => some (Value.bool b)) hg_1_4⟩ rfl ?_
  refine HeldK.first 6 (fuel := 31) (listed' := (lb 38 127)) _ rfl krf krf rfl (Yl.lenR sl26 rfl (by first | exact rdp | exact .big 4 _ rfl (matG_get hers (by omega)))) ⟨_, rfl, congrArg (fun b => some (Value.bool b)) hg_1_4⟩ rfl ?_
  refine HeldK.first 7 (fuel := 30) (listed' := (lb 38 255)) _ rfl krf krf rfl (Yl.fieldAddr fd25_2 rfl) ⟨_, rfl, congrArg (fun b => some (Value.bool b)) hg_1_4⟩ rfl ?_
  refine HeldK.first 8 (fuel := 29) (listed' := (lb 38 511)) _ rfl krf krf rfl (Yl.loadBox on22 rfl bsp rfl) ⟨_, rfl, congrArg (fun b => some (Value.bool b)) hg_1_4⟩ rfl ?_
  refine HeldK.first 9 (fuel := 28) (listed' := (lb 38 1023)) _ rfl krf krf rfl (Yl.lenR sl22 rfl (by first | exact rdp | exact .big 4 _ rfl (matG_get hers (by omega)))) ⟨_, rfl, congrArg (fun b => some (Value.bool b)) hg_1_4⟩ rfl ?_
  refine HeldK.first 10 (fuel := 27) (listed' := (lb 38 2047)) _ rfl krf krf rfl (Yl.fieldAddr fd25_2 rfl) ⟨_, rfl, congrArg (fun b => some (Value.bool b)) hg_1_4⟩ rfl ?_
  refine HeldK.first 11 (fuel := 26) (listed' := (lb 38 4095)) _ rfl krf krf rfl (Yl.loadBox on22 rfl bsp rfl) ⟨_, rfl, congrArg (fun b => some (Value.bool b)) hg_1_4⟩ rfl ?_
  refine HeldK.first 12 (fuel := 25) (listed' := (lb 38 8191)) _ rfl krf krf rfl (Yl.lenR sl22 rfl (by first | exact rdp | exact .big 4 _ rfl (matG_get hers (by omega)))) ⟨_, rfl, congrArg (fun b => some (Value.bool b)) hg_1_4⟩ rfl ?_
  refine HeldK.first 13 (fuel := 24) (listed' := (lb 38 16383)) _ rfl krf krf rfl (Yl.add rfl rfl (by have hE : pairE a b = 0 := (by omega); obtain ⟨ha, hb, hL⟩ := pairE_zero hE; have h1 := ha.n; have h2 := hb.n; omega)) ⟨_, rfl, congrArg (fun b => some (Value.bool b)) hg_1_4⟩ rfl ?_
  refine HeldK.first 14 (fuel := 23) (listed' := (lb 38 32767)) _ rfl krf krf rfl (Yl.neq rfl rfl) ⟨_, rfl, congrArg (fun b => some (Value.bool b)) hg_1_4⟩ rfl ?_
  refine HeldK.first 15 (fuel := 22) (listed' := (lb 38 65535)) _ rfl krf krf rfl (Yl.pickF rfl (hg_1_4) rfl) trivial rfl ?_
  refine HeldK.first 16 (fuel := 21) (listed' := (lb 38 131071)) _ rfl krf krf rfl (Yl.move rfl) trivial rfl ?_
  refine AK.splitB (g := 27) rfl (fun hg_1_16 => ?_) (fun hg_1_16 => ?_)
  ·have hg_1_16' := hg_1_16
   try simp only [bs] at hg_1_16'
   refine HeldK.pass 17 (fuel := 20) (listed' := (lb 38 262143)) rfl krf krf rfl rfl (hg_1_16) rfl ?_
   refine HeldK.one 18 (fuel := 19) (listed' := (lb 38 524287)) krf rfl krf ?_
   refine AK.pass rfl rfl (hg_1_16) rfl ?_
   refine .nil ?_
   try (conv => enter [2, 2]; dsimp only [List.set_cons_zero, List.set_cons_succ, List.cons_append, List.nil_append])
   refine HeldK.back hle ?_
   refine HeldK.pass 19 (fuel := 18) (listed' := (lb 38 1048575)) rfl krf krf rfl rfl (hg_1_16) rfl ?_
   refine HeldK.first 20 (fuel := 17) (listed' := (lb 38 2097151)) _ rfl krf krf rfl (Yl.pickT rfl (hg_1_16) rfl) trivial rfl ?_
   refine HeldK.first 21 (fuel := 16) (listed' := (lb 38 4194303)) _ rfl krf krf rfl (Yl.move rfl) trivial rfl ?_
   refine HeldK.pass 22 (fuel := 15) (listed' := (lb 38 8388607)) rfl krf krf rfl rfl rfl rfl ?_
   refine HeldK.pass 23 (fuel := 14) (listed' := (lb 38 16777215)) rfl krf krf rfl rfl rfl rfl ?_
   refine HeldK.pass 24 (fuel := 13) (listed' := (lb 38 33554431)) rfl krf krf rfl rfl rfl rfl ?_
   refine HeldK.pass 25 (fuel := 12) (listed' := (lb 38 67108863)) rfl krf krf rfl rfl rfl rfl ?_
   refine HeldK.pass 26 (fuel := 11) (listed' := (lb 38 134217727)) rfl krf krf rfl rfl rfl rfl ?_
   refine HeldK.pass 27 (fuel := 10) (listed' := (lb 38 268435455)) rfl krf krf rfl rfl rfl rfl ?_
   refine HeldK.pass 28 (fuel := 9) (listed' := (lb 38 536870911)) rfl krf krf rfl rfl rfl rfl ?_
   refine HeldK.pass 29 (fuel := 8) (listed' := (lb 38 1073741823)) rfl krf krf rfl rfl rfl rfl ?_
   refine HeldK.pass 30 (fuel := 7) (listed' := (lb 38 2147483647)) rfl krf krf rfl rfl rfl rfl ?_
   refine HeldK.pass 31 (fuel := 6) (listed' := (lb 38 4294967295)) rfl krf krf rfl rfl rfl rfl ?_
   refine HeldK.pass 32 (fuel := 5) (listed' := (lb 38 8589934591)) rfl krf krf rfl rfl rfl rfl ?_
   refine HeldK.pass 33 (fuel := 4) (listed' := (lb 38 17179869183)) rfl krf krf rfl rfl rfl rfl ?_
   refine HeldK.pass 34 (fuel := 3) (listed' := (lb 38 34359738367)) rfl krf krf rfl rfl rfl rfl ?_
   refine HeldK.pass 35 (fuel := 2) (listed' := (lb 38 68719476735)) rfl krf krf rfl rfl rfl rfl ?_
   refine HeldK.pass 36 (fuel := 1) (listed' := (lb 38 137438953471)) rfl krf krf rfl rfl rfl rfl ?_
   refine HeldK.first 37 (fuel := 0) (listed' := (lb 38 274877906943)) _ rfl krf krf rfl (Yl.pickT rfl (rfl) rfl) trivial rfl ?_
   refine HeldK.done krf ?_
   refine AK.then_ (hK3 _ ?_)
   refine AK.cond_t rfl (rfl) ?_
   refine .sr fun _ hK5 => ?_
   refine .as rfl (.nt hK5 (.ret (.then_ret ?_)))
   refine AK.ret1 rfl rfl (fun w hw => ⟨_, _, ?_, rfl, Ret.of (hw.pick [] (by decide) rfl rfl)⟩)
   refine ⟨_, rfl, ⟨fun h => (by cases h), fun h => ?_⟩, rfl⟩
   have h1 := h.ok
   have h2 := h.len
   have h3 := h.valid
   have h4 := h.start
   first | omega | (simp_all; done)
  ·have hg_1_16' := hg_1_16
   try simp only [bs] at hg_1_16'
   refine HeldK.first 17 (fuel := 20) (listed' := (lb 38 262143)) _ rfl krf krf rfl (Yl.move rfl) ⟨_, rfl, congrArg (fun b => some (Value.bool b)) hg_1_16⟩ rfl ?_
   refine HeldK.one 18 (fuel := 19) (listed' := (lb 38 524287)) krf rfl krf ?_
   refine AK.call co28 rfl (fun w hw => q_refvalid w vp p (RdI.at hp0 hw)) ⟨_, rfl, congrArg (fun b => some (Value.bool b)) hg_1_16⟩ rfl ?_
   rintro r o ⟨rfl, rfl⟩
   refine .nil ?_
   try (conv => enter [2, 2]; dsimp only [List.set_cons_zero, List.set_cons_succ, List.cons_append, List.nil_append])
   refine HeldK.back hle ?_
   refine HeldK.first 19 (fuel := 18) (listed' := (lb 38 1048575)) _ rfl krf krf rfl (Yl.not rfl) ⟨_, rfl, congrArg (fun b => some (Value.bool b)) hg_1_16⟩ rfl ?_
   refine HeldK.first 20 (fuel := 17) (listed' := (lb 38 2097151)) _ rfl krf krf rfl (Yl.pickF rfl (hg_1_16) rfl) trivial rfl ?_
   refine HeldK.first 21 (fuel := 16) (listed' := (lb 38 4194303)) _ rfl krf krf rfl (Yl.move rfl) trivial rfl ?_
   refine AK.splitB (g := 32) rfl (fun hg_1_21 => ?_) (fun hg_1_21 => ?_)
   ·have hg_1_21' := hg_1_21
    try simp only [bs] at hg_1_21'
    refine HeldK.pass 22 (fuel := 15) (listed' := (lb 38 8388607)) rfl krf krf rfl rfl (hg_1_21) rfl ?_
    refine HeldK.pass 23 (fuel := 14) (listed' := (lb 38 16777215)) rfl krf krf rfl rfl (hg_1_21) rfl ?_
    refine HeldK.pass 24 (fuel := 13) (listed' := (lb 38 33554431)) rfl krf krf rfl rfl (hg_1_21) rfl ?_
    refine HeldK.pass 25 (fuel := 12) (listed' := (lb 38 67108863)) rfl krf krf rfl rfl (hg_1_21) rfl ?_
    refine HeldK.pass 26 (fuel := 11) (listed' := (lb 38 134217727)) rfl krf krf rfl rfl (hg_1_21) rfl ?_
    refine HeldK.pass 27 (fuel := 10) (listed' := (lb 38 268435455)) rfl krf krf rfl rfl (hg_1_21) rfl ?_
    refine HeldK.pass 28 (fuel := 9) (listed' := (lb 38 536870911)) rfl krf krf rfl rfl (hg_1_21) rfl ?_
    refine HeldK.pass 29 (fuel := 8) (listed' := (lb 38 1073741823)) rfl krf krf rfl rfl (hg_1_21) rfl ?_
    refine HeldK.pass 30 (fuel := 7) (listed' := (lb 38 2147483647)) rfl krf krf rfl rfl (hg_1_21) rfl ?_
    refine HeldK.pass 31 (fuel := 6) (listed' := (lb 38 4294967295)) rfl krf krf rfl rfl (hg_1_21) rfl ?_
    refine HeldK.pass 32 (fuel := 5) (listed' := (lb 38 8589934591)) rfl krf krf rfl rfl (hg_1_21) rfl ?_
    refine HeldK.pass 33 (fuel := 4) (listed' := (lb 38 17179869183)) rfl krf krf rfl rfl (hg_1_21) rfl ?_
    refine HeldK.pass 34 (fuel := 3) (listed' := (lb 38 34359738367)) rfl krf krf rfl rfl (hg_1_21) rfl ?_
    refine HeldK.pass 35 (fuel := 2) (listed' := (lb 38 68719476735)) rfl krf krf rfl rfl (hg_1_21) rfl ?_
    refine HeldK.pass 36 (fuel := 1) (listed' := (lb 38 137438953471)) rfl krf krf rfl rfl (hg_1_21) rfl ?_
    refine HeldK.first 37 (fuel := 0) (listed' := (lb 38 274877906943)) _ rfl krf krf rfl (Yl.pickT rfl (hg_1_21) rfl) trivial rfl ?_
    refine HeldK.done krf ?_
    refine AK.then_ (hK3 _ ?_)
    refine AK.cond_t rfl (rfl) ?_
    refine .sr fun _ hK6 => ?_
    refine .as rfl (.nt hK6 (.ret (.then_ret ?_)))
    refine AK.ret1 rfl rfl (fun w hw => ⟨_, _, ?_, rfl, Ret.of (hw.pick [] (by decide) rfl rfl)⟩)
    refine ⟨_, rfl, ⟨fun h => (by cases h), fun h => ?_⟩, rfl⟩
    have h1 := h.ok
    have h2 := h.len
    have h3 := h.valid
    have h4 := h.start
    first | omega | (simp_all; done)
   ·have hg_1_21' := hg_1_21
    try simp only [bs] at hg_1_21'
    refine HeldK.first 22 (fuel := 15) (listed' := (lb 38 8388607)) _ rfl krf krf rfl (Yl.move rfl) ⟨_, rfl, congrArg (fun b => some (Value.bool b)) hg_1_21⟩ rfl ?_
    refine HeldK.first 23 (fuel := 14) (listed' := (lb 38 16777215)) _ rfl krf krf rfl (Yl.fieldAddr fd25_1 rfl) ⟨_, rfl, congrArg (fun b => some (Value.bool b)) hg_1_21⟩ rfl ?_
    refine HeldK.first 24 (fuel := 13) (listed' := (lb 38 33554431)) _ rfl krf krf rfl (Yl.loadBox on3 rfl bsp rfl) ⟨_, rfl, congrArg (fun b => some (Value.bool b)) hg_1_21⟩ rfl ?_
    first | refine HeldK.first 25 (fuel := 12) (listed' := (lb 38 67108863)) _ rfl krf krf rfl (.iN sl26 rfl rfl (hr := (by first | exact rdp | exact .big 4 _ rfl (matG_get hers (by omega)))) (h0 := (by have hE : pairE a b = 0 := (by omega); obtain ⟨ha, hb, hL⟩ := pairE_zero hE; have h1 := ha.s; omega))) ⟨_, rfl, congrArg (fun b => some (Value.bool b)) hg_1_21⟩ rfl ?_ | refine HeldK.first 25 (fuel := 12) (listed' := (lb 38 67108863)) _ rfl krf krf rfl (.iK sl26 rfl rfl (hr := (by first | exact rdp | exact .big 4 _ rfl (matG_get hers (by omega)))) (h0 := (by have hE : pairE a b = 0 := (by omega); obtain ⟨ha, hb, hL⟩ := pairE_zero hE; have h1 := ha.s; omega))) ⟨_, rfl, congrArg (fun b => some (Value.bool b)) hg_1_21⟩ rfl ?_
    refine HeldK.first 26 (fuel := 11) (listed' := (lb 38 134217727)) _ rfl krf krf rfl (Yl.loadI on3 rfl (by first | exact rdp | exact .big 4 _ rfl (matG_get hers (by omega))) (by have hE : pairE a b = 0 := (by omega); obtain ⟨ha, hb, hL⟩ := pairE_zero hE; have h1 := ha.s; omega)) ⟨_, rfl, congrArg (fun b => some (Value.bool b)) hg_1_21⟩ rfl ?_
    refine HeldK.first 27 (fuel := 10) (listed' := (lb 38 268435455)) _ rfl krf krf rfl (Yl.move rfl) ⟨_, rfl, congrArg (fun b => some (Value.bool b)) hg_1_21⟩ rfl ?_
    refine HeldK.first 28 (fuel := 9) (listed' := (lb 38 536870911)) _ rfl krf krf rfl (Yl.fieldAddr fd25_2 rfl) ⟨_, rfl, congrArg (fun b => some (Value.bool b)) hg_1_21⟩ rfl ?_
    refine HeldK.first 29 (fuel := 8) (listed' := (lb 38 1073741823)) _ rfl krf krf rfl (Yl.loadBox on22 rfl bsp rfl) ⟨_, rfl, congrArg (fun b => some (Value.bool b)) hg_1_21⟩ rfl ?_
    refine HeldK.first 30 (fuel := 7) (listed' := (lb 38 2147483647)) _ rfl krf krf rfl (Yl.lenR sl22 rfl (by first | exact rdp | exact .big 4 _ rfl (matG_get hers (by omega)))) ⟨_, rfl, congrArg (fun b => some (Value.bool b)) hg_1_21⟩ rfl ?_
    refine HeldK.first 31 (fuel := 6) (listed' := (lb 38 4294967295)) _ rfl krf krf rfl (Yl.fieldAddr fd25_1 rfl) ⟨_, rfl, congrArg (fun b => some (Value.bool b)) hg_1_21⟩ rfl ?_
    refine HeldK.first 32 (fuel := 5) (listed' := (lb 38 8589934591)) _ rfl krf krf rfl (Yl.loadBox on3 rfl bsp rfl) ⟨_, rfl, congrArg (fun b => some (Value.bool b)) hg_1_21⟩ rfl ?_
    refine HeldK.first 33 (fuel := 4) (listed' := (lb 38 17179869183)) _ rfl krf krf rfl (Yl.add rfl rfl (by have hE : pairE a b = 0 := (by omega); obtain ⟨ha, hb, hL⟩ := pairE_zero hE; have h1 := hb.s; omega)) ⟨_, rfl, congrArg (fun b => some (Value.bool b)) hg_1_21⟩ rfl ?_
    first | refine HeldK.first 34 (fuel := 3) (listed' := (lb 38 34359738367)) _ rfl krf krf rfl (.iN sl26 rfl rfl (hr := (by first | exact rdp | exact .big 4 _ rfl (matG_get hers (by omega)))) (h0 := (by have hE : pairE a b = 0 := (by omega); obtain ⟨ha, hb, hL⟩ := pairE_zero hE; have h1 := hb.s; omega))) ⟨_, rfl, congrArg (fun b => some (Value.bool b)) hg_1_21⟩ rfl ?_ | refine HeldK.first 34 (fuel := 3) (listed' := (lb 38 34359738367)) _ rfl krf krf rfl (.iK sl26 rfl rfl (hr := (by first | exact rdp | exact .big 4 _ rfl (matG_get hers (by omega)))) (h0 := (by have hE : pairE a b = 0 := (by omega); obtain ⟨ha, hb, hL⟩ := pairE_zero hE; have h1 := hb.s; omega))) ⟨_, rfl, congrArg (fun b => some (Value.bool b)) hg_1_21⟩ rfl ?_
    refine HeldK.first 35 (fuel := 2) (listed' := (lb 38 68719476735)) _ rfl krf krf rfl (Yl.loadI on3 rfl (by first | exact rdp | exact .big 4 _ rfl (matG_get hers (by omega))) (by have hE : pairE a b = 0 := (by omega); obtain ⟨ha, hb, hL⟩ := pairE_zero hE; have h1 := hb.s; omega)) ⟨_, rfl, congrArg (fun b => some (Value.bool b)) hg_1_21⟩ rfl ?_
    refine HeldK.first 36 (fuel := 1) (listed' := (lb 38 137438953471)) _ rfl krf krf rfl (Yl.neq rfl rfl) ⟨_, rfl, congrArg (fun b => some (Value.bool b)) hg_1_21⟩ rfl ?_
    refine HeldK.first 37 (fuel := 0) (listed' := (lb 38 274877906943)) _ rfl krf krf rfl (Yl.pickF rfl (hg_1_21) rfl) trivial rfl ?_
    refine HeldK.done krf ?_
    refine AK.then_ (hK3 _ ?_)
    refine AK.condNe rfl (fun hc0 => ?_) (fun hc0 => ?_)
    ·refine .sr fun _ hK7 => ?_
     refine .as rfl (.nt hK7 (.ret (.then_ret ?_)))
     refine AK.ret1 rfl rfl (fun w hw => ⟨_, _, ?_, rfl, Ret.of (hw.pick [] (by decide) rfl rfl)⟩)
     refine ⟨_, rfl, ⟨fun h => (by cases h), fun h => ?_⟩, rfl⟩
     have h1 := h.ok
     have h2 := h.len
     have h3 := h.valid
     have h4 := h.start
     first | omega | (simp_all; done)
    ·have hE : pairE a b = 0 := by omega
     obtain ⟨ha, hb, hL⟩ := pairE_zero hE
     have hna := ha.n
     have hnb := hb.n
     have has := ha.s
     have hbs := hb.s
     have haL := ha.L
     have hel := both_len a b
     have hnl := both_nlen ha hb
     have hbL2 : (bothD a b).L = a.L := rfl
     have hpl : p.length = (a.fin.length + b.fin.length) := by omega
     have hvp : ValidP p := by simpa using hg_1_21'
     have hst : p.getD a.s.toNat 0 = p.getD ((a.fin.length : Int) + b.s).toNat 0 := hc0
     refine .skip ?_
     refine AK.then_ (hK2 _ ?_)
     refine .sr fun _ hK8 => ?_
     refine .v (.loadBoxG ag25 rfl bsp rfl rfl) ?_
     refine .v (.loadBoxG ag25 rfl bsp rfl rfl) ?_
     refine AK.call co41 rfl (fun w hw => s_refboth w _ _ a b (hu0.at hw) (hv0.at hw) ha hb) trivial rfl ?_
     rintro r o ⟨eF, eN, er, rfl, hers, seF, seN, rfl⟩
     refine AK.alloc el25 rfl rfl trivial rfl (fun bx7 => ?_)
     refine AK.storeBox 5 (us := [.int .i64 (bothD a b).L, .int .i64 (bothD a b).s, eF, eN]) (cs' := [.int .i64 (bothD a b).L, .int .i64 (bothD a b).s, eF, eN]) rfl sz25 rfl rfl rfl rfl oneP (Nat.le_of_ble_eq_true rfl) rfl trivial ?_
     refine .nt hK8 ?_
     refine .seq fun _ hK9 => ?_
     refine .sr fun _ hK10 => ?_
     refine .mv rfl ?_
     refine .v (.lenR sl26 rfl (by first | exact rdp | exact .big 4 _ rfl (matG_get hers (by omega)))) ?_
     refine .mv rfl (.nt hK10 (.block ?_))
     refine AK.loopK (X := Nat) [(2, _), (7, _), (53, _)] (fun x => [(54, .int .i64 (x : Int))]) (fun x => [box bx3 25 4 [.int .i64 a.L, .int .i64 a.s, aF, aN], box bx4 25 4 [.int .i64 b.L, .int .i64 b.s, bF, bN], row eF 4 1 (bothD a b).fin.length ((bothD a b).fin.map Value.bool), row eN 26 1 (bothD a b).nx.length er, bigA (matG (Value.int .i64) 3 er (bothD a b).nx), box bx7 25 4 [.int .i64 (bothD a b).L, .int .i64 (bothD a b).s, eF, eN]]) (fun x => x ≤ (a.fin.length + b.fin.length) ∧ ∀ i j, i < x → j < i → CkD a b p i j) (fun x => (a.fin.length + b.fin.length) - x) (0) slr ?_ ?_ ?_ ?_
     ·exact ⟨Nat.zero_le _, fun i j hi => by omega⟩
     ·exact slr
     ·exact fun w hw => hw
     ·intro x hg0 _ hK11
      refine .sr fun _ hK12 => ?_
      refine .v (.lss rfl rfl) ?_
      refine .nt hK12 ?_
      refine .seq fun _ hK13 => ?_
      refine AK.condD rfl (fun hc1 => ?_) (fun hc1 => ?_)
      ·have hr1 := both_row ha hb hL (show x < (a.fin.length + b.fin.length) by omega)
       refine .skip ?_
       refine AK.then_ (hK13 _ ?_)
       refine .seq fun _ hK14 => ?_
       refine .block ?_
       refine .sr fun _ hK15 => ?_
       refine .mv rfl (.as rfl (.nt hK15 ?_))
       refine .sr fun _ hK16 => ?_
       refine .as rfl (.nt hK16 (.block ?_))
       refine AK.loopK (X := Nat) [(2, _), (7, _), (8, _), (53, _), (54, _)] (fun y => [(9, .int .i64 (y : Int))]) (fun y => [box bx3 25 4 [.int .i64 a.L, .int .i64 a.s, aF, aN], box bx4 25 4 [.int .i64 b.L, .int .i64 b.s, bF, bN], row eF 4 1 (bothD a b).fin.length ((bothD a b).fin.map Value.bool), row eN 26 1 (bothD a b).nx.length er, bigA (matG (Value.int .i64) 3 er (bothD a b).nx), box bx7 25 4 [.int .i64 (bothD a b).L, .int .i64 (bothD a b).s, eF, eN]]) (fun y => y ≤ x ∧ ∀ j, j < y → CkD a b p x j) (fun y => x - y) (0) slr ?_ ?_ ?_ ?_
       ·exact ⟨Nat.zero_le _, fun j hj => by omega⟩
       ·exact slr
       ·exact fun w hw => hw
       ·intro y hg1 _ hK17
        refine .seq fun _ hK18 => ?_
        refine .sr fun _ hK19 => ?_
        refine .mv rfl (.mv rfl ?_)
        refine .v (.lss rfl rfl) ?_
        refine .nt hK19 ?_
        refine AK.condD rfl (fun hc2 => ?_) (fun hc2 => ?_)
        ·have hr2 := both_row ha hb hL (show y < (a.fin.length + b.fin.length) by omega)
         refine .skip ?_
         refine AK.then_ (hK18 _ ?_)
         refine .seq fun _ hK20 => ?_
         refine .block ?_
         refine .seq fun _ hK21 => ?_
         refine .seq fun _ hK22 => ?_
         refine AK.quiet mixed krf ?_
         refine .mv rfl (.mv rfl ?_)
         first | refine .v (.iN sl26 rfl rfl (hr := (by first | exact rdp | exact .big 4 _ rfl (matG_get hers (by omega))))) ?_ | refine .v (.iK sl26 rfl rfl (hr := (by first | exact rdp | exact .big 4 _ rfl (matG_get hers (by omega))))) ?_
         refine .v (.loadI on3 rfl (by first | exact rdp | exact .big 4 _ rfl (matG_get hers (by omega))) (by omega)) ?_
         refine .mv rfl (.mv rfl ?_)
         first | refine .v (.iN sl26 rfl rfl (hr := (by first | exact rdp | exact .big 4 _ rfl (matG_get hers (by omega))))) ?_ | refine .v (.iK sl26 rfl rfl (hr := (by first | exact rdp | exact .big 4 _ rfl (matG_get hers (by omega))))) ?_
         refine .v (.loadI on3 rfl (by first | exact rdp | exact .big 4 _ rfl (matG_get hers (by omega))) (by omega)) ?_
         refine .v (.neq rfl rfl) ?_
         refine QK.nil (QK.fin ?_)
         refine AK.then_ (hK22 _ ?_)
         refine AK.condNe rfl (fun hc3 => ?_) (fun hc3 => ?_)
         ·refine .exit (.then_exit (.block_exit ?_))
          refine AK.then_ (hK20 _ ?_)
          refine AK.region ?_
          refine .mv rfl ?_
          refine .v (.add rfl rfl (by omega)) ?_
          refine .as rfl (.nil ?_)
          first | refine AK.then_ (hK17 _ _ (y + 1) ⟨by omega, fun j hj => by rcases Nat.lt_or_eq_of_le (Nat.le_of_lt_succ hj) with h | h; (exact hg1.2 j h); (subst h; exact fun he => absurd he hc3)⟩ (by omega) (slr) (fun w hw => hw)) | refine AK.then_ (hK17 _ _ (y + 1) ⟨by omega, fun j hj => by rcases Nat.lt_or_eq_of_le (Nat.le_of_lt_succ hj) with h | h; (exact hg1.2 j h); (subst h; exact fun _ => ⟨hfe, fun x2 hx2 => hg2.2 x2 (by omega)⟩)⟩ (by omega) (slr) (fun w hw => hw))
         ·refine .skip ?_
          refine AK.then_ (hK21 _ ?_)
          refine .seq fun _ hK23 => ?_
          refine .seq fun _ hK24 => ?_
          refine AK.quiet mixed krf ?_
          refine .v (.fieldAddr fd25_2 rfl) ?_
          refine .v (.loadBox on22 rfl bsp rfl) ?_
          refine .mv rfl ?_
          first | refine .v (.iN sl22 rfl rfl (hr := (by first | exact rdp | exact .big 4 _ rfl (matG_get hers (by omega))))) ?_ | refine .v (.iK sl22 rfl rfl (hr := (by first | exact rdp | exact .big 4 _ rfl (matG_get hers (by omega))))) ?_
          refine .v (.loadB on4 rfl (by first | exact rdp | exact .big 4 _ rfl (matG_get hers (by omega))) (by omega)) ?_
          refine .v (.fieldAddr fd25_2 rfl) ?_
          refine .v (.loadBox on22 rfl bsp rfl) ?_
          refine .mv rfl ?_
          first | refine .v (.iN sl22 rfl rfl (hr := (by first | exact rdp | exact .big 4 _ rfl (matG_get hers (by omega))))) ?_ | refine .v (.iK sl22 rfl rfl (hr := (by first | exact rdp | exact .big 4 _ rfl (matG_get hers (by omega))))) ?_
          refine .v (.loadB on4 rfl (by first | exact rdp | exact .big 4 _ rfl (matG_get hers (by omega))) (by omega)) ?_
          refine .v (.neqB bo4 rfl rfl) ?_
          refine QK.nil (QK.fin ?_)
          refine AK.then_ (hK24 _ ?_)
          refine AK.cond rfl (fun hc4 => ?_) (fun hc4 => ?_)
          ·try simp only [bs] at hc4
           refine .sr fun _ hK25 => ?_
           refine .as rfl (.nt hK25 (.ret (.then_ret (.block_ret (.then_ret (.then_ret (.block_ret (.block_ret (.then_ret (.then_ret (.block_ret ?_)))))))))))
           refine .then_ret ?_
           refine AK.ret1 rfl rfl (fun w hw => ⟨_, _, ?_, rfl, Ret.of (hw.pick [] (by decide) rfl rfl)⟩)
           refine ⟨_, rfl, ⟨fun h => (by cases h), fun h => ?_⟩, rfl⟩
           exact absurd (h.fin x y (by omega) (by omega) hc3) (fun e => by rw [← both_fin, ← both_fin] at e; apply hc4; simpa [finQ] using e)
          ·try simp only [bs] at hc4
           have hfe : fB a b x = fB a b y := by rw [← both_fin, ← both_fin]; simpa [finQ] using hc4
           refine .skip ?_
           refine AK.then_ (hK23 _ ?_)
           refine .sr fun _ hK26 => ?_
           refine .as rfl (.nt hK26 (.block ?_))
           refine AK.loopK (X := Nat × Unit) [(2, _), (7, _), (8, _), (9, _), (53, _), (54, _)] (fun z => [(10, .int .i64 (z.1 : Int))]) (fun z => [box bx3 25 4 [.int .i64 a.L, .int .i64 a.s, aF, aN], box bx4 25 4 [.int .i64 b.L, .int .i64 b.s, bF, bN], row eF 4 1 (bothD a b).fin.length ((bothD a b).fin.map Value.bool), row eN 26 1 (bothD a b).nx.length er, bigA (matG (Value.int .i64) 3 er (bothD a b).nx), box bx7 25 4 [.int .i64 (bothD a b).L, .int .i64 (bothD a b).s, eF, eN]]) (fun z => (z.1 : Int) ≤ a.L ∧ ∀ k : Nat, k < z.1 → p.getD (sB a b k x) 0 = p.getD (sB a b k y) 0) (fun z => a.L.toNat - z.1) ((0, ())) slr ?_ ?_ ?_ ?_
           ·exact ⟨by dsimp only; omega, fun k hk => by cases hk⟩
           ·exact slr
           ·exact fun w hw => hw
           ·intro z hg2 _ hK27
            refine .seq fun _ hK28 => ?_
            refine .sr fun _ hK29 => ?_
            refine .mv rfl ?_
            refine .v (.fieldAddr fd25_0 rfl) ?_
            refine .v (.loadBox on3 rfl bsp rfl) ?_
            refine .v (.lss rfl rfl) ?_
            refine .nt hK29 ?_
            refine AK.condD rfl (fun hc5 => ?_) (fun hc5 => ?_)
            ·have hzL : ((z.1 : Nat) : Int) < a.L := hc5
             have hs1 := sB_lt ha hb hL (show x < (a.fin.length + b.fin.length) by omega) hzL
             have hs2 := sB_lt ha hb hL (show y < (a.fin.length + b.fin.length) by omega) hzL
             refine .skip ?_
             refine AK.then_ (hK28 _ ?_)
             refine .seq fun _ hK30 => ?_
             refine .block ?_
             refine .seq fun _ hK31 => ?_
             refine AK.quiet mixed krf ?_
             refine .mv rfl ?_
             refine .v (.fieldAddr fd25_3 rfl) ?_
             refine .v (.loadBox on23 rfl bsp rfl) ?_
             refine .mv rfl ?_
             first | refine .v (.iN sl23 rfl rfl (hr := (by first | exact rdp | exact .big 4 _ rfl (matG_get hers (by omega))))) ?_ | refine .v (.iK sl23 rfl rfl (hr := (by first | exact rdp | exact .big 4 _ rfl (matG_get hers (by omega))))) ?_
             refine .v (.loadV on26 rfl (by first | exact rdp | exact .big 4 _ rfl (matG_get hers (by omega))) (by omega)) ?_
             refine .mv rfl ?_
             first | refine .v (.iN sl26 rfl rfl (hr := (by first | exact rdp | exact .big 4 _ rfl (matG_get hers (by omega))))) ?_ | refine .v (.iK sl26 rfl rfl (hr := (by first | exact rdp | exact .big 4 _ rfl (matG_get hers (by omega))))) ?_
             refine QK.val (.int .i64 ((sB a b z.1 x : Nat) : Int)) (Yl.valE (Yl.loadI on3 rfl (.big 4 _ rfl (matG_get hers (by omega))) (by omega)) (congrArg (Value.int .i64) (both_step ha hb hL (by omega) (by omega)))) trivial rfl ?_
             first | refine .v (.iN sl26 rfl rfl (hr := (by first | exact rdp | exact .big 4 _ rfl (matG_get hers (by omega))))) ?_ | refine .v (.iK sl26 rfl rfl (hr := (by first | exact rdp | exact .big 4 _ rfl (matG_get hers (by omega))))) ?_
             refine .v (.loadI on3 rfl (by first | exact rdp | exact .big 4 _ rfl (matG_get hers (by omega))) (by omega)) ?_
             refine .mv rfl ?_
             refine .v (.fieldAddr fd25_3 rfl) ?_
             refine .v (.loadBox on23 rfl bsp rfl) ?_
             refine .mv rfl ?_
             first | refine .v (.iN sl23 rfl rfl (hr := (by first | exact rdp | exact .big 4 _ rfl (matG_get hers (by omega))))) ?_ | refine .v (.iK sl23 rfl rfl (hr := (by first | exact rdp | exact .big 4 _ rfl (matG_get hers (by omega))))) ?_
             refine .v (.loadV on26 rfl (by first | exact rdp | exact .big 4 _ rfl (matG_get hers (by omega))) (by omega)) ?_
             refine .mv rfl ?_
             first | refine .v (.iN sl26 rfl rfl (hr := (by first | exact rdp | exact .big 4 _ rfl (matG_get hers (by omega))))) ?_ | refine .v (.iK sl26 rfl rfl (hr := (by first | exact rdp | exact .big 4 _ rfl (matG_get hers (by omega))))) ?_
             refine QK.val (.int .i64 ((sB a b z.1 y : Nat) : Int)) (Yl.valE (Yl.loadI on3 rfl (.big 4 _ rfl (matG_get hers (by omega))) (by omega)) (congrArg (Value.int .i64) (both_step ha hb hL (by omega) (by omega)))) trivial rfl ?_
             first | refine .v (.iN sl26 rfl rfl (hr := (by first | exact rdp | exact .big 4 _ rfl (matG_get hers (by omega))))) ?_ | refine .v (.iK sl26 rfl rfl (hr := (by first | exact rdp | exact .big 4 _ rfl (matG_get hers (by omega))))) ?_
             refine .v (.loadI on3 rfl (by first | exact rdp | exact .big 4 _ rfl (matG_get hers (by omega))) (by omega)) ?_
             refine .v (.neq rfl rfl) ?_
             refine QK.nil (QK.fin ?_)
             refine AK.then_ (hK31 _ ?_)
             refine AK.condNe rfl (fun hc6 => ?_) (fun hc6 => ?_)
             ·refine .sr fun _ hK32 => ?_
              refine .as rfl (.nt hK32 (.ret (.block_ret (.then_ret (.then_ret (.block_ret (.block_ret (.then_ret (.then_ret (.block_ret (.block_ret ?_)))))))))))
              refine .then_ret (.then_ret (.block_ret (.then_ret ?_)))
              refine AK.ret1 rfl rfl (fun w hw => ⟨_, _, ?_, rfl, Ret.of (hw.pick [] (by decide) rfl rfl)⟩)
              refine ⟨_, rfl, ⟨fun h => (by cases h), fun h => ?_⟩, rfl⟩
              exact absurd (h.step x y z.1 hzL (by omega) (by omega) hc3) hc6
             ·refine .skip (.block_normal ?_)
              refine AK.then_ (hK30 _ ?_)
              refine AK.region ?_
              refine .mv rfl ?_
              refine .v (.add rfl rfl (by omega)) ?_
              refine .as rfl (.nil ?_)
              refine AK.then_ (hK27 _ _ ((z.1 + 1, ())) ⟨by dsimp only; omega, fun k hk => by dsimp only at hk; rcases Nat.lt_or_eq_of_le (Nat.le_of_lt_succ hk) with h | h; (exact hg2.2 k h); (rw [h]; exact hc6)⟩ (by dsimp only; omega) (slr) (fun w hw => hw))
            ·refine .exit (.then_exit (.then_exit (.block_exit (.block_normal ?_))))
             refine AK.then_ (hK20 _ ?_)
             refine AK.region ?_
             refine .mv rfl ?_
             refine .v (.add rfl rfl (by omega)) ?_
             refine .as rfl (.nil ?_)
             first | refine AK.then_ (hK17 _ _ (y + 1) ⟨by omega, fun j hj => by rcases Nat.lt_or_eq_of_le (Nat.le_of_lt_succ hj) with h | h; (exact hg1.2 j h); (subst h; exact fun he => absurd he hc3)⟩ (by omega) (slr) (fun w hw => hw)) | refine AK.then_ (hK17 _ _ (y + 1) ⟨by omega, fun j hj => by rcases Nat.lt_or_eq_of_le (Nat.le_of_lt_succ hj) with h | h; (exact hg1.2 j h); (subst h; exact fun _ => ⟨hfe, fun x2 hx2 => hg2.2 x2 (by omega)⟩)⟩ (by omega) (slr) (fun w hw => hw))
        ·refine .exit (.then_exit (.then_exit (.block_exit (.block_normal ?_))))
         refine AK.then_ (hK14 _ ?_)
         refine AK.region ?_
         refine .v (.add rfl rfl (by omega)) ?_
         refine .mv rfl (.nil ?_)
         refine AK.then_ (hK11 _ _ (x + 1) ⟨by omega, fun i j hi hj => by rcases Nat.lt_or_eq_of_le (Nat.le_of_lt_succ hi) with h | h; (exact hg0.2 i j h hj); (subst h; exact hg1.2 j (by omega))⟩ (by omega) (slr) (fun w hw => hw))
      ·refine .exit (.then_exit (.then_exit (.block_exit ?_)))
       refine AK.then_ (hK9 _ ?_)
       refine .sr fun _ hK33 => ?_
       refine .as rfl (.nt hK33 (.ret ?_))
       refine AK.ret1 rfl rfl (fun w hw => ⟨_, _, ?_, rfl, Ret.of (hw.pick [] (by decide) rfl rfl)⟩)
       refine ⟨_, rfl, ⟨fun _ => ?_, fun _ => rfl⟩, rfl⟩
       exact chk_all hE hpl hvp hst (fun i j hi hj => hg0.2 i j (by omega) hj)

end Go.Proofs.Ytifnofnnjcchhaa
