import Derived.Test.YtdnhiinakhmhgaaGreatDoorYZm
import Derived.Test.YtdnhiinakhmhgaaGreatDoorYZl
import Derived.Test.YtdnhiinakhmhgaaGreatDoorYZc
import Derived.Test.YtdnhiinakhmhgaaGreatDoorYZb
import Derived.Test.YtdnhiinakhmhgaaGreatDoorYZe
import Derived.Test.YtdnhiinakhmhgaaGreatDoorYZf
import Derived.Test.YtdnhiinakhmhgaaGreatDoorYZi
set_option linter.unusedVariables false
set_option linter.unusedSimpArgs false
set_option maxRecDepth 100000
namespace Go.Proofs.YtdnhiinakhmhgaaGreatDoor
open Go.Sx Go.RowKit
set_option maxHeartbeats 2000000 in
theorem s_classes (w : World) (v : Value) (d : Dfa) (h : RdD (fun _ => False) w v d) : CallS Tryz.prog 100 [v] w (fun r o => IsSl r ∧ o = [row r 3 1 (ClsV d).length ((ClsV d).map (Value.int .i64))]) := by
 have h0 := h
 obtain ⟨vF, vN, rfl, hF, hN⟩ := h
 have hF0 := hF
 have hN0 := hN
 obtain ⟨rs, hrl, hNr, hNi⟩ := hN
 have sF := hF.sl
 have sN := hNr.sl
 have hmf := hF.le
 have hmn := hNr.le
 unfold RdL at hF
 refine spec_of Tryz.func100 rfl (leb rfl) ?_
 refine .sr fun _ hK1 => ?_
 refine AK.box_ (E := 43) (cs := [.int .i64 d.L, .int .i64 d.s, vF, vN]) rfl rfl rfl trivial rfl (fun bx1 => ?_)
 refine .as rfl (.nt hK1 ?_)
 refine .seq fun _ hK2 => ?_
 refine .sr fun _ hK3 => ?_
 refine .v (.loadBoxG ag43 rfl bsp rfl rfl) ?_
 refine AK.call co22 rfl (fun w hw => s_validate w _ d (h0.at hw)) trivial rfl ?_
 rintro r o ⟨rfl, rfl⟩
 refine .v (.neq rfl rfl) (.nt hK3 ?_)
 refine AK.condNe rfl (fun hc0 => ?_) (fun hc0 => ?_)
 ·have hnv : ¬ VD d := fun h => hc0 ((errV_iff d).2 h)
  refine .sr fun _ hK4 => ?_
  refine .as rfl (.nt hK4 (.ret (.then_ret ?_)))
  refine AK.ghost 3 1 ?_
  refine AK.ret1 rfl rfl (fun w hw => ⟨_, _, ?_, rfl, Ret.of (hw.pick [1] (by decide) rfl rfl)⟩)
  rw [show ClsV d = [] from if_neg hnv]
  exact ⟨nilSl, rfl⟩
 ·have hv : VD d := (errV_iff d).1 hc0
  have hL := hv.L
  have hnx := hv.nx
  have hn5 := hv.n
  have hn0 : 0 < d.fin.length := by have := hv.s; omega
  have hf0 := f0_len d
  refine .skip ?_
  refine AK.then_ (hK2 _ ?_)
  refine .sr fun _ hK5 => ?_
  refine .v (.fieldAddr fd43_2 rfl) (.v (.loadBox on41 rfl bsp rfl) ?_)
  refine .v (.lenR sl41 rfl (by first | exact rdp | exact .arg (hNi _ (by omega)))) ?_
  refine AK.make1 (n := d.fin.length) sl26 el3 rfl rfl rfl (by omega) (by omega) trivial rfl (fun mv0 => ?_)
  refine AK.shape 1 rfl (fun smv0 => ?_)
  refine .as rfl (.as rfl (.nt hK5 ?_))
  refine .seq fun _ hK6 => ?_
  refine .sr fun _ hK7 => ?_
  refine .v (.fieldAddr fd43_2 rfl) (.v (.loadBox on41 rfl bsp rfl) ?_)
  refine .v (.lenR sl41 rfl (by first | exact rdp | exact .arg (hNi _ (by omega)))) ?_
  refine .mv rfl (.nt hK7 (.block ?_))
  refine AK.loopK (X := Nat) [(1, _), (3, _), (24, _), (25, _)] (fun k => [(4, .int .i64 (if diff d k then 2 else 1)), (26, .int .i64 (k : Int))]) (fun k => [box bx1 43 4 [.int .i64 d.L, .int .i64 d.s, vF, vN], row mv0 3 1 d.fin.length (((f0 d).take k ++ List.replicate (d.fin.length - k) 0).map (Value.int .i64))]) (fun k => k ≤ d.fin.length) (fun k => d.fin.length - k) (0) slr ?_ ?_ ?_ ?_
  ·exact Nat.zero_le _
  ·exact slr
  ·exact fun w hw => by have e : (((f0 d).take 0 ++ List.replicate (d.fin.length - 0) 0).map (Value.int .i64)) = List.replicate d.fin.length (Value.int .i64 0) := (by simp); rw [e]; exact hw
  ·intro k hg0 _ hK8
   refine .sr fun _ hK9 => ?_
   refine .v (.lss rfl rfl) (.nt hK9 ?_)
   refine .seq fun _ hK10 => ?_
   refine AK.condD rfl (fun hc1 => ?_) (fun hc1 => ?_)
   ·refine .skip ?_
    refine AK.then_ (hK10 _ ?_)
    refine .seq fun _ hK11 => ?_
    refine .block ?_
    refine .sr fun _ hK12 => ?_
    refine .mv rfl ?_
    first | refine .v (.iN sl41 rfl rfl (hr := (by first | exact rdp | exact .arg (hNi _ (by omega))))) ?_ | refine .v (.iK sl41 rfl rfl (hr := (by first | exact rdp | exact .arg (hNi _ (by omega))))) ?_
    refine .v (.loadB on4 rfl (by first | exact rdp | exact .arg (hNi _ (by omega))) (by omega)) ?_
    refine .as rfl (.as rfl (.nt hK12 ?_))
    refine .sr fun _ hK13 => ?_
    refine .mv rfl (.v (.fieldAddr fd43_2 rfl) (.v (.loadBox on41 rfl bsp rfl) ?_))
    refine .v (.idxN (k := 0) sl41 rfl rfl (by first | exact rdp | exact .arg (hNi _ (by omega))) (by decide) (by omega)) ?_
    refine .v (.loadB on4 rfl (by first | exact rdp | exact .arg (hNi _ (by omega))) (by omega)) ?_
    refine .v (.neqB bo4 rfl rfl) (.nt hK13 ?_)
    refine AK.cond rfl (fun hc2 => ?_) (fun hc2 => ?_)
    ·try simp only [bs] at hc2
     refine AK.region ?_
     refine .mv rfl (.mv rfl ?_)
     first | refine .v (.iN sl26 rfl rfl (hr := (by first | exact rdp | exact .arg (hNi _ (by omega))))) ?_ | refine .v (.iK sl26 rfl rfl (hr := (by first | exact rdp | exact .arg (hNi _ (by omega))))) ?_
     refine AK.store1e 1 rfl sz3 rfl rfl rfl rfl (by omega) (cs' := (((f0 d).take (k + 1) ++ List.replicate (d.fin.length - (k + 1)) 0).map (Value.int .i64))) (by exact f0_fill1 (by omega) (by simpa using hc2)) trivial ?_
     refine .as rfl (.nil (.block_normal ?_))
     refine AK.then_ (hK11 _ ?_)
     refine AK.region ?_
     refine .v (.add rfl rfl (by omega)) ?_
     refine .mv rfl (.nil ?_)
     first | refine AK.then_ (hK8 _ _ (k + 1) (by omega) (by omega) (.cons (slI rfl (diff_one (by omega) (by simpa using hc2))) (slr)) (fun w hw => hw)) | refine AK.then_ (hK8 _ _ (k + 1) (by omega) (by omega) (.cons (slI rfl (diff_zero (by omega) (by simpa using hc2))) (slr)) (fun w hw => by rw [← f0_fill0 (by omega) (by simpa using hc2)]; exact hw))
    ·try simp only [bs] at hc2
     refine .skip (.block_normal ?_)
     refine AK.then_ (hK11 _ ?_)
     refine AK.region ?_
     refine .v (.add rfl rfl (by omega)) ?_
     refine .mv rfl (.nil ?_)
     first | refine AK.then_ (hK8 _ _ (k + 1) (by omega) (by omega) (.cons (slI rfl (diff_one (by omega) (by simpa using hc2))) (slr)) (fun w hw => hw)) | refine AK.then_ (hK8 _ _ (k + 1) (by omega) (by omega) (.cons (slI rfl (diff_zero (by omega) (by simpa using hc2))) (slr)) (fun w hw => by rw [← f0_fill0 (by omega) (by simpa using hc2)]; exact hw))
   ·refine .exit (.then_exit (.then_exit (.block_exit ?_)))
    refine AK.then_ (hK6 _ ?_)
    refine .block ?_
    refine AK.loopK (X := Value × List Int) [(1, _)] (fun x => [(3, x.1), (4, .int .i64 ((ded x.2).length : Int))]) (fun x => [box bx1 43 4 [.int .i64 d.L, .int .i64 d.s, vF, vN], row x.1 3 1 d.fin.length (x.2.map (Value.int .i64))]) (fun x => (∃ k, Ker d k x.2) ∧ IsSl x.1) (fun x => d.fin.length - (ded x.2).length) ((mv0, f0 d)) slr ?_ ?_ ?_ ?_
    ·exact ⟨⟨0, f0_ker d⟩, smv0⟩
    ·exact .cons (rfl) (.cons (slI rfl (by rw [f0_ded d hn0, show k = d.fin.length by omega])) (slr))
    ·exact fun w hw => by rw [show k = d.fin.length by omega, Nat.sub_self, List.replicate_zero, List.append_nil, ← hf0, List.take_length] at hw; rw [hf0] at hw; exact hw
    ·intro x hg1 _ hK14
     have hxl : x.2.length = d.fin.length := by obtain ⟨kk, hkk⟩ := hg1.1; exact hkk.1
     have hdx := ded_le x.2
     have sx1 := hg1.2
     refine .block ?_
     refine .sr fun _ hK15 => ?_
     refine AK.makeMap trivial rfl (fun mb => ?_)
     refine .as rfl (.nt hK15 ?_)
     refine .sr fun _ hK16 => ?_
     refine .mv rfl ?_
     refine .v (.lenR sl26 rfl (by first | exact rdp | exact .arg (hNi _ (by omega)))) ?_
     refine AK.make1 (n := d.fin.length) sl26 el3 rfl rfl rfl (by omega) (by omega) trivial rfl (fun mv1 => ?_)
     refine AK.shape 3 rfl (fun smv1 => ?_)
     refine .as rfl (.nt hK16 ?_)
     refine .seq fun _ hK17 => ?_
     refine .sr fun _ hK18 => ?_
     refine .v (.fieldAddr fd43_3 rfl) (.v (.loadBox on22 rfl bsp rfl) ?_)
     refine .v (.lenR sl22 rfl (by first | exact rdp | exact .arg (hNi _ (by omega)))) ?_
     refine .mv rfl (.nt hK18 (.block ?_))
     refine AK.loopK (X := Nat) [(1, _), (3, _), (4, _), (7, _), (8, _), (46, _), (47, _)] (fun q => [(48, .int .i64 (q : Int))]) (fun q => [box bx1 43 4 [.int .i64 d.L, .int .i64 d.s, vF, vN], row x.1 3 1 d.fin.length (x.2.map (Value.int .i64)), mapA mb (mkv (tv : Tup 7 → Value) (Value.int .i64) (numM (ded ((sgs7 d x.2).take q)))), row mv1 3 1 d.fin.length ((canN ((sgs7 d x.2).take q) ++ List.replicate (d.fin.length - q) 0).map (Value.int .i64))]) (fun q => q ≤ d.fin.length) (fun q => d.fin.length - q) (0) slr ?_ ?_ ?_ ?_
     ·exact Nat.zero_le _
     ·exact slr
     ·exact fun w hw => by have e : ((canN ((sgs7 d x.2).take 0) ++ List.replicate (d.fin.length - 0) 0).map (Value.int .i64)) = List.replicate d.fin.length (Value.int .i64 0) := (by simp [canN]); rw [e]; exact hw
     ·intro q hg2 _ hK19
      refine .sr fun _ hK20 => ?_
      refine .v (.lss rfl rfl) (.nt hK20 ?_)
      refine .seq fun _ hK21 => ?_
      refine AK.condD rfl (fun hc3 => ?_) (fun hc3 => ?_)
      ·have hqn : q < d.fin.length := by omega
       have hrw := hv.row q hqn
       have hsl := sgs7_len d x.2
       have hdl := ded_le ((sgs7 d x.2).take q)
       rw [List.length_take] at hdl
       have hnl := numM_len (ded ((sgs7 d x.2).take q))
       refine .skip ?_
       refine AK.then_ (hK21 _ ?_)
       refine .seq fun _ hK22 => ?_
       refine .block ?_
       refine .sr fun _ hK23 => ?_
       refine .mv rfl ?_
       first | refine .v (.iN sl22 rfl rfl (hr := (by first | exact rdp | exact .arg (hNi _ (by omega))))) ?_ | refine .v (.iK sl22 rfl rfl (hr := (by first | exact rdp | exact .arg (hNi _ (by omega))))) ?_
       refine .v (.loadV on26 rfl (by first | exact rdp | exact .arg (hNi _ (by omega))) (by omega)) ?_
       refine .as rfl (.as rfl (.nt hK23 ?_))
       refine .sr fun _ hK24 => ?_
       refine .mv rfl (.mv rfl ?_)
       first | refine .v (.iN sl26 rfl rfl (hr := (by first | exact rdp | exact .arg (hNi _ (by omega))))) ?_ | refine .v (.iK sl26 rfl rfl (hr := (by first | exact rdp | exact .arg (hNi _ (by omega))))) ?_
       refine .v (.loadI on3 rfl (by first | exact rdp | exact .arg (hNi _ (by omega))) (by omega)) ?_
       refine .v (.build (parts := [(0, .tmp 56)]) (cs := #[.int .i64 (x.2.getD q 0), .int .i64 0, .int .i64 0, .int .i64 0, .int .i64 0, .int .i64 0, .int .i64 0]) rfl (by kernel_rfl)) ?_
       refine AK.alloc el193 rfl rfl trivial rfl (fun bx11 => ?_)
       refine AK.storeBox 4 (us := [.int .i64 (x.2.getD q 0), .int .i64 0, .int .i64 0, .int .i64 0, .int .i64 0, .int .i64 0, .int .i64 0]) (cs' := [.int .i64 (x.2.getD q 0), .int .i64 0, .int .i64 0, .int .i64 0, .int .i64 0, .int .i64 0, .int .i64 0]) rfl sz193 rfl rfl rfl rfl oneP (leb rfl) rfl trivial ?_
       refine .nt hK24 ?_
       refine .seq fun _ hK25 => ?_
       refine .sr fun _ hK26 => ?_
       refine .mv rfl ?_
       refine .v (.lenR sl26 rfl (by first | exact rdp | exact .arg (hNi _ (by omega)))) ?_
       refine .mv rfl (.nt hK26 (.block ?_))
       refine AK.loopK (X := Nat) [(1, _), (3, _), (4, _), (7, _), (8, _), (9, _), (11, _), (46, _), (47, _), (48, _), (58, _), (59, _)] (fun j => [(60, .int .i64 (j : Int))]) (fun j => [box bx1 43 4 [.int .i64 d.L, .int .i64 d.s, vF, vN], row x.1 3 1 d.fin.length (x.2.map (Value.int .i64)), mapA mb (mkv (tv : Tup 7 → Value) (Value.int .i64) (numM (ded ((sgs7 d x.2).take q)))), row mv1 3 1 d.fin.length ((canN ((sgs7 d x.2).take q) ++ List.replicate (d.fin.length - q) 0).map (Value.int .i64)), box bx11 193 7 ((pad7 ((sigQ d x.2 q).take (j + 1))).map (Value.int .i64))]) (fun j => j ≤ (d.nx.getD q []).length) (fun j => (d.nx.getD q []).length - j) (0) slr ?_ ?_ ?_ ?_
       ·exact Nat.zero_le _
       ·exact slr
       ·exact fun w hw => hw
       ·intro j hg3 _ hK27
        refine .sr fun _ hK28 => ?_
        refine .v (.lss rfl rfl) (.nt hK28 ?_)
        refine .seq fun _ hK29 => ?_
        refine AK.condD rfl (fun hc4 => ?_) (fun hc4 => ?_)
        ·have hto := hv.to q j hqn (by omega)
         have hsl2 := sigQ_len hv x.2 hqn
         refine .skip ?_
         refine AK.then_ (hK29 _ ?_)
         refine .seq fun _ hK30 => ?_
         refine .block ?_
         refine .sr fun _ hK31 => ?_
         refine .mv rfl ?_
         first | refine .v (.iN sl26 rfl rfl (hr := (by first | exact rdp | exact .arg (hNi _ (by omega))))) ?_ | refine .v (.iK sl26 rfl rfl (hr := (by first | exact rdp | exact .arg (hNi _ (by omega))))) ?_
         refine .v (.loadI on3 rfl (by first | exact rdp | exact .arg (hNi _ (by omega))) (by omega)) ?_
         refine .as rfl (.as rfl (.nt hK31 ?_))
         refine AK.region ?_
         refine .mv rfl ?_
         refine .v (.add rfl rfl (by omega)) ?_
         refine .mv rfl (.mv rfl ?_)
         first | refine .v (.iN sl26 rfl rfl (hr := (by first | exact rdp | exact .arg (hNi _ (by omega))))) ?_ | refine .v (.iK sl26 rfl rfl (hr := (by first | exact rdp | exact .arg (hNi _ (by omega))))) ?_
         refine .v (.loadI on3 rfl (by first | exact rdp | exact .arg (hNi _ (by omega))) (by omega)) ?_
         refine .v (.idxArrZ ar193 rfl rfl (by omega)) ?_
         refine AK.storeBox 4 (us := [.int .i64 (x.2.getD ((d.nx.getD q []).getD j 0).toNat 0)]) (cs' := ((pad7 ((sigQ d x.2 q).take (j + 2))).map (Value.int .i64))) rfl sz3 rfl rfl rfl rfl oneP (by rw [List.length_map, pad7_len]; simp only [List.length_cons, List.length_nil]; omega) (by rw [sigQ_take (by omega)]; have e : 0 + ((1 : Int) + (j : Int)).toNat * 1 = j + 1 := (by omega); rw [e]; exact pad_store (by rw [List.length_take]; omega) (by omega)) trivial ?_
         refine .nil (.block_normal ?_)
         refine AK.then_ (hK30 _ ?_)
         refine AK.region ?_
         refine .v (.add rfl rfl (by omega)) ?_
         refine .mv rfl (.nil ?_)
         refine AK.then_ (hK27 _ _ (j + 1) (by omega) (by omega) (slr) (fun w hw => hw))
        ·have ejk : pad7 ((sigQ d x.2 q).take (j + 1)) = ((sgs7 d x.2).getD q zero7).1 := by
          have hsl2 := sigQ_len hv x.2 hqn
          rw [sgs7_get hqn, List.take_of_length_le (by omega)]; rfl
         rw [ejk]
         refine .exit (.then_exit (.then_exit (.block_exit ?_)))
         refine AK.then_ (hK25 _ ?_)
         refine .sr fun _ hK32 => ?_
         refine .mv rfl ?_
         first | refine AK.val (tv ((sgs7 d x.2).getD q zero7)) (Yl.loadTup ag193 rfl (BoxS.own 4 rfl)) trivial rfl ?_
         refine .v (.lookup2I mp191 kl193 el3 rfl rfl msp) (.mv rfl (.v (.extract rfl rfl) (.v (.extract rfl rfl) (.as rfl (.as rfl (.nt hK32 ?_))))))
         refine .seq fun _ hK33 => ?_
         refine .sr fun _ hK34 => ?_
         refine .mv rfl (.v (.not rfl) (.nt hK34 ?_))
         refine AK.condB rfl (fun hc5 => ?_) (fun hc5 => ?_)
         ·obtain ⟨hx, hcv⟩ := num_new hc5
          refine .sr fun _ hK35 => ?_
          refine .mv rfl (.v (.lenM mp191 rfl msp) (.as rfl (.nt hK35 ?_)))
          refine AK.region ?_
          refine .mv rfl ?_
          first | refine AK.val (tv ((sgs7 d x.2).getD q zero7)) (Yl.loadTup ag193 rfl (BoxS.own 4 rfl)) trivial rfl ?_
          refine .mv rfl ?_
          refine AK.mapSet 2 rfl mp191 kl193 rfl rfl rfl trivial ?_
          refine .nt hK33 ?_
          refine AK.region ?_
          refine .mv rfl (.mv rfl (.mv rfl ?_))
          first | refine .v (.iN sl26 rfl rfl (hr := (by first | exact rdp | exact .arg (hNi _ (by omega))))) ?_ | refine .v (.iK sl26 rfl rfl (hr := (by first | exact rdp | exact .arg (hNi _ (by omega))))) ?_
          refine AK.store1e 3 rfl sz3 rfl rfl rfl rfl (by omega) (cs' := ((canN ((sgs7 d x.2).take (q + 1)) ++ List.replicate (d.fin.length - (q + 1)) 0).map (Value.int .i64))) (by exact can_fill zero7 hsl hqn hcv) trivial ?_
          refine .nil (.block_normal ?_)
          refine AK.then_ (hK22 _ ?_)
          refine AK.region ?_
          refine .v (.add rfl rfl (by omega)) ?_
          refine .mv rfl (.nil ?_)
          first | refine AK.then_ (hK19 _ _ (q + 1) (by omega) (by omega) (slr) (fun w hw => by rw [← ded_new zero7 (by omega) hx]; exact hw.pick [0, 1, 2, 3] (by decide) rfl rfl)) | refine AK.then_ (hK19 _ _ (q + 1) (by omega) (by omega) (slr) (fun w hw => by rw [ded_old zero7 (by omega) (by assumption)]; exact hw.pick [0, 1, 2, 3] (by decide) rfl rfl))
         ·obtain ⟨hx, hcv⟩ := num_old hc5
          refine .skip ?_
          refine AK.then_ (hK33 _ ?_)
          refine AK.region ?_
          refine .mv rfl (.mv rfl (.mv rfl ?_))
          first | refine .v (.iN sl26 rfl rfl (hr := (by first | exact rdp | exact .arg (hNi _ (by omega))))) ?_ | refine .v (.iK sl26 rfl rfl (hr := (by first | exact rdp | exact .arg (hNi _ (by omega))))) ?_
          refine AK.store1e 3 rfl sz3 rfl rfl rfl rfl (by omega) (cs' := ((canN ((sgs7 d x.2).take (q + 1)) ++ List.replicate (d.fin.length - (q + 1)) 0).map (Value.int .i64))) (by exact can_fill zero7 hsl hqn hcv) trivial ?_
          refine .nil (.block_normal ?_)
          refine AK.then_ (hK22 _ ?_)
          refine AK.region ?_
          refine .v (.add rfl rfl (by omega)) ?_
          refine .mv rfl (.nil ?_)
          first | refine AK.then_ (hK19 _ _ (q + 1) (by omega) (by omega) (slr) (fun w hw => by rw [← ded_new zero7 (by omega) hx]; exact hw.pick [0, 1, 2, 3] (by decide) rfl rfl)) | refine AK.then_ (hK19 _ _ (q + 1) (by omega) (by omega) (slr) (fun w hw => by rw [ded_old zero7 (by omega) (by assumption)]; exact hw.pick [0, 1, 2, 3] (by decide) rfl rfl))
      ·refine .exit (.then_exit (.then_exit (.block_exit ?_)))
       refine AK.then_ (hK17 _ ?_)
       refine .seq fun _ hK36 => ?_
       refine .sr fun _ hK37 => ?_
       refine .mv rfl (.v (.lenM mp191 rfl msp) (.mv rfl (.v (.eql rfl rfl) (.nt hK37 ?_))))
       refine AK.condD rfl (fun hc6 => ?_) (fun hc6 => ?_)
       ·have hqe : q = d.fin.length := by omega
        have hsl := sgs7_len d x.2
        have hcn := sgs7_can hv x.2
        have hnl := numM_len (ded ((sgs7 d x.2).take q))
        rw [hqe, ← hsl, List.take_length] at hc6 hnl
        refine .sr fun _ hK38 => ?_
        refine .mv rfl (.as rfl (.nt hK38 (.ret (.then_ret (.block_ret (.then_ret (.block_ret ?_)))))))
        refine AK.ret1 rfl rfl (fun w hw => ⟨_, _, ?_, rfl, Ret.of (hw.pick [3] (by decide) rfl rfl)⟩)
        obtain ⟨kk, hkk⟩ := hg1.1
        have e := cls_stop hv hkk (by omega)
        refine ⟨smv1, ?_⟩
        rw [show ClsV d = clsD d from if_pos hv, cls_len, hqe, Nat.sub_self, List.replicate_zero, List.append_nil, ← hsl, List.take_length, hcn.1, e, hsl]
        rfl
       ·have hqe : q = d.fin.length := by omega
        have hsl := sgs7_len d x.2
        have hcn := sgs7_can hv x.2
        have hnl := numM_len (ded ((sgs7 d x.2).take q))
        rw [hqe, ← hsl, List.take_length] at hc6 hnl
        obtain ⟨kk, hkk⟩ := hg1.1
        have hmo := cls_more hv hkk (by omega)
        refine .skip ?_
        refine AK.then_ (hK36 _ ?_)
        refine AK.region ?_
        refine .mv rfl (.mv rfl (.v (.lenM mp191 rfl msp) (.as rfl (.as rfl (.nil (.block_normal ?_))))))
        refine AK.then_ (hK14 _ _ ((mv1, canN (sigs d x.2))) ⟨⟨kk + 1, hkk.next hv⟩, smv1⟩ (by dsimp only; omega) (.cons (rfl) (.cons (slI rfl (by dsimp only; rw [ded_canN, ← hcn.2, numM_len, hqe, ← hsl, List.take_length])) (slr))) (fun w hw => by rw [hqe, Nat.sub_self, List.replicate_zero, List.append_nil, ← hsl, List.take_length, hcn.1, hsl] at hw; exact hw.pick [0, 3] (by decide) rfl rfl))

end Go.Proofs.YtdnhiinakhmhgaaGreatDoor

namespace Go.Proofs.YtdnhiinakhmhgaaGreatDoor
open Go.Sx Go.RowKit
set_option maxHeartbeats 400000 in
theorem s_ofI (w : World) (F : Nat → Prop) (b mb : Nat) (vL : Value) (xs : List Int) (x : Int) (hl : xs.length ≤ 100000) (sL : IsSl vL) (hA : (bigA [box b 175 2 [vL, .map (some mb)], row vL 3 1 xs.length (xs.map (Value.int .i64)), mapA mb (mkv (Value.int .i64) (Value.int .i64) (numM xs))]).holds w F) : CallM Tryz.prog 115 [.pointer (some ⟨b, 0, none⟩), Value.int .i64 x] w F (fun r A o => ∃ va, IsSl va ∧ r = .int .i64 ((posN xs x : Nat) : Int) ∧ A = bigA [box b 175 2 [va, .map (some mb)], row va 3 1 (insN xs x).length ((insN xs x).map (Value.int .i64)), mapA mb (mkv (Value.int .i64) (Value.int .i64) (numM (insN xs x)))] ∧ o = []) := by
 refine specM_of' Tryz.func115 rfl (leb rfl) hA ?_
 refine .sr fun _ hK1 => ?_
 refine .as rfl (.nt hK1 ?_)
 refine .sr fun _ hK2 => ?_
 refine .mv rfl (.v (.nilCheck rfl) (.v (.fieldAddr fd175_1 rfl) (.v (.loadBox on173 rfl bsp rfl) (.mv rfl (.v (.lookup2I mp173 (keyInt un3) el3 rfl rfl msp) (.mv rfl (.v (.extract rfl rfl) ?_)))))))
 refine .v (.extract rfl rfl) (.as rfl (.as rfl (.nt hK2 ?_)))
 refine .seq fun _ hK3 => ?_
 refine .sr fun _ hK4 => ?_
 refine .mv rfl (.v (.not rfl) (.nt hK4 ?_))
 refine AK.condB rfl (fun hc0 => ?_) (fun hc0 => ?_)
 ·have hx : x ∉ xs := by
   rw [mget_numM] at hc0; intro h; rw [if_pos h] at hc0; cases hc0
  refine .seq fun _ hK5 => ?_
  refine .sr fun _ hK6 => ?_
  refine .mv rfl (.v (.nilCheck rfl) (.v (.fieldAddr fd175_1 rfl) (.v (.loadBox on173 rfl bsp rfl) (.v (.eqlMap mp173 rfl) (.nt hK6 ?_)))))
  refine AK.cond_f rfl (rfl) ?_
  refine .skip ?_
  refine AK.then_ (hK5 _ ?_)
  refine .sr fun _ hK7 => ?_
  refine .mv rfl (.v (.nilCheck rfl) (.v (.fieldAddr fd175_0 rfl) (.v (.loadBox on26 rfl bsp rfl) (.v (.lenR sl26 rfl rdp) (.as rfl (.nt hK7 ?_))))))
  refine .sr fun _ hK8 => ?_
  refine .mv rfl (.v (.nilCheck rfl) (.v (.fieldAddr fd175_1 rfl) (.v (.loadBox on173 rfl bsp rfl) (.mv rfl (.mv rfl ?_)))))
  refine AK.mapSet 2 rfl mp173 (keyInt un3) rfl rfl rfl trivial ?_
  refine .nt hK8 ?_
  refine AK.region ?_
  refine .mv rfl (.mv rfl (.v (.nilCheck rfl) (.v (.fieldAddr fd175_0 rfl) (.v (.loadBox on26 rfl bsp rfl) (.mv rfl ?_)))))
  refine AK.append1 1 rfl sl26 el3 rfl (by decide) rfl (by intro k hk; cases hk; rfl) rfl (by intro u hu; simp [Value.cells] at hu; subst hu; rfl) (by omega) (by omega) (by decide) rfl rfl (fun va _ hsa => ?_)
  refine .v (.nilCheck rfl) (.v (.fieldAddr fd175_0 rfl) ?_)
  refine AK.storeBox 0 (us := [va]) (cs' := [va, .map (some mb)]) rfl sz26 rfl rfl (by rw [IsSl.cells (by assumption)]) rfl oneP (leb rfl) rfl trivial ?_
  refine .nt hK3 ?_
  refine .sr fun _ hK9 => ?_
  refine .mv rfl (.as rfl (.nt hK9 (.ret ?_)))
  refine AK.grown [box b 175 2 [va, .map (some mb)], row va 3 1 (xs.length + 1) ((xs.map (Value.int .i64)) ++ (Value.int .i64 x).cells.toList), mapA mb (mkv (Value.int .i64) (Value.int .i64) (mset (numM xs) x (xs.length : Int)))] [0, 1, 2] (by decide) pkl ?_
  refine AK.ret1 rfl rfl (fun w hw => ⟨_, _, _, ?_, rfl, Ret.ofBig0 hw⟩)
  refine ⟨va, hsa, ?_, ?_, rfl⟩
  ·rw [posN_not hx]
   try rfl
  ·rw [show insN xs x = xs ++ [x] from if_neg hx, ← mset_numM hx]; simp [Value.cells]
 ·have hx : x ∈ xs := by
   rw [mget_numM] at hc0; by_cases h : x ∈ xs
   ·exact h
   ·rw [if_neg h] at hc0; cases hc0
  refine .skip ?_
  refine AK.then_ (hK3 _ ?_)
  refine .sr fun _ hK10 => ?_
  refine .mv rfl (.as rfl (.nt hK10 (.ret ?_)))
  refine AK.grown [box b 175 2 [vL, .map (some mb)], row vL 3 1 xs.length (xs.map (Value.int .i64)), mapA mb (mkv (Value.int .i64) (Value.int .i64) (numM xs))] [0, 1, 2] (by decide) pkl ?_
  refine AK.ret1 rfl rfl (fun w hw => ⟨_, _, _, ?_, rfl, Ret.ofBig0 hw⟩)
  refine ⟨vL, sL, ?_, ?_, rfl⟩
  ·rw [mget_numM, if_pos hx]
   try rfl
  ·rw [show insN xs x = xs from if_pos hx]

set_option maxHeartbeats 400000 in
theorem s_of0I (w : World) (F : Nat → Prop) (b : Nat) (x : Int) (hA : (bigA [box b 175 2 [.slice none 0 0, .map none]]).holds w F) : CallM Tryz.prog 115 [.pointer (some ⟨b, 0, none⟩), Value.int .i64 x] w F (fun r A o => ∃ va mb, IsSl va ∧ r = .int .i64 0 ∧ A = bigA [box b 175 2 [va, .map (some mb)], row va 3 1 [x].length ([x].map (Value.int .i64)), mapA mb (mkv (Value.int .i64) (Value.int .i64) (numM [x]))] ∧ o = []) := by
 refine specM_of' Tryz.func115 rfl (leb rfl) hA ?_
 refine AK.ghost 3 1 ?_
 refine .sr fun _ hK1 => ?_
 refine .as rfl (.nt hK1 ?_)
 refine .sr fun _ hK2 => ?_
 refine .mv rfl (.v (.nilCheck rfl) (.v (.fieldAddr fd175_1 rfl) (.v (.loadBox on173 rfl bsp rfl) (.mv rfl (.v (.lookup2I (m := ([] : List (Int × Int))) mp173 (keyInt un3) el3 rfl rfl MapS.nil) (.mv rfl (.v (.extract rfl rfl) ?_)))))))
 refine .v (.extract rfl rfl) (.as rfl (.as rfl (.nt hK2 ?_)))
 refine .seq fun _ hK3 => ?_
 refine .sr fun _ hK4 => ?_
 refine .mv rfl (.v (.not rfl) (.nt hK4 ?_))
 refine AK.cond_t rfl (rfl) ?_
 refine .seq fun _ hK5 => ?_
 refine .sr fun _ hK6 => ?_
 refine .mv rfl (.v (.nilCheck rfl) (.v (.fieldAddr fd175_1 rfl) (.v (.loadBox on173 rfl bsp rfl) (.v (.eqlMap mp173 rfl) (.nt hK6 ?_)))))
 refine AK.cond_t rfl (rfl) ?_
 refine AK.region ?_
 refine .mv rfl ?_
 refine AK.makeMap trivial rfl (fun mb => ?_)
 refine .v (.nilCheck rfl) (.v (.fieldAddr fd175_1 rfl) ?_)
 refine AK.storeBox 0 (us := [.map (some mb)]) (cs' := [.slice none 0 0, .map (some mb)]) rfl sz173 rfl rfl rfl rfl oneP (leb rfl) rfl trivial ?_
 refine .nt hK5 ?_
 refine .sr fun _ hK7 => ?_
 refine .mv rfl (.v (.nilCheck rfl) (.v (.fieldAddr fd175_0 rfl) (.v (.loadBox on26 rfl bsp rfl) (.v (.lenR sl26 rfl rdp) (.as rfl (.nt hK7 ?_))))))
 refine .sr fun _ hK8 => ?_
 refine .mv rfl (.v (.nilCheck rfl) (.v (.fieldAddr fd175_1 rfl) (.v (.loadBox on173 rfl bsp rfl) (.mv rfl (.mv rfl ?_)))))
 refine AK.mapSet 2 (m := ([] : List (Int × Int))) rfl mp173 (keyInt un3) rfl rfl rfl trivial ?_
 refine .nt hK8 ?_
 refine AK.region ?_
 refine .mv rfl (.mv rfl (.v (.nilCheck rfl) (.v (.fieldAddr fd175_0 rfl) (.v (.loadBox on26 rfl bsp rfl) (.mv rfl ?_)))))
 refine AK.append1 1 rfl sl26 el3 rfl (by decide) rfl (by intro k hk; cases hk; rfl) rfl (by intro u hu; simp [Value.cells] at hu; subst hu; rfl) (by omega) (by omega) (by decide) rfl rfl (fun va _ hsa => ?_)
 refine .v (.nilCheck rfl) (.v (.fieldAddr fd175_0 rfl) ?_)
 refine AK.storeBox 0 (us := [va]) (cs' := [va, .map (some mb)]) rfl sz26 rfl rfl (by rw [IsSl.cells (by assumption)]) rfl oneP (leb rfl) rfl trivial ?_
 refine .nt hK3 ?_
 refine .sr fun _ hK9 => ?_
 refine .mv rfl (.as rfl (.nt hK9 (.ret ?_)))
 refine AK.grown [box b 175 2 [va, .map (some mb)], row va 3 1 (0 + 1) ([] ++ (Value.int .i64 x).cells.toList), mapA mb (mkv (Value.int .i64) (Value.int .i64) (mset ([] : List (Int × Int)) x ((0 : Nat) : Int)))] [0, 1, 2] (by decide) pkl ?_
 refine AK.ret1 rfl rfl (fun w hw => ⟨_, _, _, ?_, rfl, Ret.ofBig0 hw⟩)
 exact ⟨va, mb, hsa, rfl, rfl, rfl⟩

set_option maxHeartbeats 1000000 in
theorem s_exploreI (w : World) (L : Nat) (s : Int) (f : Int → Nat → Int) (g : Int → Bool) (U : List Int) (fN fG : Nat) (cN cG : List Value) (hL : 1 ≤ L ∧ L ≤ 6) (hs : s ∈ U) (hU : U.length ≤ 512) (hf : ∀ q ∈ U, ∀ x, x < L → f q x ∈ U) (hcN : CallOk Tryz.prog fN) (hcG : CallOk Tryz.prog fG) (hN : ∀ w', FrameX (fun _ => False) w w' → ∀ q ∈ U, ∀ x, x < L → CallS Tryz.prog fN ([(Value.int .i64 q), .int .i64 (x : Int)] ++ cN) w' (fun r o => r = (Value.int .i64 (f q x)) ∧ o = [])) (hG : ∀ w', FrameX (fun _ => False) w w' → ∀ q ∈ U, CallS Tryz.prog fG ([(Value.int .i64 q)] ++ cG) w' (fun r o => r = .bool (g q) ∧ o = [])) : CallS Tryz.prog 88 [.int .i64 (L : Int), Value.int .i64 s, .func (.func fN) #[] cN.toArray, .func (.func fG) #[] cG.toArray] w (fun r o => ∃ (n : Nat) (vL vF vN : Value) (rs : List Value), n = (exI f L s 0 n).length ∧ rs.length = n ∧ IsSl vL ∧ IsSl vF ∧ IsSl vN ∧ r = .tuple #[.agg #[.int .i64 (L : Int), .int .i64 0, vF, vN], vL, .int .i64 0] ∧ o = dfaO 4 3 26 vF vN rs ⟨(L : Int), 0, (exG f L s 0 g n), (exN f L s 0 n)⟩ ++ [row vL 3 1 (exI f L s 0 n).length ((exI f L s 0 n).map (Value.int .i64))]) := by
 have hok := exI_ok (z := 0) hs hf
 have hbd := exI_bd (z := 0) hs hf
 refine spec_of Tryz.func88 rfl (leb rfl) ?_
 refine .sr fun _ hK1 => ?_
 refine AK.alloc el43 rfl rfl trivial rfl (fun bx8 => ?_)
 refine .as rfl (.as rfl (.nt hK1 ?_))
 refine .sr fun _ hK2 => ?_
 refine AK.alloc el175 rfl rfl trivial rfl (fun bx11 => ?_)
 refine .nt hK2 ?_
 refine .sr fun _ hK3 => ?_
 refine .mv rfl ?_
 refine AK.own' [bigA [box bx11 175 2 [.slice none 0 0, .map none]], box bx8 43 4 [.int .i64 0, .int .i64 0, .slice none 0 0, .slice none 0 0]] (fun w hw => HW.unflat (l := [_]) (own := [_]) (hw.pick [1, 0] (by decide) rfl rfl)) ?_
 refine AK.callM 0 rfl co115 rfl (fun w F hw hA => s_of0I w F bx11 s hA) trivial rfl ?_
 rintro r A o ⟨vl, mb, sl0, rfl, rfl, rfl⟩
 refine AK.flat0 rfl ?_
 refine .nt hK3 ?_
 refine .sr fun _ hK4 => ?_
 refine .mv rfl ?_
 refine .v (.build (parts := [(0, .tmp 19)]) (cs := #[.int .i64 (L : Int), .int .i64 0, .slice none 0 0, .slice none 0 0]) rfl (by kernel_rfl)) ?_
 refine AK.alloc el43 rfl rfl trivial rfl (fun bx12 => ?_)
 refine AK.storeBox 4 (us := [.int .i64 (L : Int), .int .i64 0, .slice none 0 0, .slice none 0 0]) (cs' := [.int .i64 (L : Int), .int .i64 0, .slice none 0 0, .slice none 0 0]) rfl sz43 rfl rfl rfl rfl oneP (leb rfl) rfl trivial ?_
 refine .nt hK4 ?_
 refine .seq fun _ hK5 => ?_
 refine .sr fun _ hK6 => ?_
 refine .as rfl (.nt hK6 (.block ?_))
 refine AK.loopK (X := Nat × Value × Value × Value × List Value) [(0, _), (2, _), (3, _), (8, _), (11, _), (12, _)] (fun x => [(13, .int .i64 (x.1 : Int))]) (fun x => [box bx11 175 2 [x.2.1, .map (some mb)], row x.2.1 3 1 (exI f L s 0 x.1).length ((exI f L s 0 x.1).map (Value.int .i64)), mapA mb (mkv (Value.int .i64) (Value.int .i64) (numM (exI f L s 0 x.1))), box bx8 43 4 [.int .i64 0, .int .i64 0, .slice none 0 0, .slice none 0 0], box bx12 43 4 [.int .i64 (L : Int), .int .i64 0, x.2.2.1, x.2.2.2.1], row x.2.2.1 4 1 x.1 ((exG f L s 0 g x.1).map Value.bool), row x.2.2.2.1 26 1 x.1 x.2.2.2.2, bigA (matG (Value.int .i64) 3 x.2.2.2.2 (exN f L s 0 x.1))]) (fun x => x.1 ≤ (exI f L s 0 x.1).length ∧ x.2.2.2.2.length = x.1 ∧ IsSl x.2.1 ∧ IsSl x.2.2.1 ∧ IsSl x.2.2.2.1) (fun x => U.length - x.1) ((0, vl, .slice none 0 0, .slice none 0 0, [])) slr ?_ ?_ ?_ ?_
 ·exact ⟨Nat.zero_le _, rfl, sl0, nilSl, nilSl⟩
 ·exact slr
 ·exact fun w hw => by have h1 := ((hw.ghostG (f := Value.int .i64) 3).ghost 4 1).ghost 26 1; exact h1.pick [0, 1, 2, 3, 4, 6, 7, 5] (by decide) rfl rfl
 ·intro x hg0 _ hK7
  have hb0 := hbd x.1
  have hsF := hg0.2.2.2.1
  have hsN := hg0.2.2.2.2
  refine .seq fun _ hK8 => ?_
  refine .sr fun _ hK9 => ?_
  refine .mv rfl (.v (.fieldAddr fd175_0 rfl) (.v (.loadBox on26 rfl bsp rfl) (.v (.lenR sl26 rfl rdp) (.v (.lss rfl rfl) (.nt hK9 ?_)))))
  refine AK.condD rfl (fun hc0 => ?_) (fun hc0 => ?_)
  ·have hlt : x.1 < (exI f L s 0 x.1).length := (by omega)
   have hqU : ((exI f L s 0 x.1).getD x.1 0) ∈ U := (hok x.1).2 _ (getD_mem hlt)
   have hrb := fun k hk => exR_bd (z := 0) hs hf (k := k) hlt hk
   refine .skip ?_
   refine AK.then_ (hK8 _ ?_)
   refine .seq fun _ hK10 => ?_
   refine .block ?_
   refine .sr fun _ hK11 => ?_
   refine .v (.fieldAddr fd175_0 rfl) (.v (.loadBox on26 rfl bsp rfl) (.mv rfl ?_))
   first | refine .v (.iN sl26 rfl rfl) ?_ | refine .v (.iK sl26 rfl rfl) ?_
   refine .v (.loadI on3 rfl rdp (by omega)) ?_
   refine .as rfl (.nt hK11 ?_)
   refine .sr fun _ hK12 => ?_
   refine .mv rfl ?_
   refine AK.make1 (n := L) sl26 el3 rfl rfl rfl (by omega) (by omega) trivial rfl (fun mv => ?_)
   refine .as rfl (.nt hK12 ?_)
   refine .seq fun _ hK13 => ?_
   refine .sr fun _ hK14 => ?_
   refine .mv rfl (.v (.lenR sl26 rfl rdp) (.mv rfl (.nt hK14 (.block ?_))))
   refine AK.loopK (X := Nat × Value) [(0, _), (2, _), (3, _), (8, _), (11, _), (12, _), (13, _), (14, _), (15, _), (36, _)] (fun y => [(37, .int .i64 (y.1 : Int))]) (fun y => [box bx11 175 2 [y.2, .map (some mb)], row y.2 3 1 (exR f ((exI f L s 0 x.1).getD x.1 0) (exI f L s 0 x.1) y.1).length ((exR f ((exI f L s 0 x.1).getD x.1 0) (exI f L s 0 x.1) y.1).map (Value.int .i64)), mapA mb (mkv (Value.int .i64) (Value.int .i64) (numM (exR f ((exI f L s 0 x.1).getD x.1 0) (exI f L s 0 x.1) y.1))), box bx8 43 4 [.int .i64 0, .int .i64 0, .slice none 0 0, .slice none 0 0], box bx12 43 4 [.int .i64 (L : Int), .int .i64 0, x.2.2.1, x.2.2.2.1], row x.2.2.1 4 1 x.1 ((exG f L s 0 g x.1).map Value.bool), row x.2.2.2.1 26 1 x.1 x.2.2.2.2, bigA (matG (Value.int .i64) 3 x.2.2.2.2 (exN f L s 0 x.1)), row mv 3 1 L (((exW f ((exI f L s 0 x.1).getD x.1 0) (exI f L s 0 x.1) y.1) ++ List.replicate (L - y.1) 0).map (Value.int .i64))]) (fun y => y.1 ≤ L ∧ IsSl y.2) (fun y => L - y.1) ((0, x.2.1)) slr ?_ ?_ ?_ ?_
   ·exact ⟨Nat.zero_le _, hg0.2.2.1⟩
   ·exact slr
   ·exact fun w hw => by have e : (((exW f ((exI f L s 0 x.1).getD x.1 0) (exI f L s 0 x.1) 0) ++ List.replicate (L - 0) 0).map (Value.int .i64)) = List.replicate L (Value.int .i64 0) := (by simp [exW]); rw [e]; exact hw
   ·intro y hg1 _ hK15
    refine .sr fun _ hK16 => ?_
    refine .v (.lss rfl rfl) (.nt hK16 ?_)
    refine .seq fun _ hK17 => ?_
    refine AK.condD rfl (fun hc1 => ?_) (fun hc1 => ?_)
    ·refine .skip ?_
     refine AK.then_ (hK17 _ ?_)
     refine .seq fun _ hK18 => ?_
     refine .block ?_
     refine .sr fun _ hK19 => ?_
     refine .mv rfl (.as rfl (.nt hK19 ?_))
     refine AK.region ?_
     refine .mv rfl (.mv rfl (.mv rfl (.mv rfl (.mv rfl ?_))))
     refine AK.callV hcN rfl rfl (fun w hw => hN w hw.frame _ hqU y.1 (by omega)) trivial rfl ?_
     rintro r o ⟨rfl, rfl⟩
     refine AK.own' (bigA [box bx11 175 2 [y.2, .map (some mb)], row y.2 3 1 (exR f ((exI f L s 0 x.1).getD x.1 0) (exI f L s 0 x.1) y.1).length ((exR f ((exI f L s 0 x.1).getD x.1 0) (exI f L s 0 x.1) y.1).map (Value.int .i64)), mapA mb (mkv (Value.int .i64) (Value.int .i64) (numM (exR f ((exI f L s 0 x.1).getD x.1 0) (exI f L s 0 x.1) y.1)))] :: [box bx8 43 4 [.int .i64 0, .int .i64 0, .slice none 0 0, .slice none 0 0], box bx12 43 4 [.int .i64 (L : Int), .int .i64 0, x.2.2.1, x.2.2.2.1], row x.2.2.1 4 1 x.1 ((exG f L s 0 g x.1).map Value.bool), row x.2.2.2.1 26 1 x.1 x.2.2.2.2, bigA (matG (Value.int .i64) 3 x.2.2.2.2 (exN f L s 0 x.1)), row mv 3 1 L (((exW f ((exI f L s 0 x.1).getD x.1 0) (exI f L s 0 x.1) y.1) ++ List.replicate (L - y.1) 0).map (Value.int .i64))]) (fun w hw => HW.unflat (l := [_, _, _]) (own := [_, _, _, _, _, _]) (hw.pick [0, 1, 2, 3, 4, 5, 6, 7, 8] (by decide) rfl rfl)) ?_
     refine AK.callM 0 rfl co115 rfl (fun w F hw hA => s_ofI w F bx11 mb y.2 (exR f ((exI f L s 0 x.1).getD x.1 0) (exI f L s 0 x.1) y.1) (f ((exI f L s 0 x.1).getD x.1 0) y.1) (by have := hrb y.1 (by omega); omega) hg1.2 hA) trivial rfl ?_
     rintro r A o ⟨va, sa, rfl, rfl, rfl⟩
     refine AK.flat0 rfl ?_
     first | refine .v (.iN sl26 rfl rfl) ?_ | refine .v (.iK sl26 rfl rfl) ?_
     refine AK.store1e 8 rfl sz3 rfl rfl rfl rfl (by omega) (cs' := (((exW f ((exI f L s 0 x.1).getD x.1 0) (exI f L s 0 x.1) (y.1 + 1)) ++ List.replicate (L - (y.1 + 1)) 0).map (Value.int .i64))) (by exact fill_set (Value.int .i64) (exW f ((exI f L s 0 x.1).getD x.1 0) (exI f L s 0 x.1) y.1) 0 _ L y.1 (exW_len _ _ _ _) (by omega)) trivial ?_
     refine .nil (.block_normal ?_)
     refine AK.then_ (hK18 _ ?_)
     refine AK.region ?_
     refine .v (.add rfl rfl (by omega)) ?_
     refine .mv rfl (.nil ?_)
     refine AK.then_ (hK15 _ _ ((y.1 + 1, va)) ⟨by dsimp only; omega, sa⟩ (by dsimp only; omega) (slr) (fun w hw => hw))
    ·refine AK.shape 8 rfl (fun hsr => ?_)
     have hyL : y.1 = L := (by omega)
     refine .exit (.then_exit (.then_exit (.block_exit ?_)))
     refine AK.then_ (hK13 _ ?_)
     refine .seq fun _ hK20 => ?_
     refine .sr fun _ hK21 => ?_
     refine .v (.fieldAddr fd175_0 rfl) (.v (.loadBox on26 rfl bsp rfl) (.v (.lenR sl26 rfl rdp) (.v (.gtr rfl rfl) (.nt hK21 ?_))))
     refine AK.cond_f rfl (decide_eq_false (by have := hrb y.1 (by omega); omega)) ?_
     refine .skip ?_
     refine AK.then_ (hK20 _ ?_)
     refine .sr fun _ hK22 => ?_
     refine .v (.fieldAddr fd43_3 rfl) (.v (.loadBox on22 rfl bsp rfl) (.mv rfl ?_))
     refine AK.append1 6 rfl sl22 el26 rfl (by decide) rfl (by intro k hk; cases hk; rfl) (by rw [hsr.cells]; rfl) (by rw [hsr.cells]; exact one'_cons hsr.one one'_nil) (by omega) (by omega) (by decide) rfl rfl (fun vn2 _ hn2 => ?_)
     refine .v (.fieldAddr fd43_3 rfl) ?_
     refine AK.storeBox 4 (us := [vn2]) (cs' := [.int .i64 (L : Int), .int .i64 0, x.2.2.1, vn2]) rfl sz22 rfl rfl (by rw [IsSl.cells (by assumption)]) rfl oneP (leb rfl) rfl trivial ?_
     refine .nt hK22 ?_
     try (conv => enter [2, 2]; simp only [nrm])
     refine AK.held 8 mixed ?_
     refine HeldK.first 0 (fuel := 8) (listed' := (lb 9 1)) _ rfl krf krf rfl (Yl.fieldAddr fd43_2 rfl) trivial rfl ?_
     refine HeldK.first 1 (fuel := 7) (listed' := (lb 9 3)) _ rfl krf krf rfl (Yl.loadBox on41 rfl bsp rfl) trivial rfl ?_
     refine HeldK.first 2 (fuel := 6) (listed' := (lb 9 7)) _ rfl krf krf rfl (Yl.move rfl) trivial rfl ?_
     refine HeldK.first 3 (fuel := 5) (listed' := (lb 9 15)) _ rfl krf krf rfl (Yl.move rfl) trivial rfl ?_
     refine HeldK.one 4 (fuel := 4) (listed' := (lb 9 31)) krf rfl krf ?_
     refine AK.callV hcG rfl rfl (fun w hw => hG w hw.frame _ hqU) trivial rfl ?_
     rintro r o ⟨rfl, rfl⟩
     refine .nil ?_
     try (conv => enter [2, 2]; simp only [nrm])
     refine HeldK.back Go.Sx.hle ?_
     refine HeldK.one 5 (fuel := 3) (listed' := (lb 9 63)) krf rfl krf ?_
     refine AK.lit (xs := [.tmp 64]) sl41 el4 rfl rfl rfl (by simp [Value.cells]) (by decide) (by decide) trivial rfl (fun lg => ?_)
     refine .nil ?_
     try (conv => enter [2, 2]; simp only [nrm])
     refine HeldK.back Go.Sx.hle ?_
     refine HeldK.one 6 (fuel := 2) (listed' := (lb 9 127)) krf rfl krf ?_
     refine AK.appendH 5 rfl sl41 el4 rfl (by decide) rfl rfl rfl rdp oneP (by omega) (by omega) trivial rfl (fun vf2 hf2 => ?_)
     refine .nil ?_
     try (conv => enter [2, 2]; simp only [nrm])
     refine HeldK.back Go.Sx.hle ?_
     refine HeldK.first 7 (fuel := 1) (listed' := (lb 9 255)) _ rfl krf krf rfl (Yl.fieldAddr fd43_2 rfl) trivial rfl ?_
     refine HeldK.one 8 (fuel := 0) (listed' := (lb 9 511)) krf rfl krf ?_
     refine AK.storeBox 4 (us := [vf2]) (cs' := [.int .i64 (L : Int), .int .i64 0, vf2, vn2]) rfl sz41 rfl rfl (by rw [IsSl.cells (by assumption)]) rfl oneP (leb rfl) rfl trivial ?_
     refine .nil ?_
     try (conv => enter [2, 2]; simp only [nrm])
     refine HeldK.backN 9 krf rfl krf ?_
     refine .nil ?_
     refine AK.fromQn ?_
     refine .block_normal ?_
     refine AK.then_ (hK10 _ ?_)
     refine AK.region ?_
     refine .mv rfl ?_
     refine .v (.add rfl rfl (by omega)) ?_
     refine .as rfl (.nil ?_)
     refine AK.then_ (hK7 _ _ ((x.1 + 1, y.2, vf2, vn2, x.2.2.2.2 ++ [mv])) ⟨by dsimp only; rw [exI_next hlt]; have := exR_pre f ((exI f L s 0 x.1).getD x.1 0) (exI f L s 0 x.1) L; obtain ⟨ys, e⟩ := this; rw [e, List.length_append]; omega, by simp [hg0.2.1], hg1.2, hf2, hn2⟩ (by dsimp only; omega) (slr) (fun w hw => by
  dsimp only
  have e2 : matG (Value.int .i64) 3 (x.2.2.2.2 ++ [mv]) (exN f L s 0 (x.1 + 1)) = matG (Value.int .i64) 3 x.2.2.2.2 (exN f L s 0 x.1) ++ [row mv 3 1 (exW f ((exI f L s 0 x.1).getD x.1 0) (exI f L s 0 x.1) L).length ((exW f ((exI f L s 0 x.1).getD x.1 0) (exI f L s 0 x.1) L).map (Value.int .i64))] := matG_snoc (by rw [exN_len]; exact hg0.2.1) mv _
  have e3 : mv.cells.toList = [mv] := (by rw [hsr.cells])
  have e4 : L - y.1 = 0 := (by omega)
  rw [e3, e4] at hw
  rw [e2, exI_next hlt, exW_len]
  rw [hyL] at hw
  have e5 : (exG f L s 0 g (x.1 + 1)).map Value.bool = (exG f L s 0 g x.1).map Value.bool ++ [Value.bool (g ((exI f L s 0 x.1).getD x.1 0))].flatMap (·.cells.toList) := (by simp [exG, Value.cells])
  rw [e5]
  have h2 := hw.pickLe (L := [_, _, _, _, _, row vf2 4 1 (x.1 + 1) ((exG f L s 0 g x.1).map Value.bool ++ [Value.bool (g ((exI f L s 0 x.1).getD x.1 0))].flatMap (·.cells.toList)), _, _, _]) [0, 1, 2, 3, 4, 5, 6, 7, 8] (by decide) pkl
  rw [List.replicate_zero, List.append_nil] at h2
  exact HW.absorb (own := [_, _, _, _, _, _, _, _]) 7 rfl h2))
  ·refine .exit (.then_exit (.then_exit (.block_exit ?_)))
   refine AK.then_ (hK5 _ ?_)
   refine .seq fun _ hK23 => ?_
   try (conv => enter [2, 2]; simp only [nrm])
   refine AK.heldS _ 6 (fun _ hw => hw.pick [0, 1, 2, 4, 5, 6, 7] (by decide) rfl rfl) mixed ?_
   refine HeldK.firstS (fun _ hw => hw.pick [0, 1, 2, 4, 5, 6, 7] (by decide) rfl rfl) 0 (fuel := 5) (listed' := (lb 6 1)) _ rfl krf krf rfl (Yl.loadBoxG ag43 rfl bsp rfl rfl) trivial rfl ?_
   refine HeldK.firstS (fun _ hw => hw.pick [0, 1, 2, 4, 5, 6, 7] (by decide) rfl rfl) 1 (fuel := 4) (listed' := (lb 6 3)) _ rfl krf krf rfl (Yl.fieldAddr fd175_0 rfl) trivial rfl ?_
   refine HeldK.firstS (fun _ hw => hw.pick [0, 1, 2, 4, 5, 6, 7] (by decide) rfl rfl) 2 (fuel := 3) (listed' := (lb 6 7)) _ rfl krf krf rfl (Yl.loadBox on26 rfl bsp rfl) trivial rfl ?_
   refine HeldK.one 3 (fuel := 2) (listed' := (lb 6 15)) krf rfl krf ?_
   refine AK.storeBox 3 (us := [.int .i64 (L : Int), .int .i64 0, x.2.2.1, x.2.2.2.1]) (cs' := [.int .i64 (L : Int), .int .i64 0, x.2.2.1, x.2.2.2.1]) rfl sz43 rfl rfl rfl rfl oneP (leb rfl) rfl trivial ?_
   refine .nil ?_
   try (conv => enter [2, 2]; simp only [nrm])
   refine HeldK.backS (fun _ hw => hw.pick [0, 1, 2, 4, 5, 6, 7] (by decide) rfl rfl) ?_
   refine HeldK.firstS (fun _ hw => hw.pick [0, 1, 2, 4, 5, 6, 7] (by decide) rfl rfl) 4 (fuel := 1) (listed' := (lb 6 31)) _ rfl krf krf rfl (Yl.assign rfl) trivial rfl ?_
   refine HeldK.firstS (fun _ hw => hw.pick [0, 1, 2, 4, 5, 6, 7] (by decide) rfl rfl) 5 (fuel := 0) (listed' := (lb 6 63)) _ rfl krf krf rfl (Yl.assign rfl) trivial rfl ?_
   refine HeldK.done krf ?_
   refine AK.then_ (hK23 _ ?_)
   refine .ret ?_
   refine AK.own' ([box bx11 175 2 [x.2.1, .map (some mb)], row x.2.1 3 1 (exI f L s 0 x.1).length ((exI f L s 0 x.1).map (Value.int .i64)), mapA mb (mkv (Value.int .i64) (Value.int .i64) (numM (exI f L s 0 x.1))), box bx8 43 4 [.int .i64 (L : Int), .int .i64 0, x.2.2.1, x.2.2.2.1], box bx12 43 4 [.int .i64 (L : Int), .int .i64 0, x.2.2.1, x.2.2.2.1], row x.2.2.1 4 1 x.1 ((exG f L s 0 g x.1).map Value.bool), row x.2.2.2.1 26 1 x.1 x.2.2.2.2, bigA (matG (Value.int .i64) 3 x.2.2.2.2 (exN f L s 0 x.1))]) (fun w hw => hw) ?_
   refine AK.retG [.cell 8 43, .tmp 9, .tmp 10] rfl (.cons (.cell ag43 rfl bsp rfl rfl) (.cons (.tmp rfl) (.cons (.tmp rfl) (.nil)))) (fun w hw => ⟨_, _, ?_, rfl, Ret.of (hw.pick [5, 6, 7, 1] (by decide) rfl rfl)⟩)
   refine ⟨x.1, x.2.1, x.2.2.1, x.2.2.2.1, x.2.2.2.2, by omega, hg0.2.1, hg0.2.2.1, hg0.2.2.2.1, hg0.2.2.2.2, rfl, ?_⟩
   unfold dfaO
   rw [exG_len, exN_len]; rfl

end Go.Proofs.YtdnhiinakhmhgaaGreatDoor

namespace Go.Proofs.YtdnhiinakhmhgaaGreatDoor
open Go.Sx Go.RowKit
theorem s_trim1 (w : World) (q : Int) (x : Nat) (b : Nat) (d : Dfa) (vF vN : Value) (hv : VD d) (hb : BxA w b [.int .i64 d.L, .int .i64 d.s, vF, vN]) (hF0 : RdL (fun _ => False) Value.bool w vF d.fin) (hN0 : RdLL (fun _ => False) (Value.int .i64) w vN d.nx) (hq : 0 ≤ q ∧ q < d.fin.length) (hx : x < d.L.toNat) : CallS Tryz.prog 89 [.int .i64 q, .int .i64 (x : Int), .pointer (some ⟨b, 0, none⟩)] w (fun r o => r = .int .i64 (stepQ d q x) ∧ o = []) := by
 have hF := hF0
 unfold RdL at hF
 obtain ⟨rs, hrl, hNr, hNi⟩ := hN0
 have hnx := hv.nx
 have hrw := hv.row q.toNat (by omega)
 refine spec_of Tryz.func89 rfl (leb rfl) ?_
 refine .sr fun _ hK1 => ?_
 refine .as rfl (.nt hK1 ?_)
 refine .sr fun _ hK2 => ?_
 refine .v (.fieldAddr fd43_3 rfl) (.v (.loadBox on22 rfl bsp rfl) (.mv rfl ?_))
 first | refine .v (.iN sl22 rfl rfl (hr := (by first | exact rdp | exact .arg (hNi _ (by omega))))) ?_ | refine .v (.iK sl22 rfl rfl (hr := (by first | exact rdp | exact .arg (hNi _ (by omega))))) ?_
 refine .v (.loadV on26 rfl (by first | exact rdp | exact .arg (hNi _ (by omega))) (by omega)) ?_
 refine .mv rfl ?_
 first | refine .v (.iN sl26 rfl rfl (hr := (by first | exact rdp | exact .arg (hNi _ (by omega))))) ?_ | refine .v (.iK sl26 rfl rfl (hr := (by first | exact rdp | exact .arg (hNi _ (by omega))))) ?_
 refine .v (.loadI on3 rfl (by first | exact rdp | exact .arg (hNi _ (by omega))) (by omega)) ?_
 refine .as rfl (.nt hK2 (.ret ?_))
 refine AK.ret1 rfl rfl (fun w hw => ⟨_, _, ?_, rfl, Ret.of (hw.pick [] (by decide) rfl rfl)⟩)
 exact ⟨rfl, rfl⟩

theorem s_trim2 (w : World) (q : Int) (b : Nat) (d : Dfa) (vF vN : Value) (hv : VD d) (hb : BxA w b [.int .i64 d.L, .int .i64 d.s, vF, vN]) (hF0 : RdL (fun _ => False) Value.bool w vF d.fin) (hN0 : RdLL (fun _ => False) (Value.int .i64) w vN d.nx) (hq : 0 ≤ q ∧ q < d.fin.length) : CallS Tryz.prog 90 [.int .i64 q, .pointer (some ⟨b, 0, none⟩)] w (fun r o => r = .bool (finQ d q) ∧ o = []) := by
 have hF := hF0
 unfold RdL at hF
 obtain ⟨rs, hrl, hNr, hNi⟩ := hN0
 have hnx := hv.nx
 refine spec_of Tryz.func90 rfl (leb rfl) ?_
 refine .sr fun _ hK1 => ?_
 refine .as rfl (.nt hK1 ?_)
 refine .sr fun _ hK2 => ?_
 refine .v (.fieldAddr fd43_2 rfl) (.v (.loadBox on41 rfl bsp rfl) (.mv rfl ?_))
 first | refine .v (.iN sl41 rfl rfl) ?_ | refine .v (.iK sl41 rfl rfl) ?_
 refine .v (.loadB on4 rfl rdp (by omega)) ?_
 refine .as rfl (.nt hK2 (.ret ?_))
 refine AK.ret1 rfl rfl (fun w hw => ⟨_, _, ?_, rfl, Ret.of (hw.pick [] (by decide) rfl rfl)⟩)
 exact ⟨rfl, rfl⟩

set_option maxHeartbeats 600000 in
theorem s_trim (w : World) (v : Value) (d : Dfa) (h : RdD (fun _ => False) w v d) : CallS Tryz.prog 51 [v] w (fun r o => ∃ (vF vN vM : Value) (rs : List Value), r = .tuple #[.agg #[.int .i64 (TrimV d).L, .int .i64 (TrimV d).s, vF, vN], vM] ∧ rs.length = (TrimV d).nx.length ∧ IsSl vF ∧ IsSl vN ∧ IsSl vM ∧ o = dfaO 4 3 26 vF vN rs (TrimV d) ++ [row vM 3 1 (NumV d).length ((NumV d).map (Value.int .i64))]) := by
 have h0 := h
 obtain ⟨vF, vN, rfl, hF, hN⟩ := h
 have hF0 := hF
 have hN0 := hN
 obtain ⟨rs, hrl, hNr, hNi⟩ := hN
 have sF := hF.sl
 have sN := hNr.sl
 have hmf := hF.le
 have hmn := hNr.le
 unfold RdL at hF
 refine spec_of Tryz.func51 rfl (leb rfl) ?_
 refine .sr fun _ hK1 => ?_
 refine AK.box_ (E := 43) (cs := [.int .i64 d.L, .int .i64 d.s, vF, vN]) rfl rfl rfl trivial rfl (fun bx1 => ?_)
 refine AK.alloc el43 rfl rfl trivial rfl (fun bx2 => ?_)
 refine .as rfl (.nt hK1 ?_)
 refine .seq fun _ hK2 => ?_
 refine .sr fun _ hK3 => ?_
 refine .v (.loadBoxG ag43 rfl bsp rfl rfl) ?_
 refine AK.call co22 rfl (fun w hw => s_validate w _ d (h0.at hw)) trivial rfl ?_
 rintro r o ⟨rfl, rfl⟩
 refine .v (.neq rfl rfl) (.nt hK3 ?_)
 refine AK.condNe rfl (fun hc0 => ?_) (fun hc0 => ?_)
 ·have hnv : ¬ VD d := fun h => hc0 ((errV_iff d).2 h)
  refine .sr fun _ hK4 => ?_
  refine .v (.build (parts := []) (cs := #[.int .i64 0, .int .i64 0, .slice none 0 0, .slice none 0 0]) rfl (by kernel_rfl)) ?_
  refine AK.storeBox 1 (us := [.int .i64 0, .int .i64 0, .slice none 0 0, .slice none 0 0]) (cs' := [.int .i64 0, .int .i64 0, .slice none 0 0, .slice none 0 0]) rfl sz43 rfl rfl rfl rfl oneP (leb rfl) rfl trivial ?_
  refine .as rfl (.nt hK4 (.ret (.then_ret ?_)))
  refine AK.own' (dfaO 4 3 26 (.slice none 0 0) (.slice none 0 0) [] nilD ++ [row (.slice none 0 0) 3 1 0 [], box bx2 43 4 [.int .i64 0, .int .i64 0, .slice none 0 0, .slice none 0 0]]) (fun w hw => by have h1 := ((((hw.pick [1] (by decide) rfl rfl).ghost 4 1).ghost 26 1).ghostG (f := Value.int .i64) 3).ghost 3 1; exact h1.pick [1, 2, 3, 4, 0] (by decide) rfl rfl) ?_
  refine AK.retG [.cell 2 43, .tmp 3] rfl (.cons (.cell ag43 rfl bsp rfl rfl) (.cons (.tmp rfl) (.nil))) (fun w hw => ⟨_, _, ?_, rfl, Ret.of (hw.pick [0, 1, 2, 3] (by decide) rfl rfl)⟩)
  have e1 : TrimV d = nilD := if_neg hnv
  have e2 : NumV d = [] := if_neg hnv
  rw [e1, e2]
  exact ⟨_, _, _, [], rfl, rfl, nilSl, nilSl, nilSl, rfl⟩
 ·have hv : VD d := (errV_iff d).1 hc0
  have hvL := hv.L
  have hLL : ((d.L.toNat : Nat) : Int) = d.L := by omega
  obtain ⟨tk1, tk2, tk3, tk4⟩ := TSt_ok hv
  have hn5 := hv.n
  refine .skip ?_
  refine AK.then_ (hK2 _ ?_)
  refine .sr fun _ hK5 => ?_
  refine .v (.fieldAddr fd43_0 rfl) (.v (.loadBox on3 rfl bsp rfl) (.v (.fieldAddr fd43_1 rfl) (.v (.loadBox on3 rfl bsp rfl) (.v (.makeFunc (first := []) (captured := [.tmp 1]) rfl rfl) (.v (.makeFunc (first := []) (captured := [.tmp 1]) rfl rfl) ?_)))))
  refine AK.call co88 rfl (fun w hw => (by have h := s_exploreI w d.L.toNat d.s (stepQ d) (finQ d) (univ d.fin.length) 89 90 [.pointer (some ⟨bx1, 0, none⟩)] [.pointer (some ⟨bx1, 0, none⟩)] (by omega) (start_univ hv) (by rw [univ_len]; exact hv.n) (step_univ hv) co89 co90 (fun w' hfr q hq x hx => s_trim1 w' q x bx1 d vF vN hv ((BxA.own 0 hw rfl).fr hfr) ((hF0.at hw).fr hfr) ((hN0.at hw).fr hfr) (mem_univ.1 hq) hx) (fun w' hfr q hq => s_trim2 w' q bx1 d vF vN hv ((BxA.own 0 hw rfl).fr hfr) ((hF0.at hw).fr hfr) ((hN0.at hw).fr hfr) (mem_univ.1 hq)); rw [hLL] at h; exact h)) trivial rfl ?_
  rintro r o ⟨n, vL, vF2, vN2, rs2, hn, hrs, sL, sF2, sN2, rfl, rfl⟩
  obtain ⟨ht1, ht2⟩ := trim_is hv hn
  rw [ht1, ht2]
  have hTl : n = (TSt d).length := by rw [← ht1]; exact hn
  refine .mv rfl (.v (.extract rfl rfl) (.v (.extract rfl rfl) (.v (.extract rfl rfl) ?_)))
  refine AK.alloc el43 rfl rfl trivial rfl (fun bx4 => ?_)
  refine AK.storeBox 6 (us := [.int .i64 d.L, .int .i64 0, vF2, vN2]) (cs' := [.int .i64 d.L, .int .i64 0, vF2, vN2]) rfl sz43 rfl rfl rfl rfl oneP (leb rfl) rfl trivial ?_
  refine .as rfl (.as rfl (.nt hK5 ?_))
  refine .sr fun _ hK6 => ?_
  refine .v (.fieldAddr fd43_2 rfl) (.v (.loadBox on41 rfl bsp rfl) (.v (.lenR sl41 rfl rdp) ?_))
  refine AK.make1 (n := d.fin.length) sl26 el3 rfl rfl rfl (by omega) (by omega) trivial rfl (fun mv => ?_)
  refine .as rfl (.nt hK6 ?_)
  refine .seq fun _ hK7 => ?_
  refine .sr fun _ hK8 => ?_
  refine .mv rfl (.v (.lenR sl26 rfl rdp) (.mv rfl (.nt hK8 (.block ?_))))
  refine AK.loopK (X := Nat) [(2, _), (4, _), (5, _), (7, _), (31, _)] (fun k => [(32, .int .i64 (k : Int))]) (fun k => [box bx1 43 4 [.int .i64 d.L, .int .i64 d.s, vF, vN], box bx2 43 4 [.int .i64 0, .int .i64 0, .slice none 0 0, .slice none 0 0], row vF2 4 1 (trimD d).fin.length ((trimD d).fin.map Value.bool), row vN2 26 1 (trimD d).nx.length rs2, bigA (matG (Value.int .i64) 3 rs2 (trimD d).nx), row vL 3 1 (TSt d).length ((TSt d).map (Value.int .i64)), box bx4 43 4 [.int .i64 d.L, .int .i64 0, vF2, vN2], row mv 3 1 d.fin.length ((List.replicate k (-1) ++ List.replicate (d.fin.length - k) (0 : Int)).map (Value.int .i64))]) (fun k => k ≤ d.fin.length) (fun k => d.fin.length - k) (0) slr ?_ ?_ ?_ ?_
  ·exact Nat.zero_le _
  ·exact slr
  ·exact fun w hw => by have e : ((List.replicate 0 (-1) ++ List.replicate (d.fin.length - 0) (0 : Int)).map (Value.int .i64)) = List.replicate d.fin.length (Value.int .i64 0) := (by simp); rw [e]; exact hw
  ·intro k hg0 _ hK9
   refine .sr fun _ hK10 => ?_
   refine .v (.lss rfl rfl) (.nt hK10 ?_)
   refine .seq fun _ hK11 => ?_
   refine AK.condD rfl (fun hc1 => ?_) (fun hc1 => ?_)
   ·refine .skip ?_
    refine AK.then_ (hK11 _ ?_)
    refine .seq fun _ hK12 => ?_
    refine .block ?_
    refine .sr fun _ hK13 => ?_
    refine .mv rfl (.as rfl (.nt hK13 ?_))
    refine AK.region ?_
    refine .mv rfl (.mv rfl ?_)
    first | refine .v (.iN sl26 rfl rfl) ?_ | refine .v (.iK sl26 rfl rfl) ?_
    refine AK.store1e 7 rfl sz3 rfl rfl rfl rfl (by omega) (cs' := ((List.replicate (k + 1) (-1) ++ List.replicate (d.fin.length - (k + 1)) (0 : Int)).map (Value.int .i64))) (by rw [List.replicate_succ']; exact fill_set (Value.int .i64) (List.replicate k (-1)) 0 (-1) d.fin.length k (by simp) (by omega)) trivial ?_
    refine .nil (.block_normal ?_)
    refine AK.then_ (hK12 _ ?_)
    refine AK.region ?_
    refine .v (.add rfl rfl (by omega)) ?_
    refine .mv rfl (.nil ?_)
    refine AK.then_ (hK9 _ _ (k + 1) (by omega) (by omega) (slr) (fun w hw => hw))
   ·refine AK.shape 7 rfl (fun smv => ?_)
    refine .exit (.then_exit (.then_exit (.block_exit ?_)))
    refine AK.then_ (hK7 _ ?_)
    refine .seq fun _ hK14 => ?_
    refine .sr fun _ hK15 => ?_
    refine .mv rfl (.v (.lenR sl26 rfl rdp) (.mv rfl (.nt hK15 (.block ?_))))
    refine AK.loopK (X := Nat) [(2, _), (4, _), (7, _), (39, _), (40, _)] (fun k => [(41, .int .i64 (k : Int))]) (fun k => [box bx1 43 4 [.int .i64 d.L, .int .i64 d.s, vF, vN], box bx2 43 4 [.int .i64 0, .int .i64 0, .slice none 0 0, .slice none 0 0], row vF2 4 1 (trimD d).fin.length ((trimD d).fin.map Value.bool), row vN2 26 1 (trimD d).nx.length rs2, bigA (matG (Value.int .i64) 3 rs2 (trimD d).nx), row vL 3 1 (TSt d).length ((TSt d).map (Value.int .i64)), box bx4 43 4 [.int .i64 d.L, .int .i64 0, vF2, vN2], row mv 3 1 d.fin.length ((numK d.fin.length (TSt d) k).map (Value.int .i64))]) (fun k => k ≤ (TSt d).length) (fun k => (TSt d).length - k) (0) slr ?_ ?_ ?_ ?_
    ·exact Nat.zero_le _
    ·exact slr
    ·exact fun w hw => by have e : (List.replicate k (-1) ++ List.replicate (d.fin.length - k) (0 : Int)) = numK d.fin.length (TSt d) 0 := (by rw [show k = d.fin.length by omega, Nat.sub_self]; simp [numK]); rw [e] at hw; exact hw
    ·intro k hg1 _ hK16
     refine .sr fun _ hK17 => ?_
     refine .v (.lss rfl rfl) (.nt hK17 ?_)
     refine .seq fun _ hK18 => ?_
     refine AK.condD rfl (fun hc2 => ?_) (fun hc2 => ?_)
     ·have htk := tk2 _ (getD_mem (d := 0) (xs := TSt d) (k := k) (by omega))
      refine .skip ?_
      refine AK.then_ (hK18 _ ?_)
      refine .seq fun _ hK19 => ?_
      refine .block ?_
      refine .sr fun _ hK20 => ?_
      refine .mv rfl ?_
      first | refine .v (.iN sl26 rfl rfl) ?_ | refine .v (.iK sl26 rfl rfl) ?_
      refine .v (.loadI on3 rfl rdp (by omega)) ?_
      refine .as rfl (.as rfl (.nt hK20 ?_))
      refine AK.region ?_
      refine .mv rfl (.mv rfl (.mv rfl ?_))
      first | refine .v (.iN sl26 rfl rfl) ?_ | refine .v (.iK sl26 rfl rfl) ?_
      refine AK.store1e 7 rfl sz3 rfl rfl rfl rfl (by have := numK_len d.fin.length (TSt d) k; omega) (cs' := ((numK d.fin.length (TSt d) (k + 1)).map (Value.int .i64))) (by rw [numK_succ, List.map_set]) trivial ?_
      refine .nil (.block_normal ?_)
      refine AK.then_ (hK19 _ ?_)
      refine AK.region ?_
      refine .v (.add rfl rfl (by omega)) ?_
      refine .mv rfl (.nil ?_)
      refine AK.then_ (hK16 _ _ (k + 1) (by omega) (by omega) (slr) (fun w hw => hw))
     ·refine .exit (.then_exit (.then_exit (.block_exit ?_)))
      refine AK.then_ (hK14 _ ?_)
      refine .sr fun _ hK21 => ?_
      refine .v (.loadBoxG ag43 rfl bsp rfl rfl) (.mv rfl ?_)
      refine AK.storeBox 1 (us := [.int .i64 d.L, .int .i64 0, vF2, vN2]) (cs' := [.int .i64 d.L, .int .i64 0, vF2, vN2]) rfl sz43 rfl rfl rfl rfl oneP (leb rfl) rfl trivial ?_
      refine .as rfl (.nt hK21 (.ret ?_))
      refine AK.retG [.cell 2 43, .tmp 3] rfl (.cons (.cell ag43 rfl bsp rfl rfl) (.cons (.tmp rfl) (.nil))) (fun w hw => ⟨_, _, ?_, rfl, Ret.of (hw.pick [2, 3, 4, 7] (by decide) rfl rfl)⟩)
      have e1 : TrimV d = trimD d := if_pos hv
      have e2 : NumV d = numT d := if_pos hv
      rw [e1, e2]
      refine ⟨vF2, vN2, mv, rs2, rfl, ?_, sF2, sN2, smv, ?_⟩
      ·rw [hrs, hTl]; simp [trimD]
      ·have e3 : (numT d).length = d.fin.length := numK_len _ _ _
       rw [e3]; unfold numT; rw [show (TSt d).length = k by omega]; rfl

end Go.Proofs.YtdnhiinakhmhgaaGreatDoor

namespace Go.Proofs.YtdnhiinakhmhgaaGreatDoor
open Go.Sx Go.RowKit
theorem numT_all {d : Dfa} (hv : VD d) {q : Int} (hq : InR d q) : (numT d).getD q.toNat 0 = if q ∈ TSt d then ((posN (TSt d) q : Nat) : Int) else -1 := by
  obtain ⟨h1, h2, h3, h4⟩ := TSt_ok hv
  unfold numT
  rw [numK_get h1 h2 _ (Nat.le_refl _) q hq]
  by_cases hm : q ∈ TSt d
  · rw [if_pos hm, if_pos (posN_lt hm)]
  · rw [if_neg hm, if_neg (by rw [posN_not hm]; omega)]
theorem set_mid {α : Type} (f : α → Value) (A B : List α) (z c : α) {n : Nat} (hn : A.length = n) : (((A ++ [z]) ++ B).map f).set n (f c) = ((A ++ [c]) ++ B).map f := by
  subst hn
  rw [← List.map_set, List.set_append_left _ _ (by simp), List.set_append_right _ _ (Nat.le_refl _), Nat.sub_self]; rfl
theorem rowC_len {d : Dfa} (hv : VD d) {q : Nat} (hq : q < d.fin.length) : (rowC d q).length = d.L.toNat := by
  have := hv.row q hq
  unfold rowC; rw [List.length_map]; omega
theorem rowC_fill {d : Dfa} (hv : VD d) {q : Nat} (hq : q < d.fin.length) {x : Nat} (hx : x < d.L.toNat) :
    (((rowC d q).take x ++ List.replicate (d.L.toNat - x) 0).map (Value.int .i64)).set x (.int .i64 ((clsD d).getD ((d.nx.getD q []).getD x 0).toNat 0)) = ((rowC d q).take (x + 1) ++ List.replicate (d.L.toNat - (x + 1)) 0).map (Value.int .i64) := by
  have hl := rowC_len hv hq
  rw [take_snocD 0 (rowC d q) x (by omega), rowC_get hv hq (by omega)]
  exact fill_set (Value.int .i64) _ 0 _ d.L.toNat x (by rw [List.length_take]; omega) hx
set_option maxHeartbeats 4000000 in
theorem s_minimal (w : World) (v : Value) (d : Dfa) (h : RdD (fun _ => False) w v d) (hv : VD d) : CallS Tryz.prog 63 [v] w (fun r o => ∃ (vF vN vS : Value) (rs : List Value), r = .tuple #[.agg #[.int .i64 (minD d).L, .int .i64 (minD d).s, vF, vN], vS] ∧ rs.length = (minD d).nx.length ∧ IsSl vF ∧ IsSl vN ∧ IsSl vS ∧ o = dfaO 4 3 26 vF vN rs (minD d) ++ [row vS 3 1 (mapM d).length ((mapM d).map (Value.int .i64))]) := by
 have h0 := h
 obtain ⟨vF, vN, rfl, hF, hN⟩ := h
 have hF0 := hF
 have hN0 := hN
 obtain ⟨rs, hrl, hNr, hNi⟩ := hN
 have sF := hF.sl
 have sN := hNr.sl
 have hmf := hF.le
 have hmn := hNr.le
 unfold RdL at hF
 have hL := hv.L
 have hn5 := hv.n
 have hTe : TrimV d = trimD d := if_pos hv
 have hNe : NumV d = numT d := if_pos hv
 have hT := trim_vd hv
 have hTnx := hT.nx
 have hTn5 := hT.n
 have hcl := cls_len (trimD d)
 have hcan := cls_can hT
 have hCe : ClsV (trimD d) = (clsD (trimD d)) := if_pos hT
 have hQ := quo_vd hT
 have hqs : (quoD (trimD d)).s = 0 := by
  have h1 := can_at hcan (k := 0) (by have := hT.s; omega)
  exact h1.trans (by simp [ded, posN])
 have hQe : TrimV (quoD (trimD d)) = minD d := (if_pos hQ).trans (min_trim hv)
 have hQn : NumV (quoD (trimD d)) = numT (quoD (trimD d)) := if_pos hQ
 have hnt : (numT d).length = d.fin.length := numK_len _ _ _
 have hTL : (trimD d).L = d.L := rfl
 refine spec_of Tryz.func63 rfl (leb rfl) ?_
 refine .sr fun _ hK1 => ?_
 refine AK.box_ (E := 43) (cs := [.int .i64 d.L, .int .i64 d.s, vF, vN]) rfl rfl rfl trivial rfl (fun bx1 => ?_)
 refine AK.alloc el43 rfl rfl trivial rfl (fun bx2 => ?_)
 refine .as rfl (.nt hK1 ?_)
 refine .sr fun _ hK2 => ?_
 refine .v (.loadBoxG ag43 rfl bsp rfl rfl) ?_
 refine AK.call co51 rfl (fun w hw => s_trim w _ d (h0.at hw)) trivial rfl ?_
 rintro r o ⟨tF, tN, tM, trs, rfl, htrs, stF, stN, stM, rfl⟩
 rw [hTe] at htrs
 rw [hTe, hNe]
 refine .mv rfl (.v (.extract rfl rfl) (.v (.extract rfl rfl) ?_))
 refine AK.alloc el43 rfl rfl trivial rfl (fun bx4 => ?_)
 refine AK.storeBox 6 (us := [.int .i64 (trimD d).L, .int .i64 (trimD d).s, tF, tN]) (cs' := [.int .i64 (trimD d).L, .int .i64 (trimD d).s, tF, tN]) rfl sz43 rfl rfl rfl rfl oneP (leb rfl) rfl trivial ?_
 refine .as rfl (.nt hK2 ?_)
 refine .sr fun _ hK3 => ?_
 refine .v (.loadBoxG ag43 rfl bsp rfl rfl) ?_
 refine AK.call co100 rfl (fun w hw => s_classes w _ (trimD d) (RdD.own 2 hw htrs rfl rfl rfl)) trivial rfl ?_
 rintro cv o ⟨scv, rfl⟩
 rw [hCe]
 refine .as rfl (.nt hK3 ?_)
 refine .sr fun _ hK4 => ?_
 refine .v (.fieldAddr fd43_0 rfl) (.v (.loadBox on3 rfl bsp rfl) ?_)
 refine .v (.build (parts := [(0, .tmp 26)]) (cs := #[.int .i64 d.L, .int .i64 0, .slice none 0 0, .slice none 0 0]) rfl (by kernel_rfl)) ?_
 refine AK.alloc el43 rfl rfl trivial rfl (fun bx7 => ?_)
 refine AK.storeBox 8 (us := [.int .i64 d.L, .int .i64 0, .slice none 0 0, .slice none 0 0]) (cs' := [.int .i64 d.L, .int .i64 0, .slice none 0 0, .slice none 0 0]) rfl sz43 rfl rfl rfl rfl oneP (leb rfl) rfl trivial ?_
 refine .nt hK4 ?_
 refine .seq fun _ hK5 => ?_
 refine .sr fun _ hK6 => ?_
 refine .mv rfl ?_
 refine .v (.lenR sl26 rfl (by first | exact rdp | exact (RdS.big 4 _ rfl (matG_get htrs (by omega))))) ?_
 refine .mv rfl (.nt hK6 (.block ?_))
 refine AK.loopK (X := Nat × Value × Value × List Value) [(1, _), (2, _), (4, _), (5, _), (6, _), (7, _), (28, _), (29, _)] (fun x => [(30, .int .i64 (x.1 : Int))]) (fun x => [box bx1 43 4 [.int .i64 d.L, .int .i64 d.s, vF, vN], box bx2 43 4 [.int .i64 0, .int .i64 0, .slice none 0 0, .slice none 0 0], row tF 4 1 (trimD d).fin.length ((trimD d).fin.map Value.bool), row tN 26 1 (trimD d).nx.length trs, bigA (matG (Value.int .i64) 3 trs (trimD d).nx), row tM 3 1 (numT d).length ((numT d).map (Value.int .i64)), box bx4 43 4 [.int .i64 (trimD d).L, .int .i64 (trimD d).s, tF, tN], row cv 3 1 (clsD (trimD d)).length ((clsD (trimD d)).map (Value.int .i64)), box bx7 43 4 [.int .i64 d.L, .int .i64 0, x.2.1, x.2.2.1], row x.2.1 4 1 ((fstK (clsD (trimD d)) x.1).map fun q => (trimD d).fin.getD q false).length (((fstK (clsD (trimD d)) x.1).map fun q => (trimD d).fin.getD q false).map Value.bool), row x.2.2.1 26 1 ((fstK (clsD (trimD d)) x.1).map (rowC (trimD d))).length x.2.2.2, bigA (matG (Value.int .i64) 3 x.2.2.2 ((fstK (clsD (trimD d)) x.1).map (rowC (trimD d))))]) (fun x => x.1 ≤ (clsD (trimD d)).length ∧ x.2.2.2.length = ((fstK (clsD (trimD d)) x.1).map (rowC (trimD d))).length ∧ IsSl x.2.1 ∧ IsSl x.2.2.1) (fun x => (clsD (trimD d)).length - x.1) ((0, .slice none 0 0, .slice none 0 0, [])) slr ?_ ?_ ?_ ?_
 ·exact ⟨Nat.zero_le _, rfl, nilSl, nilSl⟩
 ·exact slr
 ·exact fun w hw => by have h1 := ((hw.ghostG (f := Value.int .i64) 3).ghost 4 1).ghost 26 1; exact h1.pick [0, 1, 2, 3, 4, 5, 6, 7, 8, 10, 11, 9] (by decide) rfl rfl
 ·intro x hg0 _ hK7
  have hsF := hg0.2.2.1
  have hsN := hg0.2.2.2
  refine .sr fun _ hK8 => ?_
  refine .v (.lss rfl rfl) (.nt hK8 ?_)
  refine .seq fun _ hK9 => ?_
  refine AK.condD rfl (fun hc0 => ?_) (fun hc0 => ?_)
  ·have hqT : x.1 < (trimD d).fin.length := by omega
   have hgl : ((fstK (clsD (trimD d)) x.1).map fun q => (trimD d).fin.getD q false).length = (fstK (clsD (trimD d)) x.1).length := List.length_map ..
   have hnl : ((fstK (clsD (trimD d)) x.1).map (rowC (trimD d))).length = (fstK (clsD (trimD d)) x.1).length := List.length_map ..
   have hfl := fstK_le hcan (k := x.1) (by omega)
   have hrw := hT.row x.1 hqT
   have hfb := fstK_bd (clsD (trimD d)) x.1
   refine .skip ?_
   refine AK.then_ (hK9 _ ?_)
   refine .seq fun _ hK10 => ?_
   refine .block ?_
   refine .sr fun _ hK11 => ?_
   refine .mv rfl ?_
   first | refine .v (.iN sl26 rfl rfl (hr := (by first | exact rdp | exact (RdS.big 4 _ rfl (matG_get htrs (by omega)))))) ?_ | refine .v (.iK sl26 rfl rfl (hr := (by first | exact rdp | exact (RdS.big 4 _ rfl (matG_get htrs (by omega)))))) ?_
   refine .v (.loadI on3 rfl (by first | exact rdp | exact (RdS.big 4 _ rfl (matG_get htrs (by omega)))) (by omega)) ?_
   refine .as rfl (.as rfl (.nt hK11 ?_))
   refine .seq fun _ hK12 => ?_
   refine .sr fun _ hK13 => ?_
   refine .mv rfl (.v (.fieldAddr fd43_2 rfl) (.v (.loadBox on41 rfl bsp rfl) ?_))
   refine .v (.lenR sl41 rfl (by first | exact rdp | exact (RdS.big 4 _ rfl (matG_get htrs (by omega))))) ?_
   refine .v (.lss rfl rfl) (.nt hK13 ?_)
   refine AK.condD rfl (fun hc1 => ?_) (fun hc1 => ?_)
   ·refine .exit (.then_exit (.block_exit ?_))
    refine AK.then_ (hK10 _ ?_)
    refine AK.region ?_
    refine .v (.add rfl rfl (by omega)) ?_
    refine .mv rfl (.nil ?_)
    first | refine AK.then_ (hK7 _ _ ((x.1 + 1, z, vn2, x.2.2.2 ++ [mv1])) ⟨by dsimp only; omega, by dsimp only; rw [fstK_new hc1']; simp [hg0.2.1], hg, hn2⟩ (by dsimp only; omega) (slr) (fun w hw => by
  dsimp only
  have e0 : y = (trimD d).L.toNat := (by omega)
  have e5 := rowC_len hT hqT
  rw [e0, Nat.sub_self, List.replicate_zero, List.append_nil, ← e5, List.take_length, e5, smv1.cells] at hw
  have e1 : ((fstK (clsD (trimD d)) (x.1 + 1)).map fun q => (trimD d).fin.getD q false).map Value.bool = ((fstK (clsD (trimD d)) x.1).map fun q => (trimD d).fin.getD q false).map Value.bool ++ [Value.bool ((trimD d).fin.getD x.1 false)].flatMap (·.cells.toList) := (by rw [fstK_new hc1']; simp [Value.cells])
  have e2 : ((fstK (clsD (trimD d)) (x.1 + 1)).map (rowC (trimD d))) = ((fstK (clsD (trimD d)) x.1).map (rowC (trimD d))) ++ [rowC (trimD d) x.1] := (by rw [fstK_new hc1', List.map_append]; rfl)
  have e3 : ((fstK (clsD (trimD d)) (x.1 + 1)).map fun q => (trimD d).fin.getD q false).length = ((fstK (clsD (trimD d)) x.1).map fun q => (trimD d).fin.getD q false).length + 1 := (by rw [fstK_new hc1']; simp)
  rw [e1, e3, e2, matG_snoc hg0.2.1, List.length_append]
  rw [← e5] at hw
  exact HW.absorb (own := [_, _, _, _, _, _, _, _, _, _, _, _]) 11 rfl hw)) | refine AK.then_ (hK7 _ _ ((x.1 + 1, x.2)) ⟨by dsimp only; omega, by dsimp only; rw [fstK_skip (by omega)]; exact hg0.2.1, hsF, hsN⟩ (by dsimp only; omega) (slr) (fun w hw => by dsimp only; rw [fstK_skip (by omega)]; exact hw))
   ·have hc1' : ¬ (clsD (trimD d)).getD x.1 0 < ((fstK (clsD (trimD d)) x.1).length : Int) := by omega
    refine .skip ?_
    refine AK.then_ (hK12 _ ?_)
    refine .sr fun _ hK14 => ?_
    refine .v (.fieldAddr fd43_0 rfl) (.v (.loadBox on3 rfl bsp rfl) ?_)
    refine AK.make1Z sl26 el3 rfl rfl rfl (by omega) (by omega) (by omega) trivial rfl (fun mv1 => ?_)
    refine AK.shape 12 rfl (fun smv1 => ?_)
    refine .as rfl (.nt hK14 ?_)
    refine .seq fun _ hK15 => ?_
    refine .sr fun _ hK16 => ?_
    refine .v (.fieldAddr fd43_3 rfl) (.v (.loadBox on22 rfl bsp rfl) (.mv rfl ?_))
    first | refine .v (.iN sl22 rfl rfl (hr := (by first | exact rdp | exact (RdS.big 4 _ rfl (matG_get htrs (by omega)))))) ?_ | refine .v (.iK sl22 rfl rfl (hr := (by first | exact rdp | exact (RdS.big 4 _ rfl (matG_get htrs (by omega)))))) ?_
    refine .v (.loadV on26 rfl (by first | exact rdp | exact (RdS.big 4 _ rfl (matG_get htrs (by omega)))) (by omega)) ?_
    refine .v (.lenR sl26 rfl (by first | exact rdp | exact (RdS.big 4 _ rfl (matG_get htrs (by omega))))) ?_
    refine .mv rfl (.nt hK16 (.block ?_))
    refine AK.loopK (X := Nat) [(1, _), (2, _), (4, _), (5, _), (6, _), (7, _), (8, _), (10, _), (28, _), (29, _), (30, _), (47, _), (48, _)] (fun y => [(49, .int .i64 (y : Int))]) (fun y => [box bx1 43 4 [.int .i64 d.L, .int .i64 d.s, vF, vN], box bx2 43 4 [.int .i64 0, .int .i64 0, .slice none 0 0, .slice none 0 0], row tF 4 1 (trimD d).fin.length ((trimD d).fin.map Value.bool), row tN 26 1 (trimD d).nx.length trs, bigA (matG (Value.int .i64) 3 trs (trimD d).nx), row tM 3 1 (numT d).length ((numT d).map (Value.int .i64)), box bx4 43 4 [.int .i64 (trimD d).L, .int .i64 (trimD d).s, tF, tN], row cv 3 1 (clsD (trimD d)).length ((clsD (trimD d)).map (Value.int .i64)), box bx7 43 4 [.int .i64 d.L, .int .i64 0, x.2.1, x.2.2.1], row x.2.1 4 1 ((fstK (clsD (trimD d)) x.1).map fun q => (trimD d).fin.getD q false).length (((fstK (clsD (trimD d)) x.1).map fun q => (trimD d).fin.getD q false).map Value.bool), row x.2.2.1 26 1 ((fstK (clsD (trimD d)) x.1).map (rowC (trimD d))).length x.2.2.2, bigA (matG (Value.int .i64) 3 x.2.2.2 ((fstK (clsD (trimD d)) x.1).map (rowC (trimD d)))), row mv1 3 1 (trimD d).L.toNat (((rowC (trimD d) x.1).take y ++ List.replicate ((trimD d).L.toNat - y) 0).map (Value.int .i64))]) (fun y => y ≤ (trimD d).L.toNat) (fun y => (trimD d).L.toNat - y) (0) slr ?_ ?_ ?_ ?_
    ·exact Nat.zero_le _
    ·exact slr
    ·exact fun w hw => by have e : (((rowC (trimD d) x.1).take 0 ++ List.replicate ((trimD d).L.toNat - 0) 0).map (Value.int .i64)) = List.replicate d.L.toNat (Value.int .i64 0) := (by simp [hTL]); rw [e]; exact hw
    ·intro y hg1 _ hK17
     refine .sr fun _ hK18 => ?_
     refine .v (.lss rfl rfl) (.nt hK18 ?_)
     refine .seq fun _ hK19 => ?_
     refine AK.condD rfl (fun hc2 => ?_) (fun hc2 => ?_)
     ·have hto := hT.to x.1 y hqT (by omega)
      refine .skip ?_
      refine AK.then_ (hK19 _ ?_)
      refine .seq fun _ hK20 => ?_
      refine .block ?_
      refine .sr fun _ hK21 => ?_
      refine .mv rfl ?_
      first | refine .v (.iN sl26 rfl rfl (hr := (by first | exact rdp | exact (RdS.big 4 _ rfl (matG_get htrs (by omega)))))) ?_ | refine .v (.iK sl26 rfl rfl (hr := (by first | exact rdp | exact (RdS.big 4 _ rfl (matG_get htrs (by omega)))))) ?_
      refine .v (.loadI on3 rfl (by first | exact rdp | exact (RdS.big 4 _ rfl (matG_get htrs (by omega)))) (by omega)) ?_
      refine .as rfl (.as rfl (.nt hK21 ?_))
      refine AK.region ?_
      refine .mv rfl (.mv rfl (.mv rfl (.mv rfl ?_)))
      first | refine .v (.iN sl26 rfl rfl (hr := (by first | exact rdp | exact (RdS.big 4 _ rfl (matG_get htrs (by omega)))))) ?_ | refine .v (.iK sl26 rfl rfl (hr := (by first | exact rdp | exact (RdS.big 4 _ rfl (matG_get htrs (by omega)))))) ?_
      refine .v (.loadI on3 rfl (by first | exact rdp | exact (RdS.big 4 _ rfl (matG_get htrs (by omega)))) (by omega)) ?_
      first | refine .v (.iN sl26 rfl rfl (hr := (by first | exact rdp | exact (RdS.big 4 _ rfl (matG_get htrs (by omega)))))) ?_ | refine .v (.iK sl26 rfl rfl (hr := (by first | exact rdp | exact (RdS.big 4 _ rfl (matG_get htrs (by omega)))))) ?_
      refine AK.store1e 12 rfl sz3 rfl rfl rfl rfl (by omega) (cs' := (((rowC (trimD d) x.1).take (y + 1) ++ List.replicate ((trimD d).L.toNat - (y + 1)) 0).map (Value.int .i64))) (by exact rowC_fill hT hqT (by omega)) trivial ?_
      refine .nil (.block_normal ?_)
      refine AK.then_ (hK20 _ ?_)
      refine AK.region ?_
      refine .v (.add rfl rfl (by omega)) ?_
      refine .mv rfl (.nil ?_)
      refine AK.then_ (hK17 _ _ (y + 1) (by omega) (by omega) (slr) (fun w hw => hw))
     ·refine .exit (.then_exit (.then_exit (.block_exit ?_)))
      refine AK.then_ (hK15 _ ?_)
      refine .seq fun _ hK22 => ?_
      refine AK.joinK (X := Value) [(1, _), (2, _), (4, _), (5, _), (6, _), (7, _), (10, _), (28, _), (29, _), (30, _)] (fun z => []) (fun z => [box bx1 43 4 [.int .i64 d.L, .int .i64 d.s, vF, vN], box bx2 43 4 [.int .i64 0, .int .i64 0, .slice none 0 0, .slice none 0 0], row tF 4 1 (trimD d).fin.length ((trimD d).fin.map Value.bool), row tN 26 1 (trimD d).nx.length trs, bigA (matG (Value.int .i64) 3 trs (trimD d).nx), row tM 3 1 (numT d).length ((numT d).map (Value.int .i64)), box bx4 43 4 [.int .i64 (trimD d).L, .int .i64 (trimD d).s, tF, tN], row cv 3 1 (clsD (trimD d)).length ((clsD (trimD d)).map (Value.int .i64)), box bx7 43 4 [.int .i64 d.L, .int .i64 0, z, x.2.2.1], row z 4 1 (((fstK (clsD (trimD d)) x.1).map fun q => (trimD d).fin.getD q false).length + 1) (((fstK (clsD (trimD d)) x.1).map fun q => (trimD d).fin.getD q false).map Value.bool ++ [Value.bool ((trimD d).fin.getD x.1 false)].flatMap (·.cells.toList)), row x.2.2.1 26 1 ((fstK (clsD (trimD d)) x.1).map (rowC (trimD d))).length x.2.2.2, bigA (matG (Value.int .i64) 3 x.2.2.2 ((fstK (clsD (trimD d)) x.1).map (rowC (trimD d)))), row mv1 3 1 (trimD d).L.toNat (((rowC (trimD d) x.1).take y ++ List.replicate ((trimD d).L.toNat - y) 0).map (Value.int .i64))]) (fun z => IsSl z) slr (fun _ hJ => ?_) (fun z hg => ?_)
      ·try (conv => enter [2, 2]; simp only [nrm])
       refine AK.held 10 mixed ?_
       refine HeldK.first 0 (fuel := 10) (listed' := (lb 11 1)) _ rfl krf krf rfl (Yl.fieldAddr fd43_2 rfl) trivial rfl ?_
       refine HeldK.first 1 (fuel := 9) (listed' := (lb 11 3)) _ rfl krf krf rfl (Yl.loadBox on41 rfl bsp rfl) trivial rfl ?_
       refine HeldK.first 2 (fuel := 8) (listed' := (lb 11 7)) _ rfl krf krf rfl (Yl.fieldAddr fd43_2 rfl) trivial rfl ?_
       refine HeldK.first 3 (fuel := 7) (listed' := (lb 11 15)) _ rfl krf krf rfl (Yl.loadBox on41 rfl bsp rfl) trivial rfl ?_
       refine HeldK.first 4 (fuel := 6) (listed' := (lb 11 31)) _ rfl krf krf rfl (Yl.move rfl) trivial rfl ?_
       first | refine HeldK.first 5 (fuel := 5) (listed' := (lb 11 63)) _ rfl krf krf rfl (.iN sl41 rfl rfl (hr := (by first | exact rdp | exact (RdS.big 4 _ rfl (matG_get htrs (by omega)))))) trivial rfl ?_ | refine HeldK.first 5 (fuel := 5) (listed' := (lb 11 63)) _ rfl krf krf rfl (.iK sl41 rfl rfl (hr := (by first | exact rdp | exact (RdS.big 4 _ rfl (matG_get htrs (by omega)))))) trivial rfl ?_
       refine HeldK.first 6 (fuel := 4) (listed' := (lb 11 127)) _ rfl krf krf rfl (Yl.loadB on4 rfl (by first | exact rdp | exact (RdS.big 4 _ rfl (matG_get htrs (by omega)))) (by omega)) trivial rfl ?_
       refine HeldK.one 7 (fuel := 3) (listed' := (lb 11 255)) krf rfl krf ?_
       refine AK.lit (xs := [.tmp 68]) sl41 el4 rfl rfl rfl (by intro a ha; simp at ha; subst ha; rfl) (by decide) (by decide) trivial rfl (fun t2 => ?_)
       refine .nil ?_
       try (conv => enter [2, 2]; simp only [nrm])
       refine HeldK.back Go.Sx.hle ?_
       refine HeldK.one 8 (fuel := 2) (listed' := (lb 11 511)) krf rfl krf ?_
       refine AK.appendH 9 rfl sl41 el4 rfl (by decide) rfl rfl rfl (by first | exact rdp | exact (RdS.big 4 _ rfl (matG_get htrs (by omega)))) oneP (by omega) (by omega) trivial rfl (fun vf2 hf2 => ?_)
       refine .nil ?_
       try (conv => enter [2, 2]; simp only [nrm])
       refine HeldK.back Go.Sx.hle ?_
       refine HeldK.first 9 (fuel := 1) (listed' := (lb 11 1023)) _ rfl krf krf rfl (Yl.fieldAddr fd43_2 rfl) trivial rfl ?_
       refine HeldK.one 10 (fuel := 0) (listed' := (lb 11 2047)) krf rfl krf ?_
       refine AK.storeBox 8 (us := [vf2]) (cs' := [.int .i64 d.L, .int .i64 0, vf2, x.2.2.1]) rfl sz41 rfl rfl (by rw [IsSl.cells (by assumption)]) rfl oneP (leb rfl) rfl trivial ?_
       refine .nil ?_
       try (conv => enter [2, 2]; simp only [nrm])
       refine HeldK.backN 11 krf rfl krf ?_
       refine .nil ?_
       refine AK.fromQn ?_
       exact hJ _ _ (vf2) hf2 (slr) (fun w hw => by first | exact hw.pickLe [0, 1, 2, 3, 4, 5, 6, 7, 8, 9, 10, 11, 12] (by decide) pkl)
      ·skip
       refine AK.then_ (hK22 _ ?_)
       refine AK.region ?_
       refine .v (.fieldAddr fd43_3 rfl) (.v (.loadBox on22 rfl bsp rfl) (.mv rfl ?_))
       refine AK.append1 10 rfl sl22 el26 rfl (by decide) rfl (by intro k hk; cases hk; rfl) (by rw [smv1.cells]; rfl) (by rw [smv1.cells]; exact one'_cons smv1.one one'_nil) (by omega) (by omega) (by decide) rfl rfl (fun vn2 _ hn2 => ?_)
       refine .v (.fieldAddr fd43_3 rfl) ?_
       refine AK.storeBox 8 (us := [vn2]) (cs' := [.int .i64 d.L, .int .i64 0, z, vn2]) rfl sz22 rfl rfl (by rw [IsSl.cells (by assumption)]) rfl oneP (leb rfl) rfl trivial ?_
       refine .nil (.block_normal ?_)
       refine AK.then_ (hK10 _ ?_)
       refine AK.region ?_
       refine .v (.add rfl rfl (by omega)) ?_
       refine .mv rfl (.nil ?_)
       first | refine AK.then_ (hK7 _ _ ((x.1 + 1, z, vn2, x.2.2.2 ++ [mv1])) ⟨by dsimp only; omega, by dsimp only; rw [fstK_new hc1']; simp [hg0.2.1], hg, hn2⟩ (by dsimp only; omega) (slr) (fun w hw => by
  dsimp only
  have e0 : y = (trimD d).L.toNat := (by omega)
  have e5 := rowC_len hT hqT
  rw [e0, Nat.sub_self, List.replicate_zero, List.append_nil, ← e5, List.take_length, e5, smv1.cells] at hw
  have e1 : ((fstK (clsD (trimD d)) (x.1 + 1)).map fun q => (trimD d).fin.getD q false).map Value.bool = ((fstK (clsD (trimD d)) x.1).map fun q => (trimD d).fin.getD q false).map Value.bool ++ [Value.bool ((trimD d).fin.getD x.1 false)].flatMap (·.cells.toList) := (by rw [fstK_new hc1']; simp [Value.cells])
  have e2 : ((fstK (clsD (trimD d)) (x.1 + 1)).map (rowC (trimD d))) = ((fstK (clsD (trimD d)) x.1).map (rowC (trimD d))) ++ [rowC (trimD d) x.1] := (by rw [fstK_new hc1', List.map_append]; rfl)
  have e3 : ((fstK (clsD (trimD d)) (x.1 + 1)).map fun q => (trimD d).fin.getD q false).length = ((fstK (clsD (trimD d)) x.1).map fun q => (trimD d).fin.getD q false).length + 1 := (by rw [fstK_new hc1']; simp)
  rw [e1, e3, e2, matG_snoc hg0.2.1, List.length_append]
  rw [← e5] at hw
  exact HW.absorb (own := [_, _, _, _, _, _, _, _, _, _, _, _]) 11 rfl hw)) | refine AK.then_ (hK7 _ _ ((x.1 + 1, x.2)) ⟨by dsimp only; omega, by dsimp only; rw [fstK_skip (by omega)]; exact hg0.2.1, hsF, hsN⟩ (by dsimp only; omega) (slr) (fun w hw => by dsimp only; rw [fstK_skip (by omega)]; exact hw))
  ·have hqe : fstK (clsD (trimD d)) x.1 = firsts (trimD d) := by rw [show x.1 = (trimD d).fin.length by omega]; rfl
   have hrsl := hg0.2.1
   rw [hqe] at hrsl
   rw [hqe]
   refine AK.own' [box bx1 43 4 [.int .i64 d.L, .int .i64 d.s, vF, vN], box bx2 43 4 [.int .i64 0, .int .i64 0, .slice none 0 0, .slice none 0 0], row tF 4 1 (trimD d).fin.length ((trimD d).fin.map Value.bool), row tN 26 1 (trimD d).nx.length trs, bigA (matG (Value.int .i64) 3 trs (trimD d).nx), row tM 3 1 (numT d).length ((numT d).map (Value.int .i64)), box bx4 43 4 [.int .i64 (trimD d).L, .int .i64 (trimD d).s, tF, tN], row cv 3 1 (clsD (trimD d)).length ((clsD (trimD d)).map (Value.int .i64)), box bx7 43 4 [.int .i64 d.L, .int .i64 0, x.2.1, x.2.2.1], row x.2.1 4 1 (quoD (trimD d)).fin.length ((quoD (trimD d)).fin.map Value.bool), row x.2.2.1 26 1 (quoD (trimD d)).nx.length x.2.2.2, bigA (matG (Value.int .i64) 3 x.2.2.2 (quoD (trimD d)).nx)] (fun w hw => hw) ?_
   refine .exit (.then_exit (.then_exit (.block_exit ?_)))
   refine AK.then_ (hK5 _ ?_)
   refine .sr fun _ hK23 => ?_
   refine .v (.loadBoxG ag43 rfl bsp rfl rfl) ?_
   refine AK.call co51 rfl (fun w hw => (by have h := s_trim w _ (quoD (trimD d)) (RdD.own 9 hw hrsl rfl rfl rfl); rw [hqs] at h; exact h)) trivial rfl ?_
   rintro r o ⟨mF, mN, mM, mrs, rfl, hmrs, smF, smN, smM, rfl⟩
   rw [hQe] at hmrs
   rw [hQe, hQn]
   refine .mv rfl (.v (.extract rfl rfl) (.v (.extract rfl rfl) ?_))
   refine AK.alloc el43 rfl rfl trivial rfl (fun bx13 => ?_)
   refine AK.storeBox 16 (us := [.int .i64 (minD d).L, .int .i64 (minD d).s, mF, mN]) (cs' := [.int .i64 (minD d).L, .int .i64 (minD d).s, mF, mN]) rfl sz43 rfl rfl rfl rfl oneP (leb rfl) rfl trivial ?_
   refine .as rfl (.nt hK23 ?_)
   refine .sr fun _ hK24 => ?_
   refine .mv rfl ?_
   refine .v (.lenR sl26 rfl (by first | exact rdp | exact (RdS.big 4 _ rfl (matG_get htrs (by omega))))) ?_
   refine AK.make1 (n := (numT d).length) sl26 el3 rfl rfl rfl (by omega) (by omega) trivial rfl (fun mv2 => ?_)
   refine AK.shape 17 rfl (fun smv2 => ?_)
   refine .as rfl (.nt hK24 ?_)
   refine .seq fun _ hK25 => ?_
   refine .sr fun _ hK26 => ?_
   refine .mv rfl ?_
   refine .v (.lenR sl26 rfl (by first | exact rdp | exact (RdS.big 4 _ rfl (matG_get htrs (by omega))))) ?_
   refine .mv rfl (.nt hK26 (.block ?_))
   refine AK.loopK (X := Nat) [(2, _), (6, _), (13, _), (14, _), (15, _), (87, _), (88, _)] (fun q => [(89, .int .i64 (q : Int))]) (fun q => [box bx1 43 4 [.int .i64 d.L, .int .i64 d.s, vF, vN], box bx2 43 4 [.int .i64 0, .int .i64 0, .slice none 0 0, .slice none 0 0], row tF 4 1 (trimD d).fin.length ((trimD d).fin.map Value.bool), row tN 26 1 (trimD d).nx.length trs, bigA (matG (Value.int .i64) 3 trs (trimD d).nx), row tM 3 1 (numT d).length ((numT d).map (Value.int .i64)), box bx4 43 4 [.int .i64 (trimD d).L, .int .i64 (trimD d).s, tF, tN], row cv 3 1 (clsD (trimD d)).length ((clsD (trimD d)).map (Value.int .i64)), box bx7 43 4 [.int .i64 d.L, .int .i64 0, x.2.1, x.2.2.1], row x.2.1 4 1 (quoD (trimD d)).fin.length ((quoD (trimD d)).fin.map Value.bool), row x.2.2.1 26 1 (quoD (trimD d)).nx.length x.2.2.2, bigA (matG (Value.int .i64) 3 x.2.2.2 (quoD (trimD d)).nx), row mF 4 1 (minD d).fin.length ((minD d).fin.map Value.bool), row mN 26 1 (minD d).nx.length mrs, bigA (matG (Value.int .i64) 3 mrs (minD d).nx), row mM 3 1 (numT (quoD (trimD d))).length ((numT (quoD (trimD d))).map (Value.int .i64)), box bx13 43 4 [.int .i64 (minD d).L, .int .i64 (minD d).s, mF, mN], row mv2 3 1 (numT d).length (((mapM d).take q ++ List.replicate (d.fin.length - q) 0).map (Value.int .i64))]) (fun q => q ≤ d.fin.length) (fun q => d.fin.length - q) (0) slr ?_ ?_ ?_ ?_
   ·exact Nat.zero_le _
   ·exact slr
   ·exact fun w hw => by have e : (((mapM d).take 0 ++ List.replicate (d.fin.length - 0) 0).map (Value.int .i64)) = List.replicate (numT d).length (Value.int .i64 0) := (by simp [hnt]); rw [e]; exact hw
   ·intro q hg2 _ hK27
    refine .sr fun _ hK28 => ?_
    refine .v (.lss rfl rfl) (.nt hK28 ?_)
    refine .seq fun _ hK29 => ?_
    refine AK.condD rfl (fun hc3 => ?_) (fun hc3 => ?_)
    ·have hqn : q < d.fin.length := by omega
     have hml : (mapM d).length = d.fin.length := by simp [mapM]
     have hin : InR d (q : Int) := ⟨by omega, by omega⟩
     have hna := numT_all hv hin
     have hmg := mapM_get hin
     rw [Int.toNat_natCast] at hna hmg
     refine .skip ?_
     refine AK.then_ (hK29 _ ?_)
     refine .seq fun _ hK30 => ?_
     refine .block ?_
     refine .sr fun _ hK31 => ?_
     refine .mv rfl ?_
     first | refine .v (.iN sl26 rfl rfl (hr := (by first | exact rdp | exact (RdS.big 4 _ rfl (matG_get htrs (by omega)))))) ?_ | refine .v (.iK sl26 rfl rfl (hr := (by first | exact rdp | exact (RdS.big 4 _ rfl (matG_get htrs (by omega)))))) ?_
     refine .v (.loadI on3 rfl (by first | exact rdp | exact (RdS.big 4 _ rfl (matG_get htrs (by omega)))) (by omega)) ?_
     refine .as rfl (.as rfl (.nt hK31 ?_))
     refine .sr fun _ hK32 => ?_
     refine .mv rfl (.mv rfl ?_)
     first | refine .v (.iN sl26 rfl rfl (hr := (by first | exact rdp | exact (RdS.big 4 _ rfl (matG_get htrs (by omega)))))) ?_ | refine .v (.iK sl26 rfl rfl (hr := (by first | exact rdp | exact (RdS.big 4 _ rfl (matG_get htrs (by omega)))))) ?_
     refine AK.store1e 17 rfl sz3 rfl rfl rfl rfl (by omega) (cs' := ((((mapM d).take q ++ [-1]) ++ List.replicate (d.fin.length - (q + 1)) 0).map (Value.int .i64))) (by exact fill_set (Value.int .i64) _ 0 (-1) d.fin.length q (by rw [List.length_take]; omega) (by omega)) trivial ?_
     refine .nt hK32 ?_
     refine .sr fun _ hK33 => ?_
     refine .mv rfl (.v (.geq rfl rfl) (.nt hK33 ?_))
     refine AK.condD rfl (fun hc4 => ?_) (fun hc4 => ?_)
     ·have hm : (q : Int) ∈ TSt d := by
       by_cases hm : (q : Int) ∈ TSt d
       ·exact hm
       ·rw [if_neg hm] at hna; omega
      rw [if_pos hm] at hna hmg
      have hpi := pos_inr hm
      have hpb := hpi.2
      have hqr := quo_reach hv hpi
      have hqb := tst_in hQ hqr
      have hqb1 := hqb.1
      have hqb2 := hqb.2
      have hqnl : (numT (quoD (trimD d))).length = (quoD (trimD d)).fin.length := numK_len _ _ _
      have hst : (mapM d).getD q 0 = (numT (quoD (trimD d))).getD ((clsD (trimD d)).getD ((numT d).getD q 0).toNat 0).toNat 0 := by
       rw [hmg, hna]; exact (numT_mem hQ hqr).symm
      have hcle : clsA (trimD d) ((posN (TSt d) (q : Int) : Nat) : Int) = (clsD (trimD d)).getD ((numT d).getD q 0).toNat 0 := by rw [hna]; rfl
      rw [hcle] at hqb1 hqb2
      refine AK.region ?_
      refine .mv rfl (.mv rfl (.mv rfl (.mv rfl (.mv rfl ?_))))
      first | refine .v (.iN sl26 rfl rfl (hr := (by first | exact rdp | exact (RdS.big 4 _ rfl (matG_get htrs (by omega)))))) ?_ | refine .v (.iK sl26 rfl rfl (hr := (by first | exact rdp | exact (RdS.big 4 _ rfl (matG_get htrs (by omega)))))) ?_
      refine .v (.loadI on3 rfl (by first | exact rdp | exact (RdS.big 4 _ rfl (matG_get htrs (by omega)))) (by omega)) ?_
      first | refine .v (.iN sl26 rfl rfl (hr := (by first | exact rdp | exact (RdS.big 4 _ rfl (matG_get htrs (by omega)))))) ?_ | refine .v (.iK sl26 rfl rfl (hr := (by first | exact rdp | exact (RdS.big 4 _ rfl (matG_get htrs (by omega)))))) ?_
      refine .v (.loadI on3 rfl (by first | exact rdp | exact (RdS.big 4 _ rfl (matG_get htrs (by omega)))) (by omega)) ?_
      first | refine .v (.iN sl26 rfl rfl (hr := (by first | exact rdp | exact (RdS.big 4 _ rfl (matG_get htrs (by omega)))))) ?_ | refine .v (.iK sl26 rfl rfl (hr := (by first | exact rdp | exact (RdS.big 4 _ rfl (matG_get htrs (by omega)))))) ?_
      refine AK.store1e 17 rfl sz3 rfl rfl rfl rfl (by omega) (cs' := ((((mapM d).take q ++ [(mapM d).getD q 0]) ++ List.replicate (d.fin.length - (q + 1)) 0).map (Value.int .i64))) (by rw [hst]; exact set_mid (Value.int .i64) _ _ (-1) _ (by rw [List.length_take]; omega)) trivial ?_
      refine .nil (.block_normal ?_)
      refine AK.then_ (hK30 _ ?_)
      refine AK.region ?_
      refine .v (.add rfl rfl (by omega)) ?_
      refine .mv rfl (.nil ?_)
      first | refine AK.then_ (hK27 _ _ (q + 1) (by omega) (by omega) (slr) (fun w hw => by rw [take_snocD 0 (mapM d) q (by omega)]; exact hw)) | refine AK.then_ (hK27 _ _ (q + 1) (by omega) (by omega) (slr) (fun w hw => by rw [take_snocD 0 (mapM d) q (by omega), hmg]; exact hw))
     ·have hm : (q : Int) ∉ TSt d := by
       intro hm
       rw [if_pos hm] at hna; omega
      rw [if_neg hm] at hmg
      refine .skip (.block_normal ?_)
      refine AK.then_ (hK30 _ ?_)
      refine AK.region ?_
      refine .v (.add rfl rfl (by omega)) ?_
      refine .mv rfl (.nil ?_)
      first | refine AK.then_ (hK27 _ _ (q + 1) (by omega) (by omega) (slr) (fun w hw => by rw [take_snocD 0 (mapM d) q (by omega)]; exact hw)) | refine AK.then_ (hK27 _ _ (q + 1) (by omega) (by omega) (slr) (fun w hw => by rw [take_snocD 0 (mapM d) q (by omega), hmg]; exact hw))
    ·refine .exit (.then_exit (.then_exit (.block_exit ?_)))
     refine AK.then_ (hK25 _ ?_)
     refine .sr fun _ hK34 => ?_
     refine .v (.loadBoxG ag43 rfl bsp rfl rfl) (.mv rfl ?_)
     refine AK.storeBox 1 (us := [.int .i64 (minD d).L, .int .i64 (minD d).s, mF, mN]) (cs' := [.int .i64 (minD d).L, .int .i64 (minD d).s, mF, mN]) rfl sz43 rfl rfl rfl rfl oneP (leb rfl) rfl trivial ?_
     refine .as rfl (.nt hK34 (.ret ?_))
     refine AK.retG [.cell 2 43, .tmp 3] rfl (.cons (.cell ag43 rfl bsp rfl rfl) (.cons (.tmp rfl) (.nil))) (fun w hw => ⟨_, _, ?_, rfl, Ret.of (hw.pick [12, 13, 14, 17] (by decide) rfl rfl)⟩)
     have e : q = d.fin.length := (by omega)
     have hml : (mapM d).length = d.fin.length := (by simp [mapM])
     refine ⟨mF, mN, mv2, mrs, rfl, hmrs, smF, smN, smv2, ?_⟩
     rw [hnt, e, Nat.sub_self, List.replicate_zero, List.append_nil, ← hml, List.take_length]; rfl

end Go.Proofs.YtdnhiinakhmhgaaGreatDoor

namespace Go.Proofs.YtdnhiinakhmhgaaGreatDoor
open Go.Sx Go.RowKit
set_option maxHeartbeats 400000 in
theorem s_min (w : World) (v : Value) (d : Dfa) (h : RdD (fun _ => False) w v d) : CallS Tryz.prog 32 [v] w (fun r o => ∃ (vF vN : Value) (rs : List Value), r = .agg #[.int .i64 (MinV d).L, .int .i64 (MinV d).s, vF, vN] ∧ rs.length = (MinV d).nx.length ∧ IsSl vF ∧ IsSl vN ∧ o = dfaO 4 3 26 vF vN rs (MinV d)) := by
 have h0 := h
 obtain ⟨vF, vN, rfl, hF, hN⟩ := h
 have hF0 := hF
 have hN0 := hN
 obtain ⟨rs, hrl, hNr, hNi⟩ := hN
 have sF := hF.sl
 have sN := hNr.sl
 have hmf := hF.le
 have hmn := hNr.le
 unfold RdL at hF
 refine spec_of Tryz.func32 rfl (leb rfl) ?_
 refine .sr fun _ hK1 => ?_
 refine AK.box_ (E := 43) (cs := [.int .i64 d.L, .int .i64 d.s, vF, vN]) rfl rfl rfl trivial rfl (fun bx1 => ?_)
 refine AK.alloc el43 rfl rfl trivial rfl (fun bx2 => ?_)
 refine .nt hK1 ?_
 refine .seq fun _ hK2 => ?_
 refine .sr fun _ hK3 => ?_
 refine .v (.loadBoxG ag43 rfl bsp rfl rfl) ?_
 refine AK.call co22 rfl (fun w hw => s_validate w _ d (h0.at hw)) trivial rfl ?_
 rintro r o ⟨rfl, rfl⟩
 refine .v (.neq rfl rfl) (.nt hK3 ?_)
 refine AK.condNe rfl (fun hc0 => ?_) (fun hc0 => ?_)
 ·have hnv : ¬ VD d := fun h => hc0 ((errV_iff d).2 h)
  refine .sr fun _ hK4 => ?_
  refine .v (.build (parts := []) (cs := #[.int .i64 0, .int .i64 0, .slice none 0 0, .slice none 0 0]) rfl (by kernel_rfl)) ?_
  refine AK.storeBox 1 (us := [.int .i64 0, .int .i64 0, .slice none 0 0, .slice none 0 0]) (cs' := [.int .i64 0, .int .i64 0, .slice none 0 0, .slice none 0 0]) rfl sz43 rfl rfl rfl rfl oneP (leb rfl) rfl trivial ?_
  refine .nt hK4 (.ret (.then_ret ?_))
  refine AK.own' (dfaO 4 3 26 (.slice none 0 0) (.slice none 0 0) [] nilD ++ [box bx2 43 4 [.int .i64 0, .int .i64 0, .slice none 0 0, .slice none 0 0]]) (fun w hw => by have h1 := (((hw.pick [1] (by decide) rfl rfl).ghost 4 1).ghost 26 1).ghostG (f := Value.int .i64) 3; exact h1.pick [1, 2, 3, 0] (by decide) rfl rfl) ?_
  refine AK.retG [.cell 2 43] rfl (.cons (.cell ag43 rfl bsp rfl rfl) (.nil)) (fun w hw => ⟨_, _, ?_, rfl, Ret.of (hw.pick [0, 1, 2] (by decide) rfl rfl)⟩)
  rw [show MinV d = nilD from if_neg hnv]
  exact ⟨_, _, [], rfl, rfl, nilSl, nilSl, rfl⟩
 ·have hv : VD d := (errV_iff d).1 hc0
  refine .skip ?_
  refine AK.then_ (hK2 _ ?_)
  refine .sr fun _ hK5 => ?_
  refine .v (.loadBoxG ag43 rfl bsp rfl rfl) ?_
  refine AK.call co63 rfl (fun w hw => s_minimal w _ d (h0.at hw) hv) trivial rfl ?_
  rintro r o ⟨mF, mN, mS, mrs, rfl, hmrs, smF, smN, smS, rfl⟩
  refine .mv rfl (.v (.extract rfl rfl) (.v (.extract rfl rfl) ?_))
  refine AK.alloc el43 rfl rfl trivial rfl (fun bx3 => ?_)
  refine AK.storeBox 6 (us := [.int .i64 (minD d).L, .int .i64 (minD d).s, mF, mN]) (cs' := [.int .i64 (minD d).L, .int .i64 (minD d).s, mF, mN]) rfl sz43 rfl rfl rfl rfl oneP (leb rfl) rfl trivial ?_
  refine .as rfl (.nt hK5 ?_)
  refine .sr fun _ hK6 => ?_
  refine .v (.loadBoxG ag43 rfl bsp rfl rfl) ?_
  refine AK.storeBox 1 (us := [.int .i64 (minD d).L, .int .i64 (minD d).s, mF, mN]) (cs' := [.int .i64 (minD d).L, .int .i64 (minD d).s, mF, mN]) rfl sz43 rfl rfl rfl rfl oneP (leb rfl) rfl trivial ?_
  refine .nt hK6 (.ret ?_)
  refine AK.retG [.cell 2 43] rfl (.cons (.cell ag43 rfl bsp rfl rfl) (.nil)) (fun w hw => ⟨_, _, ?_, rfl, Ret.of (hw.pick [2, 3, 4] (by decide) rfl rfl)⟩)
  rw [show MinV d = minD d from if_pos hv]
  exact ⟨mF, mN, mrs, rfl, hmrs, smF, smN, rfl⟩

end Go.Proofs.YtdnhiinakhmhgaaGreatDoor

namespace Go.Proofs.YtdnhiinakhmhgaaGreatDoor
open Go.Sx Go.RowKit
theorem s_letter (w : World) (x : Int) : CallS Tryz.prog 31 [.int .i64 x] w (fun r o => r = .agg #[.int .i64 3, .int .i64 x, nilV] ∧ o = []) := by
 refine spec_of Tryz.func31 rfl (leb rfl) ?_
 refine .sr fun _ hK1 => ?_
 refine AK.alloc el65 rfl rfl trivial rfl (fun bx2 => ?_)
 refine .nt hK1 ?_
 refine .sr fun _ hK2 => ?_
 refine .mv rfl ?_
 refine .v (.build (parts := [(0, .const (.int .i64 3)), (1, .tmp 3)]) (cs := #[.int .i64 3, .int .i64 x, .slice none 0 0]) rfl (by kernel_rfl)) ?_
 refine AK.storeBox 0 (us := [.int .i64 3, .int .i64 x, .slice none 0 0]) (cs' := [.int .i64 3, .int .i64 x, .slice none 0 0]) rfl sz65 rfl rfl rfl rfl oneP (leb rfl) rfl trivial ?_
 refine .nt hK2 (.ret ?_)
 refine AK.retG [.cell 2 65] rfl (.cons (.cell ag65 rfl bsp rfl rfl) (.nil)) (fun w hw => ⟨_, _, ?_, rfl, Ret.of (hw.pick [] (by decide) rfl rfl)⟩)
 exact ⟨rfl, rfl⟩

theorem s_node (w : World) (op : Int) (v : Value) (hv : IsSl v) : CallS Tryz.prog 30 [.int .i64 op, v] w (fun r o => r = .agg #[.int .i64 op, .int .i64 0, v] ∧ o = []) := by
 refine spec_of Tryz.func30 rfl (leb rfl) ?_
 refine .sr fun _ hK1 => ?_
 refine AK.alloc el65 rfl rfl trivial rfl (fun bx4 => ?_)
 refine .nt hK1 ?_
 refine .sr fun _ hK2 => ?_
 refine .mv rfl (.mv rfl ?_)
 refine .v (.build (parts := [(0, .tmp 5), (2, .tmp 6)]) (cs := #[.int .i64 op, .int .i64 0, v]) rfl (by obtain ⟨_, _, _, rfl⟩ := hv; kernel_rfl)) ?_
 refine AK.storeBox 0 (us := [.int .i64 op, .int .i64 0, v]) (cs' := [.int .i64 op, .int .i64 0, v]) rfl sz65 rfl rfl rfl rfl oneP (leb rfl) rfl trivial ?_
 refine .nt hK2 (.ret ?_)
 refine AK.retG [.cell 4 65] rfl (.cons (.cell ag65 rfl bsp rfl rfl) (.nil)) (fun w hw => ⟨_, _, ?_, rfl, Ret.of (hw.pick [] (by decide) rfl rfl)⟩)
 exact ⟨rfl, rfl⟩

set_option maxHeartbeats 2000000 in
theorem s_awake (w : World) (hT : TbA w) : CallS Tryz.prog 7 [] w (fun r o => r = .bool true ∧ o = []) := by
 refine spec_of Tryz.func7 rfl (leb rfl) ?_
 refine .sr fun _ hK1 => ?_
 refine .as rfl (.nt hK1 ?_)
 refine .sr fun _ hK2 => ?_
 refine AK.call co31 rfl (fun w hw => s_letter w 0) trivial rfl ?_
 rintro r o ⟨rfl, rfl⟩
 refine AK.call co31 rfl (fun w hw => s_letter w 1) trivial rfl ?_
 rintro r o ⟨rfl, rfl⟩
 refine AK.lit (xs := [.tmp 4, .tmp 5]) sl63 el65 rfl rfl rfl (by simp [Value.cells]) (by decide) (by decide) trivial rfl (fun lv => ?_)
 refine AK.shape 0 rfl (fun slv => ?_)
 refine AK.call co30 rfl (fun w hw => s_node w 5 lv slv) trivial rfl ?_
 rintro r o ⟨rfl, rfl⟩
 refine AK.lit (xs := [.tmp 7]) sl63 el65 rfl rfl rfl (by simp [Value.cells]) (by decide) (by decide) trivial rfl (fun lw => ?_)
 refine AK.shape 1 rfl (fun slw => ?_)
 refine AK.call co30 rfl (fun w hw => s_node w 7 lw slw) trivial rfl ?_
 rintro r o ⟨rfl, rfl⟩
 refine AK.newForest ⟨w, fun _ => False⟩ ?_
 refine AK.add' 2 (.deep nilV []) rfl (fun R => RdK.nil R) (fun l1 hs1 hm1 => ?_)
 refine AK.close' 2 0 [exLa, exLb] [nilV, nilV] (by decide) rfl rfl rfl rfl rfl (aw_kids hm1) (fun l2 hs2 hm2 _ => ?_)
 refine AK.close' 2 1 [exC] [lv] (by decide) rfl rfl rfl rfl rfl (aw_kid hm2) (fun l3 hs3 hm3 _ => ?_)
 refine AK.callN 2 rfl co29 rfl (fun w Fs hw hh hfr hal => s_build w (Fs 2) ⟨_, fun _ => False⟩ l3 (fun b hb => hb.elim) (hh.at_ 2 _ rfl) exAw lw hm3 2 (awD, 0) build_aw) trivial rfl ?_
 rintro r A o ⟨vF, vN, rs, rfl, hrl, svF, svN, rfl, rfl⟩
 refine AK.flatAt [empA, empA] ?_
 refine .mv rfl (.v (.extract rfl rfl) (.v (.extract rfl rfl) ?_))
 refine AK.alloc el43 rfl rfl trivial rfl (fun bx1 => ?_)
 refine AK.storeBox 5 (us := [.int .i64 (2 : Int), .int .i64 (0 : Int), vF, vN]) (cs' := [.int .i64 (2 : Int), .int .i64 (0 : Int), vF, vN]) rfl sz43 rfl rfl rfl rfl oneP (leb rfl) rfl trivial ?_
 refine .as rfl (.nt hK2 ?_)
 refine .sr fun _ hK3 => ?_
 refine .mv rfl (.v (.eql rfl rfl) (.mv rfl ?_))
 refine AK.knownT (g := 15) rfl (rfl) (fun hg_2_2 => ?_)
 refine AK.val _ (Yl.loadBoxG ag43 rfl bsp rfl rfl) ⟨_, rfl, gB hg_2_2⟩ rfl ?_
 refine AK.call co32 rfl (fun w hw => s_min w _ awD (RdD.own 2 hw hrl rfl rfl rfl)) ⟨_, rfl, gB hg_2_2⟩ rfl ?_
 rintro r o ⟨mF, mN, ms, rfl, hml, smF, smN, rfl⟩
 refine AK.val _ (Yl.fieldQ (FldQ.of (by kernel_rfl) : FldQ _ 43 2 2) rfl rfl) ⟨_, rfl, gB hg_2_2⟩ rfl ?_
 refine AK.val _ (Yl.lenR sl41 rfl rdp) ⟨_, rfl, gB hg_2_2⟩ rfl ?_
 refine AK.val _ (Yl.eql rfl rfl) ⟨_, rfl, gB hg_2_2⟩ rfl ?_
 refine .v (.pickT rfl (hg_2_2) rfl) (.mv rfl ?_)
 refine AK.knownT (g := 22) rfl (by rw [aw_min]; rfl) (fun hg_2_9 => ?_)
 refine AK.call co31 rfl (fun w hw => s_letter w 0) ⟨_, rfl, gB hg_2_9⟩ rfl ?_
 rintro r o ⟨rfl, rfl⟩
 refine AK.call co33 rfl (fun w hw => s_match w exLa nilV (RdK.nil _) [97] (by decide) aw_word aw_val aw_leaf (hT.at hw)) ⟨_, rfl, gB hg_2_9⟩ rfl ?_
 rintro r o ⟨rfl, rfl⟩
 refine .v (.pickT rfl (hg_2_9) rfl) (.as rfl (.nt hK3 (.ret ?_)))
 refine AK.ret1 rfl rfl (fun w hw => ⟨_, _, ?_, rfl, Ret.of (hw.pick [] (by decide) rfl rfl)⟩)
 exact ⟨congrArg Value.bool aw_match, rfl⟩

end Go.Proofs.YtdnhiinakhmhgaaGreatDoor

namespace Go.Proofs.YtdnhiinakhmhgaaGreatDoor
open Go.Sx Go.RowKit
end Go.Proofs.YtdnhiinakhmhgaaGreatDoor

namespace Go.Proofs.YtdnhiinakhmhgaaGreatDoor
open Go.Sx Go.RowKit
theorem calls_cmp {w : World} (u v : List UInt8) (h : u.length = v.length) : CallS Tryz.prog 116 [sv u, sv v] w (fun r o => r = .int .i64 (CmpV u v) ∧ o = []) :=
  callS_pure (by have := Tryz.strings_Compare ⟨⟨u⟩⟩ ⟨⟨v⟩⟩ w; rw [cmpB_eq u v h] at this; exact this) ⟨rfl, rfl⟩
theorem s_isnan (w : World) (x : Int) : CallS Tryz.prog 112 [.int .i64 x] w (fun r o => r = .bool false ∧ o = []) := by
 refine spec_of Tryz.func112 rfl (leb rfl) ?_
 refine .sr fun _ hK1 => ?_
 refine .as rfl (.nt hK1 ?_)
 refine .sr fun _ hK2 => ?_
 refine .mv rfl (.mv rfl (.v (.neq rfl rfl) (.as rfl (.nt hK2 (.ret ?_)))))
 refine AK.ret1 rfl rfl (fun w hw => ⟨_, _, ?_, rfl, Ret.of (hw.pick [] (by decide) rfl rfl)⟩)
 refine ⟨congrArg Value.bool ?_, rfl⟩
 simp

theorem s_cmpi (w : World) (x y : Int) : CallS Tryz.prog 82 [.int .i64 x, .int .i64 y] w (fun r o => r = .int .i64 (if x < y then -1 else if y < x then 1 else 0) ∧ o = []) := by
 refine spec_of Tryz.func82 rfl (leb rfl) ?_
 refine .sr fun _ hK1 => ?_
 refine .as rfl (.nt hK1 ?_)
 refine .sr fun _ hK2 => ?_
 refine .mv rfl ?_
 refine AK.call co112 rfl (fun w hw => s_isnan w x) trivial rfl ?_
 rintro r o ⟨rfl, rfl⟩
 refine .as rfl (.nt hK2 ?_)
 refine .sr fun _ hK3 => ?_
 refine .mv rfl ?_
 refine AK.call co112 rfl (fun w hw => s_isnan w y) trivial rfl ?_
 rintro r o ⟨rfl, rfl⟩
 refine .as rfl (.nt hK3 ?_)
 refine .seq fun _ hK4 => ?_
 refine .sr fun _ hK5 => ?_
 refine .mv rfl (.nt hK5 ?_)
 refine AK.cond_f rfl (rfl) ?_
 refine .skip ?_
 refine AK.then_ (hK4 _ ?_)
 refine .seq fun _ hK6 => ?_
 refine .sr fun _ hK7 => ?_
 refine .mv rfl (.nt hK7 ?_)
 refine AK.cond_f rfl (rfl) ?_
 refine .skip ?_
 refine AK.then_ (hK6 _ ?_)
 refine .seq fun _ hK8 => ?_
 refine .sr fun _ hK9 => ?_
 refine .mv rfl (.mv rfl (.v (.lss rfl rfl) (.nt hK9 ?_)))
 refine AK.condD rfl (fun hc3 => ?_) (fun hc3 => ?_)
 ·refine .sr fun _ hK10 => ?_
  refine .as rfl (.nt hK10 (.ret (.then_ret ?_)))
  refine AK.ret1 rfl rfl (fun w hw => ⟨_, _, ?_, rfl, Ret.of (hw.pick [] (by decide) rfl rfl)⟩)
  refine ⟨congrArg (Value.int .i64) ?_, rfl⟩
  first | (rw [if_pos (by omega)]; done) | (rw [if_neg (by omega), if_pos (by omega)]; done) | (rw [if_neg (by omega), if_neg (by omega)]; done)
 ·refine .skip ?_
  refine AK.then_ (hK8 _ ?_)
  refine .seq fun _ hK11 => ?_
  refine .sr fun _ hK12 => ?_
  refine .mv rfl (.mv rfl (.v (.gtr rfl rfl) (.nt hK12 ?_)))
  refine AK.condD rfl (fun hc4 => ?_) (fun hc4 => ?_)
  ·refine .sr fun _ hK13 => ?_
   refine .as rfl (.nt hK13 (.ret (.then_ret ?_)))
   refine AK.ret1 rfl rfl (fun w hw => ⟨_, _, ?_, rfl, Ret.of (hw.pick [] (by decide) rfl rfl)⟩)
   refine ⟨congrArg (Value.int .i64) ?_, rfl⟩
   first | (rw [if_pos (by omega)]; done) | (rw [if_neg (by omega), if_pos (by omega)]; done) | (rw [if_neg (by omega), if_neg (by omega)]; done)
  ·refine .skip ?_
   refine AK.then_ (hK11 _ ?_)
   refine .sr fun _ hK14 => ?_
   refine .as rfl (.nt hK14 (.ret ?_))
   refine AK.ret1 rfl rfl (fun w hw => ⟨_, _, ?_, rfl, Ret.of (hw.pick [] (by decide) rfl rfl)⟩)
   refine ⟨congrArg (Value.int .i64) ?_, rfl⟩
   first | (rw [if_pos (by omega)]; done) | (rw [if_neg (by omega), if_pos (by omega)]; done) | (rw [if_neg (by omega), if_neg (by omega)]; done)

theorem s_wcmp (w : World) (u v : List UInt8) (hu : u.length ≤ 9223372036854775807) (hv : v.length ≤ 9223372036854775807) : CallS Tryz.prog 91 [sv u, sv v] w (fun r o => r = .int .i64 (CmpV u v) ∧ o = []) := by
 refine spec_of Tryz.func91 rfl (leb rfl) ?_
 refine .sr fun _ hK1 => ?_
 refine .as rfl (.nt hK1 ?_)
 refine .seq fun _ hK2 => ?_
 refine .sr fun _ hK3 => ?_
 refine .mv rfl (.v (.lenS un9 rfl) (.mv rfl (.v (.lenS un9 rfl) (.v (.neq rfl rfl) (.nt hK3 ?_)))))
 refine AK.condNe rfl (fun hc0 => ?_) (fun hc0 => ?_)
 ·refine .sr fun _ hK4 => ?_
  refine .mv rfl (.v (.lenS un9 rfl) (.mv rfl (.v (.lenS un9 rfl) ?_)))
  refine AK.call co82 rfl (fun w hw => s_cmpi w (u.length : Int) (v.length : Int)) trivial rfl ?_
  rintro r o ⟨rfl, rfl⟩
  refine .as rfl (.nt hK4 (.ret (.then_ret ?_)))
  refine AK.ret1 rfl rfl (fun w hw => ⟨_, _, ?_, rfl, Ret.of (hw.pick [] (by decide) rfl rfl)⟩)
  refine ⟨congrArg (Value.int .i64) ?_, rfl⟩
  exact cmp_len (by omega)
 ·refine .skip ?_
  refine AK.then_ (hK2 _ ?_)
  refine .sr fun _ hK5 => ?_
  refine .mv rfl (.mv rfl ?_)
  refine AK.call co116 rfl (fun w hw => calls_cmp u v (by omega)) trivial rfl ?_
  rintro r o ⟨rfl, rfl⟩
  refine .as rfl (.nt hK5 (.ret ?_))
  refine AK.ret1 rfl rfl (fun w hw => ⟨_, _, ?_, rfl, Ret.of (hw.pick [] (by decide) rfl rfl)⟩)
  exact ⟨rfl, rfl⟩

theorem s_rval (w : World) (v : Value) (rs : List Rul) (h : RdR (fun _ => False) w v rs) (hll : ∀ k, k < rs.length → (rs.getD k ([], [])).1.length ≤ 9223372036854775807 ∧ (rs.getD k ([], [])).2.length ≤ 9223372036854775807) (L : Int) : CallS Tryz.prog 53 [v, .int .i64 L] w (fun r o => r = .int .i64 (errR L rs) ∧ o = []) := by
 have h0 := h
 have hb := h.len
 have sv0 := Rd.sl h
 unfold RdR at h
 refine spec_of Tryz.func53 rfl (leb rfl) ?_
 refine .sr fun _ hK1 => ?_
 refine .as rfl (.nt hK1 ?_)
 refine .seq fun _ hK2 => ?_
 refine .sr fun _ hK3 => ?_
 refine .mv rfl (.v (.lss rfl rfl) (.mv rfl ?_))
 refine AK.splitB (g := 9) rfl (fun hg_1_2 => ?_) (fun hg_1_2 => ?_)
 ·have hg_1_2' := hg_1_2
  try simp only [bs] at hg_1_2'
  refine AK.pass rfl rfl (hg_1_2) rfl ?_
  refine AK.pass rfl rfl (hg_1_2) rfl ?_
  refine .v (.pickT rfl (hg_1_2) rfl) (.nt hK3 ?_)
  refine AK.cond_t rfl (rfl) ?_
  refine .sr fun _ hK4 => ?_
  refine .as rfl (.nt hK4 (.ret (.then_ret ?_)))
  refine AK.ret1 rfl rfl (fun w hw => ⟨_, _, ?_, rfl, Ret.of (hw.pick [] (by decide) rfl rfl)⟩)
  refine ⟨congrArg (Value.int .i64) ?_, rfl⟩; unfold errR; rw [if_pos (by omega)]
 ·have hg_1_2' := hg_1_2
  try simp only [bs] at hg_1_2'
  refine AK.val _ (Yl.move rfl) ⟨_, rfl, gB hg_1_2⟩ rfl ?_
  refine AK.val _ (Yl.gtr rfl rfl) ⟨_, rfl, gB hg_1_2⟩ rfl ?_
  refine .v (.pickF rfl (hg_1_2) rfl) (.nt hK3 ?_)
  refine AK.condD rfl (fun hc0 => ?_) (fun hc0 => ?_)
  ·refine .sr fun _ hK5 => ?_
   refine .as rfl (.nt hK5 (.ret (.then_ret ?_)))
   refine AK.ret1 rfl rfl (fun w hw => ⟨_, _, ?_, rfl, Ret.of (hw.pick [] (by decide) rfl rfl)⟩)
   refine ⟨congrArg (Value.int .i64) ?_, rfl⟩; unfold errR; rw [if_pos (by omega)]
  ·refine .skip ?_
   refine AK.then_ (hK2 _ ?_)
   refine .seq fun _ hK6 => ?_
   refine .sr fun _ hK7 => ?_
   refine .mv rfl (.v (.lenR sl27 rfl rdp) (.v (.gtr rfl rfl) (.nt hK7 ?_)))
   refine AK.condD rfl (fun hc1 => ?_) (fun hc1 => ?_)
   ·refine .sr fun _ hK8 => ?_
    refine .as rfl (.nt hK8 (.ret (.then_ret ?_)))
    refine AK.ret1 rfl rfl (fun w hw => ⟨_, _, ?_, rfl, Ret.of (hw.pick [] (by decide) rfl rfl)⟩)
    refine ⟨congrArg (Value.int .i64) ?_, rfl⟩; unfold errR; rw [if_neg (by omega), if_pos (by omega)]
   ·refine .skip ?_
    refine AK.then_ (hK6 _ ?_)
    refine .seq fun _ hK9 => ?_
    refine .sr fun _ hK10 => ?_
    refine .mv rfl (.v (.lenR sl27 rfl rdp) (.mv rfl (.nt hK10 (.block ?_))))
    refine AK.loopK (X := Nat) [(1, _), (16, _), (17, _)] (fun k => [(18, .int .i64 (k : Int))]) (fun k => []) (fun k => k ≤ rs.length ∧ (rs.take k).any (badR L) = false) (fun k => rs.length - k) (0) slr ?_ ?_ ?_ ?_
    ·exact ⟨Nat.zero_le _, rfl⟩
    ·exact slr
    ·exact fun w hw => hw
    ·intro k hg0 _ hK11
     obtain ⟨hk, hg1⟩ := hg0
     refine .sr fun _ hK12 => ?_
     refine .v (.lss rfl rfl) (.nt hK12 ?_)
     refine .seq fun _ hK13 => ?_
     refine AK.condD rfl (fun hc2 => ?_) (fun hc2 => ?_)
     ·have hl1 := (hll k (by omega)).1
      have hl2 := (hll k (by omega)).2
      refine .skip ?_
      refine AK.then_ (hK13 _ ?_)
      refine .seq fun _ hK14 => ?_
      refine .block ?_
      refine .sr fun _ hK15 => ?_
      first | refine .v (.iN sl27 rfl rfl) ?_ | refine .v (.iK sl27 rfl rfl) ?_
      refine .v (.loadRu ag39 rfl rdp (by omega)) ?_
      refine AK.alloc el39 rfl rfl trivial rfl (fun bx6 => ?_)
      refine AK.storeBox 0 (us := rcs (rs.getD k ([], []))) (cs' := rcs (rs.getD k ([], []))) rfl sz39 rfl rfl rfl rfl oneP (leb rfl) rfl trivial ?_
      refine .nt hK15 ?_
      refine .sr fun _ hK16 => ?_
      refine .v (.fieldAddr fd39_0 rfl) (.v (.loadBox on9 rfl bsp rfl) (.mv rfl ?_))
      refine AK.call co42 rfl (fun w hw => s_wvalid w (rs.getD k ([], [])).1 L hl1) trivial rfl ?_
      rintro r o ⟨rfl, rfl⟩
      refine .v (.not rfl) (.mv rfl ?_)
      refine AK.splitB (g := 27) rfl (fun hg_8_5 => ?_) (fun hg_8_5 => ?_)
      ·have hg_8_5' := hg_8_5
       try simp only [bs] at hg_8_5'
       refine AK.pass rfl rfl (hg_8_5) rfl ?_
       refine AK.pass rfl rfl (hg_8_5) rfl ?_
       refine AK.pass rfl rfl (hg_8_5) rfl ?_
       refine AK.pass rfl rfl (hg_8_5) rfl ?_
       refine AK.pass rfl rfl (hg_8_5) rfl ?_
       refine .v (.pickT rfl (hg_8_5) rfl) (.mv rfl ?_)
       refine AK.pass rfl rfl rfl rfl ?_
       refine AK.pass rfl rfl rfl rfl ?_
       refine AK.pass rfl rfl rfl rfl ?_
       refine AK.pass rfl rfl rfl rfl ?_
       refine AK.pass rfl rfl rfl rfl ?_
       refine AK.pass rfl rfl rfl rfl ?_
       refine .v (.pickT rfl (rfl) rfl) (.nt hK16 ?_)
       refine AK.cond_t rfl (rfl) ?_
       refine .sr fun _ hK17 => ?_
       refine .as rfl (.nt hK17 (.ret (.block_ret (.then_ret (.then_ret (.block_ret (.then_ret ?_)))))))
       refine AK.ret1 rfl rfl (fun w hw => ⟨_, _, ?_, rfl, Ret.of (hw.pick [] (by decide) rfl rfl)⟩)
       refine ⟨congrArg (Value.int .i64) ?_, rfl⟩; unfold errR; rw [if_neg (by omega), if_neg (by omega), if_pos (any_at _ ([], []) (by omega : k < rs.length) ?_)]
       clear hll hl1 hl2
       unfold badR
       first | (simp_all; done) | skip
      ·have hg_8_5' := hg_8_5
       try simp only [bs] at hg_8_5'
       refine AK.val _ (Yl.fieldAddr fd39_1 rfl) ⟨_, rfl, gB hg_8_5⟩ rfl ?_
       refine AK.val _ (Yl.loadBox on9 rfl bsp rfl) ⟨_, rfl, gB hg_8_5⟩ rfl ?_
       refine AK.val _ (Yl.move rfl) ⟨_, rfl, gB hg_8_5⟩ rfl ?_
       refine AK.call co42 rfl (fun w hw => s_wvalid w (rs.getD k ([], [])).2 L hl2) ⟨_, rfl, gB hg_8_5⟩ rfl ?_
       rintro r o ⟨rfl, rfl⟩
       refine AK.val _ (Yl.not rfl) ⟨_, rfl, gB hg_8_5⟩ rfl ?_
       refine .v (.pickF rfl (hg_8_5) rfl) (.mv rfl ?_)
       refine AK.splitB (g := 34) rfl (fun hg_8_12 => ?_) (fun hg_8_12 => ?_)
       ·have hg_8_12' := hg_8_12
        try simp only [bs] at hg_8_12'
        refine AK.pass rfl rfl (hg_8_12) rfl ?_
        refine AK.pass rfl rfl (hg_8_12) rfl ?_
        refine AK.pass rfl rfl (hg_8_12) rfl ?_
        refine AK.pass rfl rfl (hg_8_12) rfl ?_
        refine AK.pass rfl rfl (hg_8_12) rfl ?_
        refine AK.pass rfl rfl (hg_8_12) rfl ?_
        refine .v (.pickT rfl (hg_8_12) rfl) (.nt hK16 ?_)
        refine AK.cond_t rfl (rfl) ?_
        refine .sr fun _ hK18 => ?_
        refine .as rfl (.nt hK18 (.ret (.block_ret (.then_ret (.then_ret (.block_ret (.then_ret ?_)))))))
        refine AK.ret1 rfl rfl (fun w hw => ⟨_, _, ?_, rfl, Ret.of (hw.pick [] (by decide) rfl rfl)⟩)
        refine ⟨congrArg (Value.int .i64) ?_, rfl⟩; unfold errR; rw [if_neg (by omega), if_neg (by omega), if_pos (any_at _ ([], []) (by omega : k < rs.length) ?_)]
        clear hll hl1 hl2
        unfold badR
        first | (simp_all; done) | skip
       ·have hg_8_12' := hg_8_12
        try simp only [bs] at hg_8_12'
        refine AK.val _ (Yl.fieldAddr fd39_0 rfl) ⟨_, rfl, gB hg_8_12⟩ rfl ?_
        refine AK.val _ (Yl.loadBox on9 rfl bsp rfl) ⟨_, rfl, gB hg_8_12⟩ rfl ?_
        refine AK.val _ (Yl.fieldAddr fd39_1 rfl) ⟨_, rfl, gB hg_8_12⟩ rfl ?_
        refine AK.val _ (Yl.loadBox on9 rfl bsp rfl) ⟨_, rfl, gB hg_8_12⟩ rfl ?_
        refine AK.call co91 rfl (fun w hw => s_wcmp w (rs.getD k ([], [])).1 (rs.getD k ([], [])).2 hl1 hl2) ⟨_, rfl, gB hg_8_12⟩ rfl ?_
        rintro r o ⟨rfl, rfl⟩
        refine AK.val _ (Yl.leq rfl rfl) ⟨_, rfl, gB hg_8_12⟩ rfl ?_
        refine .v (.pickF rfl (hg_8_12) rfl) (.nt hK16 ?_)
        refine AK.condD rfl (fun hc3 => ?_) (fun hc3 => ?_)
        ·refine .sr fun _ hK19 => ?_
         refine .as rfl (.nt hK19 (.ret (.block_ret (.then_ret (.then_ret (.block_ret (.then_ret ?_)))))))
         refine AK.ret1 rfl rfl (fun w hw => ⟨_, _, ?_, rfl, Ret.of (hw.pick [] (by decide) rfl rfl)⟩)
         refine ⟨congrArg (Value.int .i64) ?_, rfl⟩; unfold errR; rw [if_neg (by omega), if_neg (by omega), if_pos (any_at _ ([], []) (by omega : k < rs.length) ?_)]
         clear hll hl1 hl2
         unfold badR
         first | (simp_all; done) | skip
        ·refine .skip (.block_normal ?_)
         refine AK.then_ (hK14 _ ?_)
         refine AK.region ?_
         refine .v (.add rfl rfl (by omega)) ?_
         refine .mv rfl (.nil ?_)
         refine AK.then_ (hK11 _ _ (k + 1) ⟨by omega, any_take_succ _ ([], []) (by omega) hg1 (badR_iff.2 ⟨by simp_all, by simp_all, CmpV_pos.1 (by simp_all)⟩)⟩ (by omega) (slr) (fun w hw => hw.pick [] (by decide) rfl rfl))
     ·refine .exit (.then_exit (.then_exit (.block_exit ?_)))
      refine AK.then_ (hK9 _ ?_)
      refine .sr fun _ hK20 => ?_
      refine .as rfl (.nt hK20 (.ret ?_))
      refine AK.ret1 rfl rfl (fun w hw => ⟨_, _, ?_, rfl, Ret.of (hw.pick [] (by decide) rfl rfl)⟩)
      refine ⟨congrArg (Value.int .i64) ?_, rfl⟩; unfold errR; rw [if_neg (by omega), if_neg (by omega), if_neg]; rw [show k = rs.length by omega, List.take_length] at hg1; rw [hg1]; exact Bool.false_ne_true

end Go.Proofs.YtdnhiinakhmhgaaGreatDoor
