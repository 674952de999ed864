import Derived.Test.YtaeojcaidcjnaaaXE1
set_option linter.unusedVariables false
set_option linter.unusedSimpArgs false
namespace Go.Proofs.Ytaeojcaidcjnaaa
open Go.Sx Go.RowKit
set_option maxHeartbeats 2000000 in
set_option maxRecDepth 100000 in
theorem s_classes (w : World) (v : Value) (d : Dfa) (h : RdD (fun _ => False) w v d) : CallS Try.prog 72 [v] w (fun r o => IsSl r ∧ o = [row r 3 1 (ClsV d).length ((ClsV d).map (Value.int .i64))]) := by
 have h0 := h
 obtain ⟨vF, vN, rfl, hF, hN⟩ := h
 have hF0 := hF
 have hN0 := hN
 obtain ⟨rs, hrl, hNr, hNi⟩ := hN
 have sF := hF.sl
 have sN := hNr.sl
 have hmf := hF.le
 have hmn := hNr.le
 unfold RdL at hF
 refine spec_of Try.func72 rfl (Nat.le_of_ble_eq_true rfl) ?_
 refine .sr fun _ hK1 => ?_
 refine AK.box_ (E := 36) (cs := [.int .i64 d.L, .int .i64 d.s, vF, vN]) rfl rfl rfl trivial rfl (fun bx1 => ?_)
 refine .as rfl (.nt hK1 ?_)
 refine .seq fun _ hK2 => ?_
 refine .sr fun _ hK3 => ?_
 refine .v (.loadBoxG ag36 rfl bsp rfl rfl) ?_
 refine AK.call co58 rfl (fun w hw => s_validate w _ d (h0.at hw)) trivial rfl ?_
 rintro r o ⟨rfl, rfl⟩
 refine .v (.neq rfl rfl) ?_
 refine .nt hK3 ?_
 refine AK.condNe rfl (fun hc0 => ?_) (fun hc0 => ?_)
 ·have hnv : ¬ VD d := fun h => hc0 ((errV_iff d).2 h)
  refine .sr fun _ hK4 => ?_
  refine .as rfl (.nt hK4 (.ret (.then_ret ?_)))
  refine AK.ghost 3 1 ?_
  refine AK.ret1 rfl rfl (fun w hw => ⟨_, _, ?_, rfl, Ret.of (hw.pick [1] (by decide) rfl rfl)⟩)
  rw [show ClsV d = [] from if_neg hnv]
  exact ⟨nilSl, rfl⟩
 ·have hv : VD d := (errV_iff d).1 hc0
  have hL := hv.L
  have hnx := hv.nx
  have hn5 := hv.n
  have hn0 : 0 < d.fin.length := by have := hv.s; omega
  have hf0 := f0_len d
  refine .skip ?_
  refine AK.then_ (hK2 _ ?_)
  refine .sr fun _ hK5 => ?_
  refine .v (.fieldAddr fd36_2 rfl) ?_
  refine .v (.loadBox on33 rfl bsp rfl) ?_
  refine .v (.lenR sl33 rfl (by first | exact rdp | exact .arg (hNi _ (by omega)))) ?_
  refine AK.make1 (n := d.fin.length) sl74 el3 rfl rfl rfl (by omega) (by omega) trivial rfl (fun mv0 => ?_)
  refine AK.shape 1 rfl (fun smv0 => ?_)
  refine .as rfl (.as rfl (.nt hK5 ?_))
  refine .seq fun _ hK6 => ?_
  refine .sr fun _ hK7 => ?_
  refine .v (.fieldAddr fd36_2 rfl) ?_
  refine .v (.loadBox on33 rfl bsp rfl) ?_
  refine .v (.lenR sl33 rfl (by first | exact rdp | exact .arg (hNi _ (by omega)))) ?_
  refine .mv rfl (.nt hK7 (.block ?_))
  refine AK.loopK (X := Nat) [(1, _), (3, _), (24, _), (25, _)] (fun k => [(4, .int .i64 (if diff d k then 2 else 1)), (26, .int .i64 (k : Int))]) (fun k => [box bx1 36 4 [.int .i64 d.L, .int .i64 d.s, vF, vN], row mv0 3 1 d.fin.length (((f0 d).take k ++ List.replicate (d.fin.length - k) 0).map (Value.int .i64))]) (fun k => k ≤ d.fin.length) (fun k => d.fin.length - k) (0) slr ?_ ?_ ?_ ?_
  ·exact Nat.zero_le _
  ·exact slr
  ·exact fun w hw => by have e : (((f0 d).take 0 ++ List.replicate (d.fin.length - 0) 0).map (Value.int .i64)) = List.replicate d.fin.length (Value.int .i64 0) := (by simp); rw [e]; exact hw
  ·intro k hg0 _ hK8
   refine .sr fun _ hK9 => ?_
   refine .v (.lss rfl rfl) ?_
   refine .nt hK9 ?_
   refine .seq fun _ hK10 => ?_
   refine AK.condD rfl (fun hc1 => ?_) (fun hc1 => ?_)
   ·refine .skip ?_
    refine AK.then_ (hK10 _ ?_)
    refine .seq fun _ hK11 => ?_
    refine .block ?_
    refine .sr fun _ hK12 => ?_
    refine .mv rfl ?_
    first | refine .v (.iN sl33 rfl rfl (hr := (by first | exact rdp | exact .arg (hNi _ (by omega))))) ?_ | refine .v (.iK sl33 rfl rfl (hr := (by first | exact rdp | exact .arg (hNi _ (by omega))))) ?_
    refine .v (.loadB on4 rfl (by first | exact rdp | exact .arg (hNi _ (by omega))) (by omega)) ?_
    refine .as rfl (.as rfl (.nt hK12 ?_))
    refine .sr fun _ hK13 => ?_
    refine .mv rfl ?_
    refine .v (.fieldAddr fd36_2 rfl) ?_
    refine .v (.loadBox on33 rfl bsp rfl) ?_
    refine .v (.idxN (k := 0) sl33 rfl rfl (by first | exact rdp | exact .arg (hNi _ (by omega))) (by decide) (by omega)) ?_
    refine .v (.loadB on4 rfl (by first | exact rdp | exact .arg (hNi _ (by omega))) (by omega)) ?_
    refine .v (.neqB bo4 rfl rfl) ?_
    refine .nt hK13 ?_
    refine AK.cond rfl (fun hc2 => ?_) (fun hc2 => ?_)
    ·try simp only [bs] at hc2
     refine AK.region ?_
     refine .mv rfl (.mv rfl ?_)
     first | refine .v (.iN sl74 rfl rfl (hr := (by first | exact rdp | exact .arg (hNi _ (by omega))))) ?_ | refine .v (.iK sl74 rfl rfl (hr := (by first | exact rdp | exact .arg (hNi _ (by omega))))) ?_
     refine AK.store1e 1 rfl sz3 rfl rfl rfl rfl (by omega) (cs' := (((f0 d).take (k + 1) ++ List.replicate (d.fin.length - (k + 1)) 0).map (Value.int .i64))) (by exact f0_fill1 (by omega) (by simpa using hc2)) trivial ?_
     refine .as rfl (.nil (.block_normal ?_))
     refine AK.then_ (hK11 _ ?_)
     refine AK.region ?_
     refine .v (.add rfl rfl (by omega)) ?_
     refine .mv rfl (.nil ?_)
     first | refine AK.then_ (hK8 _ _ (k + 1) (by omega) (by omega) (.cons (slI rfl (diff_one (by omega) (by simpa using hc2))) (slr)) (fun w hw => hw)) | refine AK.then_ (hK8 _ _ (k + 1) (by omega) (by omega) (.cons (slI rfl (diff_zero (by omega) (by simpa using hc2))) (slr)) (fun w hw => by rw [← f0_fill0 (by omega) (by simpa using hc2)]; exact hw))
    ·try simp only [bs] at hc2
     refine .skip (.block_normal ?_)
     refine AK.then_ (hK11 _ ?_)
     refine AK.region ?_
     refine .v (.add rfl rfl (by omega)) ?_
     refine .mv rfl (.nil ?_)
     first | refine AK.then_ (hK8 _ _ (k + 1) (by omega) (by omega) (.cons (slI rfl (diff_one (by omega) (by simpa using hc2))) (slr)) (fun w hw => hw)) | refine AK.then_ (hK8 _ _ (k + 1) (by omega) (by omega) (.cons (slI rfl (diff_zero (by omega) (by simpa using hc2))) (slr)) (fun w hw => by rw [← f0_fill0 (by omega) (by simpa using hc2)]; exact hw))
   ·refine .exit (.then_exit (.then_exit (.block_exit ?_)))
    refine AK.then_ (hK6 _ ?_)
    refine .block ?_
    refine AK.loopK (X := Value × List Int) [(1, _)] (fun x => [(3, x.1), (4, .int .i64 ((ded x.2).length : Int))]) (fun x => [box bx1 36 4 [.int .i64 d.L, .int .i64 d.s, vF, vN], row x.1 3 1 d.fin.length (x.2.map (Value.int .i64))]) (fun x => (∃ k, Ker d k x.2) ∧ IsSl x.1) (fun x => d.fin.length - (ded x.2).length) ((mv0, f0 d)) slr ?_ ?_ ?_ ?_
    ·exact ⟨⟨0, f0_ker d⟩, smv0⟩
    ·exact .cons (rfl) (.cons (slI rfl (by rw [f0_ded d hn0, show k = d.fin.length by omega])) (slr))
    ·exact fun w hw => by rw [show k = d.fin.length by omega, Nat.sub_self, List.replicate_zero, List.append_nil, ← hf0, List.take_length] at hw; rw [hf0] at hw; exact hw
    ·intro x hg1 _ hK14
     have hxl : x.2.length = d.fin.length := by obtain ⟨kk, hkk⟩ := hg1.1; exact hkk.1
     have hdx := ded_le x.2
     have sx1 := hg1.2
     refine .block ?_
     refine .sr fun _ hK15 => ?_
     refine AK.makeMap trivial rfl (fun mb => ?_)
     refine .as rfl (.nt hK15 ?_)
     refine .sr fun _ hK16 => ?_
     refine .mv rfl ?_
     refine .v (.lenR sl74 rfl (by first | exact rdp | exact .arg (hNi _ (by omega)))) ?_
     refine AK.make1 (n := d.fin.length) sl74 el3 rfl rfl rfl (by omega) (by omega) trivial rfl (fun mv1 => ?_)
     refine AK.shape 3 rfl (fun smv1 => ?_)
     refine .as rfl (.nt hK16 ?_)
     refine .seq fun _ hK17 => ?_
     refine .sr fun _ hK18 => ?_
     refine .v (.fieldAddr fd36_3 rfl) ?_
     refine .v (.loadBox on34 rfl bsp rfl) ?_
     refine .v (.lenR sl34 rfl (by first | exact rdp | exact .arg (hNi _ (by omega)))) ?_
     refine .mv rfl (.nt hK18 (.block ?_))
     refine AK.loopK (X := Nat) [(1, _), (3, _), (4, _), (7, _), (8, _), (46, _), (47, _)] (fun q => [(48, .int .i64 (q : Int))]) (fun q => [box bx1 36 4 [.int .i64 d.L, .int .i64 d.s, vF, vN], row x.1 3 1 d.fin.length (x.2.map (Value.int .i64)), mapA mb (mkv (tv : Tup 7 → Value) (Value.int .i64) (numM (ded ((sgs7 d x.2).take q)))), row mv1 3 1 d.fin.length ((canN ((sgs7 d x.2).take q) ++ List.replicate (d.fin.length - q) 0).map (Value.int .i64))]) (fun q => q ≤ d.fin.length) (fun q => d.fin.length - q) (0) slr ?_ ?_ ?_ ?_
     ·exact Nat.zero_le _
     ·exact slr
     ·exact fun w hw => by have e : ((canN ((sgs7 d x.2).take 0) ++ List.replicate (d.fin.length - 0) 0).map (Value.int .i64)) = List.replicate d.fin.length (Value.int .i64 0) := (by simp [canN]); rw [e]; exact hw
     ·intro q hg2 _ hK19
      refine .sr fun _ hK20 => ?_
      refine .v (.lss rfl rfl) ?_
      refine .nt hK20 ?_
      refine .seq fun _ hK21 => ?_
      refine AK.condD rfl (fun hc3 => ?_) (fun hc3 => ?_)
      ·have hqn : q < d.fin.length := by omega
       have hrw := hv.row q hqn
       have hsl := sgs7_len d x.2
       have hdl := ded_le ((sgs7 d x.2).take q)
       rw [List.length_take] at hdl
       have hnl := numM_len (ded ((sgs7 d x.2).take q))
       refine .skip ?_
       refine AK.then_ (hK21 _ ?_)
       refine .seq fun _ hK22 => ?_
       refine .block ?_
       refine .sr fun _ hK23 => ?_
       refine .mv rfl ?_
       first | refine .v (.iN sl34 rfl rfl (hr := (by first | exact rdp | exact .arg (hNi _ (by omega))))) ?_ | refine .v (.iK sl34 rfl rfl (hr := (by first | exact rdp | exact .arg (hNi _ (by omega))))) ?_
       refine .v (.loadV on74 rfl (by first | exact rdp | exact .arg (hNi _ (by omega))) (by omega)) ?_
       refine .as rfl (.as rfl (.nt hK23 ?_))
       refine .sr fun _ hK24 => ?_
       refine .mv rfl (.mv rfl ?_)
       first | refine .v (.iN sl74 rfl rfl (hr := (by first | exact rdp | exact .arg (hNi _ (by omega))))) ?_ | refine .v (.iK sl74 rfl rfl (hr := (by first | exact rdp | exact .arg (hNi _ (by omega))))) ?_
       refine .v (.loadI on3 rfl (by first | exact rdp | exact .arg (hNi _ (by omega))) (by omega)) ?_
       refine .v (.build (parts := [(0, .tmp 56)]) (cs := #[.int .i64 (x.2.getD q 0), .int .i64 0, .int .i64 0, .int .i64 0, .int .i64 0, .int .i64 0, .int .i64 0]) rfl (by kernel_rfl)) ?_
       refine AK.alloc el114 rfl rfl trivial rfl (fun bx11 => ?_)
       refine AK.storeBox 4 (us := [.int .i64 (x.2.getD q 0), .int .i64 0, .int .i64 0, .int .i64 0, .int .i64 0, .int .i64 0, .int .i64 0]) (cs' := [.int .i64 (x.2.getD q 0), .int .i64 0, .int .i64 0, .int .i64 0, .int .i64 0, .int .i64 0, .int .i64 0]) rfl sz114 rfl rfl rfl rfl oneP (Nat.le_of_ble_eq_true rfl) rfl trivial ?_
       refine .nt hK24 ?_
       refine .seq fun _ hK25 => ?_
       refine .sr fun _ hK26 => ?_
       refine .mv rfl ?_
       refine .v (.lenR sl74 rfl (by first | exact rdp | exact .arg (hNi _ (by omega)))) ?_
       refine .mv rfl (.nt hK26 (.block ?_))
       refine AK.loopK (X := Nat) [(1, _), (3, _), (4, _), (7, _), (8, _), (9, _), (11, _), (46, _), (47, _), (48, _), (58, _), (59, _)] (fun j => [(60, .int .i64 (j : Int))]) (fun j => [box bx1 36 4 [.int .i64 d.L, .int .i64 d.s, vF, vN], row x.1 3 1 d.fin.length (x.2.map (Value.int .i64)), mapA mb (mkv (tv : Tup 7 → Value) (Value.int .i64) (numM (ded ((sgs7 d x.2).take q)))), row mv1 3 1 d.fin.length ((canN ((sgs7 d x.2).take q) ++ List.replicate (d.fin.length - q) 0).map (Value.int .i64)), box bx11 114 7 ((pad7 ((sigQ d x.2 q).take (j + 1))).map (Value.int .i64))]) (fun j => j ≤ (d.nx.getD q []).length) (fun j => (d.nx.getD q []).length - j) (0) slr ?_ ?_ ?_ ?_
       ·exact Nat.zero_le _
       ·exact slr
       ·exact fun w hw => hw
       ·intro j hg3 _ hK27
        refine .sr fun _ hK28 => ?_
        refine .v (.lss rfl rfl) ?_
        refine .nt hK28 ?_
        refine .seq fun _ hK29 => ?_
        refine AK.condD rfl (fun hc4 => ?_) (fun hc4 => ?_)
        ·have hto := hv.to q j hqn (by omega)
         have hsl2 := sigQ_len hv x.2 hqn
         refine .skip ?_
         refine AK.then_ (hK29 _ ?_)
         refine .seq fun _ hK30 => ?_
         refine .block ?_
         refine .sr fun _ hK31 => ?_
         refine .mv rfl ?_
         first | refine .v (.iN sl74 rfl rfl (hr := (by first | exact rdp | exact .arg (hNi _ (by omega))))) ?_ | refine .v (.iK sl74 rfl rfl (hr := (by first | exact rdp | exact .arg (hNi _ (by omega))))) ?_
         refine .v (.loadI on3 rfl (by first | exact rdp | exact .arg (hNi _ (by omega))) (by omega)) ?_
         refine .as rfl (.as rfl (.nt hK31 ?_))
         refine AK.region ?_
         refine .mv rfl ?_
         refine .v (.add rfl rfl (by omega)) ?_
         refine .mv rfl (.mv rfl ?_)
         first | refine .v (.iN sl74 rfl rfl (hr := (by first | exact rdp | exact .arg (hNi _ (by omega))))) ?_ | refine .v (.iK sl74 rfl rfl (hr := (by first | exact rdp | exact .arg (hNi _ (by omega))))) ?_
         refine .v (.loadI on3 rfl (by first | exact rdp | exact .arg (hNi _ (by omega))) (by omega)) ?_
         refine .v (.idxArrZ ar114 rfl rfl (by omega)) ?_
         refine AK.storeBox 4 (us := [.int .i64 (x.2.getD ((d.nx.getD q []).getD j 0).toNat 0)]) (cs' := ((pad7 ((sigQ d x.2 q).take (j + 2))).map (Value.int .i64))) rfl sz3 rfl rfl rfl rfl oneP (by rw [List.length_map, pad7_len]; simp only [List.length_cons, List.length_nil]; omega) (by rw [sigQ_take (by omega)]; have e : 0 + ((1 : Int) + (j : Int)).toNat * 1 = j + 1 := (by omega); rw [e]; exact pad_store (by rw [List.length_take]; omega) (by omega)) trivial ?_
         refine .nil (.block_normal ?_)
         refine AK.then_ (hK30 _ ?_)
         refine AK.region ?_
         refine .v (.add rfl rfl (by omega)) ?_
         refine .mv rfl (.nil ?_)
         refine AK.then_ (hK27 _ _ (j + 1) (by omega) (by omega) (slr) (fun w hw => hw))
        ·have ejk : pad7 ((sigQ d x.2 q).take (j + 1)) = ((sgs7 d x.2).getD q zero7).1 := by
          have hsl2 := sigQ_len hv x.2 hqn
          rw [sgs7_get hqn, List.take_of_length_le (by omega)]; rfl
         rw [ejk]
         refine .exit (.then_exit (.then_exit (.block_exit ?_)))
         refine AK.then_ (hK25 _ ?_)
         refine .sr fun _ hK32 => ?_
         refine .mv rfl ?_
         first | refine AK.val (tv ((sgs7 d x.2).getD q zero7)) (Yl.loadTup ag114 rfl (BoxS.own 4 rfl)) trivial rfl ?_
         refine .v (.lookup2I mp112 kl114 el3 rfl rfl msp) ?_
         refine .mv rfl ?_
         refine .v (.extract rfl rfl) ?_
         refine .v (.extract rfl rfl) ?_
         refine .as rfl (.as rfl (.nt hK32 ?_))
         refine .seq fun _ hK33 => ?_
         refine .sr fun _ hK34 => ?_
         refine .mv rfl ?_
         refine .v (.not rfl) ?_
         refine .nt hK34 ?_
         refine AK.condB rfl (fun hc5 => ?_) (fun hc5 => ?_)
         ·obtain ⟨hx, hcv⟩ := num_new hc5
          refine .sr fun _ hK35 => ?_
          refine .mv rfl ?_
          refine .v (.lenM mp112 rfl msp) ?_
          refine .as rfl (.nt hK35 ?_)
          refine AK.region ?_
          refine .mv rfl ?_
          first | refine AK.val (tv ((sgs7 d x.2).getD q zero7)) (Yl.loadTup ag114 rfl (BoxS.own 4 rfl)) trivial rfl ?_
          refine .mv rfl ?_
          refine AK.mapSet 2 rfl mp112 kl114 rfl rfl rfl trivial ?_
          refine .nt hK33 ?_
          refine AK.region ?_
          refine .mv rfl (.mv rfl (.mv rfl ?_))
          first | refine .v (.iN sl74 rfl rfl (hr := (by first | exact rdp | exact .arg (hNi _ (by omega))))) ?_ | refine .v (.iK sl74 rfl rfl (hr := (by first | exact rdp | exact .arg (hNi _ (by omega))))) ?_
          refine AK.store1e 3 rfl sz3 rfl rfl rfl rfl (by omega) (cs' := ((canN ((sgs7 d x.2).take (q + 1)) ++ List.replicate (d.fin.length - (q + 1)) 0).map (Value.int .i64))) (by exact can_fill zero7 hsl hqn hcv) trivial ?_
          refine .nil (.block_normal ?_)
          refine AK.then_ (hK22 _ ?_)
          refine AK.region ?_
          refine .v (.add rfl rfl (by omega)) ?_
          refine .mv rfl (.nil ?_)
          first | refine AK.then_ (hK19 _ _ (q + 1) (by omega) (by omega) (slr) (fun w hw => by rw [← ded_new zero7 (by omega) hx]; exact hw.pick [0, 1, 2, 3] (by decide) rfl rfl)) | refine AK.then_ (hK19 _ _ (q + 1) (by omega) (by omega) (slr) (fun w hw => by rw [ded_old zero7 (by omega) (by assumption)]; exact hw.pick [0, 1, 2, 3] (by decide) rfl rfl))
         ·obtain ⟨hx, hcv⟩ := num_old hc5
          refine .skip ?_
          refine AK.then_ (hK33 _ ?_)
          refine AK.region ?_
          refine .mv rfl (.mv rfl (.mv rfl ?_))
          first | refine .v (.iN sl74 rfl rfl (hr := (by first | exact rdp | exact .arg (hNi _ (by omega))))) ?_ | refine .v (.iK sl74 rfl rfl (hr := (by first | exact rdp | exact .arg (hNi _ (by omega))))) ?_
          refine AK.store1e 3 rfl sz3 rfl rfl rfl rfl (by omega) (cs' := ((canN ((sgs7 d x.2).take (q + 1)) ++ List.replicate (d.fin.length - (q + 1)) 0).map (Value.int .i64))) (by exact can_fill zero7 hsl hqn hcv) trivial ?_
          refine .nil (.block_normal ?_)
          refine AK.then_ (hK22 _ ?_)
          refine AK.region ?_
          refine .v (.add rfl rfl (by omega)) ?_
          refine .mv rfl (.nil ?_)
          first | refine AK.then_ (hK19 _ _ (q + 1) (by omega) (by omega) (slr) (fun w hw => by rw [← ded_new zero7 (by omega) hx]; exact hw.pick [0, 1, 2, 3] (by decide) rfl rfl)) | refine AK.then_ (hK19 _ _ (q + 1) (by omega) (by omega) (slr) (fun w hw => by rw [ded_old zero7 (by omega) (by assumption)]; exact hw.pick [0, 1, 2, 3] (by decide) rfl rfl))
      ·refine .exit (.then_exit (.then_exit (.block_exit ?_)))
       refine AK.then_ (hK17 _ ?_)
       refine .seq fun _ hK36 => ?_
       refine .sr fun _ hK37 => ?_
       refine .mv rfl ?_
       refine .v (.lenM mp112 rfl msp) ?_
       refine .mv rfl ?_
       refine .v (.eql rfl rfl) ?_
       refine .nt hK37 ?_
       refine AK.condD rfl (fun hc6 => ?_) (fun hc6 => ?_)
       ·have hqe : q = d.fin.length := by omega
        have hsl := sgs7_len d x.2
        have hcn := sgs7_can hv x.2
        have hnl := numM_len (ded ((sgs7 d x.2).take q))
        rw [hqe, ← hsl, List.take_length] at hc6 hnl
        refine .sr fun _ hK38 => ?_
        refine .mv rfl (.as rfl (.nt hK38 (.ret (.then_ret (.block_ret (.then_ret (.block_ret ?_)))))))
        refine AK.ret1 rfl rfl (fun w hw => ⟨_, _, ?_, rfl, Ret.of (hw.pick [3] (by decide) rfl rfl)⟩)
        obtain ⟨kk, hkk⟩ := hg1.1
        have e := cls_stop hv hkk (by omega)
        refine ⟨smv1, ?_⟩
        rw [show ClsV d = clsD d from if_pos hv, cls_len, hqe, Nat.sub_self, List.replicate_zero, List.append_nil, ← hsl, List.take_length, hcn.1, e, hsl]
        rfl
       ·have hqe : q = d.fin.length := by omega
        have hsl := sgs7_len d x.2
        have hcn := sgs7_can hv x.2
        have hnl := numM_len (ded ((sgs7 d x.2).take q))
        rw [hqe, ← hsl, List.take_length] at hc6 hnl
        obtain ⟨kk, hkk⟩ := hg1.1
        have hmo := cls_more hv hkk (by omega)
        refine .skip ?_
        refine AK.then_ (hK36 _ ?_)
        refine AK.region ?_
        refine .mv rfl (.mv rfl ?_)
        refine .v (.lenM mp112 rfl msp) ?_
        refine .as rfl (.as rfl (.nil (.block_normal ?_)))
        refine AK.then_ (hK14 _ _ ((mv1, canN (sigs d x.2))) ⟨⟨kk + 1, hkk.next hv⟩, smv1⟩ (by dsimp only; omega) (.cons (rfl) (.cons (slI rfl (by dsimp only; rw [ded_canN, ← hcn.2, numM_len, hqe, ← hsl, List.take_length])) (slr))) (fun w hw => by rw [hqe, Nat.sub_self, List.replicate_zero, List.append_nil, ← hsl, List.take_length, hcn.1, hsl] at hw; exact hw.pick [0, 3] (by decide) rfl rfl))

end Go.Proofs.Ytaeojcaidcjnaaa
