import Derived.Test.YtaeojcaidcjnaaaXE2
import Derived.Test.YtaeojcaidcjnaaaXD8
import Derived.Test.YtaeojcaidcjnaaaXS2
set_option linter.unusedVariables false
set_option linter.unusedSimpArgs false
namespace Go.Proofs.Ytaeojcaidcjnaaa
open Go.Sx Go.RowKit
theorem numT_all {d : Dfa} (hv : VD d) {q : Int} (hq : InR d q) : (numT d).getD q.toNat 0 = if q ∈ TSt d then ((posN (TSt d) q : Nat) : Int) else -1 := by
  obtain ⟨h1, h2, h3, h4⟩ := TSt_ok hv
  unfold numT
  rw [numK_get h1 h2 _ (Nat.le_refl _) q hq]
  by_cases hm : q ∈ TSt d
  · rw [if_pos hm, if_pos (posN_lt hm)]
  · rw [if_neg hm, if_neg (by rw [posN_not hm]; omega)]
theorem set_mid {α : Type} (f : α → Value) (A B : List α) (z c : α) {n : Nat} (hn : A.length = n) : (((A ++ [z]) ++ B).map f).set n (f c) = ((A ++ [c]) ++ B).map f := by
  subst hn
  rw [← List.map_set, List.set_append_left _ _ (by simp), List.set_append_right _ _ (Nat.le_refl _), Nat.sub_self]; rfl
theorem rowC_len {d : Dfa} (hv : VD d) {q : Nat} (hq : q < d.fin.length) : (rowC d q).length = d.L.toNat := by
  have := hv.row q hq
  unfold rowC; rw [List.length_map]; omega
theorem rowC_fill {d : Dfa} (hv : VD d) {q : Nat} (hq : q < d.fin.length) {x : Nat} (hx : x < d.L.toNat) :
    (((rowC d q).take x ++ List.replicate (d.L.toNat - x) 0).map (Value.int .i64)).set x (.int .i64 ((clsD d).getD ((d.nx.getD q []).getD x 0).toNat 0)) = ((rowC d q).take (x + 1) ++ List.replicate (d.L.toNat - (x + 1)) 0).map (Value.int .i64) := by
  have hl := rowC_len hv hq
  rw [take_snocD 0 (rowC d q) x (by omega), rowC_get hv hq (by omega)]
  exact fill_set (Value.int .i64) _ 0 _ d.L.toNat x (by rw [List.length_take]; omega) hx
set_option maxHeartbeats 4000000 in
set_option maxRecDepth 100000 in
theorem s_minimal (w : World) (v : Value) (d : Dfa) (h : RdD (fun _ => False) w v d) (hv : VD d) : CallS Try.prog 59 [v] w (fun r o => ∃ (vF vN vS : Value) (rs : List Value), r = .tuple #[.agg #[.int .i64 (minD d).L, .int .i64 (minD d).s, vF, vN], vS] ∧ rs.length = (minD d).nx.length ∧ IsSl vF ∧ IsSl vN ∧ IsSl vS ∧ o = dfaO 4 3 74 vF vN rs (minD d) ++ [row vS 3 1 (mapM d).length ((mapM d).map (Value.int .i64))]) := by
 have h0 := h
 obtain ⟨vF, vN, rfl, hF, hN⟩ := h
 have hF0 := hF
 have hN0 := hN
 obtain ⟨rs, hrl, hNr, hNi⟩ := hN
 have sF := hF.sl
 have sN := hNr.sl
 have hmf := hF.le
 have hmn := hNr.le
 unfold RdL at hF
 have hL := hv.L
 have hn5 := hv.n
 have hTe : TrimV d = trimD d := if_pos hv
 have hNe : NumV d = numT d := if_pos hv
 have hT := trim_vd hv
 have hTnx := hT.nx
 have hTn5 := hT.n
 have hcl := cls_len (trimD d)
 have hcan := cls_can hT
 have hCe : ClsV (trimD d) = (clsD (trimD d)) := if_pos hT
 have hQ := quo_vd hT
 have hqs : (quoD (trimD d)).s = 0 := by
  have h1 := can_at hcan (k := 0) (by have := hT.s; omega)
  exact h1.trans (by simp [ded, posN])
 have hQe : TrimV (quoD (trimD d)) = minD d := (if_pos hQ).trans (min_trim hv)
 have hQn : NumV (quoD (trimD d)) = numT (quoD (trimD d)) := if_pos hQ
 have hnt : (numT d).length = d.fin.length := numK_len _ _ _
 have hTL : (trimD d).L = d.L := rfl
 refine spec_of Try.func59 rfl (Nat.le_of_ble_eq_true rfl) ?_
 refine .sr fun _ hK1 => ?_
 refine AK.box_ (E := 36) (cs := [.int .i64 d.L, .int .i64 d.s, vF, vN]) rfl rfl rfl trivial rfl (fun bx1 => ?_)
 refine AK.alloc el36 rfl rfl trivial rfl (fun bx2 => ?_)
 refine .as rfl (.nt hK1 ?_)
 refine .sr fun _ hK2 => ?_
 refine .v (.loadBoxG ag36 rfl bsp rfl rfl) ?_
 refine AK.call co71 rfl (fun w hw => s_trim w _ d (h0.at hw)) trivial rfl ?_
 rintro r o ⟨tF, tN, tM, trs, rfl, htrs, stF, stN, stM, rfl⟩
 rw [hTe] at htrs
 rw [hTe, hNe]
 refine .mv rfl ?_
 refine .v (.extract rfl rfl) ?_
 refine .v (.extract rfl rfl) ?_
 refine AK.alloc el36 rfl rfl trivial rfl (fun bx4 => ?_)
 refine AK.storeBox 6 (us := [.int .i64 (trimD d).L, .int .i64 (trimD d).s, tF, tN]) (cs' := [.int .i64 (trimD d).L, .int .i64 (trimD d).s, tF, tN]) rfl sz36 rfl rfl rfl rfl oneP (Nat.le_of_ble_eq_true rfl) rfl trivial ?_
 refine .as rfl (.nt hK2 ?_)
 refine .sr fun _ hK3 => ?_
 refine .v (.loadBoxG ag36 rfl bsp rfl rfl) ?_
 refine AK.call co72 rfl (fun w hw => s_classes w _ (trimD d) (RdD.own 2 hw htrs rfl rfl rfl)) trivial rfl ?_
 rintro cv o ⟨scv, rfl⟩
 rw [hCe]
 refine .as rfl (.nt hK3 ?_)
 refine .sr fun _ hK4 => ?_
 refine .v (.fieldAddr fd36_0 rfl) ?_
 refine .v (.loadBox on3 rfl bsp rfl) ?_
 refine .v (.build (parts := [(0, .tmp 26)]) (cs := #[.int .i64 d.L, .int .i64 0, .slice none 0 0, .slice none 0 0]) rfl (by kernel_rfl)) ?_
 refine AK.alloc el36 rfl rfl trivial rfl (fun bx7 => ?_)
 refine AK.storeBox 8 (us := [.int .i64 d.L, .int .i64 0, .slice none 0 0, .slice none 0 0]) (cs' := [.int .i64 d.L, .int .i64 0, .slice none 0 0, .slice none 0 0]) rfl sz36 rfl rfl rfl rfl oneP (Nat.le_of_ble_eq_true rfl) rfl trivial ?_
 refine .nt hK4 ?_
 refine .seq fun _ hK5 => ?_
 refine .sr fun _ hK6 => ?_
 refine .mv rfl ?_
 refine .v (.lenR sl74 rfl (by first | exact rdp | exact (RdS.big 4 _ rfl (matG_get htrs (by omega))))) ?_
 refine .mv rfl (.nt hK6 (.block ?_))
 refine AK.loopK (X := Nat × Value × Value × List Value) [(1, _), (2, _), (4, _), (5, _), (6, _), (7, _), (28, _), (29, _)] (fun x => [(30, .int .i64 (x.1 : Int))]) (fun x => [box bx1 36 4 [.int .i64 d.L, .int .i64 d.s, vF, vN], box bx2 36 4 [.int .i64 0, .int .i64 0, .slice none 0 0, .slice none 0 0], row tF 4 1 (trimD d).fin.length ((trimD d).fin.map Value.bool), row tN 74 1 (trimD d).nx.length trs, bigA (matG (Value.int .i64) 3 trs (trimD d).nx), row tM 3 1 (numT d).length ((numT d).map (Value.int .i64)), box bx4 36 4 [.int .i64 (trimD d).L, .int .i64 (trimD d).s, tF, tN], row cv 3 1 (clsD (trimD d)).length ((clsD (trimD d)).map (Value.int .i64)), box bx7 36 4 [.int .i64 d.L, .int .i64 0, x.2.1, x.2.2.1], row x.2.1 4 1 ((fstK (clsD (trimD d)) x.1).map fun q => (trimD d).fin.getD q false).length (((fstK (clsD (trimD d)) x.1).map fun q => (trimD d).fin.getD q false).map Value.bool), row x.2.2.1 74 1 ((fstK (clsD (trimD d)) x.1).map (rowC (trimD d))).length x.2.2.2, bigA (matG (Value.int .i64) 3 x.2.2.2 ((fstK (clsD (trimD d)) x.1).map (rowC (trimD d))))]) (fun x => x.1 ≤ (clsD (trimD d)).length ∧ x.2.2.2.length = ((fstK (clsD (trimD d)) x.1).map (rowC (trimD d))).length ∧ IsSl x.2.1 ∧ IsSl x.2.2.1) (fun x => (clsD (trimD d)).length - x.1) ((0, .slice none 0 0, .slice none 0 0, [])) slr ?_ ?_ ?_ ?_
 ·exact ⟨Nat.zero_le _, rfl, nilSl, nilSl⟩
 ·exact slr
 ·exact fun w hw => by have h1 := ((hw.ghostG (f := Value.int .i64) 3).ghost 4 1).ghost 74 1; exact h1.pick [0, 1, 2, 3, 4, 5, 6, 7, 8, 10, 11, 9] (by decide) rfl rfl
 ·intro x hg0 _ hK7
  have hsF := hg0.2.2.1
  have hsN := hg0.2.2.2
  refine .sr fun _ hK8 => ?_
  refine .v (.lss rfl rfl) ?_
  refine .nt hK8 ?_
  refine .seq fun _ hK9 => ?_
  refine AK.condD rfl (fun hc0 => ?_) (fun hc0 => ?_)
  ·have hqT : x.1 < (trimD d).fin.length := by omega
   have hgl : ((fstK (clsD (trimD d)) x.1).map fun q => (trimD d).fin.getD q false).length = (fstK (clsD (trimD d)) x.1).length := List.length_map ..
   have hnl : ((fstK (clsD (trimD d)) x.1).map (rowC (trimD d))).length = (fstK (clsD (trimD d)) x.1).length := List.length_map ..
   have hfl := fstK_le hcan (k := x.1) (by omega)
   have hrw := hT.row x.1 hqT
   have hfb := fstK_bd (clsD (trimD d)) x.1
   refine .skip ?_
   refine AK.then_ (hK9 _ ?_)
   refine .seq fun _ hK10 => ?_
   refine .block ?_
   refine .sr fun _ hK11 => ?_
   refine .mv rfl ?_
   first | refine .v (.iN sl74 rfl rfl (hr := (by first | exact rdp | exact (RdS.big 4 _ rfl (matG_get htrs (by omega)))))) ?_ | refine .v (.iK sl74 rfl rfl (hr := (by first | exact rdp | exact (RdS.big 4 _ rfl (matG_get htrs (by omega)))))) ?_
   refine .v (.loadI on3 rfl (by first | exact rdp | exact (RdS.big 4 _ rfl (matG_get htrs (by omega)))) (by omega)) ?_
   refine .as rfl (.as rfl (.nt hK11 ?_))
   refine .seq fun _ hK12 => ?_
   refine .sr fun _ hK13 => ?_
   refine .mv rfl ?_
   refine .v (.fieldAddr fd36_2 rfl) ?_
   refine .v (.loadBox on33 rfl bsp rfl) ?_
   refine .v (.lenR sl33 rfl (by first | exact rdp | exact (RdS.big 4 _ rfl (matG_get htrs (by omega))))) ?_
   refine .v (.lss rfl rfl) ?_
   refine .nt hK13 ?_
   refine AK.condD rfl (fun hc1 => ?_) (fun hc1 => ?_)
   ·refine .exit (.then_exit (.block_exit ?_))
    refine AK.then_ (hK10 _ ?_)
    refine AK.region ?_
    refine .v (.add rfl rfl (by omega)) ?_
    refine .mv rfl (.nil ?_)
    first | refine AK.then_ (hK7 _ _ ((x.1 + 1, z, vn2, x.2.2.2 ++ [mv1])) ⟨by dsimp only; omega, by dsimp only; rw [fstK_new hc1']; simp [hg0.2.1], hg, hn2⟩ (by dsimp only; omega) (slr) (fun w hw => by
  dsimp only
  have e0 : y = (trimD d).L.toNat := (by omega)
  have e5 := rowC_len hT hqT
  rw [e0, Nat.sub_self, List.replicate_zero, List.append_nil, ← e5, List.take_length, e5, smv1.cells] at hw
  have e1 : ((fstK (clsD (trimD d)) (x.1 + 1)).map fun q => (trimD d).fin.getD q false).map Value.bool = ((fstK (clsD (trimD d)) x.1).map fun q => (trimD d).fin.getD q false).map Value.bool ++ [Value.bool ((trimD d).fin.getD x.1 false)].flatMap (·.cells.toList) := (by rw [fstK_new hc1']; simp [Value.cells])
  have e2 : ((fstK (clsD (trimD d)) (x.1 + 1)).map (rowC (trimD d))) = ((fstK (clsD (trimD d)) x.1).map (rowC (trimD d))) ++ [rowC (trimD d) x.1] := (by rw [fstK_new hc1', List.map_append]; rfl)
  have e3 : ((fstK (clsD (trimD d)) (x.1 + 1)).map fun q => (trimD d).fin.getD q false).length = ((fstK (clsD (trimD d)) x.1).map fun q => (trimD d).fin.getD q false).length + 1 := (by rw [fstK_new hc1']; simp)
  rw [e1, e3, e2, matG_snoc hg0.2.1, List.length_append]
  rw [← e5] at hw
  exact HW.absorb (own := [_, _, _, _, _, _, _, _, _, _, _, _]) 11 rfl hw)) | refine AK.then_ (hK7 _ _ ((x.1 + 1, x.2)) ⟨by dsimp only; omega, by dsimp only; rw [fstK_skip (by omega)]; exact hg0.2.1, hsF, hsN⟩ (by dsimp only; omega) (slr) (fun w hw => by dsimp only; rw [fstK_skip (by omega)]; exact hw))
   ·have hc1' : ¬ (clsD (trimD d)).getD x.1 0 < ((fstK (clsD (trimD d)) x.1).length : Int) := by omega
    refine .skip ?_
    refine AK.then_ (hK12 _ ?_)
    refine .sr fun _ hK14 => ?_
    refine .v (.fieldAddr fd36_0 rfl) ?_
    refine .v (.loadBox on3 rfl bsp rfl) ?_
    refine AK.make1Z sl74 el3 rfl rfl rfl (by omega) (by omega) (by omega) trivial rfl (fun mv1 => ?_)
    refine AK.shape 12 rfl (fun smv1 => ?_)
    refine .as rfl (.nt hK14 ?_)
    refine .seq fun _ hK15 => ?_
    refine .sr fun _ hK16 => ?_
    refine .v (.fieldAddr fd36_3 rfl) ?_
    refine .v (.loadBox on34 rfl bsp rfl) ?_
    refine .mv rfl ?_
    first | refine .v (.iN sl34 rfl rfl (hr := (by first | exact rdp | exact (RdS.big 4 _ rfl (matG_get htrs (by omega)))))) ?_ | refine .v (.iK sl34 rfl rfl (hr := (by first | exact rdp | exact (RdS.big 4 _ rfl (matG_get htrs (by omega)))))) ?_
    refine .v (.loadV on74 rfl (by first | exact rdp | exact (RdS.big 4 _ rfl (matG_get htrs (by omega)))) (by omega)) ?_
    refine .v (.lenR sl74 rfl (by first | exact rdp | exact (RdS.big 4 _ rfl (matG_get htrs (by omega))))) ?_
    refine .mv rfl (.nt hK16 (.block ?_))
    refine AK.loopK (X := Nat) [(1, _), (2, _), (4, _), (5, _), (6, _), (7, _), (8, _), (10, _), (28, _), (29, _), (30, _), (47, _), (48, _)] (fun y => [(49, .int .i64 (y : Int))]) (fun y => [box bx1 36 4 [.int .i64 d.L, .int .i64 d.s, vF, vN], box bx2 36 4 [.int .i64 0, .int .i64 0, .slice none 0 0, .slice none 0 0], row tF 4 1 (trimD d).fin.length ((trimD d).fin.map Value.bool), row tN 74 1 (trimD d).nx.length trs, bigA (matG (Value.int .i64) 3 trs (trimD d).nx), row tM 3 1 (numT d).length ((numT d).map (Value.int .i64)), box bx4 36 4 [.int .i64 (trimD d).L, .int .i64 (trimD d).s, tF, tN], row cv 3 1 (clsD (trimD d)).length ((clsD (trimD d)).map (Value.int .i64)), box bx7 36 4 [.int .i64 d.L, .int .i64 0, x.2.1, x.2.2.1], row x.2.1 4 1 ((fstK (clsD (trimD d)) x.1).map fun q => (trimD d).fin.getD q false).length (((fstK (clsD (trimD d)) x.1).map fun q => (trimD d).fin.getD q false).map Value.bool), row x.2.2.1 74 1 ((fstK (clsD (trimD d)) x.1).map (rowC (trimD d))).length x.2.2.2, bigA (matG (Value.int .i64) 3 x.2.2.2 ((fstK (clsD (trimD d)) x.1).map (rowC (trimD d)))), row mv1 3 1 (trimD d).L.toNat (((rowC (trimD d) x.1).take y ++ List.replicate ((trimD d).L.toNat - y) 0).map (Value.int .i64))]) (fun y => y ≤ (trimD d).L.toNat) (fun y => (trimD d).L.toNat - y) (0) slr ?_ ?_ ?_ ?_
    ·exact Nat.zero_le _
    ·exact slr
    ·exact fun w hw => by have e : (((rowC (trimD d) x.1).take 0 ++ List.replicate ((trimD d).L.toNat - 0) 0).map (Value.int .i64)) = List.replicate d.L.toNat (Value.int .i64 0) := (by simp [hTL]); rw [e]; exact hw
    ·intro y hg1 _ hK17
     refine .sr fun _ hK18 => ?_
     refine .v (.lss rfl rfl) ?_
     refine .nt hK18 ?_
     refine .seq fun _ hK19 => ?_
     refine AK.condD rfl (fun hc2 => ?_) (fun hc2 => ?_)
     ·have hto := hT.to x.1 y hqT (by omega)
      refine .skip ?_
      refine AK.then_ (hK19 _ ?_)
      refine .seq fun _ hK20 => ?_
      refine .block ?_
      refine .sr fun _ hK21 => ?_
      refine .mv rfl ?_
      first | refine .v (.iN sl74 rfl rfl (hr := (by first | exact rdp | exact (RdS.big 4 _ rfl (matG_get htrs (by omega)))))) ?_ | refine .v (.iK sl74 rfl rfl (hr := (by first | exact rdp | exact (RdS.big 4 _ rfl (matG_get htrs (by omega)))))) ?_
      refine .v (.loadI on3 rfl (by first | exact rdp | exact (RdS.big 4 _ rfl (matG_get htrs (by omega)))) (by omega)) ?_
      refine .as rfl (.as rfl (.nt hK21 ?_))
      refine AK.region ?_
      refine .mv rfl (.mv rfl (.mv rfl (.mv rfl ?_)))
      first | refine .v (.iN sl74 rfl rfl (hr := (by first | exact rdp | exact (RdS.big 4 _ rfl (matG_get htrs (by omega)))))) ?_ | refine .v (.iK sl74 rfl rfl (hr := (by first | exact rdp | exact (RdS.big 4 _ rfl (matG_get htrs (by omega)))))) ?_
      refine .v (.loadI on3 rfl (by first | exact rdp | exact (RdS.big 4 _ rfl (matG_get htrs (by omega)))) (by omega)) ?_
      first | refine .v (.iN sl74 rfl rfl (hr := (by first | exact rdp | exact (RdS.big 4 _ rfl (matG_get htrs (by omega)))))) ?_ | refine .v (.iK sl74 rfl rfl (hr := (by first | exact rdp | exact (RdS.big 4 _ rfl (matG_get htrs (by omega)))))) ?_
      refine AK.store1e 12 rfl sz3 rfl rfl rfl rfl (by omega) (cs' := (((rowC (trimD d) x.1).take (y + 1) ++ List.replicate ((trimD d).L.toNat - (y + 1)) 0).map (Value.int .i64))) (by exact rowC_fill hT hqT (by omega)) trivial ?_
      refine .nil (.block_normal ?_)
      refine AK.then_ (hK20 _ ?_)
      refine AK.region ?_
      refine .v (.add rfl rfl (by omega)) ?_
      refine .mv rfl (.nil ?_)
      refine AK.then_ (hK17 _ _ (y + 1) (by omega) (by omega) (slr) (fun w hw => hw))
     ·refine .exit (.then_exit (.then_exit (.block_exit ?_)))
      refine AK.then_ (hK15 _ ?_)
      refine .seq fun _ hK22 => ?_
      refine AK.joinK (X := Value) [(1, _), (2, _), (4, _), (5, _), (6, _), (7, _), (10, _), (28, _), (29, _), (30, _)] (fun z => []) (fun z => [box bx1 36 4 [.int .i64 d.L, .int .i64 d.s, vF, vN], box bx2 36 4 [.int .i64 0, .int .i64 0, .slice none 0 0, .slice none 0 0], row tF 4 1 (trimD d).fin.length ((trimD d).fin.map Value.bool), row tN 74 1 (trimD d).nx.length trs, bigA (matG (Value.int .i64) 3 trs (trimD d).nx), row tM 3 1 (numT d).length ((numT d).map (Value.int .i64)), box bx4 36 4 [.int .i64 (trimD d).L, .int .i64 (trimD d).s, tF, tN], row cv 3 1 (clsD (trimD d)).length ((clsD (trimD d)).map (Value.int .i64)), box bx7 36 4 [.int .i64 d.L, .int .i64 0, z, x.2.2.1], row z 4 1 (((fstK (clsD (trimD d)) x.1).map fun q => (trimD d).fin.getD q false).length + 1) (((fstK (clsD (trimD d)) x.1).map fun q => (trimD d).fin.getD q false).map Value.bool ++ [Value.bool ((trimD d).fin.getD x.1 false)].flatMap (·.cells.toList)), row x.2.2.1 74 1 ((fstK (clsD (trimD d)) x.1).map (rowC (trimD d))).length x.2.2.2, bigA (matG (Value.int .i64) 3 x.2.2.2 ((fstK (clsD (trimD d)) x.1).map (rowC (trimD d)))), row mv1 3 1 (trimD d).L.toNat (((rowC (trimD d) x.1).take y ++ List.replicate ((trimD d).L.toNat - y) 0).map (Value.int .i64))]) (fun z => IsSl z) slr (fun _ hJ => ?_) (fun z hg => ?_)
      ·try (conv => enter [2, 2]; dsimp only [List.set_cons_zero, List.set_cons_succ, List.cons_append, List.nil_append])
       refine AK.held 10 mixed ?_
       refine HeldK.first 0 (fuel := 10) (listed' := (lb 11 1)) _ rfl krf krf rfl (Yl.fieldAddr fd36_2 rfl) trivial rfl ?_
       refine HeldK.first 1 (fuel := 9) (listed' := (lb 11 3)) _ rfl krf krf rfl (Yl.loadBox on33 rfl bsp rfl) trivial rfl ?_
       refine HeldK.first 2 (fuel := 8) (listed' := (lb 11 7)) _ rfl krf krf rfl (Yl.fieldAddr fd36_2 rfl) trivial rfl ?_
       refine HeldK.first 3 (fuel := 7) (listed' := (lb 11 15)) _ rfl krf krf rfl (Yl.loadBox on33 rfl bsp rfl) trivial rfl ?_
       refine HeldK.first 4 (fuel := 6) (listed' := (lb 11 31)) _ rfl krf krf rfl (Yl.move rfl) trivial rfl ?_
       first | refine HeldK.first 5 (fuel := 5) (listed' := (lb 11 63)) _ rfl krf krf rfl (.iN sl33 rfl rfl (hr := (by first | exact rdp | exact (RdS.big 4 _ rfl (matG_get htrs (by omega)))))) trivial rfl ?_ | refine HeldK.first 5 (fuel := 5) (listed' := (lb 11 63)) _ rfl krf krf rfl (.iK sl33 rfl rfl (hr := (by first | exact rdp | exact (RdS.big 4 _ rfl (matG_get htrs (by omega)))))) trivial rfl ?_
       refine HeldK.first 6 (fuel := 4) (listed' := (lb 11 127)) _ rfl krf krf rfl (Yl.loadB on4 rfl (by first | exact rdp | exact (RdS.big 4 _ rfl (matG_get htrs (by omega)))) (by omega)) trivial rfl ?_
       refine HeldK.one 7 (fuel := 3) (listed' := (lb 11 255)) krf rfl krf ?_
       refine AK.lit (xs := [.tmp 68]) sl33 el4 rfl rfl rfl (by intro a ha; simp at ha; subst ha; rfl) (by decide) (by decide) trivial rfl (fun t2 => ?_)
       refine .nil ?_
       try (conv => enter [2, 2]; dsimp only [List.set_cons_zero, List.set_cons_succ, List.cons_append, List.nil_append])
       refine HeldK.back Go.Sx.hle ?_
       refine HeldK.one 8 (fuel := 2) (listed' := (lb 11 511)) krf rfl krf ?_
       refine AK.appendH 9 rfl sl33 el4 rfl (by decide) rfl rfl rfl (by first | exact rdp | exact (RdS.big 4 _ rfl (matG_get htrs (by omega)))) oneP (by omega) (by omega) trivial rfl (fun vf2 hf2 => ?_)
       refine .nil ?_
       try (conv => enter [2, 2]; dsimp only [List.set_cons_zero, List.set_cons_succ, List.cons_append, List.nil_append])
       refine HeldK.back Go.Sx.hle ?_
       refine HeldK.first 9 (fuel := 1) (listed' := (lb 11 1023)) _ rfl krf krf rfl (Yl.fieldAddr fd36_2 rfl) trivial rfl ?_
       refine HeldK.one 10 (fuel := 0) (listed' := (lb 11 2047)) krf rfl krf ?_
       refine AK.storeBox 8 (us := [vf2]) (cs' := [.int .i64 d.L, .int .i64 0, vf2, x.2.2.1]) rfl sz33 rfl rfl (by rw [IsSl.cells (by assumption)]) rfl oneP (Nat.le_of_ble_eq_true rfl) rfl trivial ?_
       refine .nil ?_
       try (conv => enter [2, 2]; dsimp only [List.set_cons_zero, List.set_cons_succ, List.cons_append, List.nil_append])
       refine HeldK.backN 11 krf rfl krf ?_
       refine .nil ?_
       refine AK.fromQn ?_
       exact hJ _ _ (vf2) hf2 (slr) (fun w hw => by first | exact hw.pickLe [0, 1, 2, 3, 4, 5, 6, 7, 8, 9, 10, 11, 12] (by decide) pkl)
      ·skip
       refine AK.then_ (hK22 _ ?_)
       refine AK.region ?_
       refine .v (.fieldAddr fd36_3 rfl) ?_
       refine .v (.loadBox on34 rfl bsp rfl) ?_
       refine .mv rfl ?_
       refine AK.append1 10 rfl sl34 el74 rfl (by decide) rfl (by intro k hk; cases hk; rfl) (by rw [smv1.cells]; rfl) (by rw [smv1.cells]; exact one'_cons smv1.one one'_nil) (by omega) (by omega) (by decide) rfl rfl (fun vn2 _ hn2 => ?_)
       refine .v (.fieldAddr fd36_3 rfl) ?_
       refine AK.storeBox 8 (us := [vn2]) (cs' := [.int .i64 d.L, .int .i64 0, z, vn2]) rfl sz34 rfl rfl (by rw [IsSl.cells (by assumption)]) rfl oneP (Nat.le_of_ble_eq_true rfl) rfl trivial ?_
       refine .nil (.block_normal ?_)
       refine AK.then_ (hK10 _ ?_)
       refine AK.region ?_
       refine .v (.add rfl rfl (by omega)) ?_
       refine .mv rfl (.nil ?_)
       first | refine AK.then_ (hK7 _ _ ((x.1 + 1, z, vn2, x.2.2.2 ++ [mv1])) ⟨by dsimp only; omega, by dsimp only; rw [fstK_new hc1']; simp [hg0.2.1], hg, hn2⟩ (by dsimp only; omega) (slr) (fun w hw => by
  dsimp only
  have e0 : y = (trimD d).L.toNat := (by omega)
  have e5 := rowC_len hT hqT
  rw [e0, Nat.sub_self, List.replicate_zero, List.append_nil, ← e5, List.take_length, e5, smv1.cells] at hw
  have e1 : ((fstK (clsD (trimD d)) (x.1 + 1)).map fun q => (trimD d).fin.getD q false).map Value.bool = ((fstK (clsD (trimD d)) x.1).map fun q => (trimD d).fin.getD q false).map Value.bool ++ [Value.bool ((trimD d).fin.getD x.1 false)].flatMap (·.cells.toList) := (by rw [fstK_new hc1']; simp [Value.cells])
  have e2 : ((fstK (clsD (trimD d)) (x.1 + 1)).map (rowC (trimD d))) = ((fstK (clsD (trimD d)) x.1).map (rowC (trimD d))) ++ [rowC (trimD d) x.1] := (by rw [fstK_new hc1', List.map_append]; rfl)
  have e3 : ((fstK (clsD (trimD d)) (x.1 + 1)).map fun q => (trimD d).fin.getD q false).length = ((fstK (clsD (trimD d)) x.1).map fun q => (trimD d).fin.getD q false).length + 1 := (by rw [fstK_new hc1']; simp)
  rw [e1, e3, e2, matG_snoc hg0.2.1, List.length_append]
  rw [← e5] at hw
  exact HW.absorb (own := [_, _, _, _, _, _, _, _, _, _, _, _]) 11 rfl hw)) | refine AK.then_ (hK7 _ _ ((x.1 + 1, x.2)) ⟨by dsimp only; omega, by dsimp only; rw [fstK_skip (by omega)]; exact hg0.2.1, hsF, hsN⟩ (by dsimp only; omega) (slr) (fun w hw => by dsimp only; rw [fstK_skip (by omega)]; exact hw))
  ·have hqe : fstK (clsD (trimD d)) x.1 = firsts (trimD d) := by rw [show x.1 = (trimD d).fin.length by omega]; rfl
   have hrsl := hg0.2.1
   rw [hqe] at hrsl
   rw [hqe]
   refine AK.own' [box bx1 36 4 [.int .i64 d.L, .int .i64 d.s, vF, vN], box bx2 36 4 [.int .i64 0, .int .i64 0, .slice none 0 0, .slice none 0 0], row tF 4 1 (trimD d).fin.length ((trimD d).fin.map Value.bool), row tN 74 1 (trimD d).nx.length trs, bigA (matG (Value.int .i64) 3 trs (trimD d).nx), row tM 3 1 (numT d).length ((numT d).map (Value.int .i64)), box bx4 36 4 [.int .i64 (trimD d).L, .int .i64 (trimD d).s, tF, tN], row cv 3 1 (clsD (trimD d)).length ((clsD (trimD d)).map (Value.int .i64)), box bx7 36 4 [.int .i64 d.L, .int .i64 0, x.2.1, x.2.2.1], row x.2.1 4 1 (quoD (trimD d)).fin.length ((quoD (trimD d)).fin.map Value.bool), row x.2.2.1 74 1 (quoD (trimD d)).nx.length x.2.2.2, bigA (matG (Value.int .i64) 3 x.2.2.2 (quoD (trimD d)).nx)] (fun w hw => hw) ?_
   refine .exit (.then_exit (.then_exit (.block_exit ?_)))
   refine AK.then_ (hK5 _ ?_)
   refine .sr fun _ hK23 => ?_
   refine .v (.loadBoxG ag36 rfl bsp rfl rfl) ?_
   refine AK.call co71 rfl (fun w hw => (by have h := s_trim w _ (quoD (trimD d)) (RdD.own 9 hw hrsl rfl rfl rfl); rw [hqs] at h; exact h)) trivial rfl ?_
   rintro r o ⟨mF, mN, mM, mrs, rfl, hmrs, smF, smN, smM, rfl⟩
   rw [hQe] at hmrs
   rw [hQe, hQn]
   refine .mv rfl ?_
   refine .v (.extract rfl rfl) ?_
   refine .v (.extract rfl rfl) ?_
   refine AK.alloc el36 rfl rfl trivial rfl (fun bx13 => ?_)
   refine AK.storeBox 16 (us := [.int .i64 (minD d).L, .int .i64 (minD d).s, mF, mN]) (cs' := [.int .i64 (minD d).L, .int .i64 (minD d).s, mF, mN]) rfl sz36 rfl rfl rfl rfl oneP (Nat.le_of_ble_eq_true rfl) rfl trivial ?_
   refine .as rfl (.nt hK23 ?_)
   refine .sr fun _ hK24 => ?_
   refine .mv rfl ?_
   refine .v (.lenR sl74 rfl (by first | exact rdp | exact (RdS.big 4 _ rfl (matG_get htrs (by omega))))) ?_
   refine AK.make1 (n := (numT d).length) sl74 el3 rfl rfl rfl (by omega) (by omega) trivial rfl (fun mv2 => ?_)
   refine AK.shape 17 rfl (fun smv2 => ?_)
   refine .as rfl (.nt hK24 ?_)
   refine .seq fun _ hK25 => ?_
   refine .sr fun _ hK26 => ?_
   refine .mv rfl ?_
   refine .v (.lenR sl74 rfl (by first | exact rdp | exact (RdS.big 4 _ rfl (matG_get htrs (by omega))))) ?_
   refine .mv rfl (.nt hK26 (.block ?_))
   refine AK.loopK (X := Nat) [(2, _), (6, _), (13, _), (14, _), (15, _), (87, _), (88, _)] (fun q => [(89, .int .i64 (q : Int))]) (fun q => [box bx1 36 4 [.int .i64 d.L, .int .i64 d.s, vF, vN], box bx2 36 4 [.int .i64 0, .int .i64 0, .slice none 0 0, .slice none 0 0], row tF 4 1 (trimD d).fin.length ((trimD d).fin.map Value.bool), row tN 74 1 (trimD d).nx.length trs, bigA (matG (Value.int .i64) 3 trs (trimD d).nx), row tM 3 1 (numT d).length ((numT d).map (Value.int .i64)), box bx4 36 4 [.int .i64 (trimD d).L, .int .i64 (trimD d).s, tF, tN], row cv 3 1 (clsD (trimD d)).length ((clsD (trimD d)).map (Value.int .i64)), box bx7 36 4 [.int .i64 d.L, .int .i64 0, x.2.1, x.2.2.1], row x.2.1 4 1 (quoD (trimD d)).fin.length ((quoD (trimD d)).fin.map Value.bool), row x.2.2.1 74 1 (quoD (trimD d)).nx.length x.2.2.2, bigA (matG (Value.int .i64) 3 x.2.2.2 (quoD (trimD d)).nx), row mF 4 1 (minD d).fin.length ((minD d).fin.map Value.bool), row mN 74 1 (minD d).nx.length mrs, bigA (matG (Value.int .i64) 3 mrs (minD d).nx), row mM 3 1 (numT (quoD (trimD d))).length ((numT (quoD (trimD d))).map (Value.int .i64)), box bx13 36 4 [.int .i64 (minD d).L, .int .i64 (minD d).s, mF, mN], row mv2 3 1 (numT d).length (((mapM d).take q ++ List.replicate (d.fin.length - q) 0).map (Value.int .i64))]) (fun q => q ≤ d.fin.length) (fun q => d.fin.length - q) (0) slr ?_ ?_ ?_ ?_
   ·exact Nat.zero_le _
   ·exact slr
   ·exact fun w hw => by have e : (((mapM d).take 0 ++ List.replicate (d.fin.length - 0) 0).map (Value.int .i64)) = List.replicate (numT d).length (Value.int .i64 0) := (by simp [hnt]); rw [e]; exact hw
   ·intro q hg2 _ hK27
    refine .sr fun _ hK28 => ?_
    refine .v (.lss rfl rfl) ?_
    refine .nt hK28 ?_
    refine .seq fun _ hK29 => ?_
    refine AK.condD rfl (fun hc3 => ?_) (fun hc3 => ?_)
    ·have hqn : q < d.fin.length := by omega
     have hml : (mapM d).length = d.fin.length := by simp [mapM]
     have hin : InR d (q : Int) := ⟨by omega, by omega⟩
     have hna := numT_all hv hin
     have hmg := mapM_get hin
     rw [Int.toNat_natCast] at hna hmg
     refine .skip ?_
     refine AK.then_ (hK29 _ ?_)
     refine .seq fun _ hK30 => ?_
     refine .block ?_
     refine .sr fun _ hK31 => ?_
     refine .mv rfl ?_
     first | refine .v (.iN sl74 rfl rfl (hr := (by first | exact rdp | exact (RdS.big 4 _ rfl (matG_get htrs (by omega)))))) ?_ | refine .v (.iK sl74 rfl rfl (hr := (by first | exact rdp | exact (RdS.big 4 _ rfl (matG_get htrs (by omega)))))) ?_
     refine .v (.loadI on3 rfl (by first | exact rdp | exact (RdS.big 4 _ rfl (matG_get htrs (by omega)))) (by omega)) ?_
     refine .as rfl (.as rfl (.nt hK31 ?_))
     refine .sr fun _ hK32 => ?_
     refine .mv rfl (.mv rfl ?_)
     first | refine .v (.iN sl74 rfl rfl (hr := (by first | exact rdp | exact (RdS.big 4 _ rfl (matG_get htrs (by omega)))))) ?_ | refine .v (.iK sl74 rfl rfl (hr := (by first | exact rdp | exact (RdS.big 4 _ rfl (matG_get htrs (by omega)))))) ?_
     refine AK.store1e 17 rfl sz3 rfl rfl rfl rfl (by omega) (cs' := ((((mapM d).take q ++ [-1]) ++ List.replicate (d.fin.length - (q + 1)) 0).map (Value.int .i64))) (by exact fill_set (Value.int .i64) _ 0 (-1) d.fin.length q (by rw [List.length_take]; omega) (by omega)) trivial ?_
     refine .nt hK32 ?_
     refine .sr fun _ hK33 => ?_
     refine .mv rfl ?_
     refine .v (.geq rfl rfl) ?_
     refine .nt hK33 ?_
     refine AK.condD rfl (fun hc4 => ?_) (fun hc4 => ?_)
     ·have hm : (q : Int) ∈ TSt d := by
       by_cases hm : (q : Int) ∈ TSt d
       ·exact hm
       ·rw [if_neg hm] at hna; omega
      rw [if_pos hm] at hna hmg
      have hpi := pos_inr hm
      have hpb := hpi.2
      have hqr := quo_reach hv hpi
      have hqb := tst_in hQ hqr
      have hqb1 := hqb.1
      have hqb2 := hqb.2
      have hqnl : (numT (quoD (trimD d))).length = (quoD (trimD d)).fin.length := numK_len _ _ _
      have hst : (mapM d).getD q 0 = (numT (quoD (trimD d))).getD ((clsD (trimD d)).getD ((numT d).getD q 0).toNat 0).toNat 0 := by
       rw [hmg, hna]; exact (numT_mem hQ hqr).symm
      have hcle : clsA (trimD d) ((posN (TSt d) (q : Int) : Nat) : Int) = (clsD (trimD d)).getD ((numT d).getD q 0).toNat 0 := by rw [hna]; rfl
      rw [hcle] at hqb1 hqb2
      refine AK.region ?_
      refine .mv rfl (.mv rfl (.mv rfl (.mv rfl (.mv rfl ?_))))
      first | refine .v (.iN sl74 rfl rfl (hr := (by first | exact rdp | exact (RdS.big 4 _ rfl (matG_get htrs (by omega)))))) ?_ | refine .v (.iK sl74 rfl rfl (hr := (by first | exact rdp | exact (RdS.big 4 _ rfl (matG_get htrs (by omega)))))) ?_
      refine .v (.loadI on3 rfl (by first | exact rdp | exact (RdS.big 4 _ rfl (matG_get htrs (by omega)))) (by omega)) ?_
      first | refine .v (.iN sl74 rfl rfl (hr := (by first | exact rdp | exact (RdS.big 4 _ rfl (matG_get htrs (by omega)))))) ?_ | refine .v (.iK sl74 rfl rfl (hr := (by first | exact rdp | exact (RdS.big 4 _ rfl (matG_get htrs (by omega)))))) ?_
      refine .v (.loadI on3 rfl (by first | exact rdp | exact (RdS.big 4 _ rfl (matG_get htrs (by omega)))) (by omega)) ?_
      first | refine .v (.iN sl74 rfl rfl (hr := (by first | exact rdp | exact (RdS.big 4 _ rfl (matG_get htrs (by omega)))))) ?_ | refine .v (.iK sl74 rfl rfl (hr := (by first | exact rdp | exact (RdS.big 4 _ rfl (matG_get htrs (by omega)))))) ?_
      refine AK.store1e 17 rfl sz3 rfl rfl rfl rfl (by omega) (cs' := ((((mapM d).take q ++ [(mapM d).getD q 0]) ++ List.replicate (d.fin.length - (q + 1)) 0).map (Value.int .i64))) (by rw [hst]; exact set_mid (Value.int .i64) _ _ (-1) _ (by rw [List.length_take]; omega)) trivial ?_
      refine .nil (.block_normal ?_)
      refine AK.then_ (hK30 _ ?_)
      refine AK.region ?_
      refine .v (.add rfl rfl (by omega)) ?_
      refine .mv rfl (.nil ?_)
      first | refine AK.then_ (hK27 _ _ (q + 1) (by omega) (by omega) (slr) (fun w hw => by rw [take_snocD 0 (mapM d) q (by omega)]; exact hw)) | refine AK.then_ (hK27 _ _ (q + 1) (by omega) (by omega) (slr) (fun w hw => by rw [take_snocD 0 (mapM d) q (by omega), hmg]; exact hw))
     ·have hm : (q : Int) ∉ TSt d := by
       intro hm
       rw [if_pos hm] at hna; omega
      rw [if_neg hm] at hmg
      refine .skip (.block_normal ?_)
      refine AK.then_ (hK30 _ ?_)
      refine AK.region ?_
      refine .v (.add rfl rfl (by omega)) ?_
      refine .mv rfl (.nil ?_)
      first | refine AK.then_ (hK27 _ _ (q + 1) (by omega) (by omega) (slr) (fun w hw => by rw [take_snocD 0 (mapM d) q (by omega)]; exact hw)) | refine AK.then_ (hK27 _ _ (q + 1) (by omega) (by omega) (slr) (fun w hw => by rw [take_snocD 0 (mapM d) q (by omega), hmg]; exact hw))
    ·refine .exit (.then_exit (.then_exit (.block_exit ?_)))
     refine AK.then_ (hK25 _ ?_)
     refine .sr fun _ hK34 => ?_
     refine .v (.loadBoxG ag36 rfl bsp rfl rfl) ?_
     refine .mv rfl ?_
     refine AK.storeBox 1 (us := [.int .i64 (minD d).L, .int .i64 (minD d).s, mF, mN]) (cs' := [.int .i64 (minD d).L, .int .i64 (minD d).s, mF, mN]) rfl sz36 rfl rfl rfl rfl oneP (Nat.le_of_ble_eq_true rfl) rfl trivial ?_
     refine .as rfl (.nt hK34 (.ret ?_))
     refine AK.retG [.cell 2 36, .tmp 3] rfl (.cons (.cell ag36 rfl bsp rfl rfl) (.cons (.tmp rfl) (.nil))) (fun w hw => ⟨_, _, ?_, rfl, Ret.of (hw.pick [12, 13, 14, 17] (by decide) rfl rfl)⟩)
     have e : q = d.fin.length := (by omega)
     have hml : (mapM d).length = d.fin.length := (by simp [mapM])
     refine ⟨mF, mN, mv2, mrs, rfl, hmrs, smF, smN, smv2, ?_⟩
     rw [hnt, e, Nat.sub_self, List.replicate_zero, List.append_nil, ← hml, List.take_length]; rfl

end Go.Proofs.Ytaeojcaidcjnaaa
