import Derived.Test.YtaeojcaidcjnaaaXE4
import Derived.Test.YtaeojcaidcjnaaaXE3
set_option linter.unusedVariables false
set_option linter.unusedSimpArgs false
namespace Go.Proofs.Ytaeojcaidcjnaaa
open Go.Sx Go.RowKit
set_option maxHeartbeats 4000000 in
set_option maxRecDepth 100000 in
theorem s_refmin (w : World) (v : Value) (d : Dfa) (h : RdD (fun _ => False) w v d) (hv : VD d) : CallS Try.prog 44 [v] w (fun r o => ∃ (vF vN : Value) (rs : List Value), r = .agg #[.int .i64 (minD d).L, .int .i64 (minD d).s, vF, vN] ∧ rs.length = (minD d).nx.length ∧ IsSl vF ∧ IsSl vN ∧ o = dfaO 4 3 74 vF vN rs (minD d)) := by
 have h0 := h
 obtain ⟨vF, vN, rfl, hF, hN⟩ := h
 have hF0 := hF
 have hN0 := hN
 obtain ⟨rs, hrl, hNr, hNi⟩ := hN
 have sF := hF.sl
 have sN := hNr.sl
 have hmf := hF.le
 have hmn := hNr.le
 unfold RdL at hF
 have hL := hv.L
 have hn5 := hv.n
 have hnx := hv.nx
 have hs := hv.s
 have hcl := cls_len d
 have hcan := cls_can hv
 have hQ := quo_vd hv
 refine spec_of Try.func44 rfl (Nat.le_of_ble_eq_true rfl) ?_
 refine .sr fun _ hK1 => ?_
 refine AK.box_ (E := 36) (cs := [.int .i64 d.L, .int .i64 d.s, vF, vN]) rfl rfl rfl trivial rfl (fun bx1 => ?_)
 refine AK.alloc el36 rfl rfl trivial rfl (fun bx2 => ?_)
 refine .nt hK1 ?_
 refine .sr fun _ hK2 => ?_
 refine .v (.loadBoxG ag36 rfl bsp rfl rfl) ?_
 refine AK.call co60 rfl (fun w hw => s_refclasses w _ d (h0.at hw) hv) trivial rfl ?_
 rintro cv o ⟨scv, rfl⟩
 refine .as rfl (.nt hK2 ?_)
 refine .seq fun _ hK3 => ?_
 try (conv => enter [2, 2]; dsimp only [List.set_cons_zero, List.set_cons_succ, List.cons_append, List.nil_append])
 refine AK.held 9 mixed ?_
 refine HeldK.first 0 (fuel := 9) (listed' := (lb 10 1)) _ rfl krf krf rfl (Yl.fieldAddr fd36_0 rfl) trivial rfl ?_
 refine HeldK.first 1 (fuel := 8) (listed' := (lb 10 3)) _ rfl krf krf rfl (Yl.loadBox on3 rfl bsp rfl) trivial rfl ?_
 refine HeldK.first 2 (fuel := 7) (listed' := (lb 10 7)) _ rfl krf krf rfl (Yl.move rfl) trivial rfl ?_
 refine HeldK.first 3 (fuel := 6) (listed' := (lb 10 15)) _ rfl krf krf rfl (Yl.fieldAddr fd36_1 rfl) trivial rfl ?_
 refine HeldK.first 4 (fuel := 5) (listed' := (lb 10 31)) _ rfl krf krf rfl (Yl.loadBox on3 rfl bsp rfl) trivial rfl ?_
 first | refine HeldK.first 5 (fuel := 4) (listed' := (lb 10 63)) _ rfl krf krf rfl (.iN sl74 rfl rfl (hr := (by first | exact rdp | exact .arg (hNi _ (by omega))))) trivial rfl ?_ | refine HeldK.first 5 (fuel := 4) (listed' := (lb 10 63)) _ rfl krf krf rfl (.iK sl74 rfl rfl (hr := (by first | exact rdp | exact .arg (hNi _ (by omega))))) trivial rfl ?_
 refine HeldK.first 6 (fuel := 3) (listed' := (lb 10 127)) _ rfl krf krf rfl (Yl.loadI on3 rfl (by first | exact rdp | exact .arg (hNi _ (by omega))) (by omega)) trivial rfl ?_
 refine HeldK.first 7 (fuel := 2) (listed' := (lb 10 255)) _ rfl krf krf rfl (Yl.build (parts := [(0, .tmp 14), (1, .tmp 19)]) (cs := #[.int .i64 d.L, .int .i64 (clsA d d.s), .slice none 0 0, .slice none 0 0]) rfl (by kernel_rfl)) trivial rfl ?_
 refine HeldK.one 8 (fuel := 1) (listed' := (lb 10 511)) krf rfl krf ?_
 refine AK.alloc el36 rfl rfl trivial rfl (fun bx4 => ?_)
 refine .nil ?_
 try (conv => enter [2, 2]; dsimp only [List.set_cons_zero, List.set_cons_succ, List.cons_append, List.nil_append])
 refine HeldK.back Go.Sx.hle ?_
 refine HeldK.one 9 (fuel := 0) (listed' := (lb 10 1023)) krf rfl krf ?_
 refine AK.storeBox 3 (us := [.int .i64 d.L, .int .i64 (clsA d d.s), .slice none 0 0, .slice none 0 0]) (cs' := [.int .i64 d.L, .int .i64 (clsA d d.s), .slice none 0 0, .slice none 0 0]) rfl sz36 rfl rfl rfl rfl oneP (Nat.le_of_ble_eq_true rfl) rfl trivial ?_
 refine .nil ?_
 try (conv => enter [2, 2]; dsimp only [List.set_cons_zero, List.set_cons_succ, List.cons_append, List.nil_append])
 refine HeldK.backN 10 krf rfl krf ?_
 refine .nil ?_
 refine AK.fromQn ?_
 refine AK.then_ (hK3 _ ?_)
 refine .sr fun _ hK4 => ?_
 refine .as rfl (.nt hK4 ?_)
 refine .seq fun _ hK5 => ?_
 refine .sr fun _ hK6 => ?_
 refine .mv rfl ?_
 refine .v (.lenR sl74 rfl (by first | exact rdp | exact .arg (hNi _ (by omega)))) ?_
 refine .mv rfl (.nt hK6 (.block ?_))
 refine AK.loopK (X := Nat × Value × Value × List Value) [(1, _), (2, _), (3, _), (4, _), (21, _), (22, _)] (fun x => [(5, .int .i64 ((fstK (clsD d) x.1).length : Int)), (23, .int .i64 (x.1 : Int))]) (fun x => [box bx1 36 4 [.int .i64 d.L, .int .i64 d.s, vF, vN], box bx2 36 4 [.int .i64 0, .int .i64 0, .slice none 0 0, .slice none 0 0], row cv 3 1 (clsD d).length ((clsD d).map (Value.int .i64)), box bx4 36 4 [.int .i64 d.L, .int .i64 (clsA d d.s), x.2.1, x.2.2.1], row x.2.1 4 1 ((fstK (clsD d) x.1).map fun q => d.fin.getD q false).length (((fstK (clsD d) x.1).map fun q => d.fin.getD q false).map Value.bool), row x.2.2.1 74 1 ((fstK (clsD d) x.1).map (rowC d)).length x.2.2.2, bigA (matG (Value.int .i64) 3 x.2.2.2 ((fstK (clsD d) x.1).map (rowC d)))]) (fun x => x.1 ≤ (clsD d).length ∧ x.2.2.2.length = ((fstK (clsD d) x.1).map (rowC d)).length ∧ IsSl x.2.1 ∧ IsSl x.2.2.1) (fun x => (clsD d).length - x.1) ((0, .slice none 0 0, .slice none 0 0, [])) slr ?_ ?_ ?_ ?_
 ·exact ⟨Nat.zero_le _, rfl, nilSl, nilSl⟩
 ·exact slr
 ·exact fun w hw => by have h1 := ((hw.ghostG (f := Value.int .i64) 3).ghost 4 1).ghost 74 1; exact h1.pick [0, 1, 2, 3, 5, 6, 4] (by decide) rfl rfl
 ·intro x hg0 _ hK7
  have hsF := hg0.2.2.1
  have hsN := hg0.2.2.2
  refine .sr fun _ hK8 => ?_
  refine .v (.lss rfl rfl) ?_
  refine .nt hK8 ?_
  refine .seq fun _ hK9 => ?_
  refine AK.condD rfl (fun hc0 => ?_) (fun hc0 => ?_)
  ·have hqT : x.1 < d.fin.length := by omega
   have hfl := fstK_le hcan (k := x.1) (by omega)
   have hrw := hv.row x.1 hqT
   have hfb := fstK_bd (clsD d) x.1
   have hgl : ((fstK (clsD d) x.1).map fun q => d.fin.getD q false).length = (fstK (clsD d) x.1).length := List.length_map ..
   have hnl : ((fstK (clsD d) x.1).map (rowC d)).length = (fstK (clsD d) x.1).length := List.length_map ..
   refine .skip ?_
   refine AK.then_ (hK9 _ ?_)
   refine .seq fun _ hK10 => ?_
   refine .block ?_
   refine .sr fun _ hK11 => ?_
   refine .mv rfl ?_
   first | refine .v (.iN sl74 rfl rfl (hr := (by first | exact rdp | exact .arg (hNi _ (by omega))))) ?_ | refine .v (.iK sl74 rfl rfl (hr := (by first | exact rdp | exact .arg (hNi _ (by omega))))) ?_
   refine .v (.loadI on3 rfl (by first | exact rdp | exact .arg (hNi _ (by omega))) (by omega)) ?_
   refine .as rfl (.as rfl (.nt hK11 ?_))
   refine .seq fun _ hK12 => ?_
   refine .sr fun _ hK13 => ?_
   refine .mv rfl (.mv rfl ?_)
   refine .v (.neq rfl rfl) ?_
   refine .nt hK13 ?_
   refine AK.condNe rfl (fun hc1 => ?_) (fun hc1 => ?_)
   ·refine .exit (.then_exit (.block_exit ?_))
    refine AK.then_ (hK10 _ ?_)
    refine AK.region ?_
    refine .v (.add rfl rfl (by omega)) ?_
    refine .mv rfl (.nil ?_)
    first | refine AK.then_ (hK7 _ _ ((x.1 + 1, z.1, z.2, x.2.2.2 ++ [y.2])) ⟨by dsimp only; omega, by dsimp only; rw [fstK_new hc1']; simp [hg0.2.1], hg.1, hg.2⟩ (by dsimp only; omega) (.cons (congrArg (fun (k : Nat) => some (Value.int .i64 (k : Int))) (by dsimp only; rw [fstK_new hc1', List.length_append]; rfl)) (slr)) (fun w hw => by
  dsimp only
  have e0 : y.1 = (rowC d x.1).length := (by rw [show (rowC d x.1).length = (d.nx.getD x.1 []).length from List.length_map ..]; omega)
  rw [show [y.2].flatMap (·.cells.toList) = [y.2] by simp [hg1.2.cells], e0, List.take_length] at hw
  have e1 : ((fstK (clsD d) (x.1 + 1)).map fun q => d.fin.getD q false).map Value.bool = ((fstK (clsD d) x.1).map fun q => d.fin.getD q false).map Value.bool ++ [Value.bool (d.fin.getD x.1 false)].flatMap (·.cells.toList) := (by rw [fstK_new hc1']; simp [Value.cells])
  have e2 : ((fstK (clsD d) (x.1 + 1)).map (rowC d)) = ((fstK (clsD d) x.1).map (rowC d)) ++ [rowC d x.1] := (by rw [fstK_new hc1', List.map_append]; rfl)
  have e3 : ((fstK (clsD d) (x.1 + 1)).map fun q => d.fin.getD q false).length = ((fstK (clsD d) x.1).map fun q => d.fin.getD q false).length + 1 := (by rw [fstK_new hc1']; simp)
  rw [e1, e3, e2, matG_snoc hg0.2.1, List.length_append]
  exact HW.absorb (own := [_, _, _, _, _, _, _]) 6 rfl hw)) | refine AK.then_ (hK7 _ _ ((x.1 + 1, x.2)) ⟨by dsimp only; omega, by dsimp only; rw [fstK_skip (by omega)]; exact hg0.2.1, hsF, hsN⟩ (by dsimp only; omega) (.cons (congrArg (fun (k : Nat) => some (Value.int .i64 (k : Int))) (by dsimp only; rw [fstK_skip (by omega)])) (slr)) (fun w hw => by dsimp only; rw [fstK_skip (by omega)]; exact hw))
   ·have hc1' : ¬ (clsD d).getD x.1 0 < ((fstK (clsD d) x.1).length : Int) := by omega
    refine .skip ?_
    refine AK.then_ (hK12 _ ?_)
    refine .sr fun _ hK14 => ?_
    refine .mv rfl ?_
    refine .v (.add rfl rfl (by omega)) ?_
    refine .as rfl (.nt hK14 ?_)
    refine .sr fun _ hK15 => ?_
    refine .as rfl (.nt hK15 ?_)
    refine .seq fun _ hK16 => ?_
    refine .sr fun _ hK17 => ?_
    refine .v (.fieldAddr fd36_3 rfl) ?_
    refine .v (.loadBox on34 rfl bsp rfl) ?_
    refine .mv rfl ?_
    first | refine .v (.iN sl34 rfl rfl (hr := (by first | exact rdp | exact .arg (hNi _ (by omega))))) ?_ | refine .v (.iK sl34 rfl rfl (hr := (by first | exact rdp | exact .arg (hNi _ (by omega))))) ?_
    refine .v (.loadV on74 rfl (by first | exact rdp | exact .arg (hNi _ (by omega))) (by omega)) ?_
    refine .v (.lenR sl74 rfl (by first | exact rdp | exact .arg (hNi _ (by omega)))) ?_
    refine .mv rfl (.nt hK17 (.block ?_))
    refine AK.loopK (X := Nat × Value) [(1, _), (2, _), (3, _), (4, _), (5, _), (6, _), (21, _), (22, _), (23, _), (37, _), (38, _)] (fun y => [(8, y.2), (39, .int .i64 (y.1 : Int))]) (fun y => [box bx1 36 4 [.int .i64 d.L, .int .i64 d.s, vF, vN], box bx2 36 4 [.int .i64 0, .int .i64 0, .slice none 0 0, .slice none 0 0], row cv 3 1 (clsD d).length ((clsD d).map (Value.int .i64)), box bx4 36 4 [.int .i64 d.L, .int .i64 (clsA d d.s), x.2.1, x.2.2.1], row x.2.1 4 1 ((fstK (clsD d) x.1).map fun q => d.fin.getD q false).length (((fstK (clsD d) x.1).map fun q => d.fin.getD q false).map Value.bool), row x.2.2.1 74 1 ((fstK (clsD d) x.1).map (rowC d)).length x.2.2.2, bigA (matG (Value.int .i64) 3 x.2.2.2 ((fstK (clsD d) x.1).map (rowC d))), row y.2 3 1 y.1 (((rowC d x.1).take y.1).map (Value.int .i64))]) (fun y => y.1 ≤ (d.nx.getD x.1 []).length ∧ IsSl y.2) (fun y => (d.nx.getD x.1 []).length - y.1) ((0, .slice none 0 0)) slr ?_ ?_ ?_ ?_
    ·exact ⟨Nat.zero_le _, nilSl⟩
    ·exact slr
    ·exact fun w hw => by exact hw.ghost 3 1
    ·intro y hg1 _ hK18
     refine .sr fun _ hK19 => ?_
     refine .v (.lss rfl rfl) ?_
     refine .nt hK19 ?_
     refine .seq fun _ hK20 => ?_
     refine AK.condD rfl (fun hc2 => ?_) (fun hc2 => ?_)
     ·have hto := hv.to x.1 y.1 hqT (by omega)
      have hrl : (rowC d x.1).length = (d.nx.getD x.1 []).length := List.length_map ..
      have hrg := rowC_get hv hqT (x := y.1) (by omega)
      refine .skip ?_
      refine AK.then_ (hK20 _ ?_)
      refine .seq fun _ hK21 => ?_
      refine .block ?_
      refine .sr fun _ hK22 => ?_
      first | refine .v (.iN sl74 rfl rfl (hr := (by first | exact rdp | exact .arg (hNi _ (by omega))))) ?_ | refine .v (.iK sl74 rfl rfl (hr := (by first | exact rdp | exact .arg (hNi _ (by omega))))) ?_
      refine .v (.loadI on3 rfl (by first | exact rdp | exact .arg (hNi _ (by omega))) (by omega)) ?_
      refine .as rfl (.nt hK22 ?_)
      refine AK.region ?_
      refine .mv rfl (.mv rfl (.mv rfl ?_))
      first | refine .v (.iN sl74 rfl rfl (hr := (by first | exact rdp | exact .arg (hNi _ (by omega))))) ?_ | refine .v (.iK sl74 rfl rfl (hr := (by first | exact rdp | exact .arg (hNi _ (by omega))))) ?_
      refine .v (.loadI on3 rfl (by first | exact rdp | exact .arg (hNi _ (by omega))) (by omega)) ?_
      refine AK.append1 7 rfl sl74 el3 rfl (by decide) rfl (by intro k hk; cases hk; rfl) rfl (by intro u hu; simp [Value.cells] at hu; subst hu; rfl) (by omega) (by omega) (by decide) rfl rfl (fun va _ ha => ?_)
      refine .as rfl (.nil (.block_normal ?_))
      refine AK.then_ (hK21 _ ?_)
      refine AK.region ?_
      refine .v (.add rfl rfl (by omega)) ?_
      refine .mv rfl (.nil ?_)
      refine AK.then_ (hK18 _ _ ((y.1 + 1, va)) ⟨by dsimp only; omega, ha⟩ (by dsimp only; omega) (slr) (fun w hw => by dsimp only; rw [take_snocD 0 (rowC d x.1) y.1 (by omega), List.map_append, hrg]; exact hw))
     ·refine .exit (.then_exit (.then_exit (.block_exit ?_)))
      refine AK.then_ (hK16 _ ?_)
      refine AK.joinK (X := Value × Value) [(1, _), (2, _), (3, _), (4, _), (5, _), (21, _), (22, _), (23, _)] (fun z => []) (fun z => [box bx1 36 4 [.int .i64 d.L, .int .i64 d.s, vF, vN], box bx2 36 4 [.int .i64 0, .int .i64 0, .slice none 0 0, .slice none 0 0], row cv 3 1 (clsD d).length ((clsD d).map (Value.int .i64)), box bx4 36 4 [.int .i64 d.L, .int .i64 (clsA d d.s), z.1, z.2], row z.1 4 1 (((fstK (clsD d) x.1).map fun q => d.fin.getD q false).length + 1) (((fstK (clsD d) x.1).map fun q => d.fin.getD q false).map Value.bool ++ [Value.bool (d.fin.getD x.1 false)].flatMap (·.cells.toList)), row z.2 74 1 (((fstK (clsD d) x.1).map (rowC d)).length + 1) (x.2.2.2 ++ [y.2].flatMap (·.cells.toList)), bigA (matG (Value.int .i64) 3 x.2.2.2 ((fstK (clsD d) x.1).map (rowC d))), row y.2 3 1 y.1 (((rowC d x.1).take y.1).map (Value.int .i64))]) (fun z => IsSl z.1 ∧ IsSl z.2) slr (fun _ hJ => ?_) (fun z hg => ?_)
      ·try (conv => enter [2, 2]; dsimp only [List.set_cons_zero, List.set_cons_succ, List.cons_append, List.nil_append])
       refine AK.held 15 mixed ?_
       refine HeldK.first 0 (fuel := 17) (listed' := (lb 18 1)) _ rfl krf krf rfl (Yl.fieldAddr fd36_3 rfl) trivial rfl ?_
       refine HeldK.first 1 (fuel := 16) (listed' := (lb 18 3)) _ rfl krf krf rfl (Yl.loadBox on34 rfl bsp rfl) trivial rfl ?_
       refine HeldK.first 2 (fuel := 15) (listed' := (lb 18 7)) _ rfl krf krf rfl (Yl.move rfl) trivial rfl ?_
       refine HeldK.first 5 (fuel := 14) (listed' := (lb 18 39)) _ rfl krf krf rfl (Yl.fieldAddr fd36_2 rfl) trivial rfl ?_
       refine HeldK.first 6 (fuel := 13) (listed' := (lb 18 103)) _ rfl krf krf rfl (Yl.loadBox on33 rfl bsp rfl) trivial rfl ?_
       refine HeldK.first 7 (fuel := 12) (listed' := (lb 18 231)) _ rfl krf krf rfl (Yl.fieldAddr fd36_2 rfl) trivial rfl ?_
       refine HeldK.first 8 (fuel := 11) (listed' := (lb 18 487)) _ rfl krf krf rfl (Yl.loadBox on33 rfl bsp rfl) trivial rfl ?_
       refine HeldK.first 9 (fuel := 10) (listed' := (lb 18 999)) _ rfl krf krf rfl (Yl.move rfl) trivial rfl ?_
       first | refine HeldK.first 10 (fuel := 9) (listed' := (lb 18 2023)) _ rfl krf krf rfl (.iN sl33 rfl rfl (hr := (by first | exact rdp | exact .arg (hNi _ (by omega))))) trivial rfl ?_ | refine HeldK.first 10 (fuel := 9) (listed' := (lb 18 2023)) _ rfl krf krf rfl (.iK sl33 rfl rfl (hr := (by first | exact rdp | exact .arg (hNi _ (by omega))))) trivial rfl ?_
       refine HeldK.first 11 (fuel := 8) (listed' := (lb 18 4071)) _ rfl krf krf rfl (Yl.loadB on4 rfl (by first | exact rdp | exact .arg (hNi _ (by omega))) (by omega)) trivial rfl ?_
       refine HeldK.two 3 12 (fuel := 7) (listed1 := (lb 18 4079)) (listed2 := (lb 18 8167)) krf rfl rfl krf krf ?_ ?_
       ·refine AK.lit (xs := [.tmp 53]) sl34 el74 rfl rfl rfl (by intro a ha; simp at ha; subst ha; rw [hg1.2.cells]; rfl) (by decide) (by decide) trivial rfl (fun t1 => ?_)
        refine .nil ?_
        try (conv => enter [2, 2]; dsimp only [List.set_cons_zero, List.set_cons_succ, List.cons_append, List.nil_append])
        refine HeldK.back Go.Sx.hle ?_
        refine HeldK.two 4 12 (fuel := 6) (listed1 := (lb 18 4095)) (listed2 := (lb 18 8175)) krf rfl rfl krf krf ?_ ?_
        ·refine AK.appendH 5 rfl sl34 el74 rfl (by decide) rfl rfl rfl (by first | exact rdp | exact .arg (hNi _ (by omega))) (by rw [show [y.2].flatMap (·.cells.toList) = [y.2] by simp [hg1.2.cells]]; exact one'_cons hg1.2.one one'_nil) (by omega) (by omega) trivial rfl (fun vn2 hn2 => ?_)
         refine .nil ?_
         try (conv => enter [2, 2]; dsimp only [List.set_cons_zero, List.set_cons_succ, List.cons_append, List.nil_append])
         refine HeldK.back Go.Sx.hle ?_
         refine HeldK.first 14 (fuel := 5) (listed' := (lb 18 20479)) _ rfl krf krf rfl (Yl.fieldAddr fd36_3 rfl) trivial rfl ?_
         refine HeldK.one 12 (fuel := 4) (listed' := (lb 18 24575)) krf rfl krf ?_
         refine AK.lit (xs := [.tmp 62]) sl33 el4 rfl rfl rfl (by intro a ha; simp at ha; subst ha; rfl) (by decide) (by decide) trivial rfl (fun t2 => ?_)
         refine .nil ?_
         try (conv => enter [2, 2]; dsimp only [List.set_cons_zero, List.set_cons_succ, List.cons_append, List.nil_append])
         refine HeldK.back Go.Sx.hle ?_
         refine HeldK.one 13 (fuel := 3) (listed' := (lb 18 32767)) krf rfl krf ?_
         refine AK.appendH 4 rfl sl33 el4 rfl (by decide) rfl rfl rfl (by first | exact rdp | exact .arg (hNi _ (by omega))) oneP (by omega) (by omega) trivial rfl (fun vf2 hf2 => ?_)
         refine .nil ?_
         try (conv => enter [2, 2]; dsimp only [List.set_cons_zero, List.set_cons_succ, List.cons_append, List.nil_append])
         refine HeldK.back Go.Sx.hle ?_
         refine HeldK.one 15 (fuel := 2) (listed' := (lb 18 65535)) krf rfl krf ?_
         refine AK.storeBox 3 (us := [vn2]) (cs' := [.int .i64 d.L, .int .i64 (clsA d d.s), x.2.1, vn2]) rfl sz34 rfl rfl (by rw [IsSl.cells (by assumption)]) rfl oneP (Nat.le_of_ble_eq_true rfl) rfl trivial ?_
         refine .nil ?_
         try (conv => enter [2, 2]; dsimp only [List.set_cons_zero, List.set_cons_succ, List.cons_append, List.nil_append])
         refine HeldK.backN 16 krf rfl krf ?_
         refine .v (.fieldAddr fd36_2 rfl) ?_
         refine AK.storeBox 3 (us := [vf2]) (cs' := [.int .i64 d.L, .int .i64 (clsA d d.s), vf2, vn2]) rfl sz33 rfl rfl (by rw [IsSl.cells (by assumption)]) rfl oneP (Nat.le_of_ble_eq_true rfl) rfl trivial ?_
         refine .nil ?_
         refine AK.fromQn ?_
         exact hJ _ _ ((vf2, vn2)) ⟨hf2, hn2⟩ (slr) (fun w hw => by first | exact hw.pickLe [0, 1, 2, 3, 4, 5, 6, 7] (by decide) pkl)
        ·refine AK.lit (xs := [.tmp 62]) sl33 el4 rfl rfl rfl (by intro a ha; simp at ha; subst ha; rfl) (by decide) (by decide) trivial rfl (fun t2 => ?_)
         refine .nil ?_
         try (conv => enter [2, 2]; dsimp only [List.set_cons_zero, List.set_cons_succ, List.cons_append, List.nil_append])
         refine HeldK.back Go.Sx.hle ?_
         refine HeldK.one 4 (fuel := 5) (listed' := (lb 18 8191)) krf rfl krf ?_
         refine AK.appendH 5 rfl sl34 el74 rfl (by decide) rfl rfl rfl (by first | exact rdp | exact .arg (hNi _ (by omega))) (by rw [show [y.2].flatMap (·.cells.toList) = [y.2] by simp [hg1.2.cells]]; exact one'_cons hg1.2.one one'_nil) (by omega) (by omega) trivial rfl (fun vn2 hn2 => ?_)
         refine .nil ?_
         try (conv => enter [2, 2]; dsimp only [List.set_cons_zero, List.set_cons_succ, List.cons_append, List.nil_append])
         refine HeldK.back Go.Sx.hle ?_
         refine HeldK.first 14 (fuel := 4) (listed' := (lb 18 24575)) _ rfl krf krf rfl (Yl.fieldAddr fd36_3 rfl) trivial rfl ?_
         refine HeldK.one 13 (fuel := 3) (listed' := (lb 18 32767)) krf rfl krf ?_
         refine AK.appendH 4 rfl sl33 el4 rfl (by decide) rfl rfl rfl (by first | exact rdp | exact .arg (hNi _ (by omega))) oneP (by omega) (by omega) trivial rfl (fun vf2 hf2 => ?_)
         refine .nil ?_
         try (conv => enter [2, 2]; dsimp only [List.set_cons_zero, List.set_cons_succ, List.cons_append, List.nil_append])
         refine HeldK.back Go.Sx.hle ?_
         refine HeldK.one 15 (fuel := 2) (listed' := (lb 18 65535)) krf rfl krf ?_
         refine AK.storeBox 3 (us := [vn2]) (cs' := [.int .i64 d.L, .int .i64 (clsA d d.s), x.2.1, vn2]) rfl sz34 rfl rfl (by rw [IsSl.cells (by assumption)]) rfl oneP (Nat.le_of_ble_eq_true rfl) rfl trivial ?_
         refine .nil ?_
         try (conv => enter [2, 2]; dsimp only [List.set_cons_zero, List.set_cons_succ, List.cons_append, List.nil_append])
         refine HeldK.backN 16 krf rfl krf ?_
         refine .v (.fieldAddr fd36_2 rfl) ?_
         refine AK.storeBox 3 (us := [vf2]) (cs' := [.int .i64 d.L, .int .i64 (clsA d d.s), vf2, vn2]) rfl sz33 rfl rfl (by rw [IsSl.cells (by assumption)]) rfl oneP (Nat.le_of_ble_eq_true rfl) rfl trivial ?_
         refine .nil ?_
         refine AK.fromQn ?_
         exact hJ _ _ ((vf2, vn2)) ⟨hf2, hn2⟩ (slr) (fun w hw => by first | exact hw.pickLe [0, 1, 2, 3, 4, 5, 6, 7] (by decide) pkl)
       ·refine AK.lit (xs := [.tmp 62]) sl33 el4 rfl rfl rfl (by intro a ha; simp at ha; subst ha; rfl) (by decide) (by decide) trivial rfl (fun t2 => ?_)
        refine .nil ?_
        try (conv => enter [2, 2]; dsimp only [List.set_cons_zero, List.set_cons_succ, List.cons_append, List.nil_append])
        refine HeldK.back Go.Sx.hle ?_
        refine HeldK.one 3 (fuel := 6) (listed' := (lb 18 8175)) krf rfl krf ?_
        refine AK.lit (xs := [.tmp 53]) sl34 el74 rfl rfl rfl (by intro a ha; simp at ha; subst ha; rw [hg1.2.cells]; rfl) (by decide) (by decide) trivial rfl (fun t1 => ?_)
        refine .nil ?_
        try (conv => enter [2, 2]; dsimp only [List.set_cons_zero, List.set_cons_succ, List.cons_append, List.nil_append])
        refine HeldK.back Go.Sx.hle ?_
        refine HeldK.one 4 (fuel := 5) (listed' := (lb 18 8191)) krf rfl krf ?_
        refine AK.appendH 5 rfl sl34 el74 rfl (by decide) rfl rfl rfl (by first | exact rdp | exact .arg (hNi _ (by omega))) (by rw [show [y.2].flatMap (·.cells.toList) = [y.2] by simp [hg1.2.cells]]; exact one'_cons hg1.2.one one'_nil) (by omega) (by omega) trivial rfl (fun vn2 hn2 => ?_)
        refine .nil ?_
        try (conv => enter [2, 2]; dsimp only [List.set_cons_zero, List.set_cons_succ, List.cons_append, List.nil_append])
        refine HeldK.back Go.Sx.hle ?_
        refine HeldK.first 14 (fuel := 4) (listed' := (lb 18 24575)) _ rfl krf krf rfl (Yl.fieldAddr fd36_3 rfl) trivial rfl ?_
        refine HeldK.one 13 (fuel := 3) (listed' := (lb 18 32767)) krf rfl krf ?_
        refine AK.appendH 4 rfl sl33 el4 rfl (by decide) rfl rfl rfl (by first | exact rdp | exact .arg (hNi _ (by omega))) oneP (by omega) (by omega) trivial rfl (fun vf2 hf2 => ?_)
        refine .nil ?_
        try (conv => enter [2, 2]; dsimp only [List.set_cons_zero, List.set_cons_succ, List.cons_append, List.nil_append])
        refine HeldK.back Go.Sx.hle ?_
        refine HeldK.one 15 (fuel := 2) (listed' := (lb 18 65535)) krf rfl krf ?_
        refine AK.storeBox 3 (us := [vn2]) (cs' := [.int .i64 d.L, .int .i64 (clsA d d.s), x.2.1, vn2]) rfl sz34 rfl rfl (by rw [IsSl.cells (by assumption)]) rfl oneP (Nat.le_of_ble_eq_true rfl) rfl trivial ?_
        refine .nil ?_
        try (conv => enter [2, 2]; dsimp only [List.set_cons_zero, List.set_cons_succ, List.cons_append, List.nil_append])
        refine HeldK.backN 16 krf rfl krf ?_
        refine .v (.fieldAddr fd36_2 rfl) ?_
        refine AK.storeBox 3 (us := [vf2]) (cs' := [.int .i64 d.L, .int .i64 (clsA d d.s), vf2, vn2]) rfl sz33 rfl rfl (by rw [IsSl.cells (by assumption)]) rfl oneP (Nat.le_of_ble_eq_true rfl) rfl trivial ?_
        refine .nil ?_
        refine AK.fromQn ?_
        exact hJ _ _ ((vf2, vn2)) ⟨hf2, hn2⟩ (slr) (fun w hw => by first | exact hw.pickLe [0, 1, 2, 3, 4, 5, 6, 7] (by decide) pkl)
      ·skip
       refine .block_normal ?_
       refine AK.then_ (hK10 _ ?_)
       refine AK.region ?_
       refine .v (.add rfl rfl (by omega)) ?_
       refine .mv rfl (.nil ?_)
       first | refine AK.then_ (hK7 _ _ ((x.1 + 1, z.1, z.2, x.2.2.2 ++ [y.2])) ⟨by dsimp only; omega, by dsimp only; rw [fstK_new hc1']; simp [hg0.2.1], hg.1, hg.2⟩ (by dsimp only; omega) (.cons (congrArg (fun (k : Nat) => some (Value.int .i64 (k : Int))) (by dsimp only; rw [fstK_new hc1', List.length_append]; rfl)) (slr)) (fun w hw => by
  dsimp only
  have e0 : y.1 = (rowC d x.1).length := (by rw [show (rowC d x.1).length = (d.nx.getD x.1 []).length from List.length_map ..]; omega)
  rw [show [y.2].flatMap (·.cells.toList) = [y.2] by simp [hg1.2.cells], e0, List.take_length] at hw
  have e1 : ((fstK (clsD d) (x.1 + 1)).map fun q => d.fin.getD q false).map Value.bool = ((fstK (clsD d) x.1).map fun q => d.fin.getD q false).map Value.bool ++ [Value.bool (d.fin.getD x.1 false)].flatMap (·.cells.toList) := (by rw [fstK_new hc1']; simp [Value.cells])
  have e2 : ((fstK (clsD d) (x.1 + 1)).map (rowC d)) = ((fstK (clsD d) x.1).map (rowC d)) ++ [rowC d x.1] := (by rw [fstK_new hc1', List.map_append]; rfl)
  have e3 : ((fstK (clsD d) (x.1 + 1)).map fun q => d.fin.getD q false).length = ((fstK (clsD d) x.1).map fun q => d.fin.getD q false).length + 1 := (by rw [fstK_new hc1']; simp)
  rw [e1, e3, e2, matG_snoc hg0.2.1, List.length_append]
  exact HW.absorb (own := [_, _, _, _, _, _, _]) 6 rfl hw)) | refine AK.then_ (hK7 _ _ ((x.1 + 1, x.2)) ⟨by dsimp only; omega, by dsimp only; rw [fstK_skip (by omega)]; exact hg0.2.1, hsF, hsN⟩ (by dsimp only; omega) (.cons (congrArg (fun (k : Nat) => some (Value.int .i64 (k : Int))) (by dsimp only; rw [fstK_skip (by omega)])) (slr)) (fun w hw => by dsimp only; rw [fstK_skip (by omega)]; exact hw))
  ·have hqe : fstK (clsD d) x.1 = firsts d := by rw [show x.1 = d.fin.length by omega]; rfl
   have hrsl := hg0.2.1
   rw [hqe] at hrsl
   rw [hqe]
   refine AK.own' [box bx1 36 4 [.int .i64 d.L, .int .i64 d.s, vF, vN], box bx2 36 4 [.int .i64 0, .int .i64 0, .slice none 0 0, .slice none 0 0], row cv 3 1 (clsD d).length ((clsD d).map (Value.int .i64)), box bx4 36 4 [.int .i64 d.L, .int .i64 (clsA d d.s), x.2.1, x.2.2.1], row x.2.1 4 1 (quoD d).fin.length ((quoD d).fin.map Value.bool), row x.2.2.1 74 1 (quoD d).nx.length x.2.2.2, bigA (matG (Value.int .i64) 3 x.2.2.2 (quoD d).nx)] (fun w hw => hw) ?_
   refine .exit (.then_exit (.then_exit (.block_exit ?_)))
   refine AK.then_ (hK5 _ ?_)
   refine .sr fun _ hK23 => ?_
   refine .v (.loadBoxG ag36 rfl bsp rfl rfl) ?_
   refine AK.call co61 rfl (fun w hw => s_reftrim w _ (quoD d) (RdD.own 4 hw hrsl rfl rfl rfl) hQ) trivial rfl ?_
   rintro r o ⟨uF, uN, uM, urs, rfl, hurs, suF, suN, suM, rfl⟩
   refine .mv rfl ?_
   refine .v (.extract rfl rfl) ?_
   refine .v (.extract rfl rfl) ?_
   refine AK.storeBox 3 (us := [.int .i64 (trimD (quoD d)).L, .int .i64 (trimD (quoD d)).s, uF, uN]) (cs' := [.int .i64 (trimD (quoD d)).L, .int .i64 (trimD (quoD d)).s, uF, uN]) rfl sz36 rfl rfl rfl rfl oneP (Nat.le_of_ble_eq_true rfl) rfl trivial ?_
   refine .nt hK23 ?_
   refine .sr fun _ hK24 => ?_
   refine .v (.loadBoxG ag36 rfl bsp rfl rfl) ?_
   refine AK.storeBox 1 (us := [.int .i64 (trimD (quoD d)).L, .int .i64 (trimD (quoD d)).s, uF, uN]) (cs' := [.int .i64 (trimD (quoD d)).L, .int .i64 (trimD (quoD d)).s, uF, uN]) rfl sz36 rfl rfl rfl rfl oneP (Nat.le_of_ble_eq_true rfl) rfl trivial ?_
   refine .nt hK24 (.ret ?_)
   refine AK.retG [.cell 2 36] rfl (.cons (.cell ag36 rfl bsp rfl rfl) (.nil)) (fun w hw => ⟨_, _, ?_, rfl, Ret.of (hw.pick [7, 8, 9] (by decide) rfl rfl)⟩)
   exact ⟨uF, uN, urs, rfl, hurs, suF, suN, rfl⟩

end Go.Proofs.Ytaeojcaidcjnaaa
