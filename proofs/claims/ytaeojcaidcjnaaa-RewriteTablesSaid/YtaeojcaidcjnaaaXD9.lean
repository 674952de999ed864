import Derived.Test.YtaeojcaidcjnaaaXD8
import Derived.Test.YtaeojcaidcjnaaaXDP
set_option linter.unusedVariables false
set_option linter.unusedSimpArgs false
namespace Go.Proofs.Ytaeojcaidcjnaaa
open Go.Sx Go.RowKit
set_option maxHeartbeats 1000000 in
set_option maxRecDepth 100000 in
theorem s_refaccess (w : World) (v : Value) (d : Dfa) (h : RdD (fun _ => False) w v d) (hv : VD d) : CallS Try.prog 66 [v] w (fun r o => ∃ vs vw, IsSl vs ∧ IsSl vw ∧ r = .tuple #[vs, vw] ∧ o = [row vs 3 1 (TSt d).length ((TSt d).map (Value.int .i64)), row vw 9 1 (TWo d).length ((TWo d).map sv)]) := by
 have h0 := h
 obtain ⟨vF, vN, rfl, hF, hN⟩ := h
 have hF0 := hF
 have hN0 := hN
 obtain ⟨rs, hrl, hNr, hNi⟩ := hN
 have sF := hF.sl
 have sN := hNr.sl
 have hmf := hF.le
 have hmn := hNr.le
 unfold RdL at hF
 have hvL := hv.L
 have hnx := hv.nx
 have hn5 := hv.n
 have hvs := hv.s
 have hok := exI_ok (z := 0) (start_univ hv) (step_univ hv)
 have hbd := exI_bd (z := 0) (start_univ hv) (step_univ hv)
 rw [univ_len] at hbd
 refine spec_of Try.func66 rfl (Nat.le_of_ble_eq_true rfl) ?_
 refine .sr fun _ hK1 => ?_
 refine AK.box_ (E := 36) (cs := [.int .i64 d.L, .int .i64 d.s, vF, vN]) rfl rfl rfl trivial rfl (fun bx1 => ?_)
 refine .as rfl (.as rfl (.nt hK1 ?_))
 refine .sr fun _ hK2 => ?_
 refine .v (.fieldAddr fd36_1 rfl) ?_
 refine .v (.loadBox on3 rfl bsp rfl) ?_
 refine AK.lit (xs := [.tmp 11]) sl74 el3 rfl rfl rfl (by intro a ha; simp at ha; subst ha; rfl) (by decide) (by decide) trivial rfl (fun l1 => ?_)
 refine AK.shape 1 rfl (fun s1 => ?_)
 refine AK.lit (xs := [.const (sv [])]) sl53 el9 rfl rfl rfl (by intro a ha; simp at ha; subst ha; rfl) (by decide) (by decide) trivial rfl (fun l2 => ?_)
 refine AK.shape 2 rfl (fun s2 => ?_)
 refine .as rfl (.as rfl (.nt hK2 ?_))
 refine .sr fun _ hK3 => ?_
 refine .v (.fieldAddr fd36_2 rfl) ?_
 refine .v (.loadBox on33 rfl bsp rfl) ?_
 refine .v (.lenR sl33 rfl (by first | exact rdp | exact .arg (hNi _ (by omega)))) ?_
 refine AK.make1 (n := d.fin.length) sl33 el4 rfl rfl rfl (by omega) (by omega) trivial rfl (fun mv => ?_)
 refine .as rfl (.nt hK3 ?_)
 refine .sr fun _ hK4 => ?_
 refine .mv rfl ?_
 refine .v (.fieldAddr fd36_1 rfl) ?_
 refine .v (.loadBox on3 rfl bsp rfl) ?_
 first | refine .v (.iN sl33 rfl rfl (hr := (by first | exact rdp | exact .arg (hNi _ (by omega))))) ?_ | refine .v (.iK sl33 rfl rfl (hr := (by first | exact rdp | exact .arg (hNi _ (by omega))))) ?_
 refine AK.store1e 3 rfl sz4 rfl rfl rfl rfl (by omega) (cs' := ((metL d.fin.length [d.s]).map Value.bool)) (by rw [← List.nil_append [d.s], ← metL_set hvs, metL_nil, List.map_set]; simp) trivial ?_
 refine .nt hK4 ?_
 refine .seq fun _ hK5 => ?_
 refine .sr fun _ hK6 => ?_
 refine .as rfl (.nt hK6 (.block ?_))
 refine AK.loopK (X := Nat × Value × Value) [(1, _), (6, _)] (fun x => [(4, x.2.1), (5, x.2.2), (7, .int .i64 (x.1 : Int))]) (fun x => [box bx1 36 4 [.int .i64 d.L, .int .i64 d.s, vF, vN], row x.2.1 3 1 (exI (stepQ d) d.L.toNat d.s 0 x.1).length ((exI (stepQ d) d.L.toNat d.s 0 x.1).map (Value.int .i64)), row x.2.2 9 1 (exIw (stepQ d) d.L.toNat d.s 0 x.1).length ((exIw (stepQ d) d.L.toNat d.s 0 x.1).map sv), row mv 4 1 d.fin.length ((metL d.fin.length (exI (stepQ d) d.L.toNat d.s 0 x.1)).map Value.bool)]) (fun x => x.1 ≤ (exI (stepQ d) d.L.toNat d.s 0 x.1).length ∧ IsSl x.2.1 ∧ IsSl x.2.2) (fun x => d.fin.length - x.1) ((0, l1, l2)) slr ?_ ?_ ?_ ?_
 ·exact ⟨Nat.zero_le _, s1, s2⟩
 ·exact slr
 ·exact fun w hw => hw
 ·intro x hg0 _ hK7
  have hb0 := hbd x.1
  refine .seq fun _ hK8 => ?_
  refine .sr fun _ hK9 => ?_
  refine .mv rfl (.mv rfl ?_)
  refine .v (.lenR sl74 rfl (by first | exact rdp | exact .arg (hNi _ (by omega)))) ?_
  refine .v (.lss rfl rfl) ?_
  refine .nt hK9 ?_
  refine AK.condD rfl (fun hc0 => ?_) (fun hc0 => ?_)
  ·have hlt : x.1 < (exI (stepQ d) d.L.toNat d.s 0 x.1).length := (by omega)
   have hqU := mem_univ.1 ((hok x.1).2 _ (getD_mem (d := 0) hlt))
   have hrw := hv.row ((exI (stepQ d) d.L.toNat d.s 0 x.1).getD x.1 0).toNat (by omega)
   have hwl := exIw_len (f := stepQ d) (L := d.L.toNat) (s := d.s) (z := 0) x.1
   have hrb := fun k hk => exR_bd (z := 0) (start_univ hv) (step_univ hv) (k := k) hlt hk
   rw [univ_len] at hrb
   have hrl2 := fun k => exRw_len (f := stepQ d) (q := ((exI (stepQ d) d.L.toNat d.s 0 x.1).getD x.1 0)) (wq := ((exIw (stepQ d) d.L.toNat d.s 0 x.1).getD x.1 [])) hwl k
   have hww : ∀ i, i < (exIw (stepQ d) d.L.toNat d.s 0 x.1).length → ((exIw (stepQ d) d.L.toNat d.s 0 x.1).getD i []).length ≤ 2 * (x.1 + 1) * 8 := fun i hi => exIw_wd x.1 i hi
   refine .skip ?_
   refine AK.then_ (hK8 _ ?_)
   refine .seq fun _ hK10 => ?_
   refine .block ?_
   refine .sr fun _ hK11 => ?_
   refine .as rfl (.nt hK11 (.block ?_))
   refine AK.loopK (X := Nat × Value × Value) [(1, _), (6, _), (7, _)] (fun y => [(4, y.2.1), (5, y.2.2), (8, .int .i64 (y.1 : Int))]) (fun y => [box bx1 36 4 [.int .i64 d.L, .int .i64 d.s, vF, vN], row y.2.1 3 1 (exR (stepQ d) ((exI (stepQ d) d.L.toNat d.s 0 x.1).getD x.1 0) (exI (stepQ d) d.L.toNat d.s 0 x.1) y.1).length ((exR (stepQ d) ((exI (stepQ d) d.L.toNat d.s 0 x.1).getD x.1 0) (exI (stepQ d) d.L.toNat d.s 0 x.1) y.1).map (Value.int .i64)), row y.2.2 9 1 (exRw (stepQ d) ((exI (stepQ d) d.L.toNat d.s 0 x.1).getD x.1 0) ((exIw (stepQ d) d.L.toNat d.s 0 x.1).getD x.1 []) (exI (stepQ d) d.L.toNat d.s 0 x.1) (exIw (stepQ d) d.L.toNat d.s 0 x.1) y.1).length ((exRw (stepQ d) ((exI (stepQ d) d.L.toNat d.s 0 x.1).getD x.1 0) ((exIw (stepQ d) d.L.toNat d.s 0 x.1).getD x.1 []) (exI (stepQ d) d.L.toNat d.s 0 x.1) (exIw (stepQ d) d.L.toNat d.s 0 x.1) y.1).map sv), row mv 4 1 d.fin.length ((metL d.fin.length (exR (stepQ d) ((exI (stepQ d) d.L.toNat d.s 0 x.1).getD x.1 0) (exI (stepQ d) d.L.toNat d.s 0 x.1) y.1)).map Value.bool)]) (fun y => (y.1 : Int) ≤ d.L ∧ IsSl y.2.1 ∧ IsSl y.2.2) (fun y => d.L.toNat - y.1) ((0, x.2.1, x.2.2)) slr ?_ ?_ ?_ ?_
   ·exact ⟨by dsimp only; omega, hg0.2.1, hg0.2.2⟩
   ·exact slr
   ·exact fun w hw => hw
   ·intro y hg1 _ hK12
    refine .seq fun _ hK13 => ?_
    refine .sr fun _ hK14 => ?_
    refine .mv rfl ?_
    refine .v (.fieldAddr fd36_0 rfl) ?_
    refine .v (.loadBox on3 rfl bsp rfl) ?_
    refine .v (.lss rfl rfl) ?_
    refine .nt hK14 ?_
    refine AK.condD rfl (fun hc1 => ?_) (fun hc1 => ?_)
    ·have hnq := mem_univ.1 (step_univ hv ((exI (stepQ d) d.L.toNat d.s 0 x.1).getD x.1 0) (mem_univ.2 hqU) y.1 (by omega))
     have hrb1 := hrb y.1 (by omega)
     have hrl3 := hrl2 y.1
     have hrp : (exIw (stepQ d) d.L.toNat d.s 0 x.1).length ≤ (exRw (stepQ d) ((exI (stepQ d) d.L.toNat d.s 0 x.1).getD x.1 0) ((exIw (stepQ d) d.L.toNat d.s 0 x.1).getD x.1 []) (exI (stepQ d) d.L.toNat d.s 0 x.1) (exIw (stepQ d) d.L.toNat d.s 0 x.1) y.1).length := by obtain ⟨ys, e⟩ := exRw_pre (stepQ d) ((exI (stepQ d) d.L.toNat d.s 0 x.1).getD x.1 0) ((exIw (stepQ d) d.L.toNat d.s 0 x.1).getD x.1 []) (exI (stepQ d) d.L.toNat d.s 0 x.1) (exIw (stepQ d) d.L.toNat d.s 0 x.1) y.1; rw [e, List.length_append]; omega
     have hgd : ((exR (stepQ d) ((exI (stepQ d) d.L.toNat d.s 0 x.1).getD x.1 0) (exI (stepQ d) d.L.toNat d.s 0 x.1) y.1).getD x.1 0) = ((exI (stepQ d) d.L.toNat d.s 0 x.1).getD x.1 0) := by obtain ⟨ys, e⟩ := exR_pre (stepQ d) ((exI (stepQ d) d.L.toNat d.s 0 x.1).getD x.1 0) (exI (stepQ d) d.L.toNat d.s 0 x.1) y.1; rw [e, getD_app 0 hlt]
     refine .skip ?_
     refine AK.then_ (hK13 _ ?_)
     refine .seq fun _ hK15 => ?_
     refine .block ?_
     refine .seq fun _ hK16 => ?_
     refine AK.quiet mixed krf ?_
     refine .v (.fieldAddr fd36_3 rfl) ?_
     refine .v (.loadBox on34 rfl bsp rfl) ?_
     refine .mv rfl (.mv rfl ?_)
     first | refine .v (.iN sl74 rfl rfl (hr := (by first | exact rdp | exact .arg (hNi _ (by omega))))) ?_ | refine .v (.iK sl74 rfl rfl (hr := (by first | exact rdp | exact .arg (hNi _ (by omega))))) ?_
     refine QK.val (.int .i64 ((exI (stepQ d) d.L.toNat d.s 0 x.1).getD x.1 0)) (Yl.valE (Yl.loadI on3 rfl (.own 1 rfl) (by omega)) (congrArg (Value.int .i64) hgd)) trivial rfl ?_
     first | refine .v (.iN sl34 rfl rfl (hr := (by first | exact rdp | exact .arg (hNi _ (by omega))))) ?_ | refine .v (.iK sl34 rfl rfl (hr := (by first | exact rdp | exact .arg (hNi _ (by omega))))) ?_
     refine .v (.loadV on74 rfl (by first | exact rdp | exact .arg (hNi _ (by omega))) (by omega)) ?_
     refine .mv rfl ?_
     first | refine .v (.iN sl74 rfl rfl (hr := (by first | exact rdp | exact .arg (hNi _ (by omega))))) ?_ | refine .v (.iK sl74 rfl rfl (hr := (by first | exact rdp | exact .arg (hNi _ (by omega))))) ?_
     refine QK.val (.int .i64 (stepQ d ((exI (stepQ d) d.L.toNat d.s 0 x.1).getD x.1 0) y.1)) (Yl.loadI on3 rfl (.arg (hNi _ (by omega))) (by omega)) trivial rfl ?_
     refine .as rfl ?_
     refine QK.nil (QK.fin ?_)
     refine AK.then_ (hK16 _ ?_)
     refine .sr fun _ hK17 => ?_
     refine .mv rfl (.mv rfl ?_)
     first | refine .v (.iN sl33 rfl rfl (hr := (by first | exact rdp | exact .arg (hNi _ (by omega))))) ?_ | refine .v (.iK sl33 rfl rfl (hr := (by first | exact rdp | exact .arg (hNi _ (by omega))))) ?_
     refine .v (.loadB on4 rfl (by first | exact rdp | exact .arg (hNi _ (by omega))) (by rw [metL_len]; omega)) ?_
     refine .v (.not rfl) ?_
     refine .nt hK17 ?_
     refine AK.condB rfl (fun hc2 => ?_) (fun hc2 => ?_)
     ·have hni : (stepQ d ((exI (stepQ d) d.L.toNat d.s 0 x.1).getD x.1 0) y.1) ∉ (exR (stepQ d) ((exI (stepQ d) d.L.toNat d.s 0 x.1).getD x.1 0) (exI (stepQ d) d.L.toNat d.s 0 x.1) y.1) := by
       rw [metL_get hnq] at hc2; simpa using hc2
      have hgw : ((exRw (stepQ d) ((exI (stepQ d) d.L.toNat d.s 0 x.1).getD x.1 0) ((exIw (stepQ d) d.L.toNat d.s 0 x.1).getD x.1 []) (exI (stepQ d) d.L.toNat d.s 0 x.1) (exIw (stepQ d) d.L.toNat d.s 0 x.1) y.1).getD x.1 []) = ((exIw (stepQ d) d.L.toNat d.s 0 x.1).getD x.1 []) := exRw_get _ (by omega)
      refine .sr fun _ hK18 => ?_
      refine .mv rfl (.mv rfl ?_)
      first | refine .v (.iN sl33 rfl rfl (hr := (by first | exact rdp | exact .arg (hNi _ (by omega))))) ?_ | refine .v (.iK sl33 rfl rfl (hr := (by first | exact rdp | exact .arg (hNi _ (by omega))))) ?_
      refine AK.store1e 3 rfl sz4 rfl rfl rfl rfl (by omega) (cs' := ((metL d.fin.length ((exR (stepQ d) ((exI (stepQ d) d.L.toNat d.s 0 x.1).getD x.1 0) (exI (stepQ d) d.L.toNat d.s 0 x.1) y.1) ++ [(stepQ d ((exI (stepQ d) d.L.toNat d.s 0 x.1).getD x.1 0) y.1)])).map Value.bool)) (by rw [← metL_set hnq, List.map_set]) trivial ?_
      refine .nt hK18 ?_
      refine AK.joinK (X := Value × Value) [(1, _), (6, _), (7, _), (8, _)] (fun z => [(4, z.1), (5, z.2)]) (fun z => [box bx1 36 4 [.int .i64 d.L, .int .i64 d.s, vF, vN], row z.1 3 1 ((exR (stepQ d) ((exI (stepQ d) d.L.toNat d.s 0 x.1).getD x.1 0) (exI (stepQ d) d.L.toNat d.s 0 x.1) y.1).length + 1) ((exR (stepQ d) ((exI (stepQ d) d.L.toNat d.s 0 x.1).getD x.1 0) (exI (stepQ d) d.L.toNat d.s 0 x.1) y.1).map (Value.int .i64) ++ [Value.int .i64 (stepQ d ((exI (stepQ d) d.L.toNat d.s 0 x.1).getD x.1 0) y.1)].flatMap (·.cells.toList)), row z.2 9 1 ((exRw (stepQ d) ((exI (stepQ d) d.L.toNat d.s 0 x.1).getD x.1 0) ((exIw (stepQ d) d.L.toNat d.s 0 x.1).getD x.1 []) (exI (stepQ d) d.L.toNat d.s 0 x.1) (exIw (stepQ d) d.L.toNat d.s 0 x.1) y.1).length + 1) ((exRw (stepQ d) ((exI (stepQ d) d.L.toNat d.s 0 x.1).getD x.1 0) ((exIw (stepQ d) d.L.toNat d.s 0 x.1).getD x.1 []) (exI (stepQ d) d.L.toNat d.s 0 x.1) (exIw (stepQ d) d.L.toNat d.s 0 x.1) y.1).map sv ++ [sv ((exRw (stepQ d) ((exI (stepQ d) d.L.toNat d.s 0 x.1).getD x.1 0) ((exIw (stepQ d) d.L.toNat d.s 0 x.1).getD x.1 []) (exI (stepQ d) d.L.toNat d.s 0 x.1) (exIw (stepQ d) d.L.toNat d.s 0 x.1) y.1).getD x.1 [] ++ [ltr y.1])].flatMap (·.cells.toList)), row mv 4 1 d.fin.length ((metL d.fin.length ((exR (stepQ d) ((exI (stepQ d) d.L.toNat d.s 0 x.1).getD x.1 0) (exI (stepQ d) d.L.toNat d.s 0 x.1) y.1) ++ [(stepQ d ((exI (stepQ d) d.L.toNat d.s 0 x.1).getD x.1 0) y.1)])).map Value.bool)]) (fun z => IsSl z.1 ∧ IsSl z.2) slr (fun _ hJ => ?_) (fun z hg => ?_)
      ·try (conv => enter [2, 2]; dsimp only [List.set_cons_zero, List.set_cons_succ, List.cons_append, List.nil_append])
       refine AK.held 19 mixed ?_
       refine HeldK.first 0 (fuel := 18) (listed' := (lb 19 1)) _ rfl krf krf rfl (Yl.move rfl) trivial rfl ?_
       refine HeldK.first 1 (fuel := 17) (listed' := (lb 19 3)) _ rfl krf krf rfl (Yl.move rfl) trivial rfl ?_
       refine HeldK.first 4 (fuel := 16) (listed' := (lb 19 19)) _ rfl krf krf rfl (Yl.move rfl) trivial rfl ?_
       refine HeldK.first 5 (fuel := 15) (listed' := (lb 19 51)) _ rfl krf krf rfl (Yl.move rfl) trivial rfl ?_
       refine HeldK.first 6 (fuel := 14) (listed' := (lb 19 115)) _ rfl krf krf rfl (Yl.move rfl) trivial rfl ?_
       first | refine HeldK.first 7 (fuel := 13) (listed' := (lb 19 243)) _ rfl krf krf rfl (.iN sl53 rfl rfl (hr := (by first | exact rdp | exact .arg (hNi _ (by omega))))) trivial rfl ?_ | refine HeldK.first 7 (fuel := 13) (listed' := (lb 19 243)) _ rfl krf krf rfl (.iK sl53 rfl rfl (hr := (by first | exact rdp | exact .arg (hNi _ (by omega))))) trivial rfl ?_
       refine HeldK.first 8 (fuel := 12) (listed' := (lb 19 499)) _ rfl krf krf rfl (Yl.loadS on9 rfl (by first | exact rdp | exact .arg (hNi _ (by omega))) (by omega)) trivial rfl ?_
       refine HeldK.first 9 (fuel := 11) (listed' := (lb 19 1011)) _ rfl krf krf rfl (Yl.move rfl) trivial rfl ?_
       refine HeldK.first 10 (fuel := 10) (listed' := (lb 19 2035)) _ rfl krf krf rfl (Yl.add rfl rfl (by omega)) trivial rfl ?_
       refine HeldK.first 11 (fuel := 9) (listed' := (lb 19 4083)) _ rfl krf krf rfl (Yl.convI (by kernel_rfl) un5 rfl (wrap_u8 (by omega))) trivial rfl ?_
       refine HeldK.two 2 12 (fuel := 8) (listed1 := (lb 19 4087)) (listed2 := (lb 19 8179)) krf rfl rfl krf krf ?_ ?_
       ·refine AK.lit (xs := [.tmp 54]) sl74 el3 rfl rfl rfl (by intro a ha; simp at ha; subst ha; rfl) (by decide) (by decide) trivial rfl (fun t1 => ?_)
        refine .nil ?_
        try (conv => enter [2, 2]; dsimp only [List.set_cons_zero, List.set_cons_succ, List.cons_append, List.nil_append])
        refine HeldK.back Go.Sx.hle ?_
        refine HeldK.two 3 12 (fuel := 7) (listed1 := (lb 19 4095)) (listed2 := (lb 19 8183)) krf rfl rfl krf krf ?_ ?_
        ·refine AK.appendH 1 rfl sl74 el3 rfl (by decide) rfl rfl rfl (by first | exact rdp | exact .arg (hNi _ (by omega))) oneP (by omega) (by omega) trivial rfl (fun va ha => ?_)
         refine .nil ?_
         try (conv => enter [2, 2]; dsimp only [List.set_cons_zero, List.set_cons_succ, List.cons_append, List.nil_append])
         refine HeldK.back Go.Sx.hle ?_
         refine HeldK.one 12 (fuel := 6) (listed' := (lb 19 8191)) krf rfl krf ?_
         refine AK.lit (xs := [.tmp 64]) sl78 el5 rfl rfl rfl (by intro a ha; simp at ha; subst ha; rfl) (by decide) (by decide) trivial rfl (fun t2 => ?_)
         refine .nil ?_
         try (conv => enter [2, 2]; dsimp only [List.set_cons_zero, List.set_cons_succ, List.cons_append, List.nil_append])
         refine HeldK.back Go.Sx.hle ?_
         first | refine HeldK.first 13 (fuel := 5) (listed' := (lb 19 16383)) _ rfl krf krf rfl (Yl.bytesLtr 4 y.1 rfl (by omega) sl78.1 un5 un9 rfl) trivial rfl ?_ | refine HeldK.first 13 (fuel := 5) (listed' := (lb 19 16383)) _ rfl krf krf rfl (Yl.bytesLtr 5 y.1 rfl (by omega) sl78.1 un5 un9 rfl) trivial rfl ?_
         refine HeldK.first 14 (fuel := 4) (listed' := (lb 19 32767)) _ rfl krf krf rfl (Yl.concat rfl rfl (by rw [hgw]; have := hww x.1 (by omega); simp only [List.length_cons, List.length_nil]; omega)) trivial rfl ?_
         refine HeldK.one 15 (fuel := 3) (listed' := (lb 19 65535)) krf rfl krf ?_
         refine AK.lit (xs := [.tmp 67]) sl53 el9 rfl rfl rfl (by intro a ha; simp at ha; subst ha; rfl) (by decide) (by decide) trivial rfl (fun t3 => ?_)
         refine .nil ?_
         try (conv => enter [2, 2]; dsimp only [List.set_cons_zero, List.set_cons_succ, List.cons_append, List.nil_append])
         refine HeldK.back Go.Sx.hle ?_
         refine HeldK.one 16 (fuel := 2) (listed' := (lb 19 131071)) krf rfl krf ?_
         refine AK.appendH 2 rfl sl53 el9 rfl (by decide) rfl rfl rfl (by first | exact rdp | exact .arg (hNi _ (by omega))) oneP (by omega) (by omega) trivial rfl (fun vb hb => ?_)
         refine .nil ?_
         try (conv => enter [2, 2]; dsimp only [List.set_cons_zero, List.set_cons_succ, List.cons_append, List.nil_append])
         refine HeldK.back Go.Sx.hle ?_
         refine HeldK.first 17 (fuel := 1) (listed' := (lb 19 262143)) _ rfl krf krf rfl (Yl.assign rfl) trivial rfl ?_
         refine HeldK.first 18 (fuel := 0) (listed' := (lb 19 524287)) _ rfl krf krf rfl (Yl.assign rfl) trivial rfl ?_
         refine HeldK.done krf ?_
         exact hJ _ _ ((va, vb)) ⟨ha, hb⟩ (slr) (fun w hw => by first | exact hw.pickLe [0, 1, 2, 3] (by decide) pkl)
        ·refine AK.lit (xs := [.tmp 64]) sl78 el5 rfl rfl rfl (by intro a ha; simp at ha; subst ha; rfl) (by decide) (by decide) trivial rfl (fun t2 => ?_)
         refine .nil ?_
         try (conv => enter [2, 2]; dsimp only [List.set_cons_zero, List.set_cons_succ, List.cons_append, List.nil_append])
         refine HeldK.back Go.Sx.hle ?_
         first | refine HeldK.first 13 (fuel := 6) (listed' := (lb 19 16375)) _ rfl krf krf rfl (Yl.bytesLtr 4 y.1 rfl (by omega) sl78.1 un5 un9 rfl) trivial rfl ?_ | refine HeldK.first 13 (fuel := 6) (listed' := (lb 19 16375)) _ rfl krf krf rfl (Yl.bytesLtr 5 y.1 rfl (by omega) sl78.1 un5 un9 rfl) trivial rfl ?_
         refine HeldK.first 14 (fuel := 5) (listed' := (lb 19 32759)) _ rfl krf krf rfl (Yl.concat rfl rfl (by rw [hgw]; have := hww x.1 (by omega); simp only [List.length_cons, List.length_nil]; omega)) trivial rfl ?_
         refine HeldK.two 3 15 (fuel := 4) (listed1 := (lb 19 32767)) (listed2 := (lb 19 65527)) krf rfl rfl krf krf ?_ ?_
         ·refine AK.appendH 1 rfl sl74 el3 rfl (by decide) rfl rfl rfl (by first | exact rdp | exact .arg (hNi _ (by omega))) oneP (by omega) (by omega) trivial rfl (fun va ha => ?_)
          refine .nil ?_
          try (conv => enter [2, 2]; dsimp only [List.set_cons_zero, List.set_cons_succ, List.cons_append, List.nil_append])
          refine HeldK.back Go.Sx.hle ?_
          refine HeldK.one 15 (fuel := 3) (listed' := (lb 19 65535)) krf rfl krf ?_
          refine AK.lit (xs := [.tmp 67]) sl53 el9 rfl rfl rfl (by intro a ha; simp at ha; subst ha; rfl) (by decide) (by decide) trivial rfl (fun t3 => ?_)
          refine .nil ?_
          try (conv => enter [2, 2]; dsimp only [List.set_cons_zero, List.set_cons_succ, List.cons_append, List.nil_append])
          refine HeldK.back Go.Sx.hle ?_
          refine HeldK.one 16 (fuel := 2) (listed' := (lb 19 131071)) krf rfl krf ?_
          refine AK.appendH 2 rfl sl53 el9 rfl (by decide) rfl rfl rfl (by first | exact rdp | exact .arg (hNi _ (by omega))) oneP (by omega) (by omega) trivial rfl (fun vb hb => ?_)
          refine .nil ?_
          try (conv => enter [2, 2]; dsimp only [List.set_cons_zero, List.set_cons_succ, List.cons_append, List.nil_append])
          refine HeldK.back Go.Sx.hle ?_
          refine HeldK.first 17 (fuel := 1) (listed' := (lb 19 262143)) _ rfl krf krf rfl (Yl.assign rfl) trivial rfl ?_
          refine HeldK.first 18 (fuel := 0) (listed' := (lb 19 524287)) _ rfl krf krf rfl (Yl.assign rfl) trivial rfl ?_
          refine HeldK.done krf ?_
          exact hJ _ _ ((va, vb)) ⟨ha, hb⟩ (slr) (fun w hw => by first | exact hw.pickLe [0, 1, 2, 3] (by decide) pkl)
         ·refine AK.lit (xs := [.tmp 67]) sl53 el9 rfl rfl rfl (by intro a ha; simp at ha; subst ha; rfl) (by decide) (by decide) trivial rfl (fun t3 => ?_)
          refine .nil ?_
          try (conv => enter [2, 2]; dsimp only [List.set_cons_zero, List.set_cons_succ, List.cons_append, List.nil_append])
          refine HeldK.back Go.Sx.hle ?_
          refine HeldK.one 3 (fuel := 3) (listed' := (lb 19 65535)) krf rfl krf ?_
          refine AK.appendH 1 rfl sl74 el3 rfl (by decide) rfl rfl rfl (by first | exact rdp | exact .arg (hNi _ (by omega))) oneP (by omega) (by omega) trivial rfl (fun va ha => ?_)
          refine .nil ?_
          try (conv => enter [2, 2]; dsimp only [List.set_cons_zero, List.set_cons_succ, List.cons_append, List.nil_append])
          refine HeldK.back Go.Sx.hle ?_
          refine HeldK.one 16 (fuel := 2) (listed' := (lb 19 131071)) krf rfl krf ?_
          refine AK.appendH 2 rfl sl53 el9 rfl (by decide) rfl rfl rfl (by first | exact rdp | exact .arg (hNi _ (by omega))) oneP (by omega) (by omega) trivial rfl (fun vb hb => ?_)
          refine .nil ?_
          try (conv => enter [2, 2]; dsimp only [List.set_cons_zero, List.set_cons_succ, List.cons_append, List.nil_append])
          refine HeldK.back Go.Sx.hle ?_
          refine HeldK.first 17 (fuel := 1) (listed' := (lb 19 262143)) _ rfl krf krf rfl (Yl.assign rfl) trivial rfl ?_
          refine HeldK.first 18 (fuel := 0) (listed' := (lb 19 524287)) _ rfl krf krf rfl (Yl.assign rfl) trivial rfl ?_
          refine HeldK.done krf ?_
          exact hJ _ _ ((va, vb)) ⟨ha, hb⟩ (slr) (fun w hw => by first | exact hw.pickLe [0, 1, 2, 3] (by decide) pkl)
       ·refine AK.lit (xs := [.tmp 64]) sl78 el5 rfl rfl rfl (by intro a ha; simp at ha; subst ha; rfl) (by decide) (by decide) trivial rfl (fun t2 => ?_)
        refine .nil ?_
        try (conv => enter [2, 2]; dsimp only [List.set_cons_zero, List.set_cons_succ, List.cons_append, List.nil_append])
        refine HeldK.back Go.Sx.hle ?_
        first | refine HeldK.first 13 (fuel := 7) (listed' := (lb 19 16371)) _ rfl krf krf rfl (Yl.bytesLtr 4 y.1 rfl (by omega) sl78.1 un5 un9 rfl) trivial rfl ?_ | refine HeldK.first 13 (fuel := 7) (listed' := (lb 19 16371)) _ rfl krf krf rfl (Yl.bytesLtr 5 y.1 rfl (by omega) sl78.1 un5 un9 rfl) trivial rfl ?_
        refine HeldK.first 14 (fuel := 6) (listed' := (lb 19 32755)) _ rfl krf krf rfl (Yl.concat rfl rfl (by rw [hgw]; have := hww x.1 (by omega); simp only [List.length_cons, List.length_nil]; omega)) trivial rfl ?_
        refine HeldK.two 2 15 (fuel := 5) (listed1 := (lb 19 32759)) (listed2 := (lb 19 65523)) krf rfl rfl krf krf ?_ ?_
        ·refine AK.lit (xs := [.tmp 54]) sl74 el3 rfl rfl rfl (by intro a ha; simp at ha; subst ha; rfl) (by decide) (by decide) trivial rfl (fun t1 => ?_)
         refine .nil ?_
         try (conv => enter [2, 2]; dsimp only [List.set_cons_zero, List.set_cons_succ, List.cons_append, List.nil_append])
         refine HeldK.back Go.Sx.hle ?_
         refine HeldK.two 3 15 (fuel := 4) (listed1 := (lb 19 32767)) (listed2 := (lb 19 65527)) krf rfl rfl krf krf ?_ ?_
         ·refine AK.appendH 1 rfl sl74 el3 rfl (by decide) rfl rfl rfl (by first | exact rdp | exact .arg (hNi _ (by omega))) oneP (by omega) (by omega) trivial rfl (fun va ha => ?_)
          refine .nil ?_
          try (conv => enter [2, 2]; dsimp only [List.set_cons_zero, List.set_cons_succ, List.cons_append, List.nil_append])
          refine HeldK.back Go.Sx.hle ?_
          refine HeldK.one 15 (fuel := 3) (listed' := (lb 19 65535)) krf rfl krf ?_
          refine AK.lit (xs := [.tmp 67]) sl53 el9 rfl rfl rfl (by intro a ha; simp at ha; subst ha; rfl) (by decide) (by decide) trivial rfl (fun t3 => ?_)
          refine .nil ?_
          try (conv => enter [2, 2]; dsimp only [List.set_cons_zero, List.set_cons_succ, List.cons_append, List.nil_append])
          refine HeldK.back Go.Sx.hle ?_
          refine HeldK.one 16 (fuel := 2) (listed' := (lb 19 131071)) krf rfl krf ?_
          refine AK.appendH 2 rfl sl53 el9 rfl (by decide) rfl rfl rfl (by first | exact rdp | exact .arg (hNi _ (by omega))) oneP (by omega) (by omega) trivial rfl (fun vb hb => ?_)
          refine .nil ?_
          try (conv => enter [2, 2]; dsimp only [List.set_cons_zero, List.set_cons_succ, List.cons_append, List.nil_append])
          refine HeldK.back Go.Sx.hle ?_
          refine HeldK.first 17 (fuel := 1) (listed' := (lb 19 262143)) _ rfl krf krf rfl (Yl.assign rfl) trivial rfl ?_
          refine HeldK.first 18 (fuel := 0) (listed' := (lb 19 524287)) _ rfl krf krf rfl (Yl.assign rfl) trivial rfl ?_
          refine HeldK.done krf ?_
          exact hJ _ _ ((va, vb)) ⟨ha, hb⟩ (slr) (fun w hw => by first | exact hw.pickLe [0, 1, 2, 3] (by decide) pkl)
         ·refine AK.lit (xs := [.tmp 67]) sl53 el9 rfl rfl rfl (by intro a ha; simp at ha; subst ha; rfl) (by decide) (by decide) trivial rfl (fun t3 => ?_)
          refine .nil ?_
          try (conv => enter [2, 2]; dsimp only [List.set_cons_zero, List.set_cons_succ, List.cons_append, List.nil_append])
          refine HeldK.back Go.Sx.hle ?_
          refine HeldK.one 3 (fuel := 3) (listed' := (lb 19 65535)) krf rfl krf ?_
          refine AK.appendH 1 rfl sl74 el3 rfl (by decide) rfl rfl rfl (by first | exact rdp | exact .arg (hNi _ (by omega))) oneP (by omega) (by omega) trivial rfl (fun va ha => ?_)
          refine .nil ?_
          try (conv => enter [2, 2]; dsimp only [List.set_cons_zero, List.set_cons_succ, List.cons_append, List.nil_append])
          refine HeldK.back Go.Sx.hle ?_
          refine HeldK.one 16 (fuel := 2) (listed' := (lb 19 131071)) krf rfl krf ?_
          refine AK.appendH 2 rfl sl53 el9 rfl (by decide) rfl rfl rfl (by first | exact rdp | exact .arg (hNi _ (by omega))) oneP (by omega) (by omega) trivial rfl (fun vb hb => ?_)
          refine .nil ?_
          try (conv => enter [2, 2]; dsimp only [List.set_cons_zero, List.set_cons_succ, List.cons_append, List.nil_append])
          refine HeldK.back Go.Sx.hle ?_
          refine HeldK.first 17 (fuel := 1) (listed' := (lb 19 262143)) _ rfl krf krf rfl (Yl.assign rfl) trivial rfl ?_
          refine HeldK.first 18 (fuel := 0) (listed' := (lb 19 524287)) _ rfl krf krf rfl (Yl.assign rfl) trivial rfl ?_
          refine HeldK.done krf ?_
          exact hJ _ _ ((va, vb)) ⟨ha, hb⟩ (slr) (fun w hw => by first | exact hw.pickLe [0, 1, 2, 3] (by decide) pkl)
        ·refine AK.lit (xs := [.tmp 67]) sl53 el9 rfl rfl rfl (by intro a ha; simp at ha; subst ha; rfl) (by decide) (by decide) trivial rfl (fun t3 => ?_)
         refine .nil ?_
         try (conv => enter [2, 2]; dsimp only [List.set_cons_zero, List.set_cons_succ, List.cons_append, List.nil_append])
         refine HeldK.back Go.Sx.hle ?_
         refine HeldK.one 2 (fuel := 4) (listed' := (lb 19 65527)) krf rfl krf ?_
         refine AK.lit (xs := [.tmp 54]) sl74 el3 rfl rfl rfl (by intro a ha; simp at ha; subst ha; rfl) (by decide) (by decide) trivial rfl (fun t1 => ?_)
         refine .nil ?_
         try (conv => enter [2, 2]; dsimp only [List.set_cons_zero, List.set_cons_succ, List.cons_append, List.nil_append])
         refine HeldK.back Go.Sx.hle ?_
         refine HeldK.one 3 (fuel := 3) (listed' := (lb 19 65535)) krf rfl krf ?_
         refine AK.appendH 1 rfl sl74 el3 rfl (by decide) rfl rfl rfl (by first | exact rdp | exact .arg (hNi _ (by omega))) oneP (by omega) (by omega) trivial rfl (fun va ha => ?_)
         refine .nil ?_
         try (conv => enter [2, 2]; dsimp only [List.set_cons_zero, List.set_cons_succ, List.cons_append, List.nil_append])
         refine HeldK.back Go.Sx.hle ?_
         refine HeldK.one 16 (fuel := 2) (listed' := (lb 19 131071)) krf rfl krf ?_
         refine AK.appendH 2 rfl sl53 el9 rfl (by decide) rfl rfl rfl (by first | exact rdp | exact .arg (hNi _ (by omega))) oneP (by omega) (by omega) trivial rfl (fun vb hb => ?_)
         refine .nil ?_
         try (conv => enter [2, 2]; dsimp only [List.set_cons_zero, List.set_cons_succ, List.cons_append, List.nil_append])
         refine HeldK.back Go.Sx.hle ?_
         refine HeldK.first 17 (fuel := 1) (listed' := (lb 19 262143)) _ rfl krf krf rfl (Yl.assign rfl) trivial rfl ?_
         refine HeldK.first 18 (fuel := 0) (listed' := (lb 19 524287)) _ rfl krf krf rfl (Yl.assign rfl) trivial rfl ?_
         refine HeldK.done krf ?_
         exact hJ _ _ ((va, vb)) ⟨ha, hb⟩ (slr) (fun w hw => by first | exact hw.pickLe [0, 1, 2, 3] (by decide) pkl)
      ·skip
       refine .block_normal ?_
       refine AK.then_ (hK15 _ ?_)
       refine AK.region ?_
       refine .mv rfl ?_
       refine .v (.add rfl rfl (by omega)) ?_
       refine .as rfl (.nil ?_)
       first | refine AK.then_ (hK12 _ _ ((y.1 + 1, z.1, z.2)) ⟨by dsimp only; omega, hg.1, hg.2⟩ (by dsimp only; omega) (slr) (fun w hw => by
  dsimp only
  rw [show (exR (stepQ d) ((exI (stepQ d) d.L.toNat d.s 0 x.1).getD x.1 0) (exI (stepQ d) d.L.toNat d.s 0 x.1) (y.1 + 1)) = (exR (stepQ d) ((exI (stepQ d) d.L.toNat d.s 0 x.1).getD x.1 0) (exI (stepQ d) d.L.toNat d.s 0 x.1) y.1) ++ [(stepQ d ((exI (stepQ d) d.L.toNat d.s 0 x.1).getD x.1 0) y.1)] from if_neg hni]
  rw [show (exRw (stepQ d) ((exI (stepQ d) d.L.toNat d.s 0 x.1).getD x.1 0) ((exIw (stepQ d) d.L.toNat d.s 0 x.1).getD x.1 []) (exI (stepQ d) d.L.toNat d.s 0 x.1) (exIw (stepQ d) d.L.toNat d.s 0 x.1) (y.1 + 1)) = (exRw (stepQ d) ((exI (stepQ d) d.L.toNat d.s 0 x.1).getD x.1 0) ((exIw (stepQ d) d.L.toNat d.s 0 x.1).getD x.1 []) (exI (stepQ d) d.L.toNat d.s 0 x.1) (exIw (stepQ d) d.L.toNat d.s 0 x.1) y.1) ++ [((exIw (stepQ d) d.L.toNat d.s 0 x.1).getD x.1 []) ++ [ltr y.1]] from if_neg hni]
  rw [hgw] at hw
  simpa [Value.cells, sv] using hw)) | refine AK.then_ (hK12 _ _ ((y.1 + 1, y.2.1, y.2.2)) ⟨by dsimp only; omega, hg1.2.1, hg1.2.2⟩ (by dsimp only; omega) (slr) (fun w hw => by
  dsimp only
  rw [show (exR (stepQ d) ((exI (stepQ d) d.L.toNat d.s 0 x.1).getD x.1 0) (exI (stepQ d) d.L.toNat d.s 0 x.1) (y.1 + 1)) = (exR (stepQ d) ((exI (stepQ d) d.L.toNat d.s 0 x.1).getD x.1 0) (exI (stepQ d) d.L.toNat d.s 0 x.1) y.1) from if_pos hin]
  rw [show (exRw (stepQ d) ((exI (stepQ d) d.L.toNat d.s 0 x.1).getD x.1 0) ((exIw (stepQ d) d.L.toNat d.s 0 x.1).getD x.1 []) (exI (stepQ d) d.L.toNat d.s 0 x.1) (exIw (stepQ d) d.L.toNat d.s 0 x.1) (y.1 + 1)) = (exRw (stepQ d) ((exI (stepQ d) d.L.toNat d.s 0 x.1).getD x.1 0) ((exIw (stepQ d) d.L.toNat d.s 0 x.1).getD x.1 []) (exI (stepQ d) d.L.toNat d.s 0 x.1) (exIw (stepQ d) d.L.toNat d.s 0 x.1) y.1) from if_pos hin]
  exact hw))
     ·have hin : (stepQ d ((exI (stepQ d) d.L.toNat d.s 0 x.1).getD x.1 0) y.1) ∈ (exR (stepQ d) ((exI (stepQ d) d.L.toNat d.s 0 x.1).getD x.1 0) (exI (stepQ d) d.L.toNat d.s 0 x.1) y.1) := by
       rw [metL_get hnq] at hc2; simpa using hc2
      refine .skip (.block_normal ?_)
      refine AK.then_ (hK15 _ ?_)
      refine AK.region ?_
      refine .mv rfl ?_
      refine .v (.add rfl rfl (by omega)) ?_
      refine .as rfl (.nil ?_)
      first | refine AK.then_ (hK12 _ _ ((y.1 + 1, z.1, z.2)) ⟨by dsimp only; omega, hg.1, hg.2⟩ (by dsimp only; omega) (slr) (fun w hw => by
  dsimp only
  rw [show (exR (stepQ d) ((exI (stepQ d) d.L.toNat d.s 0 x.1).getD x.1 0) (exI (stepQ d) d.L.toNat d.s 0 x.1) (y.1 + 1)) = (exR (stepQ d) ((exI (stepQ d) d.L.toNat d.s 0 x.1).getD x.1 0) (exI (stepQ d) d.L.toNat d.s 0 x.1) y.1) ++ [(stepQ d ((exI (stepQ d) d.L.toNat d.s 0 x.1).getD x.1 0) y.1)] from if_neg hni]
  rw [show (exRw (stepQ d) ((exI (stepQ d) d.L.toNat d.s 0 x.1).getD x.1 0) ((exIw (stepQ d) d.L.toNat d.s 0 x.1).getD x.1 []) (exI (stepQ d) d.L.toNat d.s 0 x.1) (exIw (stepQ d) d.L.toNat d.s 0 x.1) (y.1 + 1)) = (exRw (stepQ d) ((exI (stepQ d) d.L.toNat d.s 0 x.1).getD x.1 0) ((exIw (stepQ d) d.L.toNat d.s 0 x.1).getD x.1 []) (exI (stepQ d) d.L.toNat d.s 0 x.1) (exIw (stepQ d) d.L.toNat d.s 0 x.1) y.1) ++ [((exIw (stepQ d) d.L.toNat d.s 0 x.1).getD x.1 []) ++ [ltr y.1]] from if_neg hni]
  rw [hgw] at hw
  simpa [Value.cells, sv] using hw)) | refine AK.then_ (hK12 _ _ ((y.1 + 1, y.2.1, y.2.2)) ⟨by dsimp only; omega, hg1.2.1, hg1.2.2⟩ (by dsimp only; omega) (slr) (fun w hw => by
  dsimp only
  rw [show (exR (stepQ d) ((exI (stepQ d) d.L.toNat d.s 0 x.1).getD x.1 0) (exI (stepQ d) d.L.toNat d.s 0 x.1) (y.1 + 1)) = (exR (stepQ d) ((exI (stepQ d) d.L.toNat d.s 0 x.1).getD x.1 0) (exI (stepQ d) d.L.toNat d.s 0 x.1) y.1) from if_pos hin]
  rw [show (exRw (stepQ d) ((exI (stepQ d) d.L.toNat d.s 0 x.1).getD x.1 0) ((exIw (stepQ d) d.L.toNat d.s 0 x.1).getD x.1 []) (exI (stepQ d) d.L.toNat d.s 0 x.1) (exIw (stepQ d) d.L.toNat d.s 0 x.1) (y.1 + 1)) = (exRw (stepQ d) ((exI (stepQ d) d.L.toNat d.s 0 x.1).getD x.1 0) ((exIw (stepQ d) d.L.toNat d.s 0 x.1).getD x.1 []) (exI (stepQ d) d.L.toNat d.s 0 x.1) (exIw (stepQ d) d.L.toNat d.s 0 x.1) y.1) from if_pos hin]
  exact hw))
    ·refine .exit (.then_exit (.then_exit (.block_exit (.block_normal ?_))))
     refine AK.then_ (hK10 _ ?_)
     refine AK.region ?_
     refine .mv rfl ?_
     refine .v (.add rfl rfl (by omega)) ?_
     refine .as rfl (.nil ?_)
     refine AK.then_ (hK7 _ _ ((x.1 + 1, y.2.1, y.2.2)) ⟨by dsimp only; rw [exI_next hlt]; have := exR_pre (stepQ d) ((exI (stepQ d) d.L.toNat d.s 0 x.1).getD x.1 0) (exI (stepQ d) d.L.toNat d.s 0 x.1) d.L.toNat; obtain ⟨ys, e⟩ := this; rw [e, List.length_append]; omega, hg1.2.1, hg1.2.2⟩ (by dsimp only; omega) (slr) (fun w hw => by dsimp only; rw [exI_next hlt, exIw_next hlt]; rw [show y.1 = d.L.toNat by omega] at hw; exact hw))
  ·refine .exit (.then_exit (.then_exit (.block_exit ?_)))
   refine AK.then_ (hK5 _ ?_)
   refine .sr fun _ hK19 => ?_
   refine .mv rfl (.mv rfl (.as rfl (.as rfl (.nt hK19 (.ret ?_)))))
   refine AK.ret2 rfl rfl rfl (fun w hw => ⟨_, _, ?_, rfl, Ret.of (hw.pick [1, 2] (by decide) rfl rfl)⟩)
   refine ⟨x.2.1, x.2.2, hg0.2.1, hg0.2.2, rfl, ?_⟩
   have hn : x.1 = (exI (stepQ d) d.L.toNat d.s 0 x.1).length := (by omega)
   have e1 := (trim_is hv hn).1
   have e2 := exIw_final (start_univ hv) (step_univ hv) hn
   rw [univ_len] at e2
   rw [← e1, show TWo d = (exIw (stepQ d) d.L.toNat d.s 0 x.1) from e2]; rfl

end Go.Proofs.Ytaeojcaidcjnaaa
