import Derived.Test.YtoikhoniogicdaaD8
import Derived.Test.YtoikhoniogicdaaS2
import Derived.Test.YtoikhoniogicdaaDP
set_option linter.unusedVariables false
set_option linter.unusedSimpArgs false
namespace Go.Proofs.Ytoikhoniogicdaa
open Go.Sx Go.RowKit
theorem acc_next {d : Dfa} (hv : VD d) {i : Nat} (hi : i < (TSt d).length) :
    i < (exI (stepQ d) d.L.toNat d.s 0 i).length ∧ (TrimV d).nx.getD i [] = (List.range d.L.toNat).map (fun x => ((posN (TSt d) (stepQ d ((exI (stepQ d) d.L.toNat d.s 0 i).getD i 0) x) : Nat) : Int)) := by
  obtain ⟨h1, h2, h3⟩ := tst_fix hv
  refine ⟨exI_all h1 i hi, ?_⟩
  have e := (exI_at h1 hi).1
  rw [h2] at e
  rw [show TrimV d = trimD d from if_pos hv]
  unfold trimD
  rw [← e]
  simp [List.getD_eq_getElem?_getD, hi]
theorem acc_new {d : Dfa} (hv : VD d) {i : Nat} (hi : i < (TSt d).length) {j : Nat} (hj : j < d.L.toNat) (q : Int) (eq : q = (exI (stepQ d) d.L.toNat d.s 0 i).getD i 0) (l : List Int) (el : l = exI (stepQ d) d.L.toNat d.s 0 i) (h : posN (TSt d) (stepQ d q j) = (exR (stepQ d) q l j).length) :
    stepQ d q j ∉ exR (stepQ d) q l j ∧ (exR (stepQ d) q l j).length < (TSt d).length := by
  subst eq; subst el
  obtain ⟨h1, h2, h3⟩ := tst_fix hv
  obtain ⟨⟨ys, e⟩, _⟩ := exR_in h1 hi (k := j + 1) (by omega)
  rw [h2] at e
  have hm : stepQ d ((exI (stepQ d) d.L.toNat d.s 0 i).getD i 0) j ∈ exR (stepQ d) ((exI (stepQ d) d.L.toNat d.s 0 i).getD i 0) (exI (stepQ d) d.L.toNat d.s 0 i) (j + 1) := insN_mem _ _
  have hm2 : stepQ d ((exI (stepQ d) d.L.toNat d.s 0 i).getD i 0) j ∈ TSt d := by rw [e]; exact List.mem_append_left _ hm
  refine ⟨fun hin => ?_, by rw [← h]; exact posN_lt hm2⟩
  obtain ⟨⟨zs, e2⟩, _⟩ := exR_in h1 hi (k := j) (by omega)
  rw [h2] at e2
  rw [e2, posN_append _ hin] at h
  have := posN_lt hin; omega
theorem acc_old {d : Dfa} (hv : VD d) {i : Nat} (hi : i < (TSt d).length) {j : Nat} (hj : j < d.L.toNat) (q : Int) (eq : q = (exI (stepQ d) d.L.toNat d.s 0 i).getD i 0) (l : List Int) (el : l = exI (stepQ d) d.L.toNat d.s 0 i) (h : ¬ posN (TSt d) (stepQ d q j) = (exR (stepQ d) q l j).length) :
    stepQ d q j ∈ exR (stepQ d) q l j := by
  subst eq; subst el
  obtain ⟨h1, h2, h3⟩ := tst_fix hv
  obtain ⟨⟨ys, e⟩, _⟩ := exR_in h1 hi (k := j + 1) (by omega)
  rw [h2] at e
  have hm : stepQ d ((exI (stepQ d) d.L.toNat d.s 0 i).getD i 0) j ∈ exR (stepQ d) ((exI (stepQ d) d.L.toNat d.s 0 i).getD i 0) (exI (stepQ d) d.L.toNat d.s 0 i) (j + 1) := insN_mem _ _
  by_cases hin : stepQ d ((exI (stepQ d) d.L.toNat d.s 0 i).getD i 0) j ∈ exR (stepQ d) ((exI (stepQ d) d.L.toNat d.s 0 i).getD i 0) (exI (stepQ d) d.L.toNat d.s 0 i) j
  · exact hin
  · refine absurd ?_ h
    rw [e, posN_append _ hm, show exR (stepQ d) ((exI (stepQ d) d.L.toNat d.s 0 i).getD i 0) (exI (stepQ d) d.L.toNat d.s 0 i) (j + 1) = exR (stepQ d) ((exI (stepQ d) d.L.toNat d.s 0 i).getD i 0) (exI (stepQ d) d.L.toNat d.s 0 i) j ++ [stepQ d ((exI (stepQ d) d.L.toNat d.s 0 i).getD i 0) j] from if_neg hin]
    have : ∀ (xs : List Int) (y : Int), y ∉ xs → posN (xs ++ [y]) y = xs.length := fun xs y hy => by
      induction xs with
      | nil => simp [posN]
      | cons b xs ih =>
        simp only [List.mem_cons, not_or] at hy
        simp only [List.cons_append, posN, if_neg hy.1, ih hy.2, List.length_cons]
    exact this _ _ hin
theorem trimV_le (d : Dfa) : (TrimV d).fin.length ≤ 512 ∧ (TrimV d).nx.length = (TrimV d).fin.length := by
  unfold TrimV
  split
  · rename_i hv
    have := (TSt_ok hv).2.2.1
    have := hv.n
    simp [trimD]; omega
  · exact ⟨by decide, rfl⟩
set_option maxHeartbeats 1000000 in
set_option maxRecDepth 100000 in
theorem s_access (w : World) (v : Value) (d : Dfa) (h : RdD (fun _ => False) w v d) : CallS Try.prog 50 [v] w (fun r o => IsSl r ∧ o = [row r 9 1 (AccW d).length ((AccW d).map sv)]) := by
 have h0 := h
 obtain ⟨vF, vN, rfl, hF, hN⟩ := h
 have hF0 := hF
 have hN0 := hN
 obtain ⟨rs, hrl, hNr, hNi⟩ := hN
 have sF := hF.sl
 have sN := hNr.sl
 have hmf := hF.le
 have hmn := hNr.le
 unfold RdL at hF
 obtain ⟨htl5, htnf⟩ := trimV_le d
 refine spec_of Try.func50 rfl (Nat.le_of_ble_eq_true rfl) ?_
 refine .sr fun _ hK1 => ?_
 refine AK.box_ (E := 25) (cs := [.int .i64 d.L, .int .i64 d.s, vF, vN]) rfl rfl rfl trivial rfl (fun bx1 => ?_)
 refine .as rfl (.nt hK1 ?_)
 refine .sr fun _ hK2 => ?_
 refine .v (.loadBoxG ag25 rfl bsp rfl rfl) ?_
 refine AK.call co24 rfl (fun w hw => s_trim w _ d (h0.at hw)) trivial rfl ?_
 rintro r o ⟨tF, tN, tM, trs, rfl, htrs, stF, stN, stM, rfl⟩
 refine .mv rfl ?_
 refine .v (.extract rfl rfl) ?_
 refine .v (.extract rfl rfl) ?_
 refine AK.alloc el25 rfl rfl trivial rfl (fun bx3 => ?_)
 refine AK.storeBox 5 (us := [.int .i64 (TrimV d).L, .int .i64 (TrimV d).s, tF, tN]) (cs' := [.int .i64 (TrimV d).L, .int .i64 (TrimV d).s, tF, tN]) rfl sz25 rfl rfl rfl rfl oneP (Nat.le_of_ble_eq_true rfl) rfl trivial ?_
 refine .as rfl (.nt hK2 ?_)
 refine .sr fun _ hK3 => ?_
 refine .v (.fieldAddr fd25_2 rfl) ?_
 refine .v (.loadBox on22 rfl bsp rfl) ?_
 refine .v (.lenR sl22 rfl (by first | exact rdp | exact (RdS.big 3 _ rfl (matG_get htrs (by omega))))) ?_
 refine AK.make1 (n := (TrimV d).fin.length) sl49 el9 rfl rfl rfl (by omega) (by omega) trivial rfl (fun lv => ?_)
 refine AK.shape 6 rfl (fun slv => ?_)
 refine AK.lenBd 1 rfl (fun hml => ?_)
 refine AK.lenBd 2 rfl (fun hmn => ?_)
 refine .as rfl (.nt hK3 ?_)
 refine .sr fun _ hK4 => ?_
 refine .as rfl (.nt hK4 ?_)
 refine .seq fun _ hK5 => ?_
 refine .sr fun _ hK6 => ?_
 refine .v (.fieldAddr fd25_3 rfl) ?_
 refine .v (.loadBox on23 rfl bsp rfl) ?_
 refine .v (.lenR sl23 rfl (by first | exact rdp | exact (RdS.big 3 _ rfl (matG_get htrs (by omega))))) ?_
 refine .mv rfl (.nt hK6 (.block ?_))
 refine AK.loopK (X := Nat) [(5, _), (21, _), (22, _)] (fun x => [(6, .int .i64 ((exI (stepQ d) d.L.toNat d.s 0 x).length : Int)), (23, .int .i64 (x : Int))]) (fun x => ([box bx1 25 4 [.int .i64 d.L, .int .i64 d.s, vF, vN]] ++ dfaO 4 3 26 tF tN trs (TrimV d) ++ [row tM 3 1 (NumV d).length ((NumV d).map (Value.int .i64)), box bx3 25 4 [.int .i64 (TrimV d).L, .int .i64 (TrimV d).s, tF, tN]] ++ [row lv 9 1 (TrimV d).fin.length ((AW d (exIw (stepQ d) d.L.toNat d.s 0 x)).map sv)])) (fun x => x ≤ (TrimV d).nx.length) (fun x => (TrimV d).nx.length - x) (0) slr ?_ ?_ ?_ ?_
 ·exact Nat.zero_le _
 ·exact slr
 ·exact fun w hw => by show HW _ ([box bx1 25 4 [.int .i64 d.L, .int .i64 d.s, vF, vN]] ++ dfaO 4 3 26 tF tN trs (TrimV d) ++ [row tM 3 1 (NumV d).length ((NumV d).map (Value.int .i64)), box bx3 25 4 [.int .i64 (TrimV d).L, .int .i64 (TrimV d).s, tF, tN]] ++ [row lv 9 1 (TrimV d).fin.length ((AW d (exIw (stepQ d) d.L.toNat d.s 0 0)).map sv)]) w; rw [show (exIw (stepQ d) d.L.toNat d.s 0 0) = [[]] from rfl, AW_zero, List.map_replicate]; exact hw
 ·intro x hg0 _ hK7
  refine .sr fun _ hK8 => ?_
  refine .v (.lss rfl rfl) ?_
  refine .nt hK8 ?_
  refine .seq fun _ hK9 => ?_
  refine AK.condD rfl (fun hc0 => ?_) (fun hc0 => ?_)
  ·have hv : VD d := by
    by_cases hv : VD d
    ·exact hv
    ·rw [show TrimV d = nilD from if_neg hv] at hc0; simp [nilD] at hc0; omega
   have hL := hv.L
   have hn5 := hv.n
   have hTn := TSt_ok hv
   have hTl : (TrimV d).nx.length = (TSt d).length ∧ (TrimV d).fin.length = (TSt d).length := by rw [show TrimV d = trimD d from if_pos hv]; simp [trimD]
   have hxm : x < (TSt d).length := by omega
   obtain ⟨hlt, hrow⟩ := acc_next hv hxm
   have hrl : ((TrimV d).nx.getD x []).length = d.L.toNat := by rw [hrow]; simp
   have hwl := exIw_len (f := stepQ d) (L := d.L.toNat) (s := d.s) (z := 0) x
   have hrl2 := fun k => exRw_len (f := stepQ d) (q := ((exI (stepQ d) d.L.toNat d.s 0 x).getD x 0)) (wq := ((exIw (stepQ d) d.L.toNat d.s 0 x).getD x [])) hwl k
   have hww : ∀ i, i < (exIw (stepQ d) d.L.toNat d.s 0 x).length → ((exIw (stepQ d) d.L.toNat d.s 0 x).getD i []).length ≤ 2 * (x + 1) * 8 := fun i hi => exIw_wd x i hi
   have hbd := exI_bd (z := 0) (start_univ hv) (step_univ hv)
   rw [univ_len] at hbd
   have hb0 := hbd x
   have hawl := fun ws h => AW_len hv (ws := ws) h
   refine .skip ?_
   refine AK.then_ (hK9 _ ?_)
   refine .seq fun _ hK10 => ?_
   refine .block ?_
   refine .sr fun _ hK11 => ?_
   refine .mv rfl ?_
   first | refine .v (.iN sl23 rfl rfl (hr := (by first | exact rdp | exact (RdS.big 3 _ rfl (matG_get htrs (by omega)))))) ?_ | refine .v (.iK sl23 rfl rfl (hr := (by first | exact rdp | exact (RdS.big 3 _ rfl (matG_get htrs (by omega)))))) ?_
   refine .v (.loadV on26 rfl (by first | exact rdp | exact (RdS.big 3 _ rfl (matG_get htrs (by omega)))) (by omega)) ?_
   refine .as rfl (.as rfl (.nt hK11 ?_))
   refine .sr fun _ hK12 => ?_
   refine .mv rfl ?_
   refine .v (.lenR sl26 rfl (by first | exact rdp | exact (RdS.big 3 _ rfl (matG_get htrs (by omega))))) ?_
   refine .mv rfl (.nt hK12 (.block ?_))
   refine AK.loopK (X := Nat) [(5, _), (7, _), (21, _), (22, _), (23, _), (28, _), (29, _)] (fun y => [(6, .int .i64 ((exR (stepQ d) ((exI (stepQ d) d.L.toNat d.s 0 x).getD x 0) (exI (stepQ d) d.L.toNat d.s 0 x) y).length : Int)), (30, .int .i64 (y : Int))]) (fun y => ([box bx1 25 4 [.int .i64 d.L, .int .i64 d.s, vF, vN]] ++ dfaO 4 3 26 tF tN trs (TrimV d) ++ [row tM 3 1 (NumV d).length ((NumV d).map (Value.int .i64)), box bx3 25 4 [.int .i64 (TrimV d).L, .int .i64 (TrimV d).s, tF, tN]] ++ [row lv 9 1 (TrimV d).fin.length ((AW d (exRw (stepQ d) ((exI (stepQ d) d.L.toNat d.s 0 x).getD x 0) ((exIw (stepQ d) d.L.toNat d.s 0 x).getD x []) (exI (stepQ d) d.L.toNat d.s 0 x) (exIw (stepQ d) d.L.toNat d.s 0 x) y)).map sv)])) (fun y => y ≤ d.L.toNat) (fun y => d.L.toNat - y) (0) slr ?_ ?_ ?_ ?_
   ·exact Nat.zero_le _
   ·exact slr
   ·exact fun w hw => hw
   ·intro y hg1 _ hK13
    refine .sr fun _ hK14 => ?_
    refine .v (.lss rfl rfl) ?_
    refine .nt hK14 ?_
    refine .seq fun _ hK15 => ?_
    refine AK.condD rfl (fun hc1 => ?_) (fun hc1 => ?_)
    ·have hyL : y < d.L.toNat := by omega
     have hto : (((TrimV d).nx.getD x []).getD y 0) = ((posN (TSt d) (stepQ d ((exI (stepQ d) d.L.toNat d.s 0 x).getD x 0) y) : Nat) : Int) := by rw [hrow]; simp [List.getD_eq_getElem?_getD, hyL]
     have hrp : (exIw (stepQ d) d.L.toNat d.s 0 x).length ≤ (exRw (stepQ d) ((exI (stepQ d) d.L.toNat d.s 0 x).getD x 0) ((exIw (stepQ d) d.L.toNat d.s 0 x).getD x []) (exI (stepQ d) d.L.toNat d.s 0 x) (exIw (stepQ d) d.L.toNat d.s 0 x) y).length := by obtain ⟨ys, e⟩ := exRw_pre (stepQ d) ((exI (stepQ d) d.L.toNat d.s 0 x).getD x 0) ((exIw (stepQ d) d.L.toNat d.s 0 x).getD x []) (exI (stepQ d) d.L.toNat d.s 0 x) (exIw (stepQ d) d.L.toNat d.s 0 x) y; rw [e, List.length_append]; omega
     have hrl3 := hrl2 y
     have hgw : ((exRw (stepQ d) ((exI (stepQ d) d.L.toNat d.s 0 x).getD x 0) ((exIw (stepQ d) d.L.toNat d.s 0 x).getD x []) (exI (stepQ d) d.L.toNat d.s 0 x) (exIw (stepQ d) d.L.toNat d.s 0 x) y).getD x []) = ((exIw (stepQ d) d.L.toNat d.s 0 x).getD x []) := exRw_get _ (by omega)
     have hag : ((AW d (exRw (stepQ d) ((exI (stepQ d) d.L.toNat d.s 0 x).getD x 0) ((exIw (stepQ d) d.L.toNat d.s 0 x).getD x []) (exI (stepQ d) d.L.toNat d.s 0 x) (exIw (stepQ d) d.L.toNat d.s 0 x) y)).getD x []) = ((exIw (stepQ d) d.L.toNat d.s 0 x).getD x []) := (AW_get hv (by omega)).trans hgw
     have hwx := hww x (by omega)
     refine .skip ?_
     refine AK.then_ (hK15 _ ?_)
     refine .seq fun _ hK16 => ?_
     refine .block ?_
     refine .sr fun _ hK17 => ?_
     refine .mv rfl ?_
     first | refine .v (.iN sl26 rfl rfl (hr := (by first | exact rdp | exact (RdS.big 3 _ rfl (matG_get htrs (by omega)))))) ?_ | refine .v (.iK sl26 rfl rfl (hr := (by first | exact rdp | exact (RdS.big 3 _ rfl (matG_get htrs (by omega)))))) ?_
     refine .v (.loadI on3 rfl (by first | exact rdp | exact (RdS.big 3 _ rfl (matG_get htrs (by omega)))) (by omega)) ?_
     refine .as rfl (.as rfl (.nt hK17 ?_))
     refine .sr fun _ hK18 => ?_
     refine .mv rfl (.mv rfl ?_)
     refine .v (.eql rfl rfl) ?_
     refine .nt hK18 ?_
     refine AK.condD rfl (fun hc2 => ?_) (fun hc2 => ?_)
     ·rw [hto] at hc2
      have hnw := acc_new hv hxm hyL _ rfl _ rfl (show posN (TSt d) (stepQ d ((exI (stepQ d) d.L.toNat d.s 0 x).getD x 0) y) = (exR (stepQ d) ((exI (stepQ d) d.L.toNat d.s 0 x).getD x 0) (exI (stepQ d) d.L.toNat d.s 0 x) y).length by omega)
      have hal := AW_len hv (ws := (exRw (stepQ d) ((exI (stepQ d) d.L.toNat d.s 0 x).getD x 0) ((exIw (stepQ d) d.L.toNat d.s 0 x).getD x []) (exI (stepQ d) d.L.toNat d.s 0 x) (exIw (stepQ d) d.L.toNat d.s 0 x) y)) (by omega)
      refine .sr fun _ hK19 => ?_
      refine .mv rfl (.mv rfl (.mv rfl (.mv rfl ?_)))
      first | refine .v (.iN sl49 rfl rfl (hr := (by first | exact rdp | exact (RdS.big 3 _ rfl (matG_get htrs (by omega)))))) ?_ | refine .v (.iK sl49 rfl rfl (hr := (by first | exact rdp | exact (RdS.big 3 _ rfl (matG_get htrs (by omega)))))) ?_
      refine .v (.loadS on9 rfl (by first | exact rdp | exact (RdS.big 3 _ rfl (matG_get htrs (by omega)))) (by omega)) ?_
      refine .mv rfl ?_
      refine .v (.add rfl rfl (by omega)) ?_
      refine .v (.convI (by kernel_rfl) un21 rfl (wrap_i32 (by omega))) ?_
      refine .v (.runeS (by kernel_rfl) un9 rfl (by omega)) ?_
      refine .v (.concat rfl rfl (by rw [hag]; simp only [List.length_cons, List.length_nil]; omega)) ?_
      first | refine .v (.iN sl49 rfl rfl (hr := (by first | exact rdp | exact (RdS.big 3 _ rfl (matG_get htrs (by omega)))))) ?_ | refine .v (.iK sl49 rfl rfl (hr := (by first | exact rdp | exact (RdS.big 3 _ rfl (matG_get htrs (by omega)))))) ?_
      refine AK.store1e 6 rfl sz9 rfl rfl rfl rfl (by omega) (cs' := ((AW d ((exRw (stepQ d) ((exI (stepQ d) d.L.toNat d.s 0 x).getD x 0) ((exIw (stepQ d) d.L.toNat d.s 0 x).getD x []) (exI (stepQ d) d.L.toNat d.s 0 x) (exIw (stepQ d) d.L.toNat d.s 0 x) y) ++ [((exIw (stepQ d) d.L.toNat d.s 0 x).getD x []) ++ [ltr y]])).map sv)) (by rw [← AW_set hv (by omega), List.map_set, hag, hto, show ((posN (TSt d) (stepQ d ((exI (stepQ d) d.L.toNat d.s 0 x).getD x 0) y) : Nat) : Int).toNat = (exRw (stepQ d) ((exI (stepQ d) d.L.toNat d.s 0 x).getD x 0) ((exIw (stepQ d) d.L.toNat d.s 0 x).getD x []) (exI (stepQ d) d.L.toNat d.s 0 x) (exIw (stepQ d) d.L.toNat d.s 0 x) y).length by omega]; rfl) trivial ?_
      refine .nt hK19 ?_
      refine AK.region ?_
      refine .mv rfl ?_
      refine .v (.add rfl rfl (by omega)) ?_
      refine .as rfl (.nil (.block_normal ?_))
      refine AK.then_ (hK16 _ ?_)
      refine AK.region ?_
      refine .v (.add rfl rfl (by omega)) ?_
      refine .mv rfl (.nil ?_)
      first | refine AK.then_ (hK13 _ _ (y + 1) (by omega) (by omega) (.cons (congrArg (fun (k : Int) => some (Value.int .i64 k)) (by rw [show (exR (stepQ d) ((exI (stepQ d) d.L.toNat d.s 0 x).getD x 0) (exI (stepQ d) d.L.toNat d.s 0 x) (y + 1)) = (exR (stepQ d) ((exI (stepQ d) d.L.toNat d.s 0 x).getD x 0) (exI (stepQ d) d.L.toNat d.s 0 x) y) ++ [(stepQ d ((exI (stepQ d) d.L.toNat d.s 0 x).getD x 0) y)] from if_neg hnw.1]; simp)) (slr)) (fun w hw => by rw [show (exRw (stepQ d) ((exI (stepQ d) d.L.toNat d.s 0 x).getD x 0) ((exIw (stepQ d) d.L.toNat d.s 0 x).getD x []) (exI (stepQ d) d.L.toNat d.s 0 x) (exIw (stepQ d) d.L.toNat d.s 0 x) (y + 1)) = (exRw (stepQ d) ((exI (stepQ d) d.L.toNat d.s 0 x).getD x 0) ((exIw (stepQ d) d.L.toNat d.s 0 x).getD x []) (exI (stepQ d) d.L.toNat d.s 0 x) (exIw (stepQ d) d.L.toNat d.s 0 x) y) ++ [((exIw (stepQ d) d.L.toNat d.s 0 x).getD x []) ++ [ltr y]] from if_neg hnw.1]; exact hw)) | refine AK.then_ (hK13 _ _ (y + 1) (by omega) (by omega) (.cons (congrArg (fun (k : Nat) => some (Value.int .i64 (k : Int))) (by rw [show (exR (stepQ d) ((exI (stepQ d) d.L.toNat d.s 0 x).getD x 0) (exI (stepQ d) d.L.toNat d.s 0 x) (y + 1)) = (exR (stepQ d) ((exI (stepQ d) d.L.toNat d.s 0 x).getD x 0) (exI (stepQ d) d.L.toNat d.s 0 x) y) from if_pos hod])) (slr)) (fun w hw => by rw [show (exRw (stepQ d) ((exI (stepQ d) d.L.toNat d.s 0 x).getD x 0) ((exIw (stepQ d) d.L.toNat d.s 0 x).getD x []) (exI (stepQ d) d.L.toNat d.s 0 x) (exIw (stepQ d) d.L.toNat d.s 0 x) (y + 1)) = (exRw (stepQ d) ((exI (stepQ d) d.L.toNat d.s 0 x).getD x 0) ((exIw (stepQ d) d.L.toNat d.s 0 x).getD x []) (exI (stepQ d) d.L.toNat d.s 0 x) (exIw (stepQ d) d.L.toNat d.s 0 x) y) from if_pos hod]; exact hw))
     ·rw [hto] at hc2
      have hod := acc_old hv hxm hyL _ rfl _ rfl (show ¬ posN (TSt d) (stepQ d ((exI (stepQ d) d.L.toNat d.s 0 x).getD x 0) y) = (exR (stepQ d) ((exI (stepQ d) d.L.toNat d.s 0 x).getD x 0) (exI (stepQ d) d.L.toNat d.s 0 x) y).length by omega)
      refine .skip (.block_normal ?_)
      refine AK.then_ (hK16 _ ?_)
      refine AK.region ?_
      refine .v (.add rfl rfl (by omega)) ?_
      refine .mv rfl (.nil ?_)
      first | refine AK.then_ (hK13 _ _ (y + 1) (by omega) (by omega) (.cons (congrArg (fun (k : Int) => some (Value.int .i64 k)) (by rw [show (exR (stepQ d) ((exI (stepQ d) d.L.toNat d.s 0 x).getD x 0) (exI (stepQ d) d.L.toNat d.s 0 x) (y + 1)) = (exR (stepQ d) ((exI (stepQ d) d.L.toNat d.s 0 x).getD x 0) (exI (stepQ d) d.L.toNat d.s 0 x) y) ++ [(stepQ d ((exI (stepQ d) d.L.toNat d.s 0 x).getD x 0) y)] from if_neg hnw.1]; simp)) (slr)) (fun w hw => by rw [show (exRw (stepQ d) ((exI (stepQ d) d.L.toNat d.s 0 x).getD x 0) ((exIw (stepQ d) d.L.toNat d.s 0 x).getD x []) (exI (stepQ d) d.L.toNat d.s 0 x) (exIw (stepQ d) d.L.toNat d.s 0 x) (y + 1)) = (exRw (stepQ d) ((exI (stepQ d) d.L.toNat d.s 0 x).getD x 0) ((exIw (stepQ d) d.L.toNat d.s 0 x).getD x []) (exI (stepQ d) d.L.toNat d.s 0 x) (exIw (stepQ d) d.L.toNat d.s 0 x) y) ++ [((exIw (stepQ d) d.L.toNat d.s 0 x).getD x []) ++ [ltr y]] from if_neg hnw.1]; exact hw)) | refine AK.then_ (hK13 _ _ (y + 1) (by omega) (by omega) (.cons (congrArg (fun (k : Nat) => some (Value.int .i64 (k : Int))) (by rw [show (exR (stepQ d) ((exI (stepQ d) d.L.toNat d.s 0 x).getD x 0) (exI (stepQ d) d.L.toNat d.s 0 x) (y + 1)) = (exR (stepQ d) ((exI (stepQ d) d.L.toNat d.s 0 x).getD x 0) (exI (stepQ d) d.L.toNat d.s 0 x) y) from if_pos hod])) (slr)) (fun w hw => by rw [show (exRw (stepQ d) ((exI (stepQ d) d.L.toNat d.s 0 x).getD x 0) ((exIw (stepQ d) d.L.toNat d.s 0 x).getD x []) (exI (stepQ d) d.L.toNat d.s 0 x) (exIw (stepQ d) d.L.toNat d.s 0 x) (y + 1)) = (exRw (stepQ d) ((exI (stepQ d) d.L.toNat d.s 0 x).getD x 0) ((exIw (stepQ d) d.L.toNat d.s 0 x).getD x []) (exI (stepQ d) d.L.toNat d.s 0 x) (exIw (stepQ d) d.L.toNat d.s 0 x) y) from if_pos hod]; exact hw))
    ·refine .exit (.then_exit (.then_exit (.block_exit (.block_normal ?_))))
     refine AK.then_ (hK10 _ ?_)
     refine AK.region ?_
     refine .v (.add rfl rfl (by omega)) ?_
     refine .mv rfl (.nil ?_)
     refine AK.then_ (hK7 _ _ (x + 1) (by omega) (by omega) (.cons (congrArg (fun (k : Nat) => some (Value.int .i64 (k : Int))) (by rw [exI_next hlt, show y = d.L.toNat by omega])) (slr)) (fun w hw => by rw [exIw_next hlt]; rw [show y = d.L.toNat by omega] at hw; exact hw))
  ·refine .exit (.then_exit (.then_exit (.block_exit ?_)))
   refine AK.then_ (hK5 _ ?_)
   refine .sr fun _ hK20 => ?_
   refine .mv rfl (.as rfl (.nt hK20 (.ret ?_)))
   refine AK.ret1 rfl rfl (fun w hw => ⟨_, _, ?_, rfl, Ret.of (hw.pick [6] (by decide) rfl rfl)⟩)
   refine ⟨slv, ?_⟩
   have e : x = (TrimV d).nx.length := (by omega)
   by_cases hv : VD d
   ·obtain ⟨h1, h2, h3⟩ := tst_fix hv
    have hT : TrimV d = trimD d := if_pos hv
    have e2 : x = (TSt d).length := by rw [e, hT]; simp [trimD]
    have e3 : AW d (exIw (stepQ d) d.L.toNat d.s 0 x) = TWo d := by unfold AW; rw [if_pos hv, e2, h3, two_len hv, Nat.sub_self]; simp
    rw [e3, show AccW d = TWo d from if_pos hv, two_len hv, show (TrimV d).fin.length = (TSt d).length by rw [hT]; simp [trimD]]
    try rfl
   ·rw [show AW d (exIw (stepQ d) d.L.toNat d.s 0 x) = [] from if_neg hv, show AccW d = [] from if_neg hv, show TrimV d = nilD from if_neg hv]; rfl

end Go.Proofs.Ytoikhoniogicdaa
