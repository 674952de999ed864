import Derived.Test.YtoikhoniogicdaaD2
import Derived.Test.YtoikhoniogicdaaDf
import Derived.Test.YtoikhoniogicdaaMi
import Derived.Test.YtoikhoniogicdaaMg
import Derived.Test.YtoikhoniogicdaaSm
set_option linter.unusedVariables false
set_option linter.unusedSimpArgs false
namespace Go.Proofs.Ytoikhoniogicdaa
open Go.Sx Go.RowKit
set_option maxHeartbeats 4000000 in
set_option maxRecDepth 100000 in
theorem s_refdis (w : World) (v : Value) (d : Dfa) (h : RdD (fun _ => False) w v d) (hv : VD d) (p q : Int) (hip : InR d p) (hiq : InR d q) : CallS Try.prog 28 [v, .int .i64 p, .int .i64 q] w (fun r o => r = .tuple #[sv (DisD d p q).1, .bool (DisD d p q).2] ∧ o = []) := by
  have h0 := h
  obtain ⟨vF, vN, rfl, hF, hN⟩ := h
  have hF0 := hF
  have hN0 := hN
  obtain ⟨rs, hrl, hNr, hNi⟩ := hN
  have sF := hF.sl
  have sN := hNr.sl
  have hmf := hF.le
  have hmn := hNr.le
  unfold RdL at hF
  have hL := hv.L
  have hnx := hv.nx
  have hn5 := hv.n
  have hnn : d.fin.length * d.fin.length ≤ 262144 := Nat.mul_le_mul hn5 hn5
  have hst : (p, q) ∈ univ2 d.fin.length d.fin.length := mem_univ2.2 ⟨hip, hiq⟩
  have hcl := step_univ2 hv hv rfl
  have hok := exI_ok (z := (0, 0)) hst hcl
  have hbd := exI_bd (z := (0, 0)) hst hcl
  rw [univ2_len] at hbd
  refine spec_of Try.func28 rfl (Nat.le_of_ble_eq_true rfl) ?_
  refine AK.seq (fun _ hK1 => ?_)
  refine AK.region ?_
  refine AK.box_ (E := 25) (cs := [.int .i64 d.L, .int .i64 d.s, vF, vN]) rfl rfl rfl trivial rfl (fun bx3 => ?_)
  refine AK.val _ (Yl.assign rfl) trivial rfl ?_
  refine AK.val _ (Yl.assign rfl) trivial rfl ?_
  refine AK.nil ?_
  refine AK.then_ (hK1 _ ?_)
  refine AK.seq (fun _ hK2 => ?_)
  refine AK.region ?_
  refine AK.val _ (Yl.move rfl) trivial rfl ?_
  refine AK.val _ (Yl.move rfl) trivial rfl ?_
  refine AK.val _ (Yl.build (parts := [(0, .tmp 16), (1, .tmp 17)]) (cs := #[.int .i64 p, .int .i64 q]) rfl (by kernel_rfl)) trivial rfl ?_
  refine AK.lit (xs := [.tmp 18]) sl74 el73 rfl rfl rfl (by intro a ha; simp at ha; subst ha; rfl) (by decide) (by decide) trivial rfl (fun l1 => ?_)
  refine AK.shape 1 rfl (fun s1 => ?_)
  refine AK.lit (xs := [.const (sv [])]) sl49 el9 rfl rfl rfl (by intro a ha; simp at ha; subst ha; rfl) (by decide) (by decide) trivial rfl (fun l2 => ?_)
  refine AK.shape 2 rfl (fun s2 => ?_)
  refine AK.val _ (Yl.assign rfl) trivial rfl ?_
  refine AK.val _ (Yl.assign rfl) trivial rfl ?_
  refine AK.nil ?_
  refine AK.then_ (hK2 _ ?_)
  refine AK.seq (fun _ hK3 => ?_)
  refine AK.region ?_
  refine AK.makeMap trivial rfl (fun mb => ?_)
  refine AK.val _ (Yl.move rfl) trivial rfl ?_
  refine AK.val _ (Yl.move rfl) trivial rfl ?_
  refine AK.val (pv (p, q)) (Yl.build (parts := [(0, .tmp 22), (1, .tmp 23)]) (cs := #[.int .i64 p, .int .i64 q]) rfl (by kernel_rfl)) trivial rfl ?_
  refine AK.mapIns 3 (fk := pv) (fv := Value.bool) (m := ([] : List ((Int × Int) × Bool))) (a := (p, q)) (v := true) rfl mp75 (keyPair ar73.1 un3 sz3) rfl rfl rfl trivial ?_
  refine AK.val _ (Yl.move rfl) trivial rfl ?_
  refine AK.val _ (Yl.assign rfl) trivial rfl ?_
  refine AK.nil ?_
  refine AK.then_ (hK3 _ ?_)
  refine AK.seq (fun _ hK4 => ?_)
  refine AK.seq (fun _ hK5 => ?_)
  refine AK.region ?_
  refine AK.val _ (Yl.assign rfl) trivial rfl ?_
  refine AK.nil ?_
  refine AK.then_ (hK5 _ ?_)
  refine AK.block ?_
  refine AK.loopK (X := Nat × Value × Value) [(3, _), (10, _)] (fun x => [(8, x.2.1), (9, x.2.2), (11, .int .i64 (x.1 : Int))]) (fun x => [box bx3 25 4 [.int .i64 d.L, .int .i64 d.s, vF, vN], row x.2.1 73 2 (exI (stepP d d) d.L.toNat (p, q) (0, 0) x.1).length (pcs (exI (stepP d d) d.L.toNat (p, q) (0, 0) x.1)), row x.2.2 9 1 (exIw (stepP d d) d.L.toNat (p, q) (0, 0) x.1).length ((exIw (stepP d d) d.L.toNat (p, q) (0, 0) x.1).map sv), mapA mb (mkv pv Value.bool (metM (exI (stepP d d) d.L.toNat (p, q) (0, 0) x.1)))]) (fun x => x.1 ≤ (exI (stepP d d) d.L.toNat (p, q) (0, 0) x.1).length ∧ (IsSl x.2.1 ∧ IsSl x.2.2) ∧ ∀ j, j < x.1 → wdD d ((exI (stepP d d) d.L.toNat (p, q) (0, 0) x.1).getD j (0, 0)) = false) (fun x => d.fin.length * d.fin.length - x.1) ((0, l1, l2)) (.cons rfl (.cons rfl (.nil))) ?_ ?_ ?_ ?_
  · exact ⟨Nat.zero_le _, ⟨s1, s2⟩, fun j hj => by cases hj⟩
  · exact .cons (rfl) (.cons (rfl) (.cons (rfl) (.nil)))
  · exact fun w hw => hw
  · intro x hg0 _ hK6
    have hb0 := hbd x.1
    refine AK.seq (fun _ hK7 => ?_)
    refine AK.seq (fun _ hK8 => ?_)
    refine AK.region ?_
    refine AK.val _ (Yl.move rfl) trivial rfl ?_
    refine AK.val _ (Yl.move rfl) trivial rfl ?_
    refine AK.val _ (Yl.lenR sl74 rfl (by first | exact .arg ‹_› | ((repeat (first | exact .hd | apply RdS.tl)); done) | assumption | exact .arg (hNi _ (by omega)))) trivial rfl ?_
    refine AK.val _ (Yl.lss rfl rfl) trivial rfl ?_
    refine AK.nil ?_
    refine AK.then_ (hK8 _ ?_)
    refine AK.condD rfl (fun hc0 => ?_) (fun hc0 => ?_)
    · have hlt : x.1 < (exI (stepP d d) d.L.toNat (p, q) (0, 0) x.1).length := by omega
      have hwl := exIw_len (f := (stepP d d)) (L := d.L.toNat) (s := (p, q)) (z := (0, 0)) x.1
      have hin := fun y hy => inB_univ2.1 ((hok x.1).2 y hy)
      obtain ⟨⟨hp1, hp2⟩, hp3, hp4⟩ := hin _ (getD_mem (d := (0, 0)) hlt)
      have hww := exIw_wd (f := (stepP d d)) (L := d.L.toNat) (s := (p, q)) (z := (0, 0)) x.1 x.1 (by rw [exIw_len]; exact hlt)
      refine AK.skip ?_
      refine AK.then_ (hK7 _ ?_)
      refine AK.seq (fun _ hK9 => ?_)
      refine AK.block ?_
      refine AK.seq (fun _ hK10 => ?_)
      refine AK.quiet mixed (by kernel_rfl) ?_
      refine QK.val _ (Yl.move rfl) trivial rfl ?_
      refine QK.val _ (Yl.move rfl) trivial rfl ?_
      first | refine QK.val _ (Yl.idxN sl74 rfl rfl (by first | exact .arg ‹_› | ((repeat (first | exact .hd | apply RdS.tl)); done) | assumption | exact .arg (hNi _ (by omega))) (by decide) (by omega)) trivial rfl ?_ | refine QK.val _ (Yl.idx sl74 rfl rfl (by first | exact .arg ‹_› | ((repeat (first | exact .hd | apply RdS.tl)); done) | assumption | exact .arg (hNi _ (by omega))) (by decide) (by omega)) trivial rfl ?_ | refine QK.val _ (Yl.idxK sl74 rfl rfl (by first | exact .arg ‹_› | ((repeat (first | exact .hd | apply RdS.tl)); done) | assumption | exact .arg (hNi _ (by omega))) (by decide) (by omega)) trivial rfl ?_
      refine QK.val _ (Yl.idxArrA 0 ar73 rfl rfl (by decide)) trivial rfl ?_
      refine QK.val (.int .i64 ((exI (stepP d d) d.L.toNat (p, q) (0, 0) x.1).getD x.1 (0, 0)).1) (Yl.loadPart (sz := 2) on3 rfl (RdS.own 1 rfl) (pcs_part hlt).1) trivial rfl ?_
      refine QK.val _ (Yl.move rfl) trivial rfl ?_
      refine QK.val _ (Yl.move rfl) trivial rfl ?_
      first | refine QK.val _ (Yl.idxN sl74 rfl rfl (by first | exact .arg ‹_› | ((repeat (first | exact .hd | apply RdS.tl)); done) | assumption | exact .arg (hNi _ (by omega))) (by decide) (by omega)) trivial rfl ?_ | refine QK.val _ (Yl.idx sl74 rfl rfl (by first | exact .arg ‹_› | ((repeat (first | exact .hd | apply RdS.tl)); done) | assumption | exact .arg (hNi _ (by omega))) (by decide) (by omega)) trivial rfl ?_ | refine QK.val _ (Yl.idxK sl74 rfl rfl (by first | exact .arg ‹_› | ((repeat (first | exact .hd | apply RdS.tl)); done) | assumption | exact .arg (hNi _ (by omega))) (by decide) (by omega)) trivial rfl ?_
      refine QK.val _ (Yl.idxArrA 1 ar73 rfl rfl (by decide)) trivial rfl ?_
      refine QK.val (.int .i64 ((exI (stepP d d) d.L.toNat (p, q) (0, 0) x.1).getD x.1 (0, 0)).2) (Yl.loadPart (sz := 2) on3 rfl (RdS.own 1 rfl) (pcs_part hlt).2) trivial rfl ?_
      refine QK.val _ (Yl.assign rfl) trivial rfl ?_
      refine QK.val _ (Yl.assign rfl) trivial rfl ?_
      refine QK.nil (QK.fin ?_)
      refine AK.then_ (hK10 _ ?_)
      refine AK.seq (fun _ hK11 => ?_)
      refine AK.seq (fun _ hK12 => ?_)
      refine AK.quiet mixed (by kernel_rfl) ?_
      refine QK.val _ (Yl.fieldAddr fd25_2 rfl) trivial rfl ?_
      refine QK.val _ (Yl.loadBox on22 rfl (by first | ((repeat (first | exact .hd | apply BoxS.tl | apply MapS.tl)); done) | assumption | exact BoxS.arg (by assumption)) rfl) trivial rfl ?_
      refine QK.val _ (Yl.move rfl) trivial rfl ?_
      first | refine QK.val _ (Yl.idxN sl22 rfl rfl (by first | exact .arg ‹_› | ((repeat (first | exact .hd | apply RdS.tl)); done) | assumption | exact .arg (hNi _ (by omega))) (by decide) (by omega)) trivial rfl ?_ | refine QK.val _ (Yl.idx sl22 rfl rfl (by first | exact .arg ‹_› | ((repeat (first | exact .hd | apply RdS.tl)); done) | assumption | exact .arg (hNi _ (by omega))) (by decide) (by omega)) trivial rfl ?_ | refine QK.val _ (Yl.idxK sl22 rfl rfl (by first | exact .arg ‹_› | ((repeat (first | exact .hd | apply RdS.tl)); done) | assumption | exact .arg (hNi _ (by omega))) (by decide) (by omega)) trivial rfl ?_
      refine QK.val _ (Yl.loadB on4 rfl (by first | exact .arg ‹_› | ((repeat (first | exact .hd | apply RdS.tl)); done) | assumption | exact .arg (hNi _ (by omega))) (by omega)) trivial rfl ?_
      refine QK.val _ (Yl.fieldAddr fd25_2 rfl) trivial rfl ?_
      refine QK.val _ (Yl.loadBox on22 rfl (by first | ((repeat (first | exact .hd | apply BoxS.tl | apply MapS.tl)); done) | assumption | exact BoxS.arg (by assumption)) rfl) trivial rfl ?_
      refine QK.val _ (Yl.move rfl) trivial rfl ?_
      first | refine QK.val _ (Yl.idxN sl22 rfl rfl (by first | exact .arg ‹_› | ((repeat (first | exact .hd | apply RdS.tl)); done) | assumption | exact .arg (hNi _ (by omega))) (by decide) (by omega)) trivial rfl ?_ | refine QK.val _ (Yl.idx sl22 rfl rfl (by first | exact .arg ‹_› | ((repeat (first | exact .hd | apply RdS.tl)); done) | assumption | exact .arg (hNi _ (by omega))) (by decide) (by omega)) trivial rfl ?_ | refine QK.val _ (Yl.idxK sl22 rfl rfl (by first | exact .arg ‹_› | ((repeat (first | exact .hd | apply RdS.tl)); done) | assumption | exact .arg (hNi _ (by omega))) (by decide) (by omega)) trivial rfl ?_
      refine QK.val _ (Yl.loadB on4 rfl (by first | exact .arg ‹_› | ((repeat (first | exact .hd | apply RdS.tl)); done) | assumption | exact .arg (hNi _ (by omega))) (by omega)) trivial rfl ?_
      refine QK.val _ (Yl.neqB bo4 rfl rfl) trivial rfl ?_
      refine QK.nil (QK.fin ?_)
      refine AK.then_ (hK12 _ ?_)
      refine AK.cond rfl (fun hc1 => ?_) (fun hc1 => ?_)
      · try simp only [decide_eq_true_eq, decide_eq_false_iff_not, Bool.not_eq_true', Bool.not_eq_false', Bool.not_not, ne_eq, Decidable.not_not, Int.not_lt, Int.not_le, beq_iff_eq, bne_iff_ne, Bool.and_eq_true, Bool.or_eq_true, Bool.or_eq_false_iff, Bool.not_false, Bool.not_true, reduceCtorEq, not_true_eq_false, not_false_eq_true] at hc1
        have hwt : wdD d ((exI (stepP d d) d.L.toNat (p, q) (0, 0) x.1).getD x.1 (0, 0)) = true := by unfold wdD finQ; simpa using hc1
        refine AK.seq (fun _ hK13 => ?_)
        refine AK.region ?_
        refine AK.val _ (Yl.move rfl) trivial rfl ?_
        refine AK.val _ (Yl.move rfl) trivial rfl ?_
        first | refine AK.val _ (Yl.idxN sl49 rfl rfl (by first | exact .arg ‹_› | ((repeat (first | exact .hd | apply RdS.tl)); done) | assumption | exact .arg (hNi _ (by omega))) (by decide) (by omega)) trivial rfl ?_ | refine AK.val _ (Yl.idx sl49 rfl rfl (by first | exact .arg ‹_› | ((repeat (first | exact .hd | apply RdS.tl)); done) | assumption | exact .arg (hNi _ (by omega))) (by decide) (by omega)) trivial rfl ?_ | refine AK.val _ (Yl.idxK sl49 rfl rfl (by first | exact .arg ‹_› | ((repeat (first | exact .hd | apply RdS.tl)); done) | assumption | exact .arg (hNi _ (by omega))) (by decide) (by omega)) trivial rfl ?_
        refine AK.val _ (Yl.loadS on9 rfl (by first | exact .arg ‹_› | ((repeat (first | exact .hd | apply RdS.tl)); done) | assumption | exact .arg (hNi _ (by omega))) (by omega)) trivial rfl ?_
        refine AK.val _ (Yl.assign rfl) trivial rfl ?_
        refine AK.val _ (Yl.assign rfl) trivial rfl ?_
        refine AK.nil ?_
        refine AK.then_ (hK13 _ ?_)
        refine AK.ret ?_
        refine AK.then_ret ?_
        refine AK.block_ret ?_
        refine AK.then_ret ?_
        refine AK.then_ret ?_
        refine AK.block_ret ?_
        refine AK.then_ret ?_
        refine AK.ret2 rfl rfl rfl (fun w hw => ⟨_, _, ?_, rfl, Ret.of (hw.pick [] (by decide) rfl rfl)⟩)
        rw [show DisD d p q = _ from src_some hst hcl hlt hg0.2.2 hwt]
        exact ⟨rfl, rfl⟩
      · try simp only [decide_eq_true_eq, decide_eq_false_iff_not, Bool.not_eq_true', Bool.not_eq_false', Bool.not_not, ne_eq, Decidable.not_not, Int.not_lt, Int.not_le, beq_iff_eq, bne_iff_ne, Bool.and_eq_true, Bool.or_eq_true, Bool.or_eq_false_iff, Bool.not_false, Bool.not_true, reduceCtorEq, not_true_eq_false, not_false_eq_true] at hc1
        have hwf : wdD d ((exI (stepP d d) d.L.toNat (p, q) (0, 0) x.1).getD x.1 (0, 0)) = false := by unfold wdD finQ; simpa using hc1
        have hrw1 := hv.row ((exI (stepP d d) d.L.toNat (p, q) (0, 0) x.1).getD x.1 (0, 0)).1.toNat (by omega)
        have hrw2 := hv.row ((exI (stepP d d) d.L.toNat (p, q) (0, 0) x.1).getD x.1 (0, 0)).2.toNat (by omega)
        refine AK.skip ?_
        refine AK.then_ (hK11 _ ?_)
        refine AK.seq (fun _ hK14 => ?_)
        refine AK.region ?_
        refine AK.val _ (Yl.assign rfl) trivial rfl ?_
        refine AK.nil ?_
        refine AK.then_ (hK14 _ ?_)
        refine AK.block ?_
        refine AK.loopK (X := Nat × Value × Value) [(3, _), (10, _), (11, _), (12, _), (13, _)] (fun y => [(8, y.2.1), (9, y.2.2), (14, .int .i64 (y.1 : Int))]) (fun y => [box bx3 25 4 [.int .i64 d.L, .int .i64 d.s, vF, vN], row y.2.1 73 2 (exR (stepP d d) ((exI (stepP d d) d.L.toNat (p, q) (0, 0) x.1).getD x.1 (0, 0)) (exI (stepP d d) d.L.toNat (p, q) (0, 0) x.1) y.1).length (pcs (exR (stepP d d) ((exI (stepP d d) d.L.toNat (p, q) (0, 0) x.1).getD x.1 (0, 0)) (exI (stepP d d) d.L.toNat (p, q) (0, 0) x.1) y.1)), row y.2.2 9 1 (exRw (stepP d d) ((exI (stepP d d) d.L.toNat (p, q) (0, 0) x.1).getD x.1 (0, 0)) ((exIw (stepP d d) d.L.toNat (p, q) (0, 0) x.1).getD x.1 []) (exI (stepP d d) d.L.toNat (p, q) (0, 0) x.1) (exIw (stepP d d) d.L.toNat (p, q) (0, 0) x.1) y.1).length ((exRw (stepP d d) ((exI (stepP d d) d.L.toNat (p, q) (0, 0) x.1).getD x.1 (0, 0)) ((exIw (stepP d d) d.L.toNat (p, q) (0, 0) x.1).getD x.1 []) (exI (stepP d d) d.L.toNat (p, q) (0, 0) x.1) (exIw (stepP d d) d.L.toNat (p, q) (0, 0) x.1) y.1).map sv), mapA mb (mkv pv Value.bool (metM (exR (stepP d d) ((exI (stepP d d) d.L.toNat (p, q) (0, 0) x.1).getD x.1 (0, 0)) (exI (stepP d d) d.L.toNat (p, q) (0, 0) x.1) y.1)))]) (fun y => (y.1 : Int) ≤ d.L ∧ IsSl y.2.1 ∧ IsSl y.2.2) (fun y => d.L.toNat - y.1) ((0, x.2.1, x.2.2)) (.cons rfl (.cons rfl (.cons rfl (.cons rfl (.cons rfl (.nil)))))) ?_ ?_ ?_ ?_
        · exact ⟨by dsimp only; omega, hg0.2.1⟩
        · exact .cons (rfl) (.cons (rfl) (.cons (rfl) (.nil)))
        · exact fun w hw => hw
        · intro y hg1 _ hK15
          refine AK.seq (fun _ hK16 => ?_)
          refine AK.seq (fun _ hK17 => ?_)
          refine AK.region ?_
          refine AK.val _ (Yl.move rfl) trivial rfl ?_
          refine AK.val _ (Yl.fieldAddr fd25_0 rfl) trivial rfl ?_
          refine AK.val _ (Yl.loadBox on3 rfl (by first | ((repeat (first | exact .hd | apply BoxS.tl | apply MapS.tl)); done) | assumption | exact BoxS.arg (by assumption)) rfl) trivial rfl ?_
          refine AK.val _ (Yl.lss rfl rfl) trivial rfl ?_
          refine AK.nil ?_
          refine AK.then_ (hK17 _ ?_)
          refine AK.condD rfl (fun hc2 => ?_) (fun hc2 => ?_)
          · have hyL : y.1 < d.L.toNat := by omega
            have hrl := exR_bd (z := (0, 0)) hst hcl hlt (k := y.1) (by omega)
            rw [univ2_len] at hrl
            have hrl2 := exRw_len (f := (stepP d d)) (q := ((exI (stepP d d) d.L.toNat (p, q) (0, 0) x.1).getD x.1 (0, 0))) (wq := ((exIw (stepP d d) d.L.toNat (p, q) (0, 0) x.1).getD x.1 [])) hwl y.1
            have hgw : ((exRw (stepP d d) ((exI (stepP d d) d.L.toNat (p, q) (0, 0) x.1).getD x.1 (0, 0)) ((exIw (stepP d d) d.L.toNat (p, q) (0, 0) x.1).getD x.1 []) (exI (stepP d d) d.L.toNat (p, q) (0, 0) x.1) (exIw (stepP d d) d.L.toNat (p, q) (0, 0) x.1) y.1).getD x.1 []) = ((exIw (stepP d d) d.L.toNat (p, q) (0, 0) x.1).getD x.1 []) := exRw_get _ (by omega)
            have hrp : (exIw (stepP d d) d.L.toNat (p, q) (0, 0) x.1).length ≤ (exRw (stepP d d) ((exI (stepP d d) d.L.toNat (p, q) (0, 0) x.1).getD x.1 (0, 0)) ((exIw (stepP d d) d.L.toNat (p, q) (0, 0) x.1).getD x.1 []) (exI (stepP d d) d.L.toNat (p, q) (0, 0) x.1) (exIw (stepP d d) d.L.toNat (p, q) (0, 0) x.1) y.1).length := by obtain ⟨ys, e⟩ := exRw_pre (stepP d d) ((exI (stepP d d) d.L.toNat (p, q) (0, 0) x.1).getD x.1 (0, 0)) ((exIw (stepP d d) d.L.toNat (p, q) (0, 0) x.1).getD x.1 []) (exI (stepP d d) d.L.toNat (p, q) (0, 0) x.1) (exIw (stepP d d) d.L.toNat (p, q) (0, 0) x.1) y.1; rw [e, List.length_append]; omega
            refine AK.skip ?_
            refine AK.then_ (hK16 _ ?_)
            refine AK.seq (fun _ hK18 => ?_)
            refine AK.block ?_
            refine AK.seq (fun _ hK19 => ?_)
            refine AK.joinK (X := Nat) [(3, _), (8, _), (9, _), (10, _), (11, _), (12, _), (13, _), (14, _)] (fun bn => [(15, .pointer (some ⟨bn, 0, none⟩))]) (fun bn => [box bx3 25 4 [.int .i64 d.L, .int .i64 d.s, vF, vN], row y.2.1 73 2 (exR (stepP d d) ((exI (stepP d d) d.L.toNat (p, q) (0, 0) x.1).getD x.1 (0, 0)) (exI (stepP d d) d.L.toNat (p, q) (0, 0) x.1) y.1).length (pcs (exR (stepP d d) ((exI (stepP d d) d.L.toNat (p, q) (0, 0) x.1).getD x.1 (0, 0)) (exI (stepP d d) d.L.toNat (p, q) (0, 0) x.1) y.1)), row y.2.2 9 1 (exRw (stepP d d) ((exI (stepP d d) d.L.toNat (p, q) (0, 0) x.1).getD x.1 (0, 0)) ((exIw (stepP d d) d.L.toNat (p, q) (0, 0) x.1).getD x.1 []) (exI (stepP d d) d.L.toNat (p, q) (0, 0) x.1) (exIw (stepP d d) d.L.toNat (p, q) (0, 0) x.1) y.1).length ((exRw (stepP d d) ((exI (stepP d d) d.L.toNat (p, q) (0, 0) x.1).getD x.1 (0, 0)) ((exIw (stepP d d) d.L.toNat (p, q) (0, 0) x.1).getD x.1 []) (exI (stepP d d) d.L.toNat (p, q) (0, 0) x.1) (exIw (stepP d d) d.L.toNat (p, q) (0, 0) x.1) y.1).map sv), mapA mb (mkv pv Value.bool (metM (exR (stepP d d) ((exI (stepP d d) d.L.toNat (p, q) (0, 0) x.1).getD x.1 (0, 0)) (exI (stepP d d) d.L.toNat (p, q) (0, 0) x.1) y.1))), box bn 73 2 [.int .i64 ((d.nx.getD ((exI (stepP d d) d.L.toNat (p, q) (0, 0) x.1).getD x.1 (0, 0)).1.toNat []).getD y.1 0), .int .i64 ((d.nx.getD ((exI (stepP d d) d.L.toNat (p, q) (0, 0) x.1).getD x.1 (0, 0)).2.toNat []).getD y.1 0)]]) (fun bn => True) (.cons rfl (.cons rfl (.cons rfl (.cons rfl (.cons rfl (.cons rfl (.cons rfl (.cons rfl (.nil))))))))) (fun _ hJ => ?_) (fun bn hg => ?_)
            · try (conv => enter [2, 2]; dsimp only [List.set_cons_zero, List.set_cons_succ, List.cons_append, List.nil_append])
              refine AK.held 18 mixed ?_
              refine HeldK.first 0 (fuel := 18) (listed' := #[true, false, false, false, false, false, false, false, false, false, false, false, false, false, false, false, false, false, false]) _ rfl (by kernel_rfl) rfl rfl (Yl.fieldAddr fd25_3 rfl) trivial rfl ?_
              refine HeldK.first 1 (fuel := 17) (listed' := #[true, true, false, false, false, false, false, false, false, false, false, false, false, false, false, false, false, false, false]) _ rfl (by kernel_rfl) rfl rfl (Yl.loadBox on23 rfl (by first | ((repeat (first | exact .hd | apply BoxS.tl | apply MapS.tl)); done) | assumption | exact BoxS.arg (by assumption)) rfl) trivial rfl ?_
              refine HeldK.first 2 (fuel := 16) (listed' := #[true, true, true, false, false, false, false, false, false, false, false, false, false, false, false, false, false, false, false]) _ rfl (by kernel_rfl) rfl rfl (Yl.move rfl) trivial rfl ?_
              first | refine HeldK.first 3 (fuel := 15) (listed' := #[true, true, true, true, false, false, false, false, false, false, false, false, false, false, false, false, false, false, false]) _ rfl (by kernel_rfl) rfl rfl (Yl.idxN sl23 rfl rfl (by first | exact .arg ‹_› | ((repeat (first | exact .hd | apply RdS.tl)); done) | assumption | exact .arg (hNi _ (by omega))) (by decide) (by omega)) trivial rfl ?_ | refine HeldK.first 3 (fuel := 15) (listed' := #[true, true, true, true, false, false, false, false, false, false, false, false, false, false, false, false, false, false, false]) _ rfl (by kernel_rfl) rfl rfl (Yl.idx sl23 rfl rfl (by first | exact .arg ‹_› | ((repeat (first | exact .hd | apply RdS.tl)); done) | assumption | exact .arg (hNi _ (by omega))) (by decide) (by omega)) trivial rfl ?_ | refine HeldK.first 3 (fuel := 15) (listed' := #[true, true, true, true, false, false, false, false, false, false, false, false, false, false, false, false, false, false, false]) _ rfl (by kernel_rfl) rfl rfl (Yl.idxK sl23 rfl rfl (by first | exact .arg ‹_› | ((repeat (first | exact .hd | apply RdS.tl)); done) | assumption | exact .arg (hNi _ (by omega))) (by decide) (by omega)) trivial rfl ?_
              refine HeldK.first 4 (fuel := 14) (listed' := #[true, true, true, true, true, false, false, false, false, false, false, false, false, false, false, false, false, false, false]) _ rfl (by kernel_rfl) rfl rfl (Yl.loadV on26 rfl (by first | exact .arg ‹_› | ((repeat (first | exact .hd | apply RdS.tl)); done) | assumption | exact .arg (hNi _ (by omega))) (by omega)) trivial rfl ?_
              refine HeldK.first 5 (fuel := 13) (listed' := #[true, true, true, true, true, true, false, false, false, false, false, false, false, false, false, false, false, false, false]) _ rfl (by kernel_rfl) rfl rfl (Yl.move rfl) trivial rfl ?_
              first | refine HeldK.first 6 (fuel := 12) (listed' := #[true, true, true, true, true, true, true, false, false, false, false, false, false, false, false, false, false, false, false]) _ rfl (by kernel_rfl) rfl rfl (Yl.idxN sl26 rfl rfl (by first | exact .arg ‹_› | ((repeat (first | exact .hd | apply RdS.tl)); done) | assumption | exact .arg (hNi _ (by omega))) (by decide) (by omega)) trivial rfl ?_ | refine HeldK.first 6 (fuel := 12) (listed' := #[true, true, true, true, true, true, true, false, false, false, false, false, false, false, false, false, false, false, false]) _ rfl (by kernel_rfl) rfl rfl (Yl.idx sl26 rfl rfl (by first | exact .arg ‹_› | ((repeat (first | exact .hd | apply RdS.tl)); done) | assumption | exact .arg (hNi _ (by omega))) (by decide) (by omega)) trivial rfl ?_ | refine HeldK.first 6 (fuel := 12) (listed' := #[true, true, true, true, true, true, true, false, false, false, false, false, false, false, false, false, false, false, false]) _ rfl (by kernel_rfl) rfl rfl (Yl.idxK sl26 rfl rfl (by first | exact .arg ‹_› | ((repeat (first | exact .hd | apply RdS.tl)); done) | assumption | exact .arg (hNi _ (by omega))) (by decide) (by omega)) trivial rfl ?_
              refine HeldK.first 7 (fuel := 11) (listed' := #[true, true, true, true, true, true, true, true, false, false, false, false, false, false, false, false, false, false, false]) _ rfl (by kernel_rfl) rfl rfl (Yl.loadI on3 rfl (by first | exact .arg ‹_› | ((repeat (first | exact .hd | apply RdS.tl)); done) | assumption | exact .arg (hNi _ (by omega))) (by omega)) trivial rfl ?_
              refine HeldK.first 8 (fuel := 10) (listed' := #[true, true, true, true, true, true, true, true, true, false, false, false, false, false, false, false, false, false, false]) _ rfl (by kernel_rfl) rfl rfl (Yl.fieldAddr fd25_3 rfl) trivial rfl ?_
              refine HeldK.first 9 (fuel := 9) (listed' := #[true, true, true, true, true, true, true, true, true, true, false, false, false, false, false, false, false, false, false]) _ rfl (by kernel_rfl) rfl rfl (Yl.loadBox on23 rfl (by first | ((repeat (first | exact .hd | apply BoxS.tl | apply MapS.tl)); done) | assumption | exact BoxS.arg (by assumption)) rfl) trivial rfl ?_
              refine HeldK.first 10 (fuel := 8) (listed' := #[true, true, true, true, true, true, true, true, true, true, true, false, false, false, false, false, false, false, false]) _ rfl (by kernel_rfl) rfl rfl (Yl.move rfl) trivial rfl ?_
              first | refine HeldK.first 11 (fuel := 7) (listed' := #[true, true, true, true, true, true, true, true, true, true, true, true, false, false, false, false, false, false, false]) _ rfl (by kernel_rfl) rfl rfl (Yl.idxN sl23 rfl rfl (by first | exact .arg ‹_› | ((repeat (first | exact .hd | apply RdS.tl)); done) | assumption | exact .arg (hNi _ (by omega))) (by decide) (by omega)) trivial rfl ?_ | refine HeldK.first 11 (fuel := 7) (listed' := #[true, true, true, true, true, true, true, true, true, true, true, true, false, false, false, false, false, false, false]) _ rfl (by kernel_rfl) rfl rfl (Yl.idx sl23 rfl rfl (by first | exact .arg ‹_› | ((repeat (first | exact .hd | apply RdS.tl)); done) | assumption | exact .arg (hNi _ (by omega))) (by decide) (by omega)) trivial rfl ?_ | refine HeldK.first 11 (fuel := 7) (listed' := #[true, true, true, true, true, true, true, true, true, true, true, true, false, false, false, false, false, false, false]) _ rfl (by kernel_rfl) rfl rfl (Yl.idxK sl23 rfl rfl (by first | exact .arg ‹_› | ((repeat (first | exact .hd | apply RdS.tl)); done) | assumption | exact .arg (hNi _ (by omega))) (by decide) (by omega)) trivial rfl ?_
              refine HeldK.first 12 (fuel := 6) (listed' := #[true, true, true, true, true, true, true, true, true, true, true, true, true, false, false, false, false, false, false]) _ rfl (by kernel_rfl) rfl rfl (Yl.loadV on26 rfl (by first | exact .arg ‹_› | ((repeat (first | exact .hd | apply RdS.tl)); done) | assumption | exact .arg (hNi _ (by omega))) (by omega)) trivial rfl ?_
              refine HeldK.first 13 (fuel := 5) (listed' := #[true, true, true, true, true, true, true, true, true, true, true, true, true, true, false, false, false, false, false]) _ rfl (by kernel_rfl) rfl rfl (Yl.move rfl) trivial rfl ?_
              first | refine HeldK.first 14 (fuel := 4) (listed' := #[true, true, true, true, true, true, true, true, true, true, true, true, true, true, true, false, false, false, false]) _ rfl (by kernel_rfl) rfl rfl (Yl.idxN sl26 rfl rfl (by first | exact .arg ‹_› | ((repeat (first | exact .hd | apply RdS.tl)); done) | assumption | exact .arg (hNi _ (by omega))) (by decide) (by omega)) trivial rfl ?_ | refine HeldK.first 14 (fuel := 4) (listed' := #[true, true, true, true, true, true, true, true, true, true, true, true, true, true, true, false, false, false, false]) _ rfl (by kernel_rfl) rfl rfl (Yl.idx sl26 rfl rfl (by first | exact .arg ‹_› | ((repeat (first | exact .hd | apply RdS.tl)); done) | assumption | exact .arg (hNi _ (by omega))) (by decide) (by omega)) trivial rfl ?_ | refine HeldK.first 14 (fuel := 4) (listed' := #[true, true, true, true, true, true, true, true, true, true, true, true, true, true, true, false, false, false, false]) _ rfl (by kernel_rfl) rfl rfl (Yl.idxK sl26 rfl rfl (by first | exact .arg ‹_› | ((repeat (first | exact .hd | apply RdS.tl)); done) | assumption | exact .arg (hNi _ (by omega))) (by decide) (by omega)) trivial rfl ?_
              refine HeldK.first 15 (fuel := 3) (listed' := #[true, true, true, true, true, true, true, true, true, true, true, true, true, true, true, true, false, false, false]) _ rfl (by kernel_rfl) rfl rfl (Yl.loadI on3 rfl (by first | exact .arg ‹_› | ((repeat (first | exact .hd | apply RdS.tl)); done) | assumption | exact .arg (hNi _ (by omega))) (by omega)) trivial rfl ?_
              refine HeldK.first 16 (fuel := 2) (listed' := #[true, true, true, true, true, true, true, true, true, true, true, true, true, true, true, true, true, false, false]) _ rfl (by kernel_rfl) rfl rfl (Yl.build (parts := [(0, .tmp 70), (1, .tmp 78)]) (cs := #[.int .i64 ((d.nx.getD ((exI (stepP d d) d.L.toNat (p, q) (0, 0) x.1).getD x.1 (0, 0)).1.toNat []).getD y.1 0), .int .i64 ((d.nx.getD ((exI (stepP d d) d.L.toNat (p, q) (0, 0) x.1).getD x.1 (0, 0)).2.toNat []).getD y.1 0)]) rfl (by kernel_rfl)) trivial rfl ?_
              refine HeldK.one 17 (fuel := 1) (listed' := #[true, true, true, true, true, true, true, true, true, true, true, true, true, true, true, true, true, true, false]) (by kernel_rfl) rfl rfl ?_
              refine AK.alloc el73 rfl rfl trivial rfl (fun bx15 => ?_)
              refine AK.nil ?_
              try (conv => enter [2, 2]; dsimp only [List.set_cons_zero, List.set_cons_succ, List.cons_append, List.nil_append])
              refine HeldK.back (by repeat (first | exact HWle.nil | refine HWle.cons Ale.rfl ?_ | refine HWle.cons Ale.fst ?_)) ?_
              refine HeldK.one 18 (fuel := 0) (listed' := #[true, true, true, true, true, true, true, true, true, true, true, true, true, true, true, true, true, true, true]) (by kernel_rfl) rfl rfl ?_
              refine AK.storeBox 4 (us := [.int .i64 ((d.nx.getD ((exI (stepP d d) d.L.toNat (p, q) (0, 0) x.1).getD x.1 (0, 0)).1.toNat []).getD y.1 0), .int .i64 ((d.nx.getD ((exI (stepP d d) d.L.toNat (p, q) (0, 0) x.1).getD x.1 (0, 0)).2.toNat []).getD y.1 0)]) (cs' := [.int .i64 ((d.nx.getD ((exI (stepP d d) d.L.toNat (p, q) (0, 0) x.1).getD x.1 (0, 0)).1.toNat []).getD y.1 0), .int .i64 ((d.nx.getD ((exI (stepP d d) d.L.toNat (p, q) (0, 0) x.1).getD x.1 (0, 0)).2.toNat []).getD y.1 0)]) rfl sz73 rfl rfl rfl rfl (by repeat (first | exact one'_nil | refine one'_cons (by first | rfl | exact IsSl.one (by assumption) | exact IsSl.one nilSl) ?_)) (Nat.le_of_ble_eq_true rfl) rfl trivial ?_
              refine AK.nil ?_
              try (conv => enter [2, 2]; dsimp only [List.set_cons_zero, List.set_cons_succ, List.cons_append, List.nil_append])
              refine HeldK.backN 19 rfl rfl (by kernel_rfl) ?_
              refine AK.nil ?_
              refine AK.fromQn ?_
              exact hJ _ _ (bx15) trivial (.cons (rfl) (.cons rfl (.cons rfl (.cons rfl (.cons rfl (.cons rfl (.cons rfl (.cons rfl (.cons rfl (.nil)))))))))) (fun w hw => by first | (refine hw.pickLe [0, 1, 2, 3, 4] (by decide) ?_; (repeat (first | exact PickLe.nil | refine PickLe.cons rfl Ale.rfl ?_ | refine PickLe.cons rfl Ale.snd ?_ | refine PickLe.cons rfl Ale.fst ?_)); done))
            · skip
              refine AK.then_ (hK19 _ ?_)
              refine AK.seq (fun _ hK20 => ?_)
              refine AK.region ?_
              refine AK.val _ (Yl.move rfl) trivial rfl ?_
              refine AK.val (pv (stepP d d ((exI (stepP d d) d.L.toNat (p, q) (0, 0) x.1).getD x.1 (0, 0)) y.1)) (Yl.loadBoxP ag73 rfl (BoxS.own 4 rfl)) trivial rfl ?_
              refine AK.val (.bool (decide ((stepP d d ((exI (stepP d d) d.L.toNat (p, q) (0, 0) x.1).getD x.1 (0, 0)) y.1) ∈ (exR (stepP d d) ((exI (stepP d d) d.L.toNat (p, q) (0, 0) x.1).getD x.1 (0, 0)) (exI (stepP d d) d.L.toNat (p, q) (0, 0) x.1) y.1)))) (Yl.valE (Yl.lookup1 (fv := Value.bool) (m := metM (exR (stepP d d) ((exI (stepP d d) d.L.toNat (p, q) (0, 0) x.1).getD x.1 (0, 0)) (exI (stepP d d) d.L.toNat (p, q) (0, 0) x.1) y.1)) (a := (stepP d d ((exI (stepP d d) d.L.toNat (p, q) (0, 0) x.1).getD x.1 (0, 0)) y.1)) mp75 (keyPair ar73.1 un3 sz3) el4 rfl rfl (.own 3 rfl)) (metM_get _ _)) trivial rfl ?_
              refine AK.val _ (Yl.not rfl) trivial rfl ?_
              refine AK.nil ?_
              refine AK.then_ (hK20 _ ?_)
              refine AK.condB rfl (fun hc3 => ?_) (fun hc3 => ?_)
              · have hni : (stepP d d ((exI (stepP d d) d.L.toNat (p, q) (0, 0) x.1).getD x.1 (0, 0)) y.1) ∉ (exR (stepP d d) ((exI (stepP d d) d.L.toNat (p, q) (0, 0) x.1).getD x.1 (0, 0)) (exI (stepP d d) d.L.toNat (p, q) (0, 0) x.1) y.1) := of_decide_eq_false hc3
                refine AK.seq (fun _ hK21 => ?_)
                refine AK.region ?_
                refine AK.val _ (Yl.move rfl) trivial rfl ?_
                refine AK.val (pv (stepP d d ((exI (stepP d d) d.L.toNat (p, q) (0, 0) x.1).getD x.1 (0, 0)) y.1)) (Yl.loadBoxP ag73 rfl (BoxS.own 4 rfl)) trivial rfl ?_
                refine AK.mapSet 3 (fk := pv) (fv := Value.bool) (m := metM (exR (stepP d d) ((exI (stepP d d) d.L.toNat (p, q) (0, 0) x.1).getD x.1 (0, 0)) (exI (stepP d d) d.L.toNat (p, q) (0, 0) x.1) y.1)) (a := (stepP d d ((exI (stepP d d) d.L.toNat (p, q) (0, 0) x.1).getD x.1 (0, 0)) y.1)) (v := true) rfl mp75 (keyPair ar73.1 un3 sz3) rfl rfl rfl trivial ?_
                refine AK.nil ?_
                refine AK.then_ (hK21 _ ?_)
                refine AK.joinK (X := Value × Value) [(3, _), (10, _), (11, _), (12, _), (13, _), (14, _)] (fun zz => [(8, zz.1), (9, zz.2)]) (fun zz => [box bx3 25 4 [.int .i64 d.L, .int .i64 d.s, vF, vN], row zz.1 73 2 ((exR (stepP d d) ((exI (stepP d d) d.L.toNat (p, q) (0, 0) x.1).getD x.1 (0, 0)) (exI (stepP d d) d.L.toNat (p, q) (0, 0) x.1) y.1).length + 1) (pcs (exR (stepP d d) ((exI (stepP d d) d.L.toNat (p, q) (0, 0) x.1).getD x.1 (0, 0)) (exI (stepP d d) d.L.toNat (p, q) (0, 0) x.1) y.1) ++ [pv (stepP d d ((exI (stepP d d) d.L.toNat (p, q) (0, 0) x.1).getD x.1 (0, 0)) y.1)].flatMap (·.cells.toList)), row zz.2 9 1 ((exRw (stepP d d) ((exI (stepP d d) d.L.toNat (p, q) (0, 0) x.1).getD x.1 (0, 0)) ((exIw (stepP d d) d.L.toNat (p, q) (0, 0) x.1).getD x.1 []) (exI (stepP d d) d.L.toNat (p, q) (0, 0) x.1) (exIw (stepP d d) d.L.toNat (p, q) (0, 0) x.1) y.1).length + 1) ((exRw (stepP d d) ((exI (stepP d d) d.L.toNat (p, q) (0, 0) x.1).getD x.1 (0, 0)) ((exIw (stepP d d) d.L.toNat (p, q) (0, 0) x.1).getD x.1 []) (exI (stepP d d) d.L.toNat (p, q) (0, 0) x.1) (exIw (stepP d d) d.L.toNat (p, q) (0, 0) x.1) y.1).map sv ++ [sv ((exRw (stepP d d) ((exI (stepP d d) d.L.toNat (p, q) (0, 0) x.1).getD x.1 (0, 0)) ((exIw (stepP d d) d.L.toNat (p, q) (0, 0) x.1).getD x.1 []) (exI (stepP d d) d.L.toNat (p, q) (0, 0) x.1) (exIw (stepP d d) d.L.toNat (p, q) (0, 0) x.1) y.1).getD x.1 [] ++ [ltr y.1])].flatMap (·.cells.toList)), mapA mb (mkv pv Value.bool (mset (metM (exR (stepP d d) ((exI (stepP d d) d.L.toNat (p, q) (0, 0) x.1).getD x.1 (0, 0)) (exI (stepP d d) d.L.toNat (p, q) (0, 0) x.1) y.1)) (stepP d d ((exI (stepP d d) d.L.toNat (p, q) (0, 0) x.1).getD x.1 (0, 0)) y.1) true))]) (fun zz => IsSl zz.1 ∧ IsSl zz.2) (.cons rfl (.cons rfl (.cons rfl (.cons rfl (.cons rfl (.cons rfl (.nil))))))) (fun _ hJ => ?_) (fun zz hg => ?_)
                · try (conv => enter [2, 2]; dsimp only [List.set_cons_zero, List.set_cons_succ, List.cons_append, List.nil_append])
                  refine AK.held 19 mixed ?_
                  refine HeldK.first 0 (fuel := 18) (listed' := #[true, false, false, false, false, false, false, false, false, false, false, false, false, false, false, false, false, false, false]) _ rfl (by kernel_rfl) rfl rfl (Yl.move rfl) trivial rfl ?_
                  refine HeldK.first 1 (fuel := 17) (listed' := #[true, true, false, false, false, false, false, false, false, false, false, false, false, false, false, false, false, false, false]) _ rfl (by kernel_rfl) rfl rfl (Yl.loadBoxP ag73 rfl (BoxS.own 4 rfl)) trivial rfl ?_
                  refine HeldK.first 4 (fuel := 16) (listed' := #[true, true, false, false, true, false, false, false, false, false, false, false, false, false, false, false, false, false, false]) _ rfl (by kernel_rfl) rfl rfl (Yl.move rfl) trivial rfl ?_
                  refine HeldK.first 5 (fuel := 15) (listed' := #[true, true, false, false, true, true, false, false, false, false, false, false, false, false, false, false, false, false, false]) _ rfl (by kernel_rfl) rfl rfl (Yl.move rfl) trivial rfl ?_
                  refine HeldK.first 6 (fuel := 14) (listed' := #[true, true, false, false, true, true, true, false, false, false, false, false, false, false, false, false, false, false, false]) _ rfl (by kernel_rfl) rfl rfl (Yl.move rfl) trivial rfl ?_
                  first | refine HeldK.first 7 (fuel := 13) (listed' := #[true, true, false, false, true, true, true, true, false, false, false, false, false, false, false, false, false, false, false]) _ rfl (by kernel_rfl) rfl rfl (Yl.idxN sl49 rfl rfl (by first | exact .arg ‹_› | ((repeat (first | exact .hd | apply RdS.tl)); done) | assumption | exact .arg (hNi _ (by omega))) (by decide) (by omega)) trivial rfl ?_ | refine HeldK.first 7 (fuel := 13) (listed' := #[true, true, false, false, true, true, true, true, false, false, false, false, false, false, false, false, false, false, false]) _ rfl (by kernel_rfl) rfl rfl (Yl.idx sl49 rfl rfl (by first | exact .arg ‹_› | ((repeat (first | exact .hd | apply RdS.tl)); done) | assumption | exact .arg (hNi _ (by omega))) (by decide) (by omega)) trivial rfl ?_ | refine HeldK.first 7 (fuel := 13) (listed' := #[true, true, false, false, true, true, true, true, false, false, false, false, false, false, false, false, false, false, false]) _ rfl (by kernel_rfl) rfl rfl (Yl.idxK sl49 rfl rfl (by first | exact .arg ‹_› | ((repeat (first | exact .hd | apply RdS.tl)); done) | assumption | exact .arg (hNi _ (by omega))) (by decide) (by omega)) trivial rfl ?_
                  refine HeldK.first 8 (fuel := 12) (listed' := #[true, true, false, false, true, true, true, true, true, false, false, false, false, false, false, false, false, false, false]) _ rfl (by kernel_rfl) rfl rfl (Yl.loadS on9 rfl (by first | exact .arg ‹_› | ((repeat (first | exact .hd | apply RdS.tl)); done) | assumption | exact .arg (hNi _ (by omega))) (by omega)) trivial rfl ?_
                  refine HeldK.first 9 (fuel := 11) (listed' := #[true, true, false, false, true, true, true, true, true, true, false, false, false, false, false, false, false, false, false]) _ rfl (by kernel_rfl) rfl rfl (Yl.move rfl) trivial rfl ?_
                  refine HeldK.first 10 (fuel := 10) (listed' := #[true, true, false, false, true, true, true, true, true, true, true, false, false, false, false, false, false, false, false]) _ rfl (by kernel_rfl) rfl rfl (Yl.add rfl rfl (by omega)) trivial rfl ?_
                  refine HeldK.first 11 (fuel := 9) (listed' := #[true, true, false, false, true, true, true, true, true, true, true, true, false, false, false, false, false, false, false]) _ rfl (by kernel_rfl) rfl rfl (Yl.convI (by kernel_rfl) un5 rfl (wrap_u8 (by omega))) trivial rfl ?_
                  refine HeldK.two 2 12 (fuel := 8) (listed1 := #[true, true, true, false, true, true, true, true, true, true, true, true, false, false, false, false, false, false, false]) (listed2 := #[true, true, false, false, true, true, true, true, true, true, true, true, true, false, false, false, false, false, false]) (by kernel_rfl) rfl rfl rfl rfl ?_ ?_
                  · refine AK.lit (xs := [.tmp 87]) sl74 el73 rfl rfl rfl (by intro a ha; simp at ha; subst ha; rfl) (by decide) (by decide) trivial rfl (fun t1 => ?_)
                    refine AK.nil ?_
                    try (conv => enter [2, 2]; dsimp only [List.set_cons_zero, List.set_cons_succ, List.cons_append, List.nil_append])
                    refine HeldK.back (by repeat (first | exact HWle.nil | refine HWle.cons Ale.rfl ?_ | refine HWle.cons Ale.fst ?_)) ?_
                    refine HeldK.two 3 12 (fuel := 7) (listed1 := #[true, true, true, true, true, true, true, true, true, true, true, true, false, false, false, false, false, false, false]) (listed2 := #[true, true, true, false, true, true, true, true, true, true, true, true, true, false, false, false, false, false, false]) (by kernel_rfl) rfl rfl rfl rfl ?_ ?_
                    · refine AK.appendH 1 rfl sl74 el73 rfl (by decide) rfl rfl rfl (by first | exact .arg ‹_› | ((repeat (first | exact .hd | apply RdS.tl)); done) | assumption | exact .arg (hNi _ (by omega))) (by intro u hu; simp [pv, Value.cells] at hu; rcases hu with rfl | rfl <;> rfl) (by omega) (by omega) trivial rfl (fun va ha => ?_)
                      refine AK.nil ?_
                      try (conv => enter [2, 2]; dsimp only [List.set_cons_zero, List.set_cons_succ, List.cons_append, List.nil_append])
                      refine HeldK.back (by repeat (first | exact HWle.nil | refine HWle.cons Ale.rfl ?_ | refine HWle.cons Ale.fst ?_)) ?_
                      refine HeldK.one 12 (fuel := 6) (listed' := #[true, true, true, true, true, true, true, true, true, true, true, true, true, false, false, false, false, false, false]) (by kernel_rfl) rfl rfl ?_
                      refine AK.lit (xs := [.tmp 97]) sl71 el5 rfl rfl rfl (by intro a ha; simp at ha; subst ha; rfl) (by decide) (by decide) trivial rfl (fun t2 => ?_)
                      refine AK.nil ?_
                      try (conv => enter [2, 2]; dsimp only [List.set_cons_zero, List.set_cons_succ, List.cons_append, List.nil_append])
                      refine HeldK.back (by repeat (first | exact HWle.nil | refine HWle.cons Ale.rfl ?_ | refine HWle.cons Ale.fst ?_)) ?_
                      first | refine HeldK.first 13 (fuel := 5) (listed' := #[true, true, true, true, true, true, true, true, true, true, true, true, true, true, false, false, false, false, false]) _ rfl (by kernel_rfl) rfl rfl (Yl.bytesLtr 6 y.1 rfl (by omega) sl71.1 un5 un9 rfl) trivial rfl ?_ | refine HeldK.first 13 (fuel := 5) (listed' := #[true, true, true, true, true, true, true, true, true, true, true, true, true, true, false, false, false, false, false]) _ rfl (by kernel_rfl) rfl rfl (Yl.bytesLtr 5 y.1 rfl (by omega) sl71.1 un5 un9 rfl) trivial rfl ?_
                      refine HeldK.first 14 (fuel := 4) (listed' := #[true, true, true, true, true, true, true, true, true, true, true, true, true, true, true, false, false, false, false]) _ rfl (by kernel_rfl) rfl rfl (Yl.concat rfl rfl (by rw [hgw]; simp only [List.length_cons, List.length_nil]; omega)) trivial rfl ?_
                      refine HeldK.one 15 (fuel := 3) (listed' := #[true, true, true, true, true, true, true, true, true, true, true, true, true, true, true, true, false, false, false]) (by kernel_rfl) rfl rfl ?_
                      refine AK.lit (xs := [.tmp 100]) sl49 el9 rfl rfl rfl (by intro a ha; simp at ha; subst ha; rfl) (by decide) (by decide) trivial rfl (fun t3 => ?_)
                      refine AK.nil ?_
                      try (conv => enter [2, 2]; dsimp only [List.set_cons_zero, List.set_cons_succ, List.cons_append, List.nil_append])
                      refine HeldK.back (by repeat (first | exact HWle.nil | refine HWle.cons Ale.rfl ?_ | refine HWle.cons Ale.fst ?_)) ?_
                      refine HeldK.one 16 (fuel := 2) (listed' := #[true, true, true, true, true, true, true, true, true, true, true, true, true, true, true, true, true, false, false]) (by kernel_rfl) rfl rfl ?_
                      refine AK.appendH 2 rfl sl49 el9 rfl (by decide) rfl rfl rfl (by first | exact .arg ‹_› | ((repeat (first | exact .hd | apply RdS.tl)); done) | assumption | exact .arg (hNi _ (by omega))) (by repeat (first | exact one'_nil | refine one'_cons (by first | rfl | exact IsSl.one (by assumption) | exact IsSl.one nilSl) ?_)) (by omega) (by omega) trivial rfl (fun vb hb => ?_)
                      refine AK.nil ?_
                      try (conv => enter [2, 2]; dsimp only [List.set_cons_zero, List.set_cons_succ, List.cons_append, List.nil_append])
                      refine HeldK.back (by repeat (first | exact HWle.nil | refine HWle.cons Ale.rfl ?_ | refine HWle.cons Ale.fst ?_)) ?_
                      refine HeldK.first 17 (fuel := 1) (listed' := #[true, true, true, true, true, true, true, true, true, true, true, true, true, true, true, true, true, true, false]) _ rfl (by kernel_rfl) rfl rfl (Yl.assign rfl) trivial rfl ?_
                      refine HeldK.first 18 (fuel := 0) (listed' := #[true, true, true, true, true, true, true, true, true, true, true, true, true, true, true, true, true, true, true]) _ rfl (by kernel_rfl) rfl rfl (Yl.assign rfl) trivial rfl ?_
                      refine HeldK.done (by kernel_rfl) ?_
                      exact hJ _ _ ((va, vb)) ⟨ha, hb⟩ (.cons (rfl) (.cons (rfl) (.cons rfl (.cons rfl (.cons rfl (.cons rfl (.cons rfl (.cons rfl (.nil))))))))) (fun w hw => by first | (refine hw.pickLe [0, 1, 2, 3] (by decide) ?_; (repeat (first | exact PickLe.nil | refine PickLe.cons rfl Ale.rfl ?_ | refine PickLe.cons rfl Ale.snd ?_ | refine PickLe.cons rfl Ale.fst ?_)); done))
                    · refine AK.lit (xs := [.tmp 97]) sl71 el5 rfl rfl rfl (by intro a ha; simp at ha; subst ha; rfl) (by decide) (by decide) trivial rfl (fun t2 => ?_)
                      refine AK.nil ?_
                      try (conv => enter [2, 2]; dsimp only [List.set_cons_zero, List.set_cons_succ, List.cons_append, List.nil_append])
                      refine HeldK.back (by repeat (first | exact HWle.nil | refine HWle.cons Ale.rfl ?_ | refine HWle.cons Ale.fst ?_)) ?_
                      first | refine HeldK.first 13 (fuel := 6) (listed' := #[true, true, true, false, true, true, true, true, true, true, true, true, true, true, false, false, false, false, false]) _ rfl (by kernel_rfl) rfl rfl (Yl.bytesLtr 6 y.1 rfl (by omega) sl71.1 un5 un9 rfl) trivial rfl ?_ | refine HeldK.first 13 (fuel := 6) (listed' := #[true, true, true, false, true, true, true, true, true, true, true, true, true, true, false, false, false, false, false]) _ rfl (by kernel_rfl) rfl rfl (Yl.bytesLtr 5 y.1 rfl (by omega) sl71.1 un5 un9 rfl) trivial rfl ?_
                      refine HeldK.first 14 (fuel := 5) (listed' := #[true, true, true, false, true, true, true, true, true, true, true, true, true, true, true, false, false, false, false]) _ rfl (by kernel_rfl) rfl rfl (Yl.concat rfl rfl (by rw [hgw]; simp only [List.length_cons, List.length_nil]; omega)) trivial rfl ?_
                      refine HeldK.two 3 15 (fuel := 4) (listed1 := #[true, true, true, true, true, true, true, true, true, true, true, true, true, true, true, false, false, false, false]) (listed2 := #[true, true, true, false, true, true, true, true, true, true, true, true, true, true, true, true, false, false, false]) (by kernel_rfl) rfl rfl rfl rfl ?_ ?_
                      · refine AK.appendH 1 rfl sl74 el73 rfl (by decide) rfl rfl rfl (by first | exact .arg ‹_› | ((repeat (first | exact .hd | apply RdS.tl)); done) | assumption | exact .arg (hNi _ (by omega))) (by intro u hu; simp [pv, Value.cells] at hu; rcases hu with rfl | rfl <;> rfl) (by omega) (by omega) trivial rfl (fun va ha => ?_)
                        refine AK.nil ?_
                        try (conv => enter [2, 2]; dsimp only [List.set_cons_zero, List.set_cons_succ, List.cons_append, List.nil_append])
                        refine HeldK.back (by repeat (first | exact HWle.nil | refine HWle.cons Ale.rfl ?_ | refine HWle.cons Ale.fst ?_)) ?_
                        refine HeldK.one 15 (fuel := 3) (listed' := #[true, true, true, true, true, true, true, true, true, true, true, true, true, true, true, true, false, false, false]) (by kernel_rfl) rfl rfl ?_
                        refine AK.lit (xs := [.tmp 100]) sl49 el9 rfl rfl rfl (by intro a ha; simp at ha; subst ha; rfl) (by decide) (by decide) trivial rfl (fun t3 => ?_)
                        refine AK.nil ?_
                        try (conv => enter [2, 2]; dsimp only [List.set_cons_zero, List.set_cons_succ, List.cons_append, List.nil_append])
                        refine HeldK.back (by repeat (first | exact HWle.nil | refine HWle.cons Ale.rfl ?_ | refine HWle.cons Ale.fst ?_)) ?_
                        refine HeldK.one 16 (fuel := 2) (listed' := #[true, true, true, true, true, true, true, true, true, true, true, true, true, true, true, true, true, false, false]) (by kernel_rfl) rfl rfl ?_
                        refine AK.appendH 2 rfl sl49 el9 rfl (by decide) rfl rfl rfl (by first | exact .arg ‹_› | ((repeat (first | exact .hd | apply RdS.tl)); done) | assumption | exact .arg (hNi _ (by omega))) (by repeat (first | exact one'_nil | refine one'_cons (by first | rfl | exact IsSl.one (by assumption) | exact IsSl.one nilSl) ?_)) (by omega) (by omega) trivial rfl (fun vb hb => ?_)
                        refine AK.nil ?_
                        try (conv => enter [2, 2]; dsimp only [List.set_cons_zero, List.set_cons_succ, List.cons_append, List.nil_append])
                        refine HeldK.back (by repeat (first | exact HWle.nil | refine HWle.cons Ale.rfl ?_ | refine HWle.cons Ale.fst ?_)) ?_
                        refine HeldK.first 17 (fuel := 1) (listed' := #[true, true, true, true, true, true, true, true, true, true, true, true, true, true, true, true, true, true, false]) _ rfl (by kernel_rfl) rfl rfl (Yl.assign rfl) trivial rfl ?_
                        refine HeldK.first 18 (fuel := 0) (listed' := #[true, true, true, true, true, true, true, true, true, true, true, true, true, true, true, true, true, true, true]) _ rfl (by kernel_rfl) rfl rfl (Yl.assign rfl) trivial rfl ?_
                        refine HeldK.done (by kernel_rfl) ?_
                        exact hJ _ _ ((va, vb)) ⟨ha, hb⟩ (.cons (rfl) (.cons (rfl) (.cons rfl (.cons rfl (.cons rfl (.cons rfl (.cons rfl (.cons rfl (.nil))))))))) (fun w hw => by first | (refine hw.pickLe [0, 1, 2, 3] (by decide) ?_; (repeat (first | exact PickLe.nil | refine PickLe.cons rfl Ale.rfl ?_ | refine PickLe.cons rfl Ale.snd ?_ | refine PickLe.cons rfl Ale.fst ?_)); done))
                      · refine AK.lit (xs := [.tmp 100]) sl49 el9 rfl rfl rfl (by intro a ha; simp at ha; subst ha; rfl) (by decide) (by decide) trivial rfl (fun t3 => ?_)
                        refine AK.nil ?_
                        try (conv => enter [2, 2]; dsimp only [List.set_cons_zero, List.set_cons_succ, List.cons_append, List.nil_append])
                        refine HeldK.back (by repeat (first | exact HWle.nil | refine HWle.cons Ale.rfl ?_ | refine HWle.cons Ale.fst ?_)) ?_
                        refine HeldK.one 3 (fuel := 3) (listed' := #[true, true, true, true, true, true, true, true, true, true, true, true, true, true, true, true, false, false, false]) (by kernel_rfl) rfl rfl ?_
                        refine AK.appendH 1 rfl sl74 el73 rfl (by decide) rfl rfl rfl (by first | exact .arg ‹_› | ((repeat (first | exact .hd | apply RdS.tl)); done) | assumption | exact .arg (hNi _ (by omega))) (by intro u hu; simp [pv, Value.cells] at hu; rcases hu with rfl | rfl <;> rfl) (by omega) (by omega) trivial rfl (fun va ha => ?_)
                        refine AK.nil ?_
                        try (conv => enter [2, 2]; dsimp only [List.set_cons_zero, List.set_cons_succ, List.cons_append, List.nil_append])
                        refine HeldK.back (by repeat (first | exact HWle.nil | refine HWle.cons Ale.rfl ?_ | refine HWle.cons Ale.fst ?_)) ?_
                        refine HeldK.one 16 (fuel := 2) (listed' := #[true, true, true, true, true, true, true, true, true, true, true, true, true, true, true, true, true, false, false]) (by kernel_rfl) rfl rfl ?_
                        refine AK.appendH 2 rfl sl49 el9 rfl (by decide) rfl rfl rfl (by first | exact .arg ‹_› | ((repeat (first | exact .hd | apply RdS.tl)); done) | assumption | exact .arg (hNi _ (by omega))) (by repeat (first | exact one'_nil | refine one'_cons (by first | rfl | exact IsSl.one (by assumption) | exact IsSl.one nilSl) ?_)) (by omega) (by omega) trivial rfl (fun vb hb => ?_)
                        refine AK.nil ?_
                        try (conv => enter [2, 2]; dsimp only [List.set_cons_zero, List.set_cons_succ, List.cons_append, List.nil_append])
                        refine HeldK.back (by repeat (first | exact HWle.nil | refine HWle.cons Ale.rfl ?_ | refine HWle.cons Ale.fst ?_)) ?_
                        refine HeldK.first 17 (fuel := 1) (listed' := #[true, true, true, true, true, true, true, true, true, true, true, true, true, true, true, true, true, true, false]) _ rfl (by kernel_rfl) rfl rfl (Yl.assign rfl) trivial rfl ?_
                        refine HeldK.first 18 (fuel := 0) (listed' := #[true, true, true, true, true, true, true, true, true, true, true, true, true, true, true, true, true, true, true]) _ rfl (by kernel_rfl) rfl rfl (Yl.assign rfl) trivial rfl ?_
                        refine HeldK.done (by kernel_rfl) ?_
                        exact hJ _ _ ((va, vb)) ⟨ha, hb⟩ (.cons (rfl) (.cons (rfl) (.cons rfl (.cons rfl (.cons rfl (.cons rfl (.cons rfl (.cons rfl (.nil))))))))) (fun w hw => by first | (refine hw.pickLe [0, 1, 2, 3] (by decide) ?_; (repeat (first | exact PickLe.nil | refine PickLe.cons rfl Ale.rfl ?_ | refine PickLe.cons rfl Ale.snd ?_ | refine PickLe.cons rfl Ale.fst ?_)); done))
                  · refine AK.lit (xs := [.tmp 97]) sl71 el5 rfl rfl rfl (by intro a ha; simp at ha; subst ha; rfl) (by decide) (by decide) trivial rfl (fun t2 => ?_)
                    refine AK.nil ?_
                    try (conv => enter [2, 2]; dsimp only [List.set_cons_zero, List.set_cons_succ, List.cons_append, List.nil_append])
                    refine HeldK.back (by repeat (first | exact HWle.nil | refine HWle.cons Ale.rfl ?_ | refine HWle.cons Ale.fst ?_)) ?_
                    first | refine HeldK.first 13 (fuel := 7) (listed' := #[true, true, false, false, true, true, true, true, true, true, true, true, true, true, false, false, false, false, false]) _ rfl (by kernel_rfl) rfl rfl (Yl.bytesLtr 6 y.1 rfl (by omega) sl71.1 un5 un9 rfl) trivial rfl ?_ | refine HeldK.first 13 (fuel := 7) (listed' := #[true, true, false, false, true, true, true, true, true, true, true, true, true, true, false, false, false, false, false]) _ rfl (by kernel_rfl) rfl rfl (Yl.bytesLtr 5 y.1 rfl (by omega) sl71.1 un5 un9 rfl) trivial rfl ?_
                    refine HeldK.first 14 (fuel := 6) (listed' := #[true, true, false, false, true, true, true, true, true, true, true, true, true, true, true, false, false, false, false]) _ rfl (by kernel_rfl) rfl rfl (Yl.concat rfl rfl (by rw [hgw]; simp only [List.length_cons, List.length_nil]; omega)) trivial rfl ?_
                    refine HeldK.two 2 15 (fuel := 5) (listed1 := #[true, true, true, false, true, true, true, true, true, true, true, true, true, true, true, false, false, false, false]) (listed2 := #[true, true, false, false, true, true, true, true, true, true, true, true, true, true, true, true, false, false, false]) (by kernel_rfl) rfl rfl rfl rfl ?_ ?_
                    · refine AK.lit (xs := [.tmp 87]) sl74 el73 rfl rfl rfl (by intro a ha; simp at ha; subst ha; rfl) (by decide) (by decide) trivial rfl (fun t1 => ?_)
                      refine AK.nil ?_
                      try (conv => enter [2, 2]; dsimp only [List.set_cons_zero, List.set_cons_succ, List.cons_append, List.nil_append])
                      refine HeldK.back (by repeat (first | exact HWle.nil | refine HWle.cons Ale.rfl ?_ | refine HWle.cons Ale.fst ?_)) ?_
                      refine HeldK.two 3 15 (fuel := 4) (listed1 := #[true, true, true, true, true, true, true, true, true, true, true, true, true, true, true, false, false, false, false]) (listed2 := #[true, true, true, false, true, true, true, true, true, true, true, true, true, true, true, true, false, false, false]) (by kernel_rfl) rfl rfl rfl rfl ?_ ?_
                      · refine AK.appendH 1 rfl sl74 el73 rfl (by decide) rfl rfl rfl (by first | exact .arg ‹_› | ((repeat (first | exact .hd | apply RdS.tl)); done) | assumption | exact .arg (hNi _ (by omega))) (by intro u hu; simp [pv, Value.cells] at hu; rcases hu with rfl | rfl <;> rfl) (by omega) (by omega) trivial rfl (fun va ha => ?_)
                        refine AK.nil ?_
                        try (conv => enter [2, 2]; dsimp only [List.set_cons_zero, List.set_cons_succ, List.cons_append, List.nil_append])
                        refine HeldK.back (by repeat (first | exact HWle.nil | refine HWle.cons Ale.rfl ?_ | refine HWle.cons Ale.fst ?_)) ?_
                        refine HeldK.one 15 (fuel := 3) (listed' := #[true, true, true, true, true, true, true, true, true, true, true, true, true, true, true, true, false, false, false]) (by kernel_rfl) rfl rfl ?_
                        refine AK.lit (xs := [.tmp 100]) sl49 el9 rfl rfl rfl (by intro a ha; simp at ha; subst ha; rfl) (by decide) (by decide) trivial rfl (fun t3 => ?_)
                        refine AK.nil ?_
                        try (conv => enter [2, 2]; dsimp only [List.set_cons_zero, List.set_cons_succ, List.cons_append, List.nil_append])
                        refine HeldK.back (by repeat (first | exact HWle.nil | refine HWle.cons Ale.rfl ?_ | refine HWle.cons Ale.fst ?_)) ?_
                        refine HeldK.one 16 (fuel := 2) (listed' := #[true, true, true, true, true, true, true, true, true, true, true, true, true, true, true, true, true, false, false]) (by kernel_rfl) rfl rfl ?_
                        refine AK.appendH 2 rfl sl49 el9 rfl (by decide) rfl rfl rfl (by first | exact .arg ‹_› | ((repeat (first | exact .hd | apply RdS.tl)); done) | assumption | exact .arg (hNi _ (by omega))) (by repeat (first | exact one'_nil | refine one'_cons (by first | rfl | exact IsSl.one (by assumption) | exact IsSl.one nilSl) ?_)) (by omega) (by omega) trivial rfl (fun vb hb => ?_)
                        refine AK.nil ?_
                        try (conv => enter [2, 2]; dsimp only [List.set_cons_zero, List.set_cons_succ, List.cons_append, List.nil_append])
                        refine HeldK.back (by repeat (first | exact HWle.nil | refine HWle.cons Ale.rfl ?_ | refine HWle.cons Ale.fst ?_)) ?_
                        refine HeldK.first 17 (fuel := 1) (listed' := #[true, true, true, true, true, true, true, true, true, true, true, true, true, true, true, true, true, true, false]) _ rfl (by kernel_rfl) rfl rfl (Yl.assign rfl) trivial rfl ?_
                        refine HeldK.first 18 (fuel := 0) (listed' := #[true, true, true, true, true, true, true, true, true, true, true, true, true, true, true, true, true, true, true]) _ rfl (by kernel_rfl) rfl rfl (Yl.assign rfl) trivial rfl ?_
                        refine HeldK.done (by kernel_rfl) ?_
                        exact hJ _ _ ((va, vb)) ⟨ha, hb⟩ (.cons (rfl) (.cons (rfl) (.cons rfl (.cons rfl (.cons rfl (.cons rfl (.cons rfl (.cons rfl (.nil))))))))) (fun w hw => by first | (refine hw.pickLe [0, 1, 2, 3] (by decide) ?_; (repeat (first | exact PickLe.nil | refine PickLe.cons rfl Ale.rfl ?_ | refine PickLe.cons rfl Ale.snd ?_ | refine PickLe.cons rfl Ale.fst ?_)); done))
                      · refine AK.lit (xs := [.tmp 100]) sl49 el9 rfl rfl rfl (by intro a ha; simp at ha; subst ha; rfl) (by decide) (by decide) trivial rfl (fun t3 => ?_)
                        refine AK.nil ?_
                        try (conv => enter [2, 2]; dsimp only [List.set_cons_zero, List.set_cons_succ, List.cons_append, List.nil_append])
                        refine HeldK.back (by repeat (first | exact HWle.nil | refine HWle.cons Ale.rfl ?_ | refine HWle.cons Ale.fst ?_)) ?_
                        refine HeldK.one 3 (fuel := 3) (listed' := #[true, true, true, true, true, true, true, true, true, true, true, true, true, true, true, true, false, false, false]) (by kernel_rfl) rfl rfl ?_
                        refine AK.appendH 1 rfl sl74 el73 rfl (by decide) rfl rfl rfl (by first | exact .arg ‹_› | ((repeat (first | exact .hd | apply RdS.tl)); done) | assumption | exact .arg (hNi _ (by omega))) (by intro u hu; simp [pv, Value.cells] at hu; rcases hu with rfl | rfl <;> rfl) (by omega) (by omega) trivial rfl (fun va ha => ?_)
                        refine AK.nil ?_
                        try (conv => enter [2, 2]; dsimp only [List.set_cons_zero, List.set_cons_succ, List.cons_append, List.nil_append])
                        refine HeldK.back (by repeat (first | exact HWle.nil | refine HWle.cons Ale.rfl ?_ | refine HWle.cons Ale.fst ?_)) ?_
                        refine HeldK.one 16 (fuel := 2) (listed' := #[true, true, true, true, true, true, true, true, true, true, true, true, true, true, true, true, true, false, false]) (by kernel_rfl) rfl rfl ?_
                        refine AK.appendH 2 rfl sl49 el9 rfl (by decide) rfl rfl rfl (by first | exact .arg ‹_› | ((repeat (first | exact .hd | apply RdS.tl)); done) | assumption | exact .arg (hNi _ (by omega))) (by repeat (first | exact one'_nil | refine one'_cons (by first | rfl | exact IsSl.one (by assumption) | exact IsSl.one nilSl) ?_)) (by omega) (by omega) trivial rfl (fun vb hb => ?_)
                        refine AK.nil ?_
                        try (conv => enter [2, 2]; dsimp only [List.set_cons_zero, List.set_cons_succ, List.cons_append, List.nil_append])
                        refine HeldK.back (by repeat (first | exact HWle.nil | refine HWle.cons Ale.rfl ?_ | refine HWle.cons Ale.fst ?_)) ?_
                        refine HeldK.first 17 (fuel := 1) (listed' := #[true, true, true, true, true, true, true, true, true, true, true, true, true, true, true, true, true, true, false]) _ rfl (by kernel_rfl) rfl rfl (Yl.assign rfl) trivial rfl ?_
                        refine HeldK.first 18 (fuel := 0) (listed' := #[true, true, true, true, true, true, true, true, true, true, true, true, true, true, true, true, true, true, true]) _ rfl (by kernel_rfl) rfl rfl (Yl.assign rfl) trivial rfl ?_
                        refine HeldK.done (by kernel_rfl) ?_
                        exact hJ _ _ ((va, vb)) ⟨ha, hb⟩ (.cons (rfl) (.cons (rfl) (.cons rfl (.cons rfl (.cons rfl (.cons rfl (.cons rfl (.cons rfl (.nil))))))))) (fun w hw => by first | (refine hw.pickLe [0, 1, 2, 3] (by decide) ?_; (repeat (first | exact PickLe.nil | refine PickLe.cons rfl Ale.rfl ?_ | refine PickLe.cons rfl Ale.snd ?_ | refine PickLe.cons rfl Ale.fst ?_)); done))
                    · refine AK.lit (xs := [.tmp 100]) sl49 el9 rfl rfl rfl (by intro a ha; simp at ha; subst ha; rfl) (by decide) (by decide) trivial rfl (fun t3 => ?_)
                      refine AK.nil ?_
                      try (conv => enter [2, 2]; dsimp only [List.set_cons_zero, List.set_cons_succ, List.cons_append, List.nil_append])
                      refine HeldK.back (by repeat (first | exact HWle.nil | refine HWle.cons Ale.rfl ?_ | refine HWle.cons Ale.fst ?_)) ?_
                      refine HeldK.one 2 (fuel := 4) (listed' := #[true, true, true, false, true, true, true, true, true, true, true, true, true, true, true, true, false, false, false]) (by kernel_rfl) rfl rfl ?_
                      refine AK.lit (xs := [.tmp 87]) sl74 el73 rfl rfl rfl (by intro a ha; simp at ha; subst ha; rfl) (by decide) (by decide) trivial rfl (fun t1 => ?_)
                      refine AK.nil ?_
                      try (conv => enter [2, 2]; dsimp only [List.set_cons_zero, List.set_cons_succ, List.cons_append, List.nil_append])
                      refine HeldK.back (by repeat (first | exact HWle.nil | refine HWle.cons Ale.rfl ?_ | refine HWle.cons Ale.fst ?_)) ?_
                      refine HeldK.one 3 (fuel := 3) (listed' := #[true, true, true, true, true, true, true, true, true, true, true, true, true, true, true, true, false, false, false]) (by kernel_rfl) rfl rfl ?_
                      refine AK.appendH 1 rfl sl74 el73 rfl (by decide) rfl rfl rfl (by first | exact .arg ‹_› | ((repeat (first | exact .hd | apply RdS.tl)); done) | assumption | exact .arg (hNi _ (by omega))) (by intro u hu; simp [pv, Value.cells] at hu; rcases hu with rfl | rfl <;> rfl) (by omega) (by omega) trivial rfl (fun va ha => ?_)
                      refine AK.nil ?_
                      try (conv => enter [2, 2]; dsimp only [List.set_cons_zero, List.set_cons_succ, List.cons_append, List.nil_append])
                      refine HeldK.back (by repeat (first | exact HWle.nil | refine HWle.cons Ale.rfl ?_ | refine HWle.cons Ale.fst ?_)) ?_
                      refine HeldK.one 16 (fuel := 2) (listed' := #[true, true, true, true, true, true, true, true, true, true, true, true, true, true, true, true, true, false, false]) (by kernel_rfl) rfl rfl ?_
                      refine AK.appendH 2 rfl sl49 el9 rfl (by decide) rfl rfl rfl (by first | exact .arg ‹_› | ((repeat (first | exact .hd | apply RdS.tl)); done) | assumption | exact .arg (hNi _ (by omega))) (by repeat (first | exact one'_nil | refine one'_cons (by first | rfl | exact IsSl.one (by assumption) | exact IsSl.one nilSl) ?_)) (by omega) (by omega) trivial rfl (fun vb hb => ?_)
                      refine AK.nil ?_
                      try (conv => enter [2, 2]; dsimp only [List.set_cons_zero, List.set_cons_succ, List.cons_append, List.nil_append])
                      refine HeldK.back (by repeat (first | exact HWle.nil | refine HWle.cons Ale.rfl ?_ | refine HWle.cons Ale.fst ?_)) ?_
                      refine HeldK.first 17 (fuel := 1) (listed' := #[true, true, true, true, true, true, true, true, true, true, true, true, true, true, true, true, true, true, false]) _ rfl (by kernel_rfl) rfl rfl (Yl.assign rfl) trivial rfl ?_
                      refine HeldK.first 18 (fuel := 0) (listed' := #[true, true, true, true, true, true, true, true, true, true, true, true, true, true, true, true, true, true, true]) _ rfl (by kernel_rfl) rfl rfl (Yl.assign rfl) trivial rfl ?_
                      refine HeldK.done (by kernel_rfl) ?_
                      exact hJ _ _ ((va, vb)) ⟨ha, hb⟩ (.cons (rfl) (.cons (rfl) (.cons rfl (.cons rfl (.cons rfl (.cons rfl (.cons rfl (.cons rfl (.nil))))))))) (fun w hw => by first | (refine hw.pickLe [0, 1, 2, 3] (by decide) ?_; (repeat (first | exact PickLe.nil | refine PickLe.cons rfl Ale.rfl ?_ | refine PickLe.cons rfl Ale.snd ?_ | refine PickLe.cons rfl Ale.fst ?_)); done))
                · skip
                  refine AK.block_normal ?_
                  refine AK.then_ (hK18 _ ?_)
                  refine AK.region ?_
                  refine AK.val _ (Yl.move rfl) trivial rfl ?_
                  refine AK.val _ (Yl.add rfl rfl (by omega)) trivial rfl ?_
                  refine AK.val _ (Yl.assign rfl) trivial rfl ?_
                  refine AK.nil ?_
                  first | refine AK.then_ (hK15 _ _ ((y.1 + 1, zz.1, zz.2)) ⟨by dsimp only; omega, hg⟩ (by dsimp only; omega) (.cons (rfl) (.cons (rfl) (.cons (rfl) (.cons rfl (.cons rfl (.cons rfl (.cons rfl (.cons rfl (.nil))))))))) (fun w hw => by dsimp only; rw [show (exR (stepP d d) ((exI (stepP d d) d.L.toNat (p, q) (0, 0) x.1).getD x.1 (0, 0)) (exI (stepP d d) d.L.toNat (p, q) (0, 0) x.1) (y.1 + 1)) = (exR (stepP d d) ((exI (stepP d d) d.L.toNat (p, q) (0, 0) x.1).getD x.1 (0, 0)) (exI (stepP d d) d.L.toNat (p, q) (0, 0) x.1) y.1) ++ [(stepP d d ((exI (stepP d d) d.L.toNat (p, q) (0, 0) x.1).getD x.1 (0, 0)) y.1)] from if_neg hni]; rw [show (exRw (stepP d d) ((exI (stepP d d) d.L.toNat (p, q) (0, 0) x.1).getD x.1 (0, 0)) ((exIw (stepP d d) d.L.toNat (p, q) (0, 0) x.1).getD x.1 []) (exI (stepP d d) d.L.toNat (p, q) (0, 0) x.1) (exIw (stepP d d) d.L.toNat (p, q) (0, 0) x.1) (y.1 + 1)) = (exRw (stepP d d) ((exI (stepP d d) d.L.toNat (p, q) (0, 0) x.1).getD x.1 (0, 0)) ((exIw (stepP d d) d.L.toNat (p, q) (0, 0) x.1).getD x.1 []) (exI (stepP d d) d.L.toNat (p, q) (0, 0) x.1) (exIw (stepP d d) d.L.toNat (p, q) (0, 0) x.1) y.1) ++ [((exIw (stepP d d) d.L.toNat (p, q) (0, 0) x.1).getD x.1 []) ++ [ltr y.1]] from if_neg hni]; rw [hgw, metM_new hni] at hw; rw [pcs_append, List.length_append, List.length_append, List.map_append]; exact hw)) | refine AK.then_ (hK15 _ _ ((y.1 + 1, y.2.1, y.2.2)) ⟨by dsimp only; omega, hg1.2⟩ (by dsimp only; omega) (.cons (rfl) (.cons (rfl) (.cons (rfl) (.cons rfl (.cons rfl (.cons rfl (.cons rfl (.cons rfl (.nil))))))))) (fun w hw => by dsimp only; rw [show (exR (stepP d d) ((exI (stepP d d) d.L.toNat (p, q) (0, 0) x.1).getD x.1 (0, 0)) (exI (stepP d d) d.L.toNat (p, q) (0, 0) x.1) (y.1 + 1)) = (exR (stepP d d) ((exI (stepP d d) d.L.toNat (p, q) (0, 0) x.1).getD x.1 (0, 0)) (exI (stepP d d) d.L.toNat (p, q) (0, 0) x.1) y.1) from if_pos hin2]; rw [show (exRw (stepP d d) ((exI (stepP d d) d.L.toNat (p, q) (0, 0) x.1).getD x.1 (0, 0)) ((exIw (stepP d d) d.L.toNat (p, q) (0, 0) x.1).getD x.1 []) (exI (stepP d d) d.L.toNat (p, q) (0, 0) x.1) (exIw (stepP d d) d.L.toNat (p, q) (0, 0) x.1) (y.1 + 1)) = (exRw (stepP d d) ((exI (stepP d d) d.L.toNat (p, q) (0, 0) x.1).getD x.1 (0, 0)) ((exIw (stepP d d) d.L.toNat (p, q) (0, 0) x.1).getD x.1 []) (exI (stepP d d) d.L.toNat (p, q) (0, 0) x.1) (exIw (stepP d d) d.L.toNat (p, q) (0, 0) x.1) y.1) from if_pos hin2]; exact hw.pick [0, 1, 2, 3] (by decide) rfl rfl))
              · have hin2 : (stepP d d ((exI (stepP d d) d.L.toNat (p, q) (0, 0) x.1).getD x.1 (0, 0)) y.1) ∈ (exR (stepP d d) ((exI (stepP d d) d.L.toNat (p, q) (0, 0) x.1).getD x.1 (0, 0)) (exI (stepP d d) d.L.toNat (p, q) (0, 0) x.1) y.1) := of_decide_eq_true hc3
                refine AK.skip ?_
                refine AK.block_normal ?_
                refine AK.then_ (hK18 _ ?_)
                refine AK.region ?_
                refine AK.val _ (Yl.move rfl) trivial rfl ?_
                refine AK.val _ (Yl.add rfl rfl (by omega)) trivial rfl ?_
                refine AK.val _ (Yl.assign rfl) trivial rfl ?_
                refine AK.nil ?_
                first | refine AK.then_ (hK15 _ _ ((y.1 + 1, zz.1, zz.2)) ⟨by dsimp only; omega, hg⟩ (by dsimp only; omega) (.cons (rfl) (.cons (rfl) (.cons (rfl) (.cons rfl (.cons rfl (.cons rfl (.cons rfl (.cons rfl (.nil))))))))) (fun w hw => by dsimp only; rw [show (exR (stepP d d) ((exI (stepP d d) d.L.toNat (p, q) (0, 0) x.1).getD x.1 (0, 0)) (exI (stepP d d) d.L.toNat (p, q) (0, 0) x.1) (y.1 + 1)) = (exR (stepP d d) ((exI (stepP d d) d.L.toNat (p, q) (0, 0) x.1).getD x.1 (0, 0)) (exI (stepP d d) d.L.toNat (p, q) (0, 0) x.1) y.1) ++ [(stepP d d ((exI (stepP d d) d.L.toNat (p, q) (0, 0) x.1).getD x.1 (0, 0)) y.1)] from if_neg hni]; rw [show (exRw (stepP d d) ((exI (stepP d d) d.L.toNat (p, q) (0, 0) x.1).getD x.1 (0, 0)) ((exIw (stepP d d) d.L.toNat (p, q) (0, 0) x.1).getD x.1 []) (exI (stepP d d) d.L.toNat (p, q) (0, 0) x.1) (exIw (stepP d d) d.L.toNat (p, q) (0, 0) x.1) (y.1 + 1)) = (exRw (stepP d d) ((exI (stepP d d) d.L.toNat (p, q) (0, 0) x.1).getD x.1 (0, 0)) ((exIw (stepP d d) d.L.toNat (p, q) (0, 0) x.1).getD x.1 []) (exI (stepP d d) d.L.toNat (p, q) (0, 0) x.1) (exIw (stepP d d) d.L.toNat (p, q) (0, 0) x.1) y.1) ++ [((exIw (stepP d d) d.L.toNat (p, q) (0, 0) x.1).getD x.1 []) ++ [ltr y.1]] from if_neg hni]; rw [hgw, metM_new hni] at hw; rw [pcs_append, List.length_append, List.length_append, List.map_append]; exact hw)) | refine AK.then_ (hK15 _ _ ((y.1 + 1, y.2.1, y.2.2)) ⟨by dsimp only; omega, hg1.2⟩ (by dsimp only; omega) (.cons (rfl) (.cons (rfl) (.cons (rfl) (.cons rfl (.cons rfl (.cons rfl (.cons rfl (.cons rfl (.nil))))))))) (fun w hw => by dsimp only; rw [show (exR (stepP d d) ((exI (stepP d d) d.L.toNat (p, q) (0, 0) x.1).getD x.1 (0, 0)) (exI (stepP d d) d.L.toNat (p, q) (0, 0) x.1) (y.1 + 1)) = (exR (stepP d d) ((exI (stepP d d) d.L.toNat (p, q) (0, 0) x.1).getD x.1 (0, 0)) (exI (stepP d d) d.L.toNat (p, q) (0, 0) x.1) y.1) from if_pos hin2]; rw [show (exRw (stepP d d) ((exI (stepP d d) d.L.toNat (p, q) (0, 0) x.1).getD x.1 (0, 0)) ((exIw (stepP d d) d.L.toNat (p, q) (0, 0) x.1).getD x.1 []) (exI (stepP d d) d.L.toNat (p, q) (0, 0) x.1) (exIw (stepP d d) d.L.toNat (p, q) (0, 0) x.1) (y.1 + 1)) = (exRw (stepP d d) ((exI (stepP d d) d.L.toNat (p, q) (0, 0) x.1).getD x.1 (0, 0)) ((exIw (stepP d d) d.L.toNat (p, q) (0, 0) x.1).getD x.1 []) (exI (stepP d d) d.L.toNat (p, q) (0, 0) x.1) (exIw (stepP d d) d.L.toNat (p, q) (0, 0) x.1) y.1) from if_pos hin2]; exact hw.pick [0, 1, 2, 3] (by decide) rfl rfl))
          · refine AK.exit ?_
            refine AK.then_exit ?_
            refine AK.then_exit ?_
            refine AK.block_exit ?_
            refine AK.block_normal ?_
            refine AK.then_ (hK9 _ ?_)
            refine AK.region ?_
            refine AK.val _ (Yl.move rfl) trivial rfl ?_
            refine AK.val _ (Yl.add rfl rfl (by omega)) trivial rfl ?_
            refine AK.val _ (Yl.assign rfl) trivial rfl ?_
            refine AK.nil ?_
            refine AK.then_ (hK6 _ _ ((x.1 + 1, y.2.1, y.2.2)) ⟨by dsimp only; rw [exI_next hlt]; obtain ⟨ys, e⟩ := exR_pre (stepP d d) ((exI (stepP d d) d.L.toNat (p, q) (0, 0) x.1).getD x.1 (0, 0)) (exI (stepP d d) d.L.toNat (p, q) (0, 0) x.1) d.L.toNat; rw [e, List.length_append]; omega, hg1.2, src_next hlt hg0.2.2 hwf⟩ (by dsimp only; omega) (.cons (rfl) (.cons (rfl) (.cons (rfl) (.cons rfl (.cons rfl (.nil)))))) (fun w hw => by dsimp only; rw [exI_next hlt, exIw_next hlt]; rw [show y.1 = d.L.toNat by omega] at hw; exact hw))
    · refine AK.exit ?_
      refine AK.then_exit ?_
      refine AK.then_exit ?_
      refine AK.block_exit ?_
      refine AK.then_ (hK4 _ ?_)
      refine AK.seq (fun _ hK22 => ?_)
      refine AK.region ?_
      refine AK.val _ (Yl.assign rfl) trivial rfl ?_
      refine AK.val _ (Yl.assign rfl) trivial rfl ?_
      refine AK.nil ?_
      refine AK.then_ (hK22 _ ?_)
      refine AK.ret ?_
      refine AK.ret2 rfl rfl rfl (fun w hw => ⟨_, _, ?_, rfl, Ret.of (hw.pick [] (by decide) rfl rfl)⟩)
      rw [show DisD d p q = _ from src_none hst hcl (show x.1 = (exI (stepP d d) d.L.toNat (p, q) (0, 0) x.1).length by omega) hg0.2.2]
      exact ⟨rfl, rfl⟩

end Go.Proofs.Ytoikhoniogicdaa
