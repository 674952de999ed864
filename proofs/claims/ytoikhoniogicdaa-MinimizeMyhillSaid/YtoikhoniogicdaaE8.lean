import Derived.Test.YtoikhoniogicdaaD2
import Derived.Test.YtoikhoniogicdaaDf
import Derived.Test.YtoikhoniogicdaaE7
import Derived.Test.YtoikhoniogicdaaMg
import Derived.Test.YtoikhoniogicdaaSm
set_option linter.unusedVariables false
set_option linter.unusedSimpArgs false
namespace Go.Proofs.Ytoikhoniogicdaa
open Go.Sx Go.RowKit
set_option maxHeartbeats 4000000 in
set_option maxRecDepth 100000 in
theorem s_dis (w : World) (v : Value) (d : Dfa) (h : RdD (fun _ => False) w v d) (p q : Int) : CallS Try.prog 27 [v, .int .i64 p, .int .i64 q] w (fun r o => r = .tuple #[sv (DisV d p q).1, .bool (DisV d p q).2] ∧ o = []) := by
  have h0 := h
  obtain ⟨vF, vN, rfl, hF, hN⟩ := h
  have hF0 := hF
  have hN0 := hN
  obtain ⟨rs, hrl, hNr, hNi⟩ := hN
  have sF := hF.sl
  have sN := hNr.sl
  have hmf := hF.le
  have hmn := hNr.le
  unfold RdL at hF
  refine spec_of Try.func27 rfl (Nat.le_of_ble_eq_true rfl) ?_
  refine AK.seq (fun _ hK1 => ?_)
  refine AK.region ?_
  refine AK.box_ (E := 25) (cs := [.int .i64 d.L, .int .i64 d.s, vF, vN]) rfl rfl rfl trivial rfl (fun bx3 => ?_)
  refine AK.val _ (Yl.assign rfl) trivial rfl ?_
  refine AK.val _ (Yl.assign rfl) trivial rfl ?_
  refine AK.nil ?_
  refine AK.then_ (hK1 _ ?_)
  refine AK.seq (fun _ hK2 => ?_)
  refine AK.region ?_
  refine AK.val _ (Yl.fieldAddr fd25_2 rfl) trivial rfl ?_
  refine AK.val _ (Yl.loadBox on22 rfl (by first | ((repeat (first | exact .hd | apply BoxS.tl | apply MapS.tl)); done) | assumption | exact BoxS.arg (by assumption)) rfl) trivial rfl ?_
  refine AK.val _ (Yl.lenR sl22 rfl (by first | exact .arg ‹_› | ((repeat (first | exact .hd | apply RdS.tl)); done) | assumption | exact .arg (hNi _ (by omega)))) trivial rfl ?_
  refine AK.val _ (Yl.assign rfl) trivial rfl ?_
  refine AK.nil ?_
  refine AK.then_ (hK2 _ ?_)
  refine AK.seq (fun _ hK3 => ?_)
  refine AK.seq (fun _ hK4 => ?_)
  refine AK.region ?_
  refine AK.val _ (Yl.loadBoxG ag25 rfl (by first | ((repeat (first | exact .hd | apply BoxS.tl | apply MapS.tl)); done) | assumption | exact BoxS.arg (by assumption)) rfl rfl) trivial rfl ?_
  refine AK.call co23 rfl (fun w hw => s_validate w _ d (h0.at hw)) trivial rfl ?_
  rintro r o ⟨rfl, rfl⟩
  refine AK.val _ (Yl.neq rfl rfl) trivial rfl ?_
  refine AK.val _ (Yl.move rfl) trivial rfl ?_
  refine AK.splitB (g := 23) rfl (fun hg_2_3 => ?_) (fun hg_2_3 => ?_)
  · have hg_2_3' := hg_2_3
    try simp only [decide_eq_true_eq, decide_eq_false_iff_not, Bool.not_eq_true', Bool.not_eq_false', Bool.not_not, ne_eq, Decidable.not_not, Int.not_lt, Int.not_le, beq_iff_eq, bne_iff_ne, Bool.and_eq_true, Bool.or_eq_true, Bool.or_eq_false_iff, Bool.not_false, Bool.not_true, reduceCtorEq, not_true_eq_false, not_false_eq_true] at hg_2_3'
    refine AK.pass rfl rfl (hg_2_3) rfl ?_
    refine AK.pass rfl rfl (hg_2_3) rfl ?_
    refine AK.pass rfl rfl (hg_2_3) rfl ?_
    refine AK.pass rfl rfl (hg_2_3) rfl ?_
    refine AK.val _ (Yl.pickT rfl (hg_2_3) rfl) trivial rfl ?_
    refine AK.val _ (Yl.move rfl) trivial rfl ?_
    refine AK.pass rfl rfl rfl rfl ?_
    refine AK.pass rfl rfl rfl rfl ?_
    refine AK.pass rfl rfl rfl rfl ?_
    refine AK.pass rfl rfl rfl rfl ?_
    refine AK.pass rfl rfl rfl rfl ?_
    refine AK.val _ (Yl.pickT rfl (rfl) rfl) trivial rfl ?_
    refine AK.nil ?_
    refine AK.then_ (hK4 _ ?_)
    refine AK.cond_t rfl (rfl) ?_
    refine AK.seq (fun _ hK5 => ?_)
    refine AK.region ?_
    refine AK.val _ (Yl.assign rfl) trivial rfl ?_
    refine AK.val _ (Yl.assign rfl) trivial rfl ?_
    refine AK.nil ?_
    refine AK.then_ (hK5 _ ?_)
    refine AK.ret ?_
    refine AK.then_ret ?_
    refine AK.ret2 rfl rfl rfl (fun w hw => ⟨_, _, ?_, rfl, Ret.of (hw.pick [] (by decide) rfl rfl)⟩)
    rw [show DisV d p q = ([], false) from if_neg (by rintro ⟨h1, h2, h3⟩; have h4 := (errV_iff d).2 h1; have := h2.1; have := h2.2; have := h3.1; have := h3.2; first | omega | (simp_all; done) | (simp_all; omega))]
    exact ⟨rfl, rfl⟩
  · have hg_2_3' := hg_2_3
    try simp only [decide_eq_true_eq, decide_eq_false_iff_not, Bool.not_eq_true', Bool.not_eq_false', Bool.not_not, ne_eq, Decidable.not_not, Int.not_lt, Int.not_le, beq_iff_eq, bne_iff_ne, Bool.and_eq_true, Bool.or_eq_true, Bool.or_eq_false_iff, Bool.not_false, Bool.not_true, reduceCtorEq, not_true_eq_false, not_false_eq_true] at hg_2_3'
    refine AK.val _ (Yl.move rfl) ⟨_, rfl, congrArg (fun b => some (Value.bool b)) hg_2_3⟩ rfl ?_
    refine AK.val _ (Yl.move rfl) ⟨_, rfl, congrArg (fun b => some (Value.bool b)) hg_2_3⟩ rfl ?_
    refine AK.val _ (Yl.min rfl rfl) ⟨_, rfl, congrArg (fun b => some (Value.bool b)) hg_2_3⟩ rfl ?_
    refine AK.val _ (Yl.lss rfl rfl) ⟨_, rfl, congrArg (fun b => some (Value.bool b)) hg_2_3⟩ rfl ?_
    refine AK.val _ (Yl.pickF rfl (hg_2_3) rfl) trivial rfl ?_
    refine AK.val _ (Yl.move rfl) trivial rfl ?_
    refine AK.splitB (g := 29) rfl (fun hg_2_9 => ?_) (fun hg_2_9 => ?_)
    · have hg_2_9' := hg_2_9
      try simp only [decide_eq_true_eq, decide_eq_false_iff_not, Bool.not_eq_true', Bool.not_eq_false', Bool.not_not, ne_eq, Decidable.not_not, Int.not_lt, Int.not_le, beq_iff_eq, bne_iff_ne, Bool.and_eq_true, Bool.or_eq_true, Bool.or_eq_false_iff, Bool.not_false, Bool.not_true, reduceCtorEq, not_true_eq_false, not_false_eq_true] at hg_2_9'
      refine AK.pass rfl rfl (hg_2_9) rfl ?_
      refine AK.pass rfl rfl (hg_2_9) rfl ?_
      refine AK.pass rfl rfl (hg_2_9) rfl ?_
      refine AK.pass rfl rfl (hg_2_9) rfl ?_
      refine AK.pass rfl rfl (hg_2_9) rfl ?_
      refine AK.val _ (Yl.pickT rfl (hg_2_9) rfl) trivial rfl ?_
      refine AK.nil ?_
      refine AK.then_ (hK4 _ ?_)
      refine AK.cond_t rfl (rfl) ?_
      refine AK.seq (fun _ hK6 => ?_)
      refine AK.region ?_
      refine AK.val _ (Yl.assign rfl) trivial rfl ?_
      refine AK.val _ (Yl.assign rfl) trivial rfl ?_
      refine AK.nil ?_
      refine AK.then_ (hK6 _ ?_)
      refine AK.ret ?_
      refine AK.then_ret ?_
      refine AK.ret2 rfl rfl rfl (fun w hw => ⟨_, _, ?_, rfl, Ret.of (hw.pick [] (by decide) rfl rfl)⟩)
      rw [show DisV d p q = ([], false) from if_neg (by rintro ⟨h1, h2, h3⟩; have h4 := (errV_iff d).2 h1; have := h2.1; have := h2.2; have := h3.1; have := h3.2; first | omega | (simp_all; done) | (simp_all; omega))]
      exact ⟨rfl, rfl⟩
    · have hg_2_9' := hg_2_9
      try simp only [decide_eq_true_eq, decide_eq_false_iff_not, Bool.not_eq_true', Bool.not_eq_false', Bool.not_not, ne_eq, Decidable.not_not, Int.not_lt, Int.not_le, beq_iff_eq, bne_iff_ne, Bool.and_eq_true, Bool.or_eq_true, Bool.or_eq_false_iff, Bool.not_false, Bool.not_true, reduceCtorEq, not_true_eq_false, not_false_eq_true] at hg_2_9'
      refine AK.val _ (Yl.move rfl) ⟨_, rfl, congrArg (fun b => some (Value.bool b)) hg_2_9⟩ rfl ?_
      refine AK.val _ (Yl.move rfl) ⟨_, rfl, congrArg (fun b => some (Value.bool b)) hg_2_9⟩ rfl ?_
      refine AK.val _ (Yl.max rfl rfl) ⟨_, rfl, congrArg (fun b => some (Value.bool b)) hg_2_9⟩ rfl ?_
      refine AK.val _ (Yl.move rfl) ⟨_, rfl, congrArg (fun b => some (Value.bool b)) hg_2_9⟩ rfl ?_
      refine AK.val _ (Yl.geq rfl rfl) ⟨_, rfl, congrArg (fun b => some (Value.bool b)) hg_2_9⟩ rfl ?_
      refine AK.val _ (Yl.pickF rfl (hg_2_9) rfl) trivial rfl ?_
      refine AK.nil ?_
      refine AK.then_ (hK4 _ ?_)
      refine AK.condD rfl (fun hc0 => ?_) (fun hc0 => ?_)
      · refine AK.seq (fun _ hK7 => ?_)
        refine AK.region ?_
        refine AK.val _ (Yl.assign rfl) trivial rfl ?_
        refine AK.val _ (Yl.assign rfl) trivial rfl ?_
        refine AK.nil ?_
        refine AK.then_ (hK7 _ ?_)
        refine AK.ret ?_
        refine AK.then_ret ?_
        refine AK.ret2 rfl rfl rfl (fun w hw => ⟨_, _, ?_, rfl, Ret.of (hw.pick [] (by decide) rfl rfl)⟩)
        rw [show DisV d p q = ([], false) from if_neg (by rintro ⟨h1, h2, h3⟩; have h4 := (errV_iff d).2 h1; have := h2.1; have := h2.2; have := h3.1; have := h3.2; first | omega | (simp_all; done) | (simp_all; omega))]
        exact ⟨rfl, rfl⟩
      · have hv : VD d := (errV_iff d).1 hg_2_3'
        have hL := hv.L
        have hnx := hv.nx
        have hn5 := hv.n
        have hip : InR d p := ⟨by omega, by omega⟩
        have hiq : InR d q := ⟨by omega, by omega⟩
        have hnn : (d.fin.length * d.fin.length) ≤ 262144 := Nat.mul_le_mul hn5 hn5
        have hst : (p, q) ∈ univ2 d.fin.length d.fin.length := mem_univ2.2 ⟨hip, hiq⟩
        have hcl := step_univ2 hv hv rfl
        have hok := exI_ok (z := (0, 0)) hst hcl
        have hbd := exI_bd (z := (0, 0)) hst hcl
        rw [univ2_len] at hbd
        have hcp : 0 ≤ p * (d.fin.length : Int) ∧ p * (d.fin.length : Int) ≤ (((d.fin.length * d.fin.length) : Nat) : Int) ∧ 0 ≤ p * (d.fin.length : Int) + q ∧ p * (d.fin.length : Int) + q < (((d.fin.length * d.fin.length) : Nat) : Int) := cd_bd (p := (p, q)) (m := d.fin.length) (n := d.fin.length) ⟨hip, hiq⟩
        refine AK.skip ?_
        refine AK.then_ (hK3 _ ?_)
        refine AK.seq (fun _ hK8 => ?_)
        refine AK.region ?_
        refine AK.val _ (Yl.move rfl) trivial rfl ?_
        refine AK.val _ (Yl.move rfl) trivial rfl ?_
        refine AK.val _ (Yl.build (parts := [(0, .tmp 36), (1, .tmp 37), (2, .const (.int .i64 (-1))), (3, .const (.int .i64 0))]) (cs := #[.int .i64 p, .int .i64 q, .int .i64 (-1), .int .i64 0]) rfl (by kernel_rfl)) trivial rfl ?_
        refine AK.lit (xs := [.tmp 38]) sl70 el69 rfl rfl rfl (by intro a ha; simp at ha; subst ha; rfl) (by decide) (by decide) trivial rfl (fun qv => ?_)
        refine AK.shape 1 rfl (fun sqv => ?_)
        refine AK.val _ (Yl.assign rfl) trivial rfl ?_
        refine AK.nil ?_
        refine AK.then_ (hK8 _ ?_)
        refine AK.seq (fun _ hK9 => ?_)
        refine AK.region ?_
        refine AK.val _ (Yl.move rfl) trivial rfl ?_
        refine AK.val _ (Yl.move rfl) trivial rfl ?_
        refine AK.val _ (Yl.mulE ((((d.fin.length * d.fin.length) : Nat) : Int)) rfl rfl (Int.natCast_mul _ _).symm (by omega)) trivial rfl ?_
        refine AK.make1 (n := (d.fin.length * d.fin.length)) sl22 el4 rfl rfl rfl (by omega) (by omega) trivial rfl (fun mv => ?_)
        refine AK.val _ (Yl.assign rfl) trivial rfl ?_
        refine AK.nil ?_
        refine AK.then_ (hK9 _ ?_)
        refine AK.seq (fun _ hK10 => ?_)
        refine AK.region ?_
        refine AK.val _ (Yl.move rfl) trivial rfl ?_
        refine AK.val _ (Yl.move rfl) trivial rfl ?_
        refine AK.val _ (Yl.move rfl) trivial rfl ?_
        refine AK.val _ (Yl.mul rfl rfl (by omega)) trivial rfl ?_
        refine AK.val _ (Yl.move rfl) trivial rfl ?_
        refine AK.val _ (Yl.add rfl rfl (by omega)) trivial rfl ?_
        first | refine AK.val _ (Yl.idxN sl22 rfl rfl (by first | exact .arg ‹_› | ((repeat (first | exact .hd | apply RdS.tl)); done) | assumption | exact .arg (hNi _ (by omega))) (by decide) (by omega)) trivial rfl ?_ | refine AK.val _ (Yl.idx sl22 rfl rfl (by first | exact .arg ‹_› | ((repeat (first | exact .hd | apply RdS.tl)); done) | assumption | exact .arg (hNi _ (by omega))) (by decide) (by omega)) trivial rfl ?_ | refine AK.val _ (Yl.idxK sl22 rfl rfl (by first | exact .arg ‹_› | ((repeat (first | exact .hd | apply RdS.tl)); done) | assumption | exact .arg (hNi _ (by omega))) (by decide) (by omega)) trivial rfl ?_
        refine AK.store1e 2 rfl sz4 rfl rfl rfl rfl (by omega) (cs' := ((metL (d.fin.length * d.fin.length) [cd d.fin.length (p, q)]).map Value.bool)) (by exact met_first ⟨hcp.2.2.1, hcp.2.2.2⟩) trivial ?_
        refine AK.nil ?_
        refine AK.then_ (hK10 _ ?_)
        refine AK.seq (fun _ hK11 => ?_)
        refine AK.seq (fun _ hK12 => ?_)
        refine AK.region ?_
        refine AK.val _ (Yl.assign rfl) trivial rfl ?_
        refine AK.nil ?_
        refine AK.then_ (hK12 _ ?_)
        refine AK.block ?_
        refine AK.loopK (X := Nat × Value) [(3, _), (8, _), (10, _)] (fun x => [(9, x.2), (11, .int .i64 (x.1 : Int))]) (fun x => [box bx3 25 4 [.int .i64 d.L, .int .i64 d.s, vF, vN], row x.2 69 4 (exI (stepP d d) d.L.toNat (p, q) (0, 0) x.1).length (qcs ((exI (stepP d d) d.L.toNat (p, q) (0, 0) x.1).zip (exIb (stepP d d) d.L.toNat (p, q) (0, 0) x.1))), row mv 4 1 (d.fin.length * d.fin.length) ((metL (d.fin.length * d.fin.length) ((exI (stepP d d) d.L.toNat (p, q) (0, 0) x.1).map (cd d.fin.length))).map Value.bool)]) (fun x => x.1 ≤ (exI (stepP d d) d.L.toNat (p, q) (0, 0) x.1).length ∧ IsSl x.2 ∧ ∀ j, j < x.1 → wdD d ((exI (stepP d d) d.L.toNat (p, q) (0, 0) x.1).getD j (0, 0)) = false) (fun x => (d.fin.length * d.fin.length) - x.1) ((0, qv)) (.cons rfl (.cons rfl (.cons rfl (.nil)))) ?_ ?_ ?_ ?_
        · exact ⟨Nat.zero_le _, sqv, fun j hj => by cases hj⟩
        · exact .cons (rfl) (.cons (rfl) (.nil))
        · exact fun w hw => hw
        · intro x hg0 _ hK13
          have hb0 := hbd x.1
          have sx2 := hg0.2.1
          refine AK.seq (fun _ hK14 => ?_)
          refine AK.seq (fun _ hK15 => ?_)
          refine AK.region ?_
          refine AK.val _ (Yl.move rfl) trivial rfl ?_
          refine AK.val _ (Yl.move rfl) trivial rfl ?_
          refine AK.val _ (Yl.lenR sl70 rfl (by first | exact .arg ‹_› | ((repeat (first | exact .hd | apply RdS.tl)); done) | assumption | exact .arg (hNi _ (by omega)))) trivial rfl ?_
          refine AK.val _ (Yl.lss rfl rfl) trivial rfl ?_
          refine AK.nil ?_
          refine AK.then_ (hK15 _ ?_)
          refine AK.condD rfl (fun hc1 => ?_) (fun hc1 => ?_)
          · have hlt : x.1 < (exI (stepP d d) d.L.toNat (p, q) (0, 0) x.1).length := by omega
            have hql := exIb_len (f := (stepP d d)) (L := d.L.toNat) (s := (p, q)) (z := (0, 0)) x.1
            have hzl := zipQ_len hql
            have hbk := exIb_bk (f := (stepP d d)) (L := d.L.toNat) (by omega) (s := (p, q)) (z := (0, 0)) x.1
            have hin := fun y hy => inB_univ2.1 ((hok x.1).2 y hy)
            obtain ⟨⟨hp1, hp2⟩, hp3, hp4⟩ := hin _ (getD_mem (d := (0, 0)) hlt)
            have hwl := exIw_wd (f := (stepP d d)) (L := d.L.toNat) (s := (p, q)) (z := (0, 0)) x.1 x.1 (by rw [exIw_len]; exact hlt)
            refine AK.skip ?_
            refine AK.then_ (hK14 _ ?_)
            refine AK.seq (fun _ hK16 => ?_)
            refine AK.block ?_
            refine AK.seq (fun _ hK17 => ?_)
            refine AK.region ?_
            refine AK.val _ (Yl.move rfl) trivial rfl ?_
            refine AK.val _ (Yl.move rfl) trivial rfl ?_
            first | refine AK.val _ (Yl.idxN sl70 rfl rfl (by first | exact .arg ‹_› | ((repeat (first | exact .hd | apply RdS.tl)); done) | assumption | exact .arg (hNi _ (by omega))) (by decide) (by omega)) trivial rfl ?_ | refine AK.val _ (Yl.idx sl70 rfl rfl (by first | exact .arg ‹_› | ((repeat (first | exact .hd | apply RdS.tl)); done) | assumption | exact .arg (hNi _ (by omega))) (by decide) (by omega)) trivial rfl ?_ | refine AK.val _ (Yl.idxK sl70 rfl rfl (by first | exact .arg ‹_› | ((repeat (first | exact .hd | apply RdS.tl)); done) | assumption | exact .arg (hNi _ (by omega))) (by decide) (by omega)) trivial rfl ?_
            refine AK.val (q4v (((exI (stepP d d) d.L.toNat (p, q) (0, 0) x.1).getD x.1 (0, 0)), ((exIb (stepP d d) d.L.toNat (p, q) (0, 0) x.1).getD x.1 (0, 0)))) (Yl.valE (Yl.loadQ ag69 rfl (RdS.own 1 rfl) (by rw [hzl]; omega)) (congrArg q4v (zipQ_get hql (by omega)))) trivial rfl ?_
            refine AK.alloc el69 rfl rfl trivial rfl (fun bx12 => ?_)
            refine AK.storeBox 3 (us := [.int .i64 ((exI (stepP d d) d.L.toNat (p, q) (0, 0) x.1).getD x.1 (0, 0)).1, .int .i64 ((exI (stepP d d) d.L.toNat (p, q) (0, 0) x.1).getD x.1 (0, 0)).2, .int .i64 ((exIb (stepP d d) d.L.toNat (p, q) (0, 0) x.1).getD x.1 (0, 0)).1, .int .i64 ((exIb (stepP d d) d.L.toNat (p, q) (0, 0) x.1).getD x.1 (0, 0)).2]) (cs' := [.int .i64 ((exI (stepP d d) d.L.toNat (p, q) (0, 0) x.1).getD x.1 (0, 0)).1, .int .i64 ((exI (stepP d d) d.L.toNat (p, q) (0, 0) x.1).getD x.1 (0, 0)).2, .int .i64 ((exIb (stepP d d) d.L.toNat (p, q) (0, 0) x.1).getD x.1 (0, 0)).1, .int .i64 ((exIb (stepP d d) d.L.toNat (p, q) (0, 0) x.1).getD x.1 (0, 0)).2]) rfl sz69 rfl rfl rfl rfl (by repeat (first | exact one'_nil | refine one'_cons (by first | rfl | exact IsSl.one (by assumption) | exact IsSl.one nilSl) ?_)) (Nat.le_of_ble_eq_true rfl) rfl trivial ?_
            refine AK.nil ?_
            refine AK.then_ (hK17 _ ?_)
            refine AK.seq (fun _ hK18 => ?_)
            refine AK.seq (fun _ hK19 => ?_)
            refine AK.quiet mixed (by kernel_rfl) ?_
            refine QK.val _ (Yl.fieldAddr fd25_2 rfl) trivial rfl ?_
            refine QK.val _ (Yl.loadBox on22 rfl (by first | ((repeat (first | exact .hd | apply BoxS.tl | apply MapS.tl)); done) | assumption | exact BoxS.arg (by assumption)) rfl) trivial rfl ?_
            refine QK.val _ (Yl.fieldAddr fd69_0 rfl) trivial rfl ?_
            refine QK.val _ (Yl.loadBox on3 rfl (by first | ((repeat (first | exact .hd | apply BoxS.tl | apply MapS.tl)); done) | assumption | exact BoxS.arg (by assumption)) rfl) trivial rfl ?_
            first | refine QK.val _ (Yl.idxN sl22 rfl rfl (by first | exact .arg ‹_› | ((repeat (first | exact .hd | apply RdS.tl)); done) | assumption | exact .arg (hNi _ (by omega))) (by decide) (by omega)) trivial rfl ?_ | refine QK.val _ (Yl.idx sl22 rfl rfl (by first | exact .arg ‹_› | ((repeat (first | exact .hd | apply RdS.tl)); done) | assumption | exact .arg (hNi _ (by omega))) (by decide) (by omega)) trivial rfl ?_ | refine QK.val _ (Yl.idxK sl22 rfl rfl (by first | exact .arg ‹_› | ((repeat (first | exact .hd | apply RdS.tl)); done) | assumption | exact .arg (hNi _ (by omega))) (by decide) (by omega)) trivial rfl ?_
            refine QK.val _ (Yl.loadB on4 rfl (by first | exact .arg ‹_› | ((repeat (first | exact .hd | apply RdS.tl)); done) | assumption | exact .arg (hNi _ (by omega))) (by omega)) trivial rfl ?_
            refine QK.val _ (Yl.fieldAddr fd25_2 rfl) trivial rfl ?_
            refine QK.val _ (Yl.loadBox on22 rfl (by first | ((repeat (first | exact .hd | apply BoxS.tl | apply MapS.tl)); done) | assumption | exact BoxS.arg (by assumption)) rfl) trivial rfl ?_
            refine QK.val _ (Yl.fieldAddr fd69_1 rfl) trivial rfl ?_
            refine QK.val _ (Yl.loadBox on3 rfl (by first | ((repeat (first | exact .hd | apply BoxS.tl | apply MapS.tl)); done) | assumption | exact BoxS.arg (by assumption)) rfl) trivial rfl ?_
            first | refine QK.val _ (Yl.idxN sl22 rfl rfl (by first | exact .arg ‹_› | ((repeat (first | exact .hd | apply RdS.tl)); done) | assumption | exact .arg (hNi _ (by omega))) (by decide) (by omega)) trivial rfl ?_ | refine QK.val _ (Yl.idx sl22 rfl rfl (by first | exact .arg ‹_› | ((repeat (first | exact .hd | apply RdS.tl)); done) | assumption | exact .arg (hNi _ (by omega))) (by decide) (by omega)) trivial rfl ?_ | refine QK.val _ (Yl.idxK sl22 rfl rfl (by first | exact .arg ‹_› | ((repeat (first | exact .hd | apply RdS.tl)); done) | assumption | exact .arg (hNi _ (by omega))) (by decide) (by omega)) trivial rfl ?_
            refine QK.val _ (Yl.loadB on4 rfl (by first | exact .arg ‹_› | ((repeat (first | exact .hd | apply RdS.tl)); done) | assumption | exact .arg (hNi _ (by omega))) (by omega)) trivial rfl ?_
            refine QK.val _ (Yl.neqB bo4 rfl rfl) trivial rfl ?_
            refine QK.nil (QK.fin ?_)
            refine AK.then_ (hK19 _ ?_)
            refine AK.cond rfl (fun hc2 => ?_) (fun hc2 => ?_)
            · try simp only [decide_eq_true_eq, decide_eq_false_iff_not, Bool.not_eq_true', Bool.not_eq_false', Bool.not_not, ne_eq, Decidable.not_not, Int.not_lt, Int.not_le, beq_iff_eq, bne_iff_ne, Bool.and_eq_true, Bool.or_eq_true, Bool.or_eq_false_iff, Bool.not_false, Bool.not_true, reduceCtorEq, not_true_eq_false, not_false_eq_true] at hc2
              have hwt : wdD d ((exI (stepP d d) d.L.toNat (p, q) (0, 0) x.1).getD x.1 (0, 0)) = true := by unfold wdD finQ; simpa using hc2
              refine AK.seq (fun _ hK20 => ?_)
              refine AK.region ?_
              refine AK.val _ (Yl.assign rfl) trivial rfl ?_
              refine AK.nil ?_
              refine AK.then_ (hK20 _ ?_)
              refine AK.seq (fun _ hK21 => ?_)
              refine AK.block ?_
              refine AK.loopK (X := Nat × List UInt8 × Value) [(9, _), (12, _)] (fun y => [(13, y.2.2)]) (fun y => [box bx3 25 4 [.int .i64 d.L, .int .i64 d.s, vF, vN], row x.2 69 4 (exI (stepP d d) d.L.toNat (p, q) (0, 0) x.1).length (qcs ((exI (stepP d d) d.L.toNat (p, q) (0, 0) x.1).zip (exIb (stepP d d) d.L.toNat (p, q) (0, 0) x.1))), row mv 4 1 (d.fin.length * d.fin.length) ((metL (d.fin.length * d.fin.length) ((exI (stepP d d) d.L.toNat (p, q) (0, 0) x.1).map (cd d.fin.length))).map Value.bool), box bx12 69 4 [.int .i64 ((exI (stepP d d) d.L.toNat (p, q) (0, 0) x.1).getD y.1 (0, 0)).1, .int .i64 ((exI (stepP d d) d.L.toNat (p, q) (0, 0) x.1).getD y.1 (0, 0)).2, .int .i64 ((exIb (stepP d d) d.L.toNat (p, q) (0, 0) x.1).getD y.1 (0, 0)).1, .int .i64 ((exIb (stepP d d) d.L.toNat (p, q) (0, 0) x.1).getD y.1 (0, 0)).2], row y.2.2 5 1 y.2.1.length (y.2.1.map byv)]) (fun y => y.1 < (exI (stepP d d) d.L.toNat (p, q) (0, 0) x.1).length ∧ (exIw (stepP d d) d.L.toNat (p, q) (0, 0) x.1).getD y.1 [] ++ y.2.1.reverse = (exIw (stepP d d) d.L.toNat (p, q) (0, 0) x.1).getD x.1 [] ∧ IsSl y.2.2) (fun y => y.1) ((x.1, [], .slice none 0 0)) (.cons rfl (.cons rfl (.nil))) ?_ ?_ ?_ ?_
              · exact ⟨hlt, by simp, nilSl⟩
              · exact .cons (rfl) (.nil)
              · exact fun w hw => by exact hw.ghost 5 1
              · intro y hg1 _ hK22
                have hal : y.2.1.length ≤ 2 * (x.1 + 1) * 8 := by
                  have h := congrArg List.length hg1.2.1
                  rw [List.length_append, List.length_reverse] at h; omega
                have hgy := hg1.1
                refine AK.seq (fun _ hK23 => ?_)
                refine AK.seq (fun _ hK24 => ?_)
                refine AK.region ?_
                refine AK.val _ (Yl.fieldAddr fd69_2 rfl) trivial rfl ?_
                refine AK.val _ (Yl.loadBox on3 rfl (by first | ((repeat (first | exact .hd | apply BoxS.tl | apply MapS.tl)); done) | assumption | exact BoxS.arg (by assumption)) rfl) trivial rfl ?_
                refine AK.val _ (Yl.geq rfl rfl) trivial rfl ?_
                refine AK.nil ?_
                refine AK.then_ (hK24 _ ?_)
                refine AK.condD rfl (fun hc3 => ?_) (fun hc3 => ?_)
                · have hj0 : 0 < y.1 := by
                    rcases Nat.eq_zero_or_pos y.1 with h | h
                    · rw [h, hbk.2.2.1] at hc3; exact absurd hc3 (by decide)
                    · exact h
                  obtain ⟨g1, g2, g3, g4, g5, g6⟩ := hbk.2.1 y.1 hj0 (by omega)
                  refine AK.skip ?_
                  refine AK.then_ (hK23 _ ?_)
                  refine AK.seq (fun _ hK25 => ?_)
                  refine AK.block ?_
                  refine AK.region ?_
                  refine AK.val _ (Yl.move rfl) trivial rfl ?_
                  refine AK.val _ (Yl.fieldAddr fd69_3 rfl) trivial rfl ?_
                  refine AK.val _ (Yl.loadBox on3 rfl (by first | ((repeat (first | exact .hd | apply BoxS.tl | apply MapS.tl)); done) | assumption | exact BoxS.arg (by assumption)) rfl) trivial rfl ?_
                  refine AK.val _ (Yl.convI (by kernel_rfl) un5 rfl (wrap_u8 (by omega))) trivial rfl ?_
                  refine AK.val _ (Yl.addU8 rfl rfl (by omega)) trivial rfl ?_
                  refine AK.append1 4 rfl sl71 el5 rfl (by decide) rfl (by intro k hk; cases hk; rfl) rfl (by intro u hu; simp [Value.cells] at hu; subst hu; rfl) (by omega) (by omega) (by decide) rfl rfl (fun vr _ hr => ?_)
                  refine AK.val _ (Yl.assign rfl) trivial rfl ?_
                  refine AK.nil ?_
                  refine AK.block_normal ?_
                  refine AK.then_ (hK25 _ ?_)
                  refine AK.region ?_
                  refine AK.val _ (Yl.move rfl) trivial rfl ?_
                  refine AK.val _ (Yl.fieldAddr fd69_2 rfl) trivial rfl ?_
                  refine AK.val _ (Yl.loadBox on3 rfl (by first | ((repeat (first | exact .hd | apply BoxS.tl | apply MapS.tl)); done) | assumption | exact BoxS.arg (by assumption)) rfl) trivial rfl ?_
                  first | refine AK.val _ (Yl.idxN sl70 rfl rfl (by first | exact .arg ‹_› | ((repeat (first | exact .hd | apply RdS.tl)); done) | assumption | exact .arg (hNi _ (by omega))) (by decide) (by omega)) trivial rfl ?_ | refine AK.val _ (Yl.idx sl70 rfl rfl (by first | exact .arg ‹_› | ((repeat (first | exact .hd | apply RdS.tl)); done) | assumption | exact .arg (hNi _ (by omega))) (by decide) (by omega)) trivial rfl ?_ | refine AK.val _ (Yl.idxK sl70 rfl rfl (by first | exact .arg ‹_› | ((repeat (first | exact .hd | apply RdS.tl)); done) | assumption | exact .arg (hNi _ (by omega))) (by decide) (by omega)) trivial rfl ?_
                  refine AK.val (q4v (((exI (stepP d d) d.L.toNat (p, q) (0, 0) x.1).getD (((exIb (stepP d d) d.L.toNat (p, q) (0, 0) x.1).getD y.1 (0, 0)).1).toNat (0, 0)), ((exIb (stepP d d) d.L.toNat (p, q) (0, 0) x.1).getD (((exIb (stepP d d) d.L.toNat (p, q) (0, 0) x.1).getD y.1 (0, 0)).1).toNat (0, 0)))) (Yl.valE (Yl.loadQ ag69 rfl (RdS.own 1 rfl) (by rw [hzl]; omega)) (congrArg q4v (zipQ_get hql (by omega)))) trivial rfl ?_
                  refine AK.storeBox 3 (us := [.int .i64 ((exI (stepP d d) d.L.toNat (p, q) (0, 0) x.1).getD (((exIb (stepP d d) d.L.toNat (p, q) (0, 0) x.1).getD y.1 (0, 0)).1).toNat (0, 0)).1, .int .i64 ((exI (stepP d d) d.L.toNat (p, q) (0, 0) x.1).getD (((exIb (stepP d d) d.L.toNat (p, q) (0, 0) x.1).getD y.1 (0, 0)).1).toNat (0, 0)).2, .int .i64 ((exIb (stepP d d) d.L.toNat (p, q) (0, 0) x.1).getD (((exIb (stepP d d) d.L.toNat (p, q) (0, 0) x.1).getD y.1 (0, 0)).1).toNat (0, 0)).1, .int .i64 ((exIb (stepP d d) d.L.toNat (p, q) (0, 0) x.1).getD (((exIb (stepP d d) d.L.toNat (p, q) (0, 0) x.1).getD y.1 (0, 0)).1).toNat (0, 0)).2]) (cs' := [.int .i64 ((exI (stepP d d) d.L.toNat (p, q) (0, 0) x.1).getD (((exIb (stepP d d) d.L.toNat (p, q) (0, 0) x.1).getD y.1 (0, 0)).1).toNat (0, 0)).1, .int .i64 ((exI (stepP d d) d.L.toNat (p, q) (0, 0) x.1).getD (((exIb (stepP d d) d.L.toNat (p, q) (0, 0) x.1).getD y.1 (0, 0)).1).toNat (0, 0)).2, .int .i64 ((exIb (stepP d d) d.L.toNat (p, q) (0, 0) x.1).getD (((exIb (stepP d d) d.L.toNat (p, q) (0, 0) x.1).getD y.1 (0, 0)).1).toNat (0, 0)).1, .int .i64 ((exIb (stepP d d) d.L.toNat (p, q) (0, 0) x.1).getD (((exIb (stepP d d) d.L.toNat (p, q) (0, 0) x.1).getD y.1 (0, 0)).1).toNat (0, 0)).2]) rfl sz69 rfl rfl rfl rfl (by repeat (first | exact one'_nil | refine one'_cons (by first | rfl | exact IsSl.one (by assumption) | exact IsSl.one nilSl) ?_)) (Nat.le_of_ble_eq_true rfl) rfl trivial ?_
                  refine AK.nil ?_
                  refine AK.then_ (hK22 _ _ (((((exIb (stepP d d) d.L.toNat (p, q) (0, 0) x.1).getD y.1 (0, 0)).1).toNat, y.2.1 ++ [ltr (((exIb (stepP d d) d.L.toNat (p, q) (0, 0) x.1).getD y.1 (0, 0)).2).toNat], vr)) ⟨by dsimp only; omega, by dsimp only; rw [List.reverse_append, List.reverse_singleton, ← List.append_assoc, ← g6]; exact hg1.2.1, hr⟩ (by dsimp only; omega) (.cons (rfl) (.cons rfl (.cons rfl (.nil)))) (fun w hw => by dsimp only; rw [List.length_append, List.map_append, List.map_cons, List.map_nil, ← byv_ltr (by omega), Int.toNat_of_nonneg g4]; exact hw))
                · have hj0 : y.1 = 0 := by
                    rcases Nat.eq_zero_or_pos y.1 with h | h
                    · exact h
                    · have := hbk.2.1 y.1 h (by omega)
                      omega
                  have hw0 : y.2.1.reverse = (exIw (stepP d d) d.L.toNat (p, q) (0, 0) x.1).getD x.1 [] := by
                    have h := hg1.2.1
                    rw [hj0, hbk.2.2.2.1] at h; simpa using h
                  refine AK.exit ?_
                  refine AK.then_exit ?_
                  refine AK.then_exit ?_
                  refine AK.block_exit ?_
                  refine AK.then_ (hK21 _ ?_)
                  refine AK.seq (fun _ hK26 => ?_)
                  refine AK.region ?_
                  refine AK.val _ (Yl.move rfl) trivial rfl ?_
                  refine AK.val _ (Yl.bytesS sl71.1 un5 un9 rfl (by first | exact .arg ‹_› | ((repeat (first | exact .hd | apply RdS.tl)); done) | assumption | exact .arg (hNi _ (by omega)))) trivial rfl ?_
                  refine AK.call co44 rfl (fun w hw => s_reverse w y.2.1 (by omega)) trivial rfl ?_
                  rintro r o ⟨rfl, rfl⟩
                  refine AK.val _ (Yl.assign rfl) trivial rfl ?_
                  refine AK.val _ (Yl.assign rfl) trivial rfl ?_
                  refine AK.nil ?_
                  refine AK.then_ (hK26 _ ?_)
                  refine AK.ret ?_
                  refine AK.then_ret ?_
                  refine AK.block_ret ?_
                  refine AK.then_ret ?_
                  refine AK.then_ret ?_
                  refine AK.block_ret ?_
                  refine AK.then_ret ?_
                  refine AK.ret2 rfl rfl rfl (fun w hw => ⟨_, _, ?_, rfl, Ret.of (hw.pick [] (by decide) rfl rfl)⟩)
                  rw [show DisV d p q = DisD d p q from if_pos ⟨hv, hip, hiq⟩, show DisD d p q = _ from src_some hst hcl hlt hg0.2.2 hwt, hw0]
                  exact ⟨rfl, rfl⟩
            · try simp only [decide_eq_true_eq, decide_eq_false_iff_not, Bool.not_eq_true', Bool.not_eq_false', Bool.not_not, ne_eq, Decidable.not_not, Int.not_lt, Int.not_le, beq_iff_eq, bne_iff_ne, Bool.and_eq_true, Bool.or_eq_true, Bool.or_eq_false_iff, Bool.not_false, Bool.not_true, reduceCtorEq, not_true_eq_false, not_false_eq_true] at hc2
              have hwf : wdD d ((exI (stepP d d) d.L.toNat (p, q) (0, 0) x.1).getD x.1 (0, 0)) = false := by unfold wdD finQ; simpa using hc2
              have hrw1 := hv.row ((exI (stepP d d) d.L.toNat (p, q) (0, 0) x.1).getD x.1 (0, 0)).1.toNat (by omega)
              have hrw2 := hv.row ((exI (stepP d d) d.L.toNat (p, q) (0, 0) x.1).getD x.1 (0, 0)).2.toNat (by omega)
              refine AK.skip ?_
              refine AK.then_ (hK18 _ ?_)
              refine AK.seq (fun _ hK27 => ?_)
              refine AK.region ?_
              refine AK.val _ (Yl.fieldAddr fd25_0 rfl) trivial rfl ?_
              refine AK.val _ (Yl.loadBox on3 rfl (by first | ((repeat (first | exact .hd | apply BoxS.tl | apply MapS.tl)); done) | assumption | exact BoxS.arg (by assumption)) rfl) trivial rfl ?_
              refine AK.val _ (Yl.move rfl) trivial rfl ?_
              refine AK.nil ?_
              refine AK.then_ (hK27 _ ?_)
              refine AK.block ?_
              refine AK.loopK (X := Nat × Value) [(3, _), (8, _), (10, _), (11, _), (12, _), (93, _)] (fun y => [(9, y.2), (94, .int .i64 (y.1 : Int))]) (fun y => [box bx3 25 4 [.int .i64 d.L, .int .i64 d.s, vF, vN], row y.2 69 4 (exR (stepP d d) ((exI (stepP d d) d.L.toNat (p, q) (0, 0) x.1).getD x.1 (0, 0)) (exI (stepP d d) d.L.toNat (p, q) (0, 0) x.1) y.1).length (qcs ((exR (stepP d d) ((exI (stepP d d) d.L.toNat (p, q) (0, 0) x.1).getD x.1 (0, 0)) (exI (stepP d d) d.L.toNat (p, q) (0, 0) x.1) y.1).zip (exRb (stepP d d) ((exI (stepP d d) d.L.toNat (p, q) (0, 0) x.1).getD x.1 (0, 0)) x.1 (exI (stepP d d) d.L.toNat (p, q) (0, 0) x.1) (exIb (stepP d d) d.L.toNat (p, q) (0, 0) x.1) y.1))), row mv 4 1 (d.fin.length * d.fin.length) ((metL (d.fin.length * d.fin.length) ((exR (stepP d d) ((exI (stepP d d) d.L.toNat (p, q) (0, 0) x.1).getD x.1 (0, 0)) (exI (stepP d d) d.L.toNat (p, q) (0, 0) x.1) y.1).map (cd d.fin.length))).map Value.bool), box bx12 69 4 [.int .i64 ((exI (stepP d d) d.L.toNat (p, q) (0, 0) x.1).getD x.1 (0, 0)).1, .int .i64 ((exI (stepP d d) d.L.toNat (p, q) (0, 0) x.1).getD x.1 (0, 0)).2, .int .i64 ((exIb (stepP d d) d.L.toNat (p, q) (0, 0) x.1).getD x.1 (0, 0)).1, .int .i64 ((exIb (stepP d d) d.L.toNat (p, q) (0, 0) x.1).getD x.1 (0, 0)).2]]) (fun y => (y.1 : Int) ≤ d.L ∧ IsSl y.2) (fun y => d.L.toNat - y.1) ((0, x.2)) (.cons rfl (.cons rfl (.cons rfl (.cons rfl (.cons rfl (.cons rfl (.nil))))))) ?_ ?_ ?_ ?_
              · exact ⟨by dsimp only; omega, sx2⟩
              · exact .cons (rfl) (.cons (rfl) (.nil))
              · exact fun w hw => hw
              · intro y hg2 _ hK28
                have sy2 := hg2.2
                refine AK.seq (fun _ hK29 => ?_)
                refine AK.region ?_
                refine AK.val _ (Yl.lss rfl rfl) trivial rfl ?_
                refine AK.nil ?_
                refine AK.then_ (hK29 _ ?_)
                refine AK.seq (fun _ hK30 => ?_)
                refine AK.condD rfl (fun hc4 => ?_) (fun hc4 => ?_)
                · have hyL : y.1 < d.L.toNat := by omega
                  have hNU : (stepP d d ((exI (stepP d d) d.L.toNat (p, q) (0, 0) x.1).getD x.1 (0, 0)) y.1) ∈ univ2 d.fin.length d.fin.length := hcl _ ((hok x.1).2 _ (getD_mem (d := (0, 0)) hlt)) y.1 hyL
                  have hNB := inB_univ2.1 hNU
                  have hcb : 0 ≤ ((d.nx.getD ((exI (stepP d d) d.L.toNat (p, q) (0, 0) x.1).getD x.1 (0, 0)).1.toNat []).getD y.1 0) * (d.fin.length : Int) ∧ ((d.nx.getD ((exI (stepP d d) d.L.toNat (p, q) (0, 0) x.1).getD x.1 (0, 0)).1.toNat []).getD y.1 0) * (d.fin.length : Int) ≤ (((d.fin.length * d.fin.length) : Nat) : Int) ∧ 0 ≤ ((d.nx.getD ((exI (stepP d d) d.L.toNat (p, q) (0, 0) x.1).getD x.1 (0, 0)).1.toNat []).getD y.1 0) * (d.fin.length : Int) + ((d.nx.getD ((exI (stepP d d) d.L.toNat (p, q) (0, 0) x.1).getD x.1 (0, 0)).2.toNat []).getD y.1 0) ∧ ((d.nx.getD ((exI (stepP d d) d.L.toNat (p, q) (0, 0) x.1).getD x.1 (0, 0)).1.toNat []).getD y.1 0) * (d.fin.length : Int) + ((d.nx.getD ((exI (stepP d d) d.L.toNat (p, q) (0, 0) x.1).getD x.1 (0, 0)).2.toNat []).getD y.1 0) < (((d.fin.length * d.fin.length) : Nat) : Int) := cd_bd hNB
                  have hRin : ∀ u ∈ (exR (stepP d d) ((exI (stepP d d) d.L.toNat (p, q) (0, 0) x.1).getD x.1 (0, 0)) (exI (stepP d d) d.L.toNat (p, q) (0, 0) x.1) y.1), InB d.fin.length d.fin.length u := fun u hu => inB_univ2.1 (exR_sub (fun u hu => (hok x.1).2 u hu) (fun k hk => hcl _ ((hok x.1).2 _ (getD_mem (d := (0, 0)) hlt)) k hk) y.1 (by omega) u hu)
                  have hmg : (metL (d.fin.length * d.fin.length) ((exR (stepP d d) ((exI (stepP d d) d.L.toNat (p, q) (0, 0) x.1).getD x.1 (0, 0)) (exI (stepP d d) d.L.toNat (p, q) (0, 0) x.1) y.1).map (cd d.fin.length))).getD (((d.nx.getD ((exI (stepP d d) d.L.toNat (p, q) (0, 0) x.1).getD x.1 (0, 0)).1.toNat []).getD y.1 0) * (d.fin.length : Int) + ((d.nx.getD ((exI (stepP d d) d.L.toNat (p, q) (0, 0) x.1).getD x.1 (0, 0)).2.toNat []).getD y.1 0)).toNat false = decide ((stepP d d ((exI (stepP d d) d.L.toNat (p, q) (0, 0) x.1).getD x.1 (0, 0)) y.1) ∈ (exR (stepP d d) ((exI (stepP d d) d.L.toNat (p, q) (0, 0) x.1).getD x.1 (0, 0)) (exI (stepP d d) d.L.toNat (p, q) (0, 0) x.1) y.1)) := (metL_get ⟨hcb.2.2.1, hcb.2.2.2⟩).trans (decide_eq_decide.2 (cd_mem hRin hNB))
                  have hrl := exR_bd (z := (0, 0)) hst hcl hlt (k := y.1) (by omega)
                  rw [univ2_len] at hrl
                  have hbl := exRb_len (f := (stepP d d)) (q := ((exI (stepP d d) d.L.toNat (p, q) (0, 0) x.1).getD x.1 (0, 0))) (i := x.1) hql y.1
                  have hml := metL_len (d.fin.length * d.fin.length) ((exR (stepP d d) ((exI (stepP d d) d.L.toNat (p, q) (0, 0) x.1).getD x.1 (0, 0)) (exI (stepP d d) d.L.toNat (p, q) (0, 0) x.1) y.1).map (cd d.fin.length))
                  refine AK.skip ?_
                  refine AK.then_ (hK30 _ ?_)
                  refine AK.seq (fun _ hK31 => ?_)
                  refine AK.block ?_
                  refine AK.seq (fun _ hK32 => ?_)
                  refine AK.region ?_
                  refine AK.val _ (Yl.move rfl) trivial rfl ?_
                  refine AK.val _ (Yl.assign rfl) trivial rfl ?_
                  refine AK.nil ?_
                  refine AK.then_ (hK32 _ ?_)
                  refine AK.seq (fun _ hK33 => ?_)
                  refine AK.quiet mixed (by kernel_rfl) ?_
                  refine QK.val _ (Yl.fieldAddr fd25_3 rfl) trivial rfl ?_
                  refine QK.val _ (Yl.loadBox on23 rfl (by first | ((repeat (first | exact .hd | apply BoxS.tl | apply MapS.tl)); done) | assumption | exact BoxS.arg (by assumption)) rfl) trivial rfl ?_
                  refine QK.val _ (Yl.fieldAddr fd69_0 rfl) trivial rfl ?_
                  refine QK.val _ (Yl.loadBox on3 rfl (by first | ((repeat (first | exact .hd | apply BoxS.tl | apply MapS.tl)); done) | assumption | exact BoxS.arg (by assumption)) rfl) trivial rfl ?_
                  first | refine QK.val _ (Yl.idxN sl23 rfl rfl (by first | exact .arg ‹_› | ((repeat (first | exact .hd | apply RdS.tl)); done) | assumption | exact .arg (hNi _ (by omega))) (by decide) (by omega)) trivial rfl ?_ | refine QK.val _ (Yl.idx sl23 rfl rfl (by first | exact .arg ‹_› | ((repeat (first | exact .hd | apply RdS.tl)); done) | assumption | exact .arg (hNi _ (by omega))) (by decide) (by omega)) trivial rfl ?_ | refine QK.val _ (Yl.idxK sl23 rfl rfl (by first | exact .arg ‹_› | ((repeat (first | exact .hd | apply RdS.tl)); done) | assumption | exact .arg (hNi _ (by omega))) (by decide) (by omega)) trivial rfl ?_
                  refine QK.val _ (Yl.loadV on26 rfl (by first | exact .arg ‹_› | ((repeat (first | exact .hd | apply RdS.tl)); done) | assumption | exact .arg (hNi _ (by omega))) (by omega)) trivial rfl ?_
                  refine QK.val _ (Yl.move rfl) trivial rfl ?_
                  first | refine QK.val _ (Yl.idxN sl26 rfl rfl (by first | exact .arg ‹_› | ((repeat (first | exact .hd | apply RdS.tl)); done) | assumption | exact .arg (hNi _ (by omega))) (by decide) (by omega)) trivial rfl ?_ | refine QK.val _ (Yl.idx sl26 rfl rfl (by first | exact .arg ‹_› | ((repeat (first | exact .hd | apply RdS.tl)); done) | assumption | exact .arg (hNi _ (by omega))) (by decide) (by omega)) trivial rfl ?_ | refine QK.val _ (Yl.idxK sl26 rfl rfl (by first | exact .arg ‹_› | ((repeat (first | exact .hd | apply RdS.tl)); done) | assumption | exact .arg (hNi _ (by omega))) (by decide) (by omega)) trivial rfl ?_
                  refine QK.val _ (Yl.loadI on3 rfl (by first | exact .arg ‹_› | ((repeat (first | exact .hd | apply RdS.tl)); done) | assumption | exact .arg (hNi _ (by omega))) (by omega)) trivial rfl ?_
                  refine QK.val _ (Yl.fieldAddr fd25_3 rfl) trivial rfl ?_
                  refine QK.val _ (Yl.loadBox on23 rfl (by first | ((repeat (first | exact .hd | apply BoxS.tl | apply MapS.tl)); done) | assumption | exact BoxS.arg (by assumption)) rfl) trivial rfl ?_
                  refine QK.val _ (Yl.fieldAddr fd69_1 rfl) trivial rfl ?_
                  refine QK.val _ (Yl.loadBox on3 rfl (by first | ((repeat (first | exact .hd | apply BoxS.tl | apply MapS.tl)); done) | assumption | exact BoxS.arg (by assumption)) rfl) trivial rfl ?_
                  first | refine QK.val _ (Yl.idxN sl23 rfl rfl (by first | exact .arg ‹_› | ((repeat (first | exact .hd | apply RdS.tl)); done) | assumption | exact .arg (hNi _ (by omega))) (by decide) (by omega)) trivial rfl ?_ | refine QK.val _ (Yl.idx sl23 rfl rfl (by first | exact .arg ‹_› | ((repeat (first | exact .hd | apply RdS.tl)); done) | assumption | exact .arg (hNi _ (by omega))) (by decide) (by omega)) trivial rfl ?_ | refine QK.val _ (Yl.idxK sl23 rfl rfl (by first | exact .arg ‹_› | ((repeat (first | exact .hd | apply RdS.tl)); done) | assumption | exact .arg (hNi _ (by omega))) (by decide) (by omega)) trivial rfl ?_
                  refine QK.val _ (Yl.loadV on26 rfl (by first | exact .arg ‹_› | ((repeat (first | exact .hd | apply RdS.tl)); done) | assumption | exact .arg (hNi _ (by omega))) (by omega)) trivial rfl ?_
                  refine QK.val _ (Yl.move rfl) trivial rfl ?_
                  first | refine QK.val _ (Yl.idxN sl26 rfl rfl (by first | exact .arg ‹_› | ((repeat (first | exact .hd | apply RdS.tl)); done) | assumption | exact .arg (hNi _ (by omega))) (by decide) (by omega)) trivial rfl ?_ | refine QK.val _ (Yl.idx sl26 rfl rfl (by first | exact .arg ‹_› | ((repeat (first | exact .hd | apply RdS.tl)); done) | assumption | exact .arg (hNi _ (by omega))) (by decide) (by omega)) trivial rfl ?_ | refine QK.val _ (Yl.idxK sl26 rfl rfl (by first | exact .arg ‹_› | ((repeat (first | exact .hd | apply RdS.tl)); done) | assumption | exact .arg (hNi _ (by omega))) (by decide) (by omega)) trivial rfl ?_
                  refine QK.val _ (Yl.loadI on3 rfl (by first | exact .arg ‹_› | ((repeat (first | exact .hd | apply RdS.tl)); done) | assumption | exact .arg (hNi _ (by omega))) (by omega)) trivial rfl ?_
                  refine QK.val _ (Yl.assign rfl) trivial rfl ?_
                  refine QK.val _ (Yl.assign rfl) trivial rfl ?_
                  refine QK.nil (QK.fin ?_)
                  refine AK.then_ (hK33 _ ?_)
                  refine AK.seq (fun _ hK34 => ?_)
                  refine AK.region ?_
                  refine AK.val _ (Yl.move rfl) trivial rfl ?_
                  refine AK.val _ (Yl.move rfl) trivial rfl ?_
                  refine AK.val _ (Yl.move rfl) trivial rfl ?_
                  refine AK.val _ (Yl.mul rfl rfl (by omega)) trivial rfl ?_
                  refine AK.val _ (Yl.move rfl) trivial rfl ?_
                  refine AK.val _ (Yl.add rfl rfl (by omega)) trivial rfl ?_
                  first | refine AK.val _ (Yl.idxN sl22 rfl rfl (by first | exact .arg ‹_› | ((repeat (first | exact .hd | apply RdS.tl)); done) | assumption | exact .arg (hNi _ (by omega))) (by decide) (by omega)) trivial rfl ?_ | refine AK.val _ (Yl.idx sl22 rfl rfl (by first | exact .arg ‹_› | ((repeat (first | exact .hd | apply RdS.tl)); done) | assumption | exact .arg (hNi _ (by omega))) (by decide) (by omega)) trivial rfl ?_ | refine AK.val _ (Yl.idxK sl22 rfl rfl (by first | exact .arg ‹_› | ((repeat (first | exact .hd | apply RdS.tl)); done) | assumption | exact .arg (hNi _ (by omega))) (by decide) (by omega)) trivial rfl ?_
                  refine AK.val _ (Yl.loadB on4 rfl (by first | exact .arg ‹_› | ((repeat (first | exact .hd | apply RdS.tl)); done) | assumption | exact .arg (hNi _ (by omega))) (by omega)) trivial rfl ?_
                  refine AK.val _ (Yl.not rfl) trivial rfl ?_
                  refine AK.nil ?_
                  refine AK.then_ (hK34 _ ?_)
                  refine AK.condB rfl (fun hc5 => ?_) (fun hc5 => ?_)
                  · have hni : (stepP d d ((exI (stepP d d) d.L.toNat (p, q) (0, 0) x.1).getD x.1 (0, 0)) y.1) ∉ (exR (stepP d d) ((exI (stepP d d) d.L.toNat (p, q) (0, 0) x.1).getD x.1 (0, 0)) (exI (stepP d d) d.L.toNat (p, q) (0, 0) x.1) y.1) := by rw [hmg] at hc5; exact of_decide_eq_false hc5
                    refine AK.seq (fun _ hK35 => ?_)
                    refine AK.region ?_
                    refine AK.val _ (Yl.move rfl) trivial rfl ?_
                    refine AK.val _ (Yl.move rfl) trivial rfl ?_
                    refine AK.val _ (Yl.move rfl) trivial rfl ?_
                    refine AK.val _ (Yl.mul rfl rfl (by omega)) trivial rfl ?_
                    refine AK.val _ (Yl.move rfl) trivial rfl ?_
                    refine AK.val _ (Yl.add rfl rfl (by omega)) trivial rfl ?_
                    first | refine AK.val _ (Yl.idxN sl22 rfl rfl (by first | exact .arg ‹_› | ((repeat (first | exact .hd | apply RdS.tl)); done) | assumption | exact .arg (hNi _ (by omega))) (by decide) (by omega)) trivial rfl ?_ | refine AK.val _ (Yl.idx sl22 rfl rfl (by first | exact .arg ‹_› | ((repeat (first | exact .hd | apply RdS.tl)); done) | assumption | exact .arg (hNi _ (by omega))) (by decide) (by omega)) trivial rfl ?_ | refine AK.val _ (Yl.idxK sl22 rfl rfl (by first | exact .arg ‹_› | ((repeat (first | exact .hd | apply RdS.tl)); done) | assumption | exact .arg (hNi _ (by omega))) (by decide) (by omega)) trivial rfl ?_
                    refine AK.store1e 2 rfl sz4 rfl rfl rfl rfl (by omega) (cs' := ((metL (d.fin.length * d.fin.length) (((exR (stepP d d) ((exI (stepP d d) d.L.toNat (p, q) (0, 0) x.1).getD x.1 (0, 0)) (exI (stepP d d) d.L.toNat (p, q) (0, 0) x.1) y.1) ++ [(stepP d d ((exI (stepP d d) d.L.toNat (p, q) (0, 0) x.1).getD x.1 (0, 0)) y.1)]).map (cd d.fin.length))).map Value.bool)) (by rw [List.map_append]; exact met_next ⟨hcb.2.2.1, hcb.2.2.2⟩) trivial ?_
                    refine AK.nil ?_
                    refine AK.then_ (hK35 _ ?_)
                    refine AK.region ?_
                    refine AK.val _ (Yl.move rfl) trivial rfl ?_
                    refine AK.val _ (Yl.move rfl) trivial rfl ?_
                    refine AK.val _ (Yl.move rfl) trivial rfl ?_
                    refine AK.val _ (Yl.move rfl) trivial rfl ?_
                    refine AK.val _ (Yl.move rfl) trivial rfl ?_
                    refine AK.val _ (Yl.build (parts := [(0, .tmp 132), (1, .tmp 133), (2, .tmp 134), (3, .tmp 135)]) (cs := #[.int .i64 ((d.nx.getD ((exI (stepP d d) d.L.toNat (p, q) (0, 0) x.1).getD x.1 (0, 0)).1.toNat []).getD y.1 0), .int .i64 ((d.nx.getD ((exI (stepP d d) d.L.toNat (p, q) (0, 0) x.1).getD x.1 (0, 0)).2.toNat []).getD y.1 0), .int .i64 (x.1 : Int), .int .i64 (y.1 : Int)]) rfl (by kernel_rfl)) trivial rfl ?_
                    refine AK.append1 1 rfl sl70 el69 rfl (by decide) rfl (by intro k hk; cases hk; rfl) rfl (by intro u hu; simp [Value.cells] at hu; rcases hu with rfl | rfl | rfl | rfl <;> rfl) (by omega) (by omega) (by decide) rfl rfl (fun va _ ha => ?_)
                    refine AK.val _ (Yl.assign rfl) trivial rfl ?_
                    refine AK.nil ?_
                    refine AK.block_normal ?_
                    refine AK.then_ (hK31 _ ?_)
                    refine AK.region ?_
                    refine AK.val _ (Yl.add rfl rfl (by omega)) trivial rfl ?_
                    refine AK.val _ (Yl.move rfl) trivial rfl ?_
                    refine AK.nil ?_
                    first | refine AK.then_ (hK28 _ _ ((y.1 + 1, va)) ⟨by dsimp only; omega, ha⟩ (by dsimp only; omega) (.cons (rfl) (.cons (rfl) (.cons rfl (.cons rfl (.cons rfl (.cons rfl (.cons rfl (.cons rfl (.nil))))))))) (fun w hw => by dsimp only; rw [show (exR (stepP d d) ((exI (stepP d d) d.L.toNat (p, q) (0, 0) x.1).getD x.1 (0, 0)) (exI (stepP d d) d.L.toNat (p, q) (0, 0) x.1) (y.1 + 1)) = (exR (stepP d d) ((exI (stepP d d) d.L.toNat (p, q) (0, 0) x.1).getD x.1 (0, 0)) (exI (stepP d d) d.L.toNat (p, q) (0, 0) x.1) y.1) ++ [(stepP d d ((exI (stepP d d) d.L.toNat (p, q) (0, 0) x.1).getD x.1 (0, 0)) y.1)] from if_neg hni, show (exRb (stepP d d) ((exI (stepP d d) d.L.toNat (p, q) (0, 0) x.1).getD x.1 (0, 0)) x.1 (exI (stepP d d) d.L.toNat (p, q) (0, 0) x.1) (exIb (stepP d d) d.L.toNat (p, q) (0, 0) x.1) (y.1 + 1)) = (exRb (stepP d d) ((exI (stepP d d) d.L.toNat (p, q) (0, 0) x.1).getD x.1 (0, 0)) x.1 (exI (stepP d d) d.L.toNat (p, q) (0, 0) x.1) (exIb (stepP d d) d.L.toNat (p, q) (0, 0) x.1) y.1) ++ [((x.1 : Int), (y.1 : Int))] from if_neg hni, zipQ_snoc hbl, qcs_snoc, List.length_append]; exact hw)) | refine AK.then_ (hK28 _ _ ((y.1 + 1, y.2)) ⟨by dsimp only; omega, sy2⟩ (by dsimp only; omega) (.cons (rfl) (.cons (rfl) (.cons rfl (.cons rfl (.cons rfl (.cons rfl (.cons rfl (.cons rfl (.nil))))))))) (fun w hw => by dsimp only; rw [show (exR (stepP d d) ((exI (stepP d d) d.L.toNat (p, q) (0, 0) x.1).getD x.1 (0, 0)) (exI (stepP d d) d.L.toNat (p, q) (0, 0) x.1) (y.1 + 1)) = (exR (stepP d d) ((exI (stepP d d) d.L.toNat (p, q) (0, 0) x.1).getD x.1 (0, 0)) (exI (stepP d d) d.L.toNat (p, q) (0, 0) x.1) y.1) from if_pos hin2, show (exRb (stepP d d) ((exI (stepP d d) d.L.toNat (p, q) (0, 0) x.1).getD x.1 (0, 0)) x.1 (exI (stepP d d) d.L.toNat (p, q) (0, 0) x.1) (exIb (stepP d d) d.L.toNat (p, q) (0, 0) x.1) (y.1 + 1)) = (exRb (stepP d d) ((exI (stepP d d) d.L.toNat (p, q) (0, 0) x.1).getD x.1 (0, 0)) x.1 (exI (stepP d d) d.L.toNat (p, q) (0, 0) x.1) (exIb (stepP d d) d.L.toNat (p, q) (0, 0) x.1) y.1) from if_pos hin2]; exact hw))
                  · have hin2 : (stepP d d ((exI (stepP d d) d.L.toNat (p, q) (0, 0) x.1).getD x.1 (0, 0)) y.1) ∈ (exR (stepP d d) ((exI (stepP d d) d.L.toNat (p, q) (0, 0) x.1).getD x.1 (0, 0)) (exI (stepP d d) d.L.toNat (p, q) (0, 0) x.1) y.1) := by rw [hmg] at hc5; exact of_decide_eq_true hc5
                    refine AK.skip ?_
                    refine AK.block_normal ?_
                    refine AK.then_ (hK31 _ ?_)
                    refine AK.region ?_
                    refine AK.val _ (Yl.add rfl rfl (by omega)) trivial rfl ?_
                    refine AK.val _ (Yl.move rfl) trivial rfl ?_
                    refine AK.nil ?_
                    first | refine AK.then_ (hK28 _ _ ((y.1 + 1, va)) ⟨by dsimp only; omega, ha⟩ (by dsimp only; omega) (.cons (rfl) (.cons (rfl) (.cons rfl (.cons rfl (.cons rfl (.cons rfl (.cons rfl (.cons rfl (.nil))))))))) (fun w hw => by dsimp only; rw [show (exR (stepP d d) ((exI (stepP d d) d.L.toNat (p, q) (0, 0) x.1).getD x.1 (0, 0)) (exI (stepP d d) d.L.toNat (p, q) (0, 0) x.1) (y.1 + 1)) = (exR (stepP d d) ((exI (stepP d d) d.L.toNat (p, q) (0, 0) x.1).getD x.1 (0, 0)) (exI (stepP d d) d.L.toNat (p, q) (0, 0) x.1) y.1) ++ [(stepP d d ((exI (stepP d d) d.L.toNat (p, q) (0, 0) x.1).getD x.1 (0, 0)) y.1)] from if_neg hni, show (exRb (stepP d d) ((exI (stepP d d) d.L.toNat (p, q) (0, 0) x.1).getD x.1 (0, 0)) x.1 (exI (stepP d d) d.L.toNat (p, q) (0, 0) x.1) (exIb (stepP d d) d.L.toNat (p, q) (0, 0) x.1) (y.1 + 1)) = (exRb (stepP d d) ((exI (stepP d d) d.L.toNat (p, q) (0, 0) x.1).getD x.1 (0, 0)) x.1 (exI (stepP d d) d.L.toNat (p, q) (0, 0) x.1) (exIb (stepP d d) d.L.toNat (p, q) (0, 0) x.1) y.1) ++ [((x.1 : Int), (y.1 : Int))] from if_neg hni, zipQ_snoc hbl, qcs_snoc, List.length_append]; exact hw)) | refine AK.then_ (hK28 _ _ ((y.1 + 1, y.2)) ⟨by dsimp only; omega, sy2⟩ (by dsimp only; omega) (.cons (rfl) (.cons (rfl) (.cons rfl (.cons rfl (.cons rfl (.cons rfl (.cons rfl (.cons rfl (.nil))))))))) (fun w hw => by dsimp only; rw [show (exR (stepP d d) ((exI (stepP d d) d.L.toNat (p, q) (0, 0) x.1).getD x.1 (0, 0)) (exI (stepP d d) d.L.toNat (p, q) (0, 0) x.1) (y.1 + 1)) = (exR (stepP d d) ((exI (stepP d d) d.L.toNat (p, q) (0, 0) x.1).getD x.1 (0, 0)) (exI (stepP d d) d.L.toNat (p, q) (0, 0) x.1) y.1) from if_pos hin2, show (exRb (stepP d d) ((exI (stepP d d) d.L.toNat (p, q) (0, 0) x.1).getD x.1 (0, 0)) x.1 (exI (stepP d d) d.L.toNat (p, q) (0, 0) x.1) (exIb (stepP d d) d.L.toNat (p, q) (0, 0) x.1) (y.1 + 1)) = (exRb (stepP d d) ((exI (stepP d d) d.L.toNat (p, q) (0, 0) x.1).getD x.1 (0, 0)) x.1 (exI (stepP d d) d.L.toNat (p, q) (0, 0) x.1) (exIb (stepP d d) d.L.toNat (p, q) (0, 0) x.1) y.1) from if_pos hin2]; exact hw))
                · refine AK.exit ?_
                  refine AK.then_exit ?_
                  refine AK.then_exit ?_
                  refine AK.block_exit ?_
                  refine AK.block_normal ?_
                  refine AK.then_ (hK16 _ ?_)
                  refine AK.region ?_
                  refine AK.val _ (Yl.move rfl) trivial rfl ?_
                  refine AK.val _ (Yl.add rfl rfl (by omega)) trivial rfl ?_
                  refine AK.val _ (Yl.assign rfl) trivial rfl ?_
                  refine AK.nil ?_
                  refine AK.then_ (hK13 _ _ ((x.1 + 1, y.2)) ⟨by dsimp only; rw [exI_next hlt]; obtain ⟨ys, e⟩ := exR_pre (stepP d d) ((exI (stepP d d) d.L.toNat (p, q) (0, 0) x.1).getD x.1 (0, 0)) (exI (stepP d d) d.L.toNat (p, q) (0, 0) x.1) d.L.toNat; rw [e, List.length_append]; omega, hg2.2, src_next hlt hg0.2.2 hwf⟩ (by dsimp only; omega) (.cons (rfl) (.cons (rfl) (.cons rfl (.cons rfl (.cons rfl (.nil)))))) (fun w hw => by dsimp only; rw [exI_next hlt, exIb_next hlt]; rw [show y.1 = d.L.toNat by omega] at hw; exact hw.pick [0, 1, 2] (by decide) rfl rfl))
          · refine AK.exit ?_
            refine AK.then_exit ?_
            refine AK.then_exit ?_
            refine AK.block_exit ?_
            refine AK.then_ (hK11 _ ?_)
            refine AK.seq (fun _ hK36 => ?_)
            refine AK.region ?_
            refine AK.val _ (Yl.assign rfl) trivial rfl ?_
            refine AK.val _ (Yl.assign rfl) trivial rfl ?_
            refine AK.nil ?_
            refine AK.then_ (hK36 _ ?_)
            refine AK.ret ?_
            refine AK.ret2 rfl rfl rfl (fun w hw => ⟨_, _, ?_, rfl, Ret.of (hw.pick [] (by decide) rfl rfl)⟩)
            rw [show DisV d p q = DisD d p q from if_pos ⟨hv, hip, hiq⟩, show DisD d p q = _ from src_none hst hcl (show x.1 = (exI (stepP d d) d.L.toNat (p, q) (0, 0) x.1).length by omega) hg0.2.2]
            exact ⟨rfl, rfl⟩

end Go.Proofs.Ytoikhoniogicdaa
