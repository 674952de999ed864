import Derived.Test.YtoikhoniogicdaaE13
set_option linter.unusedVariables false
set_option linter.unusedSimpArgs false
namespace Go.Proofs.Ytoikhoniogicdaa
open Go.Sx Go.RowKit
def apB (m : Dfa) (ts : List (List UInt8)) (p q : Int) : Bool := ts.any fun w => finQ m (runI m p w) != finQ m (runI m q w)
theorem apB_snoc {m : Dfa} {ts : List (List UInt8)} {p q : Int} {w : List UInt8} : apB m (ts ++ [w]) p q = (apB m ts p q || (finQ m (runI m p w) != finQ m (runI m q w))) := by simp [apB]
theorem apB_iff {m : Dfa} {ts : List (List UInt8)} {p q : Int} : apB m ts p q = false ↔ SameT m ts p q := by
  unfold apB SameT
  rw [List.any_eq_false]
  simp
theorem apB_sep {m : Dfa} {ts : List (List UInt8)} (h : ∀ i, i < m.fin.length → ∀ j, j < i → apB m ts (i : Int) (j : Int) = true) : ∀ p q, InR m p → InR m q → SameT m ts p q → p = q := by
  intro p q hp hq hs
  have hp1 := hp.1
  have hp2 := hp.2
  have hq1 := hq.1
  have hq2 := hq.2
  have ep : ((p.toNat : Nat) : Int) = p := by omega
  have eq : ((q.toNat : Nat) : Int) = q := by omega
  rcases Nat.lt_trichotomy p.toNat q.toNat with h1 | h1 | h1
  · have h2 := h q.toNat (by omega) p.toNat h1
    rw [ep, eq, apB_iff.2 (fun w hw => (hs w hw).symm)] at h2
    cases h2
  · omega
  · have h2 := h p.toNat (by omega) q.toNat h1
    rw [ep, eq, apB_iff.2 hs] at h2
    cases h2
theorem run_of {m : Dfa} (hv : VD m) {q : Nat} (hq : q < m.fin.length) {l : List UInt8} (hl : validW m.L l = true) : RunV m (q : Int) l = runI m (q : Int) l := by
  unfold RunV
  rw [if_pos ⟨(errV_iff m).2 hv, ⟨by omega, by omega⟩, hl⟩]
set_option maxHeartbeats 2000000 in
set_option maxRecDepth 100000 in
theorem s_refcheck (w : World) (v : Value) (d : Dfa) (h : RdD (fun _ => False) w v d) (vm : Value) (m : Dfa) (k : RdD (fun _ => False) w vm m) (vp va vt : Value) (mp : List Int) (ac ts : List (List UInt8)) (hp : RdL (fun _ => False) (Value.int .i64) w vp mp) (ha : RdL (fun _ => False) sv w va ac) (hla : ∀ a ∈ ac, a.length ≤ 9223372036854775807) (ht : RdL (fun _ => False) sv w vt ts) (hlt : ∀ a ∈ ts, a.length ≤ 9223372036854775807) : CallS Try.prog 33 [v, vm, .agg #[vp, va, vt]] w (fun r o => ∃ b, r = .bool b ∧ (b = true ↔ ChkP d m mp ac ts) ∧ o = []) := by
  have h0 := h
  obtain ⟨vF, vN, rfl, hF, hN⟩ := h
  have hF0 := hF
  have hN0 := hN
  obtain ⟨rs, hrl, hNr, hNi⟩ := hN
  have sF := hF.sl
  have sN := hNr.sl
  have hmf := hF.le
  have hmn := hNr.le
  unfold RdL at hF
  have k0 := k
  obtain ⟨uF, uN, rfl, gF, gN⟩ := k
  have gF0 := gF
  have gN0 := gN
  obtain ⟨ss, gsl, gNr, gNi⟩ := gN
  have tF := gF.sl
  have tN := gNr.sl
  have gmf := gF.le
  have gmn := gNr.le
  unfold RdL at gF
  have hp0 := hp
  have ha0 := ha
  have ht0 := ht
  have hps := hp.sl
  have has := ha.sl
  have hts := ht.sl
  have hpl := hp.le
  have hal := ha.le
  have htl := ht.le
  unfold RdL at hp ha ht
  refine spec_of Try.func33 rfl (Nat.le_of_ble_eq_true rfl) ?_
  refine AK.seq (fun _ hK1 => ?_)
  refine AK.region ?_
  refine AK.box_ (E := 25) (cs := [.int .i64 d.L, .int .i64 d.s, vF, vN]) rfl rfl rfl trivial rfl (fun bx3 => ?_)
  refine AK.box_ (E := 25) (cs := [.int .i64 m.L, .int .i64 m.s, uF, uN]) rfl rfl rfl trivial rfl (fun bx4 => ?_)
  refine AK.box_ (E := 51) (cs := [vp, va, vt]) rfl rfl rfl trivial rfl (fun bx5 => ?_)
  refine AK.val _ (Yl.assign rfl) trivial rfl ?_
  refine AK.nil ?_
  refine AK.then_ (hK1 _ ?_)
  refine AK.seq (fun _ hK2 => ?_)
  refine AK.region ?_
  refine AK.val _ (Yl.fieldAddr fd25_2 rfl) trivial rfl ?_
  refine AK.val _ (Yl.loadBox on22 rfl (by first | ((repeat (first | exact .hd | apply BoxS.tl | apply MapS.tl)); done) | assumption | exact BoxS.arg (by assumption)) rfl) trivial rfl ?_
  refine AK.val _ (Yl.lenR sl22 rfl (by first | exact .arg ‹_› | ((repeat (first | exact .hd | apply RdS.tl)); done) | assumption | exact .arg (hNi _ (by omega)) | exact .arg (gNi _ (by omega)))) trivial rfl ?_
  refine AK.val _ (Yl.assign rfl) trivial rfl ?_
  refine AK.nil ?_
  refine AK.then_ (hK2 _ ?_)
  refine AK.seq (fun _ hK3 => ?_)
  refine AK.seq (fun _ hK4 => ?_)
  refine AK.region ?_
  refine AK.val _ (Yl.loadBoxG ag25 rfl (by first | ((repeat (first | exact .hd | apply BoxS.tl | apply MapS.tl)); done) | assumption | exact BoxS.arg (by assumption)) rfl rfl) trivial rfl ?_
  refine AK.call co15 rfl (fun w hw => s_refvalidate w _ d (h0.at hw)) trivial rfl ?_
  rintro r o ⟨rfl, rfl⟩
  refine AK.val _ (Yl.neq rfl rfl) trivial rfl ?_
  refine AK.val _ (Yl.move rfl) trivial rfl ?_
  refine AK.splitB (g := 28) rfl (fun hg_2_3 => ?_) (fun hg_2_3 => ?_)
  · have hg_2_3' := hg_2_3
    try simp only [decide_eq_true_eq, decide_eq_false_iff_not, Bool.not_eq_true', Bool.not_eq_false', Bool.not_not, ne_eq, Decidable.not_not, Int.not_lt, Int.not_le, beq_iff_eq, bne_iff_ne, Bool.and_eq_true, Bool.or_eq_true, Bool.or_eq_false_iff, Bool.not_false, Bool.not_true, reduceCtorEq, not_true_eq_false, not_false_eq_true] at hg_2_3'
    refine AK.pass rfl rfl (hg_2_3) rfl ?_
    refine AK.pass rfl rfl (hg_2_3) rfl ?_
    refine AK.pass rfl rfl (hg_2_3) rfl ?_
    refine AK.val _ (Yl.pickT rfl (hg_2_3) rfl) trivial rfl ?_
    refine AK.val _ (Yl.move rfl) trivial rfl ?_
    refine AK.pass rfl rfl rfl rfl ?_
    refine AK.pass rfl rfl rfl rfl ?_
    refine AK.pass rfl rfl rfl rfl ?_
    refine AK.pass rfl rfl rfl rfl ?_
    refine AK.pass rfl rfl rfl rfl ?_
    refine AK.val _ (Yl.pickT rfl (rfl) rfl) trivial rfl ?_
    refine AK.val _ (Yl.move rfl) trivial rfl ?_
    refine AK.pass rfl rfl rfl rfl ?_
    refine AK.pass rfl rfl rfl rfl ?_
    refine AK.pass rfl rfl rfl rfl ?_
    refine AK.pass rfl rfl rfl rfl ?_
    refine AK.pass rfl rfl rfl rfl ?_
    refine AK.pass rfl rfl rfl rfl ?_
    refine AK.pass rfl rfl rfl rfl ?_
    refine AK.val _ (Yl.pickT rfl (rfl) rfl) trivial rfl ?_
    refine AK.val _ (Yl.move rfl) trivial rfl ?_
    refine AK.pass rfl rfl rfl rfl ?_
    refine AK.pass rfl rfl rfl rfl ?_
    refine AK.pass rfl rfl rfl rfl ?_
    refine AK.pass rfl rfl rfl rfl ?_
    refine AK.pass rfl rfl rfl rfl ?_
    refine AK.val _ (Yl.pickT rfl (rfl) rfl) trivial rfl ?_
    refine AK.val _ (Yl.move rfl) trivial rfl ?_
    refine AK.pass rfl rfl rfl rfl ?_
    refine AK.pass rfl rfl rfl rfl ?_
    refine AK.pass rfl rfl rfl rfl ?_
    refine AK.pass rfl rfl rfl rfl ?_
    refine AK.pass rfl rfl rfl rfl ?_
    refine AK.pass rfl rfl rfl rfl ?_
    refine AK.val _ (Yl.pickT rfl (rfl) rfl) trivial rfl ?_
    refine AK.nil ?_
    refine AK.then_ (hK4 _ ?_)
    refine AK.cond_t rfl (rfl) ?_
    refine AK.seq (fun _ hK5 => ?_)
    refine AK.region ?_
    refine AK.val _ (Yl.assign rfl) trivial rfl ?_
    refine AK.nil ?_
    refine AK.then_ (hK5 _ ?_)
    refine AK.ret ?_
    refine AK.then_ret ?_
    refine AK.ret1 rfl rfl (fun w hw => ⟨_, _, ?_, rfl, Ret.of (hw.pick [] (by decide) rfl rfl)⟩)
    refine ⟨false, rfl, ⟨fun h => (by cases h), fun h => ?_⟩, rfl⟩
    exfalso
    have k1 := (errV_iff d).2 h.vd
    have k2 := (errV_iff m).2 h.vm
    have k3 := h.L
    have k4 := h.map.len
    have k5 := h.acc.len
    have k6 := h.tst.len
    first | (simp_all; done) | omega | (simp_all; omega)
  · have hg_2_3' := hg_2_3
    try simp only [decide_eq_true_eq, decide_eq_false_iff_not, Bool.not_eq_true', Bool.not_eq_false', Bool.not_not, ne_eq, Decidable.not_not, Int.not_lt, Int.not_le, beq_iff_eq, bne_iff_ne, Bool.and_eq_true, Bool.or_eq_true, Bool.or_eq_false_iff, Bool.not_false, Bool.not_true, reduceCtorEq, not_true_eq_false, not_false_eq_true] at hg_2_3'
    refine AK.val _ (Yl.loadBoxG ag25 rfl (by first | ((repeat (first | exact .hd | apply BoxS.tl | apply MapS.tl)); done) | assumption | exact BoxS.arg (by assumption)) rfl rfl) ⟨_, rfl, congrArg (fun b => some (Value.bool b)) hg_2_3⟩ rfl ?_
    refine AK.call co15 rfl (fun w hw => s_refvalidate w _ m (k0.at hw)) ⟨_, rfl, congrArg (fun b => some (Value.bool b)) hg_2_3⟩ rfl ?_
    rintro r o ⟨rfl, rfl⟩
    refine AK.val _ (Yl.neq rfl rfl) ⟨_, rfl, congrArg (fun b => some (Value.bool b)) hg_2_3⟩ rfl ?_
    refine AK.val _ (Yl.pickF rfl (hg_2_3) rfl) trivial rfl ?_
    refine AK.val _ (Yl.move rfl) trivial rfl ?_
    refine AK.splitB (g := 33) rfl (fun hg_2_8 => ?_) (fun hg_2_8 => ?_)
    · have hg_2_8' := hg_2_8
      try simp only [decide_eq_true_eq, decide_eq_false_iff_not, Bool.not_eq_true', Bool.not_eq_false', Bool.not_not, ne_eq, Decidable.not_not, Int.not_lt, Int.not_le, beq_iff_eq, bne_iff_ne, Bool.and_eq_true, Bool.or_eq_true, Bool.or_eq_false_iff, Bool.not_false, Bool.not_true, reduceCtorEq, not_true_eq_false, not_false_eq_true] at hg_2_8'
      refine AK.pass rfl rfl (hg_2_8) rfl ?_
      refine AK.pass rfl rfl (hg_2_8) rfl ?_
      refine AK.pass rfl rfl (hg_2_8) rfl ?_
      refine AK.pass rfl rfl (hg_2_8) rfl ?_
      refine AK.pass rfl rfl (hg_2_8) rfl ?_
      refine AK.val _ (Yl.pickT rfl (hg_2_8) rfl) trivial rfl ?_
      refine AK.val _ (Yl.move rfl) trivial rfl ?_
      refine AK.pass rfl rfl rfl rfl ?_
      refine AK.pass rfl rfl rfl rfl ?_
      refine AK.pass rfl rfl rfl rfl ?_
      refine AK.pass rfl rfl rfl rfl ?_
      refine AK.pass rfl rfl rfl rfl ?_
      refine AK.pass rfl rfl rfl rfl ?_
      refine AK.pass rfl rfl rfl rfl ?_
      refine AK.val _ (Yl.pickT rfl (rfl) rfl) trivial rfl ?_
      refine AK.val _ (Yl.move rfl) trivial rfl ?_
      refine AK.pass rfl rfl rfl rfl ?_
      refine AK.pass rfl rfl rfl rfl ?_
      refine AK.pass rfl rfl rfl rfl ?_
      refine AK.pass rfl rfl rfl rfl ?_
      refine AK.pass rfl rfl rfl rfl ?_
      refine AK.val _ (Yl.pickT rfl (rfl) rfl) trivial rfl ?_
      refine AK.val _ (Yl.move rfl) trivial rfl ?_
      refine AK.pass rfl rfl rfl rfl ?_
      refine AK.pass rfl rfl rfl rfl ?_
      refine AK.pass rfl rfl rfl rfl ?_
      refine AK.pass rfl rfl rfl rfl ?_
      refine AK.pass rfl rfl rfl rfl ?_
      refine AK.pass rfl rfl rfl rfl ?_
      refine AK.val _ (Yl.pickT rfl (rfl) rfl) trivial rfl ?_
      refine AK.nil ?_
      refine AK.then_ (hK4 _ ?_)
      refine AK.cond_t rfl (rfl) ?_
      refine AK.seq (fun _ hK6 => ?_)
      refine AK.region ?_
      refine AK.val _ (Yl.assign rfl) trivial rfl ?_
      refine AK.nil ?_
      refine AK.then_ (hK6 _ ?_)
      refine AK.ret ?_
      refine AK.then_ret ?_
      refine AK.ret1 rfl rfl (fun w hw => ⟨_, _, ?_, rfl, Ret.of (hw.pick [] (by decide) rfl rfl)⟩)
      refine ⟨false, rfl, ⟨fun h => (by cases h), fun h => ?_⟩, rfl⟩
      exfalso
      have k1 := (errV_iff d).2 h.vd
      have k2 := (errV_iff m).2 h.vm
      have k3 := h.L
      have k4 := h.map.len
      have k5 := h.acc.len
      have k6 := h.tst.len
      first | (simp_all; done) | omega | (simp_all; omega)
    · have hg_2_8' := hg_2_8
      try simp only [decide_eq_true_eq, decide_eq_false_iff_not, Bool.not_eq_true', Bool.not_eq_false', Bool.not_not, ne_eq, Decidable.not_not, Int.not_lt, Int.not_le, beq_iff_eq, bne_iff_ne, Bool.and_eq_true, Bool.or_eq_true, Bool.or_eq_false_iff, Bool.not_false, Bool.not_true, reduceCtorEq, not_true_eq_false, not_false_eq_true] at hg_2_8'
      refine AK.val _ (Yl.fieldAddr fd25_0 rfl) ⟨_, rfl, congrArg (fun b => some (Value.bool b)) hg_2_8⟩ rfl ?_
      refine AK.val _ (Yl.loadBox on3 rfl (by first | ((repeat (first | exact .hd | apply BoxS.tl | apply MapS.tl)); done) | assumption | exact BoxS.arg (by assumption)) rfl) ⟨_, rfl, congrArg (fun b => some (Value.bool b)) hg_2_8⟩ rfl ?_
      refine AK.val _ (Yl.fieldAddr fd25_0 rfl) ⟨_, rfl, congrArg (fun b => some (Value.bool b)) hg_2_8⟩ rfl ?_
      refine AK.val _ (Yl.loadBox on3 rfl (by first | ((repeat (first | exact .hd | apply BoxS.tl | apply MapS.tl)); done) | assumption | exact BoxS.arg (by assumption)) rfl) ⟨_, rfl, congrArg (fun b => some (Value.bool b)) hg_2_8⟩ rfl ?_
      refine AK.val _ (Yl.neq rfl rfl) ⟨_, rfl, congrArg (fun b => some (Value.bool b)) hg_2_8⟩ rfl ?_
      refine AK.val _ (Yl.pickF rfl (hg_2_8) rfl) trivial rfl ?_
      refine AK.val _ (Yl.move rfl) trivial rfl ?_
      refine AK.splitB (g := 40) rfl (fun hg_2_15 => ?_) (fun hg_2_15 => ?_)
      · have hg_2_15' := hg_2_15
        try simp only [decide_eq_true_eq, decide_eq_false_iff_not, Bool.not_eq_true', Bool.not_eq_false', Bool.not_not, ne_eq, Decidable.not_not, Int.not_lt, Int.not_le, beq_iff_eq, bne_iff_ne, Bool.and_eq_true, Bool.or_eq_true, Bool.or_eq_false_iff, Bool.not_false, Bool.not_true, reduceCtorEq, not_true_eq_false, not_false_eq_true] at hg_2_15'
        refine AK.pass rfl rfl (hg_2_15) rfl ?_
        refine AK.pass rfl rfl (hg_2_15) rfl ?_
        refine AK.pass rfl rfl (hg_2_15) rfl ?_
        refine AK.pass rfl rfl (hg_2_15) rfl ?_
        refine AK.pass rfl rfl (hg_2_15) rfl ?_
        refine AK.pass rfl rfl (hg_2_15) rfl ?_
        refine AK.pass rfl rfl (hg_2_15) rfl ?_
        refine AK.val _ (Yl.pickT rfl (hg_2_15) rfl) trivial rfl ?_
        refine AK.val _ (Yl.move rfl) trivial rfl ?_
        refine AK.pass rfl rfl rfl rfl ?_
        refine AK.pass rfl rfl rfl rfl ?_
        refine AK.pass rfl rfl rfl rfl ?_
        refine AK.pass rfl rfl rfl rfl ?_
        refine AK.pass rfl rfl rfl rfl ?_
        refine AK.val _ (Yl.pickT rfl (rfl) rfl) trivial rfl ?_
        refine AK.val _ (Yl.move rfl) trivial rfl ?_
        refine AK.pass rfl rfl rfl rfl ?_
        refine AK.pass rfl rfl rfl rfl ?_
        refine AK.pass rfl rfl rfl rfl ?_
        refine AK.pass rfl rfl rfl rfl ?_
        refine AK.pass rfl rfl rfl rfl ?_
        refine AK.pass rfl rfl rfl rfl ?_
        refine AK.val _ (Yl.pickT rfl (rfl) rfl) trivial rfl ?_
        refine AK.nil ?_
        refine AK.then_ (hK4 _ ?_)
        refine AK.cond_t rfl (rfl) ?_
        refine AK.seq (fun _ hK7 => ?_)
        refine AK.region ?_
        refine AK.val _ (Yl.assign rfl) trivial rfl ?_
        refine AK.nil ?_
        refine AK.then_ (hK7 _ ?_)
        refine AK.ret ?_
        refine AK.then_ret ?_
        refine AK.ret1 rfl rfl (fun w hw => ⟨_, _, ?_, rfl, Ret.of (hw.pick [] (by decide) rfl rfl)⟩)
        refine ⟨false, rfl, ⟨fun h => (by cases h), fun h => ?_⟩, rfl⟩
        exfalso
        have k1 := (errV_iff d).2 h.vd
        have k2 := (errV_iff m).2 h.vm
        have k3 := h.L
        have k4 := h.map.len
        have k5 := h.acc.len
        have k6 := h.tst.len
        first | (simp_all; done) | omega | (simp_all; omega)
      · have hg_2_15' := hg_2_15
        try simp only [decide_eq_true_eq, decide_eq_false_iff_not, Bool.not_eq_true', Bool.not_eq_false', Bool.not_not, ne_eq, Decidable.not_not, Int.not_lt, Int.not_le, beq_iff_eq, bne_iff_ne, Bool.and_eq_true, Bool.or_eq_true, Bool.or_eq_false_iff, Bool.not_false, Bool.not_true, reduceCtorEq, not_true_eq_false, not_false_eq_true] at hg_2_15'
        refine AK.val _ (Yl.fieldAddr fd51_0 rfl) ⟨_, rfl, congrArg (fun b => some (Value.bool b)) hg_2_15⟩ rfl ?_
        refine AK.val _ (Yl.loadBox on26 rfl (by first | ((repeat (first | exact .hd | apply BoxS.tl | apply MapS.tl)); done) | assumption | exact BoxS.arg (by assumption)) rfl) ⟨_, rfl, congrArg (fun b => some (Value.bool b)) hg_2_15⟩ rfl ?_
        refine AK.val _ (Yl.lenR sl26 rfl (by first | exact .arg ‹_› | ((repeat (first | exact .hd | apply RdS.tl)); done) | assumption | exact .arg (hNi _ (by omega)) | exact .arg (gNi _ (by omega)))) ⟨_, rfl, congrArg (fun b => some (Value.bool b)) hg_2_15⟩ rfl ?_
        refine AK.val _ (Yl.fieldAddr fd25_2 rfl) ⟨_, rfl, congrArg (fun b => some (Value.bool b)) hg_2_15⟩ rfl ?_
        refine AK.val _ (Yl.loadBox on22 rfl (by first | ((repeat (first | exact .hd | apply BoxS.tl | apply MapS.tl)); done) | assumption | exact BoxS.arg (by assumption)) rfl) ⟨_, rfl, congrArg (fun b => some (Value.bool b)) hg_2_15⟩ rfl ?_
        refine AK.val _ (Yl.lenR sl22 rfl (by first | exact .arg ‹_› | ((repeat (first | exact .hd | apply RdS.tl)); done) | assumption | exact .arg (hNi _ (by omega)) | exact .arg (gNi _ (by omega)))) ⟨_, rfl, congrArg (fun b => some (Value.bool b)) hg_2_15⟩ rfl ?_
        refine AK.val _ (Yl.neq rfl rfl) ⟨_, rfl, congrArg (fun b => some (Value.bool b)) hg_2_15⟩ rfl ?_
        refine AK.val _ (Yl.pickF rfl (hg_2_15) rfl) trivial rfl ?_
        refine AK.val _ (Yl.move rfl) trivial rfl ?_
        refine AK.splitB (g := 49) rfl (fun hg_2_24 => ?_) (fun hg_2_24 => ?_)
        · have hg_2_24' := hg_2_24
          try simp only [decide_eq_true_eq, decide_eq_false_iff_not, Bool.not_eq_true', Bool.not_eq_false', Bool.not_not, ne_eq, Decidable.not_not, Int.not_lt, Int.not_le, beq_iff_eq, bne_iff_ne, Bool.and_eq_true, Bool.or_eq_true, Bool.or_eq_false_iff, Bool.not_false, Bool.not_true, reduceCtorEq, not_true_eq_false, not_false_eq_true] at hg_2_24'
          refine AK.pass rfl rfl (hg_2_24) rfl ?_
          refine AK.pass rfl rfl (hg_2_24) rfl ?_
          refine AK.pass rfl rfl (hg_2_24) rfl ?_
          refine AK.pass rfl rfl (hg_2_24) rfl ?_
          refine AK.pass rfl rfl (hg_2_24) rfl ?_
          refine AK.val _ (Yl.pickT rfl (hg_2_24) rfl) trivial rfl ?_
          refine AK.val _ (Yl.move rfl) trivial rfl ?_
          refine AK.pass rfl rfl rfl rfl ?_
          refine AK.pass rfl rfl rfl rfl ?_
          refine AK.pass rfl rfl rfl rfl ?_
          refine AK.pass rfl rfl rfl rfl ?_
          refine AK.pass rfl rfl rfl rfl ?_
          refine AK.pass rfl rfl rfl rfl ?_
          refine AK.val _ (Yl.pickT rfl (rfl) rfl) trivial rfl ?_
          refine AK.nil ?_
          refine AK.then_ (hK4 _ ?_)
          refine AK.cond_t rfl (rfl) ?_
          refine AK.seq (fun _ hK8 => ?_)
          refine AK.region ?_
          refine AK.val _ (Yl.assign rfl) trivial rfl ?_
          refine AK.nil ?_
          refine AK.then_ (hK8 _ ?_)
          refine AK.ret ?_
          refine AK.then_ret ?_
          refine AK.ret1 rfl rfl (fun w hw => ⟨_, _, ?_, rfl, Ret.of (hw.pick [] (by decide) rfl rfl)⟩)
          refine ⟨false, rfl, ⟨fun h => (by cases h), fun h => ?_⟩, rfl⟩
          exfalso
          have k1 := (errV_iff d).2 h.vd
          have k2 := (errV_iff m).2 h.vm
          have k3 := h.L
          have k4 := h.map.len
          have k5 := h.acc.len
          have k6 := h.tst.len
          first | (simp_all; done) | omega | (simp_all; omega)
        · have hg_2_24' := hg_2_24
          try simp only [decide_eq_true_eq, decide_eq_false_iff_not, Bool.not_eq_true', Bool.not_eq_false', Bool.not_not, ne_eq, Decidable.not_not, Int.not_lt, Int.not_le, beq_iff_eq, bne_iff_ne, Bool.and_eq_true, Bool.or_eq_true, Bool.or_eq_false_iff, Bool.not_false, Bool.not_true, reduceCtorEq, not_true_eq_false, not_false_eq_true] at hg_2_24'
          refine AK.val _ (Yl.fieldAddr fd51_1 rfl) ⟨_, rfl, congrArg (fun b => some (Value.bool b)) hg_2_24⟩ rfl ?_
          refine AK.val _ (Yl.loadBox on49 rfl (by first | ((repeat (first | exact .hd | apply BoxS.tl | apply MapS.tl)); done) | assumption | exact BoxS.arg (by assumption)) rfl) ⟨_, rfl, congrArg (fun b => some (Value.bool b)) hg_2_24⟩ rfl ?_
          refine AK.val _ (Yl.lenR sl49 rfl (by first | exact .arg ‹_› | ((repeat (first | exact .hd | apply RdS.tl)); done) | assumption | exact .arg (hNi _ (by omega)) | exact .arg (gNi _ (by omega)))) ⟨_, rfl, congrArg (fun b => some (Value.bool b)) hg_2_24⟩ rfl ?_
          refine AK.val _ (Yl.move rfl) ⟨_, rfl, congrArg (fun b => some (Value.bool b)) hg_2_24⟩ rfl ?_
          refine AK.val _ (Yl.neq rfl rfl) ⟨_, rfl, congrArg (fun b => some (Value.bool b)) hg_2_24⟩ rfl ?_
          refine AK.val _ (Yl.pickF rfl (hg_2_24) rfl) trivial rfl ?_
          refine AK.val _ (Yl.move rfl) trivial rfl ?_
          refine AK.splitB (g := 56) rfl (fun hg_2_31 => ?_) (fun hg_2_31 => ?_)
          · have hg_2_31' := hg_2_31
            try simp only [decide_eq_true_eq, decide_eq_false_iff_not, Bool.not_eq_true', Bool.not_eq_false', Bool.not_not, ne_eq, Decidable.not_not, Int.not_lt, Int.not_le, beq_iff_eq, bne_iff_ne, Bool.and_eq_true, Bool.or_eq_true, Bool.or_eq_false_iff, Bool.not_false, Bool.not_true, reduceCtorEq, not_true_eq_false, not_false_eq_true] at hg_2_31'
            refine AK.pass rfl rfl (hg_2_31) rfl ?_
            refine AK.pass rfl rfl (hg_2_31) rfl ?_
            refine AK.pass rfl rfl (hg_2_31) rfl ?_
            refine AK.pass rfl rfl (hg_2_31) rfl ?_
            refine AK.pass rfl rfl (hg_2_31) rfl ?_
            refine AK.pass rfl rfl (hg_2_31) rfl ?_
            refine AK.val _ (Yl.pickT rfl (hg_2_31) rfl) trivial rfl ?_
            refine AK.nil ?_
            refine AK.then_ (hK4 _ ?_)
            refine AK.cond_t rfl (rfl) ?_
            refine AK.seq (fun _ hK9 => ?_)
            refine AK.region ?_
            refine AK.val _ (Yl.assign rfl) trivial rfl ?_
            refine AK.nil ?_
            refine AK.then_ (hK9 _ ?_)
            refine AK.ret ?_
            refine AK.then_ret ?_
            refine AK.ret1 rfl rfl (fun w hw => ⟨_, _, ?_, rfl, Ret.of (hw.pick [] (by decide) rfl rfl)⟩)
            refine ⟨false, rfl, ⟨fun h => (by cases h), fun h => ?_⟩, rfl⟩
            exfalso
            have k1 := (errV_iff d).2 h.vd
            have k2 := (errV_iff m).2 h.vm
            have k3 := h.L
            have k4 := h.map.len
            have k5 := h.acc.len
            have k6 := h.tst.len
            first | (simp_all; done) | omega | (simp_all; omega)
          · have hg_2_31' := hg_2_31
            try simp only [decide_eq_true_eq, decide_eq_false_iff_not, Bool.not_eq_true', Bool.not_eq_false', Bool.not_not, ne_eq, Decidable.not_not, Int.not_lt, Int.not_le, beq_iff_eq, bne_iff_ne, Bool.and_eq_true, Bool.or_eq_true, Bool.or_eq_false_iff, Bool.not_false, Bool.not_true, reduceCtorEq, not_true_eq_false, not_false_eq_true] at hg_2_31'
            refine AK.val _ (Yl.fieldAddr fd51_2 rfl) ⟨_, rfl, congrArg (fun b => some (Value.bool b)) hg_2_31⟩ rfl ?_
            refine AK.val _ (Yl.loadBox on49 rfl (by first | ((repeat (first | exact .hd | apply BoxS.tl | apply MapS.tl)); done) | assumption | exact BoxS.arg (by assumption)) rfl) ⟨_, rfl, congrArg (fun b => some (Value.bool b)) hg_2_31⟩ rfl ?_
            refine AK.val _ (Yl.lenR sl49 rfl (by first | exact .arg ‹_› | ((repeat (first | exact .hd | apply RdS.tl)); done) | assumption | exact .arg (hNi _ (by omega)) | exact .arg (gNi _ (by omega)))) ⟨_, rfl, congrArg (fun b => some (Value.bool b)) hg_2_31⟩ rfl ?_
            refine AK.val _ (Yl.move rfl) ⟨_, rfl, congrArg (fun b => some (Value.bool b)) hg_2_31⟩ rfl ?_
            refine AK.val _ (Yl.sub rfl rfl (by omega)) ⟨_, rfl, congrArg (fun b => some (Value.bool b)) hg_2_31⟩ rfl ?_
            refine AK.val _ (Yl.gtr rfl rfl) ⟨_, rfl, congrArg (fun b => some (Value.bool b)) hg_2_31⟩ rfl ?_
            refine AK.val _ (Yl.pickF rfl (hg_2_31) rfl) trivial rfl ?_
            refine AK.nil ?_
            refine AK.then_ (hK4 _ ?_)
            refine AK.condD rfl (fun hc0 => ?_) (fun hc0 => ?_)
            · refine AK.seq (fun _ hK10 => ?_)
              refine AK.region ?_
              refine AK.val _ (Yl.assign rfl) trivial rfl ?_
              refine AK.nil ?_
              refine AK.then_ (hK10 _ ?_)
              refine AK.ret ?_
              refine AK.then_ret ?_
              refine AK.ret1 rfl rfl (fun w hw => ⟨_, _, ?_, rfl, Ret.of (hw.pick [] (by decide) rfl rfl)⟩)
              refine ⟨false, rfl, ⟨fun h => (by cases h), fun h => ?_⟩, rfl⟩
              exfalso
              have k1 := (errV_iff d).2 h.vd
              have k2 := (errV_iff m).2 h.vm
              have k3 := h.L
              have k4 := h.map.len
              have k5 := h.acc.len
              have k6 := h.tst.len
              first | (simp_all; done) | omega | (simp_all; omega)
            · have hv : VD d := (errV_iff d).1 (by simpa using hg_2_3')
              have hvm : VD m := (errV_iff m).1 (by simpa using hg_2_8')
              have hLL : d.L = m.L := by simpa using hg_2_15'
              have hml : mp.length = d.fin.length := by omega
              have hal1 : ac.length = m.fin.length := by omega
              have htl1 : ts.length + 1 ≤ m.fin.length := by omega
              have hdL := hv.L
              have hdnx := hv.nx
              have hdn := hv.n
              have hds := hv.s
              have hmL := hvm.L
              have hmnx := hvm.nx
              have hmn5 := hvm.n
              have hms := hvm.s
              refine AK.skip ?_
              refine AK.then_ (hK3 _ ?_)
              refine AK.seq (fun _ hK11 => ?_)
              refine AK.seq (fun _ hK12 => ?_)
              refine AK.region ?_
              refine AK.val _ (Yl.fieldAddr fd51_0 rfl) trivial rfl ?_
              refine AK.val _ (Yl.loadBox on26 rfl (by first | ((repeat (first | exact .hd | apply BoxS.tl | apply MapS.tl)); done) | assumption | exact BoxS.arg (by assumption)) rfl) trivial rfl ?_
              refine AK.val _ (Yl.lenR sl26 rfl (by first | exact .arg ‹_› | ((repeat (first | exact .hd | apply RdS.tl)); done) | assumption | exact .arg (hNi _ (by omega)) | exact .arg (gNi _ (by omega)))) trivial rfl ?_
              refine AK.val _ (Yl.move rfl) trivial rfl ?_
              refine AK.nil ?_
              refine AK.then_ (hK12 _ ?_)
              refine AK.block ?_
              refine AK.loopK (X := Nat) [(3, _), (4, _), (5, _), (7, _), (65, _), (66, _)] (fun j => [(67, .int .i64 (j : Int))]) (fun j => [box bx3 25 4 [.int .i64 d.L, .int .i64 d.s, vF, vN], box bx4 25 4 [.int .i64 m.L, .int .i64 m.s, uF, uN], box bx5 51 3 [vp, va, vt]]) (fun j => j ≤ mp.length ∧ ∀ i, i < j → -1 ≤ mp.getD i 0 ∧ mp.getD i 0 < m.fin.length) (fun j => mp.length - j) (0) (.cons rfl (.cons rfl (.cons rfl (.cons rfl (.cons rfl (.cons rfl (.nil))))))) ?_ ?_ ?_ ?_
              · exact ⟨Nat.zero_le _, fun i hi => (by cases hi)⟩
              · exact .cons (rfl) (.nil)
              · exact fun w hw => hw
              · intro j hg0 _ hK13
                refine AK.seq (fun _ hK14 => ?_)
                refine AK.region ?_
                refine AK.val _ (Yl.lss rfl rfl) trivial rfl ?_
                refine AK.nil ?_
                refine AK.then_ (hK14 _ ?_)
                refine AK.seq (fun _ hK15 => ?_)
                refine AK.condD rfl (fun hc1 => ?_) (fun hc1 => ?_)
                · refine AK.skip ?_
                  refine AK.then_ (hK15 _ ?_)
                  refine AK.seq (fun _ hK16 => ?_)
                  refine AK.block ?_
                  refine AK.seq (fun _ hK17 => ?_)
                  refine AK.region ?_
                  first | refine AK.val _ (Yl.idxN sl26 rfl rfl (by first | exact .arg ‹_› | ((repeat (first | exact .hd | apply RdS.tl)); done) | assumption | exact .arg (hNi _ (by omega)) | exact .arg (gNi _ (by omega))) (by decide) (by omega)) trivial rfl ?_ | refine AK.val _ (Yl.idx sl26 rfl rfl (by first | exact .arg ‹_› | ((repeat (first | exact .hd | apply RdS.tl)); done) | assumption | exact .arg (hNi _ (by omega)) | exact .arg (gNi _ (by omega))) (by decide) (by omega)) trivial rfl ?_ | refine AK.val _ (Yl.idxK sl26 rfl rfl (by first | exact .arg ‹_› | ((repeat (first | exact .hd | apply RdS.tl)); done) | assumption | exact .arg (hNi _ (by omega)) | exact .arg (gNi _ (by omega))) (by decide) (by omega)) trivial rfl ?_
                  refine AK.val _ (Yl.loadI on3 rfl (by first | exact .arg ‹_› | ((repeat (first | exact .hd | apply RdS.tl)); done) | assumption | exact .arg (hNi _ (by omega)) | exact .arg (gNi _ (by omega))) (by omega)) trivial rfl ?_
                  refine AK.val _ (Yl.assign rfl) trivial rfl ?_
                  refine AK.nil ?_
                  refine AK.then_ (hK17 _ ?_)
                  refine AK.seq (fun _ hK18 => ?_)
                  refine AK.region ?_
                  refine AK.val _ (Yl.move rfl) trivial rfl ?_
                  refine AK.val _ (Yl.lss rfl rfl) trivial rfl ?_
                  refine AK.val _ (Yl.move rfl) trivial rfl ?_
                  refine AK.splitB (g := 73) rfl (fun hg_7_2 => ?_) (fun hg_7_2 => ?_)
                  · have hg_7_2' := hg_7_2
                    try simp only [decide_eq_true_eq, decide_eq_false_iff_not, Bool.not_eq_true', Bool.not_eq_false', Bool.not_not, ne_eq, Decidable.not_not, Int.not_lt, Int.not_le, beq_iff_eq, bne_iff_ne, Bool.and_eq_true, Bool.or_eq_true, Bool.or_eq_false_iff, Bool.not_false, Bool.not_true, reduceCtorEq, not_true_eq_false, not_false_eq_true] at hg_7_2'
                    refine AK.pass rfl rfl (hg_7_2) rfl ?_
                    refine AK.pass rfl rfl (hg_7_2) rfl ?_
                    refine AK.pass rfl rfl (hg_7_2) rfl ?_
                    refine AK.val _ (Yl.pickT rfl (hg_7_2) rfl) trivial rfl ?_
                    refine AK.nil ?_
                    refine AK.then_ (hK18 _ ?_)
                    refine AK.cond_t rfl (rfl) ?_
                    refine AK.seq (fun _ hK19 => ?_)
                    refine AK.region ?_
                    refine AK.val _ (Yl.assign rfl) trivial rfl ?_
                    refine AK.nil ?_
                    refine AK.then_ (hK19 _ ?_)
                    refine AK.ret ?_
                    refine AK.block_ret ?_
                    refine AK.then_ret ?_
                    refine AK.then_ret ?_
                    refine AK.block_ret ?_
                    refine AK.then_ret ?_
                    refine AK.ret1 rfl rfl (fun w hw => ⟨_, _, ?_, rfl, Ret.of (hw.pick [] (by decide) rfl rfl)⟩)
                    refine ⟨false, rfl, ⟨fun h => (by cases h), fun h => ?_⟩, rfl⟩
                    exfalso
                    have h1 := h.map.bd j (by omega)
                    omega
                  · have hg_7_2' := hg_7_2
                    try simp only [decide_eq_true_eq, decide_eq_false_iff_not, Bool.not_eq_true', Bool.not_eq_false', Bool.not_not, ne_eq, Decidable.not_not, Int.not_lt, Int.not_le, beq_iff_eq, bne_iff_ne, Bool.and_eq_true, Bool.or_eq_true, Bool.or_eq_false_iff, Bool.not_false, Bool.not_true, reduceCtorEq, not_true_eq_false, not_false_eq_true] at hg_7_2'
                    refine AK.val _ (Yl.move rfl) ⟨_, rfl, congrArg (fun b => some (Value.bool b)) hg_7_2⟩ rfl ?_
                    refine AK.val _ (Yl.move rfl) ⟨_, rfl, congrArg (fun b => some (Value.bool b)) hg_7_2⟩ rfl ?_
                    refine AK.val _ (Yl.geq rfl rfl) ⟨_, rfl, congrArg (fun b => some (Value.bool b)) hg_7_2⟩ rfl ?_
                    refine AK.val _ (Yl.pickF rfl (hg_7_2) rfl) trivial rfl ?_
                    refine AK.nil ?_
                    refine AK.then_ (hK18 _ ?_)
                    refine AK.condD rfl (fun hc2 => ?_) (fun hc2 => ?_)
                    · refine AK.seq (fun _ hK20 => ?_)
                      refine AK.region ?_
                      refine AK.val _ (Yl.assign rfl) trivial rfl ?_
                      refine AK.nil ?_
                      refine AK.then_ (hK20 _ ?_)
                      refine AK.ret ?_
                      refine AK.block_ret ?_
                      refine AK.then_ret ?_
                      refine AK.then_ret ?_
                      refine AK.block_ret ?_
                      refine AK.then_ret ?_
                      refine AK.ret1 rfl rfl (fun w hw => ⟨_, _, ?_, rfl, Ret.of (hw.pick [] (by decide) rfl rfl)⟩)
                      refine ⟨false, rfl, ⟨fun h => (by cases h), fun h => ?_⟩, rfl⟩
                      exfalso
                      have h1 := h.map.bd j (by omega)
                      omega
                    · refine AK.skip ?_
                      refine AK.block_normal ?_
                      refine AK.then_ (hK16 _ ?_)
                      refine AK.region ?_
                      refine AK.val _ (Yl.add rfl rfl (by omega)) trivial rfl ?_
                      refine AK.val _ (Yl.move rfl) trivial rfl ?_
                      refine AK.nil ?_
                      refine AK.then_ (hK13 _ _ (j + 1) ⟨by omega, all_succ hg0.2 (by omega)⟩ (by omega) (.cons (rfl) (.cons rfl (.cons rfl (.cons rfl (.cons rfl (.cons rfl (.cons rfl (.nil)))))))) (fun w hw => hw))
                · have hbd : ∀ i, i < mp.length → -1 ≤ mp.getD i 0 ∧ mp.getD i 0 < m.fin.length := fun i hi => hg0.2 i (by omega)
                  refine AK.exit ?_
                  refine AK.then_exit ?_
                  refine AK.then_exit ?_
                  refine AK.block_exit ?_
                  refine AK.then_ (hK11 _ ?_)
                  refine AK.seq (fun _ hK21 => ?_)
                  refine AK.seq (fun _ hK22 => ?_)
                  refine AK.quiet mixed (by kernel_rfl) ?_
                  refine QK.val _ (Yl.fieldAddr fd51_0 rfl) trivial rfl ?_
                  refine QK.val _ (Yl.loadBox on26 rfl (by first | ((repeat (first | exact .hd | apply BoxS.tl | apply MapS.tl)); done) | assumption | exact BoxS.arg (by assumption)) rfl) trivial rfl ?_
                  refine QK.val _ (Yl.fieldAddr fd25_1 rfl) trivial rfl ?_
                  refine QK.val _ (Yl.loadBox on3 rfl (by first | ((repeat (first | exact .hd | apply BoxS.tl | apply MapS.tl)); done) | assumption | exact BoxS.arg (by assumption)) rfl) trivial rfl ?_
                  first | refine QK.val _ (Yl.idxN sl26 rfl rfl (by first | exact .arg ‹_› | ((repeat (first | exact .hd | apply RdS.tl)); done) | assumption | exact .arg (hNi _ (by omega)) | exact .arg (gNi _ (by omega))) (by decide) (by omega)) trivial rfl ?_ | refine QK.val _ (Yl.idx sl26 rfl rfl (by first | exact .arg ‹_› | ((repeat (first | exact .hd | apply RdS.tl)); done) | assumption | exact .arg (hNi _ (by omega)) | exact .arg (gNi _ (by omega))) (by decide) (by omega)) trivial rfl ?_ | refine QK.val _ (Yl.idxK sl26 rfl rfl (by first | exact .arg ‹_› | ((repeat (first | exact .hd | apply RdS.tl)); done) | assumption | exact .arg (hNi _ (by omega)) | exact .arg (gNi _ (by omega))) (by decide) (by omega)) trivial rfl ?_
                  refine QK.val _ (Yl.loadI on3 rfl (by first | exact .arg ‹_› | ((repeat (first | exact .hd | apply RdS.tl)); done) | assumption | exact .arg (hNi _ (by omega)) | exact .arg (gNi _ (by omega))) (by omega)) trivial rfl ?_
                  refine QK.val _ (Yl.fieldAddr fd25_1 rfl) trivial rfl ?_
                  refine QK.val _ (Yl.loadBox on3 rfl (by first | ((repeat (first | exact .hd | apply BoxS.tl | apply MapS.tl)); done) | assumption | exact BoxS.arg (by assumption)) rfl) trivial rfl ?_
                  refine QK.val _ (Yl.neq rfl rfl) trivial rfl ?_
                  refine QK.nil (QK.fin ?_)
                  refine AK.then_ (hK22 _ ?_)
                  refine AK.condNe rfl (fun hc3 => ?_) (fun hc3 => ?_)
                  · refine AK.seq (fun _ hK23 => ?_)
                    refine AK.region ?_
                    refine AK.val _ (Yl.assign rfl) trivial rfl ?_
                    refine AK.nil ?_
                    refine AK.then_ (hK23 _ ?_)
                    refine AK.ret ?_
                    refine AK.then_ret ?_
                    refine AK.ret1 rfl rfl (fun w hw => ⟨_, _, ?_, rfl, Ret.of (hw.pick [] (by decide) rfl rfl)⟩)
                    refine ⟨false, rfl, ⟨fun h => (by cases h), fun h => ?_⟩, rfl⟩
                    exfalso
                    have h2 := h.map.st
                    first | omega | exact hc3 h2
                  · have hst0 : mp.getD d.s.toNat 0 = m.s := by first | exact hc3 | exact Classical.not_not.1 hc3 | omega
                    refine AK.skip ?_
                    refine AK.then_ (hK21 _ ?_)
                    refine AK.seq (fun _ hK24 => ?_)
                    refine AK.seq (fun _ hK25 => ?_)
                    refine AK.region ?_
                    refine AK.val _ (Yl.fieldAddr fd51_0 rfl) trivial rfl ?_
                    refine AK.val _ (Yl.loadBox on26 rfl (by first | ((repeat (first | exact .hd | apply BoxS.tl | apply MapS.tl)); done) | assumption | exact BoxS.arg (by assumption)) rfl) trivial rfl ?_
                    refine AK.val _ (Yl.lenR sl26 rfl (by first | exact .arg ‹_› | ((repeat (first | exact .hd | apply RdS.tl)); done) | assumption | exact .arg (hNi _ (by omega)) | exact .arg (gNi _ (by omega)))) trivial rfl ?_
                    refine AK.val _ (Yl.move rfl) trivial rfl ?_
                    refine AK.nil ?_
                    refine AK.then_ (hK25 _ ?_)
                    refine AK.block ?_
                    refine AK.loopK (X := Nat) [(3, _), (4, _), (5, _), (7, _), (89, _), (90, _)] (fun q => [(91, .int .i64 (q : Int))]) (fun q => [box bx3 25 4 [.int .i64 d.L, .int .i64 d.s, vF, vN], box bx4 25 4 [.int .i64 m.L, .int .i64 m.s, uF, uN], box bx5 51 3 [vp, va, vt]]) (fun q => q ≤ mp.length ∧ ∀ i, i < q → HomAt d m mp i) (fun q => mp.length - q) (0) (.cons rfl (.cons rfl (.cons rfl (.cons rfl (.cons rfl (.cons rfl (.nil))))))) ?_ ?_ ?_ ?_
                    · exact ⟨Nat.zero_le _, fun i hi => (by cases hi)⟩
                    · exact .cons (rfl) (.nil)
                    · exact fun w hw => hw
                    · intro q hg1 _ hK26
                      refine AK.seq (fun _ hK27 => ?_)
                      refine AK.region ?_
                      refine AK.val _ (Yl.lss rfl rfl) trivial rfl ?_
                      refine AK.nil ?_
                      refine AK.then_ (hK27 _ ?_)
                      refine AK.seq (fun _ hK28 => ?_)
                      refine AK.condD rfl (fun hc4 => ?_) (fun hc4 => ?_)
                      · have hqn : q < d.fin.length := by omega
                        have hrw := hv.row q hqn
                        have hbq := hbd q (by omega)
                        refine AK.skip ?_
                        refine AK.then_ (hK28 _ ?_)
                        refine AK.seq (fun _ hK29 => ?_)
                        refine AK.block ?_
                        refine AK.seq (fun _ hK30 => ?_)
                        refine AK.region ?_
                        refine AK.val _ (Yl.move rfl) trivial rfl ?_
                        first | refine AK.val _ (Yl.idxN sl26 rfl rfl (by first | exact .arg ‹_› | ((repeat (first | exact .hd | apply RdS.tl)); done) | assumption | exact .arg (hNi _ (by omega)) | exact .arg (gNi _ (by omega))) (by decide) (by omega)) trivial rfl ?_ | refine AK.val _ (Yl.idx sl26 rfl rfl (by first | exact .arg ‹_› | ((repeat (first | exact .hd | apply RdS.tl)); done) | assumption | exact .arg (hNi _ (by omega)) | exact .arg (gNi _ (by omega))) (by decide) (by omega)) trivial rfl ?_ | refine AK.val _ (Yl.idxK sl26 rfl rfl (by first | exact .arg ‹_› | ((repeat (first | exact .hd | apply RdS.tl)); done) | assumption | exact .arg (hNi _ (by omega)) | exact .arg (gNi _ (by omega))) (by decide) (by omega)) trivial rfl ?_
                        refine AK.val _ (Yl.loadI on3 rfl (by first | exact .arg ‹_› | ((repeat (first | exact .hd | apply RdS.tl)); done) | assumption | exact .arg (hNi _ (by omega)) | exact .arg (gNi _ (by omega))) (by omega)) trivial rfl ?_
                        refine AK.val _ (Yl.assign rfl) trivial rfl ?_
                        refine AK.val _ (Yl.assign rfl) trivial rfl ?_
                        refine AK.nil ?_
                        refine AK.then_ (hK30 _ ?_)
                        refine AK.seq (fun _ hK31 => ?_)
                        refine AK.seq (fun _ hK32 => ?_)
                        refine AK.region ?_
                        refine AK.val _ (Yl.move rfl) trivial rfl ?_
                        refine AK.val _ (Yl.lss rfl rfl) trivial rfl ?_
                        refine AK.nil ?_
                        refine AK.then_ (hK32 _ ?_)
                        refine AK.condD rfl (fun hc5 => ?_) (fun hc5 => ?_)
                        · refine AK.exit ?_
                          refine AK.then_exit ?_
                          refine AK.block_exit ?_
                          refine AK.then_ (hK29 _ ?_)
                          refine AK.region ?_
                          refine AK.val _ (Yl.add rfl rfl (by omega)) trivial rfl ?_
                          refine AK.val _ (Yl.move rfl) trivial rfl ?_
                          refine AK.nil ?_
                          first | refine AK.then_ (hK26 _ _ (q + 1) ⟨by omega, all_succ hg1.2 (fun h0 => by omega)⟩ (by omega) (.cons (rfl) (.cons rfl (.cons rfl (.cons rfl (.cons rfl (.cons rfl (.cons rfl (.nil)))))))) (fun w hw => hw)) | refine AK.then_ (hK26 _ _ (q + 1) ⟨by omega, all_succ hg1.2 (fun _ => ⟨hfe, fun x hx => hg2.2 x (by omega)⟩)⟩ (by omega) (.cons (rfl) (.cons rfl (.cons rfl (.cons rfl (.cons rfl (.cons rfl (.cons rfl (.nil)))))))) (fun w hw => hw))
                        · refine AK.skip ?_
                          refine AK.then_ (hK31 _ ?_)
                          refine AK.seq (fun _ hK33 => ?_)
                          refine AK.seq (fun _ hK34 => ?_)
                          refine AK.quiet mixed (by kernel_rfl) ?_
                          refine QK.val _ (Yl.fieldAddr fd25_2 rfl) trivial rfl ?_
                          refine QK.val _ (Yl.loadBox on22 rfl (by first | ((repeat (first | exact .hd | apply BoxS.tl | apply MapS.tl)); done) | assumption | exact BoxS.arg (by assumption)) rfl) trivial rfl ?_
                          refine QK.val _ (Yl.move rfl) trivial rfl ?_
                          first | refine QK.val _ (Yl.idxN sl22 rfl rfl (by first | exact .arg ‹_› | ((repeat (first | exact .hd | apply RdS.tl)); done) | assumption | exact .arg (hNi _ (by omega)) | exact .arg (gNi _ (by omega))) (by decide) (by omega)) trivial rfl ?_ | refine QK.val _ (Yl.idx sl22 rfl rfl (by first | exact .arg ‹_› | ((repeat (first | exact .hd | apply RdS.tl)); done) | assumption | exact .arg (hNi _ (by omega)) | exact .arg (gNi _ (by omega))) (by decide) (by omega)) trivial rfl ?_ | refine QK.val _ (Yl.idxK sl22 rfl rfl (by first | exact .arg ‹_› | ((repeat (first | exact .hd | apply RdS.tl)); done) | assumption | exact .arg (hNi _ (by omega)) | exact .arg (gNi _ (by omega))) (by decide) (by omega)) trivial rfl ?_
                          refine QK.val _ (Yl.loadB on4 rfl (by first | exact .arg ‹_› | ((repeat (first | exact .hd | apply RdS.tl)); done) | assumption | exact .arg (hNi _ (by omega)) | exact .arg (gNi _ (by omega))) (by omega)) trivial rfl ?_
                          refine QK.val _ (Yl.fieldAddr fd25_2 rfl) trivial rfl ?_
                          refine QK.val _ (Yl.loadBox on22 rfl (by first | ((repeat (first | exact .hd | apply BoxS.tl | apply MapS.tl)); done) | assumption | exact BoxS.arg (by assumption)) rfl) trivial rfl ?_
                          refine QK.val _ (Yl.move rfl) trivial rfl ?_
                          first | refine QK.val _ (Yl.idxN sl22 rfl rfl (by first | exact .arg ‹_› | ((repeat (first | exact .hd | apply RdS.tl)); done) | assumption | exact .arg (hNi _ (by omega)) | exact .arg (gNi _ (by omega))) (by decide) (by omega)) trivial rfl ?_ | refine QK.val _ (Yl.idx sl22 rfl rfl (by first | exact .arg ‹_› | ((repeat (first | exact .hd | apply RdS.tl)); done) | assumption | exact .arg (hNi _ (by omega)) | exact .arg (gNi _ (by omega))) (by decide) (by omega)) trivial rfl ?_ | refine QK.val _ (Yl.idxK sl22 rfl rfl (by first | exact .arg ‹_› | ((repeat (first | exact .hd | apply RdS.tl)); done) | assumption | exact .arg (hNi _ (by omega)) | exact .arg (gNi _ (by omega))) (by decide) (by omega)) trivial rfl ?_
                          refine QK.val _ (Yl.loadB on4 rfl (by first | exact .arg ‹_› | ((repeat (first | exact .hd | apply RdS.tl)); done) | assumption | exact .arg (hNi _ (by omega)) | exact .arg (gNi _ (by omega))) (by omega)) trivial rfl ?_
                          refine QK.val _ (Yl.neqB bo4 rfl rfl) trivial rfl ?_
                          refine QK.nil (QK.fin ?_)
                          refine AK.then_ (hK34 _ ?_)
                          refine AK.cond rfl (fun hc6 => ?_) (fun hc6 => ?_)
                          · try simp only [decide_eq_true_eq, decide_eq_false_iff_not, Bool.not_eq_true', Bool.not_eq_false', Bool.not_not, ne_eq, Decidable.not_not, Int.not_lt, Int.not_le, beq_iff_eq, bne_iff_ne, Bool.and_eq_true, Bool.or_eq_true, Bool.or_eq_false_iff, Bool.not_false, Bool.not_true, reduceCtorEq, not_true_eq_false, not_false_eq_true] at hc6
                            refine AK.seq (fun _ hK35 => ?_)
                            refine AK.region ?_
                            refine AK.val _ (Yl.assign rfl) trivial rfl ?_
                            refine AK.nil ?_
                            refine AK.then_ (hK35 _ ?_)
                            refine AK.ret ?_
                            refine AK.then_ret ?_
                            refine AK.block_ret ?_
                            refine AK.then_ret ?_
                            refine AK.then_ret ?_
                            refine AK.block_ret ?_
                            refine AK.then_ret ?_
                            refine AK.ret1 rfl rfl (fun w hw => ⟨_, _, ?_, rfl, Ret.of (hw.pick [] (by decide) rfl rfl)⟩)
                            refine ⟨false, rfl, ⟨fun h => (by cases h), fun h => ?_⟩, rfl⟩
                            exfalso
                            have h1 := (h.map.at hqn (by omega)).1
                            unfold finQ at h1
                            rw [Int.toNat_natCast] at h1
                            first | (simp [h1] at hc6; done) | (rw [h1] at hc6; simp at hc6)
                          · try simp only [decide_eq_true_eq, decide_eq_false_iff_not, Bool.not_eq_true', Bool.not_eq_false', Bool.not_not, ne_eq, Decidable.not_not, Int.not_lt, Int.not_le, beq_iff_eq, bne_iff_ne, Bool.and_eq_true, Bool.or_eq_true, Bool.or_eq_false_iff, Bool.not_false, Bool.not_true, reduceCtorEq, not_true_eq_false, not_false_eq_true] at hc6
                            have hfe : finQ d (q : Int) = finQ m (mp.getD q 0) := by unfold finQ; rw [Int.toNat_natCast]; simpa using hc6
                            have hrm := hvm.row (mp.getD q 0).toNat (by omega)
                            refine AK.skip ?_
                            refine AK.then_ (hK33 _ ?_)
                            refine AK.seq (fun _ hK36 => ?_)
                            refine AK.region ?_
                            refine AK.val _ (Yl.assign rfl) trivial rfl ?_
                            refine AK.nil ?_
                            refine AK.then_ (hK36 _ ?_)
                            refine AK.block ?_
                            refine AK.loopK (X := Nat) [(3, _), (4, _), (5, _), (7, _), (10, _), (11, _), (89, _), (90, _), (91, _)] (fun x => [(12, .int .i64 (x : Int))]) (fun x => [box bx3 25 4 [.int .i64 d.L, .int .i64 d.s, vF, vN], box bx4 25 4 [.int .i64 m.L, .int .i64 m.s, uF, uN], box bx5 51 3 [vp, va, vt]]) (fun x => (x : Int) ≤ d.L ∧ ∀ y, y < x → StepAt d m mp q y) (fun x => d.L.toNat - x) (0) (.cons rfl (.cons rfl (.cons rfl (.cons rfl (.cons rfl (.cons rfl (.cons rfl (.cons rfl (.cons rfl (.nil)))))))))) ?_ ?_ ?_ ?_
                            · exact ⟨by omega, fun i hi => (by cases hi)⟩
                            · exact .cons (rfl) (.nil)
                            · exact fun w hw => hw
                            · intro x hg2 _ hK37
                              refine AK.seq (fun _ hK38 => ?_)
                              refine AK.seq (fun _ hK39 => ?_)
                              refine AK.region ?_
                              refine AK.val _ (Yl.move rfl) trivial rfl ?_
                              refine AK.val _ (Yl.fieldAddr fd25_0 rfl) trivial rfl ?_
                              refine AK.val _ (Yl.loadBox on3 rfl (by first | ((repeat (first | exact .hd | apply BoxS.tl | apply MapS.tl)); done) | assumption | exact BoxS.arg (by assumption)) rfl) trivial rfl ?_
                              refine AK.val _ (Yl.lss rfl rfl) trivial rfl ?_
                              refine AK.nil ?_
                              refine AK.then_ (hK39 _ ?_)
                              refine AK.condD rfl (fun hc7 => ?_) (fun hc7 => ?_)
                              · have hto := hv.to q x hqn (by omega)
                                refine AK.skip ?_
                                refine AK.then_ (hK38 _ ?_)
                                refine AK.seq (fun _ hK40 => ?_)
                                refine AK.block ?_
                                refine AK.seq (fun _ hK41 => ?_)
                                refine AK.quiet mixed (by kernel_rfl) ?_
                                refine QK.val _ (Yl.fieldAddr fd51_0 rfl) trivial rfl ?_
                                refine QK.val _ (Yl.loadBox on26 rfl (by first | ((repeat (first | exact .hd | apply BoxS.tl | apply MapS.tl)); done) | assumption | exact BoxS.arg (by assumption)) rfl) trivial rfl ?_
                                refine QK.val _ (Yl.fieldAddr fd25_3 rfl) trivial rfl ?_
                                refine QK.val _ (Yl.loadBox on23 rfl (by first | ((repeat (first | exact .hd | apply BoxS.tl | apply MapS.tl)); done) | assumption | exact BoxS.arg (by assumption)) rfl) trivial rfl ?_
                                refine QK.val _ (Yl.move rfl) trivial rfl ?_
                                first | refine QK.val _ (Yl.idxN sl23 rfl rfl (by first | exact .arg ‹_› | ((repeat (first | exact .hd | apply RdS.tl)); done) | assumption | exact .arg (hNi _ (by omega)) | exact .arg (gNi _ (by omega))) (by decide) (by omega)) trivial rfl ?_ | refine QK.val _ (Yl.idx sl23 rfl rfl (by first | exact .arg ‹_› | ((repeat (first | exact .hd | apply RdS.tl)); done) | assumption | exact .arg (hNi _ (by omega)) | exact .arg (gNi _ (by omega))) (by decide) (by omega)) trivial rfl ?_ | refine QK.val _ (Yl.idxK sl23 rfl rfl (by first | exact .arg ‹_› | ((repeat (first | exact .hd | apply RdS.tl)); done) | assumption | exact .arg (hNi _ (by omega)) | exact .arg (gNi _ (by omega))) (by decide) (by omega)) trivial rfl ?_
                                refine QK.val _ (Yl.loadV on26 rfl (by first | exact .arg ‹_› | ((repeat (first | exact .hd | apply RdS.tl)); done) | assumption | exact .arg (hNi _ (by omega)) | exact .arg (gNi _ (by omega))) (by omega)) trivial rfl ?_
                                refine QK.val _ (Yl.move rfl) trivial rfl ?_
                                first | refine QK.val _ (Yl.idxN sl26 rfl rfl (by first | exact .arg ‹_› | ((repeat (first | exact .hd | apply RdS.tl)); done) | assumption | exact .arg (hNi _ (by omega)) | exact .arg (gNi _ (by omega))) (by decide) (by omega)) trivial rfl ?_ | refine QK.val _ (Yl.idx sl26 rfl rfl (by first | exact .arg ‹_› | ((repeat (first | exact .hd | apply RdS.tl)); done) | assumption | exact .arg (hNi _ (by omega)) | exact .arg (gNi _ (by omega))) (by decide) (by omega)) trivial rfl ?_ | refine QK.val _ (Yl.idxK sl26 rfl rfl (by first | exact .arg ‹_› | ((repeat (first | exact .hd | apply RdS.tl)); done) | assumption | exact .arg (hNi _ (by omega)) | exact .arg (gNi _ (by omega))) (by decide) (by omega)) trivial rfl ?_
                                refine QK.val _ (Yl.loadI on3 rfl (by first | exact .arg ‹_› | ((repeat (first | exact .hd | apply RdS.tl)); done) | assumption | exact .arg (hNi _ (by omega)) | exact .arg (gNi _ (by omega))) (by omega)) trivial rfl ?_
                                first | refine QK.val _ (Yl.idxN sl26 rfl rfl (by first | exact .arg ‹_› | ((repeat (first | exact .hd | apply RdS.tl)); done) | assumption | exact .arg (hNi _ (by omega)) | exact .arg (gNi _ (by omega))) (by decide) (by omega)) trivial rfl ?_ | refine QK.val _ (Yl.idx sl26 rfl rfl (by first | exact .arg ‹_› | ((repeat (first | exact .hd | apply RdS.tl)); done) | assumption | exact .arg (hNi _ (by omega)) | exact .arg (gNi _ (by omega))) (by decide) (by omega)) trivial rfl ?_ | refine QK.val _ (Yl.idxK sl26 rfl rfl (by first | exact .arg ‹_› | ((repeat (first | exact .hd | apply RdS.tl)); done) | assumption | exact .arg (hNi _ (by omega)) | exact .arg (gNi _ (by omega))) (by decide) (by omega)) trivial rfl ?_
                                refine QK.val _ (Yl.loadI on3 rfl (by first | exact .arg ‹_› | ((repeat (first | exact .hd | apply RdS.tl)); done) | assumption | exact .arg (hNi _ (by omega)) | exact .arg (gNi _ (by omega))) (by omega)) trivial rfl ?_
                                refine QK.val _ (Yl.fieldAddr fd25_3 rfl) trivial rfl ?_
                                refine QK.val _ (Yl.loadBox on23 rfl (by first | ((repeat (first | exact .hd | apply BoxS.tl | apply MapS.tl)); done) | assumption | exact BoxS.arg (by assumption)) rfl) trivial rfl ?_
                                refine QK.val _ (Yl.move rfl) trivial rfl ?_
                                first | refine QK.val _ (Yl.idxN sl23 rfl rfl (by first | exact .arg ‹_› | ((repeat (first | exact .hd | apply RdS.tl)); done) | assumption | exact .arg (hNi _ (by omega)) | exact .arg (gNi _ (by omega))) (by decide) (by omega)) trivial rfl ?_ | refine QK.val _ (Yl.idx sl23 rfl rfl (by first | exact .arg ‹_› | ((repeat (first | exact .hd | apply RdS.tl)); done) | assumption | exact .arg (hNi _ (by omega)) | exact .arg (gNi _ (by omega))) (by decide) (by omega)) trivial rfl ?_ | refine QK.val _ (Yl.idxK sl23 rfl rfl (by first | exact .arg ‹_› | ((repeat (first | exact .hd | apply RdS.tl)); done) | assumption | exact .arg (hNi _ (by omega)) | exact .arg (gNi _ (by omega))) (by decide) (by omega)) trivial rfl ?_
                                refine QK.val _ (Yl.loadV on26 rfl (by first | exact .arg ‹_› | ((repeat (first | exact .hd | apply RdS.tl)); done) | assumption | exact .arg (hNi _ (by omega)) | exact .arg (gNi _ (by omega))) (by omega)) trivial rfl ?_
                                refine QK.val _ (Yl.move rfl) trivial rfl ?_
                                first | refine QK.val _ (Yl.idxN sl26 rfl rfl (by first | exact .arg ‹_› | ((repeat (first | exact .hd | apply RdS.tl)); done) | assumption | exact .arg (hNi _ (by omega)) | exact .arg (gNi _ (by omega))) (by decide) (by omega)) trivial rfl ?_ | refine QK.val _ (Yl.idx sl26 rfl rfl (by first | exact .arg ‹_› | ((repeat (first | exact .hd | apply RdS.tl)); done) | assumption | exact .arg (hNi _ (by omega)) | exact .arg (gNi _ (by omega))) (by decide) (by omega)) trivial rfl ?_ | refine QK.val _ (Yl.idxK sl26 rfl rfl (by first | exact .arg ‹_› | ((repeat (first | exact .hd | apply RdS.tl)); done) | assumption | exact .arg (hNi _ (by omega)) | exact .arg (gNi _ (by omega))) (by decide) (by omega)) trivial rfl ?_
                                refine QK.val _ (Yl.loadI on3 rfl (by first | exact .arg ‹_› | ((repeat (first | exact .hd | apply RdS.tl)); done) | assumption | exact .arg (hNi _ (by omega)) | exact .arg (gNi _ (by omega))) (by omega)) trivial rfl ?_
                                refine QK.val _ (Yl.neq rfl rfl) trivial rfl ?_
                                refine QK.nil (QK.fin ?_)
                                refine AK.then_ (hK41 _ ?_)
                                refine AK.condNe rfl (fun hc8 => ?_) (fun hc8 => ?_)
                                · refine AK.seq (fun _ hK42 => ?_)
                                  refine AK.region ?_
                                  refine AK.val _ (Yl.assign rfl) trivial rfl ?_
                                  refine AK.nil ?_
                                  refine AK.then_ (hK42 _ ?_)
                                  refine AK.ret ?_
                                  refine AK.block_ret ?_
                                  refine AK.then_ret ?_
                                  refine AK.then_ret ?_
                                  refine AK.block_ret ?_
                                  refine AK.block_ret ?_
                                  refine AK.then_ret ?_
                                  refine AK.then_ret ?_
                                  refine AK.block_ret ?_
                                  refine AK.then_ret ?_
                                  refine AK.ret1 rfl rfl (fun w hw => ⟨_, _, ?_, rfl, Ret.of (hw.pick [] (by decide) rfl rfl)⟩)
                                  refine ⟨false, rfl, ⟨fun h => (by cases h), fun h => ?_⟩, rfl⟩
                                  exfalso
                                  exact hc8 ((h.map.at hqn (by omega)).2 x (by omega))
                                · have hst : StepAt d m mp q x := hc8
                                  refine AK.skip ?_
                                  refine AK.block_normal ?_
                                  refine AK.then_ (hK40 _ ?_)
                                  refine AK.region ?_
                                  refine AK.val _ (Yl.move rfl) trivial rfl ?_
                                  refine AK.val _ (Yl.add rfl rfl (by omega)) trivial rfl ?_
                                  refine AK.val _ (Yl.assign rfl) trivial rfl ?_
                                  refine AK.nil ?_
                                  refine AK.then_ (hK37 _ _ (x + 1) ⟨by omega, all_succ hg2.2 hst⟩ (by omega) (.cons (rfl) (.cons rfl (.cons rfl (.cons rfl (.cons rfl (.cons rfl (.cons rfl (.cons rfl (.cons rfl (.cons rfl (.nil))))))))))) (fun w hw => hw))
                              · refine AK.exit ?_
                                refine AK.then_exit ?_
                                refine AK.then_exit ?_
                                refine AK.block_exit ?_
                                refine AK.block_normal ?_
                                refine AK.then_ (hK29 _ ?_)
                                refine AK.region ?_
                                refine AK.val _ (Yl.add rfl rfl (by omega)) trivial rfl ?_
                                refine AK.val _ (Yl.move rfl) trivial rfl ?_
                                refine AK.nil ?_
                                first | refine AK.then_ (hK26 _ _ (q + 1) ⟨by omega, all_succ hg1.2 (fun h0 => by omega)⟩ (by omega) (.cons (rfl) (.cons rfl (.cons rfl (.cons rfl (.cons rfl (.cons rfl (.cons rfl (.nil)))))))) (fun w hw => hw)) | refine AK.then_ (hK26 _ _ (q + 1) ⟨by omega, all_succ hg1.2 (fun _ => ⟨hfe, fun x hx => hg2.2 x (by omega)⟩)⟩ (by omega) (.cons (rfl) (.cons rfl (.cons rfl (.cons rfl (.cons rfl (.cons rfl (.cons rfl (.nil)))))))) (fun w hw => hw))
                      · refine AK.exit ?_
                        refine AK.then_exit ?_
                        refine AK.then_exit ?_
                        refine AK.block_exit ?_
                        refine AK.then_ (hK24 _ ?_)
                        refine AK.seq (fun _ hK43 => ?_)
                        refine AK.seq (fun _ hK44 => ?_)
                        refine AK.region ?_
                        refine AK.val _ (Yl.fieldAddr fd51_1 rfl) trivial rfl ?_
                        refine AK.val _ (Yl.loadBox on49 rfl (by first | ((repeat (first | exact .hd | apply BoxS.tl | apply MapS.tl)); done) | assumption | exact BoxS.arg (by assumption)) rfl) trivial rfl ?_
                        refine AK.val _ (Yl.lenR sl49 rfl (by first | exact .arg ‹_› | ((repeat (first | exact .hd | apply RdS.tl)); done) | assumption | exact .arg (hNi _ (by omega)) | exact .arg (gNi _ (by omega)))) trivial rfl ?_
                        refine AK.val _ (Yl.move rfl) trivial rfl ?_
                        refine AK.nil ?_
                        refine AK.then_ (hK44 _ ?_)
                        refine AK.block ?_
                        refine AK.loopK (X := Nat) [(4, _), (5, _), (7, _), (138, _), (139, _)] (fun j => [(140, .int .i64 (j : Int))]) (fun j => [box bx3 25 4 [.int .i64 d.L, .int .i64 d.s, vF, vN], box bx4 25 4 [.int .i64 m.L, .int .i64 m.s, uF, uN], box bx5 51 3 [vp, va, vt]]) (fun j => j ≤ ac.length ∧ ∀ i, i < j → RunV m m.s (ac.getD i []) = (i : Int)) (fun j => ac.length - j) (0) (.cons rfl (.cons rfl (.cons rfl (.cons rfl (.cons rfl (.nil)))))) ?_ ?_ ?_ ?_
                        · exact ⟨Nat.zero_le _, fun i hi => (by cases hi)⟩
                        · exact .cons (rfl) (.nil)
                        · exact fun w hw => hw
                        · intro j hg3 _ hK45
                          refine AK.seq (fun _ hK46 => ?_)
                          refine AK.region ?_
                          refine AK.val _ (Yl.lss rfl rfl) trivial rfl ?_
                          refine AK.nil ?_
                          refine AK.then_ (hK46 _ ?_)
                          refine AK.seq (fun _ hK47 => ?_)
                          refine AK.condD rfl (fun hc9 => ?_) (fun hc9 => ?_)
                          · refine AK.skip ?_
                            refine AK.then_ (hK47 _ ?_)
                            refine AK.seq (fun _ hK48 => ?_)
                            refine AK.block ?_
                            refine AK.seq (fun _ hK49 => ?_)
                            refine AK.region ?_
                            refine AK.val _ (Yl.move rfl) trivial rfl ?_
                            first | refine AK.val _ (Yl.idxN sl49 rfl rfl (by first | exact .arg ‹_› | ((repeat (first | exact .hd | apply RdS.tl)); done) | assumption | exact .arg (hNi _ (by omega)) | exact .arg (gNi _ (by omega))) (by decide) (by omega)) trivial rfl ?_ | refine AK.val _ (Yl.idx sl49 rfl rfl (by first | exact .arg ‹_› | ((repeat (first | exact .hd | apply RdS.tl)); done) | assumption | exact .arg (hNi _ (by omega)) | exact .arg (gNi _ (by omega))) (by decide) (by omega)) trivial rfl ?_ | refine AK.val _ (Yl.idxK sl49 rfl rfl (by first | exact .arg ‹_› | ((repeat (first | exact .hd | apply RdS.tl)); done) | assumption | exact .arg (hNi _ (by omega)) | exact .arg (gNi _ (by omega))) (by decide) (by omega)) trivial rfl ?_
                            refine AK.val _ (Yl.loadS on9 rfl (by first | exact .arg ‹_› | ((repeat (first | exact .hd | apply RdS.tl)); done) | assumption | exact .arg (hNi _ (by omega)) | exact .arg (gNi _ (by omega))) (by omega)) trivial rfl ?_
                            refine AK.val _ (Yl.assign rfl) trivial rfl ?_
                            refine AK.val _ (Yl.assign rfl) trivial rfl ?_
                            refine AK.nil ?_
                            refine AK.then_ (hK49 _ ?_)
                            refine AK.seq (fun _ hK50 => ?_)
                            refine AK.region ?_
                            refine AK.val _ (Yl.loadBoxG ag25 rfl (by first | ((repeat (first | exact .hd | apply BoxS.tl | apply MapS.tl)); done) | assumption | exact BoxS.arg (by assumption)) rfl rfl) trivial rfl ?_
                            refine AK.val _ (Yl.fieldAddr fd25_1 rfl) trivial rfl ?_
                            refine AK.val _ (Yl.loadBox on3 rfl (by first | ((repeat (first | exact .hd | apply BoxS.tl | apply MapS.tl)); done) | assumption | exact BoxS.arg (by assumption)) rfl) trivial rfl ?_
                            refine AK.val _ (Yl.move rfl) trivial rfl ?_
                            refine AK.call co49 rfl (fun w hw => s_refrun w _ m (k0.at hw) m.s (ac.getD j []) (hla _ (getD_mem (by omega))) hvm) trivial rfl ?_
                            rintro r o ⟨rfl, rfl⟩
                            refine AK.val _ (Yl.move rfl) trivial rfl ?_
                            refine AK.val _ (Yl.neq rfl rfl) trivial rfl ?_
                            refine AK.nil ?_
                            refine AK.then_ (hK50 _ ?_)
                            refine AK.condNe rfl (fun hc10 => ?_) (fun hc10 => ?_)
                            · refine AK.seq (fun _ hK51 => ?_)
                              refine AK.region ?_
                              refine AK.val _ (Yl.assign rfl) trivial rfl ?_
                              refine AK.nil ?_
                              refine AK.then_ (hK51 _ ?_)
                              refine AK.ret ?_
                              refine AK.block_ret ?_
                              refine AK.then_ret ?_
                              refine AK.then_ret ?_
                              refine AK.block_ret ?_
                              refine AK.then_ret ?_
                              refine AK.ret1 rfl rfl (fun w hw => ⟨_, _, ?_, rfl, Ret.of (hw.pick [] (by decide) rfl rfl)⟩)
                              refine ⟨false, rfl, ⟨fun h => (by cases h), fun h => ?_⟩, rfl⟩
                              exfalso
                              exact hc10 (h.acc.run j (by omega))
                            · refine AK.skip ?_
                              refine AK.block_normal ?_
                              refine AK.then_ (hK48 _ ?_)
                              refine AK.region ?_
                              refine AK.val _ (Yl.add rfl rfl (by omega)) trivial rfl ?_
                              refine AK.val _ (Yl.move rfl) trivial rfl ?_
                              refine AK.nil ?_
                              refine AK.then_ (hK45 _ _ (j + 1) ⟨by omega, all_succ hg3.2 (by first | exact hc10 | exact Classical.not_not.1 hc10)⟩ (by omega) (.cons (rfl) (.cons rfl (.cons rfl (.cons rfl (.cons rfl (.cons rfl (.nil))))))) (fun w hw => hw))
                          · refine AK.exit ?_
                            refine AK.then_exit ?_
                            refine AK.then_exit ?_
                            refine AK.block_exit ?_
                            refine AK.then_ (hK43 _ ?_)
                            refine AK.seq (fun _ hK52 => ?_)
                            refine AK.seq (fun _ hK53 => ?_)
                            refine AK.region ?_
                            refine AK.val _ (Yl.fieldAddr fd51_2 rfl) trivial rfl ?_
                            refine AK.val _ (Yl.loadBox on49 rfl (by first | ((repeat (first | exact .hd | apply BoxS.tl | apply MapS.tl)); done) | assumption | exact BoxS.arg (by assumption)) rfl) trivial rfl ?_
                            refine AK.val _ (Yl.lenR sl49 rfl (by first | exact .arg ‹_› | ((repeat (first | exact .hd | apply RdS.tl)); done) | assumption | exact .arg (hNi _ (by omega)) | exact .arg (gNi _ (by omega)))) trivial rfl ?_
                            refine AK.val _ (Yl.move rfl) trivial rfl ?_
                            refine AK.nil ?_
                            refine AK.then_ (hK53 _ ?_)
                            refine AK.block ?_
                            refine AK.loopK (X := Nat) [(4, _), (5, _), (7, _), (154, _), (155, _)] (fun j => [(156, .int .i64 (j : Int))]) (fun j => [box bx3 25 4 [.int .i64 d.L, .int .i64 d.s, vF, vN], box bx4 25 4 [.int .i64 m.L, .int .i64 m.s, uF, uN], box bx5 51 3 [vp, va, vt]]) (fun j => j ≤ ts.length ∧ ∀ i, i < j → validW m.L (ts.getD i []) = true) (fun j => ts.length - j) (0) (.cons rfl (.cons rfl (.cons rfl (.cons rfl (.cons rfl (.nil)))))) ?_ ?_ ?_ ?_
                            · exact ⟨Nat.zero_le _, fun i hi => (by cases hi)⟩
                            · exact .cons (rfl) (.nil)
                            · exact fun w hw => hw
                            · intro j hg4 _ hK54
                              refine AK.seq (fun _ hK55 => ?_)
                              refine AK.region ?_
                              refine AK.val _ (Yl.lss rfl rfl) trivial rfl ?_
                              refine AK.nil ?_
                              refine AK.then_ (hK55 _ ?_)
                              refine AK.seq (fun _ hK56 => ?_)
                              refine AK.condD rfl (fun hc11 => ?_) (fun hc11 => ?_)
                              · refine AK.skip ?_
                                refine AK.then_ (hK56 _ ?_)
                                refine AK.seq (fun _ hK57 => ?_)
                                refine AK.block ?_
                                refine AK.seq (fun _ hK58 => ?_)
                                refine AK.region ?_
                                first | refine AK.val _ (Yl.idxN sl49 rfl rfl (by first | exact .arg ‹_› | ((repeat (first | exact .hd | apply RdS.tl)); done) | assumption | exact .arg (hNi _ (by omega)) | exact .arg (gNi _ (by omega))) (by decide) (by omega)) trivial rfl ?_ | refine AK.val _ (Yl.idx sl49 rfl rfl (by first | exact .arg ‹_› | ((repeat (first | exact .hd | apply RdS.tl)); done) | assumption | exact .arg (hNi _ (by omega)) | exact .arg (gNi _ (by omega))) (by decide) (by omega)) trivial rfl ?_ | refine AK.val _ (Yl.idxK sl49 rfl rfl (by first | exact .arg ‹_› | ((repeat (first | exact .hd | apply RdS.tl)); done) | assumption | exact .arg (hNi _ (by omega)) | exact .arg (gNi _ (by omega))) (by decide) (by omega)) trivial rfl ?_
                                refine AK.val _ (Yl.loadS on9 rfl (by first | exact .arg ‹_› | ((repeat (first | exact .hd | apply RdS.tl)); done) | assumption | exact .arg (hNi _ (by omega)) | exact .arg (gNi _ (by omega))) (by omega)) trivial rfl ?_
                                refine AK.val _ (Yl.assign rfl) trivial rfl ?_
                                refine AK.nil ?_
                                refine AK.then_ (hK58 _ ?_)
                                refine AK.seq (fun _ hK59 => ?_)
                                refine AK.region ?_
                                refine AK.val _ (Yl.move rfl) trivial rfl ?_
                                refine AK.val _ (Yl.fieldAddr fd25_0 rfl) trivial rfl ?_
                                refine AK.val _ (Yl.loadBox on3 rfl (by first | ((repeat (first | exact .hd | apply BoxS.tl | apply MapS.tl)); done) | assumption | exact BoxS.arg (by assumption)) rfl) trivial rfl ?_
                                refine AK.call co31 rfl (fun w hw => s_refwvalid w (ts.getD j []) m.L (hlt _ (getD_mem (by omega)))) trivial rfl ?_
                                rintro r o ⟨rfl, rfl⟩
                                refine AK.val _ (Yl.not rfl) trivial rfl ?_
                                refine AK.nil ?_
                                refine AK.then_ (hK59 _ ?_)
                                refine AK.condB rfl (fun hc12 => ?_) (fun hc12 => ?_)
                                · refine AK.seq (fun _ hK60 => ?_)
                                  refine AK.region ?_
                                  refine AK.val _ (Yl.assign rfl) trivial rfl ?_
                                  refine AK.nil ?_
                                  refine AK.then_ (hK60 _ ?_)
                                  refine AK.ret ?_
                                  refine AK.block_ret ?_
                                  refine AK.then_ret ?_
                                  refine AK.then_ret ?_
                                  refine AK.block_ret ?_
                                  refine AK.then_ret ?_
                                  refine AK.ret1 rfl rfl (fun w hw => ⟨_, _, ?_, rfl, Ret.of (hw.pick [] (by decide) rfl rfl)⟩)
                                  refine ⟨false, rfl, ⟨fun h => (by cases h), fun h => ?_⟩, rfl⟩
                                  exfalso
                                  have h1 := h.tst.ok _ (getD_mem (d := []) (xs := ts) (k := j) (by omega))
                                  rw [h1] at hc12; cases hc12
                                · have hwv : validW m.L (ts.getD j []) = true := by simpa using hc12
                                  refine AK.skip ?_
                                  refine AK.block_normal ?_
                                  refine AK.then_ (hK57 _ ?_)
                                  refine AK.region ?_
                                  refine AK.val _ (Yl.add rfl rfl (by omega)) trivial rfl ?_
                                  refine AK.val _ (Yl.move rfl) trivial rfl ?_
                                  refine AK.nil ?_
                                  refine AK.then_ (hK54 _ _ (j + 1) ⟨by omega, all_succ hg4.2 hwv⟩ (by omega) (.cons (rfl) (.cons rfl (.cons rfl (.cons rfl (.cons rfl (.cons rfl (.nil))))))) (fun w hw => hw))
                              · refine AK.exit ?_
                                refine AK.then_exit ?_
                                refine AK.then_exit ?_
                                refine AK.block_exit ?_
                                refine AK.then_ (hK52 _ ?_)
                                refine AK.seq (fun _ hK61 => ?_)
                                refine AK.seq (fun _ hK62 => ?_)
                                refine AK.region ?_
                                refine AK.val _ (Yl.assign rfl) trivial rfl ?_
                                refine AK.nil ?_
                                refine AK.then_ (hK62 _ ?_)
                                refine AK.block ?_
                                refine AK.loopK (X := Nat) [(4, _), (5, _), (7, _)] (fun i => [(17, .int .i64 (i : Int))]) (fun i => [box bx3 25 4 [.int .i64 d.L, .int .i64 d.s, vF, vN], box bx4 25 4 [.int .i64 m.L, .int .i64 m.s, uF, uN], box bx5 51 3 [vp, va, vt]]) (fun i => i ≤ m.fin.length ∧ ∀ p, p < i → ∀ q, q < p → apB m ts (p : Int) (q : Int) = true) (fun i => m.fin.length - i) (0) (.cons rfl (.cons rfl (.cons rfl (.nil)))) ?_ ?_ ?_ ?_
                                · exact ⟨Nat.zero_le _, fun i hi => (by cases hi)⟩
                                · exact .cons (rfl) (.nil)
                                · exact fun w hw => hw
                                · intro i hg5 _ hK63
                                  refine AK.seq (fun _ hK64 => ?_)
                                  refine AK.seq (fun _ hK65 => ?_)
                                  refine AK.region ?_
                                  refine AK.val _ (Yl.move rfl) trivial rfl ?_
                                  refine AK.val _ (Yl.move rfl) trivial rfl ?_
                                  refine AK.val _ (Yl.lss rfl rfl) trivial rfl ?_
                                  refine AK.nil ?_
                                  refine AK.then_ (hK65 _ ?_)
                                  refine AK.condD rfl (fun hc13 => ?_) (fun hc13 => ?_)
                                  · refine AK.skip ?_
                                    refine AK.then_ (hK64 _ ?_)
                                    refine AK.seq (fun _ hK66 => ?_)
                                    refine AK.block ?_
                                    refine AK.seq (fun _ hK67 => ?_)
                                    refine AK.region ?_
                                    refine AK.val _ (Yl.assign rfl) trivial rfl ?_
                                    refine AK.nil ?_
                                    refine AK.then_ (hK67 _ ?_)
                                    refine AK.block ?_
                                    refine AK.loopK (X := Nat) [(4, _), (5, _), (7, _), (17, _)] (fun j => [(18, .int .i64 (j : Int))]) (fun j => [box bx3 25 4 [.int .i64 d.L, .int .i64 d.s, vF, vN], box bx4 25 4 [.int .i64 m.L, .int .i64 m.s, uF, uN], box bx5 51 3 [vp, va, vt]]) (fun j => j ≤ i ∧ ∀ q, q < j → apB m ts (i : Int) (q : Int) = true) (fun j => i - j) (0) (.cons rfl (.cons rfl (.cons rfl (.cons rfl (.nil))))) ?_ ?_ ?_ ?_
                                    · exact ⟨Nat.zero_le _, fun i hi => (by cases hi)⟩
                                    · exact .cons (rfl) (.nil)
                                    · exact fun w hw => hw
                                    · intro j hg6 _ hK68
                                      refine AK.seq (fun _ hK69 => ?_)
                                      refine AK.seq (fun _ hK70 => ?_)
                                      refine AK.region ?_
                                      refine AK.val _ (Yl.move rfl) trivial rfl ?_
                                      refine AK.val _ (Yl.move rfl) trivial rfl ?_
                                      refine AK.val _ (Yl.lss rfl rfl) trivial rfl ?_
                                      refine AK.nil ?_
                                      refine AK.then_ (hK70 _ ?_)
                                      refine AK.condD rfl (fun hc14 => ?_) (fun hc14 => ?_)
                                      · refine AK.skip ?_
                                        refine AK.then_ (hK69 _ ?_)
                                        refine AK.seq (fun _ hK71 => ?_)
                                        refine AK.block ?_
                                        refine AK.seq (fun _ hK72 => ?_)
                                        refine AK.region ?_
                                        refine AK.val _ (Yl.assign rfl) trivial rfl ?_
                                        refine AK.nil ?_
                                        refine AK.then_ (hK72 _ ?_)
                                        refine AK.seq (fun _ hK73 => ?_)
                                        refine AK.seq (fun _ hK74 => ?_)
                                        refine AK.region ?_
                                        refine AK.val _ (Yl.fieldAddr fd51_2 rfl) trivial rfl ?_
                                        refine AK.val _ (Yl.loadBox on49 rfl (by first | ((repeat (first | exact .hd | apply BoxS.tl | apply MapS.tl)); done) | assumption | exact BoxS.arg (by assumption)) rfl) trivial rfl ?_
                                        refine AK.val _ (Yl.lenR sl49 rfl (by first | exact .arg ‹_› | ((repeat (first | exact .hd | apply RdS.tl)); done) | assumption | exact .arg (hNi _ (by omega)) | exact .arg (gNi _ (by omega)))) trivial rfl ?_
                                        refine AK.val _ (Yl.move rfl) trivial rfl ?_
                                        refine AK.nil ?_
                                        refine AK.then_ (hK74 _ ?_)
                                        refine AK.block ?_
                                        refine AK.loopK (X := Nat) [(4, _), (5, _), (7, _), (17, _), (18, _), (177, _), (178, _)] (fun u => [(19, .bool (apB m (ts.take u) (i : Int) (j : Int))), (179, .int .i64 (u : Int))]) (fun u => [box bx3 25 4 [.int .i64 d.L, .int .i64 d.s, vF, vN], box bx4 25 4 [.int .i64 m.L, .int .i64 m.s, uF, uN], box bx5 51 3 [vp, va, vt]]) (fun u => u ≤ ts.length) (fun u => ts.length - u) (0) (.cons rfl (.cons rfl (.cons rfl (.cons rfl (.cons rfl (.cons rfl (.cons rfl (.nil)))))))) ?_ ?_ ?_ ?_
                                        · exact Nat.zero_le _
                                        · exact .cons (rfl) (.cons (rfl) (.nil))
                                        · exact fun w hw => hw
                                        · intro u hg7 _ hK75
                                          refine AK.seq (fun _ hK76 => ?_)
                                          refine AK.region ?_
                                          refine AK.val _ (Yl.lss rfl rfl) trivial rfl ?_
                                          refine AK.nil ?_
                                          refine AK.then_ (hK76 _ ?_)
                                          refine AK.seq (fun _ hK77 => ?_)
                                          refine AK.condD rfl (fun hc15 => ?_) (fun hc15 => ?_)
                                          · have hwl := hlt (ts.getD u []) (getD_mem (by omega))
                                            have hwv := hg4.2 u (by omega)
                                            have hri := run_of hvm (q := i) (by omega) hwv
                                            have hrj := run_of hvm (q := j) (by omega) hwv
                                            have hbi := runI_bdw hvm (q := (i : Int)) ⟨by omega, by omega⟩ hwv
                                            have hbj := runI_bdw hvm (q := (j : Int)) ⟨by omega, by omega⟩ hwv
                                            refine AK.skip ?_
                                            refine AK.then_ (hK77 _ ?_)
                                            refine AK.seq (fun _ hK78 => ?_)
                                            refine AK.block ?_
                                            refine AK.seq (fun _ hK79 => ?_)
                                            refine AK.region ?_
                                            first | refine AK.val _ (Yl.idxN sl49 rfl rfl (by first | exact .arg ‹_› | ((repeat (first | exact .hd | apply RdS.tl)); done) | assumption | exact .arg (hNi _ (by omega)) | exact .arg (gNi _ (by omega))) (by decide) (by omega)) trivial rfl ?_ | refine AK.val _ (Yl.idx sl49 rfl rfl (by first | exact .arg ‹_› | ((repeat (first | exact .hd | apply RdS.tl)); done) | assumption | exact .arg (hNi _ (by omega)) | exact .arg (gNi _ (by omega))) (by decide) (by omega)) trivial rfl ?_ | refine AK.val _ (Yl.idxK sl49 rfl rfl (by first | exact .arg ‹_› | ((repeat (first | exact .hd | apply RdS.tl)); done) | assumption | exact .arg (hNi _ (by omega)) | exact .arg (gNi _ (by omega))) (by decide) (by omega)) trivial rfl ?_
                                            refine AK.val _ (Yl.loadS on9 rfl (by first | exact .arg ‹_› | ((repeat (first | exact .hd | apply RdS.tl)); done) | assumption | exact .arg (hNi _ (by omega)) | exact .arg (gNi _ (by omega))) (by omega)) trivial rfl ?_
                                            refine AK.val _ (Yl.assign rfl) trivial rfl ?_
                                            refine AK.nil ?_
                                            refine AK.then_ (hK79 _ ?_)
                                            refine AK.quiet mixed (by kernel_rfl) ?_
                                            refine QK.val _ (Yl.move rfl) trivial rfl ?_
                                            refine QK.val _ (Yl.move rfl) trivial rfl ?_
                                            refine QK.splitB (g := 184) rfl (fun hg_46_1 => ?_) (fun hg_46_1 => ?_)
                                            · have hg_46_1' := hg_46_1
                                              try simp only [decide_eq_true_eq, decide_eq_false_iff_not, Bool.not_eq_true', Bool.not_eq_false', Bool.not_not, ne_eq, Decidable.not_not, Int.not_lt, Int.not_le, beq_iff_eq, bne_iff_ne, Bool.and_eq_true, Bool.or_eq_true, Bool.or_eq_false_iff, Bool.not_false, Bool.not_true, reduceCtorEq, not_true_eq_false, not_false_eq_true] at hg_46_1'
                                              refine QK.pass rfl rfl (hg_46_1) rfl ?_
                                              refine QK.pass rfl rfl (hg_46_1) rfl ?_
                                              refine QK.pass rfl rfl (hg_46_1) rfl ?_
                                              refine QK.pass rfl rfl (hg_46_1) rfl ?_
                                              refine QK.pass rfl rfl (hg_46_1) rfl ?_
                                              refine QK.pass rfl rfl (hg_46_1) rfl ?_
                                              refine QK.pass rfl rfl (hg_46_1) rfl ?_
                                              refine QK.pass rfl rfl (hg_46_1) rfl ?_
                                              refine QK.pass rfl rfl (hg_46_1) rfl ?_
                                              refine QK.pass rfl rfl (hg_46_1) rfl ?_
                                              refine QK.pass rfl rfl (hg_46_1) rfl ?_
                                              refine QK.pass rfl rfl (hg_46_1) rfl ?_
                                              refine QK.pass rfl rfl (hg_46_1) rfl ?_
                                              refine QK.pass rfl rfl (hg_46_1) rfl ?_
                                              refine QK.pass rfl rfl (hg_46_1) rfl ?_
                                              refine QK.pass rfl rfl (hg_46_1) rfl ?_
                                              refine QK.pass rfl rfl (hg_46_1) rfl ?_
                                              refine QK.val _ (Yl.pickT rfl (hg_46_1) rfl) trivial rfl ?_
                                              refine QK.val _ (Yl.assign rfl) trivial rfl ?_
                                              refine QK.nil (QK.fin ?_)
                                              refine AK.block_normal ?_
                                              refine AK.then_ (hK78 _ ?_)
                                              refine AK.region ?_
                                              refine AK.val _ (Yl.add rfl rfl (by omega)) trivial rfl ?_
                                              refine AK.val _ (Yl.move rfl) trivial rfl ?_
                                              refine AK.nil ?_
                                              refine AK.then_ (hK75 _ _ (u + 1) (by omega) (by omega) (.cons (slB rfl (by rw [take_snocD [] ts u (by omega), apB_snoc, hg_46_1]; rfl)) (.cons (rfl) (.cons rfl (.cons rfl (.cons rfl (.cons rfl (.cons rfl (.cons rfl (.cons rfl (.nil)))))))))) (fun w hw => hw))
                                            · have hg_46_1' := hg_46_1
                                              try simp only [decide_eq_true_eq, decide_eq_false_iff_not, Bool.not_eq_true', Bool.not_eq_false', Bool.not_not, ne_eq, Decidable.not_not, Int.not_lt, Int.not_le, beq_iff_eq, bne_iff_ne, Bool.and_eq_true, Bool.or_eq_true, Bool.or_eq_false_iff, Bool.not_false, Bool.not_true, reduceCtorEq, not_true_eq_false, not_false_eq_true] at hg_46_1'
                                              refine QK.val _ (Yl.fieldAddr fd25_2 rfl) ⟨_, rfl, congrArg (fun b => some (Value.bool b)) hg_46_1⟩ rfl ?_
                                              refine QK.val _ (Yl.loadBox on22 rfl (by first | ((repeat (first | exact .hd | apply BoxS.tl | apply MapS.tl)); done) | assumption | exact BoxS.arg (by assumption)) rfl) ⟨_, rfl, congrArg (fun b => some (Value.bool b)) hg_46_1⟩ rfl ?_
                                              refine QK.val _ (Yl.loadBoxG ag25 rfl (by first | ((repeat (first | exact .hd | apply BoxS.tl | apply MapS.tl)); done) | assumption | exact BoxS.arg (by assumption)) rfl rfl) ⟨_, rfl, congrArg (fun b => some (Value.bool b)) hg_46_1⟩ rfl ?_
                                              refine QK.val _ (Yl.move rfl) ⟨_, rfl, congrArg (fun b => some (Value.bool b)) hg_46_1⟩ rfl ?_
                                              refine QK.val _ (Yl.move rfl) ⟨_, rfl, congrArg (fun b => some (Value.bool b)) hg_46_1⟩ rfl ?_
                                              refine QK.call (.int .i64 (runI m (i : Int) (ts.getD u []))) co49 rfl (fun w hw => s_refrun w _ m (k0.at hw) (i : Int) (ts.getD u []) hwl hvm) (fun _ _ h => by rw [h.1, hri]) ⟨_, rfl, congrArg (fun b => some (Value.bool b)) hg_46_1⟩ rfl ?_
                                              first | refine QK.val _ (Yl.idxN sl22 rfl rfl (by first | exact .arg ‹_› | ((repeat (first | exact .hd | apply RdS.tl)); done) | assumption | exact .arg (hNi _ (by omega)) | exact .arg (gNi _ (by omega))) (by decide) (by omega)) ⟨_, rfl, congrArg (fun b => some (Value.bool b)) hg_46_1⟩ rfl ?_ | refine QK.val _ (Yl.idx sl22 rfl rfl (by first | exact .arg ‹_› | ((repeat (first | exact .hd | apply RdS.tl)); done) | assumption | exact .arg (hNi _ (by omega)) | exact .arg (gNi _ (by omega))) (by decide) (by omega)) ⟨_, rfl, congrArg (fun b => some (Value.bool b)) hg_46_1⟩ rfl ?_ | refine QK.val _ (Yl.idxK sl22 rfl rfl (by first | exact .arg ‹_› | ((repeat (first | exact .hd | apply RdS.tl)); done) | assumption | exact .arg (hNi _ (by omega)) | exact .arg (gNi _ (by omega))) (by decide) (by omega)) ⟨_, rfl, congrArg (fun b => some (Value.bool b)) hg_46_1⟩ rfl ?_
                                              refine QK.val _ (Yl.loadB on4 rfl (by first | exact .arg ‹_› | ((repeat (first | exact .hd | apply RdS.tl)); done) | assumption | exact .arg (hNi _ (by omega)) | exact .arg (gNi _ (by omega))) (by omega)) ⟨_, rfl, congrArg (fun b => some (Value.bool b)) hg_46_1⟩ rfl ?_
                                              refine QK.val _ (Yl.fieldAddr fd25_2 rfl) ⟨_, rfl, congrArg (fun b => some (Value.bool b)) hg_46_1⟩ rfl ?_
                                              refine QK.val _ (Yl.loadBox on22 rfl (by first | ((repeat (first | exact .hd | apply BoxS.tl | apply MapS.tl)); done) | assumption | exact BoxS.arg (by assumption)) rfl) ⟨_, rfl, congrArg (fun b => some (Value.bool b)) hg_46_1⟩ rfl ?_
                                              refine QK.val _ (Yl.loadBoxG ag25 rfl (by first | ((repeat (first | exact .hd | apply BoxS.tl | apply MapS.tl)); done) | assumption | exact BoxS.arg (by assumption)) rfl rfl) ⟨_, rfl, congrArg (fun b => some (Value.bool b)) hg_46_1⟩ rfl ?_
                                              refine QK.val _ (Yl.move rfl) ⟨_, rfl, congrArg (fun b => some (Value.bool b)) hg_46_1⟩ rfl ?_
                                              refine QK.val _ (Yl.move rfl) ⟨_, rfl, congrArg (fun b => some (Value.bool b)) hg_46_1⟩ rfl ?_
                                              refine QK.call (.int .i64 (runI m (j : Int) (ts.getD u []))) co49 rfl (fun w hw => s_refrun w _ m (k0.at hw) (j : Int) (ts.getD u []) hwl hvm) (fun _ _ h => by rw [h.1, hrj]) ⟨_, rfl, congrArg (fun b => some (Value.bool b)) hg_46_1⟩ rfl ?_
                                              first | refine QK.val _ (Yl.idxN sl22 rfl rfl (by first | exact .arg ‹_› | ((repeat (first | exact .hd | apply RdS.tl)); done) | assumption | exact .arg (hNi _ (by omega)) | exact .arg (gNi _ (by omega))) (by decide) (by omega)) ⟨_, rfl, congrArg (fun b => some (Value.bool b)) hg_46_1⟩ rfl ?_ | refine QK.val _ (Yl.idx sl22 rfl rfl (by first | exact .arg ‹_› | ((repeat (first | exact .hd | apply RdS.tl)); done) | assumption | exact .arg (hNi _ (by omega)) | exact .arg (gNi _ (by omega))) (by decide) (by omega)) ⟨_, rfl, congrArg (fun b => some (Value.bool b)) hg_46_1⟩ rfl ?_ | refine QK.val _ (Yl.idxK sl22 rfl rfl (by first | exact .arg ‹_› | ((repeat (first | exact .hd | apply RdS.tl)); done) | assumption | exact .arg (hNi _ (by omega)) | exact .arg (gNi _ (by omega))) (by decide) (by omega)) ⟨_, rfl, congrArg (fun b => some (Value.bool b)) hg_46_1⟩ rfl ?_
                                              refine QK.val _ (Yl.loadB on4 rfl (by first | exact .arg ‹_› | ((repeat (first | exact .hd | apply RdS.tl)); done) | assumption | exact .arg (hNi _ (by omega)) | exact .arg (gNi _ (by omega))) (by omega)) ⟨_, rfl, congrArg (fun b => some (Value.bool b)) hg_46_1⟩ rfl ?_
                                              refine QK.val _ (Yl.neqB bo4 rfl rfl) ⟨_, rfl, congrArg (fun b => some (Value.bool b)) hg_46_1⟩ rfl ?_
                                              refine QK.val _ (Yl.pickF rfl (hg_46_1) rfl) trivial rfl ?_
                                              refine QK.val _ (Yl.assign rfl) trivial rfl ?_
                                              refine QK.nil (QK.fin ?_)
                                              refine AK.block_normal ?_
                                              refine AK.then_ (hK78 _ ?_)
                                              refine AK.region ?_
                                              refine AK.val _ (Yl.add rfl rfl (by omega)) trivial rfl ?_
                                              refine AK.val _ (Yl.move rfl) trivial rfl ?_
                                              refine AK.nil ?_
                                              refine AK.then_ (hK75 _ _ (u + 1) (by omega) (by omega) (.cons (slB rfl (by rw [take_snocD [] ts u (by omega), apB_snoc, hg_46_1]; rfl)) (.cons (rfl) (.cons rfl (.cons rfl (.cons rfl (.cons rfl (.cons rfl (.cons rfl (.cons rfl (.nil)))))))))) (fun w hw => hw))
                                          · have htk : ts.take u = ts := by rw [show u = ts.length by omega, List.take_length]
                                            refine AK.exit ?_
                                            refine AK.then_exit ?_
                                            refine AK.then_exit ?_
                                            refine AK.block_exit ?_
                                            refine AK.then_ (hK73 _ ?_)
                                            refine AK.seq (fun _ hK80 => ?_)
                                            refine AK.region ?_
                                            refine AK.val _ (Yl.move rfl) trivial rfl ?_
                                            refine AK.val _ (Yl.not rfl) trivial rfl ?_
                                            refine AK.nil ?_
                                            refine AK.then_ (hK80 _ ?_)
                                            refine AK.condB rfl (fun hc16 => ?_) (fun hc16 => ?_)
                                            · refine AK.seq (fun _ hK81 => ?_)
                                              refine AK.region ?_
                                              refine AK.val _ (Yl.assign rfl) trivial rfl ?_
                                              refine AK.nil ?_
                                              refine AK.then_ (hK81 _ ?_)
                                              refine AK.ret ?_
                                              refine AK.block_ret ?_
                                              refine AK.then_ret ?_
                                              refine AK.then_ret ?_
                                              refine AK.block_ret ?_
                                              refine AK.block_ret ?_
                                              refine AK.then_ret ?_
                                              refine AK.then_ret ?_
                                              refine AK.block_ret ?_
                                              refine AK.then_ret ?_
                                              refine AK.ret1 rfl rfl (fun w hw => ⟨_, _, ?_, rfl, Ret.of (hw.pick [] (by decide) rfl rfl)⟩)
                                              refine ⟨false, rfl, ⟨fun h => (by cases h), fun h => ?_⟩, rfl⟩
                                              exfalso
                                              have h1 := h.tst.sep (i : Int) (j : Int) ⟨by omega, by omega⟩ ⟨by omega, by omega⟩ (apB_iff.1 (by rw [htk] at hc16; simpa using hc16))
                                              omega
                                            · have hap : apB m ts (i : Int) (j : Int) = true := by rw [htk] at hc16; simpa using hc16
                                              refine AK.skip ?_
                                              refine AK.block_normal ?_
                                              refine AK.then_ (hK71 _ ?_)
                                              refine AK.region ?_
                                              refine AK.val _ (Yl.move rfl) trivial rfl ?_
                                              refine AK.val _ (Yl.add rfl rfl (by omega)) trivial rfl ?_
                                              refine AK.val _ (Yl.assign rfl) trivial rfl ?_
                                              refine AK.nil ?_
                                              refine AK.then_ (hK68 _ _ (j + 1) ⟨by omega, all_succ hg6.2 hap⟩ (by omega) (.cons (rfl) (.cons rfl (.cons rfl (.cons rfl (.cons rfl (.nil)))))) (fun w hw => hw))
                                      · refine AK.exit ?_
                                        refine AK.then_exit ?_
                                        refine AK.then_exit ?_
                                        refine AK.block_exit ?_
                                        refine AK.block_normal ?_
                                        refine AK.then_ (hK66 _ ?_)
                                        refine AK.region ?_
                                        refine AK.val _ (Yl.move rfl) trivial rfl ?_
                                        refine AK.val _ (Yl.add rfl rfl (by omega)) trivial rfl ?_
                                        refine AK.val _ (Yl.assign rfl) trivial rfl ?_
                                        refine AK.nil ?_
                                        refine AK.then_ (hK63 _ _ (i + 1) ⟨by omega, all_succ hg5.2 (fun q hq => hg6.2 q (by omega))⟩ (by omega) (.cons (rfl) (.cons rfl (.cons rfl (.cons rfl (.nil))))) (fun w hw => hw))
                                  · refine AK.exit ?_
                                    refine AK.then_exit ?_
                                    refine AK.then_exit ?_
                                    refine AK.block_exit ?_
                                    refine AK.then_ (hK61 _ ?_)
                                    refine AK.seq (fun _ hK82 => ?_)
                                    refine AK.region ?_
                                    refine AK.val _ (Yl.assign rfl) trivial rfl ?_
                                    refine AK.nil ?_
                                    refine AK.then_ (hK82 _ ?_)
                                    refine AK.ret ?_
                                    refine AK.ret1 rfl rfl (fun w hw => ⟨_, _, ?_, rfl, Ret.of (hw.pick [] (by decide) rfl rfl)⟩)
                                    refine ⟨true, rfl, ⟨fun _ => ⟨hv, hvm, hLL, MapOK.mk' hml hbd hst0 (fun i hi => hg1.2 i (by omega)), ⟨hal1, fun i hi => hg3.2 i (by omega)⟩, ⟨htl1, fun a ha => (by obtain ⟨i, hi, e⟩ := mem_getD [] ha; rw [← e]; exact hg4.2 i (by omega)), apB_sep (fun i hi => hg5.2 i (by omega))⟩⟩, fun _ => rfl⟩, rfl⟩

set_option maxHeartbeats 1000000 in
set_option maxRecDepth 100000 in
theorem l_checks (w : World) (v : Value) (d : Dfa) (h : RdD (fun _ => False) w v d) (vm : Value) (m : Dfa) (k : RdD (fun _ => False) w vm m) (vp va vt : Value) (mp : List Int) (ac ts : List (List UInt8)) (hp : RdL (fun _ => False) (Value.int .i64) w vp mp) (ha : RdL (fun _ => False) sv w va ac) (hla : ∀ a ∈ ac, a.length ≤ 9223372036854775807) (ht : RdL (fun _ => False) sv w vt ts) (hlt : ∀ a ∈ ts, a.length ≤ 9223372036854775807) : CallS Try.prog 10 [v, vm, .agg #[vp, va, vt]] w (fun r o => r = .bool true ∧ o = []) := by
  have h0 := h
  obtain ⟨vF, vN, rfl, hF, hN⟩ := h
  have hF0 := hF
  have hN0 := hN
  obtain ⟨rs, hrl, hNr, hNi⟩ := hN
  have sF := hF.sl
  have sN := hNr.sl
  have hmf := hF.le
  have hmn := hNr.le
  unfold RdL at hF
  have k0 := k
  obtain ⟨uF, uN, rfl, gF, gN⟩ := k
  have gF0 := gF
  have gN0 := gN
  obtain ⟨ss, gsl, gNr, gNi⟩ := gN
  have tF := gF.sl
  have tN := gNr.sl
  have gmf := gF.le
  have gmn := gNr.le
  unfold RdL at gF
  have hp0 := hp
  have ha0 := ha
  have ht0 := ht
  have hps := hp.sl
  have has := ha.sl
  have hts := ht.sl
  have hpl := hp.le
  have hal := ha.le
  have htl := ht.le
  unfold RdL at hp ha ht
  refine spec_of Try.func10 rfl (Nat.le_of_ble_eq_true rfl) ?_
  refine AK.seq (fun _ hK1 => ?_)
  refine AK.region ?_
  refine AK.box_ (E := 25) (cs := [.int .i64 d.L, .int .i64 d.s, vF, vN]) rfl rfl rfl trivial rfl (fun bx3 => ?_)
  refine AK.box_ (E := 25) (cs := [.int .i64 m.L, .int .i64 m.s, uF, uN]) rfl rfl rfl trivial rfl (fun bx4 => ?_)
  refine AK.box_ (E := 51) (cs := [vp, va, vt]) rfl rfl rfl trivial rfl (fun bx5 => ?_)
  refine AK.val _ (Yl.assign rfl) trivial rfl ?_
  refine AK.nil ?_
  refine AK.then_ (hK1 _ ?_)
  refine AK.seq (fun _ hK2 => ?_)
  refine AK.seq (fun _ hK3 => ?_)
  refine AK.region ?_
  refine AK.val _ (Yl.fieldAddr fd25_2 rfl) trivial rfl ?_
  refine AK.val _ (Yl.loadBox on22 rfl (by first | ((repeat (first | exact .hd | apply BoxS.tl | apply MapS.tl)); done) | assumption | exact BoxS.arg (by assumption)) rfl) trivial rfl ?_
  refine AK.val _ (Yl.lenR sl22 rfl (by first | exact .arg ‹_› | ((repeat (first | exact .hd | apply RdS.tl)); done) | assumption)) trivial rfl ?_
  refine AK.val _ (Yl.gtr rfl rfl) trivial rfl ?_
  refine AK.val _ (Yl.move rfl) trivial rfl ?_
  refine AK.splitB (g := 11) rfl (fun hg_1_4 => ?_) (fun hg_1_4 => ?_)
  · have hg_1_4' := hg_1_4
    try simp only [decide_eq_true_eq, decide_eq_false_iff_not, Bool.not_eq_true', Bool.not_eq_false', Bool.not_not, ne_eq, Decidable.not_not, Int.not_lt, Int.not_le, beq_iff_eq, bne_iff_ne, Bool.and_eq_true, Bool.or_eq_true, Bool.or_eq_false_iff, Bool.not_false, Bool.not_true, reduceCtorEq, not_true_eq_false, not_false_eq_true] at hg_1_4'
    refine AK.pass rfl rfl (hg_1_4) rfl ?_
    refine AK.pass rfl rfl (hg_1_4) rfl ?_
    refine AK.pass rfl rfl (hg_1_4) rfl ?_
    refine AK.pass rfl rfl (hg_1_4) rfl ?_
    refine AK.val _ (Yl.pickT rfl (hg_1_4) rfl) trivial rfl ?_
    refine AK.nil ?_
    refine AK.then_ (hK3 _ ?_)
    refine AK.cond_t rfl (rfl) ?_
    refine AK.seq (fun _ hK4 => ?_)
    refine AK.region ?_
    refine AK.call co16 rfl (fun w hw => s_awake w) trivial rfl ?_
    rintro r o ⟨rfl, rfl⟩
    refine AK.val _ (Yl.assign rfl) trivial rfl ?_
    refine AK.nil ?_
    refine AK.then_ (hK4 _ ?_)
    refine AK.ret ?_
    refine AK.then_ret ?_
    refine AK.ret1 rfl rfl (fun w hw => ⟨_, _, ?_, rfl, Ret.of (hw.pick [] (by decide) rfl rfl)⟩)
    exact ⟨rfl, rfl⟩
  · have hg_1_4' := hg_1_4
    try simp only [decide_eq_true_eq, decide_eq_false_iff_not, Bool.not_eq_true', Bool.not_eq_false', Bool.not_not, ne_eq, Decidable.not_not, Int.not_lt, Int.not_le, beq_iff_eq, bne_iff_ne, Bool.and_eq_true, Bool.or_eq_true, Bool.or_eq_false_iff, Bool.not_false, Bool.not_true, reduceCtorEq, not_true_eq_false, not_false_eq_true] at hg_1_4'
    refine AK.val _ (Yl.fieldAddr fd25_2 rfl) ⟨_, rfl, congrArg (fun b => some (Value.bool b)) hg_1_4⟩ rfl ?_
    refine AK.val _ (Yl.loadBox on22 rfl (by first | ((repeat (first | exact .hd | apply BoxS.tl | apply MapS.tl)); done) | assumption | exact BoxS.arg (by assumption)) rfl) ⟨_, rfl, congrArg (fun b => some (Value.bool b)) hg_1_4⟩ rfl ?_
    refine AK.val _ (Yl.lenR sl22 rfl (by first | exact .arg ‹_› | ((repeat (first | exact .hd | apply RdS.tl)); done) | assumption)) ⟨_, rfl, congrArg (fun b => some (Value.bool b)) hg_1_4⟩ rfl ?_
    refine AK.val _ (Yl.gtr rfl rfl) ⟨_, rfl, congrArg (fun b => some (Value.bool b)) hg_1_4⟩ rfl ?_
    refine AK.val _ (Yl.pickF rfl (hg_1_4) rfl) trivial rfl ?_
    refine AK.nil ?_
    refine AK.then_ (hK3 _ ?_)
    refine AK.condD rfl (fun hc0 => ?_) (fun hc0 => ?_)
    · refine AK.seq (fun _ hK5 => ?_)
      refine AK.region ?_
      refine AK.call co16 rfl (fun w hw => s_awake w) trivial rfl ?_
      rintro r o ⟨rfl, rfl⟩
      refine AK.val _ (Yl.assign rfl) trivial rfl ?_
      refine AK.nil ?_
      refine AK.then_ (hK5 _ ?_)
      refine AK.ret ?_
      refine AK.then_ret ?_
      refine AK.ret1 rfl rfl (fun w hw => ⟨_, _, ?_, rfl, Ret.of (hw.pick [] (by decide) rfl rfl)⟩)
      exact ⟨rfl, rfl⟩
    · refine AK.skip ?_
      refine AK.then_ (hK2 _ ?_)
      refine AK.seq (fun _ hK6 => ?_)
      try (conv => enter [2, 2]; dsimp only [List.set_cons_zero, List.set_cons_succ, List.cons_append, List.nil_append])
      refine AK.held 13 mixed ?_
      refine HeldK.first 0 (fuel := 12) (listed' := #[true, false, false, false, false, false, false, false, false, false, false, false, false]) _ rfl (by kernel_rfl) rfl rfl (Yl.loadBoxG ag25 rfl (by first | ((repeat (first | exact .hd | apply BoxS.tl | apply MapS.tl)); done) | assumption | exact BoxS.arg (by assumption)) rfl rfl) trivial rfl ?_
      refine HeldK.first 1 (fuel := 11) (listed' := #[true, true, false, false, false, false, false, false, false, false, false, false, false]) _ rfl (by kernel_rfl) rfl rfl (Yl.loadBoxG ag25 rfl (by first | ((repeat (first | exact .hd | apply BoxS.tl | apply MapS.tl)); done) | assumption | exact BoxS.arg (by assumption)) rfl rfl) trivial rfl ?_
      refine HeldK.first 2 (fuel := 10) (listed' := #[true, true, true, false, false, false, false, false, false, false, false, false, false]) _ rfl (by kernel_rfl) rfl rfl (Yl.loadBoxG ag51 rfl (by first | ((repeat (first | exact .hd | apply BoxS.tl | apply MapS.tl)); done) | assumption | exact BoxS.arg (by assumption)) rfl rfl) trivial rfl ?_
      refine HeldK.first 4 (fuel := 9) (listed' := #[true, true, true, false, true, false, false, false, false, false, false, false, false]) _ rfl (by kernel_rfl) rfl rfl (Yl.loadBoxG ag25 rfl (by first | ((repeat (first | exact .hd | apply BoxS.tl | apply MapS.tl)); done) | assumption | exact BoxS.arg (by assumption)) rfl rfl) trivial rfl ?_
      refine HeldK.first 5 (fuel := 8) (listed' := #[true, true, true, false, true, true, false, false, false, false, false, false, false]) _ rfl (by kernel_rfl) rfl rfl (Yl.loadBoxG ag25 rfl (by first | ((repeat (first | exact .hd | apply BoxS.tl | apply MapS.tl)); done) | assumption | exact BoxS.arg (by assumption)) rfl rfl) trivial rfl ?_
      refine HeldK.first 6 (fuel := 7) (listed' := #[true, true, true, false, true, true, true, false, false, false, false, false, false]) _ rfl (by kernel_rfl) rfl rfl (Yl.loadBoxG ag51 rfl (by first | ((repeat (first | exact .hd | apply BoxS.tl | apply MapS.tl)); done) | assumption | exact BoxS.arg (by assumption)) rfl rfl) trivial rfl ?_
      refine HeldK.one 3 (fuel := 6) (listed' := #[true, true, true, true, true, true, true, false, false, false, false, false, false]) (by kernel_rfl) rfl rfl ?_
      refine AK.call co32 rfl (fun w hw => s_check w _ d (h0.at hw) _ m (k0.at hw) _ _ _ mp ac ts (hp0.at hw) (ha0.at hw) hla (ht0.at hw) hlt) trivial rfl ?_
      rintro r o ⟨b1, rfl, hb1, rfl⟩
      refine AK.nil ?_
      try (conv => enter [2, 2]; dsimp only [List.set_cons_zero, List.set_cons_succ, List.cons_append, List.nil_append])
      refine HeldK.back (by repeat (first | exact HWle.nil | refine HWle.cons Ale.rfl ?_ | refine HWle.cons Ale.fst ?_)) ?_
      refine HeldK.one 7 (fuel := 5) (listed' := #[true, true, true, true, true, true, true, true, false, false, false, false, false]) (by kernel_rfl) rfl rfl ?_
      refine AK.call co33 rfl (fun w hw => s_refcheck w _ d (h0.at hw) _ m (k0.at hw) _ _ _ mp ac ts (hp0.at hw) (ha0.at hw) hla (ht0.at hw) hlt) trivial rfl ?_
      rintro r o ⟨b2, rfl, hb2, rfl⟩
      refine AK.nil ?_
      try (conv => enter [2, 2]; dsimp only [List.set_cons_zero, List.set_cons_succ, List.cons_append, List.nil_append])
      refine HeldK.back (by repeat (first | exact HWle.nil | refine HWle.cons Ale.rfl ?_ | refine HWle.cons Ale.fst ?_)) ?_
      refine HeldK.first 8 (fuel := 4) (listed' := #[true, true, true, true, true, true, true, true, true, false, false, false, false]) _ rfl (by kernel_rfl) rfl rfl (Yl.eqlB bo4 rfl rfl) trivial rfl ?_
      refine HeldK.first 9 (fuel := 3) (listed' := #[true, true, true, true, true, true, true, true, true, true, false, false, false]) _ rfl (by kernel_rfl) rfl rfl (Yl.move rfl) trivial rfl ?_
      refine HeldK.one 10 (fuel := 2) (listed' := #[true, true, true, true, true, true, true, true, true, true, true, false, false]) (by kernel_rfl) rfl rfl ?_
      refine AK.knownT (g := 27) rfl (by rw [show b1 = b2 from Bool.eq_iff_iff.2 (hb1.trans hb2.symm)]; exact beq_self_eq_true _) (fun hg_3_9 => ?_)
      refine AK.call co16 rfl (fun w hw => s_awake w) ⟨_, rfl, congrArg (fun b => some (Value.bool b)) hg_3_9⟩ rfl ?_
      rintro r o ⟨rfl, rfl⟩
      refine AK.nil ?_
      try (conv => enter [2, 2]; dsimp only [List.set_cons_zero, List.set_cons_succ, List.cons_append, List.nil_append])
      refine HeldK.back (by repeat (first | exact HWle.nil | refine HWle.cons Ale.rfl ?_ | refine HWle.cons Ale.fst ?_)) ?_
      refine HeldK.first 11 (fuel := 1) (listed' := #[true, true, true, true, true, true, true, true, true, true, true, true, false]) _ rfl (by kernel_rfl) rfl rfl (Yl.pickT rfl (hg_3_9) rfl) trivial rfl ?_
      refine HeldK.first 12 (fuel := 0) (listed' := #[true, true, true, true, true, true, true, true, true, true, true, true, true]) _ rfl (by kernel_rfl) rfl rfl (Yl.assign rfl) trivial rfl ?_
      refine HeldK.done (by kernel_rfl) ?_
      refine AK.then_ (hK6 _ ?_)
      refine AK.ret ?_
      refine AK.ret1 rfl rfl (fun w hw => ⟨_, _, ?_, rfl, Ret.of (hw.pick [] (by decide) rfl rfl)⟩)
      exact ⟨rfl, rfl⟩

end Go.Proofs.Ytoikhoniogicdaa
