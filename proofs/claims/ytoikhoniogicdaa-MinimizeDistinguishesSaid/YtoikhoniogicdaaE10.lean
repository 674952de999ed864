import Derived.Test.YtoikhoniogicdaaE8
import Derived.Test.YtoikhoniogicdaaE9
import Derived.Test.YtoikhoniogicdaaE5
import Derived.Test.YtoikhoniogicdaaDx
set_option linter.unusedVariables false
set_option linter.unusedSimpArgs false
namespace Go.Proofs.Ytoikhoniogicdaa
open Go.Sx Go.RowKit
theorem disV_len (d : Dfa) (p q : Int) : (DisV d p q).1.length ≤ 9223372036854775807 := by
  unfold DisV
  split
  · rename_i h
    have := dis_len h.1 h.2.1 h.2.2
    have := h.1.n
    omega
  · simp
theorem tells_facts {d : Dfa} (hv : VD d) {p q : Int} (hp : InR d p) (hq : InR d q) : DisV d p q = DisD d p q ∧ (DisV d p q).2 = decide (¬ (ClsV d).getD p.toNat 0 = (ClsV d).getD q.toNat 0) ∧ (ClsV d).length = d.fin.length ∧
    ((DisV d p q).2 = true → (0 ≤ RunV d p (DisV d p q).1 ∧ RunV d p (DisV d p q).1 < d.fin.length) ∧ (0 ≤ RunV d q (DisV d p q).1 ∧ RunV d q (DisV d p q).1 < d.fin.length) ∧ ¬ d.fin.getD (RunV d p (DisV d p q).1).toNat false = d.fin.getD (RunV d q (DisV d p q).1).toNat false) ∧
    (∀ l, 0 ≤ RunV d p l → 0 ≤ RunV d q l → ¬ d.fin.getD (RunV d p l).toNat false = d.fin.getD (RunV d q l).toNat false → (DisV d p q).2 = true ∧ CmpV (DisV d p q).1 l ≤ 0) := by
  have e : DisV d p q = DisD d p q := if_pos ⟨hv, hp, hq⟩
  have ec : ClsV d = clsD d := if_pos hv
  have hw := dis_valid hv hp hq
  obtain ⟨s1, s2⟩ := dis_spec hv hp hq
  have hrun : ∀ (r : Int) (l : List UInt8), InR d r → validW d.L l = true → RunV d r l = runI d r l := fun r l hr hl => by
    unfold RunV; rw [if_pos ⟨(errV_iff d).2 hv, hr, hl⟩]
  have okw : ∀ l, validW d.L l = true → Okw d l := fun l hl => by unfold validW at hl; rw [Bool.and_eq_true] at hl; exact hl.2
  refine ⟨e, ?_, by rw [ec, cls_len], ?_, ?_⟩
  · rw [e, ec]
    rw [Bool.eq_iff_iff, dis_iff hv hp hq, decide_eq_true_eq, ← cls_eq hv hp hq]
    rfl
  · intro h
    rw [e] at h ⊢
    obtain ⟨h1, h2⟩ := s1 h
    rw [hrun p _ hp hw, hrun q _ hq hw]
    exact ⟨runI_inr hv _ p hp h1, runI_inr hv _ q hq h1, h2⟩
  · intro l h1 h2 h3
    obtain ⟨_, e1, _, hl⟩ := RunV_bd h1
    obtain ⟨_, e2, _, _⟩ := RunV_bd h2
    rw [e1, e2] at h3
    rw [e]
    obtain ⟨g1, g2⟩ := s2 l (okw l hl) h3
    exact ⟨g1, CmpV_le.2 g2⟩
set_option maxHeartbeats 1000000 in
set_option maxRecDepth 100000 in
theorem l_distinguishes (w : World) (v : Value) (d : Dfa) (h : RdD (fun _ => False) w v d) (p q : Int) : CallS Try.prog 7 [v, .int .i64 p, .int .i64 q] w (fun r o => r = .bool true ∧ o = []) := by
  have h0 := h
  obtain ⟨vF, vN, rfl, hF, hN⟩ := h
  have hF0 := hF
  have hN0 := hN
  obtain ⟨rs, hrl, hNr, hNi⟩ := hN
  have sF := hF.sl
  have sN := hNr.sl
  have hmf := hF.le
  have hmn := hNr.le
  unfold RdL at hF
  refine spec_of Try.func7 rfl (Nat.le_of_ble_eq_true rfl) ?_
  refine AK.seq (fun _ hK1 => ?_)
  refine AK.region ?_
  refine AK.box_ (E := 25) (cs := [.int .i64 d.L, .int .i64 d.s, vF, vN]) rfl rfl rfl trivial rfl (fun bx3 => ?_)
  refine AK.val _ (Yl.assign rfl) trivial rfl ?_
  refine AK.nil ?_
  refine AK.then_ (hK1 _ ?_)
  refine AK.seq (fun _ hK2 => ?_)
  refine AK.region ?_
  refine AK.val _ (Yl.loadBoxG ag25 rfl (by first | ((repeat (first | exact .hd | apply BoxS.tl | apply MapS.tl)); done) | assumption | exact BoxS.arg (by assumption)) rfl rfl) trivial rfl ?_
  refine AK.val _ (Yl.move rfl) trivial rfl ?_
  refine AK.val _ (Yl.move rfl) trivial rfl ?_
  refine AK.call co27 rfl (fun w hw => s_dis w _ d (h0.at hw) p q) trivial rfl ?_
  rintro r o ⟨rfl, rfl⟩
  refine AK.val _ (Yl.move rfl) trivial rfl ?_
  refine AK.val _ (Yl.extract rfl rfl) trivial rfl ?_
  refine AK.val _ (Yl.extract rfl rfl) trivial rfl ?_
  refine AK.val _ (Yl.assign rfl) trivial rfl ?_
  refine AK.val _ (Yl.assign rfl) trivial rfl ?_
  refine AK.nil ?_
  refine AK.then_ (hK2 _ ?_)
  refine AK.seq (fun _ hK3 => ?_)
  refine AK.seq (fun _ hK4 => ?_)
  refine AK.region ?_
  refine AK.val _ (Yl.loadBoxG ag25 rfl (by first | ((repeat (first | exact .hd | apply BoxS.tl | apply MapS.tl)); done) | assumption | exact BoxS.arg (by assumption)) rfl rfl) trivial rfl ?_
  refine AK.call co15 rfl (fun w hw => s_refvalidate w _ d (h0.at hw)) trivial rfl ?_
  rintro r o ⟨rfl, rfl⟩
  refine AK.val _ (Yl.neq rfl rfl) trivial rfl ?_
  refine AK.val _ (Yl.move rfl) trivial rfl ?_
  refine AK.splitB (g := 21) rfl (fun hg_2_3 => ?_) (fun hg_2_3 => ?_)
  · have hg_2_3' := hg_2_3
    try simp only [decide_eq_true_eq, decide_eq_false_iff_not, Bool.not_eq_true', Bool.not_eq_false', Bool.not_not, ne_eq, Decidable.not_not, Int.not_lt, Int.not_le, beq_iff_eq, bne_iff_ne, Bool.and_eq_true, Bool.or_eq_true, Bool.or_eq_false_iff, Bool.not_false, Bool.not_true, reduceCtorEq, not_true_eq_false, not_false_eq_true] at hg_2_3'
    refine AK.pass rfl rfl (hg_2_3) rfl ?_
    refine AK.pass rfl rfl (hg_2_3) rfl ?_
    refine AK.val _ (Yl.pickT rfl (hg_2_3) rfl) trivial rfl ?_
    refine AK.val _ (Yl.move rfl) trivial rfl ?_
    refine AK.pass rfl rfl rfl rfl ?_
    refine AK.pass rfl rfl rfl rfl ?_
    refine AK.pass rfl rfl rfl rfl ?_
    refine AK.pass rfl rfl rfl rfl ?_
    refine AK.pass rfl rfl rfl rfl ?_
    refine AK.val _ (Yl.pickT rfl (rfl) rfl) trivial rfl ?_
    refine AK.val _ (Yl.move rfl) trivial rfl ?_
    refine AK.pass rfl rfl rfl rfl ?_
    refine AK.pass rfl rfl rfl rfl ?_
    refine AK.val _ (Yl.pickT rfl (rfl) rfl) trivial rfl ?_
    refine AK.val _ (Yl.move rfl) trivial rfl ?_
    refine AK.pass rfl rfl rfl rfl ?_
    refine AK.pass rfl rfl rfl rfl ?_
    refine AK.pass rfl rfl rfl rfl ?_
    refine AK.pass rfl rfl rfl rfl ?_
    refine AK.pass rfl rfl rfl rfl ?_
    refine AK.val _ (Yl.pickT rfl (rfl) rfl) trivial rfl ?_
    refine AK.nil ?_
    refine AK.then_ (hK4 _ ?_)
    refine AK.cond_t rfl (rfl) ?_
    have hbad : ¬ (VD d ∧ InR d p ∧ InR d q) := by
      rintro ⟨h1, h2, h3⟩
      have h4 := (errV_iff d).2 h1
      have := h2.1; have := h2.2; have := h3.1; have := h3.2
      first | omega | (simp_all; done) | (simp_all; omega)
    have hse : DisV d p q = ([], false) := if_neg hbad
    refine AK.seq (fun _ hK5 => ?_)
    refine AK.region ?_
    refine AK.val _ (Yl.move rfl) trivial rfl ?_
    refine AK.val _ (Yl.eqlS un9 rfl rfl) trivial rfl ?_
    refine AK.val _ (Yl.move rfl) trivial rfl ?_
    refine AK.knownT (g := 45) rfl (by rw [hse]; rfl) (fun hg_3_2 => ?_)
    refine AK.val _ (Yl.move rfl) ⟨_, rfl, congrArg (fun b => some (Value.bool b)) hg_3_2⟩ rfl ?_
    refine AK.val _ (Yl.not rfl) ⟨_, rfl, congrArg (fun b => some (Value.bool b)) hg_3_2⟩ rfl ?_
    refine AK.val _ (Yl.pickT rfl (hg_3_2) rfl) trivial rfl ?_
    refine AK.val _ (Yl.move rfl) trivial rfl ?_
    refine AK.knownT (g := 49) rfl (by rw [hse]; rfl) (fun hg_3_6 => ?_)
    refine AK.call co16 rfl (fun w hw => s_awake w) ⟨_, rfl, congrArg (fun b => some (Value.bool b)) hg_3_6⟩ rfl ?_
    rintro r o ⟨rfl, rfl⟩
    refine AK.val _ (Yl.pickT rfl (hg_3_6) rfl) trivial rfl ?_
    refine AK.val _ (Yl.assign rfl) trivial rfl ?_
    refine AK.nil ?_
    refine AK.then_ (hK5 _ ?_)
    refine AK.ret ?_
    refine AK.then_ret ?_
    refine AK.ret1 rfl rfl (fun w hw => ⟨_, _, ?_, rfl, Ret.of (hw.pick [] (by decide) rfl rfl)⟩)
    exact ⟨rfl, rfl⟩
  · have hg_2_3' := hg_2_3
    try simp only [decide_eq_true_eq, decide_eq_false_iff_not, Bool.not_eq_true', Bool.not_eq_false', Bool.not_not, ne_eq, Decidable.not_not, Int.not_lt, Int.not_le, beq_iff_eq, bne_iff_ne, Bool.and_eq_true, Bool.or_eq_true, Bool.or_eq_false_iff, Bool.not_false, Bool.not_true, reduceCtorEq, not_true_eq_false, not_false_eq_true] at hg_2_3'
    refine AK.val _ (Yl.move rfl) ⟨_, rfl, congrArg (fun b => some (Value.bool b)) hg_2_3⟩ rfl ?_
    refine AK.val _ (Yl.lss rfl rfl) ⟨_, rfl, congrArg (fun b => some (Value.bool b)) hg_2_3⟩ rfl ?_
    refine AK.val _ (Yl.pickF rfl (hg_2_3) rfl) trivial rfl ?_
    refine AK.val _ (Yl.move rfl) trivial rfl ?_
    refine AK.splitB (g := 25) rfl (fun hg_2_7 => ?_) (fun hg_2_7 => ?_)
    · have hg_2_7' := hg_2_7
      try simp only [decide_eq_true_eq, decide_eq_false_iff_not, Bool.not_eq_true', Bool.not_eq_false', Bool.not_not, ne_eq, Decidable.not_not, Int.not_lt, Int.not_le, beq_iff_eq, bne_iff_ne, Bool.and_eq_true, Bool.or_eq_true, Bool.or_eq_false_iff, Bool.not_false, Bool.not_true, reduceCtorEq, not_true_eq_false, not_false_eq_true] at hg_2_7'
      refine AK.pass rfl rfl (hg_2_7) rfl ?_
      refine AK.pass rfl rfl (hg_2_7) rfl ?_
      refine AK.pass rfl rfl (hg_2_7) rfl ?_
      refine AK.pass rfl rfl (hg_2_7) rfl ?_
      refine AK.pass rfl rfl (hg_2_7) rfl ?_
      refine AK.val _ (Yl.pickT rfl (hg_2_7) rfl) trivial rfl ?_
      refine AK.val _ (Yl.move rfl) trivial rfl ?_
      refine AK.pass rfl rfl rfl rfl ?_
      refine AK.pass rfl rfl rfl rfl ?_
      refine AK.val _ (Yl.pickT rfl (rfl) rfl) trivial rfl ?_
      refine AK.val _ (Yl.move rfl) trivial rfl ?_
      refine AK.pass rfl rfl rfl rfl ?_
      refine AK.pass rfl rfl rfl rfl ?_
      refine AK.pass rfl rfl rfl rfl ?_
      refine AK.pass rfl rfl rfl rfl ?_
      refine AK.pass rfl rfl rfl rfl ?_
      refine AK.val _ (Yl.pickT rfl (rfl) rfl) trivial rfl ?_
      refine AK.nil ?_
      refine AK.then_ (hK4 _ ?_)
      refine AK.cond_t rfl (rfl) ?_
      have hbad : ¬ (VD d ∧ InR d p ∧ InR d q) := by
        rintro ⟨h1, h2, h3⟩
        have h4 := (errV_iff d).2 h1
        have := h2.1; have := h2.2; have := h3.1; have := h3.2
        first | omega | (simp_all; done) | (simp_all; omega)
      have hse : DisV d p q = ([], false) := if_neg hbad
      refine AK.seq (fun _ hK6 => ?_)
      refine AK.region ?_
      refine AK.val _ (Yl.move rfl) trivial rfl ?_
      refine AK.val _ (Yl.eqlS un9 rfl rfl) trivial rfl ?_
      refine AK.val _ (Yl.move rfl) trivial rfl ?_
      refine AK.knownT (g := 45) rfl (by rw [hse]; rfl) (fun hg_3_2 => ?_)
      refine AK.val _ (Yl.move rfl) ⟨_, rfl, congrArg (fun b => some (Value.bool b)) hg_3_2⟩ rfl ?_
      refine AK.val _ (Yl.not rfl) ⟨_, rfl, congrArg (fun b => some (Value.bool b)) hg_3_2⟩ rfl ?_
      refine AK.val _ (Yl.pickT rfl (hg_3_2) rfl) trivial rfl ?_
      refine AK.val _ (Yl.move rfl) trivial rfl ?_
      refine AK.knownT (g := 49) rfl (by rw [hse]; rfl) (fun hg_3_6 => ?_)
      refine AK.call co16 rfl (fun w hw => s_awake w) ⟨_, rfl, congrArg (fun b => some (Value.bool b)) hg_3_6⟩ rfl ?_
      rintro r o ⟨rfl, rfl⟩
      refine AK.val _ (Yl.pickT rfl (hg_3_6) rfl) trivial rfl ?_
      refine AK.val _ (Yl.assign rfl) trivial rfl ?_
      refine AK.nil ?_
      refine AK.then_ (hK6 _ ?_)
      refine AK.ret ?_
      refine AK.then_ret ?_
      refine AK.ret1 rfl rfl (fun w hw => ⟨_, _, ?_, rfl, Ret.of (hw.pick [] (by decide) rfl rfl)⟩)
      exact ⟨rfl, rfl⟩
    · have hg_2_7' := hg_2_7
      try simp only [decide_eq_true_eq, decide_eq_false_iff_not, Bool.not_eq_true', Bool.not_eq_false', Bool.not_not, ne_eq, Decidable.not_not, Int.not_lt, Int.not_le, beq_iff_eq, bne_iff_ne, Bool.and_eq_true, Bool.or_eq_true, Bool.or_eq_false_iff, Bool.not_false, Bool.not_true, reduceCtorEq, not_true_eq_false, not_false_eq_true] at hg_2_7'
      refine AK.val _ (Yl.move rfl) ⟨_, rfl, congrArg (fun b => some (Value.bool b)) hg_2_7⟩ rfl ?_
      refine AK.val _ (Yl.fieldAddr fd25_2 rfl) ⟨_, rfl, congrArg (fun b => some (Value.bool b)) hg_2_7⟩ rfl ?_
      refine AK.val _ (Yl.loadBox on22 rfl (by first | ((repeat (first | exact .hd | apply BoxS.tl | apply MapS.tl)); done) | assumption | exact BoxS.arg (by assumption)) rfl) ⟨_, rfl, congrArg (fun b => some (Value.bool b)) hg_2_7⟩ rfl ?_
      refine AK.val _ (Yl.lenR sl22 rfl (by first | exact .arg ‹_› | ((repeat (first | exact .hd | apply RdS.tl)); done) | assumption)) ⟨_, rfl, congrArg (fun b => some (Value.bool b)) hg_2_7⟩ rfl ?_
      refine AK.val _ (Yl.geq rfl rfl) ⟨_, rfl, congrArg (fun b => some (Value.bool b)) hg_2_7⟩ rfl ?_
      refine AK.val _ (Yl.pickF rfl (hg_2_7) rfl) trivial rfl ?_
      refine AK.val _ (Yl.move rfl) trivial rfl ?_
      refine AK.splitB (g := 32) rfl (fun hg_2_14 => ?_) (fun hg_2_14 => ?_)
      · have hg_2_14' := hg_2_14
        try simp only [decide_eq_true_eq, decide_eq_false_iff_not, Bool.not_eq_true', Bool.not_eq_false', Bool.not_not, ne_eq, Decidable.not_not, Int.not_lt, Int.not_le, beq_iff_eq, bne_iff_ne, Bool.and_eq_true, Bool.or_eq_true, Bool.or_eq_false_iff, Bool.not_false, Bool.not_true, reduceCtorEq, not_true_eq_false, not_false_eq_true] at hg_2_14'
        refine AK.pass rfl rfl (hg_2_14) rfl ?_
        refine AK.pass rfl rfl (hg_2_14) rfl ?_
        refine AK.val _ (Yl.pickT rfl (hg_2_14) rfl) trivial rfl ?_
        refine AK.val _ (Yl.move rfl) trivial rfl ?_
        refine AK.pass rfl rfl rfl rfl ?_
        refine AK.pass rfl rfl rfl rfl ?_
        refine AK.pass rfl rfl rfl rfl ?_
        refine AK.pass rfl rfl rfl rfl ?_
        refine AK.pass rfl rfl rfl rfl ?_
        refine AK.val _ (Yl.pickT rfl (rfl) rfl) trivial rfl ?_
        refine AK.nil ?_
        refine AK.then_ (hK4 _ ?_)
        refine AK.cond_t rfl (rfl) ?_
        have hbad : ¬ (VD d ∧ InR d p ∧ InR d q) := by
          rintro ⟨h1, h2, h3⟩
          have h4 := (errV_iff d).2 h1
          have := h2.1; have := h2.2; have := h3.1; have := h3.2
          first | omega | (simp_all; done) | (simp_all; omega)
        have hse : DisV d p q = ([], false) := if_neg hbad
        refine AK.seq (fun _ hK7 => ?_)
        refine AK.region ?_
        refine AK.val _ (Yl.move rfl) trivial rfl ?_
        refine AK.val _ (Yl.eqlS un9 rfl rfl) trivial rfl ?_
        refine AK.val _ (Yl.move rfl) trivial rfl ?_
        refine AK.knownT (g := 45) rfl (by rw [hse]; rfl) (fun hg_3_2 => ?_)
        refine AK.val _ (Yl.move rfl) ⟨_, rfl, congrArg (fun b => some (Value.bool b)) hg_3_2⟩ rfl ?_
        refine AK.val _ (Yl.not rfl) ⟨_, rfl, congrArg (fun b => some (Value.bool b)) hg_3_2⟩ rfl ?_
        refine AK.val _ (Yl.pickT rfl (hg_3_2) rfl) trivial rfl ?_
        refine AK.val _ (Yl.move rfl) trivial rfl ?_
        refine AK.knownT (g := 49) rfl (by rw [hse]; rfl) (fun hg_3_6 => ?_)
        refine AK.call co16 rfl (fun w hw => s_awake w) ⟨_, rfl, congrArg (fun b => some (Value.bool b)) hg_3_6⟩ rfl ?_
        rintro r o ⟨rfl, rfl⟩
        refine AK.val _ (Yl.pickT rfl (hg_3_6) rfl) trivial rfl ?_
        refine AK.val _ (Yl.assign rfl) trivial rfl ?_
        refine AK.nil ?_
        refine AK.then_ (hK7 _ ?_)
        refine AK.ret ?_
        refine AK.then_ret ?_
        refine AK.ret1 rfl rfl (fun w hw => ⟨_, _, ?_, rfl, Ret.of (hw.pick [] (by decide) rfl rfl)⟩)
        exact ⟨rfl, rfl⟩
      · have hg_2_14' := hg_2_14
        try simp only [decide_eq_true_eq, decide_eq_false_iff_not, Bool.not_eq_true', Bool.not_eq_false', Bool.not_not, ne_eq, Decidable.not_not, Int.not_lt, Int.not_le, beq_iff_eq, bne_iff_ne, Bool.and_eq_true, Bool.or_eq_true, Bool.or_eq_false_iff, Bool.not_false, Bool.not_true, reduceCtorEq, not_true_eq_false, not_false_eq_true] at hg_2_14'
        refine AK.val _ (Yl.move rfl) ⟨_, rfl, congrArg (fun b => some (Value.bool b)) hg_2_14⟩ rfl ?_
        refine AK.val _ (Yl.lss rfl rfl) ⟨_, rfl, congrArg (fun b => some (Value.bool b)) hg_2_14⟩ rfl ?_
        refine AK.val _ (Yl.pickF rfl (hg_2_14) rfl) trivial rfl ?_
        refine AK.val _ (Yl.move rfl) trivial rfl ?_
        refine AK.splitB (g := 36) rfl (fun hg_2_18 => ?_) (fun hg_2_18 => ?_)
        · have hg_2_18' := hg_2_18
          try simp only [decide_eq_true_eq, decide_eq_false_iff_not, Bool.not_eq_true', Bool.not_eq_false', Bool.not_not, ne_eq, Decidable.not_not, Int.not_lt, Int.not_le, beq_iff_eq, bne_iff_ne, Bool.and_eq_true, Bool.or_eq_true, Bool.or_eq_false_iff, Bool.not_false, Bool.not_true, reduceCtorEq, not_true_eq_false, not_false_eq_true] at hg_2_18'
          refine AK.pass rfl rfl (hg_2_18) rfl ?_
          refine AK.pass rfl rfl (hg_2_18) rfl ?_
          refine AK.pass rfl rfl (hg_2_18) rfl ?_
          refine AK.pass rfl rfl (hg_2_18) rfl ?_
          refine AK.pass rfl rfl (hg_2_18) rfl ?_
          refine AK.val _ (Yl.pickT rfl (hg_2_18) rfl) trivial rfl ?_
          refine AK.nil ?_
          refine AK.then_ (hK4 _ ?_)
          refine AK.cond_t rfl (rfl) ?_
          have hbad : ¬ (VD d ∧ InR d p ∧ InR d q) := by
            rintro ⟨h1, h2, h3⟩
            have h4 := (errV_iff d).2 h1
            have := h2.1; have := h2.2; have := h3.1; have := h3.2
            first | omega | (simp_all; done) | (simp_all; omega)
          have hse : DisV d p q = ([], false) := if_neg hbad
          refine AK.seq (fun _ hK8 => ?_)
          refine AK.region ?_
          refine AK.val _ (Yl.move rfl) trivial rfl ?_
          refine AK.val _ (Yl.eqlS un9 rfl rfl) trivial rfl ?_
          refine AK.val _ (Yl.move rfl) trivial rfl ?_
          refine AK.knownT (g := 45) rfl (by rw [hse]; rfl) (fun hg_3_2 => ?_)
          refine AK.val _ (Yl.move rfl) ⟨_, rfl, congrArg (fun b => some (Value.bool b)) hg_3_2⟩ rfl ?_
          refine AK.val _ (Yl.not rfl) ⟨_, rfl, congrArg (fun b => some (Value.bool b)) hg_3_2⟩ rfl ?_
          refine AK.val _ (Yl.pickT rfl (hg_3_2) rfl) trivial rfl ?_
          refine AK.val _ (Yl.move rfl) trivial rfl ?_
          refine AK.knownT (g := 49) rfl (by rw [hse]; rfl) (fun hg_3_6 => ?_)
          refine AK.call co16 rfl (fun w hw => s_awake w) ⟨_, rfl, congrArg (fun b => some (Value.bool b)) hg_3_6⟩ rfl ?_
          rintro r o ⟨rfl, rfl⟩
          refine AK.val _ (Yl.pickT rfl (hg_3_6) rfl) trivial rfl ?_
          refine AK.val _ (Yl.assign rfl) trivial rfl ?_
          refine AK.nil ?_
          refine AK.then_ (hK8 _ ?_)
          refine AK.ret ?_
          refine AK.then_ret ?_
          refine AK.ret1 rfl rfl (fun w hw => ⟨_, _, ?_, rfl, Ret.of (hw.pick [] (by decide) rfl rfl)⟩)
          exact ⟨rfl, rfl⟩
        · have hg_2_18' := hg_2_18
          try simp only [decide_eq_true_eq, decide_eq_false_iff_not, Bool.not_eq_true', Bool.not_eq_false', Bool.not_not, ne_eq, Decidable.not_not, Int.not_lt, Int.not_le, beq_iff_eq, bne_iff_ne, Bool.and_eq_true, Bool.or_eq_true, Bool.or_eq_false_iff, Bool.not_false, Bool.not_true, reduceCtorEq, not_true_eq_false, not_false_eq_true] at hg_2_18'
          refine AK.val _ (Yl.move rfl) ⟨_, rfl, congrArg (fun b => some (Value.bool b)) hg_2_18⟩ rfl ?_
          refine AK.val _ (Yl.fieldAddr fd25_2 rfl) ⟨_, rfl, congrArg (fun b => some (Value.bool b)) hg_2_18⟩ rfl ?_
          refine AK.val _ (Yl.loadBox on22 rfl (by first | ((repeat (first | exact .hd | apply BoxS.tl | apply MapS.tl)); done) | assumption | exact BoxS.arg (by assumption)) rfl) ⟨_, rfl, congrArg (fun b => some (Value.bool b)) hg_2_18⟩ rfl ?_
          refine AK.val _ (Yl.lenR sl22 rfl (by first | exact .arg ‹_› | ((repeat (first | exact .hd | apply RdS.tl)); done) | assumption)) ⟨_, rfl, congrArg (fun b => some (Value.bool b)) hg_2_18⟩ rfl ?_
          refine AK.val _ (Yl.geq rfl rfl) ⟨_, rfl, congrArg (fun b => some (Value.bool b)) hg_2_18⟩ rfl ?_
          refine AK.val _ (Yl.pickF rfl (hg_2_18) rfl) trivial rfl ?_
          refine AK.nil ?_
          refine AK.then_ (hK4 _ ?_)
          refine AK.condD rfl (fun hc0 => ?_) (fun hc0 => ?_)
          · have hbad : ¬ (VD d ∧ InR d p ∧ InR d q) := by
              rintro ⟨h1, h2, h3⟩
              have h4 := (errV_iff d).2 h1
              have := h2.1; have := h2.2; have := h3.1; have := h3.2
              first | omega | (simp_all; done) | (simp_all; omega)
            have hse : DisV d p q = ([], false) := if_neg hbad
            refine AK.seq (fun _ hK9 => ?_)
            refine AK.region ?_
            refine AK.val _ (Yl.move rfl) trivial rfl ?_
            refine AK.val _ (Yl.eqlS un9 rfl rfl) trivial rfl ?_
            refine AK.val _ (Yl.move rfl) trivial rfl ?_
            refine AK.knownT (g := 45) rfl (by rw [hse]; rfl) (fun hg_3_2 => ?_)
            refine AK.val _ (Yl.move rfl) ⟨_, rfl, congrArg (fun b => some (Value.bool b)) hg_3_2⟩ rfl ?_
            refine AK.val _ (Yl.not rfl) ⟨_, rfl, congrArg (fun b => some (Value.bool b)) hg_3_2⟩ rfl ?_
            refine AK.val _ (Yl.pickT rfl (hg_3_2) rfl) trivial rfl ?_
            refine AK.val _ (Yl.move rfl) trivial rfl ?_
            refine AK.knownT (g := 49) rfl (by rw [hse]; rfl) (fun hg_3_6 => ?_)
            refine AK.call co16 rfl (fun w hw => s_awake w) ⟨_, rfl, congrArg (fun b => some (Value.bool b)) hg_3_6⟩ rfl ?_
            rintro r o ⟨rfl, rfl⟩
            refine AK.val _ (Yl.pickT rfl (hg_3_6) rfl) trivial rfl ?_
            refine AK.val _ (Yl.assign rfl) trivial rfl ?_
            refine AK.nil ?_
            refine AK.then_ (hK9 _ ?_)
            refine AK.ret ?_
            refine AK.then_ret ?_
            refine AK.ret1 rfl rfl (fun w hw => ⟨_, _, ?_, rfl, Ret.of (hw.pick [] (by decide) rfl rfl)⟩)
            exact ⟨rfl, rfl⟩
          · have hv : VD d := (errV_iff d).1 hg_2_3'
            have hip : InR d p := ⟨by omega, by omega⟩
            have hiq : InR d q := ⟨by omega, by omega⟩
            have hse : DisV d p q = DisD d p q := if_pos ⟨hv, hip, hiq⟩
            refine AK.skip ?_
            refine AK.then_ (hK3 _ ?_)
            refine AK.seq (fun _ hK10 => ?_)
            refine AK.seq (fun _ hK11 => ?_)
            refine AK.region ?_
            refine AK.val _ (Yl.fieldAddr fd25_2 rfl) trivial rfl ?_
            refine AK.val _ (Yl.loadBox on22 rfl (by first | ((repeat (first | exact .hd | apply BoxS.tl | apply MapS.tl)); done) | assumption | exact BoxS.arg (by assumption)) rfl) trivial rfl ?_
            refine AK.val _ (Yl.lenR sl22 rfl (by first | exact .arg ‹_› | ((repeat (first | exact .hd | apply RdS.tl)); done) | assumption)) trivial rfl ?_
            refine AK.val _ (Yl.gtr rfl rfl) trivial rfl ?_
            refine AK.nil ?_
            refine AK.then_ (hK11 _ ?_)
            refine AK.condD rfl (fun hc1 => ?_) (fun hc1 => ?_)
            · refine AK.seq (fun _ hK12 => ?_)
              refine AK.region ?_
              refine AK.call co16 rfl (fun w hw => s_awake w) trivial rfl ?_
              rintro r o ⟨rfl, rfl⟩
              refine AK.val _ (Yl.assign rfl) trivial rfl ?_
              refine AK.nil ?_
              refine AK.then_ (hK12 _ ?_)
              refine AK.ret ?_
              refine AK.then_ret ?_
              refine AK.ret1 rfl rfl (fun w hw => ⟨_, _, ?_, rfl, Ret.of (hw.pick [] (by decide) rfl rfl)⟩)
              exact ⟨rfl, rfl⟩
            · refine AK.skip ?_
              refine AK.then_ (hK10 _ ?_)
              refine AK.seq (fun _ hK13 => ?_)
              refine AK.region ?_
              refine AK.val _ (Yl.loadBoxG ag25 rfl (by first | ((repeat (first | exact .hd | apply BoxS.tl | apply MapS.tl)); done) | assumption | exact BoxS.arg (by assumption)) rfl rfl) trivial rfl ?_
              refine AK.val _ (Yl.move rfl) trivial rfl ?_
              refine AK.val _ (Yl.move rfl) trivial rfl ?_
              refine AK.call co28 rfl (fun w hw => s_refdis w _ d (h0.at hw) hv p q hip hiq) trivial rfl ?_
              rintro r o ⟨rfl, rfl⟩
              refine AK.val _ (Yl.move rfl) trivial rfl ?_
              refine AK.val _ (Yl.extract rfl rfl) trivial rfl ?_
              refine AK.val _ (Yl.extract rfl rfl) trivial rfl ?_
              refine AK.val _ (Yl.assign rfl) trivial rfl ?_
              refine AK.val _ (Yl.assign rfl) trivial rfl ?_
              refine AK.nil ?_
              refine AK.then_ (hK13 _ ?_)
              refine AK.seq (fun _ hK14 => ?_)
              refine AK.region ?_
              refine AK.val _ (Yl.move rfl) trivial rfl ?_
              refine AK.val _ (Yl.move rfl) trivial rfl ?_
              refine AK.val _ (Yl.eqlS un9 rfl rfl) trivial rfl ?_
              refine AK.val _ (Yl.move rfl) trivial rfl ?_
              refine AK.knownT (g := 67) rfl (decide_eq_true (by rw [hse])) (fun hg_7_3 => ?_)
              refine AK.val _ (Yl.move rfl) ⟨_, rfl, congrArg (fun b => some (Value.bool b)) hg_7_3⟩ rfl ?_
              refine AK.val _ (Yl.move rfl) ⟨_, rfl, congrArg (fun b => some (Value.bool b)) hg_7_3⟩ rfl ?_
              refine AK.val _ (Yl.eqlB bo4 rfl rfl) ⟨_, rfl, congrArg (fun b => some (Value.bool b)) hg_7_3⟩ rfl ?_
              refine AK.val _ (Yl.pickT rfl (hg_7_3) rfl) trivial rfl ?_
              refine AK.val _ (Yl.move rfl) trivial rfl ?_
              refine AK.knownT (g := 72) rfl (by rw [hse]; exact beq_self_eq_true _) (fun hg_7_8 => ?_)
              refine AK.call co16 rfl (fun w hw => s_awake w) ⟨_, rfl, congrArg (fun b => some (Value.bool b)) hg_7_8⟩ rfl ?_
              rintro r o ⟨rfl, rfl⟩
              refine AK.val _ (Yl.pickT rfl (hg_7_8) rfl) trivial rfl ?_
              refine AK.val _ (Yl.assign rfl) trivial rfl ?_
              refine AK.nil ?_
              refine AK.then_ (hK14 _ ?_)
              refine AK.ret ?_
              refine AK.ret1 rfl rfl (fun w hw => ⟨_, _, ?_, rfl, Ret.of (hw.pick [] (by decide) rfl rfl)⟩)
              exact ⟨rfl, rfl⟩

set_option maxHeartbeats 2000000 in
set_option maxRecDepth 100000 in
theorem l_tells (w : World) (v : Value) (d : Dfa) (h : RdD (fun _ => False) w v d) (p q : Int) (l : List UInt8) (hm : l.length ≤ 9223372036854775807) : CallS Try.prog 8 [v, .int .i64 p, .int .i64 q, sv l] w (fun r o => r = .bool true ∧ o = []) := by
  have h0 := h
  obtain ⟨vF, vN, rfl, hF, hN⟩ := h
  have hF0 := hF
  have hN0 := hN
  obtain ⟨rs, hrl, hNr, hNi⟩ := hN
  have sF := hF.sl
  have sN := hNr.sl
  have hmf := hF.le
  have hmn := hNr.le
  unfold RdL at hF
  refine spec_of Try.func8 rfl (Nat.le_of_ble_eq_true rfl) ?_
  refine AK.seq (fun _ hK1 => ?_)
  refine AK.region ?_
  refine AK.box_ (E := 25) (cs := [.int .i64 d.L, .int .i64 d.s, vF, vN]) rfl rfl rfl trivial rfl (fun bx4 => ?_)
  refine AK.val _ (Yl.assign rfl) trivial rfl ?_
  refine AK.nil ?_
  refine AK.then_ (hK1 _ ?_)
  refine AK.seq (fun _ hK2 => ?_)
  refine AK.seq (fun _ hK3 => ?_)
  refine AK.region ?_
  refine AK.val _ (Yl.loadBoxG ag25 rfl (by first | ((repeat (first | exact .hd | apply BoxS.tl | apply MapS.tl)); done) | assumption | exact BoxS.arg (by assumption)) rfl rfl) trivial rfl ?_
  refine AK.call co22 rfl (fun w hw => s_small w _ d (h0.at hw) 20) trivial rfl ?_
  rintro r o ⟨rfl, rfl⟩
  refine AK.val _ (Yl.not rfl) trivial rfl ?_
  refine AK.val _ (Yl.move rfl) trivial rfl ?_
  refine AK.splitB (g := 19) rfl (fun hg_1_3 => ?_) (fun hg_1_3 => ?_)
  · have hg_1_3' := hg_1_3
    try simp only [decide_eq_true_eq, decide_eq_false_iff_not, Bool.not_eq_true', Bool.not_eq_false', Bool.not_not, ne_eq, Decidable.not_not, Int.not_lt, Int.not_le, beq_iff_eq, bne_iff_ne, Bool.and_eq_true, Bool.or_eq_true, Bool.or_eq_false_iff, Bool.not_false, Bool.not_true, reduceCtorEq, not_true_eq_false, not_false_eq_true] at hg_1_3'
    refine AK.pass rfl rfl (hg_1_3) rfl ?_
    refine AK.pass rfl rfl (hg_1_3) rfl ?_
    refine AK.val _ (Yl.pickT rfl (hg_1_3) rfl) trivial rfl ?_
    refine AK.val _ (Yl.move rfl) trivial rfl ?_
    refine AK.pass rfl rfl rfl rfl ?_
    refine AK.pass rfl rfl rfl rfl ?_
    refine AK.pass rfl rfl rfl rfl ?_
    refine AK.pass rfl rfl rfl rfl ?_
    refine AK.pass rfl rfl rfl rfl ?_
    refine AK.val _ (Yl.pickT rfl (rfl) rfl) trivial rfl ?_
    refine AK.val _ (Yl.move rfl) trivial rfl ?_
    refine AK.pass rfl rfl rfl rfl ?_
    refine AK.pass rfl rfl rfl rfl ?_
    refine AK.val _ (Yl.pickT rfl (rfl) rfl) trivial rfl ?_
    refine AK.val _ (Yl.move rfl) trivial rfl ?_
    refine AK.pass rfl rfl rfl rfl ?_
    refine AK.pass rfl rfl rfl rfl ?_
    refine AK.pass rfl rfl rfl rfl ?_
    refine AK.pass rfl rfl rfl rfl ?_
    refine AK.pass rfl rfl rfl rfl ?_
    refine AK.val _ (Yl.pickT rfl (rfl) rfl) trivial rfl ?_
    refine AK.nil ?_
    refine AK.then_ (hK3 _ ?_)
    refine AK.cond_t rfl (rfl) ?_
    refine AK.seq (fun _ hK4 => ?_)
    refine AK.region ?_
    refine AK.call co16 rfl (fun w hw => s_awake w) trivial rfl ?_
    rintro r o ⟨rfl, rfl⟩
    refine AK.val _ (Yl.assign rfl) trivial rfl ?_
    refine AK.nil ?_
    refine AK.then_ (hK4 _ ?_)
    refine AK.ret ?_
    refine AK.then_ret ?_
    refine AK.ret1 rfl rfl (fun w hw => ⟨_, _, ?_, rfl, Ret.of (hw.pick [] (by decide) rfl rfl)⟩)
    exact ⟨rfl, rfl⟩
  · have hg_1_3' := hg_1_3
    try simp only [decide_eq_true_eq, decide_eq_false_iff_not, Bool.not_eq_true', Bool.not_eq_false', Bool.not_not, ne_eq, Decidable.not_not, Int.not_lt, Int.not_le, beq_iff_eq, bne_iff_ne, Bool.and_eq_true, Bool.or_eq_true, Bool.or_eq_false_iff, Bool.not_false, Bool.not_true, reduceCtorEq, not_true_eq_false, not_false_eq_true] at hg_1_3'
    refine AK.val _ (Yl.move rfl) ⟨_, rfl, congrArg (fun b => some (Value.bool b)) hg_1_3⟩ rfl ?_
    refine AK.val _ (Yl.lss rfl rfl) ⟨_, rfl, congrArg (fun b => some (Value.bool b)) hg_1_3⟩ rfl ?_
    refine AK.val _ (Yl.pickF rfl (hg_1_3) rfl) trivial rfl ?_
    refine AK.val _ (Yl.move rfl) trivial rfl ?_
    refine AK.splitB (g := 23) rfl (fun hg_1_7 => ?_) (fun hg_1_7 => ?_)
    · have hg_1_7' := hg_1_7
      try simp only [decide_eq_true_eq, decide_eq_false_iff_not, Bool.not_eq_true', Bool.not_eq_false', Bool.not_not, ne_eq, Decidable.not_not, Int.not_lt, Int.not_le, beq_iff_eq, bne_iff_ne, Bool.and_eq_true, Bool.or_eq_true, Bool.or_eq_false_iff, Bool.not_false, Bool.not_true, reduceCtorEq, not_true_eq_false, not_false_eq_true] at hg_1_7'
      refine AK.pass rfl rfl (hg_1_7) rfl ?_
      refine AK.pass rfl rfl (hg_1_7) rfl ?_
      refine AK.pass rfl rfl (hg_1_7) rfl ?_
      refine AK.pass rfl rfl (hg_1_7) rfl ?_
      refine AK.pass rfl rfl (hg_1_7) rfl ?_
      refine AK.val _ (Yl.pickT rfl (hg_1_7) rfl) trivial rfl ?_
      refine AK.val _ (Yl.move rfl) trivial rfl ?_
      refine AK.pass rfl rfl rfl rfl ?_
      refine AK.pass rfl rfl rfl rfl ?_
      refine AK.val _ (Yl.pickT rfl (rfl) rfl) trivial rfl ?_
      refine AK.val _ (Yl.move rfl) trivial rfl ?_
      refine AK.pass rfl rfl rfl rfl ?_
      refine AK.pass rfl rfl rfl rfl ?_
      refine AK.pass rfl rfl rfl rfl ?_
      refine AK.pass rfl rfl rfl rfl ?_
      refine AK.pass rfl rfl rfl rfl ?_
      refine AK.val _ (Yl.pickT rfl (rfl) rfl) trivial rfl ?_
      refine AK.nil ?_
      refine AK.then_ (hK3 _ ?_)
      refine AK.cond_t rfl (rfl) ?_
      refine AK.seq (fun _ hK5 => ?_)
      refine AK.region ?_
      refine AK.call co16 rfl (fun w hw => s_awake w) trivial rfl ?_
      rintro r o ⟨rfl, rfl⟩
      refine AK.val _ (Yl.assign rfl) trivial rfl ?_
      refine AK.nil ?_
      refine AK.then_ (hK5 _ ?_)
      refine AK.ret ?_
      refine AK.then_ret ?_
      refine AK.ret1 rfl rfl (fun w hw => ⟨_, _, ?_, rfl, Ret.of (hw.pick [] (by decide) rfl rfl)⟩)
      exact ⟨rfl, rfl⟩
    · have hg_1_7' := hg_1_7
      try simp only [decide_eq_true_eq, decide_eq_false_iff_not, Bool.not_eq_true', Bool.not_eq_false', Bool.not_not, ne_eq, Decidable.not_not, Int.not_lt, Int.not_le, beq_iff_eq, bne_iff_ne, Bool.and_eq_true, Bool.or_eq_true, Bool.or_eq_false_iff, Bool.not_false, Bool.not_true, reduceCtorEq, not_true_eq_false, not_false_eq_true] at hg_1_7'
      refine AK.val _ (Yl.move rfl) ⟨_, rfl, congrArg (fun b => some (Value.bool b)) hg_1_7⟩ rfl ?_
      refine AK.val _ (Yl.fieldAddr fd25_2 rfl) ⟨_, rfl, congrArg (fun b => some (Value.bool b)) hg_1_7⟩ rfl ?_
      refine AK.val _ (Yl.loadBox on22 rfl (by first | ((repeat (first | exact .hd | apply BoxS.tl | apply MapS.tl)); done) | assumption | exact BoxS.arg (by assumption)) rfl) ⟨_, rfl, congrArg (fun b => some (Value.bool b)) hg_1_7⟩ rfl ?_
      refine AK.val _ (Yl.lenR sl22 rfl (by first | exact .arg ‹_› | ((repeat (first | exact .hd | apply RdS.tl)); done) | assumption)) ⟨_, rfl, congrArg (fun b => some (Value.bool b)) hg_1_7⟩ rfl ?_
      refine AK.val _ (Yl.geq rfl rfl) ⟨_, rfl, congrArg (fun b => some (Value.bool b)) hg_1_7⟩ rfl ?_
      refine AK.val _ (Yl.pickF rfl (hg_1_7) rfl) trivial rfl ?_
      refine AK.val _ (Yl.move rfl) trivial rfl ?_
      refine AK.splitB (g := 30) rfl (fun hg_1_14 => ?_) (fun hg_1_14 => ?_)
      · have hg_1_14' := hg_1_14
        try simp only [decide_eq_true_eq, decide_eq_false_iff_not, Bool.not_eq_true', Bool.not_eq_false', Bool.not_not, ne_eq, Decidable.not_not, Int.not_lt, Int.not_le, beq_iff_eq, bne_iff_ne, Bool.and_eq_true, Bool.or_eq_true, Bool.or_eq_false_iff, Bool.not_false, Bool.not_true, reduceCtorEq, not_true_eq_false, not_false_eq_true] at hg_1_14'
        refine AK.pass rfl rfl (hg_1_14) rfl ?_
        refine AK.pass rfl rfl (hg_1_14) rfl ?_
        refine AK.val _ (Yl.pickT rfl (hg_1_14) rfl) trivial rfl ?_
        refine AK.val _ (Yl.move rfl) trivial rfl ?_
        refine AK.pass rfl rfl rfl rfl ?_
        refine AK.pass rfl rfl rfl rfl ?_
        refine AK.pass rfl rfl rfl rfl ?_
        refine AK.pass rfl rfl rfl rfl ?_
        refine AK.pass rfl rfl rfl rfl ?_
        refine AK.val _ (Yl.pickT rfl (rfl) rfl) trivial rfl ?_
        refine AK.nil ?_
        refine AK.then_ (hK3 _ ?_)
        refine AK.cond_t rfl (rfl) ?_
        refine AK.seq (fun _ hK6 => ?_)
        refine AK.region ?_
        refine AK.call co16 rfl (fun w hw => s_awake w) trivial rfl ?_
        rintro r o ⟨rfl, rfl⟩
        refine AK.val _ (Yl.assign rfl) trivial rfl ?_
        refine AK.nil ?_
        refine AK.then_ (hK6 _ ?_)
        refine AK.ret ?_
        refine AK.then_ret ?_
        refine AK.ret1 rfl rfl (fun w hw => ⟨_, _, ?_, rfl, Ret.of (hw.pick [] (by decide) rfl rfl)⟩)
        exact ⟨rfl, rfl⟩
      · have hg_1_14' := hg_1_14
        try simp only [decide_eq_true_eq, decide_eq_false_iff_not, Bool.not_eq_true', Bool.not_eq_false', Bool.not_not, ne_eq, Decidable.not_not, Int.not_lt, Int.not_le, beq_iff_eq, bne_iff_ne, Bool.and_eq_true, Bool.or_eq_true, Bool.or_eq_false_iff, Bool.not_false, Bool.not_true, reduceCtorEq, not_true_eq_false, not_false_eq_true] at hg_1_14'
        refine AK.val _ (Yl.move rfl) ⟨_, rfl, congrArg (fun b => some (Value.bool b)) hg_1_14⟩ rfl ?_
        refine AK.val _ (Yl.lss rfl rfl) ⟨_, rfl, congrArg (fun b => some (Value.bool b)) hg_1_14⟩ rfl ?_
        refine AK.val _ (Yl.pickF rfl (hg_1_14) rfl) trivial rfl ?_
        refine AK.val _ (Yl.move rfl) trivial rfl ?_
        refine AK.splitB (g := 34) rfl (fun hg_1_18 => ?_) (fun hg_1_18 => ?_)
        · have hg_1_18' := hg_1_18
          try simp only [decide_eq_true_eq, decide_eq_false_iff_not, Bool.not_eq_true', Bool.not_eq_false', Bool.not_not, ne_eq, Decidable.not_not, Int.not_lt, Int.not_le, beq_iff_eq, bne_iff_ne, Bool.and_eq_true, Bool.or_eq_true, Bool.or_eq_false_iff, Bool.not_false, Bool.not_true, reduceCtorEq, not_true_eq_false, not_false_eq_true] at hg_1_18'
          refine AK.pass rfl rfl (hg_1_18) rfl ?_
          refine AK.pass rfl rfl (hg_1_18) rfl ?_
          refine AK.pass rfl rfl (hg_1_18) rfl ?_
          refine AK.pass rfl rfl (hg_1_18) rfl ?_
          refine AK.pass rfl rfl (hg_1_18) rfl ?_
          refine AK.val _ (Yl.pickT rfl (hg_1_18) rfl) trivial rfl ?_
          refine AK.nil ?_
          refine AK.then_ (hK3 _ ?_)
          refine AK.cond_t rfl (rfl) ?_
          refine AK.seq (fun _ hK7 => ?_)
          refine AK.region ?_
          refine AK.call co16 rfl (fun w hw => s_awake w) trivial rfl ?_
          rintro r o ⟨rfl, rfl⟩
          refine AK.val _ (Yl.assign rfl) trivial rfl ?_
          refine AK.nil ?_
          refine AK.then_ (hK7 _ ?_)
          refine AK.ret ?_
          refine AK.then_ret ?_
          refine AK.ret1 rfl rfl (fun w hw => ⟨_, _, ?_, rfl, Ret.of (hw.pick [] (by decide) rfl rfl)⟩)
          exact ⟨rfl, rfl⟩
        · have hg_1_18' := hg_1_18
          try simp only [decide_eq_true_eq, decide_eq_false_iff_not, Bool.not_eq_true', Bool.not_eq_false', Bool.not_not, ne_eq, Decidable.not_not, Int.not_lt, Int.not_le, beq_iff_eq, bne_iff_ne, Bool.and_eq_true, Bool.or_eq_true, Bool.or_eq_false_iff, Bool.not_false, Bool.not_true, reduceCtorEq, not_true_eq_false, not_false_eq_true] at hg_1_18'
          refine AK.val _ (Yl.move rfl) ⟨_, rfl, congrArg (fun b => some (Value.bool b)) hg_1_18⟩ rfl ?_
          refine AK.val _ (Yl.fieldAddr fd25_2 rfl) ⟨_, rfl, congrArg (fun b => some (Value.bool b)) hg_1_18⟩ rfl ?_
          refine AK.val _ (Yl.loadBox on22 rfl (by first | ((repeat (first | exact .hd | apply BoxS.tl | apply MapS.tl)); done) | assumption | exact BoxS.arg (by assumption)) rfl) ⟨_, rfl, congrArg (fun b => some (Value.bool b)) hg_1_18⟩ rfl ?_
          refine AK.val _ (Yl.lenR sl22 rfl (by first | exact .arg ‹_› | ((repeat (first | exact .hd | apply RdS.tl)); done) | assumption)) ⟨_, rfl, congrArg (fun b => some (Value.bool b)) hg_1_18⟩ rfl ?_
          refine AK.val _ (Yl.geq rfl rfl) ⟨_, rfl, congrArg (fun b => some (Value.bool b)) hg_1_18⟩ rfl ?_
          refine AK.val _ (Yl.pickF rfl (hg_1_18) rfl) trivial rfl ?_
          refine AK.nil ?_
          refine AK.then_ (hK3 _ ?_)
          refine AK.condD rfl (fun hc0 => ?_) (fun hc0 => ?_)
          · refine AK.seq (fun _ hK8 => ?_)
            refine AK.region ?_
            refine AK.call co16 rfl (fun w hw => s_awake w) trivial rfl ?_
            rintro r o ⟨rfl, rfl⟩
            refine AK.val _ (Yl.assign rfl) trivial rfl ?_
            refine AK.nil ?_
            refine AK.then_ (hK8 _ ?_)
            refine AK.ret ?_
            refine AK.then_ret ?_
            refine AK.ret1 rfl rfl (fun w hw => ⟨_, _, ?_, rfl, Ret.of (hw.pick [] (by decide) rfl rfl)⟩)
            exact ⟨rfl, rfl⟩
          · have hv : VD d := (by simpa using hg_1_3' : _ ∧ VD d).2
            have hip : InR d p := ⟨by omega, by omega⟩
            have hiq : InR d q := ⟨by omega, by omega⟩
            obtain ⟨hse, hdc, hcll, hsep, hall⟩ := tells_facts hv hip hiq
            have hb1 := @RunV_bd d p l
            have hb2 := @RunV_bd d q l
            refine AK.skip ?_
            refine AK.then_ (hK2 _ ?_)
            refine AK.seq (fun _ hK9 => ?_)
            refine AK.region ?_
            refine AK.val _ (Yl.loadBoxG ag25 rfl (by first | ((repeat (first | exact .hd | apply BoxS.tl | apply MapS.tl)); done) | assumption | exact BoxS.arg (by assumption)) rfl rfl) trivial rfl ?_
            refine AK.call co14 rfl (fun w hw => s_classes w _ d (h0.at hw)) trivial rfl ?_
            rintro cv o ⟨scv, rfl⟩
            refine AK.val _ (Yl.assign rfl) trivial rfl ?_
            refine AK.nil ?_
            refine AK.then_ (hK9 _ ?_)
            refine AK.seq (fun _ hK10 => ?_)
            refine AK.region ?_
            refine AK.val _ (Yl.loadBoxG ag25 rfl (by first | ((repeat (first | exact .hd | apply BoxS.tl | apply MapS.tl)); done) | assumption | exact BoxS.arg (by assumption)) rfl rfl) trivial rfl ?_
            refine AK.val _ (Yl.move rfl) trivial rfl ?_
            refine AK.val _ (Yl.move rfl) trivial rfl ?_
            refine AK.call co27 rfl (fun w hw => s_dis w _ d (h0.at hw) p q) trivial rfl ?_
            rintro r o ⟨rfl, rfl⟩
            refine AK.val _ (Yl.move rfl) trivial rfl ?_
            refine AK.val _ (Yl.extract rfl rfl) trivial rfl ?_
            refine AK.val _ (Yl.extract rfl rfl) trivial rfl ?_
            refine AK.val _ (Yl.assign rfl) trivial rfl ?_
            refine AK.val _ (Yl.assign rfl) trivial rfl ?_
            refine AK.nil ?_
            refine AK.then_ (hK10 _ ?_)
            refine AK.seq (fun _ hK11 => ?_)
            refine AK.seq (fun _ hK12 => ?_)
            refine AK.quiet mixed (by kernel_rfl) ?_
            refine QK.val _ (Yl.move rfl) trivial rfl ?_
            refine QK.val _ (Yl.lenR sl26 rfl (by first | exact .arg ‹_› | ((repeat (first | exact .hd | apply RdS.tl)); done) | assumption)) trivial rfl ?_
            refine QK.val _ (Yl.fieldAddr fd25_2 rfl) trivial rfl ?_
            refine QK.val _ (Yl.loadBox on22 rfl (by first | ((repeat (first | exact .hd | apply BoxS.tl | apply MapS.tl)); done) | assumption | exact BoxS.arg (by assumption)) rfl) trivial rfl ?_
            refine QK.val _ (Yl.lenR sl22 rfl (by first | exact .arg ‹_› | ((repeat (first | exact .hd | apply RdS.tl)); done) | assumption)) trivial rfl ?_
            refine QK.val _ (Yl.neq rfl rfl) trivial rfl ?_
            refine QK.val _ (Yl.move rfl) trivial rfl ?_
            refine QK.knownF (g := 57) rfl (decide_eq_false (by omega)) (fun hg_5_6 => ?_)
            refine QK.val _ (Yl.move rfl) ⟨_, rfl, congrArg (fun b => some (Value.bool b)) hg_5_6⟩ rfl ?_
            refine QK.val _ (Yl.move rfl) ⟨_, rfl, congrArg (fun b => some (Value.bool b)) hg_5_6⟩ rfl ?_
            refine QK.val _ (Yl.move rfl) ⟨_, rfl, congrArg (fun b => some (Value.bool b)) hg_5_6⟩ rfl ?_
            first | refine QK.val _ (Yl.idxN sl26 rfl rfl (by first | exact .arg ‹_› | ((repeat (first | exact .hd | apply RdS.tl)); done) | assumption) (by decide) (by omega)) ⟨_, rfl, congrArg (fun b => some (Value.bool b)) hg_5_6⟩ rfl ?_ | refine QK.val _ (Yl.idx sl26 rfl rfl (by first | exact .arg ‹_› | ((repeat (first | exact .hd | apply RdS.tl)); done) | assumption) (by decide) (by omega)) ⟨_, rfl, congrArg (fun b => some (Value.bool b)) hg_5_6⟩ rfl ?_ | refine QK.val _ (Yl.idxK sl26 rfl rfl (by first | exact .arg ‹_› | ((repeat (first | exact .hd | apply RdS.tl)); done) | assumption) (by decide) (by omega)) ⟨_, rfl, congrArg (fun b => some (Value.bool b)) hg_5_6⟩ rfl ?_
            refine QK.val _ (Yl.loadI on3 rfl (by first | exact .arg ‹_› | ((repeat (first | exact .hd | apply RdS.tl)); done) | assumption) (by omega)) ⟨_, rfl, congrArg (fun b => some (Value.bool b)) hg_5_6⟩ rfl ?_
            refine QK.val _ (Yl.move rfl) ⟨_, rfl, congrArg (fun b => some (Value.bool b)) hg_5_6⟩ rfl ?_
            refine QK.val _ (Yl.move rfl) ⟨_, rfl, congrArg (fun b => some (Value.bool b)) hg_5_6⟩ rfl ?_
            first | refine QK.val _ (Yl.idxN sl26 rfl rfl (by first | exact .arg ‹_› | ((repeat (first | exact .hd | apply RdS.tl)); done) | assumption) (by decide) (by omega)) ⟨_, rfl, congrArg (fun b => some (Value.bool b)) hg_5_6⟩ rfl ?_ | refine QK.val _ (Yl.idx sl26 rfl rfl (by first | exact .arg ‹_› | ((repeat (first | exact .hd | apply RdS.tl)); done) | assumption) (by decide) (by omega)) ⟨_, rfl, congrArg (fun b => some (Value.bool b)) hg_5_6⟩ rfl ?_ | refine QK.val _ (Yl.idxK sl26 rfl rfl (by first | exact .arg ‹_› | ((repeat (first | exact .hd | apply RdS.tl)); done) | assumption) (by decide) (by omega)) ⟨_, rfl, congrArg (fun b => some (Value.bool b)) hg_5_6⟩ rfl ?_
            refine QK.val _ (Yl.loadI on3 rfl (by first | exact .arg ‹_› | ((repeat (first | exact .hd | apply RdS.tl)); done) | assumption) (by omega)) ⟨_, rfl, congrArg (fun b => some (Value.bool b)) hg_5_6⟩ rfl ?_
            refine QK.val _ (Yl.neq rfl rfl) ⟨_, rfl, congrArg (fun b => some (Value.bool b)) hg_5_6⟩ rfl ?_
            refine QK.val _ (Yl.neqB bo4 rfl rfl) ⟨_, rfl, congrArg (fun b => some (Value.bool b)) hg_5_6⟩ rfl ?_
            refine QK.val _ (Yl.pickF rfl (hg_5_6) rfl) trivial rfl ?_
            refine QK.nil (QK.fin ?_)
            refine AK.then_ (hK12 _ ?_)
            refine AK.cond_f rfl (by rw [hdc]; exact bne_self_eq_false _) ?_
            refine AK.skip ?_
            refine AK.then_ (hK11 _ ?_)
            refine AK.seq (fun _ hK13 => ?_)
            refine AK.seq (fun _ hK14 => ?_)
            refine AK.region ?_
            refine AK.val _ (Yl.move rfl) trivial rfl ?_
            refine AK.nil ?_
            refine AK.then_ (hK14 _ ?_)
            refine AK.cond rfl (fun hc2 => ?_) (fun hc2 => ?_)
            · try simp only [decide_eq_true_eq, decide_eq_false_iff_not, Bool.not_eq_true', Bool.not_eq_false', Bool.not_not, ne_eq, Decidable.not_not, Int.not_lt, Int.not_le, beq_iff_eq, bne_iff_ne, Bool.and_eq_true, Bool.or_eq_true, Bool.or_eq_false_iff, Bool.not_false, Bool.not_true, reduceCtorEq, not_true_eq_false, not_false_eq_true] at hc2
              obtain ⟨hr1, hr2, hrne⟩ := hsep hc2
              refine AK.seq (fun _ hK15 => ?_)
              try (conv => enter [2, 2]; dsimp only [List.set_cons_zero, List.set_cons_succ, List.cons_append, List.nil_append])
              refine AK.held 10 mixed ?_
              refine HeldK.first 0 (fuel := 9) (listed' := #[true, false, false, false, false, false, false, false, false, false]) _ rfl (by kernel_rfl) rfl rfl (Yl.loadBoxG ag25 rfl (by first | ((repeat (first | exact .hd | apply BoxS.tl | apply MapS.tl)); done) | assumption | exact BoxS.arg (by assumption)) rfl rfl) trivial rfl ?_
              refine HeldK.first 1 (fuel := 8) (listed' := #[true, true, false, false, false, false, false, false, false, false]) _ rfl (by kernel_rfl) rfl rfl (Yl.move rfl) trivial rfl ?_
              refine HeldK.first 2 (fuel := 7) (listed' := #[true, true, true, false, false, false, false, false, false, false]) _ rfl (by kernel_rfl) rfl rfl (Yl.move rfl) trivial rfl ?_
              refine HeldK.first 4 (fuel := 6) (listed' := #[true, true, true, false, true, false, false, false, false, false]) _ rfl (by kernel_rfl) rfl rfl (Yl.loadBoxG ag25 rfl (by first | ((repeat (first | exact .hd | apply BoxS.tl | apply MapS.tl)); done) | assumption | exact BoxS.arg (by assumption)) rfl rfl) trivial rfl ?_
              refine HeldK.first 5 (fuel := 5) (listed' := #[true, true, true, false, true, true, false, false, false, false]) _ rfl (by kernel_rfl) rfl rfl (Yl.move rfl) trivial rfl ?_
              refine HeldK.first 6 (fuel := 4) (listed' := #[true, true, true, false, true, true, true, false, false, false]) _ rfl (by kernel_rfl) rfl rfl (Yl.move rfl) trivial rfl ?_
              refine HeldK.one 3 (fuel := 3) (listed' := #[true, true, true, true, true, true, true, false, false, false]) (by kernel_rfl) rfl rfl ?_
              refine AK.call co29 rfl (fun w hw => s_run w _ d (h0.at hw) p (DisV d p q).1 (disV_len d p q)) trivial rfl ?_
              rintro r o ⟨rfl, rfl⟩
              refine AK.nil ?_
              try (conv => enter [2, 2]; dsimp only [List.set_cons_zero, List.set_cons_succ, List.cons_append, List.nil_append])
              refine HeldK.back (by repeat (first | exact HWle.nil | refine HWle.cons Ale.rfl ?_ | refine HWle.cons Ale.fst ?_)) ?_
              refine HeldK.one 7 (fuel := 2) (listed' := #[true, true, true, true, true, true, true, true, false, false]) (by kernel_rfl) rfl rfl ?_
              refine AK.call co29 rfl (fun w hw => s_run w _ d (h0.at hw) q (DisV d p q).1 (disV_len d p q)) trivial rfl ?_
              rintro r o ⟨rfl, rfl⟩
              refine AK.nil ?_
              try (conv => enter [2, 2]; dsimp only [List.set_cons_zero, List.set_cons_succ, List.cons_append, List.nil_append])
              refine HeldK.back (by repeat (first | exact HWle.nil | refine HWle.cons Ale.rfl ?_ | refine HWle.cons Ale.fst ?_)) ?_
              refine HeldK.first 8 (fuel := 1) (listed' := #[true, true, true, true, true, true, true, true, true, false]) _ rfl (by kernel_rfl) rfl rfl (Yl.assign rfl) trivial rfl ?_
              refine HeldK.first 9 (fuel := 0) (listed' := #[true, true, true, true, true, true, true, true, true, true]) _ rfl (by kernel_rfl) rfl rfl (Yl.assign rfl) trivial rfl ?_
              refine HeldK.done (by kernel_rfl) ?_
              refine AK.then_ (hK15 _ ?_)
              refine AK.seq (fun _ hK16 => ?_)
              refine AK.quiet mixed (by kernel_rfl) ?_
              refine QK.val _ (Yl.move rfl) trivial rfl ?_
              refine QK.val _ (Yl.lss rfl rfl) trivial rfl ?_
              refine QK.val _ (Yl.move rfl) trivial rfl ?_
              refine QK.knownF (g := 81) rfl (decide_eq_false (by omega)) (fun hg_9_2 => ?_)
              refine QK.val _ (Yl.move rfl) ⟨_, rfl, congrArg (fun b => some (Value.bool b)) hg_9_2⟩ rfl ?_
              refine QK.val _ (Yl.lss rfl rfl) ⟨_, rfl, congrArg (fun b => some (Value.bool b)) hg_9_2⟩ rfl ?_
              refine QK.val _ (Yl.pickF rfl (hg_9_2) rfl) trivial rfl ?_
              refine QK.val _ (Yl.move rfl) trivial rfl ?_
              refine QK.knownF (g := 85) rfl (decide_eq_false (by omega)) (fun hg_9_6 => ?_)
              refine QK.val _ (Yl.fieldAddr fd25_2 rfl) ⟨_, rfl, congrArg (fun b => some (Value.bool b)) hg_9_6⟩ rfl ?_
              refine QK.val _ (Yl.loadBox on22 rfl (by first | ((repeat (first | exact .hd | apply BoxS.tl | apply MapS.tl)); done) | assumption | exact BoxS.arg (by assumption)) rfl) ⟨_, rfl, congrArg (fun b => some (Value.bool b)) hg_9_6⟩ rfl ?_
              refine QK.val _ (Yl.move rfl) ⟨_, rfl, congrArg (fun b => some (Value.bool b)) hg_9_6⟩ rfl ?_
              first | refine QK.val _ (Yl.idxN sl22 rfl rfl (by first | exact .arg ‹_› | ((repeat (first | exact .hd | apply RdS.tl)); done) | assumption) (by decide) (by omega)) ⟨_, rfl, congrArg (fun b => some (Value.bool b)) hg_9_6⟩ rfl ?_ | refine QK.val _ (Yl.idx sl22 rfl rfl (by first | exact .arg ‹_› | ((repeat (first | exact .hd | apply RdS.tl)); done) | assumption) (by decide) (by omega)) ⟨_, rfl, congrArg (fun b => some (Value.bool b)) hg_9_6⟩ rfl ?_ | refine QK.val _ (Yl.idxK sl22 rfl rfl (by first | exact .arg ‹_› | ((repeat (first | exact .hd | apply RdS.tl)); done) | assumption) (by decide) (by omega)) ⟨_, rfl, congrArg (fun b => some (Value.bool b)) hg_9_6⟩ rfl ?_
              refine QK.val _ (Yl.loadB on4 rfl (by first | exact .arg ‹_› | ((repeat (first | exact .hd | apply RdS.tl)); done) | assumption) (by omega)) ⟨_, rfl, congrArg (fun b => some (Value.bool b)) hg_9_6⟩ rfl ?_
              refine QK.val _ (Yl.fieldAddr fd25_2 rfl) ⟨_, rfl, congrArg (fun b => some (Value.bool b)) hg_9_6⟩ rfl ?_
              refine QK.val _ (Yl.loadBox on22 rfl (by first | ((repeat (first | exact .hd | apply BoxS.tl | apply MapS.tl)); done) | assumption | exact BoxS.arg (by assumption)) rfl) ⟨_, rfl, congrArg (fun b => some (Value.bool b)) hg_9_6⟩ rfl ?_
              refine QK.val _ (Yl.move rfl) ⟨_, rfl, congrArg (fun b => some (Value.bool b)) hg_9_6⟩ rfl ?_
              first | refine QK.val _ (Yl.idxN sl22 rfl rfl (by first | exact .arg ‹_› | ((repeat (first | exact .hd | apply RdS.tl)); done) | assumption) (by decide) (by omega)) ⟨_, rfl, congrArg (fun b => some (Value.bool b)) hg_9_6⟩ rfl ?_ | refine QK.val _ (Yl.idx sl22 rfl rfl (by first | exact .arg ‹_› | ((repeat (first | exact .hd | apply RdS.tl)); done) | assumption) (by decide) (by omega)) ⟨_, rfl, congrArg (fun b => some (Value.bool b)) hg_9_6⟩ rfl ?_ | refine QK.val _ (Yl.idxK sl22 rfl rfl (by first | exact .arg ‹_› | ((repeat (first | exact .hd | apply RdS.tl)); done) | assumption) (by decide) (by omega)) ⟨_, rfl, congrArg (fun b => some (Value.bool b)) hg_9_6⟩ rfl ?_
              refine QK.val _ (Yl.loadB on4 rfl (by first | exact .arg ‹_› | ((repeat (first | exact .hd | apply RdS.tl)); done) | assumption) (by omega)) ⟨_, rfl, congrArg (fun b => some (Value.bool b)) hg_9_6⟩ rfl ?_
              refine QK.val _ (Yl.eqlB bo4 rfl rfl) ⟨_, rfl, congrArg (fun b => some (Value.bool b)) hg_9_6⟩ rfl ?_
              refine QK.val _ (Yl.pickF rfl (hg_9_6) rfl) trivial rfl ?_
              refine QK.nil (QK.fin ?_)
              refine AK.then_ (hK16 _ ?_)
              refine AK.cond_f rfl (beq_eq_false_iff_ne.2 hrne) ?_
              refine AK.skip ?_
              refine AK.then_ (hK13 _ ?_)
              refine AK.seq (fun _ hK17 => ?_)
              try (conv => enter [2, 2]; dsimp only [List.set_cons_zero, List.set_cons_succ, List.cons_append, List.nil_append])
              refine AK.held 10 mixed ?_
              refine HeldK.first 0 (fuel := 9) (listed' := #[true, false, false, false, false, false, false, false, false, false]) _ rfl (by kernel_rfl) rfl rfl (Yl.loadBoxG ag25 rfl (by first | ((repeat (first | exact .hd | apply BoxS.tl | apply MapS.tl)); done) | assumption | exact BoxS.arg (by assumption)) rfl rfl) trivial rfl ?_
              refine HeldK.first 1 (fuel := 8) (listed' := #[true, true, false, false, false, false, false, false, false, false]) _ rfl (by kernel_rfl) rfl rfl (Yl.move rfl) trivial rfl ?_
              refine HeldK.first 2 (fuel := 7) (listed' := #[true, true, true, false, false, false, false, false, false, false]) _ rfl (by kernel_rfl) rfl rfl (Yl.move rfl) trivial rfl ?_
              refine HeldK.first 4 (fuel := 6) (listed' := #[true, true, true, false, true, false, false, false, false, false]) _ rfl (by kernel_rfl) rfl rfl (Yl.loadBoxG ag25 rfl (by first | ((repeat (first | exact .hd | apply BoxS.tl | apply MapS.tl)); done) | assumption | exact BoxS.arg (by assumption)) rfl rfl) trivial rfl ?_
              refine HeldK.first 5 (fuel := 5) (listed' := #[true, true, true, false, true, true, false, false, false, false]) _ rfl (by kernel_rfl) rfl rfl (Yl.move rfl) trivial rfl ?_
              refine HeldK.first 6 (fuel := 4) (listed' := #[true, true, true, false, true, true, true, false, false, false]) _ rfl (by kernel_rfl) rfl rfl (Yl.move rfl) trivial rfl ?_
              refine HeldK.one 3 (fuel := 3) (listed' := #[true, true, true, true, true, true, true, false, false, false]) (by kernel_rfl) rfl rfl ?_
              refine AK.call co29 rfl (fun w hw => s_run w _ d (h0.at hw) p l hm) trivial rfl ?_
              rintro r o ⟨rfl, rfl⟩
              refine AK.nil ?_
              try (conv => enter [2, 2]; dsimp only [List.set_cons_zero, List.set_cons_succ, List.cons_append, List.nil_append])
              refine HeldK.back (by repeat (first | exact HWle.nil | refine HWle.cons Ale.rfl ?_ | refine HWle.cons Ale.fst ?_)) ?_
              refine HeldK.one 7 (fuel := 2) (listed' := #[true, true, true, true, true, true, true, true, false, false]) (by kernel_rfl) rfl rfl ?_
              refine AK.call co29 rfl (fun w hw => s_run w _ d (h0.at hw) q l hm) trivial rfl ?_
              rintro r o ⟨rfl, rfl⟩
              refine AK.nil ?_
              try (conv => enter [2, 2]; dsimp only [List.set_cons_zero, List.set_cons_succ, List.cons_append, List.nil_append])
              refine HeldK.back (by repeat (first | exact HWle.nil | refine HWle.cons Ale.rfl ?_ | refine HWle.cons Ale.fst ?_)) ?_
              refine HeldK.first 8 (fuel := 1) (listed' := #[true, true, true, true, true, true, true, true, true, false]) _ rfl (by kernel_rfl) rfl rfl (Yl.assign rfl) trivial rfl ?_
              refine HeldK.first 9 (fuel := 0) (listed' := #[true, true, true, true, true, true, true, true, true, true]) _ rfl (by kernel_rfl) rfl rfl (Yl.assign rfl) trivial rfl ?_
              refine HeldK.done (by kernel_rfl) ?_
              refine AK.then_ (hK17 _ ?_)
              refine AK.seq (fun _ hK18 => ?_)
              refine AK.seq (fun _ hK19 => ?_)
              try (conv => enter [2, 2]; dsimp only [List.set_cons_zero, List.set_cons_succ, List.cons_append, List.nil_append])
              refine AK.held 29 mixed ?_
              refine HeldK.first 0 (fuel := 28) (listed' := #[true, false, false, false, false, false, false, false, false, false, false, false, false, false, false, false, false, false, false, false, false, false, false, false, false, false, false, false, false]) _ rfl (by kernel_rfl) rfl rfl (Yl.move rfl) trivial rfl ?_
              refine HeldK.first 1 (fuel := 27) (listed' := #[true, true, false, false, false, false, false, false, false, false, false, false, false, false, false, false, false, false, false, false, false, false, false, false, false, false, false, false, false]) _ rfl (by kernel_rfl) rfl rfl (Yl.geq rfl rfl) trivial rfl ?_
              refine HeldK.first 2 (fuel := 26) (listed' := #[true, true, true, false, false, false, false, false, false, false, false, false, false, false, false, false, false, false, false, false, false, false, false, false, false, false, false, false, false]) _ rfl (by kernel_rfl) rfl rfl (Yl.move rfl) trivial rfl ?_
              refine AK.splitB (g := 108) rfl (fun hg_12_2 => ?_) (fun hg_12_2 => ?_)
              · have hg_12_2' := hg_12_2
                try simp only [decide_eq_true_eq, decide_eq_false_iff_not, Bool.not_eq_true', Bool.not_eq_false', Bool.not_not, ne_eq, Decidable.not_not, Int.not_lt, Int.not_le, beq_iff_eq, bne_iff_ne, Bool.and_eq_true, Bool.or_eq_true, Bool.or_eq_false_iff, Bool.not_false, Bool.not_true, reduceCtorEq, not_true_eq_false, not_false_eq_true] at hg_12_2'
                refine HeldK.first 3 (fuel := 25) (listed' := #[true, true, true, true, false, false, false, false, false, false, false, false, false, false, false, false, false, false, false, false, false, false, false, false, false, false, false, false, false]) _ rfl (by kernel_rfl) rfl rfl (Yl.move rfl) ⟨_, rfl, congrArg (fun b => some (Value.bool b)) hg_12_2⟩ rfl ?_
                refine HeldK.first 4 (fuel := 24) (listed' := #[true, true, true, true, true, false, false, false, false, false, false, false, false, false, false, false, false, false, false, false, false, false, false, false, false, false, false, false, false]) _ rfl (by kernel_rfl) rfl rfl (Yl.geq rfl rfl) ⟨_, rfl, congrArg (fun b => some (Value.bool b)) hg_12_2⟩ rfl ?_
                refine HeldK.first 5 (fuel := 23) (listed' := #[true, true, true, true, true, true, false, false, false, false, false, false, false, false, false, false, false, false, false, false, false, false, false, false, false, false, false, false, false]) _ rfl (by kernel_rfl) rfl rfl (Yl.pickT rfl (hg_12_2) rfl) trivial rfl ?_
                refine HeldK.first 6 (fuel := 22) (listed' := #[true, true, true, true, true, true, true, false, false, false, false, false, false, false, false, false, false, false, false, false, false, false, false, false, false, false, false, false, false]) _ rfl (by kernel_rfl) rfl rfl (Yl.move rfl) trivial rfl ?_
                refine AK.splitB (g := 112) rfl (fun hg_12_6 => ?_) (fun hg_12_6 => ?_)
                · have hg_12_6' := hg_12_6
                  try simp only [decide_eq_true_eq, decide_eq_false_iff_not, Bool.not_eq_true', Bool.not_eq_false', Bool.not_not, ne_eq, Decidable.not_not, Int.not_lt, Int.not_le, beq_iff_eq, bne_iff_ne, Bool.and_eq_true, Bool.or_eq_true, Bool.or_eq_false_iff, Bool.not_false, Bool.not_true, reduceCtorEq, not_true_eq_false, not_false_eq_true] at hg_12_6'
                  refine HeldK.first 7 (fuel := 21) (listed' := #[true, true, true, true, true, true, true, true, false, false, false, false, false, false, false, false, false, false, false, false, false, false, false, false, false, false, false, false, false]) _ rfl (by kernel_rfl) rfl rfl (Yl.fieldAddr fd25_2 rfl) ⟨_, rfl, congrArg (fun b => some (Value.bool b)) hg_12_6⟩ rfl ?_
                  refine HeldK.first 8 (fuel := 20) (listed' := #[true, true, true, true, true, true, true, true, true, false, false, false, false, false, false, false, false, false, false, false, false, false, false, false, false, false, false, false, false]) _ rfl (by kernel_rfl) rfl rfl (Yl.loadBox on22 rfl (by first | ((repeat (first | exact .hd | apply BoxS.tl | apply MapS.tl)); done) | assumption | exact BoxS.arg (by assumption)) rfl) ⟨_, rfl, congrArg (fun b => some (Value.bool b)) hg_12_6⟩ rfl ?_
                  refine HeldK.first 9 (fuel := 19) (listed' := #[true, true, true, true, true, true, true, true, true, true, false, false, false, false, false, false, false, false, false, false, false, false, false, false, false, false, false, false, false]) _ rfl (by kernel_rfl) rfl rfl (Yl.move rfl) ⟨_, rfl, congrArg (fun b => some (Value.bool b)) hg_12_6⟩ rfl ?_
                  first | refine HeldK.first 10 (fuel := 18) (listed' := #[true, true, true, true, true, true, true, true, true, true, true, false, false, false, false, false, false, false, false, false, false, false, false, false, false, false, false, false, false]) _ rfl (by kernel_rfl) rfl rfl (Yl.idxN sl22 rfl rfl (by first | exact .arg ‹_› | ((repeat (first | exact .hd | apply RdS.tl)); done) | assumption) (by decide) (by have := (hb1 hg_12_2').1; omega)) ⟨_, rfl, congrArg (fun b => some (Value.bool b)) hg_12_6⟩ rfl ?_ | refine HeldK.first 10 (fuel := 18) (listed' := #[true, true, true, true, true, true, true, true, true, true, true, false, false, false, false, false, false, false, false, false, false, false, false, false, false, false, false, false, false]) _ rfl (by kernel_rfl) rfl rfl (Yl.idx sl22 rfl rfl (by first | exact .arg ‹_› | ((repeat (first | exact .hd | apply RdS.tl)); done) | assumption) (by decide) (by have := (hb1 hg_12_2').1; omega)) ⟨_, rfl, congrArg (fun b => some (Value.bool b)) hg_12_6⟩ rfl ?_ | refine HeldK.first 10 (fuel := 18) (listed' := #[true, true, true, true, true, true, true, true, true, true, true, false, false, false, false, false, false, false, false, false, false, false, false, false, false, false, false, false, false]) _ rfl (by kernel_rfl) rfl rfl (Yl.idxK sl22 rfl rfl (by first | exact .arg ‹_› | ((repeat (first | exact .hd | apply RdS.tl)); done) | assumption) (by decide) (by have := (hb1 hg_12_2').1; omega)) ⟨_, rfl, congrArg (fun b => some (Value.bool b)) hg_12_6⟩ rfl ?_
                  refine HeldK.first 11 (fuel := 17) (listed' := #[true, true, true, true, true, true, true, true, true, true, true, true, false, false, false, false, false, false, false, false, false, false, false, false, false, false, false, false, false]) _ rfl (by kernel_rfl) rfl rfl (Yl.loadB on4 rfl (by first | exact .arg ‹_› | ((repeat (first | exact .hd | apply RdS.tl)); done) | assumption) (by omega)) ⟨_, rfl, congrArg (fun b => some (Value.bool b)) hg_12_6⟩ rfl ?_
                  refine HeldK.first 12 (fuel := 16) (listed' := #[true, true, true, true, true, true, true, true, true, true, true, true, true, false, false, false, false, false, false, false, false, false, false, false, false, false, false, false, false]) _ rfl (by kernel_rfl) rfl rfl (Yl.fieldAddr fd25_2 rfl) ⟨_, rfl, congrArg (fun b => some (Value.bool b)) hg_12_6⟩ rfl ?_
                  refine HeldK.first 13 (fuel := 15) (listed' := #[true, true, true, true, true, true, true, true, true, true, true, true, true, true, false, false, false, false, false, false, false, false, false, false, false, false, false, false, false]) _ rfl (by kernel_rfl) rfl rfl (Yl.loadBox on22 rfl (by first | ((repeat (first | exact .hd | apply BoxS.tl | apply MapS.tl)); done) | assumption | exact BoxS.arg (by assumption)) rfl) ⟨_, rfl, congrArg (fun b => some (Value.bool b)) hg_12_6⟩ rfl ?_
                  refine HeldK.first 14 (fuel := 14) (listed' := #[true, true, true, true, true, true, true, true, true, true, true, true, true, true, true, false, false, false, false, false, false, false, false, false, false, false, false, false, false]) _ rfl (by kernel_rfl) rfl rfl (Yl.move rfl) ⟨_, rfl, congrArg (fun b => some (Value.bool b)) hg_12_6⟩ rfl ?_
                  first | refine HeldK.first 15 (fuel := 13) (listed' := #[true, true, true, true, true, true, true, true, true, true, true, true, true, true, true, true, false, false, false, false, false, false, false, false, false, false, false, false, false]) _ rfl (by kernel_rfl) rfl rfl (Yl.idxN sl22 rfl rfl (by first | exact .arg ‹_› | ((repeat (first | exact .hd | apply RdS.tl)); done) | assumption) (by decide) (by have := (hb2 hg_12_6').1; omega)) ⟨_, rfl, congrArg (fun b => some (Value.bool b)) hg_12_6⟩ rfl ?_ | refine HeldK.first 15 (fuel := 13) (listed' := #[true, true, true, true, true, true, true, true, true, true, true, true, true, true, true, true, false, false, false, false, false, false, false, false, false, false, false, false, false]) _ rfl (by kernel_rfl) rfl rfl (Yl.idx sl22 rfl rfl (by first | exact .arg ‹_› | ((repeat (first | exact .hd | apply RdS.tl)); done) | assumption) (by decide) (by have := (hb2 hg_12_6').1; omega)) ⟨_, rfl, congrArg (fun b => some (Value.bool b)) hg_12_6⟩ rfl ?_ | refine HeldK.first 15 (fuel := 13) (listed' := #[true, true, true, true, true, true, true, true, true, true, true, true, true, true, true, true, false, false, false, false, false, false, false, false, false, false, false, false, false]) _ rfl (by kernel_rfl) rfl rfl (Yl.idxK sl22 rfl rfl (by first | exact .arg ‹_› | ((repeat (first | exact .hd | apply RdS.tl)); done) | assumption) (by decide) (by have := (hb2 hg_12_6').1; omega)) ⟨_, rfl, congrArg (fun b => some (Value.bool b)) hg_12_6⟩ rfl ?_
                  refine HeldK.first 16 (fuel := 12) (listed' := #[true, true, true, true, true, true, true, true, true, true, true, true, true, true, true, true, true, false, false, false, false, false, false, false, false, false, false, false, false]) _ rfl (by kernel_rfl) rfl rfl (Yl.loadB on4 rfl (by first | exact .arg ‹_› | ((repeat (first | exact .hd | apply RdS.tl)); done) | assumption) (by omega)) ⟨_, rfl, congrArg (fun b => some (Value.bool b)) hg_12_6⟩ rfl ?_
                  refine HeldK.first 17 (fuel := 11) (listed' := #[true, true, true, true, true, true, true, true, true, true, true, true, true, true, true, true, true, true, false, false, false, false, false, false, false, false, false, false, false]) _ rfl (by kernel_rfl) rfl rfl (Yl.neqB bo4 rfl rfl) ⟨_, rfl, congrArg (fun b => some (Value.bool b)) hg_12_6⟩ rfl ?_
                  refine HeldK.first 18 (fuel := 10) (listed' := #[true, true, true, true, true, true, true, true, true, true, true, true, true, true, true, true, true, true, true, false, false, false, false, false, false, false, false, false, false]) _ rfl (by kernel_rfl) rfl rfl (Yl.pickT rfl (hg_12_6) rfl) trivial rfl ?_
                  refine HeldK.first 19 (fuel := 9) (listed' := #[true, true, true, true, true, true, true, true, true, true, true, true, true, true, true, true, true, true, true, true, false, false, false, false, false, false, false, false, false]) _ rfl (by kernel_rfl) rfl rfl (Yl.move rfl) trivial rfl ?_
                  refine AK.splitB (g := 125) rfl (fun hg_12_19 => ?_) (fun hg_12_19 => ?_)
                  · have hg_12_19' := hg_12_19
                    try simp only [decide_eq_true_eq, decide_eq_false_iff_not, Bool.not_eq_true', Bool.not_eq_false', Bool.not_not, ne_eq, Decidable.not_not, Int.not_lt, Int.not_le, beq_iff_eq, bne_iff_ne, Bool.and_eq_true, Bool.or_eq_true, Bool.or_eq_false_iff, Bool.not_false, Bool.not_true, reduceCtorEq, not_true_eq_false, not_false_eq_true] at hg_12_19'
                    refine HeldK.first 20 (fuel := 8) (listed' := #[true, true, true, true, true, true, true, true, true, true, true, true, true, true, true, true, true, true, true, true, true, false, false, false, false, false, false, false, false]) _ rfl (by kernel_rfl) rfl rfl (Yl.move rfl) ⟨_, rfl, congrArg (fun b => some (Value.bool b)) hg_12_19⟩ rfl ?_
                    refine HeldK.first 21 (fuel := 7) (listed' := #[true, true, true, true, true, true, true, true, true, true, true, true, true, true, true, true, true, true, true, true, true, true, false, false, false, false, false, false, false]) _ rfl (by kernel_rfl) rfl rfl (Yl.not rfl) ⟨_, rfl, congrArg (fun b => some (Value.bool b)) hg_12_19⟩ rfl ?_
                    refine HeldK.first 22 (fuel := 6) (listed' := #[true, true, true, true, true, true, true, true, true, true, true, true, true, true, true, true, true, true, true, true, true, true, true, false, false, false, false, false, false]) _ rfl (by kernel_rfl) rfl rfl (Yl.move rfl) ⟨_, rfl, congrArg (fun b => some (Value.bool b)) hg_12_19⟩ rfl ?_
                    refine AK.knownF (g := 128) rfl (by rw [(hall l hg_12_2' hg_12_6' (by simpa using hg_12_19)).1]; rfl) (fun hg_12_22 => ?_)
                    refine HeldK.first 23 (fuel := 5) (listed' := #[true, true, true, true, true, true, true, true, true, true, true, true, true, true, true, true, true, true, true, true, true, true, true, true, false, false, false, false, false]) _ rfl (by kernel_rfl) rfl rfl (Yl.move rfl) ⟨_, rfl, congrArg (fun b => some (Value.bool b)) hg_12_22⟩ rfl ?_
                    refine HeldK.first 24 (fuel := 4) (listed' := #[true, true, true, true, true, true, true, true, true, true, true, true, true, true, true, true, true, true, true, true, true, true, true, true, true, false, false, false, false]) _ rfl (by kernel_rfl) rfl rfl (Yl.move rfl) ⟨_, rfl, congrArg (fun b => some (Value.bool b)) hg_12_22⟩ rfl ?_
                    refine HeldK.one 25 (fuel := 3) (listed' := #[true, true, true, true, true, true, true, true, true, true, true, true, true, true, true, true, true, true, true, true, true, true, true, true, true, true, false, false, false]) (by kernel_rfl) rfl rfl ?_
                    refine AK.call co30 rfl (fun w hw => s_compare w _ _) ⟨_, rfl, congrArg (fun b => some (Value.bool b)) hg_12_22⟩ rfl ?_
                    rintro r o ⟨rfl, rfl⟩
                    refine AK.nil ?_
                    try (conv => enter [2, 2]; dsimp only [List.set_cons_zero, List.set_cons_succ, List.cons_append, List.nil_append])
                    refine HeldK.back (by repeat (first | exact HWle.nil | refine HWle.cons Ale.rfl ?_ | refine HWle.cons Ale.fst ?_)) ?_
                    refine HeldK.first 26 (fuel := 2) (listed' := #[true, true, true, true, true, true, true, true, true, true, true, true, true, true, true, true, true, true, true, true, true, true, true, true, true, true, true, false, false]) _ rfl (by kernel_rfl) rfl rfl (Yl.gtr rfl rfl) ⟨_, rfl, congrArg (fun b => some (Value.bool b)) hg_12_22⟩ rfl ?_
                    refine HeldK.first 27 (fuel := 1) (listed' := #[true, true, true, true, true, true, true, true, true, true, true, true, true, true, true, true, true, true, true, true, true, true, true, true, true, true, true, true, false]) _ rfl (by kernel_rfl) rfl rfl (Yl.pickF rfl (hg_12_22) rfl) ⟨_, rfl, congrArg (fun b => some (Value.bool b)) hg_12_19⟩ rfl ?_
                    refine HeldK.first 28 (fuel := 0) (listed' := #[true, true, true, true, true, true, true, true, true, true, true, true, true, true, true, true, true, true, true, true, true, true, true, true, true, true, true, true, true]) _ rfl (by kernel_rfl) rfl rfl (Yl.pickT rfl (hg_12_19) rfl) trivial rfl ?_
                    refine HeldK.done (by kernel_rfl) ?_
                    refine AK.then_ (hK19 _ ?_)
                    refine AK.cond_f rfl (decide_eq_false (by have := (hall l hg_12_2' hg_12_6' (by simpa using hg_12_19)).2; omega)) ?_
                    refine AK.skip ?_
                    refine AK.then_ (hK18 _ ?_)
                    refine AK.seq (fun _ hK20 => ?_)
                    refine AK.region ?_
                    refine AK.call co16 rfl (fun w hw => s_awake w) trivial rfl ?_
                    rintro r o ⟨rfl, rfl⟩
                    refine AK.val _ (Yl.assign rfl) trivial rfl ?_
                    refine AK.nil ?_
                    refine AK.then_ (hK20 _ ?_)
                    refine AK.ret ?_
                    refine AK.ret1 rfl rfl (fun w hw => ⟨_, _, ?_, rfl, Ret.of (hw.pick [] (by decide) rfl rfl)⟩)
                    exact ⟨rfl, rfl⟩
                  · have hg_12_19' := hg_12_19
                    try simp only [decide_eq_true_eq, decide_eq_false_iff_not, Bool.not_eq_true', Bool.not_eq_false', Bool.not_not, ne_eq, Decidable.not_not, Int.not_lt, Int.not_le, beq_iff_eq, bne_iff_ne, Bool.and_eq_true, Bool.or_eq_true, Bool.or_eq_false_iff, Bool.not_false, Bool.not_true, reduceCtorEq, not_true_eq_false, not_false_eq_true] at hg_12_19'
                    refine HeldK.pass 20 (fuel := 8) (listed' := #[true, true, true, true, true, true, true, true, true, true, true, true, true, true, true, true, true, true, true, true, true, false, false, false, false, false, false, false, false]) rfl (by kernel_rfl) rfl rfl rfl (hg_12_19) rfl ?_
                    refine HeldK.pass 21 (fuel := 7) (listed' := #[true, true, true, true, true, true, true, true, true, true, true, true, true, true, true, true, true, true, true, true, true, true, false, false, false, false, false, false, false]) rfl (by kernel_rfl) rfl rfl rfl (hg_12_19) rfl ?_
                    refine HeldK.pass 22 (fuel := 6) (listed' := #[true, true, true, true, true, true, true, true, true, true, true, true, true, true, true, true, true, true, true, true, true, true, true, false, false, false, false, false, false]) rfl (by kernel_rfl) rfl rfl rfl (hg_12_19) rfl ?_
                    refine HeldK.pass 23 (fuel := 5) (listed' := #[true, true, true, true, true, true, true, true, true, true, true, true, true, true, true, true, true, true, true, true, true, true, true, true, false, false, false, false, false]) rfl (by kernel_rfl) rfl rfl rfl trivial rfl ?_
                    refine HeldK.pass 24 (fuel := 4) (listed' := #[true, true, true, true, true, true, true, true, true, true, true, true, true, true, true, true, true, true, true, true, true, true, true, true, true, false, false, false, false]) rfl (by kernel_rfl) rfl rfl rfl trivial rfl ?_
                    refine HeldK.one 25 (fuel := 3) (listed' := #[true, true, true, true, true, true, true, true, true, true, true, true, true, true, true, true, true, true, true, true, true, true, true, true, true, true, false, false, false]) (by kernel_rfl) rfl rfl ?_
                    refine AK.pass rfl rfl trivial rfl ?_
                    refine AK.nil ?_
                    try (conv => enter [2, 2]; dsimp only [List.set_cons_zero, List.set_cons_succ, List.cons_append, List.nil_append])
                    refine HeldK.back (by repeat (first | exact HWle.nil | refine HWle.cons Ale.rfl ?_ | refine HWle.cons Ale.fst ?_)) ?_
                    refine HeldK.pass 26 (fuel := 2) (listed' := #[true, true, true, true, true, true, true, true, true, true, true, true, true, true, true, true, true, true, true, true, true, true, true, true, true, true, true, false, false]) rfl (by kernel_rfl) rfl rfl rfl trivial rfl ?_
                    refine HeldK.pass 27 (fuel := 1) (listed' := #[true, true, true, true, true, true, true, true, true, true, true, true, true, true, true, true, true, true, true, true, true, true, true, true, true, true, true, true, false]) rfl (by kernel_rfl) rfl rfl rfl (hg_12_19) rfl ?_
                    refine HeldK.first 28 (fuel := 0) (listed' := #[true, true, true, true, true, true, true, true, true, true, true, true, true, true, true, true, true, true, true, true, true, true, true, true, true, true, true, true, true]) _ rfl (by kernel_rfl) rfl rfl (Yl.pickF rfl (hg_12_19) rfl) trivial rfl ?_
                    refine HeldK.done (by kernel_rfl) ?_
                    refine AK.then_ (hK19 _ ?_)
                    refine AK.cond_f rfl (rfl) ?_
                    refine AK.skip ?_
                    refine AK.then_ (hK18 _ ?_)
                    refine AK.seq (fun _ hK21 => ?_)
                    refine AK.region ?_
                    refine AK.call co16 rfl (fun w hw => s_awake w) trivial rfl ?_
                    rintro r o ⟨rfl, rfl⟩
                    refine AK.val _ (Yl.assign rfl) trivial rfl ?_
                    refine AK.nil ?_
                    refine AK.then_ (hK21 _ ?_)
                    refine AK.ret ?_
                    refine AK.ret1 rfl rfl (fun w hw => ⟨_, _, ?_, rfl, Ret.of (hw.pick [] (by decide) rfl rfl)⟩)
                    exact ⟨rfl, rfl⟩
                · have hg_12_6' := hg_12_6
                  try simp only [decide_eq_true_eq, decide_eq_false_iff_not, Bool.not_eq_true', Bool.not_eq_false', Bool.not_not, ne_eq, Decidable.not_not, Int.not_lt, Int.not_le, beq_iff_eq, bne_iff_ne, Bool.and_eq_true, Bool.or_eq_true, Bool.or_eq_false_iff, Bool.not_false, Bool.not_true, reduceCtorEq, not_true_eq_false, not_false_eq_true] at hg_12_6'
                  refine HeldK.pass 7 (fuel := 21) (listed' := #[true, true, true, true, true, true, true, true, false, false, false, false, false, false, false, false, false, false, false, false, false, false, false, false, false, false, false, false, false]) rfl (by kernel_rfl) rfl rfl rfl (hg_12_6) rfl ?_
                  refine HeldK.pass 8 (fuel := 20) (listed' := #[true, true, true, true, true, true, true, true, true, false, false, false, false, false, false, false, false, false, false, false, false, false, false, false, false, false, false, false, false]) rfl (by kernel_rfl) rfl rfl rfl (hg_12_6) rfl ?_
                  refine HeldK.pass 9 (fuel := 19) (listed' := #[true, true, true, true, true, true, true, true, true, true, false, false, false, false, false, false, false, false, false, false, false, false, false, false, false, false, false, false, false]) rfl (by kernel_rfl) rfl rfl rfl (hg_12_6) rfl ?_
                  refine HeldK.pass 10 (fuel := 18) (listed' := #[true, true, true, true, true, true, true, true, true, true, true, false, false, false, false, false, false, false, false, false, false, false, false, false, false, false, false, false, false]) rfl (by kernel_rfl) rfl rfl rfl (hg_12_6) rfl ?_
                  refine HeldK.pass 11 (fuel := 17) (listed' := #[true, true, true, true, true, true, true, true, true, true, true, true, false, false, false, false, false, false, false, false, false, false, false, false, false, false, false, false, false]) rfl (by kernel_rfl) rfl rfl rfl (hg_12_6) rfl ?_
                  refine HeldK.pass 12 (fuel := 16) (listed' := #[true, true, true, true, true, true, true, true, true, true, true, true, true, false, false, false, false, false, false, false, false, false, false, false, false, false, false, false, false]) rfl (by kernel_rfl) rfl rfl rfl (hg_12_6) rfl ?_
                  refine HeldK.pass 13 (fuel := 15) (listed' := #[true, true, true, true, true, true, true, true, true, true, true, true, true, true, false, false, false, false, false, false, false, false, false, false, false, false, false, false, false]) rfl (by kernel_rfl) rfl rfl rfl (hg_12_6) rfl ?_
                  refine HeldK.pass 14 (fuel := 14) (listed' := #[true, true, true, true, true, true, true, true, true, true, true, true, true, true, true, false, false, false, false, false, false, false, false, false, false, false, false, false, false]) rfl (by kernel_rfl) rfl rfl rfl (hg_12_6) rfl ?_
                  refine HeldK.pass 15 (fuel := 13) (listed' := #[true, true, true, true, true, true, true, true, true, true, true, true, true, true, true, true, false, false, false, false, false, false, false, false, false, false, false, false, false]) rfl (by kernel_rfl) rfl rfl rfl (hg_12_6) rfl ?_
                  refine HeldK.pass 16 (fuel := 12) (listed' := #[true, true, true, true, true, true, true, true, true, true, true, true, true, true, true, true, true, false, false, false, false, false, false, false, false, false, false, false, false]) rfl (by kernel_rfl) rfl rfl rfl (hg_12_6) rfl ?_
                  refine HeldK.pass 17 (fuel := 11) (listed' := #[true, true, true, true, true, true, true, true, true, true, true, true, true, true, true, true, true, true, false, false, false, false, false, false, false, false, false, false, false]) rfl (by kernel_rfl) rfl rfl rfl (hg_12_6) rfl ?_
                  refine HeldK.first 18 (fuel := 10) (listed' := #[true, true, true, true, true, true, true, true, true, true, true, true, true, true, true, true, true, true, true, false, false, false, false, false, false, false, false, false, false]) _ rfl (by kernel_rfl) rfl rfl (Yl.pickF rfl (hg_12_6) rfl) trivial rfl ?_
                  refine HeldK.first 19 (fuel := 9) (listed' := #[true, true, true, true, true, true, true, true, true, true, true, true, true, true, true, true, true, true, true, true, false, false, false, false, false, false, false, false, false]) _ rfl (by kernel_rfl) rfl rfl (Yl.move rfl) trivial rfl ?_
                  refine HeldK.pass 20 (fuel := 8) (listed' := #[true, true, true, true, true, true, true, true, true, true, true, true, true, true, true, true, true, true, true, true, true, false, false, false, false, false, false, false, false]) rfl (by kernel_rfl) rfl rfl rfl rfl rfl ?_
                  refine HeldK.pass 21 (fuel := 7) (listed' := #[true, true, true, true, true, true, true, true, true, true, true, true, true, true, true, true, true, true, true, true, true, true, false, false, false, false, false, false, false]) rfl (by kernel_rfl) rfl rfl rfl rfl rfl ?_
                  refine HeldK.pass 22 (fuel := 6) (listed' := #[true, true, true, true, true, true, true, true, true, true, true, true, true, true, true, true, true, true, true, true, true, true, true, false, false, false, false, false, false]) rfl (by kernel_rfl) rfl rfl rfl rfl rfl ?_
                  refine HeldK.pass 23 (fuel := 5) (listed' := #[true, true, true, true, true, true, true, true, true, true, true, true, true, true, true, true, true, true, true, true, true, true, true, true, false, false, false, false, false]) rfl (by kernel_rfl) rfl rfl rfl trivial rfl ?_
                  refine HeldK.pass 24 (fuel := 4) (listed' := #[true, true, true, true, true, true, true, true, true, true, true, true, true, true, true, true, true, true, true, true, true, true, true, true, true, false, false, false, false]) rfl (by kernel_rfl) rfl rfl rfl trivial rfl ?_
                  refine HeldK.one 25 (fuel := 3) (listed' := #[true, true, true, true, true, true, true, true, true, true, true, true, true, true, true, true, true, true, true, true, true, true, true, true, true, true, false, false, false]) (by kernel_rfl) rfl rfl ?_
                  refine AK.pass rfl rfl trivial rfl ?_
                  refine AK.nil ?_
                  try (conv => enter [2, 2]; dsimp only [List.set_cons_zero, List.set_cons_succ, List.cons_append, List.nil_append])
                  refine HeldK.back (by repeat (first | exact HWle.nil | refine HWle.cons Ale.rfl ?_ | refine HWle.cons Ale.fst ?_)) ?_
                  refine HeldK.pass 26 (fuel := 2) (listed' := #[true, true, true, true, true, true, true, true, true, true, true, true, true, true, true, true, true, true, true, true, true, true, true, true, true, true, true, false, false]) rfl (by kernel_rfl) rfl rfl rfl trivial rfl ?_
                  refine HeldK.pass 27 (fuel := 1) (listed' := #[true, true, true, true, true, true, true, true, true, true, true, true, true, true, true, true, true, true, true, true, true, true, true, true, true, true, true, true, false]) rfl (by kernel_rfl) rfl rfl rfl rfl rfl ?_
                  refine HeldK.first 28 (fuel := 0) (listed' := #[true, true, true, true, true, true, true, true, true, true, true, true, true, true, true, true, true, true, true, true, true, true, true, true, true, true, true, true, true]) _ rfl (by kernel_rfl) rfl rfl (Yl.pickF rfl (rfl) rfl) trivial rfl ?_
                  refine HeldK.done (by kernel_rfl) ?_
                  refine AK.then_ (hK19 _ ?_)
                  refine AK.cond_f rfl (rfl) ?_
                  refine AK.skip ?_
                  refine AK.then_ (hK18 _ ?_)
                  refine AK.seq (fun _ hK22 => ?_)
                  refine AK.region ?_
                  refine AK.call co16 rfl (fun w hw => s_awake w) trivial rfl ?_
                  rintro r o ⟨rfl, rfl⟩
                  refine AK.val _ (Yl.assign rfl) trivial rfl ?_
                  refine AK.nil ?_
                  refine AK.then_ (hK22 _ ?_)
                  refine AK.ret ?_
                  refine AK.ret1 rfl rfl (fun w hw => ⟨_, _, ?_, rfl, Ret.of (hw.pick [] (by decide) rfl rfl)⟩)
                  exact ⟨rfl, rfl⟩
              · have hg_12_2' := hg_12_2
                try simp only [decide_eq_true_eq, decide_eq_false_iff_not, Bool.not_eq_true', Bool.not_eq_false', Bool.not_not, ne_eq, Decidable.not_not, Int.not_lt, Int.not_le, beq_iff_eq, bne_iff_ne, Bool.and_eq_true, Bool.or_eq_true, Bool.or_eq_false_iff, Bool.not_false, Bool.not_true, reduceCtorEq, not_true_eq_false, not_false_eq_true] at hg_12_2'
                refine HeldK.pass 3 (fuel := 25) (listed' := #[true, true, true, true, false, false, false, false, false, false, false, false, false, false, false, false, false, false, false, false, false, false, false, false, false, false, false, false, false]) rfl (by kernel_rfl) rfl rfl rfl (hg_12_2) rfl ?_
                refine HeldK.pass 4 (fuel := 24) (listed' := #[true, true, true, true, true, false, false, false, false, false, false, false, false, false, false, false, false, false, false, false, false, false, false, false, false, false, false, false, false]) rfl (by kernel_rfl) rfl rfl rfl (hg_12_2) rfl ?_
                refine HeldK.first 5 (fuel := 23) (listed' := #[true, true, true, true, true, true, false, false, false, false, false, false, false, false, false, false, false, false, false, false, false, false, false, false, false, false, false, false, false]) _ rfl (by kernel_rfl) rfl rfl (Yl.pickF rfl (hg_12_2) rfl) trivial rfl ?_
                refine HeldK.first 6 (fuel := 22) (listed' := #[true, true, true, true, true, true, true, false, false, false, false, false, false, false, false, false, false, false, false, false, false, false, false, false, false, false, false, false, false]) _ rfl (by kernel_rfl) rfl rfl (Yl.move rfl) trivial rfl ?_
                refine HeldK.pass 7 (fuel := 21) (listed' := #[true, true, true, true, true, true, true, true, false, false, false, false, false, false, false, false, false, false, false, false, false, false, false, false, false, false, false, false, false]) rfl (by kernel_rfl) rfl rfl rfl rfl rfl ?_
                refine HeldK.pass 8 (fuel := 20) (listed' := #[true, true, true, true, true, true, true, true, true, false, false, false, false, false, false, false, false, false, false, false, false, false, false, false, false, false, false, false, false]) rfl (by kernel_rfl) rfl rfl rfl rfl rfl ?_
                refine HeldK.pass 9 (fuel := 19) (listed' := #[true, true, true, true, true, true, true, true, true, true, false, false, false, false, false, false, false, false, false, false, false, false, false, false, false, false, false, false, false]) rfl (by kernel_rfl) rfl rfl rfl rfl rfl ?_
                refine HeldK.pass 10 (fuel := 18) (listed' := #[true, true, true, true, true, true, true, true, true, true, true, false, false, false, false, false, false, false, false, false, false, false, false, false, false, false, false, false, false]) rfl (by kernel_rfl) rfl rfl rfl rfl rfl ?_
                refine HeldK.pass 11 (fuel := 17) (listed' := #[true, true, true, true, true, true, true, true, true, true, true, true, false, false, false, false, false, false, false, false, false, false, false, false, false, false, false, false, false]) rfl (by kernel_rfl) rfl rfl rfl rfl rfl ?_
                refine HeldK.pass 12 (fuel := 16) (listed' := #[true, true, true, true, true, true, true, true, true, true, true, true, true, false, false, false, false, false, false, false, false, false, false, false, false, false, false, false, false]) rfl (by kernel_rfl) rfl rfl rfl rfl rfl ?_
                refine HeldK.pass 13 (fuel := 15) (listed' := #[true, true, true, true, true, true, true, true, true, true, true, true, true, true, false, false, false, false, false, false, false, false, false, false, false, false, false, false, false]) rfl (by kernel_rfl) rfl rfl rfl rfl rfl ?_
                refine HeldK.pass 14 (fuel := 14) (listed' := #[true, true, true, true, true, true, true, true, true, true, true, true, true, true, true, false, false, false, false, false, false, false, false, false, false, false, false, false, false]) rfl (by kernel_rfl) rfl rfl rfl rfl rfl ?_
                refine HeldK.pass 15 (fuel := 13) (listed' := #[true, true, true, true, true, true, true, true, true, true, true, true, true, true, true, true, false, false, false, false, false, false, false, false, false, false, false, false, false]) rfl (by kernel_rfl) rfl rfl rfl rfl rfl ?_
                refine HeldK.pass 16 (fuel := 12) (listed' := #[true, true, true, true, true, true, true, true, true, true, true, true, true, true, true, true, true, false, false, false, false, false, false, false, false, false, false, false, false]) rfl (by kernel_rfl) rfl rfl rfl rfl rfl ?_
                refine HeldK.pass 17 (fuel := 11) (listed' := #[true, true, true, true, true, true, true, true, true, true, true, true, true, true, true, true, true, true, false, false, false, false, false, false, false, false, false, false, false]) rfl (by kernel_rfl) rfl rfl rfl rfl rfl ?_
                refine HeldK.first 18 (fuel := 10) (listed' := #[true, true, true, true, true, true, true, true, true, true, true, true, true, true, true, true, true, true, true, false, false, false, false, false, false, false, false, false, false]) _ rfl (by kernel_rfl) rfl rfl (Yl.pickF rfl (rfl) rfl) trivial rfl ?_
                refine HeldK.first 19 (fuel := 9) (listed' := #[true, true, true, true, true, true, true, true, true, true, true, true, true, true, true, true, true, true, true, true, false, false, false, false, false, false, false, false, false]) _ rfl (by kernel_rfl) rfl rfl (Yl.move rfl) trivial rfl ?_
                refine HeldK.pass 20 (fuel := 8) (listed' := #[true, true, true, true, true, true, true, true, true, true, true, true, true, true, true, true, true, true, true, true, true, false, false, false, false, false, false, false, false]) rfl (by kernel_rfl) rfl rfl rfl rfl rfl ?_
                refine HeldK.pass 21 (fuel := 7) (listed' := #[true, true, true, true, true, true, true, true, true, true, true, true, true, true, true, true, true, true, true, true, true, true, false, false, false, false, false, false, false]) rfl (by kernel_rfl) rfl rfl rfl rfl rfl ?_
                refine HeldK.pass 22 (fuel := 6) (listed' := #[true, true, true, true, true, true, true, true, true, true, true, true, true, true, true, true, true, true, true, true, true, true, true, false, false, false, false, false, false]) rfl (by kernel_rfl) rfl rfl rfl rfl rfl ?_
                refine HeldK.pass 23 (fuel := 5) (listed' := #[true, true, true, true, true, true, true, true, true, true, true, true, true, true, true, true, true, true, true, true, true, true, true, true, false, false, false, false, false]) rfl (by kernel_rfl) rfl rfl rfl trivial rfl ?_
                refine HeldK.pass 24 (fuel := 4) (listed' := #[true, true, true, true, true, true, true, true, true, true, true, true, true, true, true, true, true, true, true, true, true, true, true, true, true, false, false, false, false]) rfl (by kernel_rfl) rfl rfl rfl trivial rfl ?_
                refine HeldK.one 25 (fuel := 3) (listed' := #[true, true, true, true, true, true, true, true, true, true, true, true, true, true, true, true, true, true, true, true, true, true, true, true, true, true, false, false, false]) (by kernel_rfl) rfl rfl ?_
                refine AK.pass rfl rfl trivial rfl ?_
                refine AK.nil ?_
                try (conv => enter [2, 2]; dsimp only [List.set_cons_zero, List.set_cons_succ, List.cons_append, List.nil_append])
                refine HeldK.back (by repeat (first | exact HWle.nil | refine HWle.cons Ale.rfl ?_ | refine HWle.cons Ale.fst ?_)) ?_
                refine HeldK.pass 26 (fuel := 2) (listed' := #[true, true, true, true, true, true, true, true, true, true, true, true, true, true, true, true, true, true, true, true, true, true, true, true, true, true, true, false, false]) rfl (by kernel_rfl) rfl rfl rfl trivial rfl ?_
                refine HeldK.pass 27 (fuel := 1) (listed' := #[true, true, true, true, true, true, true, true, true, true, true, true, true, true, true, true, true, true, true, true, true, true, true, true, true, true, true, true, false]) rfl (by kernel_rfl) rfl rfl rfl rfl rfl ?_
                refine HeldK.first 28 (fuel := 0) (listed' := #[true, true, true, true, true, true, true, true, true, true, true, true, true, true, true, true, true, true, true, true, true, true, true, true, true, true, true, true, true]) _ rfl (by kernel_rfl) rfl rfl (Yl.pickF rfl (rfl) rfl) trivial rfl ?_
                refine HeldK.done (by kernel_rfl) ?_
                refine AK.then_ (hK19 _ ?_)
                refine AK.cond_f rfl (rfl) ?_
                refine AK.skip ?_
                refine AK.then_ (hK18 _ ?_)
                refine AK.seq (fun _ hK23 => ?_)
                refine AK.region ?_
                refine AK.call co16 rfl (fun w hw => s_awake w) trivial rfl ?_
                rintro r o ⟨rfl, rfl⟩
                refine AK.val _ (Yl.assign rfl) trivial rfl ?_
                refine AK.nil ?_
                refine AK.then_ (hK23 _ ?_)
                refine AK.ret ?_
                refine AK.ret1 rfl rfl (fun w hw => ⟨_, _, ?_, rfl, Ret.of (hw.pick [] (by decide) rfl rfl)⟩)
                exact ⟨rfl, rfl⟩
            · try simp only [decide_eq_true_eq, decide_eq_false_iff_not, Bool.not_eq_true', Bool.not_eq_false', Bool.not_not, ne_eq, Decidable.not_not, Int.not_lt, Int.not_le, beq_iff_eq, bne_iff_ne, Bool.and_eq_true, Bool.or_eq_true, Bool.or_eq_false_iff, Bool.not_false, Bool.not_true, reduceCtorEq, not_true_eq_false, not_false_eq_true] at hc2
              refine AK.skip ?_
              refine AK.then_ (hK13 _ ?_)
              refine AK.seq (fun _ hK24 => ?_)
              try (conv => enter [2, 2]; dsimp only [List.set_cons_zero, List.set_cons_succ, List.cons_append, List.nil_append])
              refine AK.held 10 mixed ?_
              refine HeldK.first 0 (fuel := 9) (listed' := #[true, false, false, false, false, false, false, false, false, false]) _ rfl (by kernel_rfl) rfl rfl (Yl.loadBoxG ag25 rfl (by first | ((repeat (first | exact .hd | apply BoxS.tl | apply MapS.tl)); done) | assumption | exact BoxS.arg (by assumption)) rfl rfl) trivial rfl ?_
              refine HeldK.first 1 (fuel := 8) (listed' := #[true, true, false, false, false, false, false, false, false, false]) _ rfl (by kernel_rfl) rfl rfl (Yl.move rfl) trivial rfl ?_
              refine HeldK.first 2 (fuel := 7) (listed' := #[true, true, true, false, false, false, false, false, false, false]) _ rfl (by kernel_rfl) rfl rfl (Yl.move rfl) trivial rfl ?_
              refine HeldK.first 4 (fuel := 6) (listed' := #[true, true, true, false, true, false, false, false, false, false]) _ rfl (by kernel_rfl) rfl rfl (Yl.loadBoxG ag25 rfl (by first | ((repeat (first | exact .hd | apply BoxS.tl | apply MapS.tl)); done) | assumption | exact BoxS.arg (by assumption)) rfl rfl) trivial rfl ?_
              refine HeldK.first 5 (fuel := 5) (listed' := #[true, true, true, false, true, true, false, false, false, false]) _ rfl (by kernel_rfl) rfl rfl (Yl.move rfl) trivial rfl ?_
              refine HeldK.first 6 (fuel := 4) (listed' := #[true, true, true, false, true, true, true, false, false, false]) _ rfl (by kernel_rfl) rfl rfl (Yl.move rfl) trivial rfl ?_
              refine HeldK.one 3 (fuel := 3) (listed' := #[true, true, true, true, true, true, true, false, false, false]) (by kernel_rfl) rfl rfl ?_
              refine AK.call co29 rfl (fun w hw => s_run w _ d (h0.at hw) p l hm) trivial rfl ?_
              rintro r o ⟨rfl, rfl⟩
              refine AK.nil ?_
              try (conv => enter [2, 2]; dsimp only [List.set_cons_zero, List.set_cons_succ, List.cons_append, List.nil_append])
              refine HeldK.back (by repeat (first | exact HWle.nil | refine HWle.cons Ale.rfl ?_ | refine HWle.cons Ale.fst ?_)) ?_
              refine HeldK.one 7 (fuel := 2) (listed' := #[true, true, true, true, true, true, true, true, false, false]) (by kernel_rfl) rfl rfl ?_
              refine AK.call co29 rfl (fun w hw => s_run w _ d (h0.at hw) q l hm) trivial rfl ?_
              rintro r o ⟨rfl, rfl⟩
              refine AK.nil ?_
              try (conv => enter [2, 2]; dsimp only [List.set_cons_zero, List.set_cons_succ, List.cons_append, List.nil_append])
              refine HeldK.back (by repeat (first | exact HWle.nil | refine HWle.cons Ale.rfl ?_ | refine HWle.cons Ale.fst ?_)) ?_
              refine HeldK.first 8 (fuel := 1) (listed' := #[true, true, true, true, true, true, true, true, true, false]) _ rfl (by kernel_rfl) rfl rfl (Yl.assign rfl) trivial rfl ?_
              refine HeldK.first 9 (fuel := 0) (listed' := #[true, true, true, true, true, true, true, true, true, true]) _ rfl (by kernel_rfl) rfl rfl (Yl.assign rfl) trivial rfl ?_
              refine HeldK.done (by kernel_rfl) ?_
              refine AK.then_ (hK24 _ ?_)
              refine AK.seq (fun _ hK25 => ?_)
              refine AK.seq (fun _ hK26 => ?_)
              try (conv => enter [2, 2]; dsimp only [List.set_cons_zero, List.set_cons_succ, List.cons_append, List.nil_append])
              refine AK.held 29 mixed ?_
              refine HeldK.first 0 (fuel := 28) (listed' := #[true, false, false, false, false, false, false, false, false, false, false, false, false, false, false, false, false, false, false, false, false, false, false, false, false, false, false, false, false]) _ rfl (by kernel_rfl) rfl rfl (Yl.move rfl) trivial rfl ?_
              refine HeldK.first 1 (fuel := 27) (listed' := #[true, true, false, false, false, false, false, false, false, false, false, false, false, false, false, false, false, false, false, false, false, false, false, false, false, false, false, false, false]) _ rfl (by kernel_rfl) rfl rfl (Yl.geq rfl rfl) trivial rfl ?_
              refine HeldK.first 2 (fuel := 26) (listed' := #[true, true, true, false, false, false, false, false, false, false, false, false, false, false, false, false, false, false, false, false, false, false, false, false, false, false, false, false, false]) _ rfl (by kernel_rfl) rfl rfl (Yl.move rfl) trivial rfl ?_
              refine AK.splitB (g := 108) rfl (fun hg_12_2 => ?_) (fun hg_12_2 => ?_)
              · have hg_12_2' := hg_12_2
                try simp only [decide_eq_true_eq, decide_eq_false_iff_not, Bool.not_eq_true', Bool.not_eq_false', Bool.not_not, ne_eq, Decidable.not_not, Int.not_lt, Int.not_le, beq_iff_eq, bne_iff_ne, Bool.and_eq_true, Bool.or_eq_true, Bool.or_eq_false_iff, Bool.not_false, Bool.not_true, reduceCtorEq, not_true_eq_false, not_false_eq_true] at hg_12_2'
                refine HeldK.first 3 (fuel := 25) (listed' := #[true, true, true, true, false, false, false, false, false, false, false, false, false, false, false, false, false, false, false, false, false, false, false, false, false, false, false, false, false]) _ rfl (by kernel_rfl) rfl rfl (Yl.move rfl) ⟨_, rfl, congrArg (fun b => some (Value.bool b)) hg_12_2⟩ rfl ?_
                refine HeldK.first 4 (fuel := 24) (listed' := #[true, true, true, true, true, false, false, false, false, false, false, false, false, false, false, false, false, false, false, false, false, false, false, false, false, false, false, false, false]) _ rfl (by kernel_rfl) rfl rfl (Yl.geq rfl rfl) ⟨_, rfl, congrArg (fun b => some (Value.bool b)) hg_12_2⟩ rfl ?_
                refine HeldK.first 5 (fuel := 23) (listed' := #[true, true, true, true, true, true, false, false, false, false, false, false, false, false, false, false, false, false, false, false, false, false, false, false, false, false, false, false, false]) _ rfl (by kernel_rfl) rfl rfl (Yl.pickT rfl (hg_12_2) rfl) trivial rfl ?_
                refine HeldK.first 6 (fuel := 22) (listed' := #[true, true, true, true, true, true, true, false, false, false, false, false, false, false, false, false, false, false, false, false, false, false, false, false, false, false, false, false, false]) _ rfl (by kernel_rfl) rfl rfl (Yl.move rfl) trivial rfl ?_
                refine AK.splitB (g := 112) rfl (fun hg_12_6 => ?_) (fun hg_12_6 => ?_)
                · have hg_12_6' := hg_12_6
                  try simp only [decide_eq_true_eq, decide_eq_false_iff_not, Bool.not_eq_true', Bool.not_eq_false', Bool.not_not, ne_eq, Decidable.not_not, Int.not_lt, Int.not_le, beq_iff_eq, bne_iff_ne, Bool.and_eq_true, Bool.or_eq_true, Bool.or_eq_false_iff, Bool.not_false, Bool.not_true, reduceCtorEq, not_true_eq_false, not_false_eq_true] at hg_12_6'
                  refine HeldK.first 7 (fuel := 21) (listed' := #[true, true, true, true, true, true, true, true, false, false, false, false, false, false, false, false, false, false, false, false, false, false, false, false, false, false, false, false, false]) _ rfl (by kernel_rfl) rfl rfl (Yl.fieldAddr fd25_2 rfl) ⟨_, rfl, congrArg (fun b => some (Value.bool b)) hg_12_6⟩ rfl ?_
                  refine HeldK.first 8 (fuel := 20) (listed' := #[true, true, true, true, true, true, true, true, true, false, false, false, false, false, false, false, false, false, false, false, false, false, false, false, false, false, false, false, false]) _ rfl (by kernel_rfl) rfl rfl (Yl.loadBox on22 rfl (by first | ((repeat (first | exact .hd | apply BoxS.tl | apply MapS.tl)); done) | assumption | exact BoxS.arg (by assumption)) rfl) ⟨_, rfl, congrArg (fun b => some (Value.bool b)) hg_12_6⟩ rfl ?_
                  refine HeldK.first 9 (fuel := 19) (listed' := #[true, true, true, true, true, true, true, true, true, true, false, false, false, false, false, false, false, false, false, false, false, false, false, false, false, false, false, false, false]) _ rfl (by kernel_rfl) rfl rfl (Yl.move rfl) ⟨_, rfl, congrArg (fun b => some (Value.bool b)) hg_12_6⟩ rfl ?_
                  first | refine HeldK.first 10 (fuel := 18) (listed' := #[true, true, true, true, true, true, true, true, true, true, true, false, false, false, false, false, false, false, false, false, false, false, false, false, false, false, false, false, false]) _ rfl (by kernel_rfl) rfl rfl (Yl.idxN sl22 rfl rfl (by first | exact .arg ‹_› | ((repeat (first | exact .hd | apply RdS.tl)); done) | assumption) (by decide) (by have := (hb1 hg_12_2').1; omega)) ⟨_, rfl, congrArg (fun b => some (Value.bool b)) hg_12_6⟩ rfl ?_ | refine HeldK.first 10 (fuel := 18) (listed' := #[true, true, true, true, true, true, true, true, true, true, true, false, false, false, false, false, false, false, false, false, false, false, false, false, false, false, false, false, false]) _ rfl (by kernel_rfl) rfl rfl (Yl.idx sl22 rfl rfl (by first | exact .arg ‹_› | ((repeat (first | exact .hd | apply RdS.tl)); done) | assumption) (by decide) (by have := (hb1 hg_12_2').1; omega)) ⟨_, rfl, congrArg (fun b => some (Value.bool b)) hg_12_6⟩ rfl ?_ | refine HeldK.first 10 (fuel := 18) (listed' := #[true, true, true, true, true, true, true, true, true, true, true, false, false, false, false, false, false, false, false, false, false, false, false, false, false, false, false, false, false]) _ rfl (by kernel_rfl) rfl rfl (Yl.idxK sl22 rfl rfl (by first | exact .arg ‹_› | ((repeat (first | exact .hd | apply RdS.tl)); done) | assumption) (by decide) (by have := (hb1 hg_12_2').1; omega)) ⟨_, rfl, congrArg (fun b => some (Value.bool b)) hg_12_6⟩ rfl ?_
                  refine HeldK.first 11 (fuel := 17) (listed' := #[true, true, true, true, true, true, true, true, true, true, true, true, false, false, false, false, false, false, false, false, false, false, false, false, false, false, false, false, false]) _ rfl (by kernel_rfl) rfl rfl (Yl.loadB on4 rfl (by first | exact .arg ‹_› | ((repeat (first | exact .hd | apply RdS.tl)); done) | assumption) (by omega)) ⟨_, rfl, congrArg (fun b => some (Value.bool b)) hg_12_6⟩ rfl ?_
                  refine HeldK.first 12 (fuel := 16) (listed' := #[true, true, true, true, true, true, true, true, true, true, true, true, true, false, false, false, false, false, false, false, false, false, false, false, false, false, false, false, false]) _ rfl (by kernel_rfl) rfl rfl (Yl.fieldAddr fd25_2 rfl) ⟨_, rfl, congrArg (fun b => some (Value.bool b)) hg_12_6⟩ rfl ?_
                  refine HeldK.first 13 (fuel := 15) (listed' := #[true, true, true, true, true, true, true, true, true, true, true, true, true, true, false, false, false, false, false, false, false, false, false, false, false, false, false, false, false]) _ rfl (by kernel_rfl) rfl rfl (Yl.loadBox on22 rfl (by first | ((repeat (first | exact .hd | apply BoxS.tl | apply MapS.tl)); done) | assumption | exact BoxS.arg (by assumption)) rfl) ⟨_, rfl, congrArg (fun b => some (Value.bool b)) hg_12_6⟩ rfl ?_
                  refine HeldK.first 14 (fuel := 14) (listed' := #[true, true, true, true, true, true, true, true, true, true, true, true, true, true, true, false, false, false, false, false, false, false, false, false, false, false, false, false, false]) _ rfl (by kernel_rfl) rfl rfl (Yl.move rfl) ⟨_, rfl, congrArg (fun b => some (Value.bool b)) hg_12_6⟩ rfl ?_
                  first | refine HeldK.first 15 (fuel := 13) (listed' := #[true, true, true, true, true, true, true, true, true, true, true, true, true, true, true, true, false, false, false, false, false, false, false, false, false, false, false, false, false]) _ rfl (by kernel_rfl) rfl rfl (Yl.idxN sl22 rfl rfl (by first | exact .arg ‹_› | ((repeat (first | exact .hd | apply RdS.tl)); done) | assumption) (by decide) (by have := (hb2 hg_12_6').1; omega)) ⟨_, rfl, congrArg (fun b => some (Value.bool b)) hg_12_6⟩ rfl ?_ | refine HeldK.first 15 (fuel := 13) (listed' := #[true, true, true, true, true, true, true, true, true, true, true, true, true, true, true, true, false, false, false, false, false, false, false, false, false, false, false, false, false]) _ rfl (by kernel_rfl) rfl rfl (Yl.idx sl22 rfl rfl (by first | exact .arg ‹_› | ((repeat (first | exact .hd | apply RdS.tl)); done) | assumption) (by decide) (by have := (hb2 hg_12_6').1; omega)) ⟨_, rfl, congrArg (fun b => some (Value.bool b)) hg_12_6⟩ rfl ?_ | refine HeldK.first 15 (fuel := 13) (listed' := #[true, true, true, true, true, true, true, true, true, true, true, true, true, true, true, true, false, false, false, false, false, false, false, false, false, false, false, false, false]) _ rfl (by kernel_rfl) rfl rfl (Yl.idxK sl22 rfl rfl (by first | exact .arg ‹_› | ((repeat (first | exact .hd | apply RdS.tl)); done) | assumption) (by decide) (by have := (hb2 hg_12_6').1; omega)) ⟨_, rfl, congrArg (fun b => some (Value.bool b)) hg_12_6⟩ rfl ?_
                  refine HeldK.first 16 (fuel := 12) (listed' := #[true, true, true, true, true, true, true, true, true, true, true, true, true, true, true, true, true, false, false, false, false, false, false, false, false, false, false, false, false]) _ rfl (by kernel_rfl) rfl rfl (Yl.loadB on4 rfl (by first | exact .arg ‹_› | ((repeat (first | exact .hd | apply RdS.tl)); done) | assumption) (by omega)) ⟨_, rfl, congrArg (fun b => some (Value.bool b)) hg_12_6⟩ rfl ?_
                  refine HeldK.first 17 (fuel := 11) (listed' := #[true, true, true, true, true, true, true, true, true, true, true, true, true, true, true, true, true, true, false, false, false, false, false, false, false, false, false, false, false]) _ rfl (by kernel_rfl) rfl rfl (Yl.neqB bo4 rfl rfl) ⟨_, rfl, congrArg (fun b => some (Value.bool b)) hg_12_6⟩ rfl ?_
                  refine HeldK.first 18 (fuel := 10) (listed' := #[true, true, true, true, true, true, true, true, true, true, true, true, true, true, true, true, true, true, true, false, false, false, false, false, false, false, false, false, false]) _ rfl (by kernel_rfl) rfl rfl (Yl.pickT rfl (hg_12_6) rfl) trivial rfl ?_
                  refine HeldK.first 19 (fuel := 9) (listed' := #[true, true, true, true, true, true, true, true, true, true, true, true, true, true, true, true, true, true, true, true, false, false, false, false, false, false, false, false, false]) _ rfl (by kernel_rfl) rfl rfl (Yl.move rfl) trivial rfl ?_
                  refine AK.splitB (g := 125) rfl (fun hg_12_19 => ?_) (fun hg_12_19 => ?_)
                  · have hg_12_19' := hg_12_19
                    try simp only [decide_eq_true_eq, decide_eq_false_iff_not, Bool.not_eq_true', Bool.not_eq_false', Bool.not_not, ne_eq, Decidable.not_not, Int.not_lt, Int.not_le, beq_iff_eq, bne_iff_ne, Bool.and_eq_true, Bool.or_eq_true, Bool.or_eq_false_iff, Bool.not_false, Bool.not_true, reduceCtorEq, not_true_eq_false, not_false_eq_true] at hg_12_19'
                    refine HeldK.first 20 (fuel := 8) (listed' := #[true, true, true, true, true, true, true, true, true, true, true, true, true, true, true, true, true, true, true, true, true, false, false, false, false, false, false, false, false]) _ rfl (by kernel_rfl) rfl rfl (Yl.move rfl) ⟨_, rfl, congrArg (fun b => some (Value.bool b)) hg_12_19⟩ rfl ?_
                    refine HeldK.first 21 (fuel := 7) (listed' := #[true, true, true, true, true, true, true, true, true, true, true, true, true, true, true, true, true, true, true, true, true, true, false, false, false, false, false, false, false]) _ rfl (by kernel_rfl) rfl rfl (Yl.not rfl) ⟨_, rfl, congrArg (fun b => some (Value.bool b)) hg_12_19⟩ rfl ?_
                    refine HeldK.first 22 (fuel := 6) (listed' := #[true, true, true, true, true, true, true, true, true, true, true, true, true, true, true, true, true, true, true, true, true, true, true, false, false, false, false, false, false]) _ rfl (by kernel_rfl) rfl rfl (Yl.move rfl) ⟨_, rfl, congrArg (fun b => some (Value.bool b)) hg_12_19⟩ rfl ?_
                    refine AK.knownF (g := 128) rfl (by rw [(hall l hg_12_2' hg_12_6' (by simpa using hg_12_19)).1]; rfl) (fun hg_12_22 => ?_)
                    refine HeldK.first 23 (fuel := 5) (listed' := #[true, true, true, true, true, true, true, true, true, true, true, true, true, true, true, true, true, true, true, true, true, true, true, true, false, false, false, false, false]) _ rfl (by kernel_rfl) rfl rfl (Yl.move rfl) ⟨_, rfl, congrArg (fun b => some (Value.bool b)) hg_12_22⟩ rfl ?_
                    refine HeldK.first 24 (fuel := 4) (listed' := #[true, true, true, true, true, true, true, true, true, true, true, true, true, true, true, true, true, true, true, true, true, true, true, true, true, false, false, false, false]) _ rfl (by kernel_rfl) rfl rfl (Yl.move rfl) ⟨_, rfl, congrArg (fun b => some (Value.bool b)) hg_12_22⟩ rfl ?_
                    refine HeldK.one 25 (fuel := 3) (listed' := #[true, true, true, true, true, true, true, true, true, true, true, true, true, true, true, true, true, true, true, true, true, true, true, true, true, true, false, false, false]) (by kernel_rfl) rfl rfl ?_
                    refine AK.call co30 rfl (fun w hw => s_compare w _ _) ⟨_, rfl, congrArg (fun b => some (Value.bool b)) hg_12_22⟩ rfl ?_
                    rintro r o ⟨rfl, rfl⟩
                    refine AK.nil ?_
                    try (conv => enter [2, 2]; dsimp only [List.set_cons_zero, List.set_cons_succ, List.cons_append, List.nil_append])
                    refine HeldK.back (by repeat (first | exact HWle.nil | refine HWle.cons Ale.rfl ?_ | refine HWle.cons Ale.fst ?_)) ?_
                    refine HeldK.first 26 (fuel := 2) (listed' := #[true, true, true, true, true, true, true, true, true, true, true, true, true, true, true, true, true, true, true, true, true, true, true, true, true, true, true, false, false]) _ rfl (by kernel_rfl) rfl rfl (Yl.gtr rfl rfl) ⟨_, rfl, congrArg (fun b => some (Value.bool b)) hg_12_22⟩ rfl ?_
                    refine HeldK.first 27 (fuel := 1) (listed' := #[true, true, true, true, true, true, true, true, true, true, true, true, true, true, true, true, true, true, true, true, true, true, true, true, true, true, true, true, false]) _ rfl (by kernel_rfl) rfl rfl (Yl.pickF rfl (hg_12_22) rfl) ⟨_, rfl, congrArg (fun b => some (Value.bool b)) hg_12_19⟩ rfl ?_
                    refine HeldK.first 28 (fuel := 0) (listed' := #[true, true, true, true, true, true, true, true, true, true, true, true, true, true, true, true, true, true, true, true, true, true, true, true, true, true, true, true, true]) _ rfl (by kernel_rfl) rfl rfl (Yl.pickT rfl (hg_12_19) rfl) trivial rfl ?_
                    refine HeldK.done (by kernel_rfl) ?_
                    refine AK.then_ (hK26 _ ?_)
                    refine AK.cond_f rfl (decide_eq_false (by have := (hall l hg_12_2' hg_12_6' (by simpa using hg_12_19)).2; omega)) ?_
                    refine AK.skip ?_
                    refine AK.then_ (hK25 _ ?_)
                    refine AK.seq (fun _ hK27 => ?_)
                    refine AK.region ?_
                    refine AK.call co16 rfl (fun w hw => s_awake w) trivial rfl ?_
                    rintro r o ⟨rfl, rfl⟩
                    refine AK.val _ (Yl.assign rfl) trivial rfl ?_
                    refine AK.nil ?_
                    refine AK.then_ (hK27 _ ?_)
                    refine AK.ret ?_
                    refine AK.ret1 rfl rfl (fun w hw => ⟨_, _, ?_, rfl, Ret.of (hw.pick [] (by decide) rfl rfl)⟩)
                    exact ⟨rfl, rfl⟩
                  · have hg_12_19' := hg_12_19
                    try simp only [decide_eq_true_eq, decide_eq_false_iff_not, Bool.not_eq_true', Bool.not_eq_false', Bool.not_not, ne_eq, Decidable.not_not, Int.not_lt, Int.not_le, beq_iff_eq, bne_iff_ne, Bool.and_eq_true, Bool.or_eq_true, Bool.or_eq_false_iff, Bool.not_false, Bool.not_true, reduceCtorEq, not_true_eq_false, not_false_eq_true] at hg_12_19'
                    refine HeldK.pass 20 (fuel := 8) (listed' := #[true, true, true, true, true, true, true, true, true, true, true, true, true, true, true, true, true, true, true, true, true, false, false, false, false, false, false, false, false]) rfl (by kernel_rfl) rfl rfl rfl (hg_12_19) rfl ?_
                    refine HeldK.pass 21 (fuel := 7) (listed' := #[true, true, true, true, true, true, true, true, true, true, true, true, true, true, true, true, true, true, true, true, true, true, false, false, false, false, false, false, false]) rfl (by kernel_rfl) rfl rfl rfl (hg_12_19) rfl ?_
                    refine HeldK.pass 22 (fuel := 6) (listed' := #[true, true, true, true, true, true, true, true, true, true, true, true, true, true, true, true, true, true, true, true, true, true, true, false, false, false, false, false, false]) rfl (by kernel_rfl) rfl rfl rfl (hg_12_19) rfl ?_
                    refine HeldK.pass 23 (fuel := 5) (listed' := #[true, true, true, true, true, true, true, true, true, true, true, true, true, true, true, true, true, true, true, true, true, true, true, true, false, false, false, false, false]) rfl (by kernel_rfl) rfl rfl rfl trivial rfl ?_
                    refine HeldK.pass 24 (fuel := 4) (listed' := #[true, true, true, true, true, true, true, true, true, true, true, true, true, true, true, true, true, true, true, true, true, true, true, true, true, false, false, false, false]) rfl (by kernel_rfl) rfl rfl rfl trivial rfl ?_
                    refine HeldK.one 25 (fuel := 3) (listed' := #[true, true, true, true, true, true, true, true, true, true, true, true, true, true, true, true, true, true, true, true, true, true, true, true, true, true, false, false, false]) (by kernel_rfl) rfl rfl ?_
                    refine AK.pass rfl rfl trivial rfl ?_
                    refine AK.nil ?_
                    try (conv => enter [2, 2]; dsimp only [List.set_cons_zero, List.set_cons_succ, List.cons_append, List.nil_append])
                    refine HeldK.back (by repeat (first | exact HWle.nil | refine HWle.cons Ale.rfl ?_ | refine HWle.cons Ale.fst ?_)) ?_
                    refine HeldK.pass 26 (fuel := 2) (listed' := #[true, true, true, true, true, true, true, true, true, true, true, true, true, true, true, true, true, true, true, true, true, true, true, true, true, true, true, false, false]) rfl (by kernel_rfl) rfl rfl rfl trivial rfl ?_
                    refine HeldK.pass 27 (fuel := 1) (listed' := #[true, true, true, true, true, true, true, true, true, true, true, true, true, true, true, true, true, true, true, true, true, true, true, true, true, true, true, true, false]) rfl (by kernel_rfl) rfl rfl rfl (hg_12_19) rfl ?_
                    refine HeldK.first 28 (fuel := 0) (listed' := #[true, true, true, true, true, true, true, true, true, true, true, true, true, true, true, true, true, true, true, true, true, true, true, true, true, true, true, true, true]) _ rfl (by kernel_rfl) rfl rfl (Yl.pickF rfl (hg_12_19) rfl) trivial rfl ?_
                    refine HeldK.done (by kernel_rfl) ?_
                    refine AK.then_ (hK26 _ ?_)
                    refine AK.cond_f rfl (rfl) ?_
                    refine AK.skip ?_
                    refine AK.then_ (hK25 _ ?_)
                    refine AK.seq (fun _ hK28 => ?_)
                    refine AK.region ?_
                    refine AK.call co16 rfl (fun w hw => s_awake w) trivial rfl ?_
                    rintro r o ⟨rfl, rfl⟩
                    refine AK.val _ (Yl.assign rfl) trivial rfl ?_
                    refine AK.nil ?_
                    refine AK.then_ (hK28 _ ?_)
                    refine AK.ret ?_
                    refine AK.ret1 rfl rfl (fun w hw => ⟨_, _, ?_, rfl, Ret.of (hw.pick [] (by decide) rfl rfl)⟩)
                    exact ⟨rfl, rfl⟩
                · have hg_12_6' := hg_12_6
                  try simp only [decide_eq_true_eq, decide_eq_false_iff_not, Bool.not_eq_true', Bool.not_eq_false', Bool.not_not, ne_eq, Decidable.not_not, Int.not_lt, Int.not_le, beq_iff_eq, bne_iff_ne, Bool.and_eq_true, Bool.or_eq_true, Bool.or_eq_false_iff, Bool.not_false, Bool.not_true, reduceCtorEq, not_true_eq_false, not_false_eq_true] at hg_12_6'
                  refine HeldK.pass 7 (fuel := 21) (listed' := #[true, true, true, true, true, true, true, true, false, false, false, false, false, false, false, false, false, false, false, false, false, false, false, false, false, false, false, false, false]) rfl (by kernel_rfl) rfl rfl rfl (hg_12_6) rfl ?_
                  refine HeldK.pass 8 (fuel := 20) (listed' := #[true, true, true, true, true, true, true, true, true, false, false, false, false, false, false, false, false, false, false, false, false, false, false, false, false, false, false, false, false]) rfl (by kernel_rfl) rfl rfl rfl (hg_12_6) rfl ?_
                  refine HeldK.pass 9 (fuel := 19) (listed' := #[true, true, true, true, true, true, true, true, true, true, false, false, false, false, false, false, false, false, false, false, false, false, false, false, false, false, false, false, false]) rfl (by kernel_rfl) rfl rfl rfl (hg_12_6) rfl ?_
                  refine HeldK.pass 10 (fuel := 18) (listed' := #[true, true, true, true, true, true, true, true, true, true, true, false, false, false, false, false, false, false, false, false, false, false, false, false, false, false, false, false, false]) rfl (by kernel_rfl) rfl rfl rfl (hg_12_6) rfl ?_
                  refine HeldK.pass 11 (fuel := 17) (listed' := #[true, true, true, true, true, true, true, true, true, true, true, true, false, false, false, false, false, false, false, false, false, false, false, false, false, false, false, false, false]) rfl (by kernel_rfl) rfl rfl rfl (hg_12_6) rfl ?_
                  refine HeldK.pass 12 (fuel := 16) (listed' := #[true, true, true, true, true, true, true, true, true, true, true, true, true, false, false, false, false, false, false, false, false, false, false, false, false, false, false, false, false]) rfl (by kernel_rfl) rfl rfl rfl (hg_12_6) rfl ?_
                  refine HeldK.pass 13 (fuel := 15) (listed' := #[true, true, true, true, true, true, true, true, true, true, true, true, true, true, false, false, false, false, false, false, false, false, false, false, false, false, false, false, false]) rfl (by kernel_rfl) rfl rfl rfl (hg_12_6) rfl ?_
                  refine HeldK.pass 14 (fuel := 14) (listed' := #[true, true, true, true, true, true, true, true, true, true, true, true, true, true, true, false, false, false, false, false, false, false, false, false, false, false, false, false, false]) rfl (by kernel_rfl) rfl rfl rfl (hg_12_6) rfl ?_
                  refine HeldK.pass 15 (fuel := 13) (listed' := #[true, true, true, true, true, true, true, true, true, true, true, true, true, true, true, true, false, false, false, false, false, false, false, false, false, false, false, false, false]) rfl (by kernel_rfl) rfl rfl rfl (hg_12_6) rfl ?_
                  refine HeldK.pass 16 (fuel := 12) (listed' := #[true, true, true, true, true, true, true, true, true, true, true, true, true, true, true, true, true, false, false, false, false, false, false, false, false, false, false, false, false]) rfl (by kernel_rfl) rfl rfl rfl (hg_12_6) rfl ?_
                  refine HeldK.pass 17 (fuel := 11) (listed' := #[true, true, true, true, true, true, true, true, true, true, true, true, true, true, true, true, true, true, false, false, false, false, false, false, false, false, false, false, false]) rfl (by kernel_rfl) rfl rfl rfl (hg_12_6) rfl ?_
                  refine HeldK.first 18 (fuel := 10) (listed' := #[true, true, true, true, true, true, true, true, true, true, true, true, true, true, true, true, true, true, true, false, false, false, false, false, false, false, false, false, false]) _ rfl (by kernel_rfl) rfl rfl (Yl.pickF rfl (hg_12_6) rfl) trivial rfl ?_
                  refine HeldK.first 19 (fuel := 9) (listed' := #[true, true, true, true, true, true, true, true, true, true, true, true, true, true, true, true, true, true, true, true, false, false, false, false, false, false, false, false, false]) _ rfl (by kernel_rfl) rfl rfl (Yl.move rfl) trivial rfl ?_
                  refine HeldK.pass 20 (fuel := 8) (listed' := #[true, true, true, true, true, true, true, true, true, true, true, true, true, true, true, true, true, true, true, true, true, false, false, false, false, false, false, false, false]) rfl (by kernel_rfl) rfl rfl rfl rfl rfl ?_
                  refine HeldK.pass 21 (fuel := 7) (listed' := #[true, true, true, true, true, true, true, true, true, true, true, true, true, true, true, true, true, true, true, true, true, true, false, false, false, false, false, false, false]) rfl (by kernel_rfl) rfl rfl rfl rfl rfl ?_
                  refine HeldK.pass 22 (fuel := 6) (listed' := #[true, true, true, true, true, true, true, true, true, true, true, true, true, true, true, true, true, true, true, true, true, true, true, false, false, false, false, false, false]) rfl (by kernel_rfl) rfl rfl rfl rfl rfl ?_
                  refine HeldK.pass 23 (fuel := 5) (listed' := #[true, true, true, true, true, true, true, true, true, true, true, true, true, true, true, true, true, true, true, true, true, true, true, true, false, false, false, false, false]) rfl (by kernel_rfl) rfl rfl rfl trivial rfl ?_
                  refine HeldK.pass 24 (fuel := 4) (listed' := #[true, true, true, true, true, true, true, true, true, true, true, true, true, true, true, true, true, true, true, true, true, true, true, true, true, false, false, false, false]) rfl (by kernel_rfl) rfl rfl rfl trivial rfl ?_
                  refine HeldK.one 25 (fuel := 3) (listed' := #[true, true, true, true, true, true, true, true, true, true, true, true, true, true, true, true, true, true, true, true, true, true, true, true, true, true, false, false, false]) (by kernel_rfl) rfl rfl ?_
                  refine AK.pass rfl rfl trivial rfl ?_
                  refine AK.nil ?_
                  try (conv => enter [2, 2]; dsimp only [List.set_cons_zero, List.set_cons_succ, List.cons_append, List.nil_append])
                  refine HeldK.back (by repeat (first | exact HWle.nil | refine HWle.cons Ale.rfl ?_ | refine HWle.cons Ale.fst ?_)) ?_
                  refine HeldK.pass 26 (fuel := 2) (listed' := #[true, true, true, true, true, true, true, true, true, true, true, true, true, true, true, true, true, true, true, true, true, true, true, true, true, true, true, false, false]) rfl (by kernel_rfl) rfl rfl rfl trivial rfl ?_
                  refine HeldK.pass 27 (fuel := 1) (listed' := #[true, true, true, true, true, true, true, true, true, true, true, true, true, true, true, true, true, true, true, true, true, true, true, true, true, true, true, true, false]) rfl (by kernel_rfl) rfl rfl rfl rfl rfl ?_
                  refine HeldK.first 28 (fuel := 0) (listed' := #[true, true, true, true, true, true, true, true, true, true, true, true, true, true, true, true, true, true, true, true, true, true, true, true, true, true, true, true, true]) _ rfl (by kernel_rfl) rfl rfl (Yl.pickF rfl (rfl) rfl) trivial rfl ?_
                  refine HeldK.done (by kernel_rfl) ?_
                  refine AK.then_ (hK26 _ ?_)
                  refine AK.cond_f rfl (rfl) ?_
                  refine AK.skip ?_
                  refine AK.then_ (hK25 _ ?_)
                  refine AK.seq (fun _ hK29 => ?_)
                  refine AK.region ?_
                  refine AK.call co16 rfl (fun w hw => s_awake w) trivial rfl ?_
                  rintro r o ⟨rfl, rfl⟩
                  refine AK.val _ (Yl.assign rfl) trivial rfl ?_
                  refine AK.nil ?_
                  refine AK.then_ (hK29 _ ?_)
                  refine AK.ret ?_
                  refine AK.ret1 rfl rfl (fun w hw => ⟨_, _, ?_, rfl, Ret.of (hw.pick [] (by decide) rfl rfl)⟩)
                  exact ⟨rfl, rfl⟩
              · have hg_12_2' := hg_12_2
                try simp only [decide_eq_true_eq, decide_eq_false_iff_not, Bool.not_eq_true', Bool.not_eq_false', Bool.not_not, ne_eq, Decidable.not_not, Int.not_lt, Int.not_le, beq_iff_eq, bne_iff_ne, Bool.and_eq_true, Bool.or_eq_true, Bool.or_eq_false_iff, Bool.not_false, Bool.not_true, reduceCtorEq, not_true_eq_false, not_false_eq_true] at hg_12_2'
                refine HeldK.pass 3 (fuel := 25) (listed' := #[true, true, true, true, false, false, false, false, false, false, false, false, false, false, false, false, false, false, false, false, false, false, false, false, false, false, false, false, false]) rfl (by kernel_rfl) rfl rfl rfl (hg_12_2) rfl ?_
                refine HeldK.pass 4 (fuel := 24) (listed' := #[true, true, true, true, true, false, false, false, false, false, false, false, false, false, false, false, false, false, false, false, false, false, false, false, false, false, false, false, false]) rfl (by kernel_rfl) rfl rfl rfl (hg_12_2) rfl ?_
                refine HeldK.first 5 (fuel := 23) (listed' := #[true, true, true, true, true, true, false, false, false, false, false, false, false, false, false, false, false, false, false, false, false, false, false, false, false, false, false, false, false]) _ rfl (by kernel_rfl) rfl rfl (Yl.pickF rfl (hg_12_2) rfl) trivial rfl ?_
                refine HeldK.first 6 (fuel := 22) (listed' := #[true, true, true, true, true, true, true, false, false, false, false, false, false, false, false, false, false, false, false, false, false, false, false, false, false, false, false, false, false]) _ rfl (by kernel_rfl) rfl rfl (Yl.move rfl) trivial rfl ?_
                refine HeldK.pass 7 (fuel := 21) (listed' := #[true, true, true, true, true, true, true, true, false, false, false, false, false, false, false, false, false, false, false, false, false, false, false, false, false, false, false, false, false]) rfl (by kernel_rfl) rfl rfl rfl rfl rfl ?_
                refine HeldK.pass 8 (fuel := 20) (listed' := #[true, true, true, true, true, true, true, true, true, false, false, false, false, false, false, false, false, false, false, false, false, false, false, false, false, false, false, false, false]) rfl (by kernel_rfl) rfl rfl rfl rfl rfl ?_
                refine HeldK.pass 9 (fuel := 19) (listed' := #[true, true, true, true, true, true, true, true, true, true, false, false, false, false, false, false, false, false, false, false, false, false, false, false, false, false, false, false, false]) rfl (by kernel_rfl) rfl rfl rfl rfl rfl ?_
                refine HeldK.pass 10 (fuel := 18) (listed' := #[true, true, true, true, true, true, true, true, true, true, true, false, false, false, false, false, false, false, false, false, false, false, false, false, false, false, false, false, false]) rfl (by kernel_rfl) rfl rfl rfl rfl rfl ?_
                refine HeldK.pass 11 (fuel := 17) (listed' := #[true, true, true, true, true, true, true, true, true, true, true, true, false, false, false, false, false, false, false, false, false, false, false, false, false, false, false, false, false]) rfl (by kernel_rfl) rfl rfl rfl rfl rfl ?_
                refine HeldK.pass 12 (fuel := 16) (listed' := #[true, true, true, true, true, true, true, true, true, true, true, true, true, false, false, false, false, false, false, false, false, false, false, false, false, false, false, false, false]) rfl (by kernel_rfl) rfl rfl rfl rfl rfl ?_
                refine HeldK.pass 13 (fuel := 15) (listed' := #[true, true, true, true, true, true, true, true, true, true, true, true, true, true, false, false, false, false, false, false, false, false, false, false, false, false, false, false, false]) rfl (by kernel_rfl) rfl rfl rfl rfl rfl ?_
                refine HeldK.pass 14 (fuel := 14) (listed' := #[true, true, true, true, true, true, true, true, true, true, true, true, true, true, true, false, false, false, false, false, false, false, false, false, false, false, false, false, false]) rfl (by kernel_rfl) rfl rfl rfl rfl rfl ?_
                refine HeldK.pass 15 (fuel := 13) (listed' := #[true, true, true, true, true, true, true, true, true, true, true, true, true, true, true, true, false, false, false, false, false, false, false, false, false, false, false, false, false]) rfl (by kernel_rfl) rfl rfl rfl rfl rfl ?_
                refine HeldK.pass 16 (fuel := 12) (listed' := #[true, true, true, true, true, true, true, true, true, true, true, true, true, true, true, true, true, false, false, false, false, false, false, false, false, false, false, false, false]) rfl (by kernel_rfl) rfl rfl rfl rfl rfl ?_
                refine HeldK.pass 17 (fuel := 11) (listed' := #[true, true, true, true, true, true, true, true, true, true, true, true, true, true, true, true, true, true, false, false, false, false, false, false, false, false, false, false, false]) rfl (by kernel_rfl) rfl rfl rfl rfl rfl ?_
                refine HeldK.first 18 (fuel := 10) (listed' := #[true, true, true, true, true, true, true, true, true, true, true, true, true, true, true, true, true, true, true, false, false, false, false, false, false, false, false, false, false]) _ rfl (by kernel_rfl) rfl rfl (Yl.pickF rfl (rfl) rfl) trivial rfl ?_
                refine HeldK.first 19 (fuel := 9) (listed' := #[true, true, true, true, true, true, true, true, true, true, true, true, true, true, true, true, true, true, true, true, false, false, false, false, false, false, false, false, false]) _ rfl (by kernel_rfl) rfl rfl (Yl.move rfl) trivial rfl ?_
                refine HeldK.pass 20 (fuel := 8) (listed' := #[true, true, true, true, true, true, true, true, true, true, true, true, true, true, true, true, true, true, true, true, true, false, false, false, false, false, false, false, false]) rfl (by kernel_rfl) rfl rfl rfl rfl rfl ?_
                refine HeldK.pass 21 (fuel := 7) (listed' := #[true, true, true, true, true, true, true, true, true, true, true, true, true, true, true, true, true, true, true, true, true, true, false, false, false, false, false, false, false]) rfl (by kernel_rfl) rfl rfl rfl rfl rfl ?_
                refine HeldK.pass 22 (fuel := 6) (listed' := #[true, true, true, true, true, true, true, true, true, true, true, true, true, true, true, true, true, true, true, true, true, true, true, false, false, false, false, false, false]) rfl (by kernel_rfl) rfl rfl rfl rfl rfl ?_
                refine HeldK.pass 23 (fuel := 5) (listed' := #[true, true, true, true, true, true, true, true, true, true, true, true, true, true, true, true, true, true, true, true, true, true, true, true, false, false, false, false, false]) rfl (by kernel_rfl) rfl rfl rfl trivial rfl ?_
                refine HeldK.pass 24 (fuel := 4) (listed' := #[true, true, true, true, true, true, true, true, true, true, true, true, true, true, true, true, true, true, true, true, true, true, true, true, true, false, false, false, false]) rfl (by kernel_rfl) rfl rfl rfl trivial rfl ?_
                refine HeldK.one 25 (fuel := 3) (listed' := #[true, true, true, true, true, true, true, true, true, true, true, true, true, true, true, true, true, true, true, true, true, true, true, true, true, true, false, false, false]) (by kernel_rfl) rfl rfl ?_
                refine AK.pass rfl rfl trivial rfl ?_
                refine AK.nil ?_
                try (conv => enter [2, 2]; dsimp only [List.set_cons_zero, List.set_cons_succ, List.cons_append, List.nil_append])
                refine HeldK.back (by repeat (first | exact HWle.nil | refine HWle.cons Ale.rfl ?_ | refine HWle.cons Ale.fst ?_)) ?_
                refine HeldK.pass 26 (fuel := 2) (listed' := #[true, true, true, true, true, true, true, true, true, true, true, true, true, true, true, true, true, true, true, true, true, true, true, true, true, true, true, false, false]) rfl (by kernel_rfl) rfl rfl rfl trivial rfl ?_
                refine HeldK.pass 27 (fuel := 1) (listed' := #[true, true, true, true, true, true, true, true, true, true, true, true, true, true, true, true, true, true, true, true, true, true, true, true, true, true, true, true, false]) rfl (by kernel_rfl) rfl rfl rfl rfl rfl ?_
                refine HeldK.first 28 (fuel := 0) (listed' := #[true, true, true, true, true, true, true, true, true, true, true, true, true, true, true, true, true, true, true, true, true, true, true, true, true, true, true, true, true]) _ rfl (by kernel_rfl) rfl rfl (Yl.pickF rfl (rfl) rfl) trivial rfl ?_
                refine HeldK.done (by kernel_rfl) ?_
                refine AK.then_ (hK26 _ ?_)
                refine AK.cond_f rfl (rfl) ?_
                refine AK.skip ?_
                refine AK.then_ (hK25 _ ?_)
                refine AK.seq (fun _ hK30 => ?_)
                refine AK.region ?_
                refine AK.call co16 rfl (fun w hw => s_awake w) trivial rfl ?_
                rintro r o ⟨rfl, rfl⟩
                refine AK.val _ (Yl.assign rfl) trivial rfl ?_
                refine AK.nil ?_
                refine AK.then_ (hK30 _ ?_)
                refine AK.ret ?_
                refine AK.ret1 rfl rfl (fun w hw => ⟨_, _, ?_, rfl, Ret.of (hw.pick [] (by decide) rfl rfl)⟩)
                exact ⟨rfl, rfl⟩

end Go.Proofs.Ytoikhoniogicdaa
