import Derived.Test.YtkdidaiedibhaaaA3
import Derived.Test.YtkdidaiedibhaaaPv
set_option linter.unusedVariables false
set_option linter.unusedSimpArgs false
namespace Go.Proofs.Ytkdidaiedibhaaa
open Go.Sx Go.RowKit
theorem bne_F {a b : Bool} (h : (a != b) = false) : a = b := by simpa using h
theorem bne_T {a b : Bool} (h : (a != b) = true) : ¬ a = b := by simpa using h
theorem sat_next {xs : List Int} {ys : List Bool} {a m : Nat} {b b' : Bool} (h1 : b = true ↔ ∀ c, c < a → clOK false ys ((classB xs).getD c []) ((classB xs).getD c []).length) (h2 : b' = true ↔ b = true ∧ clOK false ys ((classB xs).getD a []) m) (hm : m = ((classB xs).getD a []).length) :
    b' = true ↔ ∀ c, c < a + 1 → clOK false ys ((classB xs).getD c []) ((classB xs).getD c []).length := by
  subst hm
  rw [h2, h1]
  exact ⟨fun h => lt_succ_all h.1 h.2, fun h => ⟨fun c hc => h c (by omega), h a (by omega)⟩⟩
theorem sat_step {ys : List Bool} {cl : List Int} {m : Nat} {b b' : Bool} (h : b' = true ↔ b = true ∧ clOK false ys cl m) :
    (b' && (ys.getD (cl.getD m 0).toNat false == ys.getD (cl.getD 0 0).toNat false)) = true ↔ b = true ∧ clOK false ys cl (m + 1) := by
  rw [Bool.and_eq_true, h, beq_iff_eq]
  exact ⟨fun ⟨⟨h1, h2⟩, h3⟩ => ⟨h1, lt_succ_all h2 h3⟩, fun ⟨h1, h2⟩ => ⟨⟨h1, fun c hc => h2 c (by omega)⟩, h2 m (by omega)⟩⟩
theorem sat_fin {xs : List Int} {ys : List Bool} {a : Nat} {b : Bool} (hv : ValidP xs) (hl : xs.length = ys.length) (ha : a = (classB xs).length) (h1 : b = true ↔ ∀ c, c < a → clOK false ys ((classB xs).getD c []) ((classB xs).getD c []).length) : (satB xs ys == b) = true := by
  subst ha
  rw [beq_iff_eq]
  apply Bool.eq_iff_iff.2
  rw [h1, ← kerB_cls (d := false) (ys := ys) hv]
  unfold satB
  rw [decide_eq_true (⟨hl, hv⟩ : _ ∧ _), Bool.true_and]

set_option maxRecDepth 100000 in
theorem s_matching (w : World) (u v : Value) (xs ys : List Int) (hu : RdI w u xs) (hv : RdI w v ys) : CallS Try.prog 48 [u, v] w (fun r o => r = .bool (decide (xs.length = ys.length ∧ ValidP xs ∧ ValidP ys)) ∧ o = []) := by
  have hu0 := hu
  have hv0 := hv
  unfold RdI at hu hv
  refine spec_of Try.func48 rfl (Nat.le_of_ble_eq_true rfl) ?_
  refine AK.seq (fun _ hK1 => ?_)
  refine AK.region ?_
  refine AK.val _ (Yl.assign rfl) trivial rfl ?_
  refine AK.nil ?_
  refine AK.then_ (hK1 _ ?_)
  refine AK.seq (fun _ hK2 => ?_)
  refine AK.region ?_
  refine AK.val _ (Yl.move rfl) trivial rfl ?_
  refine AK.val _ (Yl.lenR sl22 rfl (by first | exact .arg ‹_› | exact .own 0 rfl | exact .own 1 rfl | exact .own 2 rfl | exact .own 3 rfl | exact .own 4 rfl | exact .own 5 rfl | exact .own 6 rfl | exact .own 7 rfl | exact .own 8 rfl | assumption)) trivial rfl ?_
  refine AK.val _ (Yl.move rfl) trivial rfl ?_
  refine AK.val _ (Yl.lenR sl22 rfl (by first | exact .arg ‹_› | exact .own 0 rfl | exact .own 1 rfl | exact .own 2 rfl | exact .own 3 rfl | exact .own 4 rfl | exact .own 5 rfl | exact .own 6 rfl | exact .own 7 rfl | exact .own 8 rfl | assumption)) trivial rfl ?_
  refine AK.val _ (Yl.eql rfl rfl) trivial rfl ?_
  refine AK.val _ (Yl.move rfl) trivial rfl ?_
  refine AK.splitB (g := 10) rfl (fun hg_1_5 => ?_) (fun hg_1_5 => ?_)
  · have hg_1_5' := hg_1_5
    try simp only [decide_eq_true_eq, decide_eq_false_iff_not, Bool.not_eq_true', Bool.not_eq_false', Bool.not_not, ne_eq, Decidable.not_not, Int.not_lt, Int.not_le, beq_iff_eq, bne_iff_ne, Bool.and_eq_true, Bool.or_eq_true, Bool.or_eq_false_iff, Bool.not_false, Bool.not_true, reduceCtorEq, not_true_eq_false, not_false_eq_true] at hg_1_5'
    refine AK.val _ (Yl.move rfl) ⟨_, rfl, congrArg (fun b => some (Value.bool b)) hg_1_5⟩ rfl ?_
    refine AK.call co18 rfl (fun w hw => s_valid w u xs (RdI.at hu0 hw)) ⟨_, rfl, congrArg (fun b => some (Value.bool b)) hg_1_5⟩ rfl ?_
    rintro r o ⟨rfl, rfl⟩
    refine AK.val _ (Yl.pickT rfl (hg_1_5) rfl) trivial rfl ?_
    refine AK.val _ (Yl.move rfl) trivial rfl ?_
    refine AK.splitB (g := 14) rfl (fun hg_1_9 => ?_) (fun hg_1_9 => ?_)
    · have hg_1_9' := hg_1_9
      try simp only [decide_eq_true_eq, decide_eq_false_iff_not, Bool.not_eq_true', Bool.not_eq_false', Bool.not_not, ne_eq, Decidable.not_not, Int.not_lt, Int.not_le, beq_iff_eq, bne_iff_ne, Bool.and_eq_true, Bool.or_eq_true, Bool.or_eq_false_iff, Bool.not_false, Bool.not_true, reduceCtorEq, not_true_eq_false, not_false_eq_true] at hg_1_9'
      refine AK.val _ (Yl.move rfl) ⟨_, rfl, congrArg (fun b => some (Value.bool b)) hg_1_9⟩ rfl ?_
      refine AK.call co18 rfl (fun w hw => s_valid w v ys (RdI.at hv0 hw)) ⟨_, rfl, congrArg (fun b => some (Value.bool b)) hg_1_9⟩ rfl ?_
      rintro r o ⟨rfl, rfl⟩
      refine AK.val _ (Yl.pickT rfl (hg_1_9) rfl) trivial rfl ?_
      refine AK.val _ (Yl.assign rfl) trivial rfl ?_
      refine AK.nil ?_
      refine AK.then_ (hK2 _ ?_)
      refine AK.ret ?_
      refine AK.ret1 rfl rfl (fun w hw => ⟨_, _, ?_, rfl, Ret.of (hw.pick [] (by decide) rfl rfl)⟩)
      refine ⟨congrArg Value.bool ?_, rfl⟩
      apply Bool.eq_iff_iff.2
      simp only [decide_eq_true_eq]
      first | (constructor <;> intro h <;> first | (exact ⟨by omega, hg_1_9', h⟩) | exact h.2.2) | (simp only [Bool.false_eq_true, false_iff]; rintro ⟨h1, h2, h3⟩; first | exact hg_1_9' h2 | omega)
    · have hg_1_9' := hg_1_9
      try simp only [decide_eq_true_eq, decide_eq_false_iff_not, Bool.not_eq_true', Bool.not_eq_false', Bool.not_not, ne_eq, Decidable.not_not, Int.not_lt, Int.not_le, beq_iff_eq, bne_iff_ne, Bool.and_eq_true, Bool.or_eq_true, Bool.or_eq_false_iff, Bool.not_false, Bool.not_true, reduceCtorEq, not_true_eq_false, not_false_eq_true] at hg_1_9'
      refine AK.pass rfl rfl (hg_1_9) rfl ?_
      refine AK.pass rfl rfl (hg_1_9) rfl ?_
      refine AK.val _ (Yl.pickF rfl (hg_1_9) rfl) trivial rfl ?_
      refine AK.val _ (Yl.assign rfl) trivial rfl ?_
      refine AK.nil ?_
      refine AK.then_ (hK2 _ ?_)
      refine AK.ret ?_
      refine AK.ret1 rfl rfl (fun w hw => ⟨_, _, ?_, rfl, Ret.of (hw.pick [] (by decide) rfl rfl)⟩)
      refine ⟨congrArg Value.bool ?_, rfl⟩
      apply Bool.eq_iff_iff.2
      simp only [decide_eq_true_eq]
      first | (constructor <;> intro h <;> first | (exact ⟨by omega, hg_1_9', h⟩) | exact h.2.2) | (simp only [Bool.false_eq_true, false_iff]; rintro ⟨h1, h2, h3⟩; first | exact hg_1_9' h2 | omega)
  · have hg_1_5' := hg_1_5
    try simp only [decide_eq_true_eq, decide_eq_false_iff_not, Bool.not_eq_true', Bool.not_eq_false', Bool.not_not, ne_eq, Decidable.not_not, Int.not_lt, Int.not_le, beq_iff_eq, bne_iff_ne, Bool.and_eq_true, Bool.or_eq_true, Bool.or_eq_false_iff, Bool.not_false, Bool.not_true, reduceCtorEq, not_true_eq_false, not_false_eq_true] at hg_1_5'
    refine AK.pass rfl rfl (hg_1_5) rfl ?_
    refine AK.pass rfl rfl (hg_1_5) rfl ?_
    refine AK.val _ (Yl.pickF rfl (hg_1_5) rfl) trivial rfl ?_
    refine AK.val _ (Yl.move rfl) trivial rfl ?_
    refine AK.pass rfl rfl rfl rfl ?_
    refine AK.pass rfl rfl rfl rfl ?_
    refine AK.val _ (Yl.pickF rfl (rfl) rfl) trivial rfl ?_
    refine AK.val _ (Yl.assign rfl) trivial rfl ?_
    refine AK.nil ?_
    refine AK.then_ (hK2 _ ?_)
    refine AK.ret ?_
    refine AK.ret1 rfl rfl (fun w hw => ⟨_, _, ?_, rfl, Ret.of (hw.pick [] (by decide) rfl rfl)⟩)
    refine ⟨congrArg Value.bool ?_, rfl⟩
    apply Bool.eq_iff_iff.2
    simp only [decide_eq_true_eq]
    first | (constructor <;> intro h <;> first | (exact ⟨by omega, hg_1_9', h⟩) | exact h.2.2) | (simp only [Bool.false_eq_true, false_iff]; rintro ⟨h1, h2, h3⟩; first | exact hg_1_9' h2 | omega)

set_option maxRecDepth 100000 in
theorem s_refines (w : World) (u v : Value) (xs ys : List Int) (hu : RdI w u xs) (hv : RdI w v ys) : CallS Try.prog 33 [u, v] w (fun r o => r = .bool (refB xs ys) ∧ o = []) := by
  have hu0 := hu
  have hv0 := hv
  unfold RdI at hu hv
  refine spec_of Try.func33 rfl (Nat.le_of_ble_eq_true rfl) ?_
  refine AK.seq (fun _ hK1 => ?_)
  refine AK.region ?_
  refine AK.val _ (Yl.assign rfl) trivial rfl ?_
  refine AK.nil ?_
  refine AK.then_ (hK1 _ ?_)
  refine AK.seq (fun _ hK2 => ?_)
  refine AK.seq (fun _ hK3 => ?_)
  refine AK.region ?_
  refine AK.val _ (Yl.move rfl) trivial rfl ?_
  refine AK.val _ (Yl.move rfl) trivial rfl ?_
  refine AK.call co48 rfl (fun w hw => s_matching w u v xs ys (RdI.at hu0 hw) (RdI.at hv0 hw)) trivial rfl ?_
  rintro r o ⟨rfl, rfl⟩
  refine AK.val _ (Yl.not rfl) trivial rfl ?_
  refine AK.nil ?_
  refine AK.then_ (hK3 _ ?_)
  refine AK.condB rfl (fun hc0 => ?_) (fun hc0 => ?_)
  · refine AK.seq (fun _ hK4 => ?_)
    refine AK.region ?_
    refine AK.val _ (Yl.assign rfl) trivial rfl ?_
    refine AK.nil ?_
    refine AK.then_ (hK4 _ ?_)
    refine AK.ret ?_
    refine AK.then_ret ?_
    refine AK.ret1 rfl rfl (fun w hw => ⟨_, _, ?_, rfl, Ret.of (hw.pick [] (by decide) rfl rfl)⟩)
    refine ⟨congrArg Value.bool ?_, rfl⟩
    unfold refB; rw [hc0]; rfl
  · obtain ⟨hle, hvp, hvq⟩ := of_decide_eq_true hc0
    have hl1 := hvp.1
    refine AK.skip ?_
    refine AK.then_ (hK2 _ ?_)
    refine AK.seq (fun _ hK5 => ?_)
    refine AK.seq (fun _ hK6 => ?_)
    refine AK.region ?_
    refine AK.val _ (Yl.move rfl) trivial rfl ?_
    refine AK.call co22 rfl (fun w hw => s_classes w u xs (RdI.at hu0 hw)) trivial rfl ?_
    rintro cv o ⟨rs, hrl, rfl⟩
    refine AK.val _ (Yl.lenR sl28 rfl (by first | exact .arg ‹_› | exact .own 0 rfl | exact .own 1 rfl | exact .own 2 rfl | exact .own 3 rfl | exact .own 4 rfl | exact .own 5 rfl | exact .own 6 rfl | exact .own 7 rfl | exact .own 8 rfl | assumption | exact .big 1 _ rfl (matL_get hrl (by omega)))) trivial rfl ?_
    refine AK.val _ (Yl.move rfl) trivial rfl ?_
    refine AK.nil ?_
    refine AK.then_ (hK6 _ ?_)
    refine AK.block ?_
    refine AK.loopS (X := Nat) [1, 14, 15] (fun a => [(16, .int .i64 (a : Int))]) (fun a => [row cv 22 1 (classB xs).length rs, bigA (matL 3 rs (classB xs))]) (fun a => a ≤ (classB xs).length ∧ ∀ c, c < a → clOK 0 ys ((classB xs).getD c []) ((classB xs).getD c []).length) (fun a => (classB xs).length - a) (0) ?_ ?_ ?_ ?_
    · exact ⟨Nat.zero_le _, fun c h => absurd h (Nat.not_lt_zero _)⟩
    · exact .cons (rfl) (.nil)
    · exact fun w hw => hw
    · intro a hg0 _ hK7
      obtain ⟨ha, hoka⟩ := hg0
      have hcn := classB_len hvp
      have hvc := valid_cnt hvp
      refine AK.seq (fun _ hK8 => ?_)
      refine AK.region ?_
      refine AK.val _ (Yl.lss rfl rfl) trivial rfl ?_
      refine AK.nil ?_
      refine AK.then_ (hK8 _ ?_)
      refine AK.seq (fun _ hK9 => ?_)
      refine AK.condD rfl (fun hc1 => ?_) (fun hc1 => ?_)
      · refine AK.skip ?_
        refine AK.then_ (hK9 _ ?_)
        refine AK.seq (fun _ hK10 => ?_)
        refine AK.block ?_
        refine AK.seq (fun _ hK11 => ?_)
        refine AK.region ?_
        first | refine AK.val _ (Yl.idxN sl28 rfl rfl (by first | exact .arg ‹_› | exact .own 0 rfl | exact .own 1 rfl | exact .own 2 rfl | exact .own 3 rfl | exact .own 4 rfl | exact .own 5 rfl | exact .own 6 rfl | exact .own 7 rfl | exact .own 8 rfl | assumption | exact .big 1 _ rfl (matL_get hrl (by omega))) (by decide) (by omega)) trivial rfl ?_ | refine AK.val _ (Yl.idx sl28 rfl rfl (by first | exact .arg ‹_› | exact .own 0 rfl | exact .own 1 rfl | exact .own 2 rfl | exact .own 3 rfl | exact .own 4 rfl | exact .own 5 rfl | exact .own 6 rfl | exact .own 7 rfl | exact .own 8 rfl | assumption | exact .big 1 _ rfl (matL_get hrl (by omega))) (by decide) (by omega)) trivial rfl ?_
        refine AK.val _ (Yl.loadV on22 rfl (by first | exact .arg ‹_› | exact .own 0 rfl | exact .own 1 rfl | exact .own 2 rfl | exact .own 3 rfl | exact .own 4 rfl | exact .own 5 rfl | exact .own 6 rfl | exact .own 7 rfl | exact .own 8 rfl | assumption | exact .big 1 _ rfl (matL_get hrl (by omega))) (by omega)) trivial rfl ?_
        refine AK.val _ (Yl.assign rfl) trivial rfl ?_
        refine AK.nil ?_
        refine AK.then_ (hK11 _ ?_)
        refine AK.seq (fun _ hK12 => ?_)
        refine AK.region ?_
        refine AK.val _ (Yl.move rfl) trivial rfl ?_
        refine AK.val _ (Yl.lenR sl22 rfl (by first | exact .arg ‹_› | exact .own 0 rfl | exact .own 1 rfl | exact .own 2 rfl | exact .own 3 rfl | exact .own 4 rfl | exact .own 5 rfl | exact .own 6 rfl | exact .own 7 rfl | exact .own 8 rfl | assumption | exact .big 1 _ rfl (matL_get hrl (by omega)))) trivial rfl ?_
        refine AK.val _ (Yl.move rfl) trivial rfl ?_
        refine AK.nil ?_
        refine AK.then_ (hK12 _ ?_)
        refine AK.block ?_
        refine AK.loopS (X := Nat) [1, 6, 14, 15, 16, 20, 21] (fun m => [(22, .int .i64 (m : Int))]) (fun m => [row cv 22 1 (classB xs).length rs, bigA (matL 3 rs (classB xs))]) (fun m => m ≤ ((classB xs).getD a []).length ∧ clOK 0 ys ((classB xs).getD a []) m) (fun m => ((classB xs).getD a []).length - m) (0) ?_ ?_ ?_ ?_
        · exact ⟨Nat.zero_le _, fun c h => absurd h (Nat.not_lt_zero _)⟩
        · exact .cons (rfl) (.nil)
        · exact fun w hw => hw
        · intro m hg1 _ hK13
          obtain ⟨hm, hokm⟩ := hg1
          have hca : a < (classB xs).length := (by omega)
          have hcl := fun h => cl_at hvp hca (m := m) h
          have hcl0 := fun h => cl_at hvp hca (m := 0) h
          have hcll := cl_len hvp hca
          refine AK.seq (fun _ hK14 => ?_)
          refine AK.region ?_
          refine AK.val _ (Yl.lss rfl rfl) trivial rfl ?_
          refine AK.nil ?_
          refine AK.then_ (hK14 _ ?_)
          refine AK.seq (fun _ hK15 => ?_)
          refine AK.condD rfl (fun hc2 => ?_) (fun hc2 => ?_)
          · refine AK.skip ?_
            refine AK.then_ (hK15 _ ?_)
            refine AK.seq (fun _ hK16 => ?_)
            refine AK.block ?_
            refine AK.seq (fun _ hK17 => ?_)
            refine AK.region ?_
            first | refine AK.val _ (Yl.idxN sl22 rfl rfl (by first | exact .arg ‹_› | exact .own 0 rfl | exact .own 1 rfl | exact .own 2 rfl | exact .own 3 rfl | exact .own 4 rfl | exact .own 5 rfl | exact .own 6 rfl | exact .own 7 rfl | exact .own 8 rfl | assumption | exact .big 1 _ rfl (matL_get hrl (by omega))) (by decide) (by omega)) trivial rfl ?_ | refine AK.val _ (Yl.idx sl22 rfl rfl (by first | exact .arg ‹_› | exact .own 0 rfl | exact .own 1 rfl | exact .own 2 rfl | exact .own 3 rfl | exact .own 4 rfl | exact .own 5 rfl | exact .own 6 rfl | exact .own 7 rfl | exact .own 8 rfl | assumption | exact .big 1 _ rfl (matL_get hrl (by omega))) (by decide) (by omega)) trivial rfl ?_
            refine AK.val _ (Yl.loadI on3 rfl (by first | exact .arg ‹_› | exact .own 0 rfl | exact .own 1 rfl | exact .own 2 rfl | exact .own 3 rfl | exact .own 4 rfl | exact .own 5 rfl | exact .own 6 rfl | exact .own 7 rfl | exact .own 8 rfl | assumption | exact .big 1 _ rfl (matL_get hrl (by omega))) (by omega)) trivial rfl ?_
            refine AK.val _ (Yl.assign rfl) trivial rfl ?_
            refine AK.nil ?_
            refine AK.then_ (hK17 _ ?_)
            refine AK.seq (fun _ hK18 => ?_)
            refine AK.quiet mixed (by kernel_rfl) ?_
            refine QK.val _ (Yl.move rfl) trivial rfl ?_
            refine QK.val _ (Yl.move rfl) trivial rfl ?_
            first | refine QK.val _ (Yl.idxN sl22 rfl rfl (by first | exact .arg ‹_› | exact .own 0 rfl | exact .own 1 rfl | exact .own 2 rfl | exact .own 3 rfl | exact .own 4 rfl | exact .own 5 rfl | exact .own 6 rfl | exact .own 7 rfl | exact .own 8 rfl | assumption | exact .big 1 _ rfl (matL_get hrl (by omega))) (by decide) (by have := hcl (by omega); omega)) trivial rfl ?_ | refine QK.val _ (Yl.idx sl22 rfl rfl (by first | exact .arg ‹_› | exact .own 0 rfl | exact .own 1 rfl | exact .own 2 rfl | exact .own 3 rfl | exact .own 4 rfl | exact .own 5 rfl | exact .own 6 rfl | exact .own 7 rfl | exact .own 8 rfl | assumption | exact .big 1 _ rfl (matL_get hrl (by omega))) (by decide) (by have := hcl (by omega); omega)) trivial rfl ?_
            refine QK.val _ (Yl.loadI on3 rfl (by first | exact .arg ‹_› | exact .own 0 rfl | exact .own 1 rfl | exact .own 2 rfl | exact .own 3 rfl | exact .own 4 rfl | exact .own 5 rfl | exact .own 6 rfl | exact .own 7 rfl | exact .own 8 rfl | assumption | exact .big 1 _ rfl (matL_get hrl (by omega))) (by have := hcl (by omega); omega)) trivial rfl ?_
            refine QK.val _ (Yl.move rfl) trivial rfl ?_
            refine QK.val _ (Yl.move rfl) trivial rfl ?_
            refine QK.val _ (Yl.idxN (k := 0) sl22 rfl rfl (by first | exact .arg ‹_› | exact .own 0 rfl | exact .own 1 rfl | exact .own 2 rfl | exact .own 3 rfl | exact .own 4 rfl | exact .own 5 rfl | exact .own 6 rfl | exact .own 7 rfl | exact .own 8 rfl | assumption | exact .big 1 _ rfl (matL_get hrl (by omega))) (by decide) (by omega)) trivial rfl ?_
            refine QK.val _ (Yl.loadI on3 rfl (by first | exact .arg ‹_› | exact .own 0 rfl | exact .own 1 rfl | exact .own 2 rfl | exact .own 3 rfl | exact .own 4 rfl | exact .own 5 rfl | exact .own 6 rfl | exact .own 7 rfl | exact .own 8 rfl | assumption | exact .big 1 _ rfl (matL_get hrl (by omega))) (by omega)) trivial rfl ?_
            first | refine QK.val _ (Yl.idxN sl22 rfl rfl (by first | exact .arg ‹_› | exact .own 0 rfl | exact .own 1 rfl | exact .own 2 rfl | exact .own 3 rfl | exact .own 4 rfl | exact .own 5 rfl | exact .own 6 rfl | exact .own 7 rfl | exact .own 8 rfl | assumption | exact .big 1 _ rfl (matL_get hrl (by omega))) (by decide) (by have := hcl0 (by omega); omega)) trivial rfl ?_ | refine QK.val _ (Yl.idx sl22 rfl rfl (by first | exact .arg ‹_› | exact .own 0 rfl | exact .own 1 rfl | exact .own 2 rfl | exact .own 3 rfl | exact .own 4 rfl | exact .own 5 rfl | exact .own 6 rfl | exact .own 7 rfl | exact .own 8 rfl | assumption | exact .big 1 _ rfl (matL_get hrl (by omega))) (by decide) (by have := hcl0 (by omega); omega)) trivial rfl ?_
            refine QK.val _ (Yl.loadI on3 rfl (by first | exact .arg ‹_› | exact .own 0 rfl | exact .own 1 rfl | exact .own 2 rfl | exact .own 3 rfl | exact .own 4 rfl | exact .own 5 rfl | exact .own 6 rfl | exact .own 7 rfl | exact .own 8 rfl | assumption | exact .big 1 _ rfl (matL_get hrl (by omega))) (by have := hcl0 (by omega); omega)) trivial rfl ?_
            refine QK.val _ (Yl.neq rfl rfl) trivial rfl ?_
            refine QK.nil (QK.fin ?_)
            refine AK.then_ (hK18 _ ?_)
            refine AK.condNe rfl (fun hc3 => ?_) (fun hc3 => ?_)
            · refine AK.seq (fun _ hK19 => ?_)
              refine AK.region ?_
              refine AK.val _ (Yl.assign rfl) trivial rfl ?_
              refine AK.nil ?_
              refine AK.then_ (hK19 _ ?_)
              refine AK.ret ?_
              refine AK.block_ret ?_
              refine AK.then_ret ?_
              refine AK.then_ret ?_
              refine AK.block_ret ?_
              refine AK.block_ret ?_
              refine AK.then_ret ?_
              refine AK.then_ret ?_
              refine AK.block_ret ?_
              refine AK.then_ret ?_
              refine AK.ret1 rfl rfl (fun w hw => ⟨_, _, ?_, rfl, Ret.of (hw.pick [] (by decide) rfl rfl)⟩)
              refine ⟨congrArg Value.bool ?_, rfl⟩
              obtain ⟨b1, b2, b3⟩ := hcl (by omega)
              obtain ⟨c1, c2, c3⟩ := hcl0 (by omega)
              unfold refB; rw [kerB_false (d := 0) (ys := ys) (xs := xs) (by omega) (by omega) (by rw [b3, c3]) hc3, Bool.and_false]
            · refine AK.skip ?_
              refine AK.block_normal ?_
              refine AK.then_ (hK16 _ ?_)
              refine AK.region ?_
              refine AK.val _ (Yl.add rfl rfl (by omega)) trivial rfl ?_
              refine AK.val _ (Yl.move rfl) trivial rfl ?_
              refine AK.nil ?_
              refine AK.then_ (hK13 _ _ (m + 1) ⟨by omega, lt_succ_all hokm (hc3)⟩ (by omega) (.cons (rfl) (.cons rfl (.cons rfl (.cons rfl (.cons rfl (.cons rfl (.cons rfl (.cons rfl (.nil))))))))) (fun w hw => hw))
          · refine AK.exit ?_
            refine AK.then_exit ?_
            refine AK.then_exit ?_
            refine AK.block_exit ?_
            refine AK.block_normal ?_
            refine AK.then_ (hK10 _ ?_)
            refine AK.region ?_
            refine AK.val _ (Yl.add rfl rfl (by omega)) trivial rfl ?_
            refine AK.val _ (Yl.move rfl) trivial rfl ?_
            refine AK.nil ?_
            refine AK.then_ (hK7 _ _ (a + 1) ⟨by omega, lt_succ_all hoka (by have hml : m = ((classB xs).getD a []).length := (by omega); rw [← hml]; exact hokm)⟩ (by omega) (.cons (rfl) (.cons rfl (.cons rfl (.cons rfl (.nil))))) (fun w hw => hw))
      · refine AK.exit ?_
        refine AK.then_exit ?_
        refine AK.then_exit ?_
        refine AK.block_exit ?_
        refine AK.then_ (hK5 _ ?_)
        refine AK.seq (fun _ hK20 => ?_)
        refine AK.region ?_
        refine AK.val _ (Yl.assign rfl) trivial rfl ?_
        refine AK.nil ?_
        refine AK.then_ (hK20 _ ?_)
        refine AK.ret ?_
        refine AK.ret1 rfl rfl (fun w hw => ⟨_, _, ?_, rfl, Ret.of (hw.pick [] (by decide) rfl rfl)⟩)
        refine ⟨congrArg Value.bool ?_, rfl⟩
        have hal : a = (classB xs).length := (by omega)
        subst hal
        unfold refB; rw [hc0, (kerB_cls (d := 0) (ys := ys) hvp).2 hoka]; rfl

set_option maxRecDepth 100000 in
theorem s_saturates (w : World) (u v : Value) (xs : List Int) (ys : List Bool) (hu : RdI w u xs) (hv : RdI8 w v ys) : CallS Try.prog 32 [u, v] w (fun r o => r = .bool (satB xs ys) ∧ o = []) := by
  have hu0 := hu
  have hv0 := hv
  unfold RdI at hu
  unfold RdI8 at hv
  have hmx := Rd.le hu
  have hmy := Rd.le hv
  refine spec_of Try.func32 rfl (Nat.le_of_ble_eq_true rfl) ?_
  refine AK.seq (fun _ hK1 => ?_)
  refine AK.region ?_
  refine AK.val _ (Yl.assign rfl) trivial rfl ?_
  refine AK.nil ?_
  refine AK.then_ (hK1 _ ?_)
  refine AK.seq (fun _ hK2 => ?_)
  refine AK.seq (fun _ hK3 => ?_)
  refine AK.region ?_
  refine AK.val _ (Yl.move rfl) trivial rfl ?_
  refine AK.val _ (Yl.lenR sl22 rfl (by first | exact .arg ‹_› | exact .own 0 rfl | exact .own 1 rfl | exact .own 2 rfl | exact .own 3 rfl | exact .own 4 rfl | exact .own 5 rfl | exact .own 6 rfl | exact .own 7 rfl | exact .own 8 rfl | assumption | exact .big 1 _ rfl (matL_get hrl (by omega)))) trivial rfl ?_
  refine AK.val _ (Yl.move rfl) trivial rfl ?_
  refine AK.val _ (Yl.lenR sl36 rfl (by first | exact .arg ‹_› | exact .own 0 rfl | exact .own 1 rfl | exact .own 2 rfl | exact .own 3 rfl | exact .own 4 rfl | exact .own 5 rfl | exact .own 6 rfl | exact .own 7 rfl | exact .own 8 rfl | assumption | exact .big 1 _ rfl (matL_get hrl (by omega)))) trivial rfl ?_
  refine AK.val _ (Yl.neq rfl rfl) trivial rfl ?_
  refine AK.val _ (Yl.move rfl) trivial rfl ?_
  refine AK.splitB (g := 14) rfl (fun hg_1_5 => ?_) (fun hg_1_5 => ?_)
  · have hg_1_5' := hg_1_5
    try simp only [decide_eq_true_eq, decide_eq_false_iff_not, Bool.not_eq_true', Bool.not_eq_false', Bool.not_not, ne_eq, Decidable.not_not, Int.not_lt, Int.not_le, beq_iff_eq, bne_iff_ne, Bool.and_eq_true, Bool.or_eq_true, Bool.or_eq_false_iff, Bool.not_false, Bool.not_true, reduceCtorEq, not_true_eq_false, not_false_eq_true] at hg_1_5'
    refine AK.pass rfl rfl (hg_1_5) rfl ?_
    refine AK.pass rfl rfl (hg_1_5) rfl ?_
    refine AK.pass rfl rfl (hg_1_5) rfl ?_
    refine AK.val _ (Yl.pickT rfl (hg_1_5) rfl) trivial rfl ?_
    refine AK.nil ?_
    refine AK.then_ (hK3 _ ?_)
    refine AK.cond_t rfl (rfl) ?_
    refine AK.seq (fun _ hK4 => ?_)
    refine AK.region ?_
    refine AK.val _ (Yl.assign rfl) trivial rfl ?_
    refine AK.nil ?_
    refine AK.then_ (hK4 _ ?_)
    refine AK.ret ?_
    refine AK.then_ret ?_
    refine AK.ret1 rfl rfl (fun w hw => ⟨_, _, ?_, rfl, Ret.of (hw.pick [] (by decide) rfl rfl)⟩)
    refine ⟨congrArg Value.bool ?_, rfl⟩
    unfold satB; symm; rw [Bool.and_eq_false_iff]; left; rw [decide_eq_false_iff_not]; rintro ⟨h1, h2⟩; first | omega | exact of_decide_eq_false hc0 h2
  · have hg_1_5' := hg_1_5
    try simp only [decide_eq_true_eq, decide_eq_false_iff_not, Bool.not_eq_true', Bool.not_eq_false', Bool.not_not, ne_eq, Decidable.not_not, Int.not_lt, Int.not_le, beq_iff_eq, bne_iff_ne, Bool.and_eq_true, Bool.or_eq_true, Bool.or_eq_false_iff, Bool.not_false, Bool.not_true, reduceCtorEq, not_true_eq_false, not_false_eq_true] at hg_1_5'
    refine AK.val _ (Yl.move rfl) ⟨_, rfl, congrArg (fun b => some (Value.bool b)) hg_1_5⟩ rfl ?_
    refine AK.call co18 rfl (fun w hw => s_valid w u xs (RdI.at hu0 hw)) ⟨_, rfl, congrArg (fun b => some (Value.bool b)) hg_1_5⟩ rfl ?_
    rintro r o ⟨rfl, rfl⟩
    refine AK.val _ (Yl.not rfl) ⟨_, rfl, congrArg (fun b => some (Value.bool b)) hg_1_5⟩ rfl ?_
    refine AK.val _ (Yl.pickF rfl (hg_1_5) rfl) trivial rfl ?_
    refine AK.nil ?_
    refine AK.then_ (hK3 _ ?_)
    refine AK.condB rfl (fun hc0 => ?_) (fun hc0 => ?_)
    · refine AK.seq (fun _ hK5 => ?_)
      refine AK.region ?_
      refine AK.val _ (Yl.assign rfl) trivial rfl ?_
      refine AK.nil ?_
      refine AK.then_ (hK5 _ ?_)
      refine AK.ret ?_
      refine AK.then_ret ?_
      refine AK.ret1 rfl rfl (fun w hw => ⟨_, _, ?_, rfl, Ret.of (hw.pick [] (by decide) rfl rfl)⟩)
      refine ⟨congrArg Value.bool ?_, rfl⟩
      unfold satB; symm; rw [Bool.and_eq_false_iff]; left; rw [decide_eq_false_iff_not]; rintro ⟨h1, h2⟩; first | omega | exact of_decide_eq_false hc0 h2
    · have hle : xs.length = ys.length := (by omega)
      have hvp := of_decide_eq_true hc0
      have hl1 := hvp.1
      refine AK.skip ?_
      refine AK.then_ (hK2 _ ?_)
      refine AK.seq (fun _ hK6 => ?_)
      refine AK.seq (fun _ hK7 => ?_)
      refine AK.region ?_
      refine AK.val _ (Yl.move rfl) trivial rfl ?_
      refine AK.call co22 rfl (fun w hw => s_classes w u xs (RdI.at hu0 hw)) trivial rfl ?_
      rintro cv o ⟨rs, hrl, rfl⟩
      refine AK.val _ (Yl.lenR sl28 rfl (by first | exact .arg ‹_› | exact .own 0 rfl | exact .own 1 rfl | exact .own 2 rfl | exact .own 3 rfl | exact .own 4 rfl | exact .own 5 rfl | exact .own 6 rfl | exact .own 7 rfl | exact .own 8 rfl | assumption | exact .big 1 _ rfl (matL_get hrl (by omega)))) trivial rfl ?_
      refine AK.val _ (Yl.move rfl) trivial rfl ?_
      refine AK.nil ?_
      refine AK.then_ (hK7 _ ?_)
      refine AK.block ?_
      refine AK.loopS (X := Nat) [1, 20, 21] (fun a => [(22, .int .i64 (a : Int))]) (fun a => [row cv 22 1 (classB xs).length rs, bigA (matL 3 rs (classB xs))]) (fun a => a ≤ (classB xs).length ∧ ∀ c, c < a → clOK false ys ((classB xs).getD c []) ((classB xs).getD c []).length) (fun a => (classB xs).length - a) (0) ?_ ?_ ?_ ?_
      · exact ⟨Nat.zero_le _, fun c h => absurd h (Nat.not_lt_zero _)⟩
      · exact .cons (rfl) (.nil)
      · exact fun w hw => hw
      · intro a hg0 _ hK8
        obtain ⟨ha, hoka⟩ := hg0
        have hcn := classB_len hvp
        have hvc := valid_cnt hvp
        refine AK.seq (fun _ hK9 => ?_)
        refine AK.region ?_
        refine AK.val _ (Yl.lss rfl rfl) trivial rfl ?_
        refine AK.nil ?_
        refine AK.then_ (hK9 _ ?_)
        refine AK.seq (fun _ hK10 => ?_)
        refine AK.condD rfl (fun hc1 => ?_) (fun hc1 => ?_)
        · refine AK.skip ?_
          refine AK.then_ (hK10 _ ?_)
          refine AK.seq (fun _ hK11 => ?_)
          refine AK.block ?_
          refine AK.seq (fun _ hK12 => ?_)
          refine AK.region ?_
          first | refine AK.val _ (Yl.idxN sl28 rfl rfl (by first | exact .arg ‹_› | exact .own 0 rfl | exact .own 1 rfl | exact .own 2 rfl | exact .own 3 rfl | exact .own 4 rfl | exact .own 5 rfl | exact .own 6 rfl | exact .own 7 rfl | exact .own 8 rfl | assumption | exact .big 1 _ rfl (matL_get hrl (by omega))) (by decide) (by omega)) trivial rfl ?_ | refine AK.val _ (Yl.idx sl28 rfl rfl (by first | exact .arg ‹_› | exact .own 0 rfl | exact .own 1 rfl | exact .own 2 rfl | exact .own 3 rfl | exact .own 4 rfl | exact .own 5 rfl | exact .own 6 rfl | exact .own 7 rfl | exact .own 8 rfl | assumption | exact .big 1 _ rfl (matL_get hrl (by omega))) (by decide) (by omega)) trivial rfl ?_
          refine AK.val _ (Yl.loadV on22 rfl (by first | exact .arg ‹_› | exact .own 0 rfl | exact .own 1 rfl | exact .own 2 rfl | exact .own 3 rfl | exact .own 4 rfl | exact .own 5 rfl | exact .own 6 rfl | exact .own 7 rfl | exact .own 8 rfl | assumption | exact .big 1 _ rfl (matL_get hrl (by omega))) (by omega)) trivial rfl ?_
          refine AK.val _ (Yl.assign rfl) trivial rfl ?_
          refine AK.nil ?_
          refine AK.then_ (hK12 _ ?_)
          refine AK.seq (fun _ hK13 => ?_)
          refine AK.region ?_
          refine AK.val _ (Yl.move rfl) trivial rfl ?_
          refine AK.val _ (Yl.lenR sl22 rfl (by first | exact .arg ‹_› | exact .own 0 rfl | exact .own 1 rfl | exact .own 2 rfl | exact .own 3 rfl | exact .own 4 rfl | exact .own 5 rfl | exact .own 6 rfl | exact .own 7 rfl | exact .own 8 rfl | assumption | exact .big 1 _ rfl (matL_get hrl (by omega)))) trivial rfl ?_
          refine AK.val _ (Yl.move rfl) trivial rfl ?_
          refine AK.nil ?_
          refine AK.then_ (hK13 _ ?_)
          refine AK.block ?_
          refine AK.loopS (X := Nat) [1, 6, 20, 21, 22, 26, 27] (fun m => [(28, .int .i64 (m : Int))]) (fun m => [row cv 22 1 (classB xs).length rs, bigA (matL 3 rs (classB xs))]) (fun m => m ≤ ((classB xs).getD a []).length ∧ clOK false ys ((classB xs).getD a []) m) (fun m => ((classB xs).getD a []).length - m) (0) ?_ ?_ ?_ ?_
          · exact ⟨Nat.zero_le _, fun c h => absurd h (Nat.not_lt_zero _)⟩
          · exact .cons (rfl) (.nil)
          · exact fun w hw => hw
          · intro m hg1 _ hK14
            obtain ⟨hm, hokm⟩ := hg1
            have hca : a < (classB xs).length := (by omega)
            have hcl := fun h => cl_at hvp hca (m := m) h
            have hcl0 := fun h => cl_at hvp hca (m := 0) h
            have hcll := cl_len hvp hca
            refine AK.seq (fun _ hK15 => ?_)
            refine AK.region ?_
            refine AK.val _ (Yl.lss rfl rfl) trivial rfl ?_
            refine AK.nil ?_
            refine AK.then_ (hK15 _ ?_)
            refine AK.seq (fun _ hK16 => ?_)
            refine AK.condD rfl (fun hc2 => ?_) (fun hc2 => ?_)
            · refine AK.skip ?_
              refine AK.then_ (hK16 _ ?_)
              refine AK.seq (fun _ hK17 => ?_)
              refine AK.block ?_
              refine AK.seq (fun _ hK18 => ?_)
              refine AK.region ?_
              first | refine AK.val _ (Yl.idxN sl22 rfl rfl (by first | exact .arg ‹_› | exact .own 0 rfl | exact .own 1 rfl | exact .own 2 rfl | exact .own 3 rfl | exact .own 4 rfl | exact .own 5 rfl | exact .own 6 rfl | exact .own 7 rfl | exact .own 8 rfl | assumption | exact .big 1 _ rfl (matL_get hrl (by omega))) (by decide) (by omega)) trivial rfl ?_ | refine AK.val _ (Yl.idx sl22 rfl rfl (by first | exact .arg ‹_› | exact .own 0 rfl | exact .own 1 rfl | exact .own 2 rfl | exact .own 3 rfl | exact .own 4 rfl | exact .own 5 rfl | exact .own 6 rfl | exact .own 7 rfl | exact .own 8 rfl | assumption | exact .big 1 _ rfl (matL_get hrl (by omega))) (by decide) (by omega)) trivial rfl ?_
              refine AK.val _ (Yl.loadI on3 rfl (by first | exact .arg ‹_› | exact .own 0 rfl | exact .own 1 rfl | exact .own 2 rfl | exact .own 3 rfl | exact .own 4 rfl | exact .own 5 rfl | exact .own 6 rfl | exact .own 7 rfl | exact .own 8 rfl | assumption | exact .big 1 _ rfl (matL_get hrl (by omega))) (by omega)) trivial rfl ?_
              refine AK.val _ (Yl.assign rfl) trivial rfl ?_
              refine AK.nil ?_
              refine AK.then_ (hK18 _ ?_)
              refine AK.seq (fun _ hK19 => ?_)
              refine AK.quiet mixed (by kernel_rfl) ?_
              refine QK.val _ (Yl.move rfl) trivial rfl ?_
              refine QK.val _ (Yl.move rfl) trivial rfl ?_
              first | refine QK.val _ (Yl.idxN sl36 rfl rfl (by first | exact .arg ‹_› | exact .own 0 rfl | exact .own 1 rfl | exact .own 2 rfl | exact .own 3 rfl | exact .own 4 rfl | exact .own 5 rfl | exact .own 6 rfl | exact .own 7 rfl | exact .own 8 rfl | assumption | exact .big 1 _ rfl (matL_get hrl (by omega))) (by decide) (by have := hcl (by omega); omega)) trivial rfl ?_ | refine QK.val _ (Yl.idx sl36 rfl rfl (by first | exact .arg ‹_› | exact .own 0 rfl | exact .own 1 rfl | exact .own 2 rfl | exact .own 3 rfl | exact .own 4 rfl | exact .own 5 rfl | exact .own 6 rfl | exact .own 7 rfl | exact .own 8 rfl | assumption | exact .big 1 _ rfl (matL_get hrl (by omega))) (by decide) (by have := hcl (by omega); omega)) trivial rfl ?_
              refine QK.val _ (Yl.loadB on4 rfl (by first | exact .arg ‹_› | exact .own 0 rfl | exact .own 1 rfl | exact .own 2 rfl | exact .own 3 rfl | exact .own 4 rfl | exact .own 5 rfl | exact .own 6 rfl | exact .own 7 rfl | exact .own 8 rfl | assumption | exact .big 1 _ rfl (matL_get hrl (by omega))) (by have := hcl (by omega); omega)) trivial rfl ?_
              refine QK.val _ (Yl.move rfl) trivial rfl ?_
              refine QK.val _ (Yl.move rfl) trivial rfl ?_
              refine QK.val _ (Yl.idxN (k := 0) sl22 rfl rfl (by first | exact .arg ‹_› | exact .own 0 rfl | exact .own 1 rfl | exact .own 2 rfl | exact .own 3 rfl | exact .own 4 rfl | exact .own 5 rfl | exact .own 6 rfl | exact .own 7 rfl | exact .own 8 rfl | assumption | exact .big 1 _ rfl (matL_get hrl (by omega))) (by decide) (by omega)) trivial rfl ?_
              refine QK.val _ (Yl.loadI on3 rfl (by first | exact .arg ‹_› | exact .own 0 rfl | exact .own 1 rfl | exact .own 2 rfl | exact .own 3 rfl | exact .own 4 rfl | exact .own 5 rfl | exact .own 6 rfl | exact .own 7 rfl | exact .own 8 rfl | assumption | exact .big 1 _ rfl (matL_get hrl (by omega))) (by omega)) trivial rfl ?_
              first | refine QK.val _ (Yl.idxN sl36 rfl rfl (by first | exact .arg ‹_› | exact .own 0 rfl | exact .own 1 rfl | exact .own 2 rfl | exact .own 3 rfl | exact .own 4 rfl | exact .own 5 rfl | exact .own 6 rfl | exact .own 7 rfl | exact .own 8 rfl | assumption | exact .big 1 _ rfl (matL_get hrl (by omega))) (by decide) (by have := hcl0 (by omega); omega)) trivial rfl ?_ | refine QK.val _ (Yl.idx sl36 rfl rfl (by first | exact .arg ‹_› | exact .own 0 rfl | exact .own 1 rfl | exact .own 2 rfl | exact .own 3 rfl | exact .own 4 rfl | exact .own 5 rfl | exact .own 6 rfl | exact .own 7 rfl | exact .own 8 rfl | assumption | exact .big 1 _ rfl (matL_get hrl (by omega))) (by decide) (by have := hcl0 (by omega); omega)) trivial rfl ?_
              refine QK.val _ (Yl.loadB on4 rfl (by first | exact .arg ‹_› | exact .own 0 rfl | exact .own 1 rfl | exact .own 2 rfl | exact .own 3 rfl | exact .own 4 rfl | exact .own 5 rfl | exact .own 6 rfl | exact .own 7 rfl | exact .own 8 rfl | assumption | exact .big 1 _ rfl (matL_get hrl (by omega))) (by have := hcl0 (by omega); omega)) trivial rfl ?_
              refine QK.val _ (Yl.neqB bo4 rfl rfl) trivial rfl ?_
              refine QK.nil (QK.fin ?_)
              refine AK.then_ (hK19 _ ?_)
              refine AK.cond rfl (fun hc3 => ?_) (fun hc3 => ?_)
              · try simp only [decide_eq_true_eq, decide_eq_false_iff_not, Bool.not_eq_true', Bool.not_eq_false', Bool.not_not, ne_eq, Decidable.not_not, Int.not_lt, Int.not_le, beq_iff_eq, bne_iff_ne, Bool.and_eq_true, Bool.or_eq_true, Bool.or_eq_false_iff, Bool.not_false, Bool.not_true, reduceCtorEq, not_true_eq_false, not_false_eq_true] at hc3
                refine AK.seq (fun _ hK20 => ?_)
                refine AK.region ?_
                refine AK.val _ (Yl.assign rfl) trivial rfl ?_
                refine AK.nil ?_
                refine AK.then_ (hK20 _ ?_)
                refine AK.ret ?_
                refine AK.block_ret ?_
                refine AK.then_ret ?_
                refine AK.then_ret ?_
                refine AK.block_ret ?_
                refine AK.block_ret ?_
                refine AK.then_ret ?_
                refine AK.then_ret ?_
                refine AK.block_ret ?_
                refine AK.then_ret ?_
                refine AK.ret1 rfl rfl (fun w hw => ⟨_, _, ?_, rfl, Ret.of (hw.pick [] (by decide) rfl rfl)⟩)
                refine ⟨congrArg Value.bool ?_, rfl⟩
                obtain ⟨b1, b2, b3⟩ := hcl (by omega)
                obtain ⟨c1, c2, c3⟩ := hcl0 (by omega)
                unfold satB; rw [kerB_false (d := false) (ys := ys) (xs := xs) (by omega) (by omega) (by rw [b3, c3]) hc3, Bool.and_false]
              · try simp only [decide_eq_true_eq, decide_eq_false_iff_not, Bool.not_eq_true', Bool.not_eq_false', Bool.not_not, ne_eq, Decidable.not_not, Int.not_lt, Int.not_le, beq_iff_eq, bne_iff_ne, Bool.and_eq_true, Bool.or_eq_true, Bool.or_eq_false_iff, Bool.not_false, Bool.not_true, reduceCtorEq, not_true_eq_false, not_false_eq_true] at hc3
                refine AK.skip ?_
                refine AK.block_normal ?_
                refine AK.then_ (hK17 _ ?_)
                refine AK.region ?_
                refine AK.val _ (Yl.add rfl rfl (by omega)) trivial rfl ?_
                refine AK.val _ (Yl.move rfl) trivial rfl ?_
                refine AK.nil ?_
                refine AK.then_ (hK14 _ _ (m + 1) ⟨by omega, lt_succ_all hokm (bne_F hc3)⟩ (by omega) (.cons (rfl) (.cons rfl (.cons rfl (.cons rfl (.cons rfl (.cons rfl (.cons rfl (.cons rfl (.nil))))))))) (fun w hw => hw))
            · refine AK.exit ?_
              refine AK.then_exit ?_
              refine AK.then_exit ?_
              refine AK.block_exit ?_
              refine AK.block_normal ?_
              refine AK.then_ (hK11 _ ?_)
              refine AK.region ?_
              refine AK.val _ (Yl.add rfl rfl (by omega)) trivial rfl ?_
              refine AK.val _ (Yl.move rfl) trivial rfl ?_
              refine AK.nil ?_
              refine AK.then_ (hK8 _ _ (a + 1) ⟨by omega, lt_succ_all hoka (by have hml : m = ((classB xs).getD a []).length := (by omega); rw [← hml]; exact hokm)⟩ (by omega) (.cons (rfl) (.cons rfl (.cons rfl (.cons rfl (.nil))))) (fun w hw => hw))
        · refine AK.exit ?_
          refine AK.then_exit ?_
          refine AK.then_exit ?_
          refine AK.block_exit ?_
          refine AK.then_ (hK6 _ ?_)
          refine AK.seq (fun _ hK21 => ?_)
          refine AK.region ?_
          refine AK.val _ (Yl.assign rfl) trivial rfl ?_
          refine AK.nil ?_
          refine AK.then_ (hK21 _ ?_)
          refine AK.ret ?_
          refine AK.ret1 rfl rfl (fun w hw => ⟨_, _, ?_, rfl, Ret.of (hw.pick [] (by decide) rfl rfl)⟩)
          refine ⟨congrArg Value.bool ?_, rfl⟩
          have hal : a = (classB xs).length := (by omega)
          subst hal
          unfold satB; rw [decide_eq_true (⟨hle, hvp⟩ : _ ∧ _), (kerB_cls (d := false) (ys := ys) hvp).2 hoka]; rfl

set_option maxRecDepth 100000 in
theorem s_refrefines (w : World) (u v : Value) (xs ys : List Int) (hu : RdI w u xs) (hv : RdI w v ys) (hle : xs.length = ys.length) : CallS Try.prog 34 [u, v] w (fun r o => r = .bool (kerB 0 xs ys) ∧ o = []) := by
  have hu0 := hu
  have hv0 := hv
  unfold RdI at hu hv
  have hmx := Rd.le hu
  refine spec_of Try.func34 rfl (Nat.le_of_ble_eq_true rfl) ?_
  refine AK.seq (fun _ hK1 => ?_)
  refine AK.region ?_
  refine AK.val _ (Yl.assign rfl) trivial rfl ?_
  refine AK.nil ?_
  refine AK.then_ (hK1 _ ?_)
  refine AK.seq (fun _ hK2 => ?_)
  refine AK.seq (fun _ hK3 => ?_)
  refine AK.region ?_
  refine AK.val _ (Yl.move rfl) trivial rfl ?_
  refine AK.val _ (Yl.lenR sl22 rfl (by first | exact .arg ‹_› | exact .own 0 rfl | exact .own 1 rfl | exact .own 2 rfl | exact .own 3 rfl | exact .own 4 rfl | exact .own 5 rfl | exact .own 6 rfl | exact .own 7 rfl | exact .own 8 rfl | assumption)) trivial rfl ?_
  refine AK.val _ (Yl.move rfl) trivial rfl ?_
  refine AK.nil ?_
  refine AK.then_ (hK3 _ ?_)
  refine AK.block ?_
  refine AK.loopS (X := Nat) [0, 1, 8] (fun a => [(9, .int .i64 (a : Int))]) (fun a => []) (fun a => a ≤ xs.length ∧ ∀ i, i < a → ∀ j, j < xs.length → xs.getD i 0 = xs.getD j 0 → ys.getD i 0 = ys.getD j 0) (fun a => xs.length - a) (0) ?_ ?_ ?_ ?_
  · exact ⟨Nat.zero_le _, fun c h => absurd h (Nat.not_lt_zero _)⟩
  · exact .cons (rfl) (.nil)
  · exact fun w hw => hw
  · intro a hg0 _ hK4
    obtain ⟨ha, hoka⟩ := hg0
    refine AK.seq (fun _ hK5 => ?_)
    refine AK.region ?_
    refine AK.val _ (Yl.lss rfl rfl) trivial rfl ?_
    refine AK.nil ?_
    refine AK.then_ (hK5 _ ?_)
    refine AK.seq (fun _ hK6 => ?_)
    refine AK.condD rfl (fun hc0 => ?_) (fun hc0 => ?_)
    · refine AK.skip ?_
      refine AK.then_ (hK6 _ ?_)
      refine AK.seq (fun _ hK7 => ?_)
      refine AK.block ?_
      refine AK.seq (fun _ hK8 => ?_)
      refine AK.region ?_
      refine AK.val _ (Yl.move rfl) trivial rfl ?_
      refine AK.val _ (Yl.assign rfl) trivial rfl ?_
      refine AK.nil ?_
      refine AK.then_ (hK8 _ ?_)
      refine AK.seq (fun _ hK9 => ?_)
      refine AK.region ?_
      refine AK.val _ (Yl.move rfl) trivial rfl ?_
      refine AK.val _ (Yl.lenR sl22 rfl (by first | exact .arg ‹_› | exact .own 0 rfl | exact .own 1 rfl | exact .own 2 rfl | exact .own 3 rfl | exact .own 4 rfl | exact .own 5 rfl | exact .own 6 rfl | exact .own 7 rfl | exact .own 8 rfl | assumption)) trivial rfl ?_
      refine AK.val _ (Yl.move rfl) trivial rfl ?_
      refine AK.nil ?_
      refine AK.then_ (hK9 _ ?_)
      refine AK.block ?_
      refine AK.loopS (X := Nat) [0, 1, 5, 8, 9, 13] (fun m => [(14, .int .i64 (m : Int))]) (fun m => []) (fun m => m ≤ xs.length ∧ ∀ j, j < m → xs.getD a 0 = xs.getD j 0 → ys.getD a 0 = ys.getD j 0) (fun m => xs.length - m) (0) ?_ ?_ ?_ ?_
      · exact ⟨Nat.zero_le _, fun c h => absurd h (Nat.not_lt_zero _)⟩
      · exact .cons (rfl) (.nil)
      · exact fun w hw => hw
      · intro m hg1 _ hK10
        obtain ⟨hm, hokm⟩ := hg1
        refine AK.seq (fun _ hK11 => ?_)
        refine AK.region ?_
        refine AK.val _ (Yl.lss rfl rfl) trivial rfl ?_
        refine AK.nil ?_
        refine AK.then_ (hK11 _ ?_)
        refine AK.seq (fun _ hK12 => ?_)
        refine AK.condD rfl (fun hc1 => ?_) (fun hc1 => ?_)
        · refine AK.skip ?_
          refine AK.then_ (hK12 _ ?_)
          refine AK.seq (fun _ hK13 => ?_)
          refine AK.block ?_
          refine AK.seq (fun _ hK14 => ?_)
          refine AK.region ?_
          refine AK.val _ (Yl.move rfl) trivial rfl ?_
          refine AK.val _ (Yl.assign rfl) trivial rfl ?_
          refine AK.nil ?_
          refine AK.then_ (hK14 _ ?_)
          refine AK.seq (fun _ hK15 => ?_)
          refine AK.quiet mixed (by kernel_rfl) ?_
          refine QK.val _ (Yl.move rfl) trivial rfl ?_
          refine QK.val _ (Yl.move rfl) trivial rfl ?_
          first | refine QK.val _ (Yl.idxN sl22 rfl rfl (by first | exact .arg ‹_› | exact .own 0 rfl | exact .own 1 rfl | exact .own 2 rfl | exact .own 3 rfl | exact .own 4 rfl | exact .own 5 rfl | exact .own 6 rfl | exact .own 7 rfl | exact .own 8 rfl | assumption) (by decide) (by omega)) trivial rfl ?_ | refine QK.val _ (Yl.idx sl22 rfl rfl (by first | exact .arg ‹_› | exact .own 0 rfl | exact .own 1 rfl | exact .own 2 rfl | exact .own 3 rfl | exact .own 4 rfl | exact .own 5 rfl | exact .own 6 rfl | exact .own 7 rfl | exact .own 8 rfl | assumption) (by decide) (by omega)) trivial rfl ?_
          refine QK.val _ (Yl.loadI on3 rfl (by first | exact .arg ‹_› | exact .own 0 rfl | exact .own 1 rfl | exact .own 2 rfl | exact .own 3 rfl | exact .own 4 rfl | exact .own 5 rfl | exact .own 6 rfl | exact .own 7 rfl | exact .own 8 rfl | assumption) (by omega)) trivial rfl ?_
          refine QK.val _ (Yl.move rfl) trivial rfl ?_
          refine QK.val _ (Yl.move rfl) trivial rfl ?_
          first | refine QK.val _ (Yl.idxN sl22 rfl rfl (by first | exact .arg ‹_› | exact .own 0 rfl | exact .own 1 rfl | exact .own 2 rfl | exact .own 3 rfl | exact .own 4 rfl | exact .own 5 rfl | exact .own 6 rfl | exact .own 7 rfl | exact .own 8 rfl | assumption) (by decide) (by omega)) trivial rfl ?_ | refine QK.val _ (Yl.idx sl22 rfl rfl (by first | exact .arg ‹_› | exact .own 0 rfl | exact .own 1 rfl | exact .own 2 rfl | exact .own 3 rfl | exact .own 4 rfl | exact .own 5 rfl | exact .own 6 rfl | exact .own 7 rfl | exact .own 8 rfl | assumption) (by decide) (by omega)) trivial rfl ?_
          refine QK.val _ (Yl.loadI on3 rfl (by first | exact .arg ‹_› | exact .own 0 rfl | exact .own 1 rfl | exact .own 2 rfl | exact .own 3 rfl | exact .own 4 rfl | exact .own 5 rfl | exact .own 6 rfl | exact .own 7 rfl | exact .own 8 rfl | assumption) (by omega)) trivial rfl ?_
          refine QK.val _ (Yl.eql rfl rfl) trivial rfl ?_
          refine QK.val _ (Yl.move rfl) trivial rfl ?_
          refine QK.splitB (g := 26) rfl (fun hg_7_9 => ?_) (fun hg_7_9 => ?_)
          · have hg_7_9' := hg_7_9
            try simp only [decide_eq_true_eq, decide_eq_false_iff_not, Bool.not_eq_true', Bool.not_eq_false', Bool.not_not, ne_eq, Decidable.not_not, Int.not_lt, Int.not_le, beq_iff_eq, bne_iff_ne, Bool.and_eq_true, Bool.or_eq_true, Bool.or_eq_false_iff, Bool.not_false, Bool.not_true, reduceCtorEq, not_true_eq_false, not_false_eq_true] at hg_7_9'
            refine QK.val _ (Yl.move rfl) ⟨_, rfl, congrArg (fun b => some (Value.bool b)) hg_7_9⟩ rfl ?_
            refine QK.val _ (Yl.move rfl) ⟨_, rfl, congrArg (fun b => some (Value.bool b)) hg_7_9⟩ rfl ?_
            first | refine QK.val _ (Yl.idxN sl22 rfl rfl (by first | exact .arg ‹_› | exact .own 0 rfl | exact .own 1 rfl | exact .own 2 rfl | exact .own 3 rfl | exact .own 4 rfl | exact .own 5 rfl | exact .own 6 rfl | exact .own 7 rfl | exact .own 8 rfl | assumption) (by decide) (by omega)) ⟨_, rfl, congrArg (fun b => some (Value.bool b)) hg_7_9⟩ rfl ?_ | refine QK.val _ (Yl.idx sl22 rfl rfl (by first | exact .arg ‹_› | exact .own 0 rfl | exact .own 1 rfl | exact .own 2 rfl | exact .own 3 rfl | exact .own 4 rfl | exact .own 5 rfl | exact .own 6 rfl | exact .own 7 rfl | exact .own 8 rfl | assumption) (by decide) (by omega)) ⟨_, rfl, congrArg (fun b => some (Value.bool b)) hg_7_9⟩ rfl ?_
            refine QK.val _ (Yl.loadI on3 rfl (by first | exact .arg ‹_› | exact .own 0 rfl | exact .own 1 rfl | exact .own 2 rfl | exact .own 3 rfl | exact .own 4 rfl | exact .own 5 rfl | exact .own 6 rfl | exact .own 7 rfl | exact .own 8 rfl | assumption) (by omega)) ⟨_, rfl, congrArg (fun b => some (Value.bool b)) hg_7_9⟩ rfl ?_
            refine QK.val _ (Yl.move rfl) ⟨_, rfl, congrArg (fun b => some (Value.bool b)) hg_7_9⟩ rfl ?_
            refine QK.val _ (Yl.move rfl) ⟨_, rfl, congrArg (fun b => some (Value.bool b)) hg_7_9⟩ rfl ?_
            first | refine QK.val _ (Yl.idxN sl22 rfl rfl (by first | exact .arg ‹_› | exact .own 0 rfl | exact .own 1 rfl | exact .own 2 rfl | exact .own 3 rfl | exact .own 4 rfl | exact .own 5 rfl | exact .own 6 rfl | exact .own 7 rfl | exact .own 8 rfl | assumption) (by decide) (by omega)) ⟨_, rfl, congrArg (fun b => some (Value.bool b)) hg_7_9⟩ rfl ?_ | refine QK.val _ (Yl.idx sl22 rfl rfl (by first | exact .arg ‹_› | exact .own 0 rfl | exact .own 1 rfl | exact .own 2 rfl | exact .own 3 rfl | exact .own 4 rfl | exact .own 5 rfl | exact .own 6 rfl | exact .own 7 rfl | exact .own 8 rfl | assumption) (by decide) (by omega)) ⟨_, rfl, congrArg (fun b => some (Value.bool b)) hg_7_9⟩ rfl ?_
            refine QK.val _ (Yl.loadI on3 rfl (by first | exact .arg ‹_› | exact .own 0 rfl | exact .own 1 rfl | exact .own 2 rfl | exact .own 3 rfl | exact .own 4 rfl | exact .own 5 rfl | exact .own 6 rfl | exact .own 7 rfl | exact .own 8 rfl | assumption) (by omega)) ⟨_, rfl, congrArg (fun b => some (Value.bool b)) hg_7_9⟩ rfl ?_
            refine QK.val _ (Yl.neq rfl rfl) ⟨_, rfl, congrArg (fun b => some (Value.bool b)) hg_7_9⟩ rfl ?_
            refine QK.val _ (Yl.pickT rfl (hg_7_9) rfl) trivial rfl ?_
            refine QK.nil (QK.fin ?_)
            refine AK.then_ (hK15 _ ?_)
            refine AK.condNe rfl (fun hc2 => ?_) (fun hc2 => ?_)
            · refine AK.seq (fun _ hK16 => ?_)
              refine AK.region ?_
              refine AK.val _ (Yl.assign rfl) trivial rfl ?_
              refine AK.nil ?_
              refine AK.then_ (hK16 _ ?_)
              refine AK.ret ?_
              refine AK.block_ret ?_
              refine AK.then_ret ?_
              refine AK.then_ret ?_
              refine AK.block_ret ?_
              refine AK.block_ret ?_
              refine AK.then_ret ?_
              refine AK.then_ret ?_
              refine AK.block_ret ?_
              refine AK.then_ret ?_
              refine AK.ret1 rfl rfl (fun w hw => ⟨_, _, ?_, rfl, Ret.of (hw.pick [] (by decide) rfl rfl)⟩)
              exact ⟨congrArg Value.bool (kerB_false (d := 0) (xs := xs) (ys := ys) (i := a) (j := m) (by omega) (by omega) hg_7_9' hc2).symm, rfl⟩
            · refine AK.skip ?_
              refine AK.block_normal ?_
              refine AK.then_ (hK13 _ ?_)
              refine AK.region ?_
              refine AK.val _ (Yl.add rfl rfl (by omega)) trivial rfl ?_
              refine AK.val _ (Yl.move rfl) trivial rfl ?_
              refine AK.nil ?_
              refine AK.then_ (hK10 _ _ (m + 1) ⟨by omega, lt_succ_all hokm (fun he => by first | exact absurd he hg_7_9' | exact hc2)⟩ (by omega) (.cons (rfl) (.cons rfl (.cons rfl (.cons rfl (.cons rfl (.cons rfl (.cons rfl (.nil)))))))) (fun w hw => hw))
          · have hg_7_9' := hg_7_9
            try simp only [decide_eq_true_eq, decide_eq_false_iff_not, Bool.not_eq_true', Bool.not_eq_false', Bool.not_not, ne_eq, Decidable.not_not, Int.not_lt, Int.not_le, beq_iff_eq, bne_iff_ne, Bool.and_eq_true, Bool.or_eq_true, Bool.or_eq_false_iff, Bool.not_false, Bool.not_true, reduceCtorEq, not_true_eq_false, not_false_eq_true] at hg_7_9'
            refine QK.pass rfl rfl (hg_7_9) rfl ?_
            refine QK.pass rfl rfl (hg_7_9) rfl ?_
            refine QK.pass rfl rfl (hg_7_9) rfl ?_
            refine QK.pass rfl rfl (hg_7_9) rfl ?_
            refine QK.pass rfl rfl (hg_7_9) rfl ?_
            refine QK.pass rfl rfl (hg_7_9) rfl ?_
            refine QK.pass rfl rfl (hg_7_9) rfl ?_
            refine QK.pass rfl rfl (hg_7_9) rfl ?_
            refine QK.pass rfl rfl (hg_7_9) rfl ?_
            refine QK.val _ (Yl.pickF rfl (hg_7_9) rfl) trivial rfl ?_
            refine QK.nil (QK.fin ?_)
            refine AK.then_ (hK15 _ ?_)
            refine AK.cond_f rfl (rfl) ?_
            refine AK.skip ?_
            refine AK.block_normal ?_
            refine AK.then_ (hK13 _ ?_)
            refine AK.region ?_
            refine AK.val _ (Yl.add rfl rfl (by omega)) trivial rfl ?_
            refine AK.val _ (Yl.move rfl) trivial rfl ?_
            refine AK.nil ?_
            refine AK.then_ (hK10 _ _ (m + 1) ⟨by omega, lt_succ_all hokm (fun he => by first | exact absurd he hg_7_9' | exact hc2)⟩ (by omega) (.cons (rfl) (.cons rfl (.cons rfl (.cons rfl (.cons rfl (.cons rfl (.cons rfl (.nil)))))))) (fun w hw => hw))
        · refine AK.exit ?_
          refine AK.then_exit ?_
          refine AK.then_exit ?_
          refine AK.block_exit ?_
          refine AK.block_normal ?_
          refine AK.then_ (hK7 _ ?_)
          refine AK.region ?_
          refine AK.val _ (Yl.add rfl rfl (by omega)) trivial rfl ?_
          refine AK.val _ (Yl.move rfl) trivial rfl ?_
          refine AK.nil ?_
          refine AK.then_ (hK4 _ _ (a + 1) ⟨by omega, lt_succ_all hoka (fun j hj => hokm j (by omega))⟩ (by omega) (.cons (rfl) (.cons rfl (.cons rfl (.cons rfl (.nil))))) (fun w hw => hw))
    · refine AK.exit ?_
      refine AK.then_exit ?_
      refine AK.then_exit ?_
      refine AK.block_exit ?_
      refine AK.then_ (hK2 _ ?_)
      refine AK.seq (fun _ hK17 => ?_)
      refine AK.region ?_
      refine AK.val _ (Yl.assign rfl) trivial rfl ?_
      refine AK.nil ?_
      refine AK.then_ (hK17 _ ?_)
      refine AK.ret ?_
      refine AK.ret1 rfl rfl (fun w hw => ⟨_, _, ?_, rfl, Ret.of (hw.pick [] (by decide) rfl rfl)⟩)
      have hal : a = xs.length := (by omega)
      subst hal
      exact ⟨congrArg Value.bool (kerB_iff.2 fun i j hi hj => hoka i hi j hj).symm, rfl⟩

set_option maxRecDepth 100000 in
theorem l_orders (w : World) (u v : Value) (xs ys : List Int) (hu : RdI w u xs) (hv : RdI w v ys) : CallS Try.prog 9 [u, v] w (fun r o => r = .bool true ∧ o = []) := by
  have hu0 := hu
  have hv0 := hv
  unfold RdI at hu hv
  refine spec_of Try.func9 rfl (Nat.le_of_ble_eq_true rfl) ?_
  refine AK.seq (fun _ hK1 => ?_)
  refine AK.region ?_
  refine AK.val _ (Yl.assign rfl) trivial rfl ?_
  refine AK.nil ?_
  refine AK.then_ (hK1 _ ?_)
  refine AK.seq (fun _ hK2 => ?_)
  refine AK.region ?_
  refine AK.val _ (Yl.move rfl) trivial rfl ?_
  refine AK.val _ (Yl.move rfl) trivial rfl ?_
  refine AK.call co33 rfl (fun w hw => s_refines w u v xs ys (RdI.at hu0 hw) (RdI.at hv0 hw)) trivial rfl ?_
  rintro r o ⟨rfl, rfl⟩
  refine AK.val _ (Yl.assign rfl) trivial rfl ?_
  refine AK.nil ?_
  refine AK.then_ (hK2 _ ?_)
  refine AK.seq (fun _ hK3 => ?_)
  refine AK.seq (fun _ hK4 => ?_)
  refine AK.region ?_
  refine AK.val _ (Yl.move rfl) trivial rfl ?_
  refine AK.call co19 rfl (fun w hw => s_refvalid w u xs (RdI.at hu0 hw)) trivial rfl ?_
  rintro r o ⟨rfl, rfl⟩
  refine AK.val _ (Yl.not rfl) trivial rfl ?_
  refine AK.val _ (Yl.move rfl) trivial rfl ?_
  refine AK.splitB (g := 12) rfl (fun hg_2_3 => ?_) (fun hg_2_3 => ?_)
  · have hg_2_3' := hg_2_3
    try simp only [decide_eq_true_eq, decide_eq_false_iff_not, Bool.not_eq_true', Bool.not_eq_false', Bool.not_not, ne_eq, Decidable.not_not, Int.not_lt, Int.not_le, beq_iff_eq, bne_iff_ne, Bool.and_eq_true, Bool.or_eq_true, Bool.or_eq_false_iff, Bool.not_false, Bool.not_true, reduceCtorEq, not_true_eq_false, not_false_eq_true] at hg_2_3'
    refine AK.pass rfl rfl (hg_2_3) rfl ?_
    refine AK.pass rfl rfl (hg_2_3) rfl ?_
    refine AK.pass rfl rfl (hg_2_3) rfl ?_
    refine AK.val _ (Yl.pickT rfl (hg_2_3) rfl) trivial rfl ?_
    refine AK.val _ (Yl.move rfl) trivial rfl ?_
    refine AK.pass rfl rfl rfl rfl ?_
    refine AK.pass rfl rfl rfl rfl ?_
    refine AK.pass rfl rfl rfl rfl ?_
    refine AK.pass rfl rfl rfl rfl ?_
    refine AK.pass rfl rfl rfl rfl ?_
    refine AK.val _ (Yl.pickT rfl (rfl) rfl) trivial rfl ?_
    refine AK.nil ?_
    refine AK.then_ (hK4 _ ?_)
    refine AK.cond_t rfl (rfl) ?_
    have hbad : ¬ (xs.length = ys.length ∧ ValidP xs ∧ ValidP ys) := by
      rintro ⟨h1, h2, h3⟩
      first | exact hg_2_3' h2 | exact hg_2_8' h3 | omega
    refine AK.seq (fun _ hK5 => ?_)
    refine AK.region ?_
    refine AK.val _ (Yl.move rfl) trivial rfl ?_
    refine AK.val _ (Yl.not rfl) trivial rfl ?_
    refine AK.val _ (Yl.move rfl) trivial rfl ?_
    refine AK.knownT (g := 26) rfl (by unfold refB; rw [decide_eq_false hbad]; rfl) (fun hg_3_2 => ?_)
    refine AK.call co20 rfl (fun w hw => s_awake w) ⟨_, rfl, congrArg (fun b => some (Value.bool b)) hg_3_2⟩ rfl ?_
    rintro r o ⟨rfl, rfl⟩
    refine AK.val _ (Yl.pickT rfl (hg_3_2) rfl) trivial rfl ?_
    refine AK.val _ (Yl.assign rfl) trivial rfl ?_
    refine AK.nil ?_
    refine AK.then_ (hK5 _ ?_)
    refine AK.ret ?_
    refine AK.then_ret ?_
    refine AK.ret1 rfl rfl (fun w hw => ⟨_, _, ?_, rfl, Ret.of (hw.pick [] (by decide) rfl rfl)⟩)
    exact ⟨rfl, rfl⟩
  · have hg_2_3' := hg_2_3
    try simp only [decide_eq_true_eq, decide_eq_false_iff_not, Bool.not_eq_true', Bool.not_eq_false', Bool.not_not, ne_eq, Decidable.not_not, Int.not_lt, Int.not_le, beq_iff_eq, bne_iff_ne, Bool.and_eq_true, Bool.or_eq_true, Bool.or_eq_false_iff, Bool.not_false, Bool.not_true, reduceCtorEq, not_true_eq_false, not_false_eq_true] at hg_2_3'
    refine AK.val _ (Yl.move rfl) ⟨_, rfl, congrArg (fun b => some (Value.bool b)) hg_2_3⟩ rfl ?_
    refine AK.call co19 rfl (fun w hw => s_refvalid w v ys (RdI.at hv0 hw)) ⟨_, rfl, congrArg (fun b => some (Value.bool b)) hg_2_3⟩ rfl ?_
    rintro r o ⟨rfl, rfl⟩
    refine AK.val _ (Yl.not rfl) ⟨_, rfl, congrArg (fun b => some (Value.bool b)) hg_2_3⟩ rfl ?_
    refine AK.val _ (Yl.pickF rfl (hg_2_3) rfl) trivial rfl ?_
    refine AK.val _ (Yl.move rfl) trivial rfl ?_
    refine AK.splitB (g := 17) rfl (fun hg_2_8 => ?_) (fun hg_2_8 => ?_)
    · have hg_2_8' := hg_2_8
      try simp only [decide_eq_true_eq, decide_eq_false_iff_not, Bool.not_eq_true', Bool.not_eq_false', Bool.not_not, ne_eq, Decidable.not_not, Int.not_lt, Int.not_le, beq_iff_eq, bne_iff_ne, Bool.and_eq_true, Bool.or_eq_true, Bool.or_eq_false_iff, Bool.not_false, Bool.not_true, reduceCtorEq, not_true_eq_false, not_false_eq_true] at hg_2_8'
      refine AK.pass rfl rfl (hg_2_8) rfl ?_
      refine AK.pass rfl rfl (hg_2_8) rfl ?_
      refine AK.pass rfl rfl (hg_2_8) rfl ?_
      refine AK.pass rfl rfl (hg_2_8) rfl ?_
      refine AK.pass rfl rfl (hg_2_8) rfl ?_
      refine AK.val _ (Yl.pickT rfl (hg_2_8) rfl) trivial rfl ?_
      refine AK.nil ?_
      refine AK.then_ (hK4 _ ?_)
      refine AK.cond_t rfl (rfl) ?_
      have hbad : ¬ (xs.length = ys.length ∧ ValidP xs ∧ ValidP ys) := by
        rintro ⟨h1, h2, h3⟩
        first | exact hg_2_3' h2 | exact hg_2_8' h3 | omega
      refine AK.seq (fun _ hK6 => ?_)
      refine AK.region ?_
      refine AK.val _ (Yl.move rfl) trivial rfl ?_
      refine AK.val _ (Yl.not rfl) trivial rfl ?_
      refine AK.val _ (Yl.move rfl) trivial rfl ?_
      refine AK.knownT (g := 26) rfl (by unfold refB; rw [decide_eq_false hbad]; rfl) (fun hg_3_2 => ?_)
      refine AK.call co20 rfl (fun w hw => s_awake w) ⟨_, rfl, congrArg (fun b => some (Value.bool b)) hg_3_2⟩ rfl ?_
      rintro r o ⟨rfl, rfl⟩
      refine AK.val _ (Yl.pickT rfl (hg_3_2) rfl) trivial rfl ?_
      refine AK.val _ (Yl.assign rfl) trivial rfl ?_
      refine AK.nil ?_
      refine AK.then_ (hK6 _ ?_)
      refine AK.ret ?_
      refine AK.then_ret ?_
      refine AK.ret1 rfl rfl (fun w hw => ⟨_, _, ?_, rfl, Ret.of (hw.pick [] (by decide) rfl rfl)⟩)
      exact ⟨rfl, rfl⟩
    · have hg_2_8' := hg_2_8
      try simp only [decide_eq_true_eq, decide_eq_false_iff_not, Bool.not_eq_true', Bool.not_eq_false', Bool.not_not, ne_eq, Decidable.not_not, Int.not_lt, Int.not_le, beq_iff_eq, bne_iff_ne, Bool.and_eq_true, Bool.or_eq_true, Bool.or_eq_false_iff, Bool.not_false, Bool.not_true, reduceCtorEq, not_true_eq_false, not_false_eq_true] at hg_2_8'
      refine AK.val _ (Yl.move rfl) ⟨_, rfl, congrArg (fun b => some (Value.bool b)) hg_2_8⟩ rfl ?_
      refine AK.val _ (Yl.lenR sl22 rfl (by first | exact .arg ‹_› | exact .own 0 rfl | exact .own 1 rfl | exact .own 2 rfl | exact .own 3 rfl | exact .own 4 rfl | exact .own 5 rfl | exact .own 6 rfl | exact .own 7 rfl | exact .own 8 rfl | assumption)) ⟨_, rfl, congrArg (fun b => some (Value.bool b)) hg_2_8⟩ rfl ?_
      refine AK.val _ (Yl.move rfl) ⟨_, rfl, congrArg (fun b => some (Value.bool b)) hg_2_8⟩ rfl ?_
      refine AK.val _ (Yl.lenR sl22 rfl (by first | exact .arg ‹_› | exact .own 0 rfl | exact .own 1 rfl | exact .own 2 rfl | exact .own 3 rfl | exact .own 4 rfl | exact .own 5 rfl | exact .own 6 rfl | exact .own 7 rfl | exact .own 8 rfl | assumption)) ⟨_, rfl, congrArg (fun b => some (Value.bool b)) hg_2_8⟩ rfl ?_
      refine AK.val _ (Yl.neq rfl rfl) ⟨_, rfl, congrArg (fun b => some (Value.bool b)) hg_2_8⟩ rfl ?_
      refine AK.val _ (Yl.pickF rfl (hg_2_8) rfl) trivial rfl ?_
      refine AK.nil ?_
      refine AK.then_ (hK4 _ ?_)
      refine AK.condNe rfl (fun hc0 => ?_) (fun hc0 => ?_)
      · have hbad : ¬ (xs.length = ys.length ∧ ValidP xs ∧ ValidP ys) := by
          rintro ⟨h1, h2, h3⟩
          first | exact hg_2_3' h2 | exact hg_2_8' h3 | omega
        refine AK.seq (fun _ hK7 => ?_)
        refine AK.region ?_
        refine AK.val _ (Yl.move rfl) trivial rfl ?_
        refine AK.val _ (Yl.not rfl) trivial rfl ?_
        refine AK.val _ (Yl.move rfl) trivial rfl ?_
        refine AK.knownT (g := 26) rfl (by unfold refB; rw [decide_eq_false hbad]; rfl) (fun hg_3_2 => ?_)
        refine AK.call co20 rfl (fun w hw => s_awake w) ⟨_, rfl, congrArg (fun b => some (Value.bool b)) hg_3_2⟩ rfl ?_
        rintro r o ⟨rfl, rfl⟩
        refine AK.val _ (Yl.pickT rfl (hg_3_2) rfl) trivial rfl ?_
        refine AK.val _ (Yl.assign rfl) trivial rfl ?_
        refine AK.nil ?_
        refine AK.then_ (hK7 _ ?_)
        refine AK.ret ?_
        refine AK.then_ret ?_
        refine AK.ret1 rfl rfl (fun w hw => ⟨_, _, ?_, rfl, Ret.of (hw.pick [] (by decide) rfl rfl)⟩)
        exact ⟨rfl, rfl⟩
      · refine AK.skip ?_
        refine AK.then_ (hK3 _ ?_)
        refine AK.seq (fun _ hK8 => ?_)
        refine AK.seq (fun _ hK9 => ?_)
        refine AK.region ?_
        refine AK.val _ (Yl.move rfl) trivial rfl ?_
        refine AK.val _ (Yl.lenR sl22 rfl (by first | exact .arg ‹_› | exact .own 0 rfl | exact .own 1 rfl | exact .own 2 rfl | exact .own 3 rfl | exact .own 4 rfl | exact .own 5 rfl | exact .own 6 rfl | exact .own 7 rfl | exact .own 8 rfl | assumption)) trivial rfl ?_
        refine AK.val _ (Yl.gtr rfl rfl) trivial rfl ?_
        refine AK.nil ?_
        refine AK.then_ (hK9 _ ?_)
        refine AK.condD rfl (fun hc1 => ?_) (fun hc1 => ?_)
        · refine AK.seq (fun _ hK10 => ?_)
          refine AK.region ?_
          refine AK.call co20 rfl (fun w hw => s_awake w) trivial rfl ?_
          rintro r o ⟨rfl, rfl⟩
          refine AK.val _ (Yl.assign rfl) trivial rfl ?_
          refine AK.nil ?_
          refine AK.then_ (hK10 _ ?_)
          refine AK.ret ?_
          refine AK.then_ret ?_
          refine AK.ret1 rfl rfl (fun w hw => ⟨_, _, ?_, rfl, Ret.of (hw.pick [] (by decide) rfl rfl)⟩)
          exact ⟨rfl, rfl⟩
        · refine AK.skip ?_
          refine AK.then_ (hK8 _ ?_)
          refine AK.seq (fun _ hK11 => ?_)
          refine AK.region ?_
          refine AK.val _ (Yl.move rfl) trivial rfl ?_
          refine AK.val _ (Yl.move rfl) trivial rfl ?_
          refine AK.val _ (Yl.move rfl) trivial rfl ?_
          refine AK.call co34 rfl (fun w hw => s_refrefines w u v xs ys (RdI.at hu0 hw) (RdI.at hv0 hw) (by omega)) trivial rfl ?_
          rintro r o ⟨rfl, rfl⟩
          refine AK.val _ (Yl.eqlB bo4 rfl rfl) trivial rfl ?_
          refine AK.val _ (Yl.move rfl) trivial rfl ?_
          refine AK.knownT (g := 38) rfl (by unfold refB; rw [decide_eq_true (⟨by omega, hg_2_3', hg_2_8'⟩ : _ ∧ _ ∧ _)]; simp) (fun hg_6_5 => ?_)
          refine AK.call co20 rfl (fun w hw => s_awake w) ⟨_, rfl, congrArg (fun b => some (Value.bool b)) hg_6_5⟩ rfl ?_
          rintro r o ⟨rfl, rfl⟩
          refine AK.val _ (Yl.pickT rfl (hg_6_5) rfl) trivial rfl ?_
          refine AK.val _ (Yl.assign rfl) trivial rfl ?_
          refine AK.nil ?_
          refine AK.then_ (hK11 _ ?_)
          refine AK.ret ?_
          refine AK.ret1 rfl rfl (fun w hw => ⟨_, _, ?_, rfl, Ret.of (hw.pick [] (by decide) rfl rfl)⟩)
          exact ⟨rfl, rfl⟩

set_option maxRecDepth 100000 in
theorem l_ends (w : World) (n : Int) : CallS Try.prog 10 [.int .i64 n] w (fun r o => r = .bool true ∧ o = []) := by
  have hdl : (discB n).length ≤ 4096 := (valid_discB n).1
  have htl : (trivB n).length ≤ 4096 := (valid_trivB n).1
  refine spec_of Try.func10 rfl (Nat.le_of_ble_eq_true rfl) ?_
  refine AK.seq (fun _ hK1 => ?_)
  refine AK.region ?_
  refine AK.val _ (Yl.assign rfl) trivial rfl ?_
  refine AK.nil ?_
  refine AK.then_ (hK1 _ ?_)
  refine AK.seq (fun _ hK2 => ?_)
  refine AK.region ?_
  refine AK.val _ (Yl.move rfl) trivial rfl ?_
  refine AK.call co35 rfl (fun w hw => s_disc w n) trivial rfl ?_
  rintro dv o rfl
  refine AK.val _ (Yl.move rfl) trivial rfl ?_
  refine AK.call co36 rfl (fun w hw => s_triv w n) trivial rfl ?_
  rintro tv o rfl
  refine AK.val _ (Yl.assign rfl) trivial rfl ?_
  refine AK.val _ (Yl.assign rfl) trivial rfl ?_
  refine AK.nil ?_
  refine AK.then_ (hK2 _ ?_)
  refine AK.seq (fun _ hK3 => ?_)
  refine AK.seq (fun _ hK4 => ?_)
  refine AK.region ?_
  refine AK.val _ (Yl.move rfl) trivial rfl ?_
  refine AK.val _ (Yl.lss rfl rfl) trivial rfl ?_
  refine AK.val _ (Yl.move rfl) trivial rfl ?_
  refine AK.splitB (g := 11) rfl (fun hg_2_2 => ?_) (fun hg_2_2 => ?_)
  · have hg_2_2' := hg_2_2
    try simp only [decide_eq_true_eq, decide_eq_false_iff_not, Bool.not_eq_true', Bool.not_eq_false', Bool.not_not, ne_eq, Decidable.not_not, Int.not_lt, Int.not_le, beq_iff_eq, bne_iff_ne, Bool.and_eq_true, Bool.or_eq_true, Bool.or_eq_false_iff, Bool.not_false, Bool.not_true, reduceCtorEq, not_true_eq_false, not_false_eq_true] at hg_2_2'
    refine AK.pass rfl rfl (hg_2_2) rfl ?_
    refine AK.pass rfl rfl (hg_2_2) rfl ?_
    refine AK.val _ (Yl.pickT rfl (hg_2_2) rfl) trivial rfl ?_
    refine AK.nil ?_
    refine AK.then_ (hK4 _ ?_)
    refine AK.cond_t rfl (rfl) ?_
    have ed : discB n = [] := (by unfold discB; rw [if_neg (by omega)])
    have et : trivB n = [] := (by unfold trivB; rw [if_neg (by omega)])
    refine AK.seq (fun _ hK5 => ?_)
    refine AK.region ?_
    refine AK.val _ (Yl.move rfl) trivial rfl ?_
    refine AK.val _ (Yl.lenR sl22 rfl (by first | exact .arg ‹_› | exact .own 0 rfl | exact .own 1 rfl | exact .own 2 rfl | exact .own 3 rfl | exact .own 4 rfl | exact .own 5 rfl | exact .own 6 rfl | exact .own 7 rfl | exact .own 8 rfl | assumption)) trivial rfl ?_
    refine AK.val _ (Yl.eql rfl rfl) trivial rfl ?_
    refine AK.val _ (Yl.move rfl) trivial rfl ?_
    refine AK.knownT (g := 18) rfl (decide_eq_true (by rw [ed]; rfl)) (fun hg_3_3 => ?_)
    refine AK.val _ (Yl.move rfl) ⟨_, rfl, congrArg (fun b => some (Value.bool b)) hg_3_3⟩ rfl ?_
    refine AK.val _ (Yl.lenR sl22 rfl (by first | exact .arg ‹_› | exact .own 0 rfl | exact .own 1 rfl | exact .own 2 rfl | exact .own 3 rfl | exact .own 4 rfl | exact .own 5 rfl | exact .own 6 rfl | exact .own 7 rfl | exact .own 8 rfl | assumption)) ⟨_, rfl, congrArg (fun b => some (Value.bool b)) hg_3_3⟩ rfl ?_
    refine AK.val _ (Yl.eql rfl rfl) ⟨_, rfl, congrArg (fun b => some (Value.bool b)) hg_3_3⟩ rfl ?_
    refine AK.val _ (Yl.pickT rfl (hg_3_3) rfl) trivial rfl ?_
    refine AK.val _ (Yl.move rfl) trivial rfl ?_
    refine AK.knownT (g := 23) rfl (decide_eq_true (by rw [et]; rfl)) (fun hg_3_8 => ?_)
    refine AK.call co20 rfl (fun w hw => s_awake w) ⟨_, rfl, congrArg (fun b => some (Value.bool b)) hg_3_8⟩ rfl ?_
    rintro r o ⟨rfl, rfl⟩
    refine AK.val _ (Yl.pickT rfl (hg_3_8) rfl) trivial rfl ?_
    refine AK.val _ (Yl.assign rfl) trivial rfl ?_
    refine AK.nil ?_
    refine AK.then_ (hK5 _ ?_)
    refine AK.ret ?_
    refine AK.then_ret ?_
    refine AK.ret1 rfl rfl (fun w hw => ⟨_, _, ?_, rfl, Ret.of (hw.pick [] (by decide) rfl rfl)⟩)
    exact ⟨rfl, rfl⟩
  · have hg_2_2' := hg_2_2
    try simp only [decide_eq_true_eq, decide_eq_false_iff_not, Bool.not_eq_true', Bool.not_eq_false', Bool.not_not, ne_eq, Decidable.not_not, Int.not_lt, Int.not_le, beq_iff_eq, bne_iff_ne, Bool.and_eq_true, Bool.or_eq_true, Bool.or_eq_false_iff, Bool.not_false, Bool.not_true, reduceCtorEq, not_true_eq_false, not_false_eq_true] at hg_2_2'
    refine AK.val _ (Yl.move rfl) ⟨_, rfl, congrArg (fun b => some (Value.bool b)) hg_2_2⟩ rfl ?_
    refine AK.val _ (Yl.gtr rfl rfl) ⟨_, rfl, congrArg (fun b => some (Value.bool b)) hg_2_2⟩ rfl ?_
    refine AK.val _ (Yl.pickF rfl (hg_2_2) rfl) trivial rfl ?_
    refine AK.nil ?_
    refine AK.then_ (hK4 _ ?_)
    refine AK.condD rfl (fun hc0 => ?_) (fun hc0 => ?_)
    · have ed : discB n = [] := (by unfold discB; rw [if_neg (by omega)])
      have et : trivB n = [] := (by unfold trivB; rw [if_neg (by omega)])
      refine AK.seq (fun _ hK6 => ?_)
      refine AK.region ?_
      refine AK.val _ (Yl.move rfl) trivial rfl ?_
      refine AK.val _ (Yl.lenR sl22 rfl (by first | exact .arg ‹_› | exact .own 0 rfl | exact .own 1 rfl | exact .own 2 rfl | exact .own 3 rfl | exact .own 4 rfl | exact .own 5 rfl | exact .own 6 rfl | exact .own 7 rfl | exact .own 8 rfl | assumption)) trivial rfl ?_
      refine AK.val _ (Yl.eql rfl rfl) trivial rfl ?_
      refine AK.val _ (Yl.move rfl) trivial rfl ?_
      refine AK.knownT (g := 18) rfl (decide_eq_true (by rw [ed]; rfl)) (fun hg_3_3 => ?_)
      refine AK.val _ (Yl.move rfl) ⟨_, rfl, congrArg (fun b => some (Value.bool b)) hg_3_3⟩ rfl ?_
      refine AK.val _ (Yl.lenR sl22 rfl (by first | exact .arg ‹_› | exact .own 0 rfl | exact .own 1 rfl | exact .own 2 rfl | exact .own 3 rfl | exact .own 4 rfl | exact .own 5 rfl | exact .own 6 rfl | exact .own 7 rfl | exact .own 8 rfl | assumption)) ⟨_, rfl, congrArg (fun b => some (Value.bool b)) hg_3_3⟩ rfl ?_
      refine AK.val _ (Yl.eql rfl rfl) ⟨_, rfl, congrArg (fun b => some (Value.bool b)) hg_3_3⟩ rfl ?_
      refine AK.val _ (Yl.pickT rfl (hg_3_3) rfl) trivial rfl ?_
      refine AK.val _ (Yl.move rfl) trivial rfl ?_
      refine AK.knownT (g := 23) rfl (decide_eq_true (by rw [et]; rfl)) (fun hg_3_8 => ?_)
      refine AK.call co20 rfl (fun w hw => s_awake w) ⟨_, rfl, congrArg (fun b => some (Value.bool b)) hg_3_8⟩ rfl ?_
      rintro r o ⟨rfl, rfl⟩
      refine AK.val _ (Yl.pickT rfl (hg_3_8) rfl) trivial rfl ?_
      refine AK.val _ (Yl.assign rfl) trivial rfl ?_
      refine AK.nil ?_
      refine AK.then_ (hK6 _ ?_)
      refine AK.ret ?_
      refine AK.then_ret ?_
      refine AK.ret1 rfl rfl (fun w hw => ⟨_, _, ?_, rfl, Ret.of (hw.pick [] (by decide) rfl rfl)⟩)
      exact ⟨rfl, rfl⟩
    · have ed : discB n = idl n.toNat := (by unfold discB; rw [if_pos (by omega)])
      have et : trivB n = List.replicate n.toNat 0 := (by unfold trivB; rw [if_pos (by omega)])
      refine AK.skip ?_
      refine AK.then_ (hK3 _ ?_)
      refine AK.seq (fun _ hK7 => ?_)
      refine AK.region ?_
      refine AK.val _ (Yl.move rfl) trivial rfl ?_
      refine AK.val _ (Yl.move rfl) trivial rfl ?_
      refine AK.call co37 rfl (fun w hw => s_refdisc w n (by omega)) trivial rfl ?_
      rintro rv o rfl
      refine AK.call co16 rfl (fun w hw => s_same w dv rv (discB n) (idl n.toNat) (RdI.own 0 hw rfl) (RdI.ownE 2 hw rfl (idl_length _).symm rfl) (by omega)) trivial rfl ?_
      rintro r o ⟨rfl, rfl⟩
      refine AK.val _ (Yl.move rfl) trivial rfl ?_
      refine AK.knownT (g := 30) rfl (decide_eq_true ed) (fun hg_4_4 => ?_)
      refine AK.val _ (Yl.move rfl) ⟨_, rfl, congrArg (fun b => some (Value.bool b)) hg_4_4⟩ rfl ?_
      refine AK.val _ (Yl.move rfl) ⟨_, rfl, congrArg (fun b => some (Value.bool b)) hg_4_4⟩ rfl ?_
      refine AK.make1Z sl22 el3 rfl rfl rfl (by omega) (by omega) (by omega) ⟨_, rfl, congrArg (fun b => some (Value.bool b)) hg_4_4⟩ rfl (fun mv0 => ?_)
      refine AK.call co16 rfl (fun w hw => s_same w tv mv0 (trivB n) (List.replicate n.toNat 0) (RdI.own 1 hw rfl) (RdI.ownE 3 hw rfl (by simp) (by simp)) (by omega)) ⟨_, rfl, congrArg (fun b => some (Value.bool b)) hg_4_4⟩ rfl ?_
      rintro r o ⟨rfl, rfl⟩
      refine AK.val _ (Yl.pickT rfl (hg_4_4) rfl) trivial rfl ?_
      refine AK.val _ (Yl.move rfl) trivial rfl ?_
      refine AK.knownT (g := 36) rfl (decide_eq_true et) (fun hg_4_10 => ?_)
      refine AK.val _ (Yl.move rfl) ⟨_, rfl, congrArg (fun b => some (Value.bool b)) hg_4_10⟩ rfl ?_
      refine AK.val _ (Yl.move rfl) ⟨_, rfl, congrArg (fun b => some (Value.bool b)) hg_4_10⟩ rfl ?_
      refine AK.call co33 rfl (fun w hw => s_refines w dv tv (discB n) (trivB n) (RdI.own 0 hw rfl) (RdI.own 1 hw rfl)) ⟨_, rfl, congrArg (fun b => some (Value.bool b)) hg_4_10⟩ rfl ?_
      rintro r o ⟨rfl, rfl⟩
      refine AK.val _ (Yl.pickT rfl (hg_4_10) rfl) trivial rfl ?_
      refine AK.val _ (Yl.move rfl) trivial rfl ?_
      refine AK.knownT (g := 41) rfl (ends_refB n) (fun hg_4_15 => ?_)
      refine AK.call co20 rfl (fun w hw => s_awake w) ⟨_, rfl, congrArg (fun b => some (Value.bool b)) hg_4_15⟩ rfl ?_
      rintro r o ⟨rfl, rfl⟩
      refine AK.val _ (Yl.pickT rfl (hg_4_15) rfl) trivial rfl ?_
      refine AK.val _ (Yl.assign rfl) trivial rfl ?_
      refine AK.nil ?_
      refine AK.then_ (hK7 _ ?_)
      refine AK.ret ?_
      refine AK.ret1 rfl rfl (fun w hw => ⟨_, _, ?_, rfl, Ret.of (hw.pick [] (by decide) rfl rfl)⟩)
      exact ⟨rfl, rfl⟩

set_option maxRecDepth 100000 in
theorem l_saturates (w : World) (u v : Value) (xs : List Int) (ys : List Bool) (hu : RdI w u xs) (hv : RdI8 w v ys) : CallS Try.prog 8 [u, v] w (fun r o => r = .bool true ∧ o = []) := by
  have hu0 := hu
  have hv0 := hv
  unfold RdI at hu
  unfold RdI8 at hv
  have hmx := Rd.le hu
  have hmy := Rd.le hv
  refine spec_of Try.func8 rfl (Nat.le_of_ble_eq_true rfl) ?_
  refine AK.seq (fun _ hK1 => ?_)
  refine AK.region ?_
  refine AK.val _ (Yl.assign rfl) trivial rfl ?_
  refine AK.nil ?_
  refine AK.then_ (hK1 _ ?_)
  refine AK.seq (fun _ hK2 => ?_)
  refine AK.region ?_
  refine AK.val _ (Yl.move rfl) trivial rfl ?_
  refine AK.val _ (Yl.move rfl) trivial rfl ?_
  refine AK.call co32 rfl (fun w hw => s_saturates w u v xs ys (RdI.at hu0 hw) (RdI8.at hv0 hw)) trivial rfl ?_
  rintro r o ⟨rfl, rfl⟩
  refine AK.val _ (Yl.assign rfl) trivial rfl ?_
  refine AK.nil ?_
  refine AK.then_ (hK2 _ ?_)
  refine AK.seq (fun _ hK3 => ?_)
  refine AK.seq (fun _ hK4 => ?_)
  refine AK.region ?_
  refine AK.val _ (Yl.move rfl) trivial rfl ?_
  refine AK.call co19 rfl (fun w hw => s_refvalid w u xs (RdI.at hu0 hw)) trivial rfl ?_
  rintro r o ⟨rfl, rfl⟩
  refine AK.val _ (Yl.not rfl) trivial rfl ?_
  refine AK.val _ (Yl.move rfl) trivial rfl ?_
  refine AK.splitB (g := 17) rfl (fun hg_2_3 => ?_) (fun hg_2_3 => ?_)
  · have hg_2_3' := hg_2_3
    try simp only [decide_eq_true_eq, decide_eq_false_iff_not, Bool.not_eq_true', Bool.not_eq_false', Bool.not_not, ne_eq, Decidable.not_not, Int.not_lt, Int.not_le, beq_iff_eq, bne_iff_ne, Bool.and_eq_true, Bool.or_eq_true, Bool.or_eq_false_iff, Bool.not_false, Bool.not_true, reduceCtorEq, not_true_eq_false, not_false_eq_true] at hg_2_3'
    refine AK.pass rfl rfl (hg_2_3) rfl ?_
    refine AK.pass rfl rfl (hg_2_3) rfl ?_
    refine AK.pass rfl rfl (hg_2_3) rfl ?_
    refine AK.pass rfl rfl (hg_2_3) rfl ?_
    refine AK.pass rfl rfl (hg_2_3) rfl ?_
    refine AK.val _ (Yl.pickT rfl (hg_2_3) rfl) trivial rfl ?_
    refine AK.nil ?_
    refine AK.then_ (hK4 _ ?_)
    refine AK.cond_t rfl (rfl) ?_
    have hbad : ¬ (xs.length = ys.length ∧ ValidP xs) := by
      rintro ⟨h1, h2⟩
      first | exact hg_2_3' h2 | omega
    refine AK.seq (fun _ hK5 => ?_)
    refine AK.region ?_
    refine AK.val _ (Yl.move rfl) trivial rfl ?_
    refine AK.val _ (Yl.not rfl) trivial rfl ?_
    refine AK.val _ (Yl.move rfl) trivial rfl ?_
    refine AK.knownT (g := 26) rfl (by unfold satB; rw [decide_eq_false hbad]; rfl) (fun hg_3_2 => ?_)
    refine AK.call co20 rfl (fun w hw => s_awake w) ⟨_, rfl, congrArg (fun b => some (Value.bool b)) hg_3_2⟩ rfl ?_
    rintro r o ⟨rfl, rfl⟩
    refine AK.val _ (Yl.pickT rfl (hg_3_2) rfl) trivial rfl ?_
    refine AK.val _ (Yl.assign rfl) trivial rfl ?_
    refine AK.nil ?_
    refine AK.then_ (hK5 _ ?_)
    refine AK.ret ?_
    refine AK.then_ret ?_
    refine AK.ret1 rfl rfl (fun w hw => ⟨_, _, ?_, rfl, Ret.of (hw.pick [] (by decide) rfl rfl)⟩)
    exact ⟨rfl, rfl⟩
  · have hg_2_3' := hg_2_3
    try simp only [decide_eq_true_eq, decide_eq_false_iff_not, Bool.not_eq_true', Bool.not_eq_false', Bool.not_not, ne_eq, Decidable.not_not, Int.not_lt, Int.not_le, beq_iff_eq, bne_iff_ne, Bool.and_eq_true, Bool.or_eq_true, Bool.or_eq_false_iff, Bool.not_false, Bool.not_true, reduceCtorEq, not_true_eq_false, not_false_eq_true] at hg_2_3'
    refine AK.val _ (Yl.move rfl) ⟨_, rfl, congrArg (fun b => some (Value.bool b)) hg_2_3⟩ rfl ?_
    refine AK.val _ (Yl.lenR sl22 rfl (by first | exact .arg ‹_› | exact .own 0 rfl | exact .own 1 rfl | exact .own 2 rfl | exact .own 3 rfl | exact .own 4 rfl | exact .own 5 rfl | exact .own 6 rfl | exact .own 7 rfl | exact .own 8 rfl | assumption | exact .big 1 _ rfl (matL_get hrl (by omega)))) ⟨_, rfl, congrArg (fun b => some (Value.bool b)) hg_2_3⟩ rfl ?_
    refine AK.val _ (Yl.move rfl) ⟨_, rfl, congrArg (fun b => some (Value.bool b)) hg_2_3⟩ rfl ?_
    refine AK.val _ (Yl.lenR sl36 rfl (by first | exact .arg ‹_› | exact .own 0 rfl | exact .own 1 rfl | exact .own 2 rfl | exact .own 3 rfl | exact .own 4 rfl | exact .own 5 rfl | exact .own 6 rfl | exact .own 7 rfl | exact .own 8 rfl | assumption | exact .big 1 _ rfl (matL_get hrl (by omega)))) ⟨_, rfl, congrArg (fun b => some (Value.bool b)) hg_2_3⟩ rfl ?_
    refine AK.val _ (Yl.neq rfl rfl) ⟨_, rfl, congrArg (fun b => some (Value.bool b)) hg_2_3⟩ rfl ?_
    refine AK.val _ (Yl.pickF rfl (hg_2_3) rfl) trivial rfl ?_
    refine AK.nil ?_
    refine AK.then_ (hK4 _ ?_)
    refine AK.condNe rfl (fun hc0 => ?_) (fun hc0 => ?_)
    · have hbad : ¬ (xs.length = ys.length ∧ ValidP xs) := by
        rintro ⟨h1, h2⟩
        first | exact hg_2_3' h2 | omega
      refine AK.seq (fun _ hK6 => ?_)
      refine AK.region ?_
      refine AK.val _ (Yl.move rfl) trivial rfl ?_
      refine AK.val _ (Yl.not rfl) trivial rfl ?_
      refine AK.val _ (Yl.move rfl) trivial rfl ?_
      refine AK.knownT (g := 26) rfl (by unfold satB; rw [decide_eq_false hbad]; rfl) (fun hg_3_2 => ?_)
      refine AK.call co20 rfl (fun w hw => s_awake w) ⟨_, rfl, congrArg (fun b => some (Value.bool b)) hg_3_2⟩ rfl ?_
      rintro r o ⟨rfl, rfl⟩
      refine AK.val _ (Yl.pickT rfl (hg_3_2) rfl) trivial rfl ?_
      refine AK.val _ (Yl.assign rfl) trivial rfl ?_
      refine AK.nil ?_
      refine AK.then_ (hK6 _ ?_)
      refine AK.ret ?_
      refine AK.then_ret ?_
      refine AK.ret1 rfl rfl (fun w hw => ⟨_, _, ?_, rfl, Ret.of (hw.pick [] (by decide) rfl rfl)⟩)
      exact ⟨rfl, rfl⟩
    · have hvp : ValidP xs := hg_2_3'
      have hle : xs.length = ys.length := (by omega)
      have hl1 := hvp.1
      refine AK.skip ?_
      refine AK.then_ (hK3 _ ?_)
      refine AK.seq (fun _ hK7 => ?_)
      refine AK.region ?_
      refine AK.val _ (Yl.assign rfl) trivial rfl ?_
      refine AK.nil ?_
      refine AK.then_ (hK7 _ ?_)
      refine AK.seq (fun _ hK8 => ?_)
      refine AK.seq (fun _ hK9 => ?_)
      refine AK.region ?_
      refine AK.val _ (Yl.move rfl) trivial rfl ?_
      refine AK.call co25 rfl (fun w hw => s_refclasses w u xs (RdI.at hu0 hw) hvp) trivial rfl ?_
      rintro cv o ⟨rs, hrl, rfl⟩
      refine AK.val _ (Yl.lenR sl28 rfl (by first | exact .arg ‹_› | exact .own 0 rfl | exact .own 1 rfl | exact .own 2 rfl | exact .own 3 rfl | exact .own 4 rfl | exact .own 5 rfl | exact .own 6 rfl | exact .own 7 rfl | exact .own 8 rfl | assumption | exact .big 1 _ rfl (matL_get hrl (by omega)))) trivial rfl ?_
      refine AK.val _ (Yl.move rfl) trivial rfl ?_
      refine AK.nil ?_
      refine AK.then_ (hK9 _ ?_)
      refine AK.block ?_
      refine AK.loopS (X := Nat × Bool) [1, 5, 30, 31] (fun x => [(6, .bool x.2), (32, .int .i64 (x.1 : Int))]) (fun x => [row cv 22 1 (classB xs).length rs, bigA (matL 3 rs (classB xs))]) (fun x => x.1 ≤ (classB xs).length ∧ (x.2 = true ↔ ∀ c, c < x.1 → clOK false ys ((classB xs).getD c []) ((classB xs).getD c []).length)) (fun x => (classB xs).length - x.1) ((0, true)) ?_ ?_ ?_ ?_
      · exact ⟨Nat.zero_le _, by simp⟩
      · exact .cons (rfl) (.cons (rfl) (.nil))
      · exact fun w hw => hw
      · intro x hg0 _ hK10
        obtain ⟨ha, hoka⟩ := hg0
        have hcn := classB_len hvp
        have hvc := valid_cnt hvp
        refine AK.seq (fun _ hK11 => ?_)
        refine AK.region ?_
        refine AK.val _ (Yl.lss rfl rfl) trivial rfl ?_
        refine AK.nil ?_
        refine AK.then_ (hK11 _ ?_)
        refine AK.seq (fun _ hK12 => ?_)
        refine AK.condD rfl (fun hc1 => ?_) (fun hc1 => ?_)
        · refine AK.skip ?_
          refine AK.then_ (hK12 _ ?_)
          refine AK.seq (fun _ hK13 => ?_)
          refine AK.block ?_
          refine AK.seq (fun _ hK14 => ?_)
          refine AK.region ?_
          first | refine AK.val _ (Yl.idxN sl28 rfl rfl (by first | exact .arg ‹_› | exact .own 0 rfl | exact .own 1 rfl | exact .own 2 rfl | exact .own 3 rfl | exact .own 4 rfl | exact .own 5 rfl | exact .own 6 rfl | exact .own 7 rfl | exact .own 8 rfl | assumption | exact .big 1 _ rfl (matL_get hrl (by omega))) (by decide) (by omega)) trivial rfl ?_ | refine AK.val _ (Yl.idx sl28 rfl rfl (by first | exact .arg ‹_› | exact .own 0 rfl | exact .own 1 rfl | exact .own 2 rfl | exact .own 3 rfl | exact .own 4 rfl | exact .own 5 rfl | exact .own 6 rfl | exact .own 7 rfl | exact .own 8 rfl | assumption | exact .big 1 _ rfl (matL_get hrl (by omega))) (by decide) (by omega)) trivial rfl ?_
          refine AK.val _ (Yl.loadV on22 rfl (by first | exact .arg ‹_› | exact .own 0 rfl | exact .own 1 rfl | exact .own 2 rfl | exact .own 3 rfl | exact .own 4 rfl | exact .own 5 rfl | exact .own 6 rfl | exact .own 7 rfl | exact .own 8 rfl | assumption | exact .big 1 _ rfl (matL_get hrl (by omega))) (by omega)) trivial rfl ?_
          refine AK.val _ (Yl.assign rfl) trivial rfl ?_
          refine AK.nil ?_
          refine AK.then_ (hK14 _ ?_)
          refine AK.seq (fun _ hK15 => ?_)
          refine AK.region ?_
          refine AK.val _ (Yl.move rfl) trivial rfl ?_
          refine AK.val _ (Yl.lenR sl22 rfl (by first | exact .arg ‹_› | exact .own 0 rfl | exact .own 1 rfl | exact .own 2 rfl | exact .own 3 rfl | exact .own 4 rfl | exact .own 5 rfl | exact .own 6 rfl | exact .own 7 rfl | exact .own 8 rfl | assumption | exact .big 1 _ rfl (matL_get hrl (by omega)))) trivial rfl ?_
          refine AK.val _ (Yl.move rfl) trivial rfl ?_
          refine AK.nil ?_
          refine AK.then_ (hK15 _ ?_)
          refine AK.block ?_
          refine AK.loopS (X := Nat × Bool) [1, 5, 8, 30, 31, 32, 36, 37] (fun y => [(6, .bool y.2), (38, .int .i64 (y.1 : Int))]) (fun y => [row cv 22 1 (classB xs).length rs, bigA (matL 3 rs (classB xs))]) (fun y => y.1 ≤ ((classB xs).getD x.1 []).length ∧ (y.2 = true ↔ x.2 = true ∧ clOK false ys ((classB xs).getD x.1 []) y.1)) (fun y => ((classB xs).getD x.1 []).length - y.1) ((0, x.2)) ?_ ?_ ?_ ?_
          · exact ⟨Nat.zero_le _, by simp [clOK]⟩
          · exact .cons (rfl) (.cons (rfl) (.nil))
          · exact fun w hw => hw
          · intro y hg1 _ hK16
            obtain ⟨hm, hokm⟩ := hg1
            have hca : x.1 < (classB xs).length := (by omega)
            have hcl := fun h => cl_at hvp hca (m := y.1) h
            have hcl0 := fun h => cl_at hvp hca (m := 0) h
            have hcll := cl_len hvp hca
            refine AK.seq (fun _ hK17 => ?_)
            refine AK.region ?_
            refine AK.val _ (Yl.lss rfl rfl) trivial rfl ?_
            refine AK.nil ?_
            refine AK.then_ (hK17 _ ?_)
            refine AK.seq (fun _ hK18 => ?_)
            refine AK.condD rfl (fun hc2 => ?_) (fun hc2 => ?_)
            · refine AK.skip ?_
              refine AK.then_ (hK18 _ ?_)
              refine AK.seq (fun _ hK19 => ?_)
              refine AK.block ?_
              refine AK.seq (fun _ hK20 => ?_)
              refine AK.region ?_
              first | refine AK.val _ (Yl.idxN sl22 rfl rfl (by first | exact .arg ‹_› | exact .own 0 rfl | exact .own 1 rfl | exact .own 2 rfl | exact .own 3 rfl | exact .own 4 rfl | exact .own 5 rfl | exact .own 6 rfl | exact .own 7 rfl | exact .own 8 rfl | assumption | exact .big 1 _ rfl (matL_get hrl (by omega))) (by decide) (by omega)) trivial rfl ?_ | refine AK.val _ (Yl.idx sl22 rfl rfl (by first | exact .arg ‹_› | exact .own 0 rfl | exact .own 1 rfl | exact .own 2 rfl | exact .own 3 rfl | exact .own 4 rfl | exact .own 5 rfl | exact .own 6 rfl | exact .own 7 rfl | exact .own 8 rfl | assumption | exact .big 1 _ rfl (matL_get hrl (by omega))) (by decide) (by omega)) trivial rfl ?_
              refine AK.val _ (Yl.loadI on3 rfl (by first | exact .arg ‹_› | exact .own 0 rfl | exact .own 1 rfl | exact .own 2 rfl | exact .own 3 rfl | exact .own 4 rfl | exact .own 5 rfl | exact .own 6 rfl | exact .own 7 rfl | exact .own 8 rfl | assumption | exact .big 1 _ rfl (matL_get hrl (by omega))) (by omega)) trivial rfl ?_
              refine AK.val _ (Yl.assign rfl) trivial rfl ?_
              refine AK.nil ?_
              refine AK.then_ (hK20 _ ?_)
              refine AK.quiet mixed (by kernel_rfl) ?_
              refine QK.val _ (Yl.move rfl) trivial rfl ?_
              refine QK.val _ (Yl.move rfl) trivial rfl ?_
              refine QK.splitB (g := 43) rfl (fun hg_11_1 => ?_) (fun hg_11_1 => ?_)
              · have hg_11_1' := hg_11_1
                try simp only [decide_eq_true_eq, decide_eq_false_iff_not, Bool.not_eq_true', Bool.not_eq_false', Bool.not_not, ne_eq, Decidable.not_not, Int.not_lt, Int.not_le, beq_iff_eq, bne_iff_ne, Bool.and_eq_true, Bool.or_eq_true, Bool.or_eq_false_iff, Bool.not_false, Bool.not_true, reduceCtorEq, not_true_eq_false, not_false_eq_true] at hg_11_1'
                refine QK.val _ (Yl.move rfl) ⟨_, rfl, congrArg (fun b => some (Value.bool b)) hg_11_1⟩ rfl ?_
                refine QK.val _ (Yl.move rfl) ⟨_, rfl, congrArg (fun b => some (Value.bool b)) hg_11_1⟩ rfl ?_
                first | refine QK.val _ (Yl.idxN sl36 rfl rfl (by first | exact .arg ‹_› | exact .own 0 rfl | exact .own 1 rfl | exact .own 2 rfl | exact .own 3 rfl | exact .own 4 rfl | exact .own 5 rfl | exact .own 6 rfl | exact .own 7 rfl | exact .own 8 rfl | assumption | exact .big 1 _ rfl (matL_get hrl (by omega))) (by decide) (by have := hcl (by omega); omega)) ⟨_, rfl, congrArg (fun b => some (Value.bool b)) hg_11_1⟩ rfl ?_ | refine QK.val _ (Yl.idx sl36 rfl rfl (by first | exact .arg ‹_› | exact .own 0 rfl | exact .own 1 rfl | exact .own 2 rfl | exact .own 3 rfl | exact .own 4 rfl | exact .own 5 rfl | exact .own 6 rfl | exact .own 7 rfl | exact .own 8 rfl | assumption | exact .big 1 _ rfl (matL_get hrl (by omega))) (by decide) (by have := hcl (by omega); omega)) ⟨_, rfl, congrArg (fun b => some (Value.bool b)) hg_11_1⟩ rfl ?_
                refine QK.val _ (Yl.loadB on4 rfl (by first | exact .arg ‹_› | exact .own 0 rfl | exact .own 1 rfl | exact .own 2 rfl | exact .own 3 rfl | exact .own 4 rfl | exact .own 5 rfl | exact .own 6 rfl | exact .own 7 rfl | exact .own 8 rfl | assumption | exact .big 1 _ rfl (matL_get hrl (by omega))) (by have := hcl (by omega); omega)) ⟨_, rfl, congrArg (fun b => some (Value.bool b)) hg_11_1⟩ rfl ?_
                refine QK.val _ (Yl.move rfl) ⟨_, rfl, congrArg (fun b => some (Value.bool b)) hg_11_1⟩ rfl ?_
                refine QK.val _ (Yl.move rfl) ⟨_, rfl, congrArg (fun b => some (Value.bool b)) hg_11_1⟩ rfl ?_
                refine QK.val _ (Yl.idxN (k := 0) sl22 rfl rfl (by first | exact .arg ‹_› | exact .own 0 rfl | exact .own 1 rfl | exact .own 2 rfl | exact .own 3 rfl | exact .own 4 rfl | exact .own 5 rfl | exact .own 6 rfl | exact .own 7 rfl | exact .own 8 rfl | assumption | exact .big 1 _ rfl (matL_get hrl (by omega))) (by decide) (by omega)) ⟨_, rfl, congrArg (fun b => some (Value.bool b)) hg_11_1⟩ rfl ?_
                refine QK.val _ (Yl.loadI on3 rfl (by first | exact .arg ‹_› | exact .own 0 rfl | exact .own 1 rfl | exact .own 2 rfl | exact .own 3 rfl | exact .own 4 rfl | exact .own 5 rfl | exact .own 6 rfl | exact .own 7 rfl | exact .own 8 rfl | assumption | exact .big 1 _ rfl (matL_get hrl (by omega))) (by omega)) ⟨_, rfl, congrArg (fun b => some (Value.bool b)) hg_11_1⟩ rfl ?_
                first | refine QK.val _ (Yl.idxN sl36 rfl rfl (by first | exact .arg ‹_› | exact .own 0 rfl | exact .own 1 rfl | exact .own 2 rfl | exact .own 3 rfl | exact .own 4 rfl | exact .own 5 rfl | exact .own 6 rfl | exact .own 7 rfl | exact .own 8 rfl | assumption | exact .big 1 _ rfl (matL_get hrl (by omega))) (by decide) (by have := hcl0 (by omega); omega)) ⟨_, rfl, congrArg (fun b => some (Value.bool b)) hg_11_1⟩ rfl ?_ | refine QK.val _ (Yl.idx sl36 rfl rfl (by first | exact .arg ‹_› | exact .own 0 rfl | exact .own 1 rfl | exact .own 2 rfl | exact .own 3 rfl | exact .own 4 rfl | exact .own 5 rfl | exact .own 6 rfl | exact .own 7 rfl | exact .own 8 rfl | assumption | exact .big 1 _ rfl (matL_get hrl (by omega))) (by decide) (by have := hcl0 (by omega); omega)) ⟨_, rfl, congrArg (fun b => some (Value.bool b)) hg_11_1⟩ rfl ?_
                refine QK.val _ (Yl.loadB on4 rfl (by first | exact .arg ‹_› | exact .own 0 rfl | exact .own 1 rfl | exact .own 2 rfl | exact .own 3 rfl | exact .own 4 rfl | exact .own 5 rfl | exact .own 6 rfl | exact .own 7 rfl | exact .own 8 rfl | assumption | exact .big 1 _ rfl (matL_get hrl (by omega))) (by have := hcl0 (by omega); omega)) ⟨_, rfl, congrArg (fun b => some (Value.bool b)) hg_11_1⟩ rfl ?_
                refine QK.val _ (Yl.eqlB bo4 rfl rfl) ⟨_, rfl, congrArg (fun b => some (Value.bool b)) hg_11_1⟩ rfl ?_
                refine QK.val _ (Yl.pickT rfl (hg_11_1) rfl) trivial rfl ?_
                refine QK.val _ (Yl.assign rfl) trivial rfl ?_
                refine QK.nil (QK.fin ?_)
                refine AK.block_normal ?_
                refine AK.then_ (hK19 _ ?_)
                refine AK.region ?_
                refine AK.val _ (Yl.add rfl rfl (by omega)) trivial rfl ?_
                refine AK.val _ (Yl.move rfl) trivial rfl ?_
                refine AK.nil ?_
                refine AK.then_ (hK16 _ _ ((y.1 + 1, y.2 && (ys.getD (((classB xs).getD x.1 []).getD y.1 0).toNat false == ys.getD (((classB xs).getD x.1 []).getD 0 0).toNat false))) ⟨by dsimp only; omega, sat_step hokm⟩ (by dsimp only; omega) (.cons (slB rfl (by simp [hg_11_1])) (.cons (rfl) (.cons rfl (.cons rfl (.cons rfl (.cons rfl (.cons rfl (.cons rfl (.cons rfl (.cons rfl (.nil))))))))))) (fun w hw => hw))
              · have hg_11_1' := hg_11_1
                try simp only [decide_eq_true_eq, decide_eq_false_iff_not, Bool.not_eq_true', Bool.not_eq_false', Bool.not_not, ne_eq, Decidable.not_not, Int.not_lt, Int.not_le, beq_iff_eq, bne_iff_ne, Bool.and_eq_true, Bool.or_eq_true, Bool.or_eq_false_iff, Bool.not_false, Bool.not_true, reduceCtorEq, not_true_eq_false, not_false_eq_true] at hg_11_1'
                refine QK.pass rfl rfl (hg_11_1) rfl ?_
                refine QK.pass rfl rfl (hg_11_1) rfl ?_
                refine QK.pass rfl rfl (hg_11_1) rfl ?_
                refine QK.pass rfl rfl (hg_11_1) rfl ?_
                refine QK.pass rfl rfl (hg_11_1) rfl ?_
                refine QK.pass rfl rfl (hg_11_1) rfl ?_
                refine QK.pass rfl rfl (hg_11_1) rfl ?_
                refine QK.pass rfl rfl (hg_11_1) rfl ?_
                refine QK.pass rfl rfl (hg_11_1) rfl ?_
                refine QK.pass rfl rfl (hg_11_1) rfl ?_
                refine QK.pass rfl rfl (hg_11_1) rfl ?_
                refine QK.val _ (Yl.pickF rfl (hg_11_1) rfl) trivial rfl ?_
                refine QK.val _ (Yl.assign rfl) trivial rfl ?_
                refine QK.nil (QK.fin ?_)
                refine AK.block_normal ?_
                refine AK.then_ (hK19 _ ?_)
                refine AK.region ?_
                refine AK.val _ (Yl.add rfl rfl (by omega)) trivial rfl ?_
                refine AK.val _ (Yl.move rfl) trivial rfl ?_
                refine AK.nil ?_
                refine AK.then_ (hK16 _ _ ((y.1 + 1, y.2 && (ys.getD (((classB xs).getD x.1 []).getD y.1 0).toNat false == ys.getD (((classB xs).getD x.1 []).getD 0 0).toNat false))) ⟨by dsimp only; omega, sat_step hokm⟩ (by dsimp only; omega) (.cons (slB rfl (by simp [hg_11_1])) (.cons (rfl) (.cons rfl (.cons rfl (.cons rfl (.cons rfl (.cons rfl (.cons rfl (.cons rfl (.cons rfl (.nil))))))))))) (fun w hw => hw))
            · refine AK.exit ?_
              refine AK.then_exit ?_
              refine AK.then_exit ?_
              refine AK.block_exit ?_
              refine AK.block_normal ?_
              refine AK.then_ (hK13 _ ?_)
              refine AK.region ?_
              refine AK.val _ (Yl.add rfl rfl (by omega)) trivial rfl ?_
              refine AK.val _ (Yl.move rfl) trivial rfl ?_
              refine AK.nil ?_
              refine AK.then_ (hK10 _ _ ((x.1 + 1, y.2)) ⟨by dsimp only; omega, sat_next hoka hokm (by omega)⟩ (by dsimp only; omega) (.cons (rfl) (.cons (rfl) (.cons rfl (.cons rfl (.cons rfl (.cons rfl (.nil))))))) (fun w hw => hw))
        · refine AK.exit ?_
          refine AK.then_exit ?_
          refine AK.then_exit ?_
          refine AK.block_exit ?_
          refine AK.then_ (hK8 _ ?_)
          refine AK.seq (fun _ hK21 => ?_)
          refine AK.region ?_
          refine AK.val _ (Yl.move rfl) trivial rfl ?_
          refine AK.val _ (Yl.move rfl) trivial rfl ?_
          refine AK.val _ (Yl.eqlB bo4 rfl rfl) trivial rfl ?_
          refine AK.val _ (Yl.move rfl) trivial rfl ?_
          refine AK.knownT (g := 61) rfl (sat_fin hvp hle (by omega) hoka) (fun hg_14_3 => ?_)
          refine AK.call co20 rfl (fun w hw => s_awake w) ⟨_, rfl, congrArg (fun b => some (Value.bool b)) hg_14_3⟩ rfl ?_
          rintro r o ⟨rfl, rfl⟩
          refine AK.val _ (Yl.pickT rfl (hg_14_3) rfl) trivial rfl ?_
          refine AK.val _ (Yl.assign rfl) trivial rfl ?_
          refine AK.nil ?_
          refine AK.then_ (hK21 _ ?_)
          refine AK.ret ?_
          refine AK.ret1 rfl rfl (fun w hw => ⟨_, _, ?_, rfl, Ret.of (hw.pick [] (by decide) rfl rfl)⟩)
          exact ⟨rfl, rfl⟩

end Go.Proofs.Ytkdidaiedibhaaa
