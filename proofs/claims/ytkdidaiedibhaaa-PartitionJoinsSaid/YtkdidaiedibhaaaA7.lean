import Derived.Test.YtkdidaiedibhaaaA5
import Derived.Test.YtkdidaiedibhaaaPy
import Derived.Test.YtkdidaiedibhaaaSq
set_option linter.unusedVariables false
set_option linter.unusedSimpArgs false
namespace Go.Proofs.Ytkdidaiedibhaaa
open Go.Sx Go.RowKit
theorem one_pcs (ps : List (Int × Int)) : one' (pcs ps) := by
  intro u hu; unfold pcs at hu; rw [List.mem_flatMap] at hu; obtain ⟨p, _, hp⟩ := hu; simp at hp; rcases hp with rfl | rfl <;> rfl
theorem lstP_snoc (l : List (List Int)) (c : List Int) : lstP (l ++ [c]) = lstP l ++ nbP c c.length := by simp [lstP]
theorem nbP_end {cl : List Int} {i : Nat} (h : ¬ (i : Int) < cl.length) (h' : i ≤ cl.length ∨ i = 1) : nbP cl i = nbP cl cl.length := by
  unfold nbP; rw [show i - 1 = cl.length - 1 by omega]
theorem lst_bd {xs : List Int} (hv : ValidP xs) {a : Nat} (ha : a ≤ (classB xs).length) : (lstP ((classB xs).take a)).length ≤ a * 4096 := by
  induction a with
  | zero => simp [lstP]
  | succ a ih =>
    have := ih (by omega)
    have hl := cl_len hv (a := a) (by omega)
    rw [take_snocD [] (classB xs) a (by omega), lstP_snoc, List.length_append, nbP_length]
    omega

set_option maxHeartbeats 1600000 in
set_option maxRecDepth 100000 in
theorem l_joins (w : World) (n : Int) (va vb u : Value) (ps qs : List (Int × Int)) (xs : List Int) (ha : RdP w va ps) (hb : RdP w vb qs) (hu : RdI w u xs) : CallS Try.prog 13 [.int .i64 n, va, vb, u] w (fun r o => r = .bool true ∧ o = []) := by
  have ha0 := ha
  have hb0 := hb
  have hu0 := hu
  unfold RdP at ha hb
  unfold RdI at hu
  have hma := Rd.le ha
  have hmb := Rd.le hb
  have hmx := Rd.le hu
  refine spec_of Try.func13 rfl (Nat.le_of_ble_eq_true rfl) ?_
  refine AK.seq (fun _ hK1 => ?_)
  refine AK.region ?_
  refine AK.val _ (Yl.assign rfl) trivial rfl ?_
  refine AK.nil ?_
  refine AK.then_ (hK1 _ ?_)
  refine AK.seq (fun _ hK2 => ?_)
  refine AK.seq (fun _ hK3 => ?_)
  refine AK.region ?_
  refine AK.val _ (Yl.move rfl) trivial rfl ?_
  refine AK.val _ (Yl.move rfl) trivial rfl ?_
  refine AK.call co27 rfl (fun w hw => s_may w n va ps (RdP.at ha0 hw)) trivial rfl ?_
  rintro r o ⟨rfl, rfl⟩
  refine AK.val _ (Yl.not rfl) trivial rfl ?_
  refine AK.val _ (Yl.move rfl) trivial rfl ?_
  refine AK.splitB (g := 19) rfl (fun hg_1_4 => ?_) (fun hg_1_4 => ?_)
  · have hg_1_4' := hg_1_4
    try simp only [decide_eq_true_eq, decide_eq_false_iff_not, Bool.not_eq_true', Bool.not_eq_false', Bool.not_not, ne_eq, Decidable.not_not, Int.not_lt, Int.not_le, beq_iff_eq, bne_iff_ne, Bool.and_eq_true, Bool.or_eq_true, Bool.or_eq_false_iff, Bool.not_false, Bool.not_true, reduceCtorEq, not_true_eq_false, not_false_eq_true] at hg_1_4'
    refine AK.pass rfl rfl (hg_1_4) rfl ?_
    refine AK.pass rfl rfl (hg_1_4) rfl ?_
    refine AK.pass rfl rfl (hg_1_4) rfl ?_
    refine AK.pass rfl rfl (hg_1_4) rfl ?_
    refine AK.val _ (Yl.pickT rfl (hg_1_4) rfl) trivial rfl ?_
    refine AK.val _ (Yl.move rfl) trivial rfl ?_
    refine AK.pass rfl rfl rfl rfl ?_
    refine AK.pass rfl rfl rfl rfl ?_
    refine AK.val _ (Yl.pickT rfl (rfl) rfl) trivial rfl ?_
    refine AK.val _ (Yl.move rfl) trivial rfl ?_
    refine AK.pass rfl rfl rfl rfl ?_
    refine AK.pass rfl rfl rfl rfl ?_
    refine AK.pass rfl rfl rfl rfl ?_
    refine AK.val _ (Yl.pickT rfl (rfl) rfl) trivial rfl ?_
    refine AK.val _ (Yl.move rfl) trivial rfl ?_
    refine AK.pass rfl rfl rfl rfl ?_
    refine AK.pass rfl rfl rfl rfl ?_
    refine AK.pass rfl rfl rfl rfl ?_
    refine AK.val _ (Yl.pickT rfl (rfl) rfl) trivial rfl ?_
    refine AK.nil ?_
    refine AK.then_ (hK3 _ ?_)
    refine AK.cond_t rfl (rfl) ?_
    refine AK.seq (fun _ hK4 => ?_)
    refine AK.region ?_
    refine AK.call co20 rfl (fun w hw => s_awake w) trivial rfl ?_
    rintro r o ⟨rfl, rfl⟩
    refine AK.val _ (Yl.assign rfl) trivial rfl ?_
    refine AK.nil ?_
    refine AK.then_ (hK4 _ ?_)
    refine AK.ret ?_
    refine AK.then_ret ?_
    refine AK.ret1 rfl rfl (fun w hw => ⟨_, _, ?_, rfl, Ret.of (hw.pick [] (by decide) rfl rfl)⟩)
    exact ⟨rfl, rfl⟩
  · have hg_1_4' := hg_1_4
    try simp only [decide_eq_true_eq, decide_eq_false_iff_not, Bool.not_eq_true', Bool.not_eq_false', Bool.not_not, ne_eq, Decidable.not_not, Int.not_lt, Int.not_le, beq_iff_eq, bne_iff_ne, Bool.and_eq_true, Bool.or_eq_true, Bool.or_eq_false_iff, Bool.not_false, Bool.not_true, reduceCtorEq, not_true_eq_false, not_false_eq_true] at hg_1_4'
    refine AK.val _ (Yl.move rfl) ⟨_, rfl, congrArg (fun b => some (Value.bool b)) hg_1_4⟩ rfl ?_
    refine AK.val _ (Yl.move rfl) ⟨_, rfl, congrArg (fun b => some (Value.bool b)) hg_1_4⟩ rfl ?_
    refine AK.call co27 rfl (fun w hw => s_may w n vb qs (RdP.at hb0 hw)) ⟨_, rfl, congrArg (fun b => some (Value.bool b)) hg_1_4⟩ rfl ?_
    rintro r o ⟨rfl, rfl⟩
    refine AK.val _ (Yl.not rfl) ⟨_, rfl, congrArg (fun b => some (Value.bool b)) hg_1_4⟩ rfl ?_
    refine AK.val _ (Yl.pickF rfl (hg_1_4) rfl) trivial rfl ?_
    refine AK.val _ (Yl.move rfl) trivial rfl ?_
    refine AK.splitB (g := 25) rfl (fun hg_1_10 => ?_) (fun hg_1_10 => ?_)
    · have hg_1_10' := hg_1_10
      try simp only [decide_eq_true_eq, decide_eq_false_iff_not, Bool.not_eq_true', Bool.not_eq_false', Bool.not_not, ne_eq, Decidable.not_not, Int.not_lt, Int.not_le, beq_iff_eq, bne_iff_ne, Bool.and_eq_true, Bool.or_eq_true, Bool.or_eq_false_iff, Bool.not_false, Bool.not_true, reduceCtorEq, not_true_eq_false, not_false_eq_true] at hg_1_10'
      refine AK.pass rfl rfl (hg_1_10) rfl ?_
      refine AK.pass rfl rfl (hg_1_10) rfl ?_
      refine AK.val _ (Yl.pickT rfl (hg_1_10) rfl) trivial rfl ?_
      refine AK.val _ (Yl.move rfl) trivial rfl ?_
      refine AK.pass rfl rfl rfl rfl ?_
      refine AK.pass rfl rfl rfl rfl ?_
      refine AK.pass rfl rfl rfl rfl ?_
      refine AK.val _ (Yl.pickT rfl (rfl) rfl) trivial rfl ?_
      refine AK.val _ (Yl.move rfl) trivial rfl ?_
      refine AK.pass rfl rfl rfl rfl ?_
      refine AK.pass rfl rfl rfl rfl ?_
      refine AK.pass rfl rfl rfl rfl ?_
      refine AK.val _ (Yl.pickT rfl (rfl) rfl) trivial rfl ?_
      refine AK.nil ?_
      refine AK.then_ (hK3 _ ?_)
      refine AK.cond_t rfl (rfl) ?_
      refine AK.seq (fun _ hK5 => ?_)
      refine AK.region ?_
      refine AK.call co20 rfl (fun w hw => s_awake w) trivial rfl ?_
      rintro r o ⟨rfl, rfl⟩
      refine AK.val _ (Yl.assign rfl) trivial rfl ?_
      refine AK.nil ?_
      refine AK.then_ (hK5 _ ?_)
      refine AK.ret ?_
      refine AK.then_ret ?_
      refine AK.ret1 rfl rfl (fun w hw => ⟨_, _, ?_, rfl, Ret.of (hw.pick [] (by decide) rfl rfl)⟩)
      exact ⟨rfl, rfl⟩
    · have hg_1_10' := hg_1_10
      try simp only [decide_eq_true_eq, decide_eq_false_iff_not, Bool.not_eq_true', Bool.not_eq_false', Bool.not_not, ne_eq, Decidable.not_not, Int.not_lt, Int.not_le, beq_iff_eq, bne_iff_ne, Bool.and_eq_true, Bool.or_eq_true, Bool.or_eq_false_iff, Bool.not_false, Bool.not_true, reduceCtorEq, not_true_eq_false, not_false_eq_true] at hg_1_10'
      refine AK.val _ (Yl.move rfl) ⟨_, rfl, congrArg (fun b => some (Value.bool b)) hg_1_10⟩ rfl ?_
      refine AK.val _ (Yl.gtr rfl rfl) ⟨_, rfl, congrArg (fun b => some (Value.bool b)) hg_1_10⟩ rfl ?_
      refine AK.val _ (Yl.pickF rfl (hg_1_10) rfl) trivial rfl ?_
      refine AK.val _ (Yl.move rfl) trivial rfl ?_
      refine AK.splitB (g := 29) rfl (fun hg_1_14 => ?_) (fun hg_1_14 => ?_)
      · have hg_1_14' := hg_1_14
        try simp only [decide_eq_true_eq, decide_eq_false_iff_not, Bool.not_eq_true', Bool.not_eq_false', Bool.not_not, ne_eq, Decidable.not_not, Int.not_lt, Int.not_le, beq_iff_eq, bne_iff_ne, Bool.and_eq_true, Bool.or_eq_true, Bool.or_eq_false_iff, Bool.not_false, Bool.not_true, reduceCtorEq, not_true_eq_false, not_false_eq_true] at hg_1_14'
        refine AK.pass rfl rfl (hg_1_14) rfl ?_
        refine AK.pass rfl rfl (hg_1_14) rfl ?_
        refine AK.pass rfl rfl (hg_1_14) rfl ?_
        refine AK.val _ (Yl.pickT rfl (hg_1_14) rfl) trivial rfl ?_
        refine AK.val _ (Yl.move rfl) trivial rfl ?_
        refine AK.pass rfl rfl rfl rfl ?_
        refine AK.pass rfl rfl rfl rfl ?_
        refine AK.pass rfl rfl rfl rfl ?_
        refine AK.val _ (Yl.pickT rfl (rfl) rfl) trivial rfl ?_
        refine AK.nil ?_
        refine AK.then_ (hK3 _ ?_)
        refine AK.cond_t rfl (rfl) ?_
        refine AK.seq (fun _ hK6 => ?_)
        refine AK.region ?_
        refine AK.call co20 rfl (fun w hw => s_awake w) trivial rfl ?_
        rintro r o ⟨rfl, rfl⟩
        refine AK.val _ (Yl.assign rfl) trivial rfl ?_
        refine AK.nil ?_
        refine AK.then_ (hK6 _ ?_)
        refine AK.ret ?_
        refine AK.then_ret ?_
        refine AK.ret1 rfl rfl (fun w hw => ⟨_, _, ?_, rfl, Ret.of (hw.pick [] (by decide) rfl rfl)⟩)
        exact ⟨rfl, rfl⟩
      · have hg_1_14' := hg_1_14
        try simp only [decide_eq_true_eq, decide_eq_false_iff_not, Bool.not_eq_true', Bool.not_eq_false', Bool.not_not, ne_eq, Decidable.not_not, Int.not_lt, Int.not_le, beq_iff_eq, bne_iff_ne, Bool.and_eq_true, Bool.or_eq_true, Bool.or_eq_false_iff, Bool.not_false, Bool.not_true, reduceCtorEq, not_true_eq_false, not_false_eq_true] at hg_1_14'
        refine AK.val _ (Yl.move rfl) ⟨_, rfl, congrArg (fun b => some (Value.bool b)) hg_1_14⟩ rfl ?_
        refine AK.val _ (Yl.lenR sl31 rfl (by first | exact .arg ‹_› | exact .own 0 rfl | exact .own 1 rfl | exact .own 2 rfl | exact .own 3 rfl | exact .own 4 rfl | exact .own 5 rfl | exact .own 6 rfl | exact .own 7 rfl | exact .own 8 rfl | assumption | exact .big 2 _ rfl (matL_get hrl (by omega)))) ⟨_, rfl, congrArg (fun b => some (Value.bool b)) hg_1_14⟩ rfl ?_
        refine AK.val _ (Yl.gtr rfl rfl) ⟨_, rfl, congrArg (fun b => some (Value.bool b)) hg_1_14⟩ rfl ?_
        refine AK.val _ (Yl.pickF rfl (hg_1_14) rfl) trivial rfl ?_
        refine AK.val _ (Yl.move rfl) trivial rfl ?_
        refine AK.splitB (g := 34) rfl (fun hg_1_19 => ?_) (fun hg_1_19 => ?_)
        · have hg_1_19' := hg_1_19
          try simp only [decide_eq_true_eq, decide_eq_false_iff_not, Bool.not_eq_true', Bool.not_eq_false', Bool.not_not, ne_eq, Decidable.not_not, Int.not_lt, Int.not_le, beq_iff_eq, bne_iff_ne, Bool.and_eq_true, Bool.or_eq_true, Bool.or_eq_false_iff, Bool.not_false, Bool.not_true, reduceCtorEq, not_true_eq_false, not_false_eq_true] at hg_1_19'
          refine AK.pass rfl rfl (hg_1_19) rfl ?_
          refine AK.pass rfl rfl (hg_1_19) rfl ?_
          refine AK.pass rfl rfl (hg_1_19) rfl ?_
          refine AK.val _ (Yl.pickT rfl (hg_1_19) rfl) trivial rfl ?_
          refine AK.nil ?_
          refine AK.then_ (hK3 _ ?_)
          refine AK.cond_t rfl (rfl) ?_
          refine AK.seq (fun _ hK7 => ?_)
          refine AK.region ?_
          refine AK.call co20 rfl (fun w hw => s_awake w) trivial rfl ?_
          rintro r o ⟨rfl, rfl⟩
          refine AK.val _ (Yl.assign rfl) trivial rfl ?_
          refine AK.nil ?_
          refine AK.then_ (hK7 _ ?_)
          refine AK.ret ?_
          refine AK.then_ret ?_
          refine AK.ret1 rfl rfl (fun w hw => ⟨_, _, ?_, rfl, Ret.of (hw.pick [] (by decide) rfl rfl)⟩)
          exact ⟨rfl, rfl⟩
        · have hg_1_19' := hg_1_19
          try simp only [decide_eq_true_eq, decide_eq_false_iff_not, Bool.not_eq_true', Bool.not_eq_false', Bool.not_not, ne_eq, Decidable.not_not, Int.not_lt, Int.not_le, beq_iff_eq, bne_iff_ne, Bool.and_eq_true, Bool.or_eq_true, Bool.or_eq_false_iff, Bool.not_false, Bool.not_true, reduceCtorEq, not_true_eq_false, not_false_eq_true] at hg_1_19'
          refine AK.val _ (Yl.move rfl) ⟨_, rfl, congrArg (fun b => some (Value.bool b)) hg_1_19⟩ rfl ?_
          refine AK.val _ (Yl.lenR sl31 rfl (by first | exact .arg ‹_› | exact .own 0 rfl | exact .own 1 rfl | exact .own 2 rfl | exact .own 3 rfl | exact .own 4 rfl | exact .own 5 rfl | exact .own 6 rfl | exact .own 7 rfl | exact .own 8 rfl | assumption | exact .big 2 _ rfl (matL_get hrl (by omega)))) ⟨_, rfl, congrArg (fun b => some (Value.bool b)) hg_1_19⟩ rfl ?_
          refine AK.val _ (Yl.gtr rfl rfl) ⟨_, rfl, congrArg (fun b => some (Value.bool b)) hg_1_19⟩ rfl ?_
          refine AK.val _ (Yl.pickF rfl (hg_1_19) rfl) trivial rfl ?_
          refine AK.nil ?_
          refine AK.then_ (hK3 _ ?_)
          refine AK.condD rfl (fun hc0 => ?_) (fun hc0 => ?_)
          · refine AK.seq (fun _ hK8 => ?_)
            refine AK.region ?_
            refine AK.call co20 rfl (fun w hw => s_awake w) trivial rfl ?_
            rintro r o ⟨rfl, rfl⟩
            refine AK.val _ (Yl.assign rfl) trivial rfl ?_
            refine AK.nil ?_
            refine AK.then_ (hK8 _ ?_)
            refine AK.ret ?_
            refine AK.then_ret ?_
            refine AK.ret1 rfl rfl (fun w hw => ⟨_, _, ?_, rfl, Ret.of (hw.pick [] (by decide) rfl rfl)⟩)
            exact ⟨rfl, rfl⟩
          · have hpa : mayP n ps := hg_1_4'
            have hpb : mayP n qs := hg_1_10'
            have hn0 := hpa.1.1
            have hjl := joinB_len (ok_fromB hpa hpb)
            rw [fromB_len hpa] at hjl
            refine AK.skip ?_
            refine AK.then_ (hK2 _ ?_)
            refine AK.seq (fun _ hK9 => ?_)
            refine AK.region ?_
            refine AK.lit (xs := []) sl31 el42 rfl rfl rfl (by simp [Value.cells]) (by decide) (by decide) trivial rfl (fun lv => ?_)
            refine AK.val _ (Yl.move rfl) trivial rfl ?_
            refine AK.appendS 0 rfl sl31 el42 rfl (by decide) rfl rfl rfl (.arg ha) (one_pcs ps) (by omega) (by omega) trivial rfl (fun av1 => ?_)
            refine AK.val _ (Yl.move rfl) trivial rfl ?_
            refine AK.appendS 0 rfl sl31 el42 rfl (by decide) rfl rfl rfl (.arg hb) (one_pcs qs) (by omega) (by omega) trivial rfl (fun av2 => ?_)
            refine AK.val _ (Yl.assign rfl) trivial rfl ?_
            refine AK.nil ?_
            refine AK.then_ (hK9 _ ?_)
            refine AK.seq (fun _ hK10 => ?_)
            refine AK.region ?_
            refine AK.val _ (Yl.move rfl) trivial rfl ?_
            refine AK.val _ (Yl.move rfl) trivial rfl ?_
            refine AK.call co26 rfl (fun w hw => s_from w n va ps (RdP.at ha0 hw)) trivial rfl ?_
            rintro f1 o rfl
            refine AK.val _ (Yl.move rfl) trivial rfl ?_
            refine AK.val _ (Yl.move rfl) trivial rfl ?_
            refine AK.call co26 rfl (fun w hw => s_from w n vb qs (RdP.at hb0 hw)) trivial rfl ?_
            rintro f2 o rfl
            refine AK.call co39 rfl (fun w hw => s_join w f1 f2 (fromB n ps) (fromB n qs) (RdI.own 1 hw rfl) (RdI.own 2 hw rfl)) trivial rfl ?_
            rintro jv o rfl
            refine AK.val _ (Yl.assign rfl) trivial rfl ?_
            refine AK.nil ?_
            refine AK.then_ (hK10 _ ?_)
            refine AK.seq (fun _ hK11 => ?_)
            refine AK.seq (fun _ hK12 => ?_)
            refine AK.region ?_
            refine AK.val _ (Yl.move rfl) trivial rfl ?_
            refine AK.val _ (Yl.lenR sl22 rfl (by first | exact .arg ‹_› | exact .own 0 rfl | exact .own 1 rfl | exact .own 2 rfl | exact .own 3 rfl | exact .own 4 rfl | exact .own 5 rfl | exact .own 6 rfl | exact .own 7 rfl | exact .own 8 rfl | assumption | exact .big 2 _ rfl (matL_get hrl (by omega)))) trivial rfl ?_
            refine AK.val _ (Yl.move rfl) trivial rfl ?_
            refine AK.val _ (Yl.neq rfl rfl) trivial rfl ?_
            refine AK.val _ (Yl.move rfl) trivial rfl ?_
            refine AK.knownF (g := 56) rfl (decide_eq_false (by omega)) (fun hg_5_4 => ?_)
            refine AK.val _ (Yl.move rfl) ⟨_, rfl, congrArg (fun b => some (Value.bool b)) hg_5_4⟩ rfl ?_
            refine AK.val _ (Yl.move rfl) ⟨_, rfl, congrArg (fun b => some (Value.bool b)) hg_5_4⟩ rfl ?_
            refine AK.call co26 rfl (fun w hw => s_from w n av2 (ps ++ qs) (rdp_ownE 0 hw rfl (by simp) (by simp [pcs_append]))) ⟨_, rfl, congrArg (fun b => some (Value.bool b)) hg_5_4⟩ rfl ?_
            rintro f3 o rfl
            refine AK.val _ (Yl.move rfl) ⟨_, rfl, congrArg (fun b => some (Value.bool b)) hg_5_4⟩ rfl ?_
            refine AK.call co16 rfl (fun w hw => s_same w f3 jv (fromB n (ps ++ qs)) (joinB (fromB n ps) (fromB n qs)) (RdI.own 4 hw rfl) (RdI.own 3 hw rfl) (by have := fromB_le n (ps ++ qs); omega)) ⟨_, rfl, congrArg (fun b => some (Value.bool b)) hg_5_4⟩ rfl ?_
            rintro r o ⟨rfl, rfl⟩
            refine AK.val _ (Yl.not rfl) ⟨_, rfl, congrArg (fun b => some (Value.bool b)) hg_5_4⟩ rfl ?_
            refine AK.val _ (Yl.pickF rfl (hg_5_4) rfl) trivial rfl ?_
            refine AK.nil ?_
            refine AK.then_ (hK12 _ ?_)
            refine AK.cond_f rfl (by rw [decide_eq_true (fromB_join hpa hpb).symm]; rfl) ?_
            refine AK.skip ?_
            refine AK.then_ (hK11 _ ?_)
            refine AK.seq (fun _ hK13 => ?_)
            refine AK.seq (fun _ hK14 => ?_)
            refine AK.region ?_
            refine AK.val _ (Yl.move rfl) trivial rfl ?_
            refine AK.call co19 rfl (fun w hw => s_refvalid w u xs (RdI.at hu0 hw)) trivial rfl ?_
            rintro r o ⟨rfl, rfl⟩
            refine AK.val _ (Yl.not rfl) trivial rfl ?_
            refine AK.val _ (Yl.move rfl) trivial rfl ?_
            refine AK.splitB (g := 67) rfl (fun hg_7_3 => ?_) (fun hg_7_3 => ?_)
            · have hg_7_3' := hg_7_3
              try simp only [decide_eq_true_eq, decide_eq_false_iff_not, Bool.not_eq_true', Bool.not_eq_false', Bool.not_not, ne_eq, Decidable.not_not, Int.not_lt, Int.not_le, beq_iff_eq, bne_iff_ne, Bool.and_eq_true, Bool.or_eq_true, Bool.or_eq_false_iff, Bool.not_false, Bool.not_true, reduceCtorEq, not_true_eq_false, not_false_eq_true] at hg_7_3'
              refine AK.pass rfl rfl (hg_7_3) rfl ?_
              refine AK.pass rfl rfl (hg_7_3) rfl ?_
              refine AK.pass rfl rfl (hg_7_3) rfl ?_
              refine AK.val _ (Yl.pickT rfl (hg_7_3) rfl) trivial rfl ?_
              refine AK.nil ?_
              refine AK.then_ (hK14 _ ?_)
              refine AK.cond_t rfl (rfl) ?_
              refine AK.seq (fun _ hK15 => ?_)
              refine AK.region ?_
              refine AK.call co20 rfl (fun w hw => s_awake w) trivial rfl ?_
              rintro r o ⟨rfl, rfl⟩
              refine AK.val _ (Yl.assign rfl) trivial rfl ?_
              refine AK.nil ?_
              refine AK.then_ (hK15 _ ?_)
              refine AK.ret ?_
              refine AK.then_ret ?_
              refine AK.ret1 rfl rfl (fun w hw => ⟨_, _, ?_, rfl, Ret.of (hw.pick [] (by decide) rfl rfl)⟩)
              exact ⟨rfl, rfl⟩
            · have hg_7_3' := hg_7_3
              try simp only [decide_eq_true_eq, decide_eq_false_iff_not, Bool.not_eq_true', Bool.not_eq_false', Bool.not_not, ne_eq, Decidable.not_not, Int.not_lt, Int.not_le, beq_iff_eq, bne_iff_ne, Bool.and_eq_true, Bool.or_eq_true, Bool.or_eq_false_iff, Bool.not_false, Bool.not_true, reduceCtorEq, not_true_eq_false, not_false_eq_true] at hg_7_3'
              refine AK.val _ (Yl.move rfl) ⟨_, rfl, congrArg (fun b => some (Value.bool b)) hg_7_3⟩ rfl ?_
              refine AK.val _ (Yl.lenR sl22 rfl (by first | exact .arg ‹_› | exact .own 0 rfl | exact .own 1 rfl | exact .own 2 rfl | exact .own 3 rfl | exact .own 4 rfl | exact .own 5 rfl | exact .own 6 rfl | exact .own 7 rfl | exact .own 8 rfl | assumption | exact .big 2 _ rfl (matL_get hrl (by omega)))) ⟨_, rfl, congrArg (fun b => some (Value.bool b)) hg_7_3⟩ rfl ?_
              refine AK.val _ (Yl.gtr rfl rfl) ⟨_, rfl, congrArg (fun b => some (Value.bool b)) hg_7_3⟩ rfl ?_
              refine AK.val _ (Yl.pickF rfl (hg_7_3) rfl) trivial rfl ?_
              refine AK.nil ?_
              refine AK.then_ (hK14 _ ?_)
              refine AK.condD rfl (fun hc2 => ?_) (fun hc2 => ?_)
              · refine AK.seq (fun _ hK16 => ?_)
                refine AK.region ?_
                refine AK.call co20 rfl (fun w hw => s_awake w) trivial rfl ?_
                rintro r o ⟨rfl, rfl⟩
                refine AK.val _ (Yl.assign rfl) trivial rfl ?_
                refine AK.nil ?_
                refine AK.then_ (hK16 _ ?_)
                refine AK.ret ?_
                refine AK.then_ret ?_
                refine AK.ret1 rfl rfl (fun w hw => ⟨_, _, ?_, rfl, Ret.of (hw.pick [] (by decide) rfl rfl)⟩)
                exact ⟨rfl, rfl⟩
              · have hvp : ValidP xs := hg_7_3'
                have hcn := classB_len hvp
                have hvc := valid_cnt hvp
                refine AK.skip ?_
                refine AK.then_ (hK13 _ ?_)
                refine AK.seq (fun _ hK17 => ?_)
                refine AK.region ?_
                refine AK.ghost 42 2 ?_
                refine AK.val _ (Yl.assign rfl) trivial rfl ?_
                refine AK.nil ?_
                refine AK.then_ (hK17 _ ?_)
                refine AK.seq (fun _ hK18 => ?_)
                refine AK.seq (fun _ hK19 => ?_)
                refine AK.region ?_
                refine AK.val _ (Yl.move rfl) trivial rfl ?_
                refine AK.call co22 rfl (fun w hw => s_classes w u xs (RdI.at hu0 hw)) trivial rfl ?_
                rintro cv o ⟨rs, hrl, rfl⟩
                refine AK.val _ (Yl.lenR sl28 rfl (by first | exact .arg ‹_› | exact .own 0 rfl | exact .own 1 rfl | exact .own 2 rfl | exact .own 3 rfl | exact .own 4 rfl | exact .own 5 rfl | exact .own 6 rfl | exact .own 7 rfl | exact .own 8 rfl | assumption | exact .big 2 _ rfl (matL_get hrl (by omega)))) trivial rfl ?_
                refine AK.val _ (Yl.move rfl) trivial rfl ?_
                refine AK.nil ?_
                refine AK.then_ (hK19 _ ?_)
                refine AK.block ?_
                refine AK.loopS (X := Nat × Value) [3, 74, 75] (fun x => [(11, x.2), (76, .int .i64 (x.1 : Int))]) (fun x => [row x.2 42 2 (lstP ((classB xs).take x.1)).length (pcs (lstP ((classB xs).take x.1))), row cv 22 1 (classB xs).length rs, bigA (matL 3 rs (classB xs))]) (fun x => x.1 ≤ (classB xs).length) (fun x => (classB xs).length - x.1) ((0, .slice none 0 0)) ?_ ?_ ?_ ?_
                · exact Nat.zero_le _
                · exact .cons (rfl) (.cons (rfl) (.nil))
                · exact fun w hw => hw.pick [5, 6, 7] (by decide) rfl rfl
                · intro x hg0 _ hK20
                  have hlb := lst_bd hvp hg0
                  refine AK.seq (fun _ hK21 => ?_)
                  refine AK.region ?_
                  refine AK.val _ (Yl.lss rfl rfl) trivial rfl ?_
                  refine AK.nil ?_
                  refine AK.then_ (hK21 _ ?_)
                  refine AK.seq (fun _ hK22 => ?_)
                  refine AK.condD rfl (fun hc3 => ?_) (fun hc3 => ?_)
                  · refine AK.skip ?_
                    refine AK.then_ (hK22 _ ?_)
                    refine AK.seq (fun _ hK23 => ?_)
                    refine AK.block ?_
                    refine AK.seq (fun _ hK24 => ?_)
                    refine AK.region ?_
                    first | refine AK.val _ (Yl.idxN sl28 rfl rfl (by first | exact .arg ‹_› | exact .own 0 rfl | exact .own 1 rfl | exact .own 2 rfl | exact .own 3 rfl | exact .own 4 rfl | exact .own 5 rfl | exact .own 6 rfl | exact .own 7 rfl | exact .own 8 rfl | assumption | exact .big 2 _ rfl (matL_get hrl (by omega))) (by decide) (by omega)) trivial rfl ?_ | refine AK.val _ (Yl.idx sl28 rfl rfl (by first | exact .arg ‹_› | exact .own 0 rfl | exact .own 1 rfl | exact .own 2 rfl | exact .own 3 rfl | exact .own 4 rfl | exact .own 5 rfl | exact .own 6 rfl | exact .own 7 rfl | exact .own 8 rfl | assumption | exact .big 2 _ rfl (matL_get hrl (by omega))) (by decide) (by omega)) trivial rfl ?_
                    refine AK.val _ (Yl.loadV on22 rfl (by first | exact .arg ‹_› | exact .own 0 rfl | exact .own 1 rfl | exact .own 2 rfl | exact .own 3 rfl | exact .own 4 rfl | exact .own 5 rfl | exact .own 6 rfl | exact .own 7 rfl | exact .own 8 rfl | assumption | exact .big 2 _ rfl (matL_get hrl (by omega))) (by omega)) trivial rfl ?_
                    refine AK.val _ (Yl.assign rfl) trivial rfl ?_
                    refine AK.nil ?_
                    refine AK.then_ (hK24 _ ?_)
                    refine AK.seq (fun _ hK25 => ?_)
                    refine AK.region ?_
                    refine AK.val _ (Yl.assign rfl) trivial rfl ?_
                    refine AK.nil ?_
                    refine AK.then_ (hK25 _ ?_)
                    refine AK.block ?_
                    refine AK.loopS (X := Nat × Value) [3, 13, 74, 75, 76] (fun y => [(11, y.2), (14, .int .i64 (y.1 : Int))]) (fun y => [row y.2 42 2 (lstP ((classB xs).take x.1) ++ nbP ((classB xs).getD x.1 []) y.1).length (pcs (lstP ((classB xs).take x.1) ++ nbP ((classB xs).getD x.1 []) y.1)), row cv 22 1 (classB xs).length rs, bigA (matL 3 rs (classB xs))]) (fun y => 1 ≤ y.1 ∧ (y.1 ≤ ((classB xs).getD x.1 []).length ∨ y.1 = 1)) (fun y => ((classB xs).getD x.1 []).length - y.1) ((1, x.2)) ?_ ?_ ?_ ?_
                    · exact ⟨Nat.le_refl _, .inr rfl⟩
                    · exact .cons (rfl) (.cons (rfl) (.nil))
                    · exact fun w hw => by simpa [nbP] using hw
                    · intro y hg1 _ hK26
                      obtain ⟨hy1, hy2⟩ := hg1
                      have hca : x.1 < (classB xs).length := (by omega)
                      have hcll := cl_len hvp hca
                      refine AK.seq (fun _ hK27 => ?_)
                      refine AK.seq (fun _ hK28 => ?_)
                      refine AK.region ?_
                      refine AK.val _ (Yl.move rfl) trivial rfl ?_
                      refine AK.val _ (Yl.move rfl) trivial rfl ?_
                      refine AK.val _ (Yl.lenR sl22 rfl (by first | exact .arg ‹_› | exact .own 0 rfl | exact .own 1 rfl | exact .own 2 rfl | exact .own 3 rfl | exact .own 4 rfl | exact .own 5 rfl | exact .own 6 rfl | exact .own 7 rfl | exact .own 8 rfl | assumption | exact .big 2 _ rfl (matL_get hrl (by omega)))) trivial rfl ?_
                      refine AK.val _ (Yl.lss rfl rfl) trivial rfl ?_
                      refine AK.nil ?_
                      refine AK.then_ (hK28 _ ?_)
                      refine AK.condD rfl (fun hc4 => ?_) (fun hc4 => ?_)
                      · refine AK.skip ?_
                        refine AK.then_ (hK27 _ ?_)
                        refine AK.seq (fun _ hK29 => ?_)
                        refine AK.block ?_
                        refine AK.any mixed ?_
                        refine AnyK.first 0 (n := 13) (listed' := #[true, false, false, false, false, false, false, false, false, false, false, false, false, false]) _ rfl (by kernel_rfl) (by kernel_rfl) rfl (PY.move rfl) trivial rfl ?_
                        refine AnyK.first 1 (n := 12) (listed' := #[true, true, false, false, false, false, false, false, false, false, false, false, false, false]) _ rfl (by kernel_rfl) (by kernel_rfl) rfl (PY.move rfl) trivial rfl ?_
                        refine AnyK.first 2 (n := 11) (listed' := #[true, true, true, false, false, false, false, false, false, false, false, false, false, false]) _ rfl (by kernel_rfl) (by kernel_rfl) rfl (PY.move rfl) trivial rfl ?_
                        refine AnyK.first 3 (n := 10) (listed' := #[true, true, true, true, false, false, false, false, false, false, false, false, false, false]) _ rfl (by kernel_rfl) (by kernel_rfl) rfl (PY.sub rfl rfl (by omega)) trivial rfl ?_
                        refine AnyK.first 6 (n := 9) (listed' := #[true, true, true, true, false, false, true, false, false, false, false, false, false, false]) _ rfl (by kernel_rfl) (by kernel_rfl) rfl (PY.move rfl) trivial rfl ?_
                        refine AnyK.first 7 (n := 8) (listed' := #[true, true, true, true, false, false, true, true, false, false, false, false, false, false]) _ rfl (by kernel_rfl) (by kernel_rfl) rfl (PY.move rfl) trivial rfl ?_
                        refine AnyK.two (i := 4) (j := 8) (by kernel_rfl) ?_ ?_
                        · first | refine AnyK.val _ rfl rfl (Yl.idxN sl22 rfl rfl (by first | exact .arg ‹_› | exact .own 0 rfl | exact .own 1 rfl | exact .own 2 rfl | exact .own 3 rfl | exact .own 4 rfl | exact .own 5 rfl | exact .own 6 rfl | exact .own 7 rfl | exact .own 8 rfl | assumption | exact .big 2 _ rfl (matL_get hrl (by omega))) (by decide) (by omega)) trivial rfl ?_ | refine AnyK.val _ rfl rfl (Yl.idx sl22 rfl rfl (by first | exact .arg ‹_› | exact .own 0 rfl | exact .own 1 rfl | exact .own 2 rfl | exact .own 3 rfl | exact .own 4 rfl | exact .own 5 rfl | exact .own 6 rfl | exact .own 7 rfl | exact .own 8 rfl | assumption | exact .big 2 _ rfl (matL_get hrl (by omega))) (by decide) (by omega)) trivial rfl ?_
                          refine AnyK.two (i := 5) (j := 8) (by kernel_rfl) ?_ ?_
                          · refine AnyK.val _ rfl rfl (Yl.loadI on3 rfl (by first | exact .arg ‹_› | exact .own 0 rfl | exact .own 1 rfl | exact .own 2 rfl | exact .own 3 rfl | exact .own 4 rfl | exact .own 5 rfl | exact .own 6 rfl | exact .own 7 rfl | exact .own 8 rfl | assumption | exact .big 2 _ rfl (matL_get hrl (by omega))) (by omega)) trivial rfl ?_
                            refine AnyK.one (i := 8) (by kernel_rfl) ?_
                            first | refine AnyK.val _ rfl rfl (Yl.idxN sl22 rfl rfl (by first | exact .arg ‹_› | exact .own 0 rfl | exact .own 1 rfl | exact .own 2 rfl | exact .own 3 rfl | exact .own 4 rfl | exact .own 5 rfl | exact .own 6 rfl | exact .own 7 rfl | exact .own 8 rfl | assumption | exact .big 2 _ rfl (matL_get hrl (by omega))) (by decide) (by omega)) trivial rfl ?_ | refine AnyK.val _ rfl rfl (Yl.idx sl22 rfl rfl (by first | exact .arg ‹_› | exact .own 0 rfl | exact .own 1 rfl | exact .own 2 rfl | exact .own 3 rfl | exact .own 4 rfl | exact .own 5 rfl | exact .own 6 rfl | exact .own 7 rfl | exact .own 8 rfl | assumption | exact .big 2 _ rfl (matL_get hrl (by omega))) (by decide) (by omega)) trivial rfl ?_
                            refine AnyK.one (i := 9) (by kernel_rfl) ?_
                            refine AnyK.val _ rfl rfl (Yl.loadI on3 rfl (by first | exact .arg ‹_› | exact .own 0 rfl | exact .own 1 rfl | exact .own 2 rfl | exact .own 3 rfl | exact .own 4 rfl | exact .own 5 rfl | exact .own 6 rfl | exact .own 7 rfl | exact .own 8 rfl | assumption | exact .big 2 _ rfl (matL_get hrl (by omega))) (by omega)) trivial rfl ?_
                            refine AnyK.seq 10 rfl (by kernel_rfl) ?_
                            refine AK.val _ (Yl.build (parts := [(0, .tmp 91), (1, .tmp 95)]) (cs := #[.int .i64 (((classB xs).getD x.1 []).getD ((y.1 : Int) - 1).toNat 0), .int .i64 (((classB xs).getD x.1 []).getD y.1 0)]) rfl (by kernel_rfl)) trivial rfl ?_
                            refine AK.append1 0 rfl sl31 el42 rfl (by decide) rfl (by intro k hk; cases hk; rfl) rfl (by intro u hu; simp [Value.cells] at hu; rcases hu with rfl | rfl <;> rfl) (by rw [List.length_append, nbP_length]; omega) (by rw [List.length_append, nbP_length]; omega) (by decide) rfl rfl (fun av _ hsl => ?_)
                            refine AK.val _ (Yl.assign rfl) trivial rfl ?_
                            refine AK.nil (AK.fromQn ?_)
                            refine AK.block_normal ?_
                            refine AK.then_ (hK29 _ ?_)
                            refine AK.region ?_
                            refine AK.val _ (Yl.move rfl) trivial rfl ?_
                            refine AK.val _ (Yl.add rfl rfl (by omega)) trivial rfl ?_
                            refine AK.val _ (Yl.assign rfl) trivial rfl ?_
                            refine AK.nil ?_
                            refine AK.then_ (hK26 _ _ ((y.1 + 1, av)) ⟨by dsimp only; omega, .inl (by dsimp only; omega)⟩ (by dsimp only; omega) (.cons (rfl) (.cons (rfl) (.cons rfl (.cons rfl (.cons rfl (.cons rfl (.cons rfl (.nil)))))))) (fun w hw => by dsimp only; rw [nbP_succ _ hy1, ← List.append_assoc, pcs_append, List.length_append]; have e : ((y.1 : Int) - 1).toNat = y.1 - 1 := (by omega); rw [e] at hw; exact hw))
                          · first | refine AnyK.val _ rfl rfl (Yl.idxN sl22 rfl rfl (by first | exact .arg ‹_› | exact .own 0 rfl | exact .own 1 rfl | exact .own 2 rfl | exact .own 3 rfl | exact .own 4 rfl | exact .own 5 rfl | exact .own 6 rfl | exact .own 7 rfl | exact .own 8 rfl | assumption | exact .big 2 _ rfl (matL_get hrl (by omega))) (by decide) (by omega)) trivial rfl ?_ | refine AnyK.val _ rfl rfl (Yl.idx sl22 rfl rfl (by first | exact .arg ‹_› | exact .own 0 rfl | exact .own 1 rfl | exact .own 2 rfl | exact .own 3 rfl | exact .own 4 rfl | exact .own 5 rfl | exact .own 6 rfl | exact .own 7 rfl | exact .own 8 rfl | assumption | exact .big 2 _ rfl (matL_get hrl (by omega))) (by decide) (by omega)) trivial rfl ?_
                            refine AnyK.two (i := 5) (j := 9) (by kernel_rfl) ?_ ?_
                            · refine AnyK.val _ rfl rfl (Yl.loadI on3 rfl (by first | exact .arg ‹_› | exact .own 0 rfl | exact .own 1 rfl | exact .own 2 rfl | exact .own 3 rfl | exact .own 4 rfl | exact .own 5 rfl | exact .own 6 rfl | exact .own 7 rfl | exact .own 8 rfl | assumption | exact .big 2 _ rfl (matL_get hrl (by omega))) (by omega)) trivial rfl ?_
                              refine AnyK.one (i := 9) (by kernel_rfl) ?_
                              refine AnyK.val _ rfl rfl (Yl.loadI on3 rfl (by first | exact .arg ‹_› | exact .own 0 rfl | exact .own 1 rfl | exact .own 2 rfl | exact .own 3 rfl | exact .own 4 rfl | exact .own 5 rfl | exact .own 6 rfl | exact .own 7 rfl | exact .own 8 rfl | assumption | exact .big 2 _ rfl (matL_get hrl (by omega))) (by omega)) trivial rfl ?_
                              refine AnyK.seq 10 rfl (by kernel_rfl) ?_
                              refine AK.val _ (Yl.build (parts := [(0, .tmp 91), (1, .tmp 95)]) (cs := #[.int .i64 (((classB xs).getD x.1 []).getD ((y.1 : Int) - 1).toNat 0), .int .i64 (((classB xs).getD x.1 []).getD y.1 0)]) rfl (by kernel_rfl)) trivial rfl ?_
                              refine AK.append1 0 rfl sl31 el42 rfl (by decide) rfl (by intro k hk; cases hk; rfl) rfl (by intro u hu; simp [Value.cells] at hu; rcases hu with rfl | rfl <;> rfl) (by rw [List.length_append, nbP_length]; omega) (by rw [List.length_append, nbP_length]; omega) (by decide) rfl rfl (fun av _ hsl => ?_)
                              refine AK.val _ (Yl.assign rfl) trivial rfl ?_
                              refine AK.nil (AK.fromQn ?_)
                              refine AK.block_normal ?_
                              refine AK.then_ (hK29 _ ?_)
                              refine AK.region ?_
                              refine AK.val _ (Yl.move rfl) trivial rfl ?_
                              refine AK.val _ (Yl.add rfl rfl (by omega)) trivial rfl ?_
                              refine AK.val _ (Yl.assign rfl) trivial rfl ?_
                              refine AK.nil ?_
                              refine AK.then_ (hK26 _ _ ((y.1 + 1, av)) ⟨by dsimp only; omega, .inl (by dsimp only; omega)⟩ (by dsimp only; omega) (.cons (rfl) (.cons (rfl) (.cons rfl (.cons rfl (.cons rfl (.cons rfl (.cons rfl (.nil)))))))) (fun w hw => by dsimp only; rw [nbP_succ _ hy1, ← List.append_assoc, pcs_append, List.length_append]; have e : ((y.1 : Int) - 1).toNat = y.1 - 1 := (by omega); rw [e] at hw; exact hw))
                            · refine AnyK.val _ rfl rfl (Yl.loadI on3 rfl (by first | exact .arg ‹_› | exact .own 0 rfl | exact .own 1 rfl | exact .own 2 rfl | exact .own 3 rfl | exact .own 4 rfl | exact .own 5 rfl | exact .own 6 rfl | exact .own 7 rfl | exact .own 8 rfl | assumption | exact .big 2 _ rfl (matL_get hrl (by omega))) (by omega)) trivial rfl ?_
                              refine AnyK.one (i := 5) (by kernel_rfl) ?_
                              refine AnyK.val _ rfl rfl (Yl.loadI on3 rfl (by first | exact .arg ‹_› | exact .own 0 rfl | exact .own 1 rfl | exact .own 2 rfl | exact .own 3 rfl | exact .own 4 rfl | exact .own 5 rfl | exact .own 6 rfl | exact .own 7 rfl | exact .own 8 rfl | assumption | exact .big 2 _ rfl (matL_get hrl (by omega))) (by omega)) trivial rfl ?_
                              refine AnyK.seq 10 rfl (by kernel_rfl) ?_
                              refine AK.val _ (Yl.build (parts := [(0, .tmp 91), (1, .tmp 95)]) (cs := #[.int .i64 (((classB xs).getD x.1 []).getD ((y.1 : Int) - 1).toNat 0), .int .i64 (((classB xs).getD x.1 []).getD y.1 0)]) rfl (by kernel_rfl)) trivial rfl ?_
                              refine AK.append1 0 rfl sl31 el42 rfl (by decide) rfl (by intro k hk; cases hk; rfl) rfl (by intro u hu; simp [Value.cells] at hu; rcases hu with rfl | rfl <;> rfl) (by rw [List.length_append, nbP_length]; omega) (by rw [List.length_append, nbP_length]; omega) (by decide) rfl rfl (fun av _ hsl => ?_)
                              refine AK.val _ (Yl.assign rfl) trivial rfl ?_
                              refine AK.nil (AK.fromQn ?_)
                              refine AK.block_normal ?_
                              refine AK.then_ (hK29 _ ?_)
                              refine AK.region ?_
                              refine AK.val _ (Yl.move rfl) trivial rfl ?_
                              refine AK.val _ (Yl.add rfl rfl (by omega)) trivial rfl ?_
                              refine AK.val _ (Yl.assign rfl) trivial rfl ?_
                              refine AK.nil ?_
                              refine AK.then_ (hK26 _ _ ((y.1 + 1, av)) ⟨by dsimp only; omega, .inl (by dsimp only; omega)⟩ (by dsimp only; omega) (.cons (rfl) (.cons (rfl) (.cons rfl (.cons rfl (.cons rfl (.cons rfl (.cons rfl (.nil)))))))) (fun w hw => by dsimp only; rw [nbP_succ _ hy1, ← List.append_assoc, pcs_append, List.length_append]; have e : ((y.1 : Int) - 1).toNat = y.1 - 1 := (by omega); rw [e] at hw; exact hw))
                        · first | refine AnyK.val _ rfl rfl (Yl.idxN sl22 rfl rfl (by first | exact .arg ‹_› | exact .own 0 rfl | exact .own 1 rfl | exact .own 2 rfl | exact .own 3 rfl | exact .own 4 rfl | exact .own 5 rfl | exact .own 6 rfl | exact .own 7 rfl | exact .own 8 rfl | assumption | exact .big 2 _ rfl (matL_get hrl (by omega))) (by decide) (by omega)) trivial rfl ?_ | refine AnyK.val _ rfl rfl (Yl.idx sl22 rfl rfl (by first | exact .arg ‹_› | exact .own 0 rfl | exact .own 1 rfl | exact .own 2 rfl | exact .own 3 rfl | exact .own 4 rfl | exact .own 5 rfl | exact .own 6 rfl | exact .own 7 rfl | exact .own 8 rfl | assumption | exact .big 2 _ rfl (matL_get hrl (by omega))) (by decide) (by omega)) trivial rfl ?_
                          refine AnyK.two (i := 4) (j := 9) (by kernel_rfl) ?_ ?_
                          · first | refine AnyK.val _ rfl rfl (Yl.idxN sl22 rfl rfl (by first | exact .arg ‹_› | exact .own 0 rfl | exact .own 1 rfl | exact .own 2 rfl | exact .own 3 rfl | exact .own 4 rfl | exact .own 5 rfl | exact .own 6 rfl | exact .own 7 rfl | exact .own 8 rfl | assumption | exact .big 2 _ rfl (matL_get hrl (by omega))) (by decide) (by omega)) trivial rfl ?_ | refine AnyK.val _ rfl rfl (Yl.idx sl22 rfl rfl (by first | exact .arg ‹_› | exact .own 0 rfl | exact .own 1 rfl | exact .own 2 rfl | exact .own 3 rfl | exact .own 4 rfl | exact .own 5 rfl | exact .own 6 rfl | exact .own 7 rfl | exact .own 8 rfl | assumption | exact .big 2 _ rfl (matL_get hrl (by omega))) (by decide) (by omega)) trivial rfl ?_
                            refine AnyK.two (i := 5) (j := 9) (by kernel_rfl) ?_ ?_
                            · refine AnyK.val _ rfl rfl (Yl.loadI on3 rfl (by first | exact .arg ‹_› | exact .own 0 rfl | exact .own 1 rfl | exact .own 2 rfl | exact .own 3 rfl | exact .own 4 rfl | exact .own 5 rfl | exact .own 6 rfl | exact .own 7 rfl | exact .own 8 rfl | assumption | exact .big 2 _ rfl (matL_get hrl (by omega))) (by omega)) trivial rfl ?_
                              refine AnyK.one (i := 9) (by kernel_rfl) ?_
                              refine AnyK.val _ rfl rfl (Yl.loadI on3 rfl (by first | exact .arg ‹_› | exact .own 0 rfl | exact .own 1 rfl | exact .own 2 rfl | exact .own 3 rfl | exact .own 4 rfl | exact .own 5 rfl | exact .own 6 rfl | exact .own 7 rfl | exact .own 8 rfl | assumption | exact .big 2 _ rfl (matL_get hrl (by omega))) (by omega)) trivial rfl ?_
                              refine AnyK.seq 10 rfl (by kernel_rfl) ?_
                              refine AK.val _ (Yl.build (parts := [(0, .tmp 91), (1, .tmp 95)]) (cs := #[.int .i64 (((classB xs).getD x.1 []).getD ((y.1 : Int) - 1).toNat 0), .int .i64 (((classB xs).getD x.1 []).getD y.1 0)]) rfl (by kernel_rfl)) trivial rfl ?_
                              refine AK.append1 0 rfl sl31 el42 rfl (by decide) rfl (by intro k hk; cases hk; rfl) rfl (by intro u hu; simp [Value.cells] at hu; rcases hu with rfl | rfl <;> rfl) (by rw [List.length_append, nbP_length]; omega) (by rw [List.length_append, nbP_length]; omega) (by decide) rfl rfl (fun av _ hsl => ?_)
                              refine AK.val _ (Yl.assign rfl) trivial rfl ?_
                              refine AK.nil (AK.fromQn ?_)
                              refine AK.block_normal ?_
                              refine AK.then_ (hK29 _ ?_)
                              refine AK.region ?_
                              refine AK.val _ (Yl.move rfl) trivial rfl ?_
                              refine AK.val _ (Yl.add rfl rfl (by omega)) trivial rfl ?_
                              refine AK.val _ (Yl.assign rfl) trivial rfl ?_
                              refine AK.nil ?_
                              refine AK.then_ (hK26 _ _ ((y.1 + 1, av)) ⟨by dsimp only; omega, .inl (by dsimp only; omega)⟩ (by dsimp only; omega) (.cons (rfl) (.cons (rfl) (.cons rfl (.cons rfl (.cons rfl (.cons rfl (.cons rfl (.nil)))))))) (fun w hw => by dsimp only; rw [nbP_succ _ hy1, ← List.append_assoc, pcs_append, List.length_append]; have e : ((y.1 : Int) - 1).toNat = y.1 - 1 := (by omega); rw [e] at hw; exact hw))
                            · refine AnyK.val _ rfl rfl (Yl.loadI on3 rfl (by first | exact .arg ‹_› | exact .own 0 rfl | exact .own 1 rfl | exact .own 2 rfl | exact .own 3 rfl | exact .own 4 rfl | exact .own 5 rfl | exact .own 6 rfl | exact .own 7 rfl | exact .own 8 rfl | assumption | exact .big 2 _ rfl (matL_get hrl (by omega))) (by omega)) trivial rfl ?_
                              refine AnyK.one (i := 5) (by kernel_rfl) ?_
                              refine AnyK.val _ rfl rfl (Yl.loadI on3 rfl (by first | exact .arg ‹_› | exact .own 0 rfl | exact .own 1 rfl | exact .own 2 rfl | exact .own 3 rfl | exact .own 4 rfl | exact .own 5 rfl | exact .own 6 rfl | exact .own 7 rfl | exact .own 8 rfl | assumption | exact .big 2 _ rfl (matL_get hrl (by omega))) (by omega)) trivial rfl ?_
                              refine AnyK.seq 10 rfl (by kernel_rfl) ?_
                              refine AK.val _ (Yl.build (parts := [(0, .tmp 91), (1, .tmp 95)]) (cs := #[.int .i64 (((classB xs).getD x.1 []).getD ((y.1 : Int) - 1).toNat 0), .int .i64 (((classB xs).getD x.1 []).getD y.1 0)]) rfl (by kernel_rfl)) trivial rfl ?_
                              refine AK.append1 0 rfl sl31 el42 rfl (by decide) rfl (by intro k hk; cases hk; rfl) rfl (by intro u hu; simp [Value.cells] at hu; rcases hu with rfl | rfl <;> rfl) (by rw [List.length_append, nbP_length]; omega) (by rw [List.length_append, nbP_length]; omega) (by decide) rfl rfl (fun av _ hsl => ?_)
                              refine AK.val _ (Yl.assign rfl) trivial rfl ?_
                              refine AK.nil (AK.fromQn ?_)
                              refine AK.block_normal ?_
                              refine AK.then_ (hK29 _ ?_)
                              refine AK.region ?_
                              refine AK.val _ (Yl.move rfl) trivial rfl ?_
                              refine AK.val _ (Yl.add rfl rfl (by omega)) trivial rfl ?_
                              refine AK.val _ (Yl.assign rfl) trivial rfl ?_
                              refine AK.nil ?_
                              refine AK.then_ (hK26 _ _ ((y.1 + 1, av)) ⟨by dsimp only; omega, .inl (by dsimp only; omega)⟩ (by dsimp only; omega) (.cons (rfl) (.cons (rfl) (.cons rfl (.cons rfl (.cons rfl (.cons rfl (.cons rfl (.nil)))))))) (fun w hw => by dsimp only; rw [nbP_succ _ hy1, ← List.append_assoc, pcs_append, List.length_append]; have e : ((y.1 : Int) - 1).toNat = y.1 - 1 := (by omega); rw [e] at hw; exact hw))
                          · refine AnyK.val _ rfl rfl (Yl.loadI on3 rfl (by first | exact .arg ‹_› | exact .own 0 rfl | exact .own 1 rfl | exact .own 2 rfl | exact .own 3 rfl | exact .own 4 rfl | exact .own 5 rfl | exact .own 6 rfl | exact .own 7 rfl | exact .own 8 rfl | assumption | exact .big 2 _ rfl (matL_get hrl (by omega))) (by omega)) trivial rfl ?_
                            refine AnyK.one (i := 4) (by kernel_rfl) ?_
                            first | refine AnyK.val _ rfl rfl (Yl.idxN sl22 rfl rfl (by first | exact .arg ‹_› | exact .own 0 rfl | exact .own 1 rfl | exact .own 2 rfl | exact .own 3 rfl | exact .own 4 rfl | exact .own 5 rfl | exact .own 6 rfl | exact .own 7 rfl | exact .own 8 rfl | assumption | exact .big 2 _ rfl (matL_get hrl (by omega))) (by decide) (by omega)) trivial rfl ?_ | refine AnyK.val _ rfl rfl (Yl.idx sl22 rfl rfl (by first | exact .arg ‹_› | exact .own 0 rfl | exact .own 1 rfl | exact .own 2 rfl | exact .own 3 rfl | exact .own 4 rfl | exact .own 5 rfl | exact .own 6 rfl | exact .own 7 rfl | exact .own 8 rfl | assumption | exact .big 2 _ rfl (matL_get hrl (by omega))) (by decide) (by omega)) trivial rfl ?_
                            refine AnyK.one (i := 5) (by kernel_rfl) ?_
                            refine AnyK.val _ rfl rfl (Yl.loadI on3 rfl (by first | exact .arg ‹_› | exact .own 0 rfl | exact .own 1 rfl | exact .own 2 rfl | exact .own 3 rfl | exact .own 4 rfl | exact .own 5 rfl | exact .own 6 rfl | exact .own 7 rfl | exact .own 8 rfl | assumption | exact .big 2 _ rfl (matL_get hrl (by omega))) (by omega)) trivial rfl ?_
                            refine AnyK.seq 10 rfl (by kernel_rfl) ?_
                            refine AK.val _ (Yl.build (parts := [(0, .tmp 91), (1, .tmp 95)]) (cs := #[.int .i64 (((classB xs).getD x.1 []).getD ((y.1 : Int) - 1).toNat 0), .int .i64 (((classB xs).getD x.1 []).getD y.1 0)]) rfl (by kernel_rfl)) trivial rfl ?_
                            refine AK.append1 0 rfl sl31 el42 rfl (by decide) rfl (by intro k hk; cases hk; rfl) rfl (by intro u hu; simp [Value.cells] at hu; rcases hu with rfl | rfl <;> rfl) (by rw [List.length_append, nbP_length]; omega) (by rw [List.length_append, nbP_length]; omega) (by decide) rfl rfl (fun av _ hsl => ?_)
                            refine AK.val _ (Yl.assign rfl) trivial rfl ?_
                            refine AK.nil (AK.fromQn ?_)
                            refine AK.block_normal ?_
                            refine AK.then_ (hK29 _ ?_)
                            refine AK.region ?_
                            refine AK.val _ (Yl.move rfl) trivial rfl ?_
                            refine AK.val _ (Yl.add rfl rfl (by omega)) trivial rfl ?_
                            refine AK.val _ (Yl.assign rfl) trivial rfl ?_
                            refine AK.nil ?_
                            refine AK.then_ (hK26 _ _ ((y.1 + 1, av)) ⟨by dsimp only; omega, .inl (by dsimp only; omega)⟩ (by dsimp only; omega) (.cons (rfl) (.cons (rfl) (.cons rfl (.cons rfl (.cons rfl (.cons rfl (.cons rfl (.nil)))))))) (fun w hw => by dsimp only; rw [nbP_succ _ hy1, ← List.append_assoc, pcs_append, List.length_append]; have e : ((y.1 : Int) - 1).toNat = y.1 - 1 := (by omega); rw [e] at hw; exact hw))
                      · refine AK.exit ?_
                        refine AK.then_exit ?_
                        refine AK.then_exit ?_
                        refine AK.block_exit ?_
                        refine AK.block_normal ?_
                        refine AK.then_ (hK23 _ ?_)
                        refine AK.region ?_
                        refine AK.val _ (Yl.add rfl rfl (by omega)) trivial rfl ?_
                        refine AK.val _ (Yl.move rfl) trivial rfl ?_
                        refine AK.nil ?_
                        refine AK.then_ (hK20 _ _ ((x.1 + 1, y.2)) (by dsimp only; omega) (by dsimp only; omega) (.cons (rfl) (.cons (rfl) (.cons rfl (.cons rfl (.cons rfl (.nil)))))) (fun w hw => by dsimp only; rw [take_snocD [] (classB xs) x.1 (by omega), lstP_snoc, ← nbP_end (by omega) hy2]; exact hw))
                  · refine AK.exit ?_
                    refine AK.then_exit ?_
                    refine AK.then_exit ?_
                    refine AK.block_exit ?_
                    refine AK.then_ (hK18 _ ?_)
                    refine AK.seq (fun _ hK30 => ?_)
                    refine AK.region ?_
                    refine AK.val _ (Yl.move rfl) trivial rfl ?_
                    refine AK.val _ (Yl.lenR sl22 rfl (by first | exact .arg ‹_› | exact .own 0 rfl | exact .own 1 rfl | exact .own 2 rfl | exact .own 3 rfl | exact .own 4 rfl | exact .own 5 rfl | exact .own 6 rfl | exact .own 7 rfl | exact .own 8 rfl | assumption | exact .big 2 _ rfl (matL_get hrl (by omega)))) trivial rfl ?_
                    refine AK.val _ (Yl.move rfl) trivial rfl ?_
                    refine AK.call co26 rfl (fun w hw => s_from w (xs.length : Int) x.2 (lstP (classB xs)) (rdp_ownE 0 hw rfl (by rw [show x.1 = (classB xs).length from by omega, List.take_length]) (by rw [show x.1 = (classB xs).length from by omega, List.take_length]))) trivial rfl ?_
                    rintro f4 o rfl
                    refine AK.val _ (Yl.move rfl) trivial rfl ?_
                    refine AK.call co16 rfl (fun w hw => s_same w f4 u (fromB (xs.length : Int) (lstP (classB xs))) xs (RdI.own 3 hw rfl) (RdI.at hu0 hw) (by rw [fromB_lst hvp]; omega)) trivial rfl ?_
                    rintro r o ⟨rfl, rfl⟩
                    refine AK.val _ (Yl.move rfl) trivial rfl ?_
                    refine AK.knownT (g := 106) rfl (decide_eq_true (fromB_lst hvp)) (fun hg_18_6 => ?_)
                    refine AK.call co20 rfl (fun w hw => s_awake w) ⟨_, rfl, congrArg (fun b => some (Value.bool b)) hg_18_6⟩ rfl ?_
                    rintro r o ⟨rfl, rfl⟩
                    refine AK.val _ (Yl.pickT rfl (hg_18_6) rfl) trivial rfl ?_
                    refine AK.val _ (Yl.assign rfl) trivial rfl ?_
                    refine AK.nil ?_
                    refine AK.then_ (hK30 _ ?_)
                    refine AK.ret ?_
                    refine AK.ret1 rfl rfl (fun w hw => ⟨_, _, ?_, rfl, Ret.of (hw.pick [] (by decide) rfl rfl)⟩)
                    exact ⟨rfl, rfl⟩

end Go.Proofs.Ytkdidaiedibhaaa
