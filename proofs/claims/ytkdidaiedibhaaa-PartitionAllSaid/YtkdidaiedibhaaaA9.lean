import Derived.Test.YtkdidaiedibhaaaA8
set_option linter.unusedVariables false
set_option linter.unusedSimpArgs false
namespace Go.Proofs.Ytkdidaiedibhaaa
open Go.Sx Go.RowKit
set_option maxHeartbeats 1600000 in
set_option maxRecDepth 100000 in
theorem s_refall (w : World) (n : Int) (hn : 0 ≤ n ∧ n ≤ 7) : CallS Try.prog 30 [.int .i64 n] w (fun r o => ∃ rs, rs.length = (allB n.toNat).length ∧ o = [row r 22 1 (allB n.toNat).length rs, bigA (matL 3 rs (allB n.toNat))]) := by
  refine spec_of Try.func30 rfl (Nat.le_of_ble_eq_true rfl) ?_
  refine AK.seq (fun _ hK1 => ?_)
  refine AK.region ?_
  refine AK.val _ (Yl.assign rfl) trivial rfl ?_
  refine AK.nil ?_
  refine AK.then_ (hK1 _ ?_)
  refine AK.seq (fun _ hK2 => ?_)
  refine AK.region ?_
  refine AK.lit (xs := []) sl22 el3 rfl rfl rfl (by simp [Value.cells]) (by decide) (by decide) trivial rfl (fun lv => ?_)
  refine AK.fact (fun w hw => hw.shape 0 rfl) (fun hsl0 => ?_)
  refine AK.lit (xs := [.tmp 9]) sl28 el22 rfl rfl rfl (by intro a ha; simp at ha; subst ha; rw [hsl0.cells]; rfl) (by decide) (by decide) trivial rfl (fun lv2 => ?_)
  refine AK.val _ (Yl.assign rfl) trivial rfl ?_
  refine AK.nil ?_
  refine AK.then_ (hK2 _ ?_)
  refine AK.seq (fun _ hK3 => ?_)
  refine AK.seq (fun _ hK4 => ?_)
  refine AK.region ?_
  refine AK.val _ (Yl.assign rfl) trivial rfl ?_
  refine AK.nil ?_
  refine AK.then_ (hK4 _ ?_)
  refine AK.block ?_
  refine AK.loopS (X := Nat × Value × List Value) [0] (fun x => [(3, x.2.1), (4, .int .i64 (x.1 : Int))]) (fun x => [row x.2.1 22 1 (allB x.1).length x.2.2, bigA (matL 3 x.2.2 (allB x.1))]) (fun x => x.1 ≤ n.toNat ∧ x.2.2.length = (allB x.1).length) (fun x => n.toNat - x.1) ((0, lv2, [lv])) ?_ ?_ ?_ ?_
  · exact ⟨Nat.zero_le _, rfl⟩
  · exact .cons (rfl) (.cons (rfl) (.nil))
  · exact fun w hw => by have e2 : [lv].flatMap (·.cells.toList) = [lv] := (by simp [hsl0.cells]); rw [e2] at hw; exact HW.absorb (own := [row lv2 22 1 1 [lv], bigA (matL 3 [] [])]) 1 rfl ((HW.ghostMat 3 0 hw).pick [1, 2, 0] (by decide) rfl rfl)
  · intro x hg0 _ hK5
    obtain ⟨hx1, hrl⟩ := hg0
    have hal := fun h => allB_len7 x.1 h
    refine AK.seq (fun _ hK6 => ?_)
    refine AK.seq (fun _ hK7 => ?_)
    refine AK.region ?_
    refine AK.val _ (Yl.move rfl) trivial rfl ?_
    refine AK.val _ (Yl.move rfl) trivial rfl ?_
    refine AK.val _ (Yl.lss rfl rfl) trivial rfl ?_
    refine AK.nil ?_
    refine AK.then_ (hK7 _ ?_)
    refine AK.condD rfl (fun hc0 => ?_) (fun hc0 => ?_)
    · refine AK.skip ?_
      refine AK.then_ (hK6 _ ?_)
      refine AK.seq (fun _ hK8 => ?_)
      refine AK.block ?_
      refine AK.seq (fun _ hK9 => ?_)
      refine AK.region ?_
      refine AK.ghost 22 1 ?_
      refine AK.ghostM 3 ?_
      refine AK.val _ (Yl.assign rfl) trivial rfl ?_
      refine AK.nil ?_
      refine AK.then_ (hK9 _ ?_)
      refine AK.seq (fun _ hK10 => ?_)
      refine AK.seq (fun _ hK11 => ?_)
      refine AK.region ?_
      refine AK.val _ (Yl.move rfl) trivial rfl ?_
      refine AK.val _ (Yl.lenR sl28 rfl (by first | exact .arg ‹_› | exact .own 0 rfl | exact .own 1 rfl | exact .own 2 rfl | exact .own 3 rfl | exact .own 4 rfl | exact .own 5 rfl | exact .own 6 rfl | exact .own 7 rfl | exact .own 8 rfl | assumption | exact .big 1 _ rfl (matL_get hrl (by omega)))) trivial rfl ?_
      refine AK.val _ (Yl.move rfl) trivial rfl ?_
      refine AK.nil ?_
      refine AK.then_ (hK11 _ ?_)
      refine AK.block ?_
      refine AK.loopS (X := Nat × Value × List Value) [0, 4, 16, 17] (fun y => [(5, y.2.1), (18, .int .i64 (y.1 : Int))]) (fun y => [row x.2.1 22 1 (allB x.1).length x.2.2, bigA (matL 3 x.2.2 (allB x.1)), row y.2.1 22 1 (stepP ((allB x.1).take y.1)).length y.2.2, bigA (matL 3 y.2.2 (stepP ((allB x.1).take y.1)))]) (fun y => y.1 ≤ (allB x.1).length ∧ y.2.2.length = (stepP ((allB x.1).take y.1)).length) (fun y => (allB x.1).length - y.1) ((0, .slice none 0 0, [])) ?_ ?_ ?_ ?_
      · exact ⟨Nat.zero_le _, rfl⟩
      · exact .cons (rfl) (.cons (rfl) (.nil))
      · exact fun w hw => hw
      · intro y hg1 _ hK12
        obtain ⟨hy1, hrly⟩ := hg1
        have hpt := part_len (k := x.1) (a := y.1) (by omega) hy1
        refine AK.seq (fun _ hK13 => ?_)
        refine AK.region ?_
        refine AK.val _ (Yl.lss rfl rfl) trivial rfl ?_
        refine AK.nil ?_
        refine AK.then_ (hK13 _ ?_)
        refine AK.seq (fun _ hK14 => ?_)
        refine AK.condD rfl (fun hc1 => ?_) (fun hc1 => ?_)
        · have hya : y.1 < (allB x.1).length := (by omega)
          obtain ⟨hc1, hc2, hcv⟩ := allB_cnt (k := x.1) hya (by omega)
          refine AK.skip ?_
          refine AK.then_ (hK14 _ ?_)
          refine AK.seq (fun _ hK15 => ?_)
          refine AK.block ?_
          refine AK.seq (fun _ hK16 => ?_)
          refine AK.region ?_
          first | refine AK.val _ (Yl.idxN sl28 rfl rfl (by first | exact .arg ‹_› | exact .own 0 rfl | exact .own 1 rfl | exact .own 2 rfl | exact .own 3 rfl | exact .own 4 rfl | exact .own 5 rfl | exact .own 6 rfl | exact .own 7 rfl | exact .own 8 rfl | assumption | exact .big 1 _ rfl (matL_get hrl (by omega))) (by decide) (by omega)) trivial rfl ?_ | refine AK.val _ (Yl.idx sl28 rfl rfl (by first | exact .arg ‹_› | exact .own 0 rfl | exact .own 1 rfl | exact .own 2 rfl | exact .own 3 rfl | exact .own 4 rfl | exact .own 5 rfl | exact .own 6 rfl | exact .own 7 rfl | exact .own 8 rfl | assumption | exact .big 1 _ rfl (matL_get hrl (by omega))) (by decide) (by omega)) trivial rfl ?_
          refine AK.val _ (Yl.loadV on22 rfl (by first | exact .arg ‹_› | exact .own 0 rfl | exact .own 1 rfl | exact .own 2 rfl | exact .own 3 rfl | exact .own 4 rfl | exact .own 5 rfl | exact .own 6 rfl | exact .own 7 rfl | exact .own 8 rfl | assumption | exact .big 1 _ rfl (matL_get hrl (by omega))) (by omega)) trivial rfl ?_
          refine AK.val _ (Yl.assign rfl) trivial rfl ?_
          refine AK.nil ?_
          refine AK.then_ (hK16 _ ?_)
          refine AK.seq (fun _ hK17 => ?_)
          refine AK.region ?_
          refine AK.val _ (Yl.assign rfl) trivial rfl ?_
          refine AK.nil ?_
          refine AK.then_ (hK17 _ ?_)
          refine AK.block ?_
          refine AK.loopS (X := Nat × Value × List Value) [0, 4, 7, 16, 17, 18] (fun z => [(5, z.2.1), (8, .int .i64 (z.1 : Int))]) (fun z => [row x.2.1 22 1 (allB x.1).length x.2.2, bigA (matL 3 x.2.2 (allB x.1)), row z.2.1 22 1 ((stepP ((allB x.1).take y.1)) ++ extL ((allB x.1).getD y.1 []) z.1).length z.2.2, bigA (matL 3 z.2.2 ((stepP ((allB x.1).take y.1)) ++ extL ((allB x.1).getD y.1 []) z.1))]) (fun z => z.1 ≤ (cntL ((allB x.1).getD y.1 [])).toNat + 1 ∧ z.2.2.length = ((stepP ((allB x.1).take y.1)) ++ extL ((allB x.1).getD y.1 []) z.1).length) (fun z => (cntL ((allB x.1).getD y.1 [])).toNat + 1 - z.1) ((0, y.2)) ?_ ?_ ?_ ?_
          · exact ⟨Nat.zero_le _, by simpa [extL] using hrly⟩
          · exact .cons (rfl) (.cons (rfl) (.nil))
          · exact fun w hw => by simpa [extL] using hw
          · intro z hg2 _ hK18
            obtain ⟨hz1, hrlz⟩ := hg2
            have hpl := (allB_ok hya).1
            refine AK.seq (fun _ hK19 => ?_)
            refine AK.seq (fun _ hK20 => ?_)
            refine AK.region ?_
            refine AK.val _ (Yl.move rfl) trivial rfl ?_
            refine AK.val _ (Yl.move rfl) trivial rfl ?_
            refine AK.call co23 rfl (fun w hw => s_refcount w (x.2.2.getD y.1 undef) ((allB x.1).getD y.1 []) (rdi_big 1 y.1 hw rfl hrl hya) hcv) trivial rfl ?_
            rintro r o ⟨rfl, rfl⟩
            refine AK.val _ (Yl.leq rfl rfl) trivial rfl ?_
            refine AK.nil ?_
            refine AK.then_ (hK20 _ ?_)
            refine AK.condD rfl (fun hc2 => ?_) (fun hc2 => ?_)
            · refine AK.skip ?_
              refine AK.then_ (hK19 _ ?_)
              refine AK.seq (fun _ hK21 => ?_)
              refine AK.block ?_
              refine AK.region ?_
              refine AK.val _ (Yl.move rfl) trivial rfl ?_
              refine AK.lit (xs := []) sl22 el3 rfl rfl rfl (by simp [Value.cells]) (by decide) (by decide) trivial rfl (fun l3 => ?_)
              refine AK.val _ (Yl.move rfl) trivial rfl ?_
              refine AK.appendS 4 rfl sl22 el3 rfl (by decide) rfl rfl rfl (.big 1 _ rfl (matL_get hrl hya)) (one_ints _) (by omega) (by omega) trivial rfl (fun a3 => ?_)
              refine AK.val _ (Yl.move rfl) trivial rfl ?_
              refine AK.append1 4 rfl sl22 el3 rfl (by decide) rfl (by intro k hk; cases hk; rfl) rfl (by intro u hu; simp [Value.cells] at hu; subst hu; rfl) (by omega) (by omega) (by decide) rfl rfl (fun a4 _ hs4 => ?_)
              refine AK.append1 2 rfl sl28 el22 rfl (by decide) rfl (by intro k hk; cases hk; rfl) (by rw [hs4.cells]; rfl) (by intro a ha; rw [hs4.cells] at ha; simp at ha; subst ha; exact hs4.one) (by rw [List.length_append, extL_length]; omega) (by rw [List.length_append, extL_length]; omega) (by decide) rfl rfl (fun av _ hsl => ?_)
              refine AK.val _ (Yl.assign rfl) trivial rfl ?_
              refine AK.nil ?_
              refine AK.block_normal ?_
              refine AK.then_ (hK21 _ ?_)
              refine AK.region ?_
              refine AK.val _ (Yl.move rfl) trivial rfl ?_
              refine AK.val _ (Yl.add rfl rfl (by omega)) trivial rfl ?_
              refine AK.val _ (Yl.assign rfl) trivial rfl ?_
              refine AK.nil ?_
              refine AK.then_ (hK18 _ _ ((z.1 + 1, av, z.2.2 ++ [a4])) ⟨by dsimp only; omega, by dsimp only; rw [extL_succ, ← List.append_assoc, List.length_append, List.length_append, hrlz]; rfl⟩ (by dsimp only; omega) (.cons (rfl) (.cons (rfl) (.cons rfl (.cons rfl (.cons rfl (.cons rfl (.cons rfl (.cons rfl (.nil))))))))) (fun w hw => by dsimp only; rw [extL_succ, ← List.append_assoc, matL_snoc hrlz, List.length_append]; exact HW.absorb (own := [row x.2.1 22 1 (allB x.1).length x.2.2, bigA (matL 3 x.2.2 (allB x.1)), row av 22 1 (((stepP ((allB x.1).take y.1)) ++ extL ((allB x.1).getD y.1 []) z.1).length + 1) (z.2.2 ++ [a4]), bigA (matL 3 z.2.2 ((stepP ((allB x.1).take y.1)) ++ extL ((allB x.1).getD y.1 []) z.1))]) (X := row a4 3 1 (((allB x.1).getD y.1 []) ++ [(z.1 : Int)]).length ((((allB x.1).getD y.1 []) ++ [(z.1 : Int)]).map (Value.int .i64))) 3 rfl (by rw [hs4.cells] at hw; rw [show (((allB x.1).getD y.1 []) ++ [(z.1 : Int)]).length = 0 + ((allB x.1).getD y.1 []).length + 1 from by rw [List.length_append]; simp, List.map_append]; exact hw)))
            · refine AK.exit ?_
              refine AK.then_exit ?_
              refine AK.then_exit ?_
              refine AK.block_exit ?_
              refine AK.block_normal ?_
              refine AK.then_ (hK15 _ ?_)
              refine AK.region ?_
              refine AK.val _ (Yl.add rfl rfl (by omega)) trivial rfl ?_
              refine AK.val _ (Yl.move rfl) trivial rfl ?_
              refine AK.nil ?_
              refine AK.then_ (hK12 _ _ ((y.1 + 1, z.2)) ⟨by dsimp only; omega, by dsimp only; rw [take_snocD [] (allB x.1) y.1 hya, stepP_snoc, hrlz, extA, show z.1 = (cntL ((allB x.1).getD y.1 [])).toNat + 1 from by omega]⟩ (by dsimp only; omega) (.cons (rfl) (.cons (rfl) (.cons rfl (.cons rfl (.cons rfl (.cons rfl (.nil))))))) (fun w hw => by dsimp only; rw [take_snocD [] (allB x.1) y.1 hya, stepP_snoc, extA, show (cntL ((allB x.1).getD y.1 [])).toNat + 1 = z.1 from by omega]; exact hw))
        · refine AK.exit ?_
          refine AK.then_exit ?_
          refine AK.then_exit ?_
          refine AK.block_exit ?_
          refine AK.then_ (hK10 _ ?_)
          refine AK.region ?_
          refine AK.val _ (Yl.move rfl) trivial rfl ?_
          refine AK.val _ (Yl.assign rfl) trivial rfl ?_
          refine AK.nil ?_
          refine AK.block_normal ?_
          refine AK.then_ (hK8 _ ?_)
          refine AK.region ?_
          refine AK.val _ (Yl.move rfl) trivial rfl ?_
          refine AK.val _ (Yl.add rfl rfl (by omega)) trivial rfl ?_
          refine AK.val _ (Yl.assign rfl) trivial rfl ?_
          refine AK.nil ?_
          refine AK.then_ (hK5 _ _ ((x.1 + 1, y.2)) ⟨by dsimp only; omega, by dsimp only; rw [hrly, show y.1 = (allB x.1).length from by omega, List.take_length]; rfl⟩ (by dsimp only; omega) (.cons (rfl) (.cons (rfl) (.cons rfl (.nil)))) (fun w hw => by rw [show y.1 = (allB x.1).length from by omega, List.take_length] at hw; exact hw.pick [2, 3] (by decide) rfl rfl))
    · refine AK.exit ?_
      refine AK.then_exit ?_
      refine AK.then_exit ?_
      refine AK.block_exit ?_
      refine AK.then_ (hK3 _ ?_)
      refine AK.seq (fun _ hK22 => ?_)
      refine AK.region ?_
      refine AK.val _ (Yl.move rfl) trivial rfl ?_
      refine AK.val _ (Yl.assign rfl) trivial rfl ?_
      refine AK.nil ?_
      refine AK.then_ (hK22 _ ?_)
      refine AK.ret ?_
      refine AK.ret1 rfl rfl (fun w hw => ⟨_, _, ?_, rfl, Ret.of (hw.pick [0, 1] (by decide) rfl rfl)⟩)
      have e : n.toNat = x.1 := (by omega)
      rw [e]; exact ⟨x.2.2, hrl, rfl⟩

set_option maxRecDepth 100000 in
theorem l_all (w : World) (n : Int) : CallS Try.prog 6 [.int .i64 n] w (fun r o => r = .bool true ∧ o = []) := by
  refine spec_of Try.func6 rfl (Nat.le_of_ble_eq_true rfl) ?_
  refine AK.seq (fun _ hK1 => ?_)
  refine AK.region ?_
  refine AK.val _ (Yl.assign rfl) trivial rfl ?_
  refine AK.nil ?_
  refine AK.then_ (hK1 _ ?_)
  refine AK.seq (fun _ hK2 => ?_)
  refine AK.region ?_
  refine AK.val _ (Yl.move rfl) trivial rfl ?_
  refine AK.call co29 rfl (fun w hw => s_all w n) trivial rfl ?_
  rintro av o ⟨rs, hrl, rfl⟩
  refine AK.val _ (Yl.assign rfl) trivial rfl ?_
  refine AK.nil ?_
  refine AK.then_ (hK2 _ ?_)
  refine AK.seq (fun _ hK3 => ?_)
  refine AK.seq (fun _ hK4 => ?_)
  refine AK.region ?_
  refine AK.val _ (Yl.move rfl) trivial rfl ?_
  refine AK.val _ (Yl.lss rfl rfl) trivial rfl ?_
  refine AK.val _ (Yl.move rfl) trivial rfl ?_
  refine AK.splitB (g := 8) rfl (fun hg_2_2 => ?_) (fun hg_2_2 => ?_)
  · have hg_2_2' := hg_2_2
    try simp only [decide_eq_true_eq, decide_eq_false_iff_not, Bool.not_eq_true', Bool.not_eq_false', Bool.not_not, ne_eq, Decidable.not_not, Int.not_lt, Int.not_le, beq_iff_eq, bne_iff_ne, Bool.and_eq_true, Bool.or_eq_true, Bool.or_eq_false_iff, Bool.not_false, Bool.not_true, reduceCtorEq, not_true_eq_false, not_false_eq_true] at hg_2_2'
    refine AK.pass rfl rfl (hg_2_2) rfl ?_
    refine AK.pass rfl rfl (hg_2_2) rfl ?_
    refine AK.val _ (Yl.pickT rfl (hg_2_2) rfl) trivial rfl ?_
    refine AK.nil ?_
    refine AK.then_ (hK4 _ ?_)
    refine AK.cond_t rfl (rfl) ?_
    have e : allQ n = [] := (by unfold allQ; rw [if_neg (by omega)])
    refine AK.seq (fun _ hK5 => ?_)
    refine AK.region ?_
    refine AK.val _ (Yl.move rfl) trivial rfl ?_
    refine AK.val _ (Yl.lenR sl28 rfl (by first | exact .arg ‹_› | exact .own 0 rfl | exact .own 1 rfl | exact .own 2 rfl | exact .own 3 rfl | exact .own 4 rfl | exact .own 5 rfl | exact .own 6 rfl | exact .own 7 rfl | exact .own 8 rfl | assumption)) trivial rfl ?_
    refine AK.val _ (Yl.eql rfl rfl) trivial rfl ?_
    refine AK.val _ (Yl.move rfl) trivial rfl ?_
    refine AK.knownT (g := 15) rfl (decide_eq_true (by rw [e]; rfl)) (fun hg_3_3 => ?_)
    refine AK.call co20 rfl (fun w hw => s_awake w) ⟨_, rfl, congrArg (fun b => some (Value.bool b)) hg_3_3⟩ rfl ?_
    rintro r o ⟨rfl, rfl⟩
    refine AK.val _ (Yl.pickT rfl (hg_3_3) rfl) trivial rfl ?_
    refine AK.val _ (Yl.assign rfl) trivial rfl ?_
    refine AK.nil ?_
    refine AK.then_ (hK5 _ ?_)
    refine AK.ret ?_
    refine AK.then_ret ?_
    refine AK.ret1 rfl rfl (fun w hw => ⟨_, _, ?_, rfl, Ret.of (hw.pick [] (by decide) rfl rfl)⟩)
    exact ⟨rfl, rfl⟩
  · have hg_2_2' := hg_2_2
    try simp only [decide_eq_true_eq, decide_eq_false_iff_not, Bool.not_eq_true', Bool.not_eq_false', Bool.not_not, ne_eq, Decidable.not_not, Int.not_lt, Int.not_le, beq_iff_eq, bne_iff_ne, Bool.and_eq_true, Bool.or_eq_true, Bool.or_eq_false_iff, Bool.not_false, Bool.not_true, reduceCtorEq, not_true_eq_false, not_false_eq_true] at hg_2_2'
    refine AK.val _ (Yl.move rfl) ⟨_, rfl, congrArg (fun b => some (Value.bool b)) hg_2_2⟩ rfl ?_
    refine AK.val _ (Yl.gtr rfl rfl) ⟨_, rfl, congrArg (fun b => some (Value.bool b)) hg_2_2⟩ rfl ?_
    refine AK.val _ (Yl.pickF rfl (hg_2_2) rfl) trivial rfl ?_
    refine AK.nil ?_
    refine AK.then_ (hK4 _ ?_)
    refine AK.condD rfl (fun hc0 => ?_) (fun hc0 => ?_)
    · have e : allQ n = [] := (by unfold allQ; rw [if_neg (by omega)])
      refine AK.seq (fun _ hK6 => ?_)
      refine AK.region ?_
      refine AK.val _ (Yl.move rfl) trivial rfl ?_
      refine AK.val _ (Yl.lenR sl28 rfl (by first | exact .arg ‹_› | exact .own 0 rfl | exact .own 1 rfl | exact .own 2 rfl | exact .own 3 rfl | exact .own 4 rfl | exact .own 5 rfl | exact .own 6 rfl | exact .own 7 rfl | exact .own 8 rfl | assumption)) trivial rfl ?_
      refine AK.val _ (Yl.eql rfl rfl) trivial rfl ?_
      refine AK.val _ (Yl.move rfl) trivial rfl ?_
      refine AK.knownT (g := 15) rfl (decide_eq_true (by rw [e]; rfl)) (fun hg_3_3 => ?_)
      refine AK.call co20 rfl (fun w hw => s_awake w) ⟨_, rfl, congrArg (fun b => some (Value.bool b)) hg_3_3⟩ rfl ?_
      rintro r o ⟨rfl, rfl⟩
      refine AK.val _ (Yl.pickT rfl (hg_3_3) rfl) trivial rfl ?_
      refine AK.val _ (Yl.assign rfl) trivial rfl ?_
      refine AK.nil ?_
      refine AK.then_ (hK6 _ ?_)
      refine AK.ret ?_
      refine AK.then_ret ?_
      refine AK.ret1 rfl rfl (fun w hw => ⟨_, _, ?_, rfl, Ret.of (hw.pick [] (by decide) rfl rfl)⟩)
      exact ⟨rfl, rfl⟩
    · have e : allQ n = allB n.toNat := (by unfold allQ; rw [if_pos (by omega)])
      refine AK.skip ?_
      refine AK.then_ (hK3 _ ?_)
      refine AK.seq (fun _ hK7 => ?_)
      refine AK.region ?_
      refine AK.val _ (Yl.move rfl) trivial rfl ?_
      refine AK.val _ (Yl.move rfl) trivial rfl ?_
      refine AK.call co30 rfl (fun w hw => s_refall w n (by omega)) trivial rfl ?_
      rintro bv o ⟨rs2, hrl2, rfl⟩
      refine AK.call co24 rfl (fun w hw => s_samerows w av bv (allQ n) (allB n.toNat) (RdM.own 0 1 hw hrl rfl rfl) (RdM.own 2 3 hw hrl2 rfl rfl)) trivial rfl ?_
      rintro r o ⟨rfl, rfl⟩
      refine AK.val _ (Yl.move rfl) trivial rfl ?_
      refine AK.knownT (g := 22) rfl (decide_eq_true e) (fun hg_4_4 => ?_)
      refine AK.call co20 rfl (fun w hw => s_awake w) ⟨_, rfl, congrArg (fun b => some (Value.bool b)) hg_4_4⟩ rfl ?_
      rintro r o ⟨rfl, rfl⟩
      refine AK.val _ (Yl.pickT rfl (hg_4_4) rfl) trivial rfl ?_
      refine AK.val _ (Yl.assign rfl) trivial rfl ?_
      refine AK.nil ?_
      refine AK.then_ (hK7 _ ?_)
      refine AK.ret ?_
      refine AK.ret1 rfl rfl (fun w hw => ⟨_, _, ?_, rfl, Ret.of (hw.pick [] (by decide) rfl rfl)⟩)
      exact ⟨rfl, rfl⟩

end Go.Proofs.Ytkdidaiedibhaaa
