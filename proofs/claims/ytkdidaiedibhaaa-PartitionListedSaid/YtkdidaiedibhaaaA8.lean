import Derived.Test.YtkdidaiedibhaaaA5
import Derived.Test.YtkdidaiedibhaaaPz
import Derived.Test.YtkdidaiedibhaaaSr
set_option linter.unusedVariables false
set_option linter.unusedSimpArgs false
namespace Go.Proofs.Ytkdidaiedibhaaa
open Go.Sx Go.RowKit

theorem rdi_big {C : Cx} {own : List Asn} {w : World} {E : TypeId} {rs : List Value} {xss : List (List Int)} (j i : Nat) (hw : HW C own w) (hj : own[j]? = some (bigA (matL E rs xss))) (hl : rs.length = xss.length) (hi : i < xss.length) : RdI w (rs.getD i undef) (xss.getD i []) :=
  (RdS.big (C := C) j i hj (matL_get hl hi) w hw).mono fun b _ _ => ⟨id, rfl⟩

set_option maxHeartbeats 1600000 in
set_option maxRecDepth 100000 in
theorem s_all (w : World) (n : Int) : CallS Try.prog 29 [.int .i64 n] w (fun r o => ∃ rs, rs.length = (allQ n).length ∧ o = [row r 22 1 (allQ n).length rs, bigA (matL 3 rs (allQ n))]) := by
  refine spec_of Try.func29 rfl (Nat.le_of_ble_eq_true rfl) ?_
  refine AK.seq (fun _ hK1 => ?_)
  refine AK.region ?_
  refine AK.val _ (Yl.assign rfl) trivial rfl ?_
  refine AK.nil ?_
  refine AK.then_ (hK1 _ ?_)
  refine AK.seq (fun _ hK2 => ?_)
  refine AK.seq (fun _ hK3 => ?_)
  refine AK.region ?_
  refine AK.val _ (Yl.move rfl) trivial rfl ?_
  refine AK.val _ (Yl.lss rfl rfl) trivial rfl ?_
  refine AK.val _ (Yl.move rfl) trivial rfl ?_
  refine AK.splitB (g := 12) rfl (fun hg_1_2 => ?_) (fun hg_1_2 => ?_)
  · have hg_1_2' := hg_1_2
    try simp only [decide_eq_true_eq, decide_eq_false_iff_not, Bool.not_eq_true', Bool.not_eq_false', Bool.not_not, ne_eq, Decidable.not_not, Int.not_lt, Int.not_le, beq_iff_eq, bne_iff_ne, Bool.and_eq_true, Bool.or_eq_true, Bool.or_eq_false_iff, Bool.not_false, Bool.not_true, reduceCtorEq, not_true_eq_false, not_false_eq_true] at hg_1_2'
    refine AK.pass rfl rfl (hg_1_2) rfl ?_
    refine AK.pass rfl rfl (hg_1_2) rfl ?_
    refine AK.val _ (Yl.pickT rfl (hg_1_2) rfl) trivial rfl ?_
    refine AK.nil ?_
    refine AK.then_ (hK3 _ ?_)
    refine AK.cond_t rfl (rfl) ?_
    refine AK.seq (fun _ hK4 => ?_)
    refine AK.region ?_
    refine AK.val _ (Yl.assign rfl) trivial rfl ?_
    refine AK.nil ?_
    refine AK.then_ (hK4 _ ?_)
    refine AK.ret ?_
    refine AK.then_ret ?_
    refine AK.ghost 22 1 ?_
    refine AK.ghostM 3 ?_
    refine AK.ret1 rfl rfl (fun w hw => ⟨_, _, ?_, rfl, Ret.of (hw.pick [0, 1] (by decide) rfl rfl)⟩)
    have e : allQ n = [] := (by unfold allQ; rw [if_neg (by omega)])
    rw [e]; exact ⟨[], rfl, rfl⟩
  · have hg_1_2' := hg_1_2
    try simp only [decide_eq_true_eq, decide_eq_false_iff_not, Bool.not_eq_true', Bool.not_eq_false', Bool.not_not, ne_eq, Decidable.not_not, Int.not_lt, Int.not_le, beq_iff_eq, bne_iff_ne, Bool.and_eq_true, Bool.or_eq_true, Bool.or_eq_false_iff, Bool.not_false, Bool.not_true, reduceCtorEq, not_true_eq_false, not_false_eq_true] at hg_1_2'
    refine AK.val _ (Yl.move rfl) ⟨_, rfl, congrArg (fun b => some (Value.bool b)) hg_1_2⟩ rfl ?_
    refine AK.val _ (Yl.gtr rfl rfl) ⟨_, rfl, congrArg (fun b => some (Value.bool b)) hg_1_2⟩ rfl ?_
    refine AK.val _ (Yl.pickF rfl (hg_1_2) rfl) trivial rfl ?_
    refine AK.nil ?_
    refine AK.then_ (hK3 _ ?_)
    refine AK.condD rfl (fun hc0 => ?_) (fun hc0 => ?_)
    · refine AK.seq (fun _ hK5 => ?_)
      refine AK.region ?_
      refine AK.val _ (Yl.assign rfl) trivial rfl ?_
      refine AK.nil ?_
      refine AK.then_ (hK5 _ ?_)
      refine AK.ret ?_
      refine AK.then_ret ?_
      refine AK.ghost 22 1 ?_
      refine AK.ghostM 3 ?_
      refine AK.ret1 rfl rfl (fun w hw => ⟨_, _, ?_, rfl, Ret.of (hw.pick [0, 1] (by decide) rfl rfl)⟩)
      have e : allQ n = [] := (by unfold allQ; rw [if_neg (by omega)])
      rw [e]; exact ⟨[], rfl, rfl⟩
    · refine AK.skip ?_
      refine AK.then_ (hK2 _ ?_)
      refine AK.seq (fun _ hK6 => ?_)
      refine AK.region ?_
      refine AK.lit (xs := []) sl22 el3 rfl rfl rfl (by simp [Value.cells]) (by decide) (by decide) trivial rfl (fun lv => ?_)
      refine AK.fact (fun w hw => hw.shape 0 rfl) (fun hsl0 => ?_)
      refine AK.lit (xs := [.tmp 16]) sl28 el22 rfl rfl rfl (by intro a ha; simp at ha; subst ha; rw [hsl0.cells]; rfl) (by decide) (by decide) trivial rfl (fun lv2 => ?_)
      refine AK.val _ (Yl.assign rfl) trivial rfl ?_
      refine AK.nil ?_
      refine AK.then_ (hK6 _ ?_)
      refine AK.seq (fun _ hK7 => ?_)
      refine AK.seq (fun _ hK8 => ?_)
      refine AK.region ?_
      refine AK.val _ (Yl.move rfl) trivial rfl ?_
      refine AK.val _ (Yl.move rfl) trivial rfl ?_
      refine AK.nil ?_
      refine AK.then_ (hK8 _ ?_)
      refine AK.block ?_
      refine AK.loopS (X := Nat × Value × List Value) [18] (fun x => [(3, x.2.1), (19, .int .i64 (x.1 : Int))]) (fun x => [row x.2.1 22 1 (allB x.1).length x.2.2, bigA (matL 3 x.2.2 (allB x.1))]) (fun x => x.1 ≤ n.toNat ∧ x.2.2.length = (allB x.1).length) (fun x => n.toNat - x.1) ((0, lv2, [lv])) ?_ ?_ ?_ ?_
      · exact ⟨Nat.zero_le _, rfl⟩
      · exact .cons (rfl) (.cons (rfl) (.nil))
      · exact fun w hw => by have e2 : [lv].flatMap (·.cells.toList) = [lv] := (by simp [hsl0.cells]); rw [e2] at hw; exact HW.absorb (own := [row lv2 22 1 1 [lv], bigA (matL 3 [] [])]) 1 rfl ((HW.ghostMat 3 0 hw).pick [1, 2, 0] (by decide) rfl rfl)
      · intro x hg0 _ hK9
        obtain ⟨hx1, hrl⟩ := hg0
        have hal := fun h => allB_len7 x.1 h
        refine AK.seq (fun _ hK10 => ?_)
        refine AK.region ?_
        refine AK.val _ (Yl.lss rfl rfl) trivial rfl ?_
        refine AK.nil ?_
        refine AK.then_ (hK10 _ ?_)
        refine AK.seq (fun _ hK11 => ?_)
        refine AK.condD rfl (fun hc1 => ?_) (fun hc1 => ?_)
        · refine AK.skip ?_
          refine AK.then_ (hK11 _ ?_)
          refine AK.seq (fun _ hK12 => ?_)
          refine AK.block ?_
          refine AK.seq (fun _ hK13 => ?_)
          refine AK.region ?_
          refine AK.val _ (Yl.move rfl) trivial rfl ?_
          refine AK.val _ (Yl.assign rfl) trivial rfl ?_
          refine AK.nil ?_
          refine AK.then_ (hK13 _ ?_)
          refine AK.seq (fun _ hK14 => ?_)
          refine AK.region ?_
          refine AK.ghost 22 1 ?_
          refine AK.ghostM 3 ?_
          refine AK.val _ (Yl.assign rfl) trivial rfl ?_
          refine AK.nil ?_
          refine AK.then_ (hK14 _ ?_)
          refine AK.seq (fun _ hK15 => ?_)
          refine AK.seq (fun _ hK16 => ?_)
          refine AK.region ?_
          refine AK.val _ (Yl.move rfl) trivial rfl ?_
          refine AK.val _ (Yl.lenR sl28 rfl (by first | exact .arg ‹_› | exact .own 0 rfl | exact .own 1 rfl | exact .own 2 rfl | exact .own 3 rfl | exact .own 4 rfl | exact .own 5 rfl | exact .own 6 rfl | exact .own 7 rfl | exact .own 8 rfl | assumption | exact .big 1 _ rfl (matL_get hrl (by omega)))) trivial rfl ?_
          refine AK.val _ (Yl.move rfl) trivial rfl ?_
          refine AK.nil ?_
          refine AK.then_ (hK16 _ ?_)
          refine AK.block ?_
          refine AK.loopS (X := Nat × Value × List Value) [4, 18, 19, 22, 23] (fun y => [(5, y.2.1), (24, .int .i64 (y.1 : Int))]) (fun y => [row x.2.1 22 1 (allB x.1).length x.2.2, bigA (matL 3 x.2.2 (allB x.1)), row y.2.1 22 1 (stepP ((allB x.1).take y.1)).length y.2.2, bigA (matL 3 y.2.2 (stepP ((allB x.1).take y.1)))]) (fun y => y.1 ≤ (allB x.1).length ∧ y.2.2.length = (stepP ((allB x.1).take y.1)).length) (fun y => (allB x.1).length - y.1) ((0, .slice none 0 0, [])) ?_ ?_ ?_ ?_
          · exact ⟨Nat.zero_le _, rfl⟩
          · exact .cons (rfl) (.cons (rfl) (.nil))
          · exact fun w hw => hw
          · intro y hg1 _ hK17
            obtain ⟨hy1, hrly⟩ := hg1
            have hpt := part_len (k := x.1) (a := y.1) (by omega) hy1
            refine AK.seq (fun _ hK18 => ?_)
            refine AK.region ?_
            refine AK.val _ (Yl.lss rfl rfl) trivial rfl ?_
            refine AK.nil ?_
            refine AK.then_ (hK18 _ ?_)
            refine AK.seq (fun _ hK19 => ?_)
            refine AK.condD rfl (fun hc2 => ?_) (fun hc2 => ?_)
            · have hya : y.1 < (allB x.1).length := (by omega)
              obtain ⟨hc1, hc2, hcv⟩ := allB_cnt (k := x.1) hya (by omega)
              have hcb : countB ((allB x.1).getD y.1 []) = cntL ((allB x.1).getD y.1 []) := (by unfold countB; rw [if_pos hcv])
              refine AK.skip ?_
              refine AK.then_ (hK19 _ ?_)
              refine AK.seq (fun _ hK20 => ?_)
              refine AK.block ?_
              refine AK.seq (fun _ hK21 => ?_)
              refine AK.region ?_
              first | refine AK.val _ (Yl.idxN sl28 rfl rfl (by first | exact .arg ‹_› | exact .own 0 rfl | exact .own 1 rfl | exact .own 2 rfl | exact .own 3 rfl | exact .own 4 rfl | exact .own 5 rfl | exact .own 6 rfl | exact .own 7 rfl | exact .own 8 rfl | assumption | exact .big 1 _ rfl (matL_get hrl (by omega))) (by decide) (by omega)) trivial rfl ?_ | refine AK.val _ (Yl.idx sl28 rfl rfl (by first | exact .arg ‹_› | exact .own 0 rfl | exact .own 1 rfl | exact .own 2 rfl | exact .own 3 rfl | exact .own 4 rfl | exact .own 5 rfl | exact .own 6 rfl | exact .own 7 rfl | exact .own 8 rfl | assumption | exact .big 1 _ rfl (matL_get hrl (by omega))) (by decide) (by omega)) trivial rfl ?_
              refine AK.val _ (Yl.loadV on22 rfl (by first | exact .arg ‹_› | exact .own 0 rfl | exact .own 1 rfl | exact .own 2 rfl | exact .own 3 rfl | exact .own 4 rfl | exact .own 5 rfl | exact .own 6 rfl | exact .own 7 rfl | exact .own 8 rfl | assumption | exact .big 1 _ rfl (matL_get hrl (by omega))) (by omega)) trivial rfl ?_
              refine AK.val _ (Yl.assign rfl) trivial rfl ?_
              refine AK.nil ?_
              refine AK.then_ (hK21 _ ?_)
              refine AK.seq (fun _ hK22 => ?_)
              refine AK.region ?_
              refine AK.val _ (Yl.move rfl) trivial rfl ?_
              refine AK.call co21 rfl (fun w hw => s_count w (x.2.2.getD y.1 undef) ((allB x.1).getD y.1 []) (rdi_big 1 y.1 hw rfl hrl hya)) trivial rfl ?_
              rintro r o ⟨rfl, rfl⟩
              refine AK.val _ (Yl.add rfl rfl (by omega)) trivial rfl ?_
              refine AK.val _ (Yl.move rfl) trivial rfl ?_
              refine AK.nil ?_
              refine AK.then_ (hK22 _ ?_)
              refine AK.block ?_
              refine AK.loopS (X := Nat × Value × List Value) [4, 7, 18, 19, 22, 23, 24, 30] (fun z => [(5, z.2.1), (31, .int .i64 (z.1 : Int))]) (fun z => [row x.2.1 22 1 (allB x.1).length x.2.2, bigA (matL 3 x.2.2 (allB x.1)), row z.2.1 22 1 ((stepP ((allB x.1).take y.1)) ++ extL ((allB x.1).getD y.1 []) z.1).length z.2.2, bigA (matL 3 z.2.2 ((stepP ((allB x.1).take y.1)) ++ extL ((allB x.1).getD y.1 []) z.1))]) (fun z => z.1 ≤ (cntL ((allB x.1).getD y.1 [])).toNat + 1 ∧ z.2.2.length = ((stepP ((allB x.1).take y.1)) ++ extL ((allB x.1).getD y.1 []) z.1).length) (fun z => (cntL ((allB x.1).getD y.1 [])).toNat + 1 - z.1) ((0, y.2)) ?_ ?_ ?_ ?_
              · exact ⟨Nat.zero_le _, by simpa [extL] using hrly⟩
              · exact .cons (rfl) (.cons (rfl) (.nil))
              · exact fun w hw => by simpa [extL] using hw
              · intro z hg2 _ hK23
                obtain ⟨hz1, hrlz⟩ := hg2
                have hpl := (allB_ok hya).1
                refine AK.seq (fun _ hK24 => ?_)
                refine AK.region ?_
                refine AK.val _ (Yl.lss rfl rfl) trivial rfl ?_
                refine AK.nil ?_
                refine AK.then_ (hK24 _ ?_)
                refine AK.seq (fun _ hK25 => ?_)
                refine AK.condD rfl (fun hc3 => ?_) (fun hc3 => ?_)
                · refine AK.skip ?_
                  refine AK.then_ (hK25 _ ?_)
                  refine AK.seq (fun _ hK26 => ?_)
                  refine AK.block ?_
                  refine AK.seq (fun _ hK27 => ?_)
                  refine AK.region ?_
                  refine AK.val _ (Yl.move rfl) trivial rfl ?_
                  refine AK.val _ (Yl.assign rfl) trivial rfl ?_
                  refine AK.nil ?_
                  refine AK.then_ (hK27 _ ?_)
                  refine AK.seq (fun _ hK28 => ?_)
                  refine AK.region ?_
                  refine AK.val _ (Yl.move rfl) trivial rfl ?_
                  refine AK.val _ (Yl.add rfl rfl (by omega)) trivial rfl ?_
                  refine AK.make1Z sl22 el3 rfl rfl rfl (by omega) (by omega) (by omega) trivial rfl (fun mv0 => ?_)
                  refine AK.val _ (Yl.assign rfl) trivial rfl ?_
                  refine AK.nil ?_
                  refine AK.then_ (hK28 _ ?_)
                  refine AK.seq (fun _ hK29 => ?_)
                  refine AK.region ?_
                  refine AK.val _ (Yl.move rfl) trivial rfl ?_
                  refine AK.val _ (Yl.move rfl) trivial rfl ?_
                  refine AK.copyS 4 rfl sl22 rfl rfl (.big 1 _ rfl (matL_get hrl hya)) (one_ints _) (by omega) trivial rfl ?_
                  refine AK.nil ?_
                  refine AK.then_ (hK29 _ ?_)
                  refine AK.seq (fun _ hK30 => ?_)
                  refine AK.region ?_
                  refine AK.val _ (Yl.move rfl) trivial rfl ?_
                  refine AK.val _ (Yl.move rfl) trivial rfl ?_
                  refine AK.val _ (Yl.move rfl) trivial rfl ?_
                  first | refine AK.val _ (Yl.idxN sl22 rfl rfl (by first | exact .arg ‹_› | exact .own 0 rfl | exact .own 1 rfl | exact .own 2 rfl | exact .own 3 rfl | exact .own 4 rfl | exact .own 5 rfl | exact .own 6 rfl | exact .own 7 rfl | exact .own 8 rfl | assumption | exact .big 1 _ rfl (matL_get hrl (by omega))) (by decide) (by omega)) trivial rfl ?_ | refine AK.val _ (Yl.idx sl22 rfl rfl (by first | exact .arg ‹_› | exact .own 0 rfl | exact .own 1 rfl | exact .own 2 rfl | exact .own 3 rfl | exact .own 4 rfl | exact .own 5 rfl | exact .own 6 rfl | exact .own 7 rfl | exact .own 8 rfl | assumption | exact .big 1 _ rfl (matL_get hrl (by omega))) (by decide) (by omega)) trivial rfl ?_
                  refine AK.store1e 4 rfl sz3 rfl rfl rfl rfl (by omega) (cs' := ((((allB x.1).getD y.1 []) ++ [(z.1 : Int)]).map (Value.int .i64))) (by exact set_last ((allB x.1).getD y.1 []) x.1 _ (z.1 : Int) hpl (by omega)) trivial ?_
                  refine AK.nil ?_
                  refine AK.then_ (hK30 _ ?_)
                  refine AK.region ?_
                  refine AK.val _ (Yl.move rfl) trivial rfl ?_
                  refine AK.fact (fun w hw => hw.shape 4 rfl) (fun hsq => ?_)
                  refine AK.val _ (Yl.move rfl) trivial rfl ?_
                  refine AK.append1 2 rfl sl28 el22 rfl (by decide) rfl (by intro k hk; cases hk; rfl) (by rw [hsq.cells]; rfl) (by intro a ha; rw [hsq.cells] at ha; simp at ha; subst ha; exact hsq.one) (by rw [List.length_append, extL_length]; omega) (by rw [List.length_append, extL_length]; omega) (by decide) rfl rfl (fun av _ hsl => ?_)
                  refine AK.val _ (Yl.assign rfl) trivial rfl ?_
                  refine AK.nil ?_
                  refine AK.block_normal ?_
                  refine AK.then_ (hK26 _ ?_)
                  refine AK.region ?_
                  refine AK.val _ (Yl.add rfl rfl (by omega)) trivial rfl ?_
                  refine AK.val _ (Yl.move rfl) trivial rfl ?_
                  refine AK.nil ?_
                  refine AK.then_ (hK23 _ _ ((z.1 + 1, av, z.2.2 ++ [mv0])) ⟨by dsimp only; omega, by dsimp only; rw [extL_succ, ← List.append_assoc, List.length_append, List.length_append, hrlz]; rfl⟩ (by dsimp only; omega) (.cons (rfl) (.cons (rfl) (.cons rfl (.cons rfl (.cons rfl (.cons rfl (.cons rfl (.cons rfl (.cons rfl (.cons rfl (.nil))))))))))) (fun w hw => by dsimp only; rw [extL_succ, ← List.append_assoc, matL_snoc hrlz, List.length_append]; exact HW.absorb (own := [row x.2.1 22 1 (allB x.1).length x.2.2, bigA (matL 3 x.2.2 (allB x.1)), row av 22 1 (((stepP ((allB x.1).take y.1)) ++ extL ((allB x.1).getD y.1 []) z.1).length + 1) (z.2.2 ++ [mv0]), bigA (matL 3 z.2.2 ((stepP ((allB x.1).take y.1)) ++ extL ((allB x.1).getD y.1 []) z.1))]) (X := row mv0 3 1 (((allB x.1).getD y.1 []) ++ [(z.1 : Int)]).length ((((allB x.1).getD y.1 []) ++ [(z.1 : Int)]).map (Value.int .i64))) 3 rfl (by rw [hsq.cells] at hw; rw [show (((allB x.1).getD y.1 []) ++ [(z.1 : Int)]).length = x.1 + 1 from by rw [List.length_append, hpl]; rfl]; rw [show ((x.1 : Int) + 1).toNat = x.1 + 1 from by omega] at hw; exact hw)))
                · refine AK.exit ?_
                  refine AK.then_exit ?_
                  refine AK.then_exit ?_
                  refine AK.block_exit ?_
                  refine AK.block_normal ?_
                  refine AK.then_ (hK20 _ ?_)
                  refine AK.region ?_
                  refine AK.val _ (Yl.add rfl rfl (by omega)) trivial rfl ?_
                  refine AK.val _ (Yl.move rfl) trivial rfl ?_
                  refine AK.nil ?_
                  refine AK.then_ (hK17 _ _ ((y.1 + 1, z.2)) ⟨by dsimp only; omega, by dsimp only; rw [take_snocD [] (allB x.1) y.1 hya, stepP_snoc, hrlz, extA, show z.1 = (cntL ((allB x.1).getD y.1 [])).toNat + 1 from by omega]⟩ (by dsimp only; omega) (.cons (rfl) (.cons (rfl) (.cons rfl (.cons rfl (.cons rfl (.cons rfl (.cons rfl (.nil)))))))) (fun w hw => by dsimp only; rw [take_snocD [] (allB x.1) y.1 hya, stepP_snoc, extA, show (cntL ((allB x.1).getD y.1 [])).toNat + 1 = z.1 from by omega]; exact hw))
            · refine AK.exit ?_
              refine AK.then_exit ?_
              refine AK.then_exit ?_
              refine AK.block_exit ?_
              refine AK.then_ (hK15 _ ?_)
              refine AK.region ?_
              refine AK.val _ (Yl.move rfl) trivial rfl ?_
              refine AK.val _ (Yl.assign rfl) trivial rfl ?_
              refine AK.nil ?_
              refine AK.block_normal ?_
              refine AK.then_ (hK12 _ ?_)
              refine AK.region ?_
              refine AK.val _ (Yl.add rfl rfl (by omega)) trivial rfl ?_
              refine AK.val _ (Yl.move rfl) trivial rfl ?_
              refine AK.nil ?_
              refine AK.then_ (hK9 _ _ ((x.1 + 1, y.2)) ⟨by dsimp only; omega, by dsimp only; rw [hrly, show y.1 = (allB x.1).length from by omega, List.take_length]; rfl⟩ (by dsimp only; omega) (.cons (rfl) (.cons (rfl) (.cons rfl (.nil)))) (fun w hw => by rw [show y.1 = (allB x.1).length from by omega, List.take_length] at hw; exact hw.pick [2, 3] (by decide) rfl rfl))
        · refine AK.exit ?_
          refine AK.then_exit ?_
          refine AK.then_exit ?_
          refine AK.block_exit ?_
          refine AK.then_ (hK7 _ ?_)
          refine AK.seq (fun _ hK31 => ?_)
          refine AK.region ?_
          refine AK.val _ (Yl.move rfl) trivial rfl ?_
          refine AK.val _ (Yl.assign rfl) trivial rfl ?_
          refine AK.nil ?_
          refine AK.then_ (hK31 _ ?_)
          refine AK.ret ?_
          refine AK.ret1 rfl rfl (fun w hw => ⟨_, _, ?_, rfl, Ret.of (hw.pick [0, 1] (by decide) rfl rfl)⟩)
          have e : allQ n = allB x.1 := (by unfold allQ; rw [if_pos (by omega), show n.toNat = x.1 from by omega])
          rw [e]; exact ⟨x.2.2, hrl, rfl⟩

end Go.Proofs.Ytkdidaiedibhaaa
