import Derived.Test.YtmfakjfkjoichaaD19
import Derived.Test.YtmfakjfkjoichaaDp
set_option linter.unusedVariables false
set_option linter.unusedSimpArgs false
namespace Go.Proofs.Ytmfakjfkjoichaa
open Go.Sx Go.RowKit
set_option maxHeartbeats 1000000 in
set_option maxRecDepth 100000 in
theorem s_live (w : World) (v : Value) (d : Dfa) (h : RdD (fun _ => False) w v d) (hv : VD d) : CallS Try.prog 51 [v] w (fun r o => ∃ l : List Bool, l.length = d.fin.length ∧ (∀ q, InR d q → (l.getD q.toNat false = true ↔ Liv d q)) ∧ IsSl r ∧ o = [row r 4 1 d.fin.length (l.map Value.bool)]) := by
  have h0 := h
  obtain ⟨vF, vN, rfl, hF, hN⟩ := h
  have hF0 := hF
  have hN0 := hN
  obtain ⟨rs, hrl, hNr, hNi⟩ := hN
  have sF := hF.sl
  have sN := hNr.sl
  have hmf := hF.le
  have hmn := hNr.le
  unfold RdL at hF
  have hnx := hv.nx
  have hn5 := hv.n
  have hL := hv.L
  have hvr := hv.row
  have hvt := hv.to
  refine spec_of Try.func51 rfl (Nat.le_of_ble_eq_true rfl) ?_
  refine AK.seq (fun _ hK1 => ?_)
  refine AK.region ?_
  refine AK.box_ (E := 25) (cs := [.int .i64 d.L, .int .i64 d.s, vF, vN]) rfl rfl rfl trivial rfl (fun bx1 => ?_)
  refine AK.val _ (Yl.assign rfl) trivial rfl ?_
  refine AK.nil ?_
  refine AK.then_ (hK1 _ ?_)
  refine AK.seq (fun _ hK2 => ?_)
  refine AK.region ?_
  refine AK.lit (xs := []) sl22 el4 rfl rfl rfl (by intro a ha; cases ha) (by decide) (by decide) trivial rfl (fun lv => ?_)
  refine AK.val _ (Yl.fieldAddr fd25_2 rfl) trivial rfl ?_
  refine AK.val _ (Yl.loadBox on22 rfl (by first | exact .own 0 rfl | exact .own 1 rfl | exact .own 2 rfl | exact .own 3 rfl | exact .own 4 rfl | exact .own 5 rfl | exact .own 6 rfl | exact .own 7 rfl | exact .own 8 rfl | exact .own 9 rfl | exact .own 10 rfl | exact .own 11 rfl | exact .own 12 rfl | assumption | exact BoxS.arg (by assumption)) rfl) trivial rfl ?_
  refine AK.appendS 1 rfl sl22 el4 rfl (by decide) rfl rfl rfl (by first | exact .arg ‹_› | exact .own 0 rfl | exact .own 1 rfl | exact .own 2 rfl | exact .own 3 rfl | exact .own 4 rfl | exact .own 5 rfl | exact .own 6 rfl | exact .own 7 rfl | exact .own 8 rfl | assumption | exact .own 9 rfl | exact .own 10 rfl | exact .own 11 rfl | exact .own 12 rfl | exact .arg (hNi _ (by omega))) (one'_map _ (fun _ => rfl) d.fin) (by omega) (by omega) trivial rfl (fun av => ?_)
  refine AK.shape 1 rfl (fun hav => ?_)
  refine AK.val _ (Yl.assign rfl) trivial rfl ?_
  refine AK.nil ?_
  refine AK.then_ (hK2 _ ?_)
  refine AK.seq (fun _ hK3 => ?_)
  refine AK.seq (fun _ hK4 => ?_)
  refine AK.region ?_
  refine AK.val _ (Yl.move rfl) trivial rfl ?_
  refine AK.val _ (Yl.lenR sl22 rfl (by first | exact .arg ‹_› | exact .own 0 rfl | exact .own 1 rfl | exact .own 2 rfl | exact .own 3 rfl | exact .own 4 rfl | exact .own 5 rfl | exact .own 6 rfl | exact .own 7 rfl | exact .own 8 rfl | assumption | exact .own 9 rfl | exact .own 10 rfl | exact .own 11 rfl | exact .own 12 rfl | exact .arg (hNi _ (by omega)))) trivial rfl ?_
  refine AK.val _ (Yl.move rfl) trivial rfl ?_
  refine AK.nil ?_
  refine AK.then_ (hK4 _ ?_)
  refine AK.block ?_
  refine AK.loopK (X := Nat × List Bool) [(1, _), (3, _), (13, _)] (fun x => [(14, .int .i64 (x.1 : Int))]) (fun x => [box bx1 25 4 [.int .i64 d.L, .int .i64 d.s, vF, vN], row av 4 1 d.fin.length (x.2.map Value.bool)]) (fun x => x.1 ≤ d.fin.length ∧ LG1 d x.1 0 x.2) (fun x => d.fin.length - x.1) ((0, d.fin)) (.cons rfl (.cons rfl (.cons rfl (.nil)))) ?_ ?_ ?_ ?_
  · exact ⟨Nat.zero_le _, LG1.zero d⟩
  · exact .cons (rfl) (.nil)
  · exact fun w hw => by simpa using hw
  · intro x hg0 _ hK5
    have hl0 := hg0.2.len
    refine AK.seq (fun _ hK6 => ?_)
    refine AK.region ?_
    refine AK.val _ (Yl.lss rfl rfl) trivial rfl ?_
    refine AK.nil ?_
    refine AK.then_ (hK6 _ ?_)
    refine AK.seq (fun _ hK7 => ?_)
    refine AK.condD rfl (fun hc0 => ?_) (fun hc0 => ?_)
    · refine AK.skip ?_
      refine AK.then_ (hK7 _ ?_)
      refine AK.seq (fun _ hK8 => ?_)
      refine AK.block ?_
      refine AK.seq (fun _ hK9 => ?_)
      refine AK.region ?_
      refine AK.val _ (Yl.move rfl) trivial rfl ?_
      refine AK.val _ (Yl.assign rfl) trivial rfl ?_
      refine AK.nil ?_
      refine AK.then_ (hK9 _ ?_)
      refine AK.seq (fun _ hK10 => ?_)
      refine AK.region ?_
      refine AK.val _ (Yl.move rfl) trivial rfl ?_
      refine AK.nil ?_
      refine AK.then_ (hK10 _ ?_)
      refine AK.seq (fun _ hK11 => ?_)
      refine AK.region ?_
      refine AK.val _ (Yl.move rfl) trivial rfl ?_
      refine AK.val _ (Yl.lenR sl22 rfl (by first | exact .arg ‹_› | exact .own 0 rfl | exact .own 1 rfl | exact .own 2 rfl | exact .own 3 rfl | exact .own 4 rfl | exact .own 5 rfl | exact .own 6 rfl | exact .own 7 rfl | exact .own 8 rfl | assumption | exact .own 9 rfl | exact .own 10 rfl | exact .own 11 rfl | exact .own 12 rfl | exact .arg (hNi _ (by omega)))) trivial rfl ?_
      refine AK.val _ (Yl.move rfl) trivial rfl ?_
      refine AK.nil ?_
      refine AK.then_ (hK11 _ ?_)
      refine AK.block ?_
      refine AK.loopK (X := Nat × List Bool) [(1, _), (3, _), (13, _), (14, _), (19, _)] (fun y => [(20, .int .i64 (y.1 : Int))]) (fun y => [box bx1 25 4 [.int .i64 d.L, .int .i64 d.s, vF, vN], row av 4 1 d.fin.length (y.2.map Value.bool)]) (fun y => y.1 ≤ d.fin.length ∧ LG1 d x.1 y.1 y.2) (fun y => d.fin.length - y.1) ((0, x.2)) (.cons rfl (.cons rfl (.cons rfl (.cons rfl (.cons rfl (.nil)))))) ?_ ?_ ?_ ?_
      · exact ⟨Nat.zero_le _, hg0.2⟩
      · exact .cons (rfl) (.nil)
      · exact fun w hw => hw
      · intro y hg1 _ hK12
        have hl1 := hg1.2.len
        refine AK.seq (fun _ hK13 => ?_)
        refine AK.region ?_
        refine AK.val _ (Yl.lss rfl rfl) trivial rfl ?_
        refine AK.nil ?_
        refine AK.then_ (hK13 _ ?_)
        refine AK.seq (fun _ hK14 => ?_)
        refine AK.condD rfl (fun hc1 => ?_) (fun hc1 => ?_)
        · refine AK.skip ?_
          refine AK.then_ (hK14 _ ?_)
          refine AK.seq (fun _ hK15 => ?_)
          refine AK.block ?_
          refine AK.seq (fun _ hK16 => ?_)
          refine AK.region ?_
          refine AK.val _ (Yl.move rfl) trivial rfl ?_
          refine AK.val _ (Yl.assign rfl) trivial rfl ?_
          refine AK.nil ?_
          refine AK.then_ (hK16 _ ?_)
          refine AK.seq (fun _ hK17 => ?_)
          refine AK.region ?_
          refine AK.val _ (Yl.fieldAddr fd25_3 rfl) trivial rfl ?_
          refine AK.val _ (Yl.loadBox on23 rfl (by first | exact .own 0 rfl | exact .own 1 rfl | exact .own 2 rfl | exact .own 3 rfl | exact .own 4 rfl | exact .own 5 rfl | exact .own 6 rfl | exact .own 7 rfl | exact .own 8 rfl | exact .own 9 rfl | exact .own 10 rfl | exact .own 11 rfl | exact .own 12 rfl | assumption | exact BoxS.arg (by assumption)) rfl) trivial rfl ?_
          refine AK.val _ (Yl.move rfl) trivial rfl ?_
          first | refine AK.val _ (Yl.idxN sl23 rfl rfl (by first | exact .arg ‹_› | exact .own 0 rfl | exact .own 1 rfl | exact .own 2 rfl | exact .own 3 rfl | exact .own 4 rfl | exact .own 5 rfl | exact .own 6 rfl | exact .own 7 rfl | exact .own 8 rfl | assumption | exact .own 9 rfl | exact .own 10 rfl | exact .own 11 rfl | exact .own 12 rfl | exact .arg (hNi _ (by omega))) (by decide) (by omega)) trivial rfl ?_ | refine AK.val _ (Yl.idx sl23 rfl rfl (by first | exact .arg ‹_› | exact .own 0 rfl | exact .own 1 rfl | exact .own 2 rfl | exact .own 3 rfl | exact .own 4 rfl | exact .own 5 rfl | exact .own 6 rfl | exact .own 7 rfl | exact .own 8 rfl | assumption | exact .own 9 rfl | exact .own 10 rfl | exact .own 11 rfl | exact .own 12 rfl | exact .arg (hNi _ (by omega))) (by decide) (by omega)) trivial rfl ?_ | refine AK.val _ (Yl.idxK sl23 rfl rfl (by first | exact .arg ‹_› | exact .own 0 rfl | exact .own 1 rfl | exact .own 2 rfl | exact .own 3 rfl | exact .own 4 rfl | exact .own 5 rfl | exact .own 6 rfl | exact .own 7 rfl | exact .own 8 rfl | assumption | exact .own 9 rfl | exact .own 10 rfl | exact .own 11 rfl | exact .own 12 rfl | exact .arg (hNi _ (by omega))) (by decide) (by omega)) trivial rfl ?_
          refine AK.val _ (Yl.loadV on38 rfl (by first | exact .arg ‹_› | exact .own 0 rfl | exact .own 1 rfl | exact .own 2 rfl | exact .own 3 rfl | exact .own 4 rfl | exact .own 5 rfl | exact .own 6 rfl | exact .own 7 rfl | exact .own 8 rfl | assumption | exact .own 9 rfl | exact .own 10 rfl | exact .own 11 rfl | exact .own 12 rfl | exact .arg (hNi _ (by omega))) (by omega)) trivial rfl ?_
          refine AK.val _ (Yl.lenR sl38 rfl (by first | exact .arg ‹_› | exact .own 0 rfl | exact .own 1 rfl | exact .own 2 rfl | exact .own 3 rfl | exact .own 4 rfl | exact .own 5 rfl | exact .own 6 rfl | exact .own 7 rfl | exact .own 8 rfl | assumption | exact .own 9 rfl | exact .own 10 rfl | exact .own 11 rfl | exact .own 12 rfl | exact .arg (hNi _ (by omega)))) trivial rfl ?_
          refine AK.val _ (Yl.move rfl) trivial rfl ?_
          refine AK.nil ?_
          refine AK.then_ (hK17 _ ?_)
          refine AK.block ?_
          refine AK.loopK (X := Nat × List Bool) [(1, _), (3, _), (5, _), (13, _), (14, _), (19, _), (20, _), (27, _), (28, _)] (fun z => [(29, .int .i64 (z.1 : Int))]) (fun z => [box bx1 25 4 [.int .i64 d.L, .int .i64 d.s, vF, vN], row av 4 1 d.fin.length (z.2.map Value.bool)]) (fun z => z.1 ≤ (d.nx.getD y.1 []).length ∧ LG2 d x.1 y.1 z.1 z.2) (fun z => (d.nx.getD y.1 []).length - z.1) ((0, y.2)) (.cons rfl (.cons rfl (.cons rfl (.cons rfl (.cons rfl (.cons rfl (.cons rfl (.cons rfl (.cons rfl (.nil)))))))))) ?_ ?_ ?_ ?_
          · exact ⟨Nat.zero_le _, hg1.2.in_⟩
          · exact .cons (rfl) (.nil)
          · exact fun w hw => hw
          · intro z hg2 _ hK18
            have hl2 := hg2.2.len
            have hrw := hvr y.1 (by omega)
            refine AK.seq (fun _ hK19 => ?_)
            refine AK.region ?_
            refine AK.val _ (Yl.lss rfl rfl) trivial rfl ?_
            refine AK.nil ?_
            refine AK.then_ (hK19 _ ?_)
            refine AK.seq (fun _ hK20 => ?_)
            refine AK.condD rfl (fun hc2 => ?_) (fun hc2 => ?_)
            · have hto := hvt y.1 z.1 (by omega) (by omega)
              refine AK.skip ?_
              refine AK.then_ (hK20 _ ?_)
              refine AK.seq (fun _ hK21 => ?_)
              refine AK.block ?_
              refine AK.seq (fun _ hK22 => ?_)
              refine AK.region ?_
              first | refine AK.val _ (Yl.idxN sl38 rfl rfl (by first | exact .arg ‹_› | exact .own 0 rfl | exact .own 1 rfl | exact .own 2 rfl | exact .own 3 rfl | exact .own 4 rfl | exact .own 5 rfl | exact .own 6 rfl | exact .own 7 rfl | exact .own 8 rfl | assumption | exact .own 9 rfl | exact .own 10 rfl | exact .own 11 rfl | exact .own 12 rfl | exact .arg (hNi _ (by omega))) (by decide) (by omega)) trivial rfl ?_ | refine AK.val _ (Yl.idx sl38 rfl rfl (by first | exact .arg ‹_› | exact .own 0 rfl | exact .own 1 rfl | exact .own 2 rfl | exact .own 3 rfl | exact .own 4 rfl | exact .own 5 rfl | exact .own 6 rfl | exact .own 7 rfl | exact .own 8 rfl | assumption | exact .own 9 rfl | exact .own 10 rfl | exact .own 11 rfl | exact .own 12 rfl | exact .arg (hNi _ (by omega))) (by decide) (by omega)) trivial rfl ?_ | refine AK.val _ (Yl.idxK sl38 rfl rfl (by first | exact .arg ‹_› | exact .own 0 rfl | exact .own 1 rfl | exact .own 2 rfl | exact .own 3 rfl | exact .own 4 rfl | exact .own 5 rfl | exact .own 6 rfl | exact .own 7 rfl | exact .own 8 rfl | assumption | exact .own 9 rfl | exact .own 10 rfl | exact .own 11 rfl | exact .own 12 rfl | exact .arg (hNi _ (by omega))) (by decide) (by omega)) trivial rfl ?_
              refine AK.val _ (Yl.loadI on3 rfl (by first | exact .arg ‹_› | exact .own 0 rfl | exact .own 1 rfl | exact .own 2 rfl | exact .own 3 rfl | exact .own 4 rfl | exact .own 5 rfl | exact .own 6 rfl | exact .own 7 rfl | exact .own 8 rfl | assumption | exact .own 9 rfl | exact .own 10 rfl | exact .own 11 rfl | exact .own 12 rfl | exact .arg (hNi _ (by omega))) (by omega)) trivial rfl ?_
              refine AK.val _ (Yl.assign rfl) trivial rfl ?_
              refine AK.nil ?_
              refine AK.then_ (hK22 _ ?_)
              refine AK.region ?_
              refine AK.val _ (Yl.move rfl) trivial rfl ?_
              refine AK.val _ (Yl.move rfl) trivial rfl ?_
              refine AK.val _ (Yl.move rfl) trivial rfl ?_
              refine AK.val _ (Yl.move rfl) trivial rfl ?_
              first | refine AK.val _ (Yl.idxN sl22 rfl rfl (by first | exact .arg ‹_› | exact .own 0 rfl | exact .own 1 rfl | exact .own 2 rfl | exact .own 3 rfl | exact .own 4 rfl | exact .own 5 rfl | exact .own 6 rfl | exact .own 7 rfl | exact .own 8 rfl | assumption | exact .own 9 rfl | exact .own 10 rfl | exact .own 11 rfl | exact .own 12 rfl | exact .arg (hNi _ (by omega))) (by decide) (by omega)) trivial rfl ?_ | refine AK.val _ (Yl.idx sl22 rfl rfl (by first | exact .arg ‹_› | exact .own 0 rfl | exact .own 1 rfl | exact .own 2 rfl | exact .own 3 rfl | exact .own 4 rfl | exact .own 5 rfl | exact .own 6 rfl | exact .own 7 rfl | exact .own 8 rfl | assumption | exact .own 9 rfl | exact .own 10 rfl | exact .own 11 rfl | exact .own 12 rfl | exact .arg (hNi _ (by omega))) (by decide) (by omega)) trivial rfl ?_ | refine AK.val _ (Yl.idxK sl22 rfl rfl (by first | exact .arg ‹_› | exact .own 0 rfl | exact .own 1 rfl | exact .own 2 rfl | exact .own 3 rfl | exact .own 4 rfl | exact .own 5 rfl | exact .own 6 rfl | exact .own 7 rfl | exact .own 8 rfl | assumption | exact .own 9 rfl | exact .own 10 rfl | exact .own 11 rfl | exact .own 12 rfl | exact .arg (hNi _ (by omega))) (by decide) (by omega)) trivial rfl ?_
              refine AK.val _ (Yl.loadB on4 rfl (by first | exact .arg ‹_› | exact .own 0 rfl | exact .own 1 rfl | exact .own 2 rfl | exact .own 3 rfl | exact .own 4 rfl | exact .own 5 rfl | exact .own 6 rfl | exact .own 7 rfl | exact .own 8 rfl | assumption | exact .own 9 rfl | exact .own 10 rfl | exact .own 11 rfl | exact .own 12 rfl | exact .arg (hNi _ (by omega))) (by omega)) trivial rfl ?_
              refine AK.val _ (Yl.move rfl) trivial rfl ?_
              refine AK.splitB (g := 39) rfl (fun hg_12_6 => ?_) (fun hg_12_6 => ?_)
              · have hg_12_6' := hg_12_6
                try simp only [decide_eq_true_eq, decide_eq_false_iff_not, Bool.not_eq_true', Bool.not_eq_false', Bool.not_not, ne_eq, Decidable.not_not, Int.not_lt, Int.not_le, beq_iff_eq, bne_iff_ne, Bool.and_eq_true, Bool.or_eq_true, Bool.or_eq_false_iff, Bool.not_false, Bool.not_true, reduceCtorEq, not_true_eq_false, not_false_eq_true] at hg_12_6'
                refine AK.pass rfl rfl (hg_12_6) rfl ?_
                refine AK.pass rfl rfl (hg_12_6) rfl ?_
                refine AK.pass rfl rfl (hg_12_6) rfl ?_
                refine AK.pass rfl rfl (hg_12_6) rfl ?_
                refine AK.val _ (Yl.pickT rfl (hg_12_6) rfl) trivial rfl ?_
                first | refine AK.val _ (Yl.idxN sl22 rfl rfl (by first | exact .arg ‹_› | exact .own 0 rfl | exact .own 1 rfl | exact .own 2 rfl | exact .own 3 rfl | exact .own 4 rfl | exact .own 5 rfl | exact .own 6 rfl | exact .own 7 rfl | exact .own 8 rfl | assumption | exact .own 9 rfl | exact .own 10 rfl | exact .own 11 rfl | exact .own 12 rfl | exact .arg (hNi _ (by omega))) (by decide) (by omega)) trivial rfl ?_ | refine AK.val _ (Yl.idx sl22 rfl rfl (by first | exact .arg ‹_› | exact .own 0 rfl | exact .own 1 rfl | exact .own 2 rfl | exact .own 3 rfl | exact .own 4 rfl | exact .own 5 rfl | exact .own 6 rfl | exact .own 7 rfl | exact .own 8 rfl | assumption | exact .own 9 rfl | exact .own 10 rfl | exact .own 11 rfl | exact .own 12 rfl | exact .arg (hNi _ (by omega))) (by decide) (by omega)) trivial rfl ?_ | refine AK.val _ (Yl.idxK sl22 rfl rfl (by first | exact .arg ‹_› | exact .own 0 rfl | exact .own 1 rfl | exact .own 2 rfl | exact .own 3 rfl | exact .own 4 rfl | exact .own 5 rfl | exact .own 6 rfl | exact .own 7 rfl | exact .own 8 rfl | assumption | exact .own 9 rfl | exact .own 10 rfl | exact .own 11 rfl | exact .own 12 rfl | exact .arg (hNi _ (by omega))) (by decide) (by omega)) trivial rfl ?_
                refine AK.store1e 1 rfl sz4 rfl rfl rfl rfl (by omega) (cs' := ((z.2.set y.1 (z.2.getD y.1 false || z.2.getD (stepQ d y.1 z.1).toNat false)).map Value.bool)) (by rw [List.map_set, hg_12_6]; rfl) trivial ?_
                refine AK.nil ?_
                refine AK.block_normal ?_
                refine AK.then_ (hK21 _ ?_)
                refine AK.region ?_
                refine AK.val _ (Yl.add rfl rfl (by omega)) trivial rfl ?_
                refine AK.val _ (Yl.move rfl) trivial rfl ?_
                refine AK.nil ?_
                refine AK.then_ (hK18 _ _ ((z.1 + 1, (z.2.set y.1 (z.2.getD y.1 false || z.2.getD (stepQ d y.1 z.1).toNat false)))) ⟨by dsimp only; omega, hg2.2.step hv (by omega) (by omega)⟩ (by dsimp only; omega) (.cons (rfl) (.cons rfl (.cons rfl (.cons rfl (.cons rfl (.cons rfl (.cons rfl (.cons rfl (.cons rfl (.cons rfl (.nil))))))))))) (fun w hw => hw))
              · have hg_12_6' := hg_12_6
                try simp only [decide_eq_true_eq, decide_eq_false_iff_not, Bool.not_eq_true', Bool.not_eq_false', Bool.not_not, ne_eq, Decidable.not_not, Int.not_lt, Int.not_le, beq_iff_eq, bne_iff_ne, Bool.and_eq_true, Bool.or_eq_true, Bool.or_eq_false_iff, Bool.not_false, Bool.not_true, reduceCtorEq, not_true_eq_false, not_false_eq_true] at hg_12_6'
                refine AK.val _ (Yl.move rfl) ⟨_, rfl, congrArg (fun b => some (Value.bool b)) hg_12_6⟩ rfl ?_
                refine AK.val _ (Yl.move rfl) ⟨_, rfl, congrArg (fun b => some (Value.bool b)) hg_12_6⟩ rfl ?_
                first | refine AK.val _ (Yl.idxN sl22 rfl rfl (by first | exact .arg ‹_› | exact .own 0 rfl | exact .own 1 rfl | exact .own 2 rfl | exact .own 3 rfl | exact .own 4 rfl | exact .own 5 rfl | exact .own 6 rfl | exact .own 7 rfl | exact .own 8 rfl | assumption | exact .own 9 rfl | exact .own 10 rfl | exact .own 11 rfl | exact .own 12 rfl | exact .arg (hNi _ (by omega))) (by decide) (by omega)) ⟨_, rfl, congrArg (fun b => some (Value.bool b)) hg_12_6⟩ rfl ?_ | refine AK.val _ (Yl.idx sl22 rfl rfl (by first | exact .arg ‹_› | exact .own 0 rfl | exact .own 1 rfl | exact .own 2 rfl | exact .own 3 rfl | exact .own 4 rfl | exact .own 5 rfl | exact .own 6 rfl | exact .own 7 rfl | exact .own 8 rfl | assumption | exact .own 9 rfl | exact .own 10 rfl | exact .own 11 rfl | exact .own 12 rfl | exact .arg (hNi _ (by omega))) (by decide) (by omega)) ⟨_, rfl, congrArg (fun b => some (Value.bool b)) hg_12_6⟩ rfl ?_ | refine AK.val _ (Yl.idxK sl22 rfl rfl (by first | exact .arg ‹_› | exact .own 0 rfl | exact .own 1 rfl | exact .own 2 rfl | exact .own 3 rfl | exact .own 4 rfl | exact .own 5 rfl | exact .own 6 rfl | exact .own 7 rfl | exact .own 8 rfl | assumption | exact .own 9 rfl | exact .own 10 rfl | exact .own 11 rfl | exact .own 12 rfl | exact .arg (hNi _ (by omega))) (by decide) (by omega)) ⟨_, rfl, congrArg (fun b => some (Value.bool b)) hg_12_6⟩ rfl ?_
                refine AK.val _ (Yl.loadB on4 rfl (by first | exact .arg ‹_› | exact .own 0 rfl | exact .own 1 rfl | exact .own 2 rfl | exact .own 3 rfl | exact .own 4 rfl | exact .own 5 rfl | exact .own 6 rfl | exact .own 7 rfl | exact .own 8 rfl | assumption | exact .own 9 rfl | exact .own 10 rfl | exact .own 11 rfl | exact .own 12 rfl | exact .arg (hNi _ (by omega))) (by omega)) ⟨_, rfl, congrArg (fun b => some (Value.bool b)) hg_12_6⟩ rfl ?_
                refine AK.val _ (Yl.pickF rfl (hg_12_6) rfl) trivial rfl ?_
                first | refine AK.val _ (Yl.idxN sl22 rfl rfl (by first | exact .arg ‹_› | exact .own 0 rfl | exact .own 1 rfl | exact .own 2 rfl | exact .own 3 rfl | exact .own 4 rfl | exact .own 5 rfl | exact .own 6 rfl | exact .own 7 rfl | exact .own 8 rfl | assumption | exact .own 9 rfl | exact .own 10 rfl | exact .own 11 rfl | exact .own 12 rfl | exact .arg (hNi _ (by omega))) (by decide) (by omega)) trivial rfl ?_ | refine AK.val _ (Yl.idx sl22 rfl rfl (by first | exact .arg ‹_› | exact .own 0 rfl | exact .own 1 rfl | exact .own 2 rfl | exact .own 3 rfl | exact .own 4 rfl | exact .own 5 rfl | exact .own 6 rfl | exact .own 7 rfl | exact .own 8 rfl | assumption | exact .own 9 rfl | exact .own 10 rfl | exact .own 11 rfl | exact .own 12 rfl | exact .arg (hNi _ (by omega))) (by decide) (by omega)) trivial rfl ?_ | refine AK.val _ (Yl.idxK sl22 rfl rfl (by first | exact .arg ‹_› | exact .own 0 rfl | exact .own 1 rfl | exact .own 2 rfl | exact .own 3 rfl | exact .own 4 rfl | exact .own 5 rfl | exact .own 6 rfl | exact .own 7 rfl | exact .own 8 rfl | assumption | exact .own 9 rfl | exact .own 10 rfl | exact .own 11 rfl | exact .own 12 rfl | exact .arg (hNi _ (by omega))) (by decide) (by omega)) trivial rfl ?_
                refine AK.store1e 1 rfl sz4 rfl rfl rfl rfl (by omega) (cs' := ((z.2.set y.1 (z.2.getD y.1 false || z.2.getD (stepQ d y.1 z.1).toNat false)).map Value.bool)) (by rw [List.map_set, hg_12_6]; rfl) trivial ?_
                refine AK.nil ?_
                refine AK.block_normal ?_
                refine AK.then_ (hK21 _ ?_)
                refine AK.region ?_
                refine AK.val _ (Yl.add rfl rfl (by omega)) trivial rfl ?_
                refine AK.val _ (Yl.move rfl) trivial rfl ?_
                refine AK.nil ?_
                refine AK.then_ (hK18 _ _ ((z.1 + 1, (z.2.set y.1 (z.2.getD y.1 false || z.2.getD (stepQ d y.1 z.1).toNat false)))) ⟨by dsimp only; omega, hg2.2.step hv (by omega) (by omega)⟩ (by dsimp only; omega) (.cons (rfl) (.cons rfl (.cons rfl (.cons rfl (.cons rfl (.cons rfl (.cons rfl (.cons rfl (.cons rfl (.cons rfl (.nil))))))))))) (fun w hw => hw))
            · refine AK.exit ?_
              refine AK.then_exit ?_
              refine AK.then_exit ?_
              refine AK.block_exit ?_
              refine AK.block_normal ?_
              refine AK.then_ (hK15 _ ?_)
              refine AK.region ?_
              refine AK.val _ (Yl.add rfl rfl (by omega)) trivial rfl ?_
              refine AK.val _ (Yl.move rfl) trivial rfl ?_
              refine AK.nil ?_
              refine AK.then_ (hK12 _ _ ((y.1 + 1, z.2)) ⟨by dsimp only; omega, hg2.2.out hv (by omega) (by omega)⟩ (by dsimp only; omega) (.cons (rfl) (.cons rfl (.cons rfl (.cons rfl (.cons rfl (.cons rfl (.nil))))))) (fun w hw => hw))
        · refine AK.exit ?_
          refine AK.then_exit ?_
          refine AK.then_exit ?_
          refine AK.block_exit ?_
          refine AK.block_normal ?_
          refine AK.then_ (hK8 _ ?_)
          refine AK.region ?_
          refine AK.val _ (Yl.add rfl rfl (by omega)) trivial rfl ?_
          refine AK.val _ (Yl.move rfl) trivial rfl ?_
          refine AK.nil ?_
          refine AK.then_ (hK5 _ _ ((x.1 + 1, y.2)) ⟨by dsimp only; omega, hg1.2.next (by omega)⟩ (by dsimp only; omega) (.cons (rfl) (.cons rfl (.cons rfl (.cons rfl (.nil))))) (fun w hw => hw))
    · refine AK.exit ?_
      refine AK.then_exit ?_
      refine AK.then_exit ?_
      refine AK.block_exit ?_
      refine AK.then_ (hK3 _ ?_)
      refine AK.seq (fun _ hK23 => ?_)
      refine AK.region ?_
      refine AK.val _ (Yl.move rfl) trivial rfl ?_
      refine AK.val _ (Yl.assign rfl) trivial rfl ?_
      refine AK.nil ?_
      refine AK.then_ (hK23 _ ?_)
      refine AK.ret ?_
      refine AK.ret1 rfl rfl (fun w hw => ⟨_, _, ?_, rfl, Ret.of (hw.pick [1] (by decide) rfl rfl)⟩)
      exact ⟨x.2, hl0, hg0.2.fin hv (by omega), hav, rfl⟩

end Go.Proofs.Ytmfakjfkjoichaa
