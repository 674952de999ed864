import Derived.Test.YtoikhoniogicdaaTy
import Derived.Test.YtoikhoniogicdaaMi
set_option linter.unusedVariables false
set_option linter.unusedSimpArgs false
namespace Go.Proofs.Ytoikhoniogicdaa
open Go.Sx Go.RowKit
set_option maxRecDepth 100000 in
theorem s_revb (w : World) (F : Nat → Prop) (v : Value) (l : List UInt8) (hm : l.length ≤ 9223372036854775807) (hA : (rowZ v 5 l.length (l.map byv)).holds w F) : CallM Try.prog 54 [v] w F (fun r A o => A = rowZ v 5 l.length (l.reverse.map byv) ∧ r = .tuple #[] ∧ o = []) := by
  refine specM_of Try.func54 rfl (Nat.le_of_ble_eq_true rfl) hA ?_
  have hrl := rvK_len l
  refine AK.seq (fun _ hK1 => ?_)
  refine AK.region ?_
  refine AK.val _ (Yl.move rfl) trivial rfl ?_
  refine AK.val _ (Yl.lenR sl71 rfl (by first | exact .arg ‹_› | ((repeat (first | exact .hd | apply RdS.tl)); done) | assumption | exact (RdS.ownZ 0 rfl))) trivial rfl ?_
  refine AK.val _ (Yl.sub rfl rfl (by omega)) trivial rfl ?_
  refine AK.val _ (Yl.assign rfl) trivial rfl ?_
  refine AK.val _ (Yl.assign rfl) trivial rfl ?_
  refine AK.nil ?_
  refine AK.then_ (hK1 _ ?_)
  refine AK.block ?_
  refine AK.loopK (X := Nat) [(0, _)] (fun k => [(2, .int .i64 (k : Int)), (3, .int .i64 ((l.length : Int) - 1 - (k : Int)))]) (fun k => [rowZ v 5 l.length ((rvK l k).map byv)]) (fun k => (k : Int) ≤ (l.length : Int) - (k : Int) + 1) (fun k => l.length - k) (0) (.cons rfl (.nil)) ?_ ?_ ?_ ?_
  · omega
  · exact .cons (rfl) (.cons (slI rfl (by omega)) (.nil))
  · exact fun w hw => by rw [rvK_zero]; exact hw
  · intro k hg0 _ hK2
    refine AK.seq (fun _ hK3 => ?_)
    refine AK.seq (fun _ hK4 => ?_)
    refine AK.region ?_
    refine AK.val _ (Yl.move rfl) trivial rfl ?_
    refine AK.val _ (Yl.move rfl) trivial rfl ?_
    refine AK.val _ (Yl.lss rfl rfl) trivial rfl ?_
    refine AK.nil ?_
    refine AK.then_ (hK4 _ ?_)
    refine AK.condD rfl (fun hc0 => ?_) (fun hc0 => ?_)
    · have hrk := rvK_len l k
      have ej : ((l.length : Int) - 1 - (k : Int)).toNat = l.length - 1 - k := by omega
      have hst := rvK_step (l := l) (k := k) (m := l.length - 1 - k) rfl (by omega)
      refine AK.skip ?_
      refine AK.then_ (hK3 _ ?_)
      refine AK.seq (fun _ hK5 => ?_)
      refine AK.block ?_
      try (conv => enter [2, 2]; dsimp only [List.set_cons_zero, List.set_cons_succ, List.cons_append, List.nil_append])
      refine AK.held 13 mixed ?_
      refine HeldK.first 0 (fuel := 15) (listed' := #[true, false, false, false, false, false, false, false, false, false, false, false, false, false, false, false]) _ rfl (by kernel_rfl) rfl rfl (Yl.move rfl) trivial rfl ?_
      refine HeldK.first 1 (fuel := 14) (listed' := #[true, true, false, false, false, false, false, false, false, false, false, false, false, false, false, false]) _ rfl (by kernel_rfl) rfl rfl (Yl.move rfl) trivial rfl ?_
      refine HeldK.firstP 2 (fuel := 13) (listed' := #[true, true, true, false, false, false, false, false, false, false, false, false, false, false, false, false]) _ rfl (by kernel_rfl) rfl rfl (PY.move rfl) trivial rfl ?_
      refine HeldK.firstP 3 (fuel := 12) (listed' := #[true, true, true, true, false, false, false, false, false, false, false, false, false, false, false, false]) _ rfl (by kernel_rfl) rfl rfl (PY.move rfl) trivial rfl ?_
      refine HeldK.first 4 (fuel := 11) (listed' := #[true, true, true, true, true, false, false, false, false, false, false, false, false, false, false, false]) _ rfl (by kernel_rfl) rfl rfl (Yl.move rfl) trivial rfl ?_
      refine HeldK.first 5 (fuel := 10) (listed' := #[true, true, true, true, true, true, false, false, false, false, false, false, false, false, false, false]) _ rfl (by kernel_rfl) rfl rfl (Yl.move rfl) trivial rfl ?_
      first | refine HeldK.first 6 (fuel := 9) (listed' := #[true, true, true, true, true, true, true, false, false, false, false, false, false, false, false, false]) _ rfl (by kernel_rfl) rfl rfl (Yl.idxN sl71 rfl rfl (by first | exact .arg ‹_› | ((repeat (first | exact .hd | apply RdS.tl)); done) | assumption | exact (RdS.ownZ 0 rfl)) (by decide) (by omega)) trivial rfl ?_ | refine HeldK.first 6 (fuel := 9) (listed' := #[true, true, true, true, true, true, true, false, false, false, false, false, false, false, false, false]) _ rfl (by kernel_rfl) rfl rfl (Yl.idx sl71 rfl rfl (by first | exact .arg ‹_› | ((repeat (first | exact .hd | apply RdS.tl)); done) | assumption | exact (RdS.ownZ 0 rfl)) (by decide) (by omega)) trivial rfl ?_ | refine HeldK.first 6 (fuel := 9) (listed' := #[true, true, true, true, true, true, true, false, false, false, false, false, false, false, false, false]) _ rfl (by kernel_rfl) rfl rfl (Yl.idxK sl71 rfl rfl (by first | exact .arg ‹_› | ((repeat (first | exact .hd | apply RdS.tl)); done) | assumption | exact (RdS.ownZ 0 rfl)) (by decide) (by omega)) trivial rfl ?_
      refine HeldK.first 7 (fuel := 8) (listed' := #[true, true, true, true, true, true, true, true, false, false, false, false, false, false, false, false]) _ rfl (by kernel_rfl) rfl rfl (Yl.loadBy on5 rfl (by first | exact .arg ‹_› | ((repeat (first | exact .hd | apply RdS.tl)); done) | assumption | exact (RdS.ownZ 0 rfl)) (by omega)) trivial rfl ?_
      refine HeldK.first 8 (fuel := 7) (listed' := #[true, true, true, true, true, true, true, true, true, false, false, false, false, false, false, false]) _ rfl (by kernel_rfl) rfl rfl (Yl.move rfl) trivial rfl ?_
      refine HeldK.first 9 (fuel := 6) (listed' := #[true, true, true, true, true, true, true, true, true, true, false, false, false, false, false, false]) _ rfl (by kernel_rfl) rfl rfl (Yl.move rfl) trivial rfl ?_
      first | refine HeldK.first 10 (fuel := 5) (listed' := #[true, true, true, true, true, true, true, true, true, true, true, false, false, false, false, false]) _ rfl (by kernel_rfl) rfl rfl (Yl.idxN sl71 rfl rfl (by first | exact .arg ‹_› | ((repeat (first | exact .hd | apply RdS.tl)); done) | assumption | exact (RdS.ownZ 0 rfl)) (by decide) (by omega)) trivial rfl ?_ | refine HeldK.first 10 (fuel := 5) (listed' := #[true, true, true, true, true, true, true, true, true, true, true, false, false, false, false, false]) _ rfl (by kernel_rfl) rfl rfl (Yl.idx sl71 rfl rfl (by first | exact .arg ‹_› | ((repeat (first | exact .hd | apply RdS.tl)); done) | assumption | exact (RdS.ownZ 0 rfl)) (by decide) (by omega)) trivial rfl ?_ | refine HeldK.first 10 (fuel := 5) (listed' := #[true, true, true, true, true, true, true, true, true, true, true, false, false, false, false, false]) _ rfl (by kernel_rfl) rfl rfl (Yl.idxK sl71 rfl rfl (by first | exact .arg ‹_› | ((repeat (first | exact .hd | apply RdS.tl)); done) | assumption | exact (RdS.ownZ 0 rfl)) (by decide) (by omega)) trivial rfl ?_
      refine HeldK.first 11 (fuel := 4) (listed' := #[true, true, true, true, true, true, true, true, true, true, true, true, false, false, false, false]) _ rfl (by kernel_rfl) rfl rfl (Yl.loadBy on5 rfl (by first | exact .arg ‹_› | ((repeat (first | exact .hd | apply RdS.tl)); done) | assumption | exact (RdS.ownZ 0 rfl)) (by omega)) trivial rfl ?_
      first | refine HeldK.first 12 (fuel := 3) (listed' := #[true, true, true, true, true, true, true, true, true, true, true, true, true, false, false, false]) _ rfl (by kernel_rfl) rfl rfl (Yl.idxN sl71 rfl rfl (by first | exact .arg ‹_› | ((repeat (first | exact .hd | apply RdS.tl)); done) | assumption | exact (RdS.ownZ 0 rfl)) (by decide) (by omega)) trivial rfl ?_ | refine HeldK.first 12 (fuel := 3) (listed' := #[true, true, true, true, true, true, true, true, true, true, true, true, true, false, false, false]) _ rfl (by kernel_rfl) rfl rfl (Yl.idx sl71 rfl rfl (by first | exact .arg ‹_› | ((repeat (first | exact .hd | apply RdS.tl)); done) | assumption | exact (RdS.ownZ 0 rfl)) (by decide) (by omega)) trivial rfl ?_ | refine HeldK.first 12 (fuel := 3) (listed' := #[true, true, true, true, true, true, true, true, true, true, true, true, true, false, false, false]) _ rfl (by kernel_rfl) rfl rfl (Yl.idxK sl71 rfl rfl (by first | exact .arg ‹_› | ((repeat (first | exact .hd | apply RdS.tl)); done) | assumption | exact (RdS.ownZ 0 rfl)) (by decide) (by omega)) trivial rfl ?_
      refine HeldK.one 13 (fuel := 2) (listed' := #[true, true, true, true, true, true, true, true, true, true, true, true, true, true, false, false]) (by kernel_rfl) rfl rfl ?_
      refine AK.storeZ 0 rfl sz5 rfl rfl rfl rfl (by omega) rfl trivial ?_
      refine AK.nil ?_
      try (conv => enter [2, 2]; dsimp only [List.set_cons_zero, List.set_cons_succ, List.cons_append, List.nil_append])
      refine HeldK.backN 14 rfl rfl (by kernel_rfl) ?_
      first | refine AK.val _ (Yl.idxN sl71 rfl rfl (by first | exact .arg ‹_› | ((repeat (first | exact .hd | apply RdS.tl)); done) | assumption | exact (RdS.ownZ 0 rfl)) (by decide) (by omega)) trivial rfl ?_ | refine AK.val _ (Yl.idx sl71 rfl rfl (by first | exact .arg ‹_› | ((repeat (first | exact .hd | apply RdS.tl)); done) | assumption | exact (RdS.ownZ 0 rfl)) (by decide) (by omega)) trivial rfl ?_ | refine AK.val _ (Yl.idxK sl71 rfl rfl (by first | exact .arg ‹_› | ((repeat (first | exact .hd | apply RdS.tl)); done) | assumption | exact (RdS.ownZ 0 rfl)) (by decide) (by omega)) trivial rfl ?_
      refine AK.storeZ 0 (cs' := (rvK l (k + 1)).map byv) rfl sz5 rfl rfl rfl rfl (by omega) (by rw [ej]; exact hst) trivial ?_
      refine AK.nil ?_
      refine AK.fromQn ?_
      refine AK.block_normal ?_
      refine AK.then_ (hK5 _ ?_)
      refine AK.region ?_
      refine AK.val _ (Yl.move rfl) trivial rfl ?_
      refine AK.val _ (Yl.add rfl rfl (by omega)) trivial rfl ?_
      refine AK.val _ (Yl.move rfl) trivial rfl ?_
      refine AK.val _ (Yl.sub rfl rfl (by omega)) trivial rfl ?_
      refine AK.val _ (Yl.assign rfl) trivial rfl ?_
      refine AK.val _ (Yl.assign rfl) trivial rfl ?_
      refine AK.nil ?_
      refine AK.then_ (hK2 _ _ (k + 1) (by omega) (by omega) (.cons (rfl) (.cons (slI rfl (by omega)) (.cons rfl (.nil)))) (fun w hw => hw))
    · refine AK.exit ?_
      refine AK.then_exit ?_
      refine AK.then_exit ?_
      refine AK.block_exit ?_
      refine AK.endG [] rfl (.nil) (fun w hw => ⟨_, _, _, ?_, rfl, Ret.of (hw.pick [0] (by decide) rfl rfl)⟩)
      rw [rvK_end hc0]
      exact ⟨rfl, rfl, rfl⟩

set_option maxRecDepth 100000 in
theorem s_reverse (w : World) (l : List UInt8) (hm : l.length ≤ 9223372036854775807) : CallS Try.prog 44 [sv l] w (fun r o => r = sv l.reverse ∧ o = []) := by
  refine spec_of Try.func44 rfl (Nat.le_of_ble_eq_true rfl) ?_
  refine AK.seq (fun _ hK1 => ?_)
  refine AK.region ?_
  refine AK.val _ (Yl.assign rfl) trivial rfl ?_
  refine AK.nil ?_
  refine AK.then_ (hK1 _ ?_)
  refine AK.seq (fun _ hK2 => ?_)
  refine AK.region ?_
  refine AK.val _ (Yl.move rfl) trivial rfl ?_
  refine AK.toBytes un9 sl71.1 un5 rfl hm trivial rfl (fun bz => ?_)
  refine AK.val _ (Yl.assign rfl) trivial rfl ?_
  refine AK.nil ?_
  refine AK.then_ (hK2 _ ?_)
  refine AK.seq (fun _ hK3 => ?_)
  refine AK.region ?_
  refine AK.val _ (Yl.move rfl) trivial rfl ?_
  refine AK.callM 0 rfl co54 rfl (fun w F hw hA => s_revb w F bz l hm hA) trivial rfl ?_
  rintro r A o ⟨rfl, rfl, rfl⟩
  refine AK.nil ?_
  refine AK.then_ (hK3 _ ?_)
  refine AK.seq (fun _ hK4 => ?_)
  refine AK.region ?_
  refine AK.val _ (Yl.move rfl) trivial rfl ?_
  refine AK.val _ (Yl.bytesS sl71.1 un5 un9 rfl (by first | exact .arg ‹_› | ((repeat (first | exact .hd | apply RdS.tl)); done) | assumption | exact (RdS.ownZ 0 rfl))) trivial rfl ?_
  refine AK.val _ (Yl.assign rfl) trivial rfl ?_
  refine AK.nil ?_
  refine AK.then_ (hK4 _ ?_)
  refine AK.ret ?_
  refine AK.ret1 rfl rfl (fun w hw => ⟨_, _, ?_, rfl, Ret.of (hw.pick [] (by decide) rfl rfl)⟩)
  exact ⟨rfl, rfl⟩

end Go.Proofs.Ytoikhoniogicdaa
