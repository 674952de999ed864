import Derived.Test.YtmfakjfkjoichaaD11
import Derived.Test.YtmfakjfkjoichaaDi
set_option linter.unusedVariables false
set_option linter.unusedSimpArgs false
namespace Go.Proofs.Ytmfakjfkjoichaa
open Go.Sx Go.RowKit
set_option maxRecDepth 100000 in
theorem s_prod1 (w : World) (p1 p2 : Int) (x : Nat) (x1 x2 : Nat) (a b : Dfa) (aF aN bF bN : Value) (ha : VD a) (hb : VD b) (hL : a.L = b.L) (hx1 : BxA w x1 [.int .i64 a.L, .int .i64 a.s, aF, aN]) (hx2 : BxA w x2 [.int .i64 b.L, .int .i64 b.s, bF, bN]) (haF0 : RdL (fun _ => False) Value.bool w aF a.fin) (haN : RdLL (fun _ => False) (Value.int .i64) w aN a.nx) (hbF0 : RdL (fun _ => False) Value.bool w bF b.fin) (hbN : RdLL (fun _ => False) (Value.int .i64) w bN b.nx) (hp : (0 ≤ p1 ∧ p1 < a.fin.length) ∧ (0 ≤ p2 ∧ p2 < b.fin.length)) (hx : x < a.L.toNat) : CallS Try.prog 57 [.agg #[.int .i64 p1, .int .i64 p2], .int .i64 (x : Int), .pointer (some ⟨x1, 0, none⟩), .pointer (some ⟨x2, 0, none⟩)] w (fun r o => r = pv (stepP a b (p1, p2) x) ∧ o = []) := by
  obtain ⟨ra, hra, haNr, haNi⟩ := haN
  obtain ⟨rb, hrb, hbNr, hbNi⟩ := hbN
  have haF := haF0
  have hbF := hbF0
  unfold RdL at haF hbF
  have n1 := ha.nx
  have n2 := hb.nx
  have r1 := ha.row p1.toNat (by omega)
  have r2 := hb.row p2.toNat (by omega)
  refine spec_of Try.func57 rfl (Nat.le_of_ble_eq_true rfl) ?_
  refine AK.seq (fun _ hK1 => ?_)
  refine AK.region ?_
  refine AK.box_ (E := 72) (cs := [.int .i64 p1, .int .i64 p2]) rfl rfl rfl trivial rfl (fun bx4 => ?_)
  refine AK.alloc el72 rfl rfl trivial rfl (fun bx6 => ?_)
  refine AK.nil ?_
  refine AK.then_ (hK1 _ ?_)
  refine AK.seq (fun _ hK2 => ?_)
  try (conv => enter [2, 2]; dsimp only [List.set_cons_zero, List.set_cons_succ, List.cons_append, List.nil_append])
  refine AK.held 19 mixed ?_
  refine HeldK.first 0 (fuel := 19) (listed' := #[true, false, false, false, false, false, false, false, false, false, false, false, false, false, false, false, false, false, false, false]) _ rfl (by kernel_rfl) rfl rfl (Yl.fieldAddr fd25_3 rfl) trivial rfl ?_
  refine HeldK.first 1 (fuel := 18) (listed' := #[true, true, false, false, false, false, false, false, false, false, false, false, false, false, false, false, false, false, false, false]) _ rfl (by kernel_rfl) rfl rfl (Yl.loadBox on23 rfl (by first | exact .own 0 rfl | exact .own 1 rfl | exact .own 2 rfl | exact .own 3 rfl | exact .own 4 rfl | exact .own 5 rfl | exact .own 6 rfl | exact .own 7 rfl | exact .own 8 rfl | exact .own 9 rfl | exact .own 10 rfl | exact .own 11 rfl | exact .own 12 rfl | assumption | exact BoxS.arg (by assumption)) rfl) trivial rfl ?_
  refine HeldK.first 2 (fuel := 17) (listed' := #[true, true, true, false, false, false, false, false, false, false, false, false, false, false, false, false, false, false, false, false]) _ rfl (by kernel_rfl) rfl rfl (Yl.idxArr 0 ar72 rfl rfl (by decide)) trivial rfl ?_
  refine HeldK.first 3 (fuel := 16) (listed' := #[true, true, true, true, false, false, false, false, false, false, false, false, false, false, false, false, false, false, false, false]) _ rfl (by kernel_rfl) rfl rfl (Yl.loadBox on3 rfl (by first | exact .own 0 rfl | exact .own 1 rfl | exact .own 2 rfl | exact .own 3 rfl | exact .own 4 rfl | exact .own 5 rfl | exact .own 6 rfl | exact .own 7 rfl | exact .own 8 rfl | exact .own 9 rfl | exact .own 10 rfl | exact .own 11 rfl | exact .own 12 rfl | assumption | exact BoxS.arg (by assumption)) rfl) trivial rfl ?_
  first | refine HeldK.first 4 (fuel := 15) (listed' := #[true, true, true, true, true, false, false, false, false, false, false, false, false, false, false, false, false, false, false, false]) _ rfl (by kernel_rfl) rfl rfl (Yl.idxN sl23 rfl rfl (by first | exact .arg ‹_› | exact .own 0 rfl | exact .own 1 rfl | exact .own 2 rfl | exact .own 3 rfl | exact .own 4 rfl | exact .own 5 rfl | exact .own 6 rfl | exact .own 7 rfl | exact .own 8 rfl | assumption | exact .own 9 rfl | exact .own 10 rfl | exact .own 11 rfl | exact .own 12 rfl | exact .arg haNr | exact .arg hbNr | exact .arg haF | exact .arg hbF | exact .arg (haNi _ (by omega)) | exact .arg (hbNi _ (by omega))) (by decide) (by omega)) trivial rfl ?_ | refine HeldK.first 4 (fuel := 15) (listed' := #[true, true, true, true, true, false, false, false, false, false, false, false, false, false, false, false, false, false, false, false]) _ rfl (by kernel_rfl) rfl rfl (Yl.idx sl23 rfl rfl (by first | exact .arg ‹_› | exact .own 0 rfl | exact .own 1 rfl | exact .own 2 rfl | exact .own 3 rfl | exact .own 4 rfl | exact .own 5 rfl | exact .own 6 rfl | exact .own 7 rfl | exact .own 8 rfl | assumption | exact .own 9 rfl | exact .own 10 rfl | exact .own 11 rfl | exact .own 12 rfl | exact .arg haNr | exact .arg hbNr | exact .arg haF | exact .arg hbF | exact .arg (haNi _ (by omega)) | exact .arg (hbNi _ (by omega))) (by decide) (by omega)) trivial rfl ?_ | refine HeldK.first 4 (fuel := 15) (listed' := #[true, true, true, true, true, false, false, false, false, false, false, false, false, false, false, false, false, false, false, false]) _ rfl (by kernel_rfl) rfl rfl (Yl.idxK sl23 rfl rfl (by first | exact .arg ‹_› | exact .own 0 rfl | exact .own 1 rfl | exact .own 2 rfl | exact .own 3 rfl | exact .own 4 rfl | exact .own 5 rfl | exact .own 6 rfl | exact .own 7 rfl | exact .own 8 rfl | assumption | exact .own 9 rfl | exact .own 10 rfl | exact .own 11 rfl | exact .own 12 rfl | exact .arg haNr | exact .arg hbNr | exact .arg haF | exact .arg hbF | exact .arg (haNi _ (by omega)) | exact .arg (hbNi _ (by omega))) (by decide) (by omega)) trivial rfl ?_
  refine HeldK.first 5 (fuel := 14) (listed' := #[true, true, true, true, true, true, false, false, false, false, false, false, false, false, false, false, false, false, false, false]) _ rfl (by kernel_rfl) rfl rfl (Yl.loadV on38 rfl (by first | exact .arg ‹_› | exact .own 0 rfl | exact .own 1 rfl | exact .own 2 rfl | exact .own 3 rfl | exact .own 4 rfl | exact .own 5 rfl | exact .own 6 rfl | exact .own 7 rfl | exact .own 8 rfl | assumption | exact .own 9 rfl | exact .own 10 rfl | exact .own 11 rfl | exact .own 12 rfl | exact .arg haNr | exact .arg hbNr | exact .arg haF | exact .arg hbF | exact .arg (haNi _ (by omega)) | exact .arg (hbNi _ (by omega))) (by omega)) trivial rfl ?_
  refine HeldK.first 6 (fuel := 13) (listed' := #[true, true, true, true, true, true, true, false, false, false, false, false, false, false, false, false, false, false, false, false]) _ rfl (by kernel_rfl) rfl rfl (Yl.move rfl) trivial rfl ?_
  first | refine HeldK.first 7 (fuel := 12) (listed' := #[true, true, true, true, true, true, true, true, false, false, false, false, false, false, false, false, false, false, false, false]) _ rfl (by kernel_rfl) rfl rfl (Yl.idxN sl38 rfl rfl (by first | exact .arg ‹_› | exact .own 0 rfl | exact .own 1 rfl | exact .own 2 rfl | exact .own 3 rfl | exact .own 4 rfl | exact .own 5 rfl | exact .own 6 rfl | exact .own 7 rfl | exact .own 8 rfl | assumption | exact .own 9 rfl | exact .own 10 rfl | exact .own 11 rfl | exact .own 12 rfl | exact .arg haNr | exact .arg hbNr | exact .arg haF | exact .arg hbF | exact .arg (haNi _ (by omega)) | exact .arg (hbNi _ (by omega))) (by decide) (by omega)) trivial rfl ?_ | refine HeldK.first 7 (fuel := 12) (listed' := #[true, true, true, true, true, true, true, true, false, false, false, false, false, false, false, false, false, false, false, false]) _ rfl (by kernel_rfl) rfl rfl (Yl.idx sl38 rfl rfl (by first | exact .arg ‹_› | exact .own 0 rfl | exact .own 1 rfl | exact .own 2 rfl | exact .own 3 rfl | exact .own 4 rfl | exact .own 5 rfl | exact .own 6 rfl | exact .own 7 rfl | exact .own 8 rfl | assumption | exact .own 9 rfl | exact .own 10 rfl | exact .own 11 rfl | exact .own 12 rfl | exact .arg haNr | exact .arg hbNr | exact .arg haF | exact .arg hbF | exact .arg (haNi _ (by omega)) | exact .arg (hbNi _ (by omega))) (by decide) (by omega)) trivial rfl ?_ | refine HeldK.first 7 (fuel := 12) (listed' := #[true, true, true, true, true, true, true, true, false, false, false, false, false, false, false, false, false, false, false, false]) _ rfl (by kernel_rfl) rfl rfl (Yl.idxK sl38 rfl rfl (by first | exact .arg ‹_› | exact .own 0 rfl | exact .own 1 rfl | exact .own 2 rfl | exact .own 3 rfl | exact .own 4 rfl | exact .own 5 rfl | exact .own 6 rfl | exact .own 7 rfl | exact .own 8 rfl | assumption | exact .own 9 rfl | exact .own 10 rfl | exact .own 11 rfl | exact .own 12 rfl | exact .arg haNr | exact .arg hbNr | exact .arg haF | exact .arg hbF | exact .arg (haNi _ (by omega)) | exact .arg (hbNi _ (by omega))) (by decide) (by omega)) trivial rfl ?_
  refine HeldK.first 8 (fuel := 11) (listed' := #[true, true, true, true, true, true, true, true, true, false, false, false, false, false, false, false, false, false, false, false]) _ rfl (by kernel_rfl) rfl rfl (Yl.loadI on3 rfl (by first | exact .arg ‹_› | exact .own 0 rfl | exact .own 1 rfl | exact .own 2 rfl | exact .own 3 rfl | exact .own 4 rfl | exact .own 5 rfl | exact .own 6 rfl | exact .own 7 rfl | exact .own 8 rfl | assumption | exact .own 9 rfl | exact .own 10 rfl | exact .own 11 rfl | exact .own 12 rfl | exact .arg haNr | exact .arg hbNr | exact .arg haF | exact .arg hbF | exact .arg (haNi _ (by omega)) | exact .arg (hbNi _ (by omega))) (by omega)) trivial rfl ?_
  refine HeldK.first 9 (fuel := 10) (listed' := #[true, true, true, true, true, true, true, true, true, true, false, false, false, false, false, false, false, false, false, false]) _ rfl (by kernel_rfl) rfl rfl (Yl.fieldAddr fd25_3 rfl) trivial rfl ?_
  refine HeldK.first 10 (fuel := 9) (listed' := #[true, true, true, true, true, true, true, true, true, true, true, false, false, false, false, false, false, false, false, false]) _ rfl (by kernel_rfl) rfl rfl (Yl.loadBox on23 rfl (by first | exact .own 0 rfl | exact .own 1 rfl | exact .own 2 rfl | exact .own 3 rfl | exact .own 4 rfl | exact .own 5 rfl | exact .own 6 rfl | exact .own 7 rfl | exact .own 8 rfl | exact .own 9 rfl | exact .own 10 rfl | exact .own 11 rfl | exact .own 12 rfl | assumption | exact BoxS.arg (by assumption)) rfl) trivial rfl ?_
  refine HeldK.first 11 (fuel := 8) (listed' := #[true, true, true, true, true, true, true, true, true, true, true, true, false, false, false, false, false, false, false, false]) _ rfl (by kernel_rfl) rfl rfl (Yl.idxArr 1 ar72 rfl rfl (by decide)) trivial rfl ?_
  refine HeldK.first 12 (fuel := 7) (listed' := #[true, true, true, true, true, true, true, true, true, true, true, true, true, false, false, false, false, false, false, false]) _ rfl (by kernel_rfl) rfl rfl (Yl.loadBox on3 rfl (by first | exact .own 0 rfl | exact .own 1 rfl | exact .own 2 rfl | exact .own 3 rfl | exact .own 4 rfl | exact .own 5 rfl | exact .own 6 rfl | exact .own 7 rfl | exact .own 8 rfl | exact .own 9 rfl | exact .own 10 rfl | exact .own 11 rfl | exact .own 12 rfl | assumption | exact BoxS.arg (by assumption)) rfl) trivial rfl ?_
  first | refine HeldK.first 13 (fuel := 6) (listed' := #[true, true, true, true, true, true, true, true, true, true, true, true, true, true, false, false, false, false, false, false]) _ rfl (by kernel_rfl) rfl rfl (Yl.idxN sl23 rfl rfl (by first | exact .arg ‹_› | exact .own 0 rfl | exact .own 1 rfl | exact .own 2 rfl | exact .own 3 rfl | exact .own 4 rfl | exact .own 5 rfl | exact .own 6 rfl | exact .own 7 rfl | exact .own 8 rfl | assumption | exact .own 9 rfl | exact .own 10 rfl | exact .own 11 rfl | exact .own 12 rfl | exact .arg haNr | exact .arg hbNr | exact .arg haF | exact .arg hbF | exact .arg (haNi _ (by omega)) | exact .arg (hbNi _ (by omega))) (by decide) (by omega)) trivial rfl ?_ | refine HeldK.first 13 (fuel := 6) (listed' := #[true, true, true, true, true, true, true, true, true, true, true, true, true, true, false, false, false, false, false, false]) _ rfl (by kernel_rfl) rfl rfl (Yl.idx sl23 rfl rfl (by first | exact .arg ‹_› | exact .own 0 rfl | exact .own 1 rfl | exact .own 2 rfl | exact .own 3 rfl | exact .own 4 rfl | exact .own 5 rfl | exact .own 6 rfl | exact .own 7 rfl | exact .own 8 rfl | assumption | exact .own 9 rfl | exact .own 10 rfl | exact .own 11 rfl | exact .own 12 rfl | exact .arg haNr | exact .arg hbNr | exact .arg haF | exact .arg hbF | exact .arg (haNi _ (by omega)) | exact .arg (hbNi _ (by omega))) (by decide) (by omega)) trivial rfl ?_ | refine HeldK.first 13 (fuel := 6) (listed' := #[true, true, true, true, true, true, true, true, true, true, true, true, true, true, false, false, false, false, false, false]) _ rfl (by kernel_rfl) rfl rfl (Yl.idxK sl23 rfl rfl (by first | exact .arg ‹_› | exact .own 0 rfl | exact .own 1 rfl | exact .own 2 rfl | exact .own 3 rfl | exact .own 4 rfl | exact .own 5 rfl | exact .own 6 rfl | exact .own 7 rfl | exact .own 8 rfl | assumption | exact .own 9 rfl | exact .own 10 rfl | exact .own 11 rfl | exact .own 12 rfl | exact .arg haNr | exact .arg hbNr | exact .arg haF | exact .arg hbF | exact .arg (haNi _ (by omega)) | exact .arg (hbNi _ (by omega))) (by decide) (by omega)) trivial rfl ?_
  refine HeldK.first 14 (fuel := 5) (listed' := #[true, true, true, true, true, true, true, true, true, true, true, true, true, true, true, false, false, false, false, false]) _ rfl (by kernel_rfl) rfl rfl (Yl.loadV on38 rfl (by first | exact .arg ‹_› | exact .own 0 rfl | exact .own 1 rfl | exact .own 2 rfl | exact .own 3 rfl | exact .own 4 rfl | exact .own 5 rfl | exact .own 6 rfl | exact .own 7 rfl | exact .own 8 rfl | assumption | exact .own 9 rfl | exact .own 10 rfl | exact .own 11 rfl | exact .own 12 rfl | exact .arg haNr | exact .arg hbNr | exact .arg haF | exact .arg hbF | exact .arg (haNi _ (by omega)) | exact .arg (hbNi _ (by omega))) (by omega)) trivial rfl ?_
  refine HeldK.first 15 (fuel := 4) (listed' := #[true, true, true, true, true, true, true, true, true, true, true, true, true, true, true, true, false, false, false, false]) _ rfl (by kernel_rfl) rfl rfl (Yl.move rfl) trivial rfl ?_
  first | refine HeldK.first 16 (fuel := 3) (listed' := #[true, true, true, true, true, true, true, true, true, true, true, true, true, true, true, true, true, false, false, false]) _ rfl (by kernel_rfl) rfl rfl (Yl.idxN sl38 rfl rfl (by first | exact .arg ‹_› | exact .own 0 rfl | exact .own 1 rfl | exact .own 2 rfl | exact .own 3 rfl | exact .own 4 rfl | exact .own 5 rfl | exact .own 6 rfl | exact .own 7 rfl | exact .own 8 rfl | assumption | exact .own 9 rfl | exact .own 10 rfl | exact .own 11 rfl | exact .own 12 rfl | exact .arg haNr | exact .arg hbNr | exact .arg haF | exact .arg hbF | exact .arg (haNi _ (by omega)) | exact .arg (hbNi _ (by omega))) (by decide) (by omega)) trivial rfl ?_ | refine HeldK.first 16 (fuel := 3) (listed' := #[true, true, true, true, true, true, true, true, true, true, true, true, true, true, true, true, true, false, false, false]) _ rfl (by kernel_rfl) rfl rfl (Yl.idx sl38 rfl rfl (by first | exact .arg ‹_› | exact .own 0 rfl | exact .own 1 rfl | exact .own 2 rfl | exact .own 3 rfl | exact .own 4 rfl | exact .own 5 rfl | exact .own 6 rfl | exact .own 7 rfl | exact .own 8 rfl | assumption | exact .own 9 rfl | exact .own 10 rfl | exact .own 11 rfl | exact .own 12 rfl | exact .arg haNr | exact .arg hbNr | exact .arg haF | exact .arg hbF | exact .arg (haNi _ (by omega)) | exact .arg (hbNi _ (by omega))) (by decide) (by omega)) trivial rfl ?_ | refine HeldK.first 16 (fuel := 3) (listed' := #[true, true, true, true, true, true, true, true, true, true, true, true, true, true, true, true, true, false, false, false]) _ rfl (by kernel_rfl) rfl rfl (Yl.idxK sl38 rfl rfl (by first | exact .arg ‹_› | exact .own 0 rfl | exact .own 1 rfl | exact .own 2 rfl | exact .own 3 rfl | exact .own 4 rfl | exact .own 5 rfl | exact .own 6 rfl | exact .own 7 rfl | exact .own 8 rfl | assumption | exact .own 9 rfl | exact .own 10 rfl | exact .own 11 rfl | exact .own 12 rfl | exact .arg haNr | exact .arg hbNr | exact .arg haF | exact .arg hbF | exact .arg (haNi _ (by omega)) | exact .arg (hbNi _ (by omega))) (by decide) (by omega)) trivial rfl ?_
  refine HeldK.first 17 (fuel := 2) (listed' := #[true, true, true, true, true, true, true, true, true, true, true, true, true, true, true, true, true, true, false, false]) _ rfl (by kernel_rfl) rfl rfl (Yl.loadI on3 rfl (by first | exact .arg ‹_› | exact .own 0 rfl | exact .own 1 rfl | exact .own 2 rfl | exact .own 3 rfl | exact .own 4 rfl | exact .own 5 rfl | exact .own 6 rfl | exact .own 7 rfl | exact .own 8 rfl | assumption | exact .own 9 rfl | exact .own 10 rfl | exact .own 11 rfl | exact .own 12 rfl | exact .arg haNr | exact .arg hbNr | exact .arg haF | exact .arg hbF | exact .arg (haNi _ (by omega)) | exact .arg (hbNi _ (by omega))) (by omega)) trivial rfl ?_
  refine HeldK.first 18 (fuel := 1) (listed' := #[true, true, true, true, true, true, true, true, true, true, true, true, true, true, true, true, true, true, true, false]) _ rfl (by kernel_rfl) rfl rfl (Yl.build (parts := [(0, .tmp 15), (1, .tmp 24)]) (cs := #[.int .i64 (stepQ a p1 x), .int .i64 (stepQ b p2 x)]) rfl (by kernel_rfl)) trivial rfl ?_
  refine HeldK.one 19 (fuel := 0) (listed' := #[true, true, true, true, true, true, true, true, true, true, true, true, true, true, true, true, true, true, true, true]) (by kernel_rfl) rfl rfl ?_
  refine AK.storeBox 1 (us := [.int .i64 (stepQ a p1 x), .int .i64 (stepQ b p2 x)]) (cs' := [.int .i64 (stepQ a p1 x), .int .i64 (stepQ b p2 x)]) rfl sz72 rfl rfl rfl rfl (by repeat (first | exact one'_nil | refine one'_cons (by first | rfl | exact IsSl.one (by assumption) | exact IsSl.one nilSl) ?_)) (Nat.le_of_ble_eq_true rfl) rfl trivial ?_
  refine AK.nil ?_
  try (conv => enter [2, 2]; dsimp only [List.set_cons_zero, List.set_cons_succ, List.cons_append, List.nil_append])
  refine HeldK.backN 20 rfl rfl (by kernel_rfl) ?_
  refine AK.nil ?_
  refine AK.fromQn ?_
  refine AK.then_ (hK2 _ ?_)
  refine AK.ret ?_
  refine AK.retG [.cell 6 72] rfl (.cons (.cell ag72 rfl (by first | exact .own 0 rfl | exact .own 1 rfl | exact .own 2 rfl | exact .own 3 rfl | exact .own 4 rfl | exact .own 5 rfl | exact .own 6 rfl | exact .own 7 rfl | exact .own 8 rfl | exact .own 9 rfl | exact .own 10 rfl | exact .own 11 rfl | exact .own 12 rfl | assumption | exact BoxS.arg (by assumption)) rfl rfl) (.nil)) (fun w hw => ⟨_, _, ?_, rfl, Ret.of (hw.pick [] (by decide) rfl rfl)⟩)
  exact ⟨rfl, rfl⟩

set_option maxRecDepth 100000 in
theorem s_prod2 (w : World) (p1 p2 op : Int) (x3 : Nat) (ho : 0 ≤ op ∧ op ≤ 15) (hx3 : BxA w x3 [.int .i64 op]) (x1 x2 : Nat) (a b : Dfa) (aF aN bF bN : Value) (ha : VD a) (hb : VD b) (hL : a.L = b.L) (hx1 : BxA w x1 [.int .i64 a.L, .int .i64 a.s, aF, aN]) (hx2 : BxA w x2 [.int .i64 b.L, .int .i64 b.s, bF, bN]) (haF0 : RdL (fun _ => False) Value.bool w aF a.fin) (haN : RdLL (fun _ => False) (Value.int .i64) w aN a.nx) (hbF0 : RdL (fun _ => False) Value.bool w bF b.fin) (hbN : RdLL (fun _ => False) (Value.int .i64) w bN b.nx) (hp : (0 ≤ p1 ∧ p1 < a.fin.length) ∧ (0 ≤ p2 ∧ p2 < b.fin.length)) : CallS Try.prog 58 [.agg #[.int .i64 p1, .int .i64 p2], .pointer (some ⟨x1, 0, none⟩), .pointer (some ⟨x2, 0, none⟩), .pointer (some ⟨x3, 0, none⟩)] w (fun r o => r = .bool (finP a b op (p1, p2)) ∧ o = []) := by
  obtain ⟨ra, hra, haNr, haNi⟩ := haN
  obtain ⟨rb, hrb, hbNr, hbNi⟩ := hbN
  have haF := haF0
  have hbF := hbF0
  unfold RdL at haF hbF
  have n1 := ha.nx
  have n2 := hb.nx
  refine spec_of Try.func58 rfl (Nat.le_of_ble_eq_true rfl) ?_
  refine AK.seq (fun _ hK1 => ?_)
  refine AK.region ?_
  refine AK.box_ (E := 72) (cs := [.int .i64 p1, .int .i64 p2]) rfl rfl rfl trivial rfl (fun bx4 => ?_)
  refine AK.val _ (Yl.assign rfl) trivial rfl ?_
  refine AK.nil ?_
  refine AK.then_ (hK1 _ ?_)
  refine AK.seq (fun _ hK2 => ?_)
  refine AK.region ?_
  refine AK.val _ (Yl.assign rfl) trivial rfl ?_
  refine AK.nil ?_
  refine AK.then_ (hK2 _ ?_)
  refine AK.seq (fun _ hK3 => ?_)
  refine AK.seq (fun _ hK4 => ?_)
  refine AK.region ?_
  refine AK.val _ (Yl.fieldAddr fd25_2 rfl) trivial rfl ?_
  refine AK.val _ (Yl.loadBox on22 rfl (by first | exact .own 0 rfl | exact .own 1 rfl | exact .own 2 rfl | exact .own 3 rfl | exact .own 4 rfl | exact .own 5 rfl | exact .own 6 rfl | exact .own 7 rfl | exact .own 8 rfl | exact .own 9 rfl | exact .own 10 rfl | exact .own 11 rfl | exact .own 12 rfl | assumption | exact BoxS.arg (by assumption)) rfl) trivial rfl ?_
  refine AK.val _ (Yl.idxArr 0 ar72 rfl rfl (by decide)) trivial rfl ?_
  refine AK.val _ (Yl.loadBox on3 rfl (by first | exact .own 0 rfl | exact .own 1 rfl | exact .own 2 rfl | exact .own 3 rfl | exact .own 4 rfl | exact .own 5 rfl | exact .own 6 rfl | exact .own 7 rfl | exact .own 8 rfl | exact .own 9 rfl | exact .own 10 rfl | exact .own 11 rfl | exact .own 12 rfl | assumption | exact BoxS.arg (by assumption)) rfl) trivial rfl ?_
  first | refine AK.val _ (Yl.idxN sl22 rfl rfl (by first | exact .arg ‹_› | exact .own 0 rfl | exact .own 1 rfl | exact .own 2 rfl | exact .own 3 rfl | exact .own 4 rfl | exact .own 5 rfl | exact .own 6 rfl | exact .own 7 rfl | exact .own 8 rfl | assumption | exact .own 9 rfl | exact .own 10 rfl | exact .own 11 rfl | exact .own 12 rfl | exact .arg haNr | exact .arg hbNr | exact .arg haF | exact .arg hbF | exact .arg (haNi _ (by omega)) | exact .arg (hbNi _ (by omega))) (by decide) (by omega)) trivial rfl ?_ | refine AK.val _ (Yl.idx sl22 rfl rfl (by first | exact .arg ‹_› | exact .own 0 rfl | exact .own 1 rfl | exact .own 2 rfl | exact .own 3 rfl | exact .own 4 rfl | exact .own 5 rfl | exact .own 6 rfl | exact .own 7 rfl | exact .own 8 rfl | assumption | exact .own 9 rfl | exact .own 10 rfl | exact .own 11 rfl | exact .own 12 rfl | exact .arg haNr | exact .arg hbNr | exact .arg haF | exact .arg hbF | exact .arg (haNi _ (by omega)) | exact .arg (hbNi _ (by omega))) (by decide) (by omega)) trivial rfl ?_ | refine AK.val _ (Yl.idxK sl22 rfl rfl (by first | exact .arg ‹_› | exact .own 0 rfl | exact .own 1 rfl | exact .own 2 rfl | exact .own 3 rfl | exact .own 4 rfl | exact .own 5 rfl | exact .own 6 rfl | exact .own 7 rfl | exact .own 8 rfl | assumption | exact .own 9 rfl | exact .own 10 rfl | exact .own 11 rfl | exact .own 12 rfl | exact .arg haNr | exact .arg hbNr | exact .arg haF | exact .arg hbF | exact .arg (haNi _ (by omega)) | exact .arg (hbNi _ (by omega))) (by decide) (by omega)) trivial rfl ?_
  refine AK.val _ (Yl.loadB on4 rfl (by first | exact .arg ‹_› | exact .own 0 rfl | exact .own 1 rfl | exact .own 2 rfl | exact .own 3 rfl | exact .own 4 rfl | exact .own 5 rfl | exact .own 6 rfl | exact .own 7 rfl | exact .own 8 rfl | assumption | exact .own 9 rfl | exact .own 10 rfl | exact .own 11 rfl | exact .own 12 rfl | exact .arg haNr | exact .arg hbNr | exact .arg haF | exact .arg hbF | exact .arg (haNi _ (by omega)) | exact .arg (hbNi _ (by omega))) (by omega)) trivial rfl ?_
  refine AK.nil ?_
  refine AK.then_ (hK4 _ ?_)
  refine AK.cond rfl (fun hc0 => ?_) (fun hc0 => ?_)
  · try simp only [decide_eq_true_eq, decide_eq_false_iff_not, Bool.not_eq_true', Bool.not_eq_false', Bool.not_not, ne_eq, Decidable.not_not, Int.not_lt, Int.not_le, beq_iff_eq, bne_iff_ne, Bool.and_eq_true, Bool.or_eq_true, Bool.or_eq_false_iff, Bool.not_false, Bool.not_true, reduceCtorEq, not_true_eq_false, not_false_eq_true] at hc0
    refine AK.region ?_
    refine AK.val _ (Yl.move rfl) trivial rfl ?_
    refine AK.val _ (Yl.add rfl rfl (by omega)) trivial rfl ?_
    refine AK.val _ (Yl.assign rfl) trivial rfl ?_
    refine AK.nil ?_
    refine AK.then_ (hK3 _ ?_)
    refine AK.seq (fun _ hK5 => ?_)
    refine AK.seq (fun _ hK6 => ?_)
    refine AK.region ?_
    refine AK.val _ (Yl.fieldAddr fd25_2 rfl) trivial rfl ?_
    refine AK.val _ (Yl.loadBox on22 rfl (by first | exact .own 0 rfl | exact .own 1 rfl | exact .own 2 rfl | exact .own 3 rfl | exact .own 4 rfl | exact .own 5 rfl | exact .own 6 rfl | exact .own 7 rfl | exact .own 8 rfl | exact .own 9 rfl | exact .own 10 rfl | exact .own 11 rfl | exact .own 12 rfl | assumption | exact BoxS.arg (by assumption)) rfl) trivial rfl ?_
    refine AK.val _ (Yl.idxArr 1 ar72 rfl rfl (by decide)) trivial rfl ?_
    refine AK.val _ (Yl.loadBox on3 rfl (by first | exact .own 0 rfl | exact .own 1 rfl | exact .own 2 rfl | exact .own 3 rfl | exact .own 4 rfl | exact .own 5 rfl | exact .own 6 rfl | exact .own 7 rfl | exact .own 8 rfl | exact .own 9 rfl | exact .own 10 rfl | exact .own 11 rfl | exact .own 12 rfl | assumption | exact BoxS.arg (by assumption)) rfl) trivial rfl ?_
    first | refine AK.val _ (Yl.idxN sl22 rfl rfl (by first | exact .arg ‹_› | exact .own 0 rfl | exact .own 1 rfl | exact .own 2 rfl | exact .own 3 rfl | exact .own 4 rfl | exact .own 5 rfl | exact .own 6 rfl | exact .own 7 rfl | exact .own 8 rfl | assumption | exact .own 9 rfl | exact .own 10 rfl | exact .own 11 rfl | exact .own 12 rfl | exact .arg haNr | exact .arg hbNr | exact .arg haF | exact .arg hbF | exact .arg (haNi _ (by omega)) | exact .arg (hbNi _ (by omega))) (by decide) (by omega)) trivial rfl ?_ | refine AK.val _ (Yl.idx sl22 rfl rfl (by first | exact .arg ‹_› | exact .own 0 rfl | exact .own 1 rfl | exact .own 2 rfl | exact .own 3 rfl | exact .own 4 rfl | exact .own 5 rfl | exact .own 6 rfl | exact .own 7 rfl | exact .own 8 rfl | assumption | exact .own 9 rfl | exact .own 10 rfl | exact .own 11 rfl | exact .own 12 rfl | exact .arg haNr | exact .arg hbNr | exact .arg haF | exact .arg hbF | exact .arg (haNi _ (by omega)) | exact .arg (hbNi _ (by omega))) (by decide) (by omega)) trivial rfl ?_ | refine AK.val _ (Yl.idxK sl22 rfl rfl (by first | exact .arg ‹_› | exact .own 0 rfl | exact .own 1 rfl | exact .own 2 rfl | exact .own 3 rfl | exact .own 4 rfl | exact .own 5 rfl | exact .own 6 rfl | exact .own 7 rfl | exact .own 8 rfl | assumption | exact .own 9 rfl | exact .own 10 rfl | exact .own 11 rfl | exact .own 12 rfl | exact .arg haNr | exact .arg hbNr | exact .arg haF | exact .arg hbF | exact .arg (haNi _ (by omega)) | exact .arg (hbNi _ (by omega))) (by decide) (by omega)) trivial rfl ?_
    refine AK.val _ (Yl.loadB on4 rfl (by first | exact .arg ‹_› | exact .own 0 rfl | exact .own 1 rfl | exact .own 2 rfl | exact .own 3 rfl | exact .own 4 rfl | exact .own 5 rfl | exact .own 6 rfl | exact .own 7 rfl | exact .own 8 rfl | assumption | exact .own 9 rfl | exact .own 10 rfl | exact .own 11 rfl | exact .own 12 rfl | exact .arg haNr | exact .arg hbNr | exact .arg haF | exact .arg hbF | exact .arg (haNi _ (by omega)) | exact .arg (hbNi _ (by omega))) (by omega)) trivial rfl ?_
    refine AK.nil ?_
    refine AK.then_ (hK6 _ ?_)
    refine AK.cond rfl (fun hc1 => ?_) (fun hc1 => ?_)
    · try simp only [decide_eq_true_eq, decide_eq_false_iff_not, Bool.not_eq_true', Bool.not_eq_false', Bool.not_not, ne_eq, Decidable.not_not, Int.not_lt, Int.not_le, beq_iff_eq, bne_iff_ne, Bool.and_eq_true, Bool.or_eq_true, Bool.or_eq_false_iff, Bool.not_false, Bool.not_true, reduceCtorEq, not_true_eq_false, not_false_eq_true] at hc1
      refine AK.region ?_
      refine AK.val _ (Yl.move rfl) trivial rfl ?_
      refine AK.val _ (Yl.add rfl rfl (by omega)) trivial rfl ?_
      refine AK.val _ (Yl.assign rfl) trivial rfl ?_
      refine AK.nil ?_
      refine AK.then_ (hK5 _ ?_)
      refine AK.seq (fun _ hK7 => ?_)
      refine AK.region ?_
      refine AK.val _ (Yl.loadBox on3 rfl (by first | exact .own 0 rfl | exact .own 1 rfl | exact .own 2 rfl | exact .own 3 rfl | exact .own 4 rfl | exact .own 5 rfl | exact .own 6 rfl | exact .own 7 rfl | exact .own 8 rfl | exact .own 9 rfl | exact .own 10 rfl | exact .own 11 rfl | exact .own 12 rfl | assumption | exact BoxS.arg (by assumption)) rfl) trivial rfl ?_
      refine AK.val _ (Yl.move rfl) trivial rfl ?_
      refine AK.val _ (Yl.shr rfl rfl (by omega) (by omega)) trivial rfl ?_
      refine AK.val _ (Yl.and1 rfl rfl (div_bd ho _)) trivial rfl ?_
      refine AK.val _ (Yl.eql rfl rfl) trivial rfl ?_
      refine AK.val _ (Yl.assign rfl) trivial rfl ?_
      refine AK.nil ?_
      refine AK.then_ (hK7 _ ?_)
      refine AK.ret ?_
      refine AK.ret1 rfl rfl (fun w hw => ⟨_, _, ?_, rfl, Ret.of (hw.pick [] (by decide) rfl rfl)⟩)
      refine ⟨congrArg Value.bool ?_, rfl⟩
      have e1 : finQ a p1 = a.fin.getD p1.toNat false := rfl
      have e2 : finQ b p2 = b.fin.getD p2.toNat false := rfl
      unfold finP byB; dsimp only; rw [e1, e2, hc0, hc1]; rfl
    · try simp only [decide_eq_true_eq, decide_eq_false_iff_not, Bool.not_eq_true', Bool.not_eq_false', Bool.not_not, ne_eq, Decidable.not_not, Int.not_lt, Int.not_le, beq_iff_eq, bne_iff_ne, Bool.and_eq_true, Bool.or_eq_true, Bool.or_eq_false_iff, Bool.not_false, Bool.not_true, reduceCtorEq, not_true_eq_false, not_false_eq_true] at hc1
      refine AK.skip ?_
      refine AK.then_ (hK5 _ ?_)
      refine AK.seq (fun _ hK8 => ?_)
      refine AK.region ?_
      refine AK.val _ (Yl.loadBox on3 rfl (by first | exact .own 0 rfl | exact .own 1 rfl | exact .own 2 rfl | exact .own 3 rfl | exact .own 4 rfl | exact .own 5 rfl | exact .own 6 rfl | exact .own 7 rfl | exact .own 8 rfl | exact .own 9 rfl | exact .own 10 rfl | exact .own 11 rfl | exact .own 12 rfl | assumption | exact BoxS.arg (by assumption)) rfl) trivial rfl ?_
      refine AK.val _ (Yl.move rfl) trivial rfl ?_
      refine AK.val _ (Yl.shr rfl rfl (by omega) (by omega)) trivial rfl ?_
      refine AK.val _ (Yl.and1 rfl rfl (div_bd ho _)) trivial rfl ?_
      refine AK.val _ (Yl.eql rfl rfl) trivial rfl ?_
      refine AK.val _ (Yl.assign rfl) trivial rfl ?_
      refine AK.nil ?_
      refine AK.then_ (hK8 _ ?_)
      refine AK.ret ?_
      refine AK.ret1 rfl rfl (fun w hw => ⟨_, _, ?_, rfl, Ret.of (hw.pick [] (by decide) rfl rfl)⟩)
      refine ⟨congrArg Value.bool ?_, rfl⟩
      have e1 : finQ a p1 = a.fin.getD p1.toNat false := rfl
      have e2 : finQ b p2 = b.fin.getD p2.toNat false := rfl
      unfold finP byB; dsimp only; rw [e1, e2, hc0, hc1]; rfl
  · try simp only [decide_eq_true_eq, decide_eq_false_iff_not, Bool.not_eq_true', Bool.not_eq_false', Bool.not_not, ne_eq, Decidable.not_not, Int.not_lt, Int.not_le, beq_iff_eq, bne_iff_ne, Bool.and_eq_true, Bool.or_eq_true, Bool.or_eq_false_iff, Bool.not_false, Bool.not_true, reduceCtorEq, not_true_eq_false, not_false_eq_true] at hc0
    refine AK.skip ?_
    refine AK.then_ (hK3 _ ?_)
    refine AK.seq (fun _ hK9 => ?_)
    refine AK.seq (fun _ hK10 => ?_)
    refine AK.region ?_
    refine AK.val _ (Yl.fieldAddr fd25_2 rfl) trivial rfl ?_
    refine AK.val _ (Yl.loadBox on22 rfl (by first | exact .own 0 rfl | exact .own 1 rfl | exact .own 2 rfl | exact .own 3 rfl | exact .own 4 rfl | exact .own 5 rfl | exact .own 6 rfl | exact .own 7 rfl | exact .own 8 rfl | exact .own 9 rfl | exact .own 10 rfl | exact .own 11 rfl | exact .own 12 rfl | assumption | exact BoxS.arg (by assumption)) rfl) trivial rfl ?_
    refine AK.val _ (Yl.idxArr 1 ar72 rfl rfl (by decide)) trivial rfl ?_
    refine AK.val _ (Yl.loadBox on3 rfl (by first | exact .own 0 rfl | exact .own 1 rfl | exact .own 2 rfl | exact .own 3 rfl | exact .own 4 rfl | exact .own 5 rfl | exact .own 6 rfl | exact .own 7 rfl | exact .own 8 rfl | exact .own 9 rfl | exact .own 10 rfl | exact .own 11 rfl | exact .own 12 rfl | assumption | exact BoxS.arg (by assumption)) rfl) trivial rfl ?_
    first | refine AK.val _ (Yl.idxN sl22 rfl rfl (by first | exact .arg ‹_› | exact .own 0 rfl | exact .own 1 rfl | exact .own 2 rfl | exact .own 3 rfl | exact .own 4 rfl | exact .own 5 rfl | exact .own 6 rfl | exact .own 7 rfl | exact .own 8 rfl | assumption | exact .own 9 rfl | exact .own 10 rfl | exact .own 11 rfl | exact .own 12 rfl | exact .arg haNr | exact .arg hbNr | exact .arg haF | exact .arg hbF | exact .arg (haNi _ (by omega)) | exact .arg (hbNi _ (by omega))) (by decide) (by omega)) trivial rfl ?_ | refine AK.val _ (Yl.idx sl22 rfl rfl (by first | exact .arg ‹_› | exact .own 0 rfl | exact .own 1 rfl | exact .own 2 rfl | exact .own 3 rfl | exact .own 4 rfl | exact .own 5 rfl | exact .own 6 rfl | exact .own 7 rfl | exact .own 8 rfl | assumption | exact .own 9 rfl | exact .own 10 rfl | exact .own 11 rfl | exact .own 12 rfl | exact .arg haNr | exact .arg hbNr | exact .arg haF | exact .arg hbF | exact .arg (haNi _ (by omega)) | exact .arg (hbNi _ (by omega))) (by decide) (by omega)) trivial rfl ?_ | refine AK.val _ (Yl.idxK sl22 rfl rfl (by first | exact .arg ‹_› | exact .own 0 rfl | exact .own 1 rfl | exact .own 2 rfl | exact .own 3 rfl | exact .own 4 rfl | exact .own 5 rfl | exact .own 6 rfl | exact .own 7 rfl | exact .own 8 rfl | assumption | exact .own 9 rfl | exact .own 10 rfl | exact .own 11 rfl | exact .own 12 rfl | exact .arg haNr | exact .arg hbNr | exact .arg haF | exact .arg hbF | exact .arg (haNi _ (by omega)) | exact .arg (hbNi _ (by omega))) (by decide) (by omega)) trivial rfl ?_
    refine AK.val _ (Yl.loadB on4 rfl (by first | exact .arg ‹_› | exact .own 0 rfl | exact .own 1 rfl | exact .own 2 rfl | exact .own 3 rfl | exact .own 4 rfl | exact .own 5 rfl | exact .own 6 rfl | exact .own 7 rfl | exact .own 8 rfl | assumption | exact .own 9 rfl | exact .own 10 rfl | exact .own 11 rfl | exact .own 12 rfl | exact .arg haNr | exact .arg hbNr | exact .arg haF | exact .arg hbF | exact .arg (haNi _ (by omega)) | exact .arg (hbNi _ (by omega))) (by omega)) trivial rfl ?_
    refine AK.nil ?_
    refine AK.then_ (hK10 _ ?_)
    refine AK.cond rfl (fun hc1 => ?_) (fun hc1 => ?_)
    · try simp only [decide_eq_true_eq, decide_eq_false_iff_not, Bool.not_eq_true', Bool.not_eq_false', Bool.not_not, ne_eq, Decidable.not_not, Int.not_lt, Int.not_le, beq_iff_eq, bne_iff_ne, Bool.and_eq_true, Bool.or_eq_true, Bool.or_eq_false_iff, Bool.not_false, Bool.not_true, reduceCtorEq, not_true_eq_false, not_false_eq_true] at hc1
      refine AK.region ?_
      refine AK.val _ (Yl.move rfl) trivial rfl ?_
      refine AK.val _ (Yl.add rfl rfl (by omega)) trivial rfl ?_
      refine AK.val _ (Yl.assign rfl) trivial rfl ?_
      refine AK.nil ?_
      refine AK.then_ (hK9 _ ?_)
      refine AK.seq (fun _ hK11 => ?_)
      refine AK.region ?_
      refine AK.val _ (Yl.loadBox on3 rfl (by first | exact .own 0 rfl | exact .own 1 rfl | exact .own 2 rfl | exact .own 3 rfl | exact .own 4 rfl | exact .own 5 rfl | exact .own 6 rfl | exact .own 7 rfl | exact .own 8 rfl | exact .own 9 rfl | exact .own 10 rfl | exact .own 11 rfl | exact .own 12 rfl | assumption | exact BoxS.arg (by assumption)) rfl) trivial rfl ?_
      refine AK.val _ (Yl.move rfl) trivial rfl ?_
      refine AK.val _ (Yl.shr rfl rfl (by omega) (by omega)) trivial rfl ?_
      refine AK.val _ (Yl.and1 rfl rfl (div_bd ho _)) trivial rfl ?_
      refine AK.val _ (Yl.eql rfl rfl) trivial rfl ?_
      refine AK.val _ (Yl.assign rfl) trivial rfl ?_
      refine AK.nil ?_
      refine AK.then_ (hK11 _ ?_)
      refine AK.ret ?_
      refine AK.ret1 rfl rfl (fun w hw => ⟨_, _, ?_, rfl, Ret.of (hw.pick [] (by decide) rfl rfl)⟩)
      refine ⟨congrArg Value.bool ?_, rfl⟩
      have e1 : finQ a p1 = a.fin.getD p1.toNat false := rfl
      have e2 : finQ b p2 = b.fin.getD p2.toNat false := rfl
      unfold finP byB; dsimp only; rw [e1, e2, hc0, hc1]; rfl
    · try simp only [decide_eq_true_eq, decide_eq_false_iff_not, Bool.not_eq_true', Bool.not_eq_false', Bool.not_not, ne_eq, Decidable.not_not, Int.not_lt, Int.not_le, beq_iff_eq, bne_iff_ne, Bool.and_eq_true, Bool.or_eq_true, Bool.or_eq_false_iff, Bool.not_false, Bool.not_true, reduceCtorEq, not_true_eq_false, not_false_eq_true] at hc1
      refine AK.skip ?_
      refine AK.then_ (hK9 _ ?_)
      refine AK.seq (fun _ hK12 => ?_)
      refine AK.region ?_
      refine AK.val _ (Yl.loadBox on3 rfl (by first | exact .own 0 rfl | exact .own 1 rfl | exact .own 2 rfl | exact .own 3 rfl | exact .own 4 rfl | exact .own 5 rfl | exact .own 6 rfl | exact .own 7 rfl | exact .own 8 rfl | exact .own 9 rfl | exact .own 10 rfl | exact .own 11 rfl | exact .own 12 rfl | assumption | exact BoxS.arg (by assumption)) rfl) trivial rfl ?_
      refine AK.val _ (Yl.move rfl) trivial rfl ?_
      refine AK.val _ (Yl.shr rfl rfl (by omega) (by omega)) trivial rfl ?_
      refine AK.val _ (Yl.and1 rfl rfl (div_bd ho _)) trivial rfl ?_
      refine AK.val _ (Yl.eql rfl rfl) trivial rfl ?_
      refine AK.val _ (Yl.assign rfl) trivial rfl ?_
      refine AK.nil ?_
      refine AK.then_ (hK12 _ ?_)
      refine AK.ret ?_
      refine AK.ret1 rfl rfl (fun w hw => ⟨_, _, ?_, rfl, Ret.of (hw.pick [] (by decide) rfl rfl)⟩)
      refine ⟨congrArg Value.bool ?_, rfl⟩
      have e1 : finQ a p1 = a.fin.getD p1.toNat false := rfl
      have e2 : finQ b p2 = b.fin.getD p2.toNat false := rfl
      unfold finP byB; dsimp only; rw [e1, e2, hc0, hc1]; rfl

set_option maxRecDepth 100000 in
theorem s_by (w : World) (op : Int) (p q : Bool) (ho : 0 ≤ op ∧ op ≤ 15) : CallS Try.prog 44 [.int .i64 op, .bool p, .bool q] w (fun r o => r = .bool (byB op p q) ∧ o = []) := by
  refine spec_of Try.func44 rfl (Nat.le_of_ble_eq_true rfl) ?_
  refine AK.seq (fun _ hK1 => ?_)
  refine AK.region ?_
  refine AK.val _ (Yl.assign rfl) trivial rfl ?_
  refine AK.nil ?_
  refine AK.then_ (hK1 _ ?_)
  refine AK.seq (fun _ hK2 => ?_)
  refine AK.region ?_
  refine AK.val _ (Yl.assign rfl) trivial rfl ?_
  refine AK.nil ?_
  refine AK.then_ (hK2 _ ?_)
  refine AK.seq (fun _ hK3 => ?_)
  refine AK.seq (fun _ hK4 => ?_)
  refine AK.region ?_
  refine AK.val _ (Yl.move rfl) trivial rfl ?_
  refine AK.nil ?_
  refine AK.then_ (hK4 _ ?_)
  refine AK.cond rfl (fun hc0 => ?_) (fun hc0 => ?_)
  · try simp only [decide_eq_true_eq, decide_eq_false_iff_not, Bool.not_eq_true', Bool.not_eq_false', Bool.not_not, ne_eq, Decidable.not_not, Int.not_lt, Int.not_le, beq_iff_eq, bne_iff_ne, Bool.and_eq_true, Bool.or_eq_true, Bool.or_eq_false_iff, Bool.not_false, Bool.not_true, reduceCtorEq, not_true_eq_false, not_false_eq_true] at hc0
    refine AK.region ?_
    refine AK.val _ (Yl.assign rfl) trivial rfl ?_
    refine AK.nil ?_
    refine AK.then_ (hK3 _ ?_)
    refine AK.seq (fun _ hK5 => ?_)
    refine AK.seq (fun _ hK6 => ?_)
    refine AK.region ?_
    refine AK.val _ (Yl.move rfl) trivial rfl ?_
    refine AK.nil ?_
    refine AK.then_ (hK6 _ ?_)
    refine AK.cond rfl (fun hc1 => ?_) (fun hc1 => ?_)
    · try simp only [decide_eq_true_eq, decide_eq_false_iff_not, Bool.not_eq_true', Bool.not_eq_false', Bool.not_not, ne_eq, Decidable.not_not, Int.not_lt, Int.not_le, beq_iff_eq, bne_iff_ne, Bool.and_eq_true, Bool.or_eq_true, Bool.or_eq_false_iff, Bool.not_false, Bool.not_true, reduceCtorEq, not_true_eq_false, not_false_eq_true] at hc1
      refine AK.region ?_
      refine AK.val _ (Yl.move rfl) trivial rfl ?_
      refine AK.val _ (Yl.add rfl rfl (by omega)) trivial rfl ?_
      refine AK.val _ (Yl.assign rfl) trivial rfl ?_
      refine AK.nil ?_
      refine AK.then_ (hK5 _ ?_)
      refine AK.seq (fun _ hK7 => ?_)
      refine AK.region ?_
      refine AK.val _ (Yl.move rfl) trivial rfl ?_
      refine AK.val _ (Yl.move rfl) trivial rfl ?_
      refine AK.val _ (Yl.convI (by kernel_rfl) un79 rfl (wrap_u64 (by omega))) trivial rfl ?_
      refine AK.val _ (Yl.shr rfl rfl (by omega) (by omega)) trivial rfl ?_
      refine AK.val _ (Yl.and1 rfl rfl (div_bd ho _)) trivial rfl ?_
      refine AK.val _ (Yl.eql rfl rfl) trivial rfl ?_
      refine AK.val _ (Yl.assign rfl) trivial rfl ?_
      refine AK.nil ?_
      refine AK.then_ (hK7 _ ?_)
      refine AK.ret ?_
      refine AK.ret1 rfl rfl (fun w hw => ⟨_, _, ?_, rfl, Ret.of (hw.pick [] (by decide) rfl rfl)⟩)
      refine ⟨congrArg Value.bool ?_, rfl⟩
      unfold byB; rw [hc0, hc1]; rfl
    · try simp only [decide_eq_true_eq, decide_eq_false_iff_not, Bool.not_eq_true', Bool.not_eq_false', Bool.not_not, ne_eq, Decidable.not_not, Int.not_lt, Int.not_le, beq_iff_eq, bne_iff_ne, Bool.and_eq_true, Bool.or_eq_true, Bool.or_eq_false_iff, Bool.not_false, Bool.not_true, reduceCtorEq, not_true_eq_false, not_false_eq_true] at hc1
      refine AK.skip ?_
      refine AK.then_ (hK5 _ ?_)
      refine AK.seq (fun _ hK8 => ?_)
      refine AK.region ?_
      refine AK.val _ (Yl.move rfl) trivial rfl ?_
      refine AK.val _ (Yl.move rfl) trivial rfl ?_
      refine AK.val _ (Yl.convI (by kernel_rfl) un79 rfl (wrap_u64 (by omega))) trivial rfl ?_
      refine AK.val _ (Yl.shr rfl rfl (by omega) (by omega)) trivial rfl ?_
      refine AK.val _ (Yl.and1 rfl rfl (div_bd ho _)) trivial rfl ?_
      refine AK.val _ (Yl.eql rfl rfl) trivial rfl ?_
      refine AK.val _ (Yl.assign rfl) trivial rfl ?_
      refine AK.nil ?_
      refine AK.then_ (hK8 _ ?_)
      refine AK.ret ?_
      refine AK.ret1 rfl rfl (fun w hw => ⟨_, _, ?_, rfl, Ret.of (hw.pick [] (by decide) rfl rfl)⟩)
      refine ⟨congrArg Value.bool ?_, rfl⟩
      unfold byB; rw [hc0, hc1]; rfl
  · try simp only [decide_eq_true_eq, decide_eq_false_iff_not, Bool.not_eq_true', Bool.not_eq_false', Bool.not_not, ne_eq, Decidable.not_not, Int.not_lt, Int.not_le, beq_iff_eq, bne_iff_ne, Bool.and_eq_true, Bool.or_eq_true, Bool.or_eq_false_iff, Bool.not_false, Bool.not_true, reduceCtorEq, not_true_eq_false, not_false_eq_true] at hc0
    refine AK.skip ?_
    refine AK.then_ (hK3 _ ?_)
    refine AK.seq (fun _ hK9 => ?_)
    refine AK.seq (fun _ hK10 => ?_)
    refine AK.region ?_
    refine AK.val _ (Yl.move rfl) trivial rfl ?_
    refine AK.nil ?_
    refine AK.then_ (hK10 _ ?_)
    refine AK.cond rfl (fun hc1 => ?_) (fun hc1 => ?_)
    · try simp only [decide_eq_true_eq, decide_eq_false_iff_not, Bool.not_eq_true', Bool.not_eq_false', Bool.not_not, ne_eq, Decidable.not_not, Int.not_lt, Int.not_le, beq_iff_eq, bne_iff_ne, Bool.and_eq_true, Bool.or_eq_true, Bool.or_eq_false_iff, Bool.not_false, Bool.not_true, reduceCtorEq, not_true_eq_false, not_false_eq_true] at hc1
      refine AK.region ?_
      refine AK.val _ (Yl.move rfl) trivial rfl ?_
      refine AK.val _ (Yl.add rfl rfl (by omega)) trivial rfl ?_
      refine AK.val _ (Yl.assign rfl) trivial rfl ?_
      refine AK.nil ?_
      refine AK.then_ (hK9 _ ?_)
      refine AK.seq (fun _ hK11 => ?_)
      refine AK.region ?_
      refine AK.val _ (Yl.move rfl) trivial rfl ?_
      refine AK.val _ (Yl.move rfl) trivial rfl ?_
      refine AK.val _ (Yl.convI (by kernel_rfl) un79 rfl (wrap_u64 (by omega))) trivial rfl ?_
      refine AK.val _ (Yl.shr rfl rfl (by omega) (by omega)) trivial rfl ?_
      refine AK.val _ (Yl.and1 rfl rfl (div_bd ho _)) trivial rfl ?_
      refine AK.val _ (Yl.eql rfl rfl) trivial rfl ?_
      refine AK.val _ (Yl.assign rfl) trivial rfl ?_
      refine AK.nil ?_
      refine AK.then_ (hK11 _ ?_)
      refine AK.ret ?_
      refine AK.ret1 rfl rfl (fun w hw => ⟨_, _, ?_, rfl, Ret.of (hw.pick [] (by decide) rfl rfl)⟩)
      refine ⟨congrArg Value.bool ?_, rfl⟩
      unfold byB; rw [hc0, hc1]; rfl
    · try simp only [decide_eq_true_eq, decide_eq_false_iff_not, Bool.not_eq_true', Bool.not_eq_false', Bool.not_not, ne_eq, Decidable.not_not, Int.not_lt, Int.not_le, beq_iff_eq, bne_iff_ne, Bool.and_eq_true, Bool.or_eq_true, Bool.or_eq_false_iff, Bool.not_false, Bool.not_true, reduceCtorEq, not_true_eq_false, not_false_eq_true] at hc1
      refine AK.skip ?_
      refine AK.then_ (hK9 _ ?_)
      refine AK.seq (fun _ hK12 => ?_)
      refine AK.region ?_
      refine AK.val _ (Yl.move rfl) trivial rfl ?_
      refine AK.val _ (Yl.move rfl) trivial rfl ?_
      refine AK.val _ (Yl.convI (by kernel_rfl) un79 rfl (wrap_u64 (by omega))) trivial rfl ?_
      refine AK.val _ (Yl.shr rfl rfl (by omega) (by omega)) trivial rfl ?_
      refine AK.val _ (Yl.and1 rfl rfl (div_bd ho _)) trivial rfl ?_
      refine AK.val _ (Yl.eql rfl rfl) trivial rfl ?_
      refine AK.val _ (Yl.assign rfl) trivial rfl ?_
      refine AK.nil ?_
      refine AK.then_ (hK12 _ ?_)
      refine AK.ret ?_
      refine AK.ret1 rfl rfl (fun w hw => ⟨_, _, ?_, rfl, Ret.of (hw.pick [] (by decide) rfl rfl)⟩)
      refine ⟨congrArg Value.bool ?_, rfl⟩
      unfold byB; rw [hc0, hc1]; rfl

set_option maxRecDepth 100000 in
theorem s_refpair (w : World) (u v : Value) (a b : Dfa) (hu : RdD (fun _ => False) w u a) (hv : RdD (fun _ => False) w v b) : CallS Try.prog 59 [u, v] w (fun r o => r = .int .i64 (pairE a b) ∧ o = []) := by
  have hu0 := hu
  have hv0 := hv
  obtain ⟨aF, aN, rfl, haF, haN⟩ := hu
  obtain ⟨bF, bN, rfl, hbF, hbN⟩ := hv
  have haF0 := haF
  have hbF0 := hbF
  have haN0 := haN
  have hbN0 := hbN
  obtain ⟨ra, hra, haNr, haNi⟩ := haN
  obtain ⟨rb, hrb, hbNr, hbNi⟩ := hbN
  unfold RdL at haF hbF
  have m1 := haF.le
  have m2 := hbF.le
  refine spec_of Try.func59 rfl (Nat.le_of_ble_eq_true rfl) ?_
  refine AK.seq (fun _ hK1 => ?_)
  refine AK.region ?_
  refine AK.box_ (E := 25) (cs := [.int .i64 a.L, .int .i64 a.s, aF, aN]) rfl rfl rfl trivial rfl (fun bx2 => ?_)
  refine AK.box_ (E := 25) (cs := [.int .i64 b.L, .int .i64 b.s, bF, bN]) rfl rfl rfl trivial rfl (fun bx3 => ?_)
  refine AK.val _ (Yl.assign rfl) trivial rfl ?_
  refine AK.nil ?_
  refine AK.then_ (hK1 _ ?_)
  refine AK.seq (fun _ hK2 => ?_)
  refine AK.seq (fun _ hK3 => ?_)
  refine AK.region ?_
  refine AK.val _ (Yl.loadBoxG ag25 rfl (by first | exact .own 0 rfl | exact .own 1 rfl | exact .own 2 rfl | exact .own 3 rfl | exact .own 4 rfl | exact .own 5 rfl | exact .own 6 rfl | exact .own 7 rfl | exact .own 8 rfl | exact .own 9 rfl | exact .own 10 rfl | exact .own 11 rfl | exact .own 12 rfl | assumption | exact BoxS.arg (by assumption)) rfl rfl) trivial rfl ?_
  refine AK.call co16 rfl (fun w hw => s_refvalidate w _ a (hu0.at hw)) trivial rfl ?_
  rintro r o ⟨rfl, rfl⟩
  refine AK.val _ (Yl.assign rfl) trivial rfl ?_
  refine AK.nil ?_
  refine AK.then_ (hK3 _ ?_)
  refine AK.seq (fun _ hK4 => ?_)
  refine AK.region ?_
  refine AK.val _ (Yl.move rfl) trivial rfl ?_
  refine AK.val _ (Yl.neq rfl rfl) trivial rfl ?_
  refine AK.nil ?_
  refine AK.then_ (hK4 _ ?_)
  refine AK.condNe rfl (fun hc0 => ?_) (fun hc0 => ?_)
  · refine AK.seq (fun _ hK5 => ?_)
    refine AK.region ?_
    refine AK.val _ (Yl.move rfl) trivial rfl ?_
    refine AK.val _ (Yl.assign rfl) trivial rfl ?_
    refine AK.nil ?_
    refine AK.then_ (hK5 _ ?_)
    refine AK.ret ?_
    refine AK.then_ret ?_
    refine AK.ret1 rfl rfl (fun w hw => ⟨_, _, ?_, rfl, Ret.of (hw.pick [] (by decide) rfl rfl)⟩)
    refine ⟨congrArg (Value.int .i64) ?_, rfl⟩
    unfold pairE
    rw [if_pos hc0]
  · refine AK.skip ?_
    refine AK.then_ (hK2 _ ?_)
    refine AK.seq (fun _ hK6 => ?_)
    refine AK.seq (fun _ hK7 => ?_)
    refine AK.region ?_
    refine AK.val _ (Yl.loadBoxG ag25 rfl (by first | exact .own 0 rfl | exact .own 1 rfl | exact .own 2 rfl | exact .own 3 rfl | exact .own 4 rfl | exact .own 5 rfl | exact .own 6 rfl | exact .own 7 rfl | exact .own 8 rfl | exact .own 9 rfl | exact .own 10 rfl | exact .own 11 rfl | exact .own 12 rfl | assumption | exact BoxS.arg (by assumption)) rfl rfl) trivial rfl ?_
    refine AK.call co16 rfl (fun w hw => s_refvalidate w _ b (hv0.at hw)) trivial rfl ?_
    rintro r o ⟨rfl, rfl⟩
    refine AK.val _ (Yl.assign rfl) trivial rfl ?_
    refine AK.nil ?_
    refine AK.then_ (hK7 _ ?_)
    refine AK.seq (fun _ hK8 => ?_)
    refine AK.region ?_
    refine AK.val _ (Yl.move rfl) trivial rfl ?_
    refine AK.val _ (Yl.neq rfl rfl) trivial rfl ?_
    refine AK.nil ?_
    refine AK.then_ (hK8 _ ?_)
    refine AK.condNe rfl (fun hc1 => ?_) (fun hc1 => ?_)
    · refine AK.seq (fun _ hK9 => ?_)
      refine AK.region ?_
      refine AK.val _ (Yl.move rfl) trivial rfl ?_
      refine AK.val _ (Yl.assign rfl) trivial rfl ?_
      refine AK.nil ?_
      refine AK.then_ (hK9 _ ?_)
      refine AK.ret ?_
      refine AK.then_ret ?_
      refine AK.ret1 rfl rfl (fun w hw => ⟨_, _, ?_, rfl, Ret.of (hw.pick [] (by decide) rfl rfl)⟩)
      refine ⟨congrArg (Value.int .i64) ?_, rfl⟩
      unfold pairE
      rw [if_neg (by omega), if_pos hc1]
    · refine AK.skip ?_
      refine AK.then_ (hK6 _ ?_)
      refine AK.seq (fun _ hK10 => ?_)
      refine AK.seq (fun _ hK11 => ?_)
      refine AK.region ?_
      refine AK.val _ (Yl.fieldAddr fd25_0 rfl) trivial rfl ?_
      refine AK.val _ (Yl.loadBox on3 rfl (by first | exact .own 0 rfl | exact .own 1 rfl | exact .own 2 rfl | exact .own 3 rfl | exact .own 4 rfl | exact .own 5 rfl | exact .own 6 rfl | exact .own 7 rfl | exact .own 8 rfl | exact .own 9 rfl | exact .own 10 rfl | exact .own 11 rfl | exact .own 12 rfl | assumption | exact BoxS.arg (by assumption)) rfl) trivial rfl ?_
      refine AK.val _ (Yl.fieldAddr fd25_0 rfl) trivial rfl ?_
      refine AK.val _ (Yl.loadBox on3 rfl (by first | exact .own 0 rfl | exact .own 1 rfl | exact .own 2 rfl | exact .own 3 rfl | exact .own 4 rfl | exact .own 5 rfl | exact .own 6 rfl | exact .own 7 rfl | exact .own 8 rfl | exact .own 9 rfl | exact .own 10 rfl | exact .own 11 rfl | exact .own 12 rfl | assumption | exact BoxS.arg (by assumption)) rfl) trivial rfl ?_
      refine AK.val _ (Yl.neq rfl rfl) trivial rfl ?_
      refine AK.nil ?_
      refine AK.then_ (hK11 _ ?_)
      refine AK.condNe rfl (fun hc2 => ?_) (fun hc2 => ?_)
      · refine AK.seq (fun _ hK12 => ?_)
        refine AK.region ?_
        refine AK.val _ (Yl.assign rfl) trivial rfl ?_
        refine AK.nil ?_
        refine AK.then_ (hK12 _ ?_)
        refine AK.ret ?_
        refine AK.then_ret ?_
        refine AK.ret1 rfl rfl (fun w hw => ⟨_, _, ?_, rfl, Ret.of (hw.pick [] (by decide) rfl rfl)⟩)
        refine ⟨congrArg (Value.int .i64) ?_, rfl⟩
        unfold pairE
        rw [if_neg (by omega), if_neg (by omega), if_pos hc2]
      · refine AK.skip ?_
        refine AK.then_ (hK10 _ ?_)
        refine AK.seq (fun _ hK13 => ?_)
        refine AK.region ?_
        refine AK.val _ (Yl.assign rfl) trivial rfl ?_
        refine AK.nil ?_
        refine AK.then_ (hK13 _ ?_)
        refine AK.ret ?_
        refine AK.ret1 rfl rfl (fun w hw => ⟨_, _, ?_, rfl, Ret.of (hw.pick [] (by decide) rfl rfl)⟩)
        refine ⟨congrArg (Value.int .i64) ?_, rfl⟩
        unfold pairE
        rw [if_neg (by omega), if_neg (by omega), if_neg (by omega)]

set_option maxHeartbeats 600000 in
set_option maxRecDepth 100000 in
theorem s_product (w : World) (u v : Value) (a b : Dfa) (hu : RdD (fun _ => False) w u a) (hv : RdD (fun _ => False) w v b) (op : Int) (hsz : VD a → VD b → a.fin.length * b.fin.length ≤ 512) : CallS Try.prog 36 [u, v, .int .i64 op] w (fun r o => ∃ (vF vN : Value) (rs : List Value), r = .tuple #[.agg #[.int .i64 (ProdV a b op).L, .int .i64 (ProdV a b op).s, vF, vN], .int .i64 (prodE a b op)] ∧ rs.length = (ProdV a b op).nx.length ∧ IsSl vF ∧ IsSl vN ∧ o = dfaO 4 3 38 vF vN rs (ProdV a b op)) := by
  have hu0 := hu
  have hv0 := hv
  obtain ⟨aF, aN, rfl, haF, haN⟩ := hu
  obtain ⟨bF, bN, rfl, hbF, hbN⟩ := hv
  have haF0 := haF
  have hbF0 := hbF
  have haN0 := haN
  have hbN0 := hbN
  obtain ⟨ra, hra, haNr, haNi⟩ := haN
  obtain ⟨rb, hrb, hbNr, hbNi⟩ := hbN
  unfold RdL at haF hbF
  have m1 := haF.le
  have m2 := hbF.le
  refine spec_of Try.func36 rfl (Nat.le_of_ble_eq_true rfl) ?_
  refine AK.seq (fun _ hK1 => ?_)
  refine AK.region ?_
  refine AK.box_ (E := 25) (cs := [.int .i64 a.L, .int .i64 a.s, aF, aN]) rfl rfl rfl trivial rfl (fun bx3 => ?_)
  refine AK.box_ (E := 25) (cs := [.int .i64 b.L, .int .i64 b.s, bF, bN]) rfl rfl rfl trivial rfl (fun bx4 => ?_)
  refine AK.box_ (E := 3) (cs := [.int .i64 op]) rfl rfl rfl trivial rfl (fun bx5 => ?_)
  refine AK.alloc el25 rfl rfl trivial rfl (fun bx6 => ?_)
  refine AK.val _ (Yl.assign rfl) trivial rfl ?_
  refine AK.nil ?_
  refine AK.then_ (hK1 _ ?_)
  refine AK.seq (fun _ hK2 => ?_)
  refine AK.seq (fun _ hK3 => ?_)
  refine AK.region ?_
  refine AK.val _ (Yl.loadBoxG ag25 rfl (by first | exact .own 0 rfl | exact .own 1 rfl | exact .own 2 rfl | exact .own 3 rfl | exact .own 4 rfl | exact .own 5 rfl | exact .own 6 rfl | exact .own 7 rfl | exact .own 8 rfl | exact .own 9 rfl | exact .own 10 rfl | exact .own 11 rfl | exact .own 12 rfl | assumption | exact BoxS.arg (by assumption)) rfl rfl) trivial rfl ?_
  refine AK.call co15 rfl (fun w hw => s_validate w _ a (hu0.at hw)) trivial rfl ?_
  rintro r o ⟨rfl, rfl⟩
  refine AK.val _ (Yl.assign rfl) trivial rfl ?_
  refine AK.nil ?_
  refine AK.then_ (hK3 _ ?_)
  refine AK.seq (fun _ hK4 => ?_)
  refine AK.region ?_
  refine AK.val _ (Yl.move rfl) trivial rfl ?_
  refine AK.val _ (Yl.neq rfl rfl) trivial rfl ?_
  refine AK.nil ?_
  refine AK.then_ (hK4 _ ?_)
  refine AK.condNe rfl (fun hc0 => ?_) (fun hc0 => ?_)
  · have hE : prodE a b op = errV a := (by unfold prodE pairE; rw [if_pos hc0, if_pos hc0])
    refine AK.seq (fun _ hK5 => ?_)
    refine AK.region ?_
    refine AK.val _ (Yl.build (parts := []) (cs := #[.int .i64 0, .int .i64 0, .slice none 0 0, .slice none 0 0]) rfl (by kernel_rfl)) trivial rfl ?_
    refine AK.val _ (Yl.move rfl) trivial rfl ?_
    refine AK.storeBox 3 (us := [.int .i64 0, .int .i64 0, .slice none 0 0, .slice none 0 0]) (cs' := [.int .i64 0, .int .i64 0, .slice none 0 0, .slice none 0 0]) rfl sz25 rfl rfl rfl rfl (by repeat (first | exact one'_nil | refine one'_cons (by first | rfl | exact IsSl.one (by assumption) | exact IsSl.one nilSl) ?_)) (Nat.le_of_ble_eq_true rfl) rfl trivial ?_
    refine AK.val _ (Yl.assign rfl) trivial rfl ?_
    refine AK.nil ?_
    refine AK.then_ (hK5 _ ?_)
    refine AK.ret ?_
    refine AK.then_ret ?_
    refine AK.own' (dfaO 4 3 38 (.slice none 0 0) (.slice none 0 0) [] nilD ++ [box bx6 25 4 [.int .i64 0, .int .i64 0, .slice none 0 0, .slice none 0 0]]) (fun w hw => by have h1 := (((hw.pick [3] (by decide) rfl rfl).ghost 4 1).ghost 38 1).ghostG (f := Value.int .i64) 3; exact h1.pick [1, 2, 3, 0] (by decide) rfl rfl) ?_
    refine AK.retG [.cell 6 25, .tmp 7] rfl (.cons (.cell ag25 rfl (by first | exact .own 0 rfl | exact .own 1 rfl | exact .own 2 rfl | exact .own 3 rfl | exact .own 4 rfl | exact .own 5 rfl | exact .own 6 rfl | exact .own 7 rfl | exact .own 8 rfl | exact .own 9 rfl | exact .own 10 rfl | exact .own 11 rfl | exact .own 12 rfl | assumption | exact BoxS.arg (by assumption)) rfl rfl) (.cons (.tmp rfl) (.nil))) (fun w hw => ⟨_, _, ?_, rfl, Ret.of (hw.pick [0, 1, 2] (by decide) rfl rfl)⟩)
    rw [show ProdV a b op = nilD from if_neg (by omega)]
    rw [hE]
    exact ⟨_, _, [], rfl, rfl, nilSl, nilSl, rfl⟩
  · have ha : VD a := (errV_iff a).1 hc0
    refine AK.skip ?_
    refine AK.then_ (hK2 _ ?_)
    refine AK.seq (fun _ hK6 => ?_)
    refine AK.seq (fun _ hK7 => ?_)
    refine AK.region ?_
    refine AK.val _ (Yl.loadBoxG ag25 rfl (by first | exact .own 0 rfl | exact .own 1 rfl | exact .own 2 rfl | exact .own 3 rfl | exact .own 4 rfl | exact .own 5 rfl | exact .own 6 rfl | exact .own 7 rfl | exact .own 8 rfl | exact .own 9 rfl | exact .own 10 rfl | exact .own 11 rfl | exact .own 12 rfl | assumption | exact BoxS.arg (by assumption)) rfl rfl) trivial rfl ?_
    refine AK.call co15 rfl (fun w hw => s_validate w _ b (hv0.at hw)) trivial rfl ?_
    rintro r o ⟨rfl, rfl⟩
    refine AK.val _ (Yl.assign rfl) trivial rfl ?_
    refine AK.nil ?_
    refine AK.then_ (hK7 _ ?_)
    refine AK.seq (fun _ hK8 => ?_)
    refine AK.region ?_
    refine AK.val _ (Yl.move rfl) trivial rfl ?_
    refine AK.val _ (Yl.neq rfl rfl) trivial rfl ?_
    refine AK.nil ?_
    refine AK.then_ (hK8 _ ?_)
    refine AK.condNe rfl (fun hc1 => ?_) (fun hc1 => ?_)
    · have hE : prodE a b op = errV b := (by unfold prodE pairE; rw [if_neg (show ¬ errV a ≠ 0 by omega), if_pos hc1, if_pos hc1])
      refine AK.seq (fun _ hK9 => ?_)
      refine AK.region ?_
      refine AK.val _ (Yl.build (parts := []) (cs := #[.int .i64 0, .int .i64 0, .slice none 0 0, .slice none 0 0]) rfl (by kernel_rfl)) trivial rfl ?_
      refine AK.val _ (Yl.move rfl) trivial rfl ?_
      refine AK.storeBox 3 (us := [.int .i64 0, .int .i64 0, .slice none 0 0, .slice none 0 0]) (cs' := [.int .i64 0, .int .i64 0, .slice none 0 0, .slice none 0 0]) rfl sz25 rfl rfl rfl rfl (by repeat (first | exact one'_nil | refine one'_cons (by first | rfl | exact IsSl.one (by assumption) | exact IsSl.one nilSl) ?_)) (Nat.le_of_ble_eq_true rfl) rfl trivial ?_
      refine AK.val _ (Yl.assign rfl) trivial rfl ?_
      refine AK.nil ?_
      refine AK.then_ (hK9 _ ?_)
      refine AK.ret ?_
      refine AK.then_ret ?_
      refine AK.own' (dfaO 4 3 38 (.slice none 0 0) (.slice none 0 0) [] nilD ++ [box bx6 25 4 [.int .i64 0, .int .i64 0, .slice none 0 0, .slice none 0 0]]) (fun w hw => by have h1 := (((hw.pick [3] (by decide) rfl rfl).ghost 4 1).ghost 38 1).ghostG (f := Value.int .i64) 3; exact h1.pick [1, 2, 3, 0] (by decide) rfl rfl) ?_
      refine AK.retG [.cell 6 25, .tmp 7] rfl (.cons (.cell ag25 rfl (by first | exact .own 0 rfl | exact .own 1 rfl | exact .own 2 rfl | exact .own 3 rfl | exact .own 4 rfl | exact .own 5 rfl | exact .own 6 rfl | exact .own 7 rfl | exact .own 8 rfl | exact .own 9 rfl | exact .own 10 rfl | exact .own 11 rfl | exact .own 12 rfl | assumption | exact BoxS.arg (by assumption)) rfl rfl) (.cons (.tmp rfl) (.nil))) (fun w hw => ⟨_, _, ?_, rfl, Ret.of (hw.pick [0, 1, 2] (by decide) rfl rfl)⟩)
      rw [show ProdV a b op = nilD from if_neg (by omega)]
      rw [hE]
      exact ⟨_, _, [], rfl, rfl, nilSl, nilSl, rfl⟩
    · have hb : VD b := (errV_iff b).1 hc1
      refine AK.skip ?_
      refine AK.then_ (hK6 _ ?_)
      refine AK.seq (fun _ hK10 => ?_)
      refine AK.seq (fun _ hK11 => ?_)
      refine AK.region ?_
      refine AK.val _ (Yl.fieldAddr fd25_0 rfl) trivial rfl ?_
      refine AK.val _ (Yl.loadBox on3 rfl (by first | exact .own 0 rfl | exact .own 1 rfl | exact .own 2 rfl | exact .own 3 rfl | exact .own 4 rfl | exact .own 5 rfl | exact .own 6 rfl | exact .own 7 rfl | exact .own 8 rfl | exact .own 9 rfl | exact .own 10 rfl | exact .own 11 rfl | exact .own 12 rfl | assumption | exact BoxS.arg (by assumption)) rfl) trivial rfl ?_
      refine AK.val _ (Yl.fieldAddr fd25_0 rfl) trivial rfl ?_
      refine AK.val _ (Yl.loadBox on3 rfl (by first | exact .own 0 rfl | exact .own 1 rfl | exact .own 2 rfl | exact .own 3 rfl | exact .own 4 rfl | exact .own 5 rfl | exact .own 6 rfl | exact .own 7 rfl | exact .own 8 rfl | exact .own 9 rfl | exact .own 10 rfl | exact .own 11 rfl | exact .own 12 rfl | assumption | exact BoxS.arg (by assumption)) rfl) trivial rfl ?_
      refine AK.val _ (Yl.neq rfl rfl) trivial rfl ?_
      refine AK.val _ (Yl.move rfl) trivial rfl ?_
      refine AK.splitB (g := 30) rfl (fun hg_7_5 => ?_) (fun hg_7_5 => ?_)
      · have hg_7_5' := hg_7_5
        try simp only [decide_eq_true_eq, decide_eq_false_iff_not, Bool.not_eq_true', Bool.not_eq_false', Bool.not_not, ne_eq, Decidable.not_not, Int.not_lt, Int.not_le, beq_iff_eq, bne_iff_ne, Bool.and_eq_true, Bool.or_eq_true, Bool.or_eq_false_iff, Bool.not_false, Bool.not_true, reduceCtorEq, not_true_eq_false, not_false_eq_true] at hg_7_5'
        refine AK.pass rfl rfl (hg_7_5) rfl ?_
        refine AK.pass rfl rfl (hg_7_5) rfl ?_
        refine AK.val _ (Yl.pickT rfl (hg_7_5) rfl) trivial rfl ?_
        refine AK.val _ (Yl.move rfl) trivial rfl ?_
        refine AK.pass rfl rfl rfl rfl ?_
        refine AK.pass rfl rfl rfl rfl ?_
        refine AK.val _ (Yl.pickT rfl (rfl) rfl) trivial rfl ?_
        refine AK.nil ?_
        refine AK.then_ (hK11 _ ?_)
        refine AK.cond_t rfl (rfl) ?_
        have hE : prodE a b op = 1 := (by
          unfold prodE pairE
          rw [if_neg (show ¬ errV a ≠ 0 by omega), if_neg (show ¬ errV b ≠ 0 by omega)]
          by_cases hL : a.L = b.L
          · rw [if_neg (show ¬ a.L ≠ b.L by omega), if_neg (by decide), if_pos (by omega)]
          · rw [if_pos hL, if_pos (by decide)])
        refine AK.seq (fun _ hK12 => ?_)
        refine AK.region ?_
        refine AK.val _ (Yl.build (parts := []) (cs := #[.int .i64 0, .int .i64 0, .slice none 0 0, .slice none 0 0]) rfl (by kernel_rfl)) trivial rfl ?_
        refine AK.storeBox 3 (us := [.int .i64 0, .int .i64 0, .slice none 0 0, .slice none 0 0]) (cs' := [.int .i64 0, .int .i64 0, .slice none 0 0, .slice none 0 0]) rfl sz25 rfl rfl rfl rfl (by repeat (first | exact one'_nil | refine one'_cons (by first | rfl | exact IsSl.one (by assumption) | exact IsSl.one nilSl) ?_)) (Nat.le_of_ble_eq_true rfl) rfl trivial ?_
        refine AK.val _ (Yl.assign rfl) trivial rfl ?_
        refine AK.nil ?_
        refine AK.then_ (hK12 _ ?_)
        refine AK.ret ?_
        refine AK.then_ret ?_
        refine AK.own' (dfaO 4 3 38 (.slice none 0 0) (.slice none 0 0) [] nilD ++ [box bx6 25 4 [.int .i64 0, .int .i64 0, .slice none 0 0, .slice none 0 0]]) (fun w hw => by have h1 := (((hw.pick [3] (by decide) rfl rfl).ghost 4 1).ghost 38 1).ghostG (f := Value.int .i64) 3; exact h1.pick [1, 2, 3, 0] (by decide) rfl rfl) ?_
        refine AK.retG [.cell 6 25, .tmp 7] rfl (.cons (.cell ag25 rfl (by first | exact .own 0 rfl | exact .own 1 rfl | exact .own 2 rfl | exact .own 3 rfl | exact .own 4 rfl | exact .own 5 rfl | exact .own 6 rfl | exact .own 7 rfl | exact .own 8 rfl | exact .own 9 rfl | exact .own 10 rfl | exact .own 11 rfl | exact .own 12 rfl | assumption | exact BoxS.arg (by assumption)) rfl rfl) (.cons (.tmp rfl) (.nil))) (fun w hw => ⟨_, _, ?_, rfl, Ret.of (hw.pick [0, 1, 2] (by decide) rfl rfl)⟩)
        rw [show ProdV a b op = nilD from if_neg (by omega)]
        rw [hE]
        exact ⟨_, _, [], rfl, rfl, nilSl, nilSl, rfl⟩
      · have hg_7_5' := hg_7_5
        try simp only [decide_eq_true_eq, decide_eq_false_iff_not, Bool.not_eq_true', Bool.not_eq_false', Bool.not_not, ne_eq, Decidable.not_not, Int.not_lt, Int.not_le, beq_iff_eq, bne_iff_ne, Bool.and_eq_true, Bool.or_eq_true, Bool.or_eq_false_iff, Bool.not_false, Bool.not_true, reduceCtorEq, not_true_eq_false, not_false_eq_true] at hg_7_5'
        refine AK.val _ (Yl.loadBox on3 rfl (by first | exact .own 0 rfl | exact .own 1 rfl | exact .own 2 rfl | exact .own 3 rfl | exact .own 4 rfl | exact .own 5 rfl | exact .own 6 rfl | exact .own 7 rfl | exact .own 8 rfl | exact .own 9 rfl | exact .own 10 rfl | exact .own 11 rfl | exact .own 12 rfl | assumption | exact BoxS.arg (by assumption)) rfl) ⟨_, rfl, congrArg (fun b => some (Value.bool b)) hg_7_5⟩ rfl ?_
        refine AK.val _ (Yl.lss rfl rfl) ⟨_, rfl, congrArg (fun b => some (Value.bool b)) hg_7_5⟩ rfl ?_
        refine AK.val _ (Yl.pickF rfl (hg_7_5) rfl) trivial rfl ?_
        refine AK.val _ (Yl.move rfl) trivial rfl ?_
        refine AK.splitB (g := 34) rfl (fun hg_7_9 => ?_) (fun hg_7_9 => ?_)
        · have hg_7_9' := hg_7_9
          try simp only [decide_eq_true_eq, decide_eq_false_iff_not, Bool.not_eq_true', Bool.not_eq_false', Bool.not_not, ne_eq, Decidable.not_not, Int.not_lt, Int.not_le, beq_iff_eq, bne_iff_ne, Bool.and_eq_true, Bool.or_eq_true, Bool.or_eq_false_iff, Bool.not_false, Bool.not_true, reduceCtorEq, not_true_eq_false, not_false_eq_true] at hg_7_9'
          refine AK.pass rfl rfl (hg_7_9) rfl ?_
          refine AK.pass rfl rfl (hg_7_9) rfl ?_
          refine AK.val _ (Yl.pickT rfl (hg_7_9) rfl) trivial rfl ?_
          refine AK.nil ?_
          refine AK.then_ (hK11 _ ?_)
          refine AK.cond_t rfl (rfl) ?_
          have hE : prodE a b op = 1 := (by
            unfold prodE pairE
            rw [if_neg (show ¬ errV a ≠ 0 by omega), if_neg (show ¬ errV b ≠ 0 by omega)]
            by_cases hL : a.L = b.L
            · rw [if_neg (show ¬ a.L ≠ b.L by omega), if_neg (by decide), if_pos (by omega)]
            · rw [if_pos hL, if_pos (by decide)])
          refine AK.seq (fun _ hK13 => ?_)
          refine AK.region ?_
          refine AK.val _ (Yl.build (parts := []) (cs := #[.int .i64 0, .int .i64 0, .slice none 0 0, .slice none 0 0]) rfl (by kernel_rfl)) trivial rfl ?_
          refine AK.storeBox 3 (us := [.int .i64 0, .int .i64 0, .slice none 0 0, .slice none 0 0]) (cs' := [.int .i64 0, .int .i64 0, .slice none 0 0, .slice none 0 0]) rfl sz25 rfl rfl rfl rfl (by repeat (first | exact one'_nil | refine one'_cons (by first | rfl | exact IsSl.one (by assumption) | exact IsSl.one nilSl) ?_)) (Nat.le_of_ble_eq_true rfl) rfl trivial ?_
          refine AK.val _ (Yl.assign rfl) trivial rfl ?_
          refine AK.nil ?_
          refine AK.then_ (hK13 _ ?_)
          refine AK.ret ?_
          refine AK.then_ret ?_
          refine AK.own' (dfaO 4 3 38 (.slice none 0 0) (.slice none 0 0) [] nilD ++ [box bx6 25 4 [.int .i64 0, .int .i64 0, .slice none 0 0, .slice none 0 0]]) (fun w hw => by have h1 := (((hw.pick [3] (by decide) rfl rfl).ghost 4 1).ghost 38 1).ghostG (f := Value.int .i64) 3; exact h1.pick [1, 2, 3, 0] (by decide) rfl rfl) ?_
          refine AK.retG [.cell 6 25, .tmp 7] rfl (.cons (.cell ag25 rfl (by first | exact .own 0 rfl | exact .own 1 rfl | exact .own 2 rfl | exact .own 3 rfl | exact .own 4 rfl | exact .own 5 rfl | exact .own 6 rfl | exact .own 7 rfl | exact .own 8 rfl | exact .own 9 rfl | exact .own 10 rfl | exact .own 11 rfl | exact .own 12 rfl | assumption | exact BoxS.arg (by assumption)) rfl rfl) (.cons (.tmp rfl) (.nil))) (fun w hw => ⟨_, _, ?_, rfl, Ret.of (hw.pick [0, 1, 2] (by decide) rfl rfl)⟩)
          rw [show ProdV a b op = nilD from if_neg (by omega)]
          rw [hE]
          exact ⟨_, _, [], rfl, rfl, nilSl, nilSl, rfl⟩
        · have hg_7_9' := hg_7_9
          try simp only [decide_eq_true_eq, decide_eq_false_iff_not, Bool.not_eq_true', Bool.not_eq_false', Bool.not_not, ne_eq, Decidable.not_not, Int.not_lt, Int.not_le, beq_iff_eq, bne_iff_ne, Bool.and_eq_true, Bool.or_eq_true, Bool.or_eq_false_iff, Bool.not_false, Bool.not_true, reduceCtorEq, not_true_eq_false, not_false_eq_true] at hg_7_9'
          refine AK.val _ (Yl.loadBox on3 rfl (by first | exact .own 0 rfl | exact .own 1 rfl | exact .own 2 rfl | exact .own 3 rfl | exact .own 4 rfl | exact .own 5 rfl | exact .own 6 rfl | exact .own 7 rfl | exact .own 8 rfl | exact .own 9 rfl | exact .own 10 rfl | exact .own 11 rfl | exact .own 12 rfl | assumption | exact BoxS.arg (by assumption)) rfl) ⟨_, rfl, congrArg (fun b => some (Value.bool b)) hg_7_9⟩ rfl ?_
          refine AK.val _ (Yl.gtr rfl rfl) ⟨_, rfl, congrArg (fun b => some (Value.bool b)) hg_7_9⟩ rfl ?_
          refine AK.val _ (Yl.pickF rfl (hg_7_9) rfl) trivial rfl ?_
          refine AK.nil ?_
          refine AK.then_ (hK11 _ ?_)
          refine AK.condD rfl (fun hc2 => ?_) (fun hc2 => ?_)
          · have hE : prodE a b op = 1 := (by
              unfold prodE pairE
              rw [if_neg (show ¬ errV a ≠ 0 by omega), if_neg (show ¬ errV b ≠ 0 by omega)]
              by_cases hL : a.L = b.L
              · rw [if_neg (show ¬ a.L ≠ b.L by omega), if_neg (by decide), if_pos (by omega)]
              · rw [if_pos hL, if_pos (by decide)])
            refine AK.seq (fun _ hK14 => ?_)
            refine AK.region ?_
            refine AK.val _ (Yl.build (parts := []) (cs := #[.int .i64 0, .int .i64 0, .slice none 0 0, .slice none 0 0]) rfl (by kernel_rfl)) trivial rfl ?_
            refine AK.storeBox 3 (us := [.int .i64 0, .int .i64 0, .slice none 0 0, .slice none 0 0]) (cs' := [.int .i64 0, .int .i64 0, .slice none 0 0, .slice none 0 0]) rfl sz25 rfl rfl rfl rfl (by repeat (first | exact one'_nil | refine one'_cons (by first | rfl | exact IsSl.one (by assumption) | exact IsSl.one nilSl) ?_)) (Nat.le_of_ble_eq_true rfl) rfl trivial ?_
            refine AK.val _ (Yl.assign rfl) trivial rfl ?_
            refine AK.nil ?_
            refine AK.then_ (hK14 _ ?_)
            refine AK.ret ?_
            refine AK.then_ret ?_
            refine AK.own' (dfaO 4 3 38 (.slice none 0 0) (.slice none 0 0) [] nilD ++ [box bx6 25 4 [.int .i64 0, .int .i64 0, .slice none 0 0, .slice none 0 0]]) (fun w hw => by have h1 := (((hw.pick [3] (by decide) rfl rfl).ghost 4 1).ghost 38 1).ghostG (f := Value.int .i64) 3; exact h1.pick [1, 2, 3, 0] (by decide) rfl rfl) ?_
            refine AK.retG [.cell 6 25, .tmp 7] rfl (.cons (.cell ag25 rfl (by first | exact .own 0 rfl | exact .own 1 rfl | exact .own 2 rfl | exact .own 3 rfl | exact .own 4 rfl | exact .own 5 rfl | exact .own 6 rfl | exact .own 7 rfl | exact .own 8 rfl | exact .own 9 rfl | exact .own 10 rfl | exact .own 11 rfl | exact .own 12 rfl | assumption | exact BoxS.arg (by assumption)) rfl rfl) (.cons (.tmp rfl) (.nil))) (fun w hw => ⟨_, _, ?_, rfl, Ret.of (hw.pick [0, 1, 2] (by decide) rfl rfl)⟩)
            rw [show ProdV a b op = nilD from if_neg (by omega)]
            rw [hE]
            exact ⟨_, _, [], rfl, rfl, nilSl, nilSl, rfl⟩
          · have hL : a.L = b.L := (by omega)
            have ho : 0 ≤ op ∧ op ≤ 15 := (by omega)
            have hvL := ha.L
            have hLL : ((a.L.toNat : Nat) : Int) = a.L := by omega
            have hE := prodE_mk ha hb hL ho
            refine AK.skip ?_
            refine AK.then_ (hK10 _ ?_)
            refine AK.seq (fun _ hK15 => ?_)
            refine AK.region ?_
            refine AK.val _ (Yl.fieldAddr fd25_0 rfl) trivial rfl ?_
            refine AK.val _ (Yl.loadBox on3 rfl (by first | exact .own 0 rfl | exact .own 1 rfl | exact .own 2 rfl | exact .own 3 rfl | exact .own 4 rfl | exact .own 5 rfl | exact .own 6 rfl | exact .own 7 rfl | exact .own 8 rfl | exact .own 9 rfl | exact .own 10 rfl | exact .own 11 rfl | exact .own 12 rfl | assumption | exact BoxS.arg (by assumption)) rfl) trivial rfl ?_
            refine AK.val _ (Yl.fieldAddr fd25_1 rfl) trivial rfl ?_
            refine AK.val _ (Yl.loadBox on3 rfl (by first | exact .own 0 rfl | exact .own 1 rfl | exact .own 2 rfl | exact .own 3 rfl | exact .own 4 rfl | exact .own 5 rfl | exact .own 6 rfl | exact .own 7 rfl | exact .own 8 rfl | exact .own 9 rfl | exact .own 10 rfl | exact .own 11 rfl | exact .own 12 rfl | assumption | exact BoxS.arg (by assumption)) rfl) trivial rfl ?_
            refine AK.val _ (Yl.fieldAddr fd25_1 rfl) trivial rfl ?_
            refine AK.val _ (Yl.loadBox on3 rfl (by first | exact .own 0 rfl | exact .own 1 rfl | exact .own 2 rfl | exact .own 3 rfl | exact .own 4 rfl | exact .own 5 rfl | exact .own 6 rfl | exact .own 7 rfl | exact .own 8 rfl | exact .own 9 rfl | exact .own 10 rfl | exact .own 11 rfl | exact .own 12 rfl | assumption | exact BoxS.arg (by assumption)) rfl) trivial rfl ?_
            refine AK.val _ (Yl.build (parts := [(0, .tmp 43), (1, .tmp 45)]) (cs := #[.int .i64 a.s, .int .i64 b.s]) rfl (by kernel_rfl)) trivial rfl ?_
            refine AK.val _ (Yl.makeFunc (first := []) (captured := [.tmp 3, .tmp 4]) rfl rfl) trivial rfl ?_
            refine AK.val _ (Yl.makeFunc (first := []) (captured := [.tmp 3, .tmp 4, .tmp 5]) rfl rfl) trivial rfl ?_
            refine AK.call co56 rfl (fun w hw => (by have h := s_exploreP w a.L.toNat a.s b.s (stepP a b) (finP a b op) (univ2 a.fin.length b.fin.length) 57 58 [.pointer (some ⟨bx3, 0, none⟩), .pointer (some ⟨bx4, 0, none⟩)] [.pointer (some ⟨bx3, 0, none⟩), .pointer (some ⟨bx4, 0, none⟩), .pointer (some ⟨bx5, 0, none⟩)] (by omega) (start_univ2 ha hb) (by rw [univ2_len]; exact hsz ha hb) (step_univ2 ha hb hL) co57 co58 (fun w' hfr q hq x hx => s_prod1 w' q.1 q.2 x bx3 bx4 a b aF aN bF bN ha hb hL ((BxA.own 0 hw rfl).fr hfr) ((BxA.own 1 hw rfl).fr hfr) ((haF0.at hw).fr hfr) ((haN0.at hw).fr hfr) ((hbF0.at hw).fr hfr) ((hbN0.at hw).fr hfr) (mem_univ2.1 hq) hx) (fun w' hfr q hq => s_prod2 w' q.1 q.2 op bx5 ho ((BxA.own 2 hw rfl).fr hfr) bx3 bx4 a b aF aN bF bN ha hb hL ((BxA.own 0 hw rfl).fr hfr) ((BxA.own 1 hw rfl).fr hfr) ((haF0.at hw).fr hfr) ((haN0.at hw).fr hfr) ((hbF0.at hw).fr hfr) ((hbN0.at hw).fr hfr) (mem_univ2.1 hq)); rw [hLL] at h; exact h)) trivial rfl ?_
            rintro r o ⟨n, vL, vF2, vN2, rs2, hn, hrs, sL, sF2, sN2, rfl, rfl⟩
            obtain ⟨ht1, ht2⟩ := gen_is (g := finP a b op) a.L (start_univ2 ha hb) (step_univ2 ha hb hL) hn
            rw [ht2]
            have hTl : n = (PSt a b).length := by unfold PSt; rw [← ht1]; exact hn
            refine AK.val _ (Yl.move rfl) trivial rfl ?_
            refine AK.val _ (Yl.extract rfl rfl) trivial rfl ?_
            refine AK.val _ (Yl.extract rfl rfl) trivial rfl ?_
            refine AK.val _ (Yl.extract rfl rfl) trivial rfl ?_
            refine AK.alloc el25 rfl rfl trivial rfl (fun bx10 => ?_)
            refine AK.storeBox 8 (us := [.int .i64 a.L, .int .i64 0, vF2, vN2]) (cs' := [.int .i64 a.L, .int .i64 0, vF2, vN2]) rfl sz25 rfl rfl rfl rfl (by repeat (first | exact one'_nil | refine one'_cons (by first | rfl | exact IsSl.one (by assumption) | exact IsSl.one nilSl) ?_)) (Nat.le_of_ble_eq_true rfl) rfl trivial ?_
            refine AK.val _ (Yl.assign rfl) trivial rfl ?_
            refine AK.val _ (Yl.assign rfl) trivial rfl ?_
            refine AK.nil ?_
            refine AK.then_ (hK15 _ ?_)
            refine AK.seq (fun _ hK16 => ?_)
            refine AK.region ?_
            refine AK.val _ (Yl.loadBoxG ag25 rfl (by first | exact .own 0 rfl | exact .own 1 rfl | exact .own 2 rfl | exact .own 3 rfl | exact .own 4 rfl | exact .own 5 rfl | exact .own 6 rfl | exact .own 7 rfl | exact .own 8 rfl | exact .own 9 rfl | exact .own 10 rfl | exact .own 11 rfl | exact .own 12 rfl | assumption | exact BoxS.arg (by assumption)) rfl rfl) trivial rfl ?_
            refine AK.val _ (Yl.move rfl) trivial rfl ?_
            refine AK.storeBox 3 (us := [.int .i64 a.L, .int .i64 0, vF2, vN2]) (cs' := [.int .i64 a.L, .int .i64 0, vF2, vN2]) rfl sz25 rfl rfl rfl rfl (by repeat (first | exact one'_nil | refine one'_cons (by first | rfl | exact IsSl.one (by assumption) | exact IsSl.one nilSl) ?_)) (Nat.le_of_ble_eq_true rfl) rfl trivial ?_
            refine AK.val _ (Yl.assign rfl) trivial rfl ?_
            refine AK.nil ?_
            refine AK.then_ (hK16 _ ?_)
            refine AK.ret ?_
            refine AK.retG [.cell 6 25, .tmp 7] rfl (.cons (.cell ag25 rfl (by first | exact .own 0 rfl | exact .own 1 rfl | exact .own 2 rfl | exact .own 3 rfl | exact .own 4 rfl | exact .own 5 rfl | exact .own 6 rfl | exact .own 7 rfl | exact .own 8 rfl | exact .own 9 rfl | exact .own 10 rfl | exact .own 11 rfl | exact .own 12 rfl | assumption | exact BoxS.arg (by assumption)) rfl rfl) (.cons (.tmp rfl) (.nil))) (fun w hw => ⟨_, _, ?_, rfl, Ret.of (hw.pick [4, 5, 6] (by decide) rfl rfl)⟩)
            rw [show ProdV a b op = prodD a b op from if_pos hE, hE]
            refine ⟨vF2, vN2, rs2, rfl, ?_, sF2, sN2, rfl⟩
            rw [hrs, hTl]; simp [prodD, genD]

end Go.Proofs.Ytmfakjfkjoichaa
