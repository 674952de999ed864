import Derived.Test.YtkdidaiedibhaaaA4
import Derived.Test.YtkdidaiedibhaaaPx
set_option linter.unusedVariables false
set_option linter.unusedSimpArgs false
namespace Go.Proofs.Ytkdidaiedibhaaa
open Go.Sx Go.RowKit

theorem rdp_ownE {C : Cx} {own : List Asn} {v : Value} {E : TypeId} {n : Nat} {cs : List Value} {xs : List (Int × Int)} {w : World} (i : Nat) (hw : HW C own w) (hi : own[i]? = some (row v E 2 n cs)) (hn : n = xs.length) (hc : cs = pcs xs) : RdP w v xs := by
  subst hn; subst hc; exact RdP.own i hw hi
theorem rdi_sl {w : World} {v : Value} {xs : List Int} (h : RdI w v xs) : IsSl v := by
  obtain ⟨a, c, h, _⟩ := h; exact ⟨a, _, c, h⟩
theorem one_ints (xs : List Int) : one' (xs.map (Value.int .i64)) := by
  intro u hu; rw [List.mem_map] at hu; obtain ⟨x, _, rfl⟩ := hu; rfl

set_option maxRecDepth 100000 in
theorem s_canonP (w : World) (v : Value) (xs : List (Int × Int)) (h : RdP w v xs) (hn : xs.length ≤ 4096) : CallS Try.prog 49 [v] w (fun r o => o = [row r 3 1 xs.length ((canon xs).map (Value.int .i64))]) := by
  unfold RdP at h
  refine spec_of Try.func49 rfl (Nat.le_of_ble_eq_true rfl) ?_
  refine AK.seq (fun _ hK1 => ?_)
  refine AK.region ?_
  refine AK.val _ (Yl.assign rfl) trivial rfl ?_
  refine AK.nil ?_
  refine AK.then_ (hK1 _ ?_)
  refine AK.seq (fun _ hK2 => ?_)
  refine AK.region ?_
  refine AK.val _ (Yl.move rfl) trivial rfl ?_
  refine AK.val _ (Yl.lenR sl31 rfl (by first | exact .arg ‹_› | exact .own 0 rfl | exact .own 1 rfl | exact .own 2 rfl | exact .own 3 rfl | exact .own 4 rfl | exact .own 5 rfl | exact .own 6 rfl | exact .own 7 rfl | exact .own 8 rfl | assumption)) trivial rfl ?_
  refine AK.make1 sl22 el3 rfl rfl rfl (by omega) (by omega) trivial rfl (fun mv0 => ?_)
  refine AK.val _ (Yl.assign rfl) trivial rfl ?_
  refine AK.nil ?_
  refine AK.then_ (hK2 _ ?_)
  refine AK.seq (fun _ hK3 => ?_)
  refine AK.region ?_
  refine AK.makeMap trivial rfl (fun mb => ?_)
  refine AK.val _ (Yl.assign rfl) trivial rfl ?_
  refine AK.nil ?_
  refine AK.then_ (hK3 _ ?_)
  refine AK.seq (fun _ hK4 => ?_)
  refine AK.seq (fun _ hK5 => ?_)
  refine AK.region ?_
  refine AK.val _ (Yl.move rfl) trivial rfl ?_
  refine AK.val _ (Yl.lenR sl31 rfl (by first | exact .arg ‹_› | exact .own 0 rfl | exact .own 1 rfl | exact .own 2 rfl | exact .own 3 rfl | exact .own 4 rfl | exact .own 5 rfl | exact .own 6 rfl | exact .own 7 rfl | exact .own 8 rfl | assumption)) trivial rfl ?_
  refine AK.val _ (Yl.move rfl) trivial rfl ?_
  refine AK.nil ?_
  refine AK.then_ (hK5 _ ?_)
  refine AK.block ?_
  refine AK.loopS (X := Nat) [3, 4, 13, 14] (fun k => [(15, .int .i64 (k : Int))]) (fun k => [row mv0 3 1 xs.length ((canon (xs.take k) ++ List.replicate (xs.length - k) 0).map (Value.int .i64)), mapA mb (mkv pv (Value.int .i64) (cst (xs.take k)).2)]) (fun k => k ≤ xs.length) (fun k => xs.length - k) (0) ?_ ?_ ?_ ?_
  · exact Nat.zero_le _
  · exact .cons (rfl) (.nil)
  · exact fun w hw => by simpa [canon, cst, mkv] using hw
  · intro k hg0 _ hK6
    have hcl := cst_le (xs.take k)
    rw [List.length_take] at hcl
    refine AK.seq (fun _ hK7 => ?_)
    refine AK.region ?_
    refine AK.val _ (Yl.lss rfl rfl) trivial rfl ?_
    refine AK.nil ?_
    refine AK.then_ (hK7 _ ?_)
    refine AK.seq (fun _ hK8 => ?_)
    refine AK.condD rfl (fun hc0 => ?_) (fun hc0 => ?_)
    · refine AK.skip ?_
      refine AK.then_ (hK8 _ ?_)
      refine AK.seq (fun _ hK9 => ?_)
      refine AK.block ?_
      refine AK.seq (fun _ hK10 => ?_)
      refine AK.region ?_
      refine AK.val _ (Yl.move rfl) trivial rfl ?_
      first | refine AK.val _ (Yl.idxN sl31 rfl rfl (by first | exact .arg ‹_› | exact .own 0 rfl | exact .own 1 rfl | exact .own 2 rfl | exact .own 3 rfl | exact .own 4 rfl | exact .own 5 rfl | exact .own 6 rfl | exact .own 7 rfl | exact .own 8 rfl | assumption) (by decide) (by omega)) trivial rfl ?_ | refine AK.val _ (Yl.idx sl31 rfl rfl (by first | exact .arg ‹_› | exact .own 0 rfl | exact .own 1 rfl | exact .own 2 rfl | exact .own 3 rfl | exact .own 4 rfl | exact .own 5 rfl | exact .own 6 rfl | exact .own 7 rfl | exact .own 8 rfl | assumption) (by decide) (by omega)) trivial rfl ?_
      refine AK.val _ (Yl.loadP ag42 rfl (by first | exact .arg ‹_› | exact .own 0 rfl | exact .own 1 rfl | exact .own 2 rfl | exact .own 3 rfl | exact .own 4 rfl | exact .own 5 rfl | exact .own 6 rfl | exact .own 7 rfl | exact .own 8 rfl | assumption) (by omega)) trivial rfl ?_
      refine AK.alloc el42 rfl rfl trivial rfl (fun bx6 => ?_)
      refine AK.val _ (Yl.assign rfl) trivial rfl ?_
      refine AK.storeBox 2 rfl sz42 rfl rfl rfl rfl (by intro u hu; simp [pv, Value.cells] at hu; rcases hu with rfl | rfl <;> rfl) (Nat.le_of_ble_eq_true rfl) rfl trivial ?_
      refine AK.nil ?_
      refine AK.then_ (hK10 _ ?_)
      refine AK.seq (fun _ hK11 => ?_)
      refine AK.region ?_
      refine AK.val _ (Yl.move rfl) trivial rfl ?_
      refine AK.val _ (Yl.loadBoxP ag42 rfl (by first | exact .own 0 rfl | exact .own 1 rfl | exact .own 2 rfl | exact .own 3 rfl)) trivial rfl ?_
      refine AK.val _ (Yl.lookup2I mp53 (keyPair ar42.1 un3 sz3) el3 rfl rfl (by first | exact .own 0 rfl | exact .own 1 rfl | exact .own 2 rfl | exact .own 3 rfl)) trivial rfl ?_
      refine AK.val _ (Yl.move rfl) trivial rfl ?_
      refine AK.val _ (Yl.extract rfl rfl) trivial rfl ?_
      refine AK.val _ (Yl.extract rfl rfl) trivial rfl ?_
      refine AK.val _ (Yl.assign rfl) trivial rfl ?_
      refine AK.val _ (Yl.assign rfl) trivial rfl ?_
      refine AK.nil ?_
      refine AK.then_ (hK11 _ ?_)
      refine AK.seq (fun _ hK12 => ?_)
      refine AK.seq (fun _ hK13 => ?_)
      refine AK.region ?_
      refine AK.val _ (Yl.move rfl) trivial rfl ?_
      refine AK.val _ (Yl.not rfl) trivial rfl ?_
      refine AK.nil ?_
      refine AK.then_ (hK13 _ ?_)
      refine AK.condB rfl (fun hc1 => ?_) (fun hc1 => ?_)
      · refine AK.seq (fun _ hK14 => ?_)
        refine AK.region ?_
        refine AK.val _ (Yl.move rfl) trivial rfl ?_
        refine AK.val _ (Yl.lenM mp53 rfl (by first | exact .own 0 rfl | exact .own 1 rfl | exact .own 2 rfl | exact .own 3 rfl)) trivial rfl ?_
        refine AK.val _ (Yl.assign rfl) trivial rfl ?_
        refine AK.nil ?_
        refine AK.then_ (hK14 _ ?_)
        refine AK.region ?_
        refine AK.val _ (Yl.move rfl) trivial rfl ?_
        refine AK.val _ (Yl.loadBoxP ag42 rfl (by first | exact .own 0 rfl | exact .own 1 rfl | exact .own 2 rfl | exact .own 3 rfl)) trivial rfl ?_
        refine AK.val _ (Yl.move rfl) trivial rfl ?_
        refine AK.mapSet 1 rfl mp53 (keyPair ar42.1 un3 sz3) rfl rfl rfl trivial ?_
        refine AK.nil ?_
        refine AK.then_ (hK12 _ ?_)
        refine AK.region ?_
        refine AK.val _ (Yl.move rfl) trivial rfl ?_
        refine AK.val _ (Yl.move rfl) trivial rfl ?_
        refine AK.val _ (Yl.move rfl) trivial rfl ?_
        first | refine AK.val _ (Yl.idxN sl22 rfl rfl (by first | exact .arg ‹_› | exact .own 0 rfl | exact .own 1 rfl | exact .own 2 rfl | exact .own 3 rfl | exact .own 4 rfl | exact .own 5 rfl | exact .own 6 rfl | exact .own 7 rfl | exact .own 8 rfl | assumption) (by decide) (by omega)) trivial rfl ?_ | refine AK.val _ (Yl.idx sl22 rfl rfl (by first | exact .arg ‹_› | exact .own 0 rfl | exact .own 1 rfl | exact .own 2 rfl | exact .own 3 rfl | exact .own 4 rfl | exact .own 5 rfl | exact .own 6 rfl | exact .own 7 rfl | exact .own 8 rfl | assumption) (by decide) (by omega)) trivial rfl ?_
        refine AK.store1e 0 rfl sz3 rfl rfl rfl rfl (by omega) (cs' := ((canon (xs.take (k + 1)) ++ List.replicate (xs.length - (k + 1)) 0).map (Value.int .i64))) (by first | exact canon_fill_none (0, 0) hc0 hc1 | exact canon_fill_some (0, 0) hc0 hc1) trivial ?_
        refine AK.nil ?_
        refine AK.block_normal ?_
        refine AK.then_ (hK9 _ ?_)
        refine AK.region ?_
        refine AK.val _ (Yl.add rfl rfl (by omega)) trivial rfl ?_
        refine AK.val _ (Yl.move rfl) trivial rfl ?_
        refine AK.nil ?_
        refine AK.then_ (hK6 _ _ (k + 1) (by omega) (by omega) (.cons (rfl) (.cons rfl (.cons rfl (.cons rfl (.cons rfl (.nil)))))) (fun w hw => by first | (rw [cst_map_none (0, 0) hc0 hc1]; exact hw.pick [0, 1] (by decide) rfl rfl) | (rw [cst_map_some (0, 0) hc0 hc1]; exact hw.pick [0, 1] (by decide) rfl rfl)))
      · refine AK.skip ?_
        refine AK.then_ (hK12 _ ?_)
        refine AK.region ?_
        refine AK.val _ (Yl.move rfl) trivial rfl ?_
        refine AK.val _ (Yl.move rfl) trivial rfl ?_
        refine AK.val _ (Yl.move rfl) trivial rfl ?_
        first | refine AK.val _ (Yl.idxN sl22 rfl rfl (by first | exact .arg ‹_› | exact .own 0 rfl | exact .own 1 rfl | exact .own 2 rfl | exact .own 3 rfl | exact .own 4 rfl | exact .own 5 rfl | exact .own 6 rfl | exact .own 7 rfl | exact .own 8 rfl | assumption) (by decide) (by omega)) trivial rfl ?_ | refine AK.val _ (Yl.idx sl22 rfl rfl (by first | exact .arg ‹_› | exact .own 0 rfl | exact .own 1 rfl | exact .own 2 rfl | exact .own 3 rfl | exact .own 4 rfl | exact .own 5 rfl | exact .own 6 rfl | exact .own 7 rfl | exact .own 8 rfl | assumption) (by decide) (by omega)) trivial rfl ?_
        refine AK.store1e 0 rfl sz3 rfl rfl rfl rfl (by omega) (cs' := ((canon (xs.take (k + 1)) ++ List.replicate (xs.length - (k + 1)) 0).map (Value.int .i64))) (by first | exact canon_fill_none (0, 0) hc0 hc1 | exact canon_fill_some (0, 0) hc0 hc1) trivial ?_
        refine AK.nil ?_
        refine AK.block_normal ?_
        refine AK.then_ (hK9 _ ?_)
        refine AK.region ?_
        refine AK.val _ (Yl.add rfl rfl (by omega)) trivial rfl ?_
        refine AK.val _ (Yl.move rfl) trivial rfl ?_
        refine AK.nil ?_
        refine AK.then_ (hK6 _ _ (k + 1) (by omega) (by omega) (.cons (rfl) (.cons rfl (.cons rfl (.cons rfl (.cons rfl (.nil)))))) (fun w hw => by first | (rw [cst_map_none (0, 0) hc0 hc1]; exact hw.pick [0, 1] (by decide) rfl rfl) | (rw [cst_map_some (0, 0) hc0 hc1]; exact hw.pick [0, 1] (by decide) rfl rfl)))
    · refine AK.exit ?_
      refine AK.then_exit ?_
      refine AK.then_exit ?_
      refine AK.block_exit ?_
      refine AK.then_ (hK4 _ ?_)
      refine AK.seq (fun _ hK15 => ?_)
      refine AK.region ?_
      refine AK.val _ (Yl.move rfl) trivial rfl ?_
      refine AK.val _ (Yl.assign rfl) trivial rfl ?_
      refine AK.nil ?_
      refine AK.then_ (hK15 _ ?_)
      refine AK.ret ?_
      refine AK.ret1 rfl rfl (fun w hw => ⟨_, _, ?_, rfl, Ret.of (hw.pick [0] (by decide) rfl rfl)⟩)
      have hk : k = xs.length := by omega
      subst hk
      simp

set_option maxRecDepth 100000 in
theorem s_meet (w : World) (u v : Value) (xs ys : List Int) (hu : RdI w u xs) (hv : RdI w v ys) : CallS Try.prog 38 [u, v] w (fun r o => o = [row r 3 1 (meetB xs ys).length ((meetB xs ys).map (Value.int .i64))]) := by
  have hu0 := hu
  have hv0 := hv
  unfold RdI at hu hv
  refine spec_of Try.func38 rfl (Nat.le_of_ble_eq_true rfl) ?_
  refine AK.seq (fun _ hK1 => ?_)
  refine AK.region ?_
  refine AK.val _ (Yl.assign rfl) trivial rfl ?_
  refine AK.nil ?_
  refine AK.then_ (hK1 _ ?_)
  refine AK.seq (fun _ hK2 => ?_)
  refine AK.seq (fun _ hK3 => ?_)
  refine AK.region ?_
  refine AK.val _ (Yl.move rfl) trivial rfl ?_
  refine AK.val _ (Yl.move rfl) trivial rfl ?_
  refine AK.call co48 rfl (fun w hw => s_matching w u v xs ys (RdI.at hu0 hw) (RdI.at hv0 hw)) trivial rfl ?_
  rintro r o ⟨rfl, rfl⟩
  refine AK.val _ (Yl.not rfl) trivial rfl ?_
  refine AK.nil ?_
  refine AK.then_ (hK3 _ ?_)
  refine AK.condB rfl (fun hc0 => ?_) (fun hc0 => ?_)
  · refine AK.seq (fun _ hK4 => ?_)
    refine AK.region ?_
    refine AK.val _ (Yl.assign rfl) trivial rfl ?_
    refine AK.nil ?_
    refine AK.then_ (hK4 _ ?_)
    refine AK.ret ?_
    refine AK.then_ret ?_
    refine AK.ghost 3 1 ?_
    refine AK.ret1 rfl rfl (fun w hw => ⟨_, _, ?_, rfl, Ret.of (hw.pick [0] (by decide) rfl rfl)⟩)
    have e : meetB xs ys = [] := by unfold meetB; rw [if_neg (show ¬ okPQ xs ys from of_decide_eq_false hc0)]
    rw [e]; rfl
  · obtain ⟨hle, hvp, hvq⟩ := of_decide_eq_true hc0
    have hl1 := hvp.1
    refine AK.skip ?_
    refine AK.then_ (hK2 _ ?_)
    refine AK.seq (fun _ hK5 => ?_)
    refine AK.region ?_
    refine AK.val _ (Yl.move rfl) trivial rfl ?_
    refine AK.val _ (Yl.lenR sl22 rfl (by first | exact .arg ‹_› | exact .own 0 rfl | exact .own 1 rfl | exact .own 2 rfl | exact .own 3 rfl | exact .own 4 rfl | exact .own 5 rfl | exact .own 6 rfl | exact .own 7 rfl | exact .own 8 rfl | assumption)) trivial rfl ?_
    refine AK.makeP sl31 el42 rfl rfl (by omega) (by omega) trivial rfl (fun mv0 => ?_)
    refine AK.val _ (Yl.assign rfl) trivial rfl ?_
    refine AK.nil ?_
    refine AK.then_ (hK5 _ ?_)
    refine AK.seq (fun _ hK6 => ?_)
    refine AK.seq (fun _ hK7 => ?_)
    refine AK.region ?_
    refine AK.val _ (Yl.move rfl) trivial rfl ?_
    refine AK.val _ (Yl.lenR sl22 rfl (by first | exact .arg ‹_› | exact .own 0 rfl | exact .own 1 rfl | exact .own 2 rfl | exact .own 3 rfl | exact .own 4 rfl | exact .own 5 rfl | exact .own 6 rfl | exact .own 7 rfl | exact .own 8 rfl | assumption)) trivial rfl ?_
    refine AK.val _ (Yl.move rfl) trivial rfl ?_
    refine AK.nil ?_
    refine AK.then_ (hK7 _ ?_)
    refine AK.block ?_
    refine AK.loopS (X := Nat) [0, 1, 5, 15] (fun k => [(16, .int .i64 (k : Int))]) (fun k => [row mv0 42 2 xs.length (pcs (zipP (xs.take k) (ys.take k) ++ List.replicate (xs.length - k) (0, 0)))]) (fun k => k ≤ xs.length) (fun k => xs.length - k) (0) ?_ ?_ ?_ ?_
    · exact Nat.zero_le _
    · exact .cons (rfl) (.nil)
    · exact fun w hw => by simpa [zipP] using hw
    · intro k hg0 _ hK8
      refine AK.seq (fun _ hK9 => ?_)
      refine AK.region ?_
      refine AK.val _ (Yl.lss rfl rfl) trivial rfl ?_
      refine AK.nil ?_
      refine AK.then_ (hK9 _ ?_)
      refine AK.seq (fun _ hK10 => ?_)
      refine AK.condD rfl (fun hc1 => ?_) (fun hc1 => ?_)
      · refine AK.skip ?_
        refine AK.then_ (hK10 _ ?_)
        refine AK.seq (fun _ hK11 => ?_)
        refine AK.block ?_
        refine AK.seq (fun _ hK12 => ?_)
        refine AK.region ?_
        refine AK.val _ (Yl.move rfl) trivial rfl ?_
        refine AK.val _ (Yl.assign rfl) trivial rfl ?_
        refine AK.nil ?_
        refine AK.then_ (hK12 _ ?_)
        refine AK.stillTail 12 mixed (by kernel_rfl) (fun _ hws => ?_)
        refine SK.val hws _ (Yl.move rfl) trivial rfl ?_
        refine SK.val hws _ (Yl.move rfl) trivial rfl ?_
        refine SK.val hws _ (Yl.move rfl) trivial rfl ?_
        refine SK.val hws _ (Yl.move rfl) trivial rfl ?_
        first | refine SK.val hws _ (Yl.idxN sl22 rfl rfl (by first | exact .arg ‹_› | exact .own 0 rfl | exact .own 1 rfl | exact .own 2 rfl | exact .own 3 rfl | exact .own 4 rfl | exact .own 5 rfl | exact .own 6 rfl | exact .own 7 rfl | exact .own 8 rfl | assumption) (by decide) (by omega)) trivial rfl ?_ | refine SK.val hws _ (Yl.idx sl22 rfl rfl (by first | exact .arg ‹_› | exact .own 0 rfl | exact .own 1 rfl | exact .own 2 rfl | exact .own 3 rfl | exact .own 4 rfl | exact .own 5 rfl | exact .own 6 rfl | exact .own 7 rfl | exact .own 8 rfl | assumption) (by decide) (by omega)) trivial rfl ?_
        refine SK.val hws _ (Yl.loadI on3 rfl (by first | exact .arg ‹_› | exact .own 0 rfl | exact .own 1 rfl | exact .own 2 rfl | exact .own 3 rfl | exact .own 4 rfl | exact .own 5 rfl | exact .own 6 rfl | exact .own 7 rfl | exact .own 8 rfl | assumption) (by omega)) trivial rfl ?_
        refine SK.val hws _ (Yl.move rfl) trivial rfl ?_
        refine SK.val hws _ (Yl.move rfl) trivial rfl ?_
        first | refine SK.val hws _ (Yl.idxN sl22 rfl rfl (by first | exact .arg ‹_› | exact .own 0 rfl | exact .own 1 rfl | exact .own 2 rfl | exact .own 3 rfl | exact .own 4 rfl | exact .own 5 rfl | exact .own 6 rfl | exact .own 7 rfl | exact .own 8 rfl | assumption) (by decide) (by omega)) trivial rfl ?_ | refine SK.val hws _ (Yl.idx sl22 rfl rfl (by first | exact .arg ‹_› | exact .own 0 rfl | exact .own 1 rfl | exact .own 2 rfl | exact .own 3 rfl | exact .own 4 rfl | exact .own 5 rfl | exact .own 6 rfl | exact .own 7 rfl | exact .own 8 rfl | assumption) (by decide) (by omega)) trivial rfl ?_
        refine SK.val hws _ (Yl.loadI on3 rfl (by first | exact .arg ‹_› | exact .own 0 rfl | exact .own 1 rfl | exact .own 2 rfl | exact .own 3 rfl | exact .own 4 rfl | exact .own 5 rfl | exact .own 6 rfl | exact .own 7 rfl | exact .own 8 rfl | assumption) (by omega)) trivial rfl ?_
        refine SK.val hws _ (Yl.build (parts := [(0, .tmp 24), (1, .tmp 28)]) (cs := #[.int .i64 (xs.getD k 0), .int .i64 (ys.getD k 0)]) rfl (by kernel_rfl)) trivial rfl ?_
        first | refine SK.val hws _ (Yl.idxN sl31 rfl rfl (by first | exact .arg ‹_› | exact .own 0 rfl | exact .own 1 rfl | exact .own 2 rfl | exact .own 3 rfl | exact .own 4 rfl | exact .own 5 rfl | exact .own 6 rfl | exact .own 7 rfl | exact .own 8 rfl | assumption) (by decide) (by omega)) trivial rfl ?_ | refine SK.val hws _ (Yl.idx sl31 rfl rfl (by first | exact .arg ‹_› | exact .own 0 rfl | exact .own 1 rfl | exact .own 2 rfl | exact .own 3 rfl | exact .own 4 rfl | exact .own 5 rfl | exact .own 6 rfl | exact .own 7 rfl | exact .own 8 rfl | assumption) (by decide) (by omega)) trivial rfl ?_
        refine SK.nil (SK.fin hws ?_)
        refine AK.storeG 0 rfl sz42 rfl rfl rfl rfl (by intro u hu; simp [pv, Value.cells] at hu; rcases hu with rfl | rfl <;> rfl) (by omega) (cs' := (pcs (zipP (xs.take (k + 1)) (ys.take (k + 1)) ++ List.replicate (xs.length - (k + 1)) (0, 0)))) (by rw [zipP_succ (by omega) (by omega)]; exact fill_setP (zipP (xs.take k) (ys.take k)) (xs.getD k 0, ys.getD k 0) xs.length k (zipP_tlen (by omega) (by omega)) (by omega)) trivial ?_
        refine AK.nil ?_
        refine AK.block_normal ?_
        refine AK.then_ (hK11 _ ?_)
        refine AK.region ?_
        refine AK.val _ (Yl.add rfl rfl (by omega)) trivial rfl ?_
        refine AK.val _ (Yl.move rfl) trivial rfl ?_
        refine AK.nil ?_
        refine AK.then_ (hK8 _ _ (k + 1) (by omega) (by omega) (.cons (rfl) (.cons rfl (.cons rfl (.cons rfl (.cons rfl (.nil)))))) (fun w hw => hw))
      · refine AK.exit ?_
        refine AK.then_exit ?_
        refine AK.then_exit ?_
        refine AK.block_exit ?_
        refine AK.then_ (hK6 _ ?_)
        refine AK.seq (fun _ hK13 => ?_)
        refine AK.region ?_
        refine AK.val _ (Yl.move rfl) trivial rfl ?_
        refine AK.call co49 rfl (fun w hw => s_canonP w mv0 (zipP xs ys) (rdp_ownE 0 hw rfl (zipP_len hle).symm (by have hk : k = xs.length := (by omega); rw [hk, Nat.sub_self, List.take_length, hle, List.take_length]; simp)) (by rw [zipP_len hle]; omega)) trivial rfl ?_
        rintro r o rfl
        refine AK.val _ (Yl.assign rfl) trivial rfl ?_
        refine AK.nil ?_
        refine AK.then_ (hK13 _ ?_)
        refine AK.ret ?_
        refine AK.ret1 rfl rfl (fun w hw => ⟨_, _, ?_, rfl, Ret.of (hw.pick [1] (by decide) rfl rfl)⟩)
        have e : meetB xs ys = canon (zipP xs ys) := by unfold meetB; rw [if_pos (show okPQ xs ys from of_decide_eq_true hc0)]
        rw [e, canon_length]; rfl

set_option maxRecDepth 100000 in
theorem s_refmeet (w : World) (u v : Value) (xs ys : List Int) (hu : RdI w u xs) (hv : RdI w v ys) (hok : okPQ xs ys) : CallS Try.prog 40 [u, v] w (fun r o => o = [row r 3 1 (meetB xs ys).length ((meetB xs ys).map (Value.int .i64))]) := by
  have hu0 := hu
  have hv0 := hv
  unfold RdI at hu hv
  obtain ⟨hle, hvp, hvq⟩ := id hok
  have hl1 := hvp.1
  refine spec_of Try.func40 rfl (Nat.le_of_ble_eq_true rfl) ?_
  refine AK.seq (fun _ hK1 => ?_)
  refine AK.region ?_
  refine AK.val _ (Yl.assign rfl) trivial rfl ?_
  refine AK.nil ?_
  refine AK.then_ (hK1 _ ?_)
  refine AK.seq (fun _ hK2 => ?_)
  refine AK.region ?_
  refine AK.val _ (Yl.move rfl) trivial rfl ?_
  refine AK.val _ (Yl.lenR sl22 rfl (by first | exact .arg ‹_› | exact .own 0 rfl | exact .own 1 rfl | exact .own 2 rfl | exact .own 3 rfl | exact .own 4 rfl | exact .own 5 rfl | exact .own 6 rfl | exact .own 7 rfl | exact .own 8 rfl | assumption)) trivial rfl ?_
  refine AK.make1 sl22 el3 rfl rfl rfl (by omega) (by omega) trivial rfl (fun mv0 => ?_)
  refine AK.val _ (Yl.assign rfl) trivial rfl ?_
  refine AK.nil ?_
  refine AK.then_ (hK2 _ ?_)
  refine AK.seq (fun _ hK3 => ?_)
  refine AK.seq (fun _ hK4 => ?_)
  refine AK.region ?_
  refine AK.val _ (Yl.move rfl) trivial rfl ?_
  refine AK.val _ (Yl.lenR sl22 rfl (by first | exact .arg ‹_› | exact .own 0 rfl | exact .own 1 rfl | exact .own 2 rfl | exact .own 3 rfl | exact .own 4 rfl | exact .own 5 rfl | exact .own 6 rfl | exact .own 7 rfl | exact .own 8 rfl | assumption)) trivial rfl ?_
  refine AK.val _ (Yl.move rfl) trivial rfl ?_
  refine AK.nil ?_
  refine AK.then_ (hK4 _ ?_)
  refine AK.block ?_
  refine AK.loopS (X := Nat) [0, 1, 5, 11] (fun k => [(12, .int .i64 (k : Int))]) (fun k => [row mv0 3 1 xs.length ((encL (xs.take k) (ys.take k) ++ List.replicate (xs.length - k) 0).map (Value.int .i64))]) (fun k => k ≤ xs.length) (fun k => xs.length - k) (0) ?_ ?_ ?_ ?_
  · exact Nat.zero_le _
  · exact .cons (rfl) (.nil)
  · exact fun w hw => by simpa [encL, zipP] using hw
  · intro k hg0 _ hK5
    have hbx := fun h => valid_bd hvp (k := k) h
    have hby := fun h => valid_bd hvq (k := k) h
    refine AK.seq (fun _ hK6 => ?_)
    refine AK.region ?_
    refine AK.val _ (Yl.lss rfl rfl) trivial rfl ?_
    refine AK.nil ?_
    refine AK.then_ (hK6 _ ?_)
    refine AK.seq (fun _ hK7 => ?_)
    refine AK.condD rfl (fun hc0 => ?_) (fun hc0 => ?_)
    · refine AK.skip ?_
      refine AK.then_ (hK7 _ ?_)
      refine AK.seq (fun _ hK8 => ?_)
      refine AK.block ?_
      refine AK.seq (fun _ hK9 => ?_)
      refine AK.region ?_
      refine AK.val _ (Yl.move rfl) trivial rfl ?_
      refine AK.val _ (Yl.assign rfl) trivial rfl ?_
      refine AK.nil ?_
      refine AK.then_ (hK9 _ ?_)
      refine AK.stillTail 13 mixed (by kernel_rfl) (fun _ hws => ?_)
      refine SK.val hws _ (Yl.move rfl) trivial rfl ?_
      refine SK.val hws _ (Yl.move rfl) trivial rfl ?_
      refine SK.val hws _ (Yl.move rfl) trivial rfl ?_
      refine SK.val hws _ (Yl.move rfl) trivial rfl ?_
      first | refine SK.val hws _ (Yl.idxN sl22 rfl rfl (by first | exact .arg ‹_› | exact .own 0 rfl | exact .own 1 rfl | exact .own 2 rfl | exact .own 3 rfl | exact .own 4 rfl | exact .own 5 rfl | exact .own 6 rfl | exact .own 7 rfl | exact .own 8 rfl | assumption) (by decide) (by omega)) trivial rfl ?_ | refine SK.val hws _ (Yl.idx sl22 rfl rfl (by first | exact .arg ‹_› | exact .own 0 rfl | exact .own 1 rfl | exact .own 2 rfl | exact .own 3 rfl | exact .own 4 rfl | exact .own 5 rfl | exact .own 6 rfl | exact .own 7 rfl | exact .own 8 rfl | assumption) (by decide) (by omega)) trivial rfl ?_
      refine SK.val hws _ (Yl.loadI on3 rfl (by first | exact .arg ‹_› | exact .own 0 rfl | exact .own 1 rfl | exact .own 2 rfl | exact .own 3 rfl | exact .own 4 rfl | exact .own 5 rfl | exact .own 6 rfl | exact .own 7 rfl | exact .own 8 rfl | assumption) (by omega)) trivial rfl ?_
      refine SK.val hws _ (Yl.mul rfl rfl (by have := hbx (by omega); omega)) trivial rfl ?_
      refine SK.val hws _ (Yl.move rfl) trivial rfl ?_
      refine SK.val hws _ (Yl.move rfl) trivial rfl ?_
      first | refine SK.val hws _ (Yl.idxN sl22 rfl rfl (by first | exact .arg ‹_› | exact .own 0 rfl | exact .own 1 rfl | exact .own 2 rfl | exact .own 3 rfl | exact .own 4 rfl | exact .own 5 rfl | exact .own 6 rfl | exact .own 7 rfl | exact .own 8 rfl | assumption) (by decide) (by omega)) trivial rfl ?_ | refine SK.val hws _ (Yl.idx sl22 rfl rfl (by first | exact .arg ‹_› | exact .own 0 rfl | exact .own 1 rfl | exact .own 2 rfl | exact .own 3 rfl | exact .own 4 rfl | exact .own 5 rfl | exact .own 6 rfl | exact .own 7 rfl | exact .own 8 rfl | assumption) (by decide) (by omega)) trivial rfl ?_
      refine SK.val hws _ (Yl.loadI on3 rfl (by first | exact .arg ‹_› | exact .own 0 rfl | exact .own 1 rfl | exact .own 2 rfl | exact .own 3 rfl | exact .own 4 rfl | exact .own 5 rfl | exact .own 6 rfl | exact .own 7 rfl | exact .own 8 rfl | assumption) (by omega)) trivial rfl ?_
      refine SK.val hws _ (Yl.add rfl rfl (by have := hbx (by omega); have := hby (by omega); omega)) trivial rfl ?_
      first | refine SK.val hws _ (Yl.idxN sl22 rfl rfl (by first | exact .arg ‹_› | exact .own 0 rfl | exact .own 1 rfl | exact .own 2 rfl | exact .own 3 rfl | exact .own 4 rfl | exact .own 5 rfl | exact .own 6 rfl | exact .own 7 rfl | exact .own 8 rfl | assumption) (by decide) (by omega)) trivial rfl ?_ | refine SK.val hws _ (Yl.idx sl22 rfl rfl (by first | exact .arg ‹_› | exact .own 0 rfl | exact .own 1 rfl | exact .own 2 rfl | exact .own 3 rfl | exact .own 4 rfl | exact .own 5 rfl | exact .own 6 rfl | exact .own 7 rfl | exact .own 8 rfl | assumption) (by decide) (by omega)) trivial rfl ?_
      refine SK.nil (SK.fin hws ?_)
      refine AK.store1e 0 rfl sz3 rfl rfl rfl rfl (by omega) (cs' := ((encL (xs.take (k + 1)) (ys.take (k + 1)) ++ List.replicate (xs.length - (k + 1)) 0).map (Value.int .i64))) (by rw [encL_succ (by omega) (by omega)]; exact fill_set (Value.int .i64) (encL (xs.take k) (ys.take k)) 0 (xs.getD k 0 * 4096 + ys.getD k 0) xs.length k (encL_tlen (by omega) (by omega)) (by omega)) trivial ?_
      refine AK.nil ?_
      refine AK.block_normal ?_
      refine AK.then_ (hK8 _ ?_)
      refine AK.region ?_
      refine AK.val _ (Yl.add rfl rfl (by omega)) trivial rfl ?_
      refine AK.val _ (Yl.move rfl) trivial rfl ?_
      refine AK.nil ?_
      refine AK.then_ (hK5 _ _ (k + 1) (by omega) (by omega) (.cons (rfl) (.cons rfl (.cons rfl (.cons rfl (.cons rfl (.nil)))))) (fun w hw => hw))
    · refine AK.exit ?_
      refine AK.then_exit ?_
      refine AK.then_exit ?_
      refine AK.block_exit ?_
      refine AK.then_ (hK3 _ ?_)
      refine AK.seq (fun _ hK10 => ?_)
      refine AK.region ?_
      refine AK.val _ (Yl.move rfl) trivial rfl ?_
      refine AK.call co17 rfl (fun w hw => s_refcanon w mv0 (encL xs ys) (RdI.ownE 0 hw rfl (encL_len hle).symm (by have hk : k = xs.length := (by omega); rw [hk, Nat.sub_self, List.take_length, hle, List.take_length]; simp))) trivial rfl ?_
      rintro r o rfl
      refine AK.val _ (Yl.assign rfl) trivial rfl ?_
      refine AK.nil ?_
      refine AK.then_ (hK10 _ ?_)
      refine AK.ret ?_
      refine AK.ret1 rfl rfl (fun w hw => ⟨_, _, ?_, rfl, Ret.of (hw.pick [1] (by decide) rfl rfl)⟩)
      rw [refmeet_eq hok]; rfl

set_option maxRecDepth 100000 in
theorem s_join (w : World) (u v : Value) (xs ys : List Int) (hu : RdI w u xs) (hv : RdI w v ys) : CallS Try.prog 39 [u, v] w (fun r o => o = [row r 3 1 (joinB xs ys).length ((joinB xs ys).map (Value.int .i64))]) := by
  have hu0 := hu
  have hv0 := hv
  unfold RdI at hu hv
  have su := rdi_sl hu0
  have sv := rdi_sl hv0
  have huv : ∀ j, j < 2 → RdI w ([u, v].getD j undef) ([xs, ys].getD j []) := by
    intro j hj
    match j, hj with
    | 0, _ => exact hu0
    | 1, _ => exact hv0
  refine spec_of Try.func39 rfl (Nat.le_of_ble_eq_true rfl) ?_
  refine AK.seq (fun _ hK1 => ?_)
  refine AK.region ?_
  refine AK.val _ (Yl.assign rfl) trivial rfl ?_
  refine AK.nil ?_
  refine AK.then_ (hK1 _ ?_)
  refine AK.seq (fun _ hK2 => ?_)
  refine AK.seq (fun _ hK3 => ?_)
  refine AK.region ?_
  refine AK.val _ (Yl.move rfl) trivial rfl ?_
  refine AK.val _ (Yl.move rfl) trivial rfl ?_
  refine AK.call co48 rfl (fun w hw => s_matching w u v xs ys (RdI.at hu0 hw) (RdI.at hv0 hw)) trivial rfl ?_
  rintro r o ⟨rfl, rfl⟩
  refine AK.val _ (Yl.not rfl) trivial rfl ?_
  refine AK.nil ?_
  refine AK.then_ (hK3 _ ?_)
  refine AK.condB rfl (fun hc0 => ?_) (fun hc0 => ?_)
  · refine AK.seq (fun _ hK4 => ?_)
    refine AK.region ?_
    refine AK.val _ (Yl.assign rfl) trivial rfl ?_
    refine AK.nil ?_
    refine AK.then_ (hK4 _ ?_)
    refine AK.ret ?_
    refine AK.then_ret ?_
    refine AK.ghost 3 1 ?_
    refine AK.ret1 rfl rfl (fun w hw => ⟨_, _, ?_, rfl, Ret.of (hw.pick [0] (by decide) rfl rfl)⟩)
    have e : joinB xs ys = [] := by unfold joinB; rw [if_neg (show ¬ okPQ xs ys from of_decide_eq_false hc0)]
    rw [e]; rfl
  · obtain ⟨hle, hvp, hvq⟩ := of_decide_eq_true hc0
    have hl1 := hvp.1
    have hvX : ∀ j, j < 2 → ValidP ([xs, ys].getD j []) ∧ ([xs, ys].getD j []).length = xs.length := by
      intro j hj
      match j, hj with
      | 0, _ => exact ⟨hvp, rfl⟩
      | 1, _ => exact ⟨hvq, hle.symm⟩
    refine AK.skip ?_
    refine AK.then_ (hK2 _ ?_)
    refine AK.seq (fun _ hK5 => ?_)
    refine AK.region ?_
    refine AK.val _ (Yl.move rfl) trivial rfl ?_
    refine AK.val _ (Yl.lenR sl22 rfl (by first | exact .arg ‹_› | exact .own 0 rfl | exact .own 1 rfl | exact .own 2 rfl | exact .own 3 rfl | exact .own 4 rfl | exact .own 5 rfl | exact .own 6 rfl | exact .own 7 rfl | exact .own 8 rfl | assumption | exact .big 3 _ rfl (matL_get hrl (by omega)))) trivial rfl ?_
    refine AK.call co44 rfl (fun w hw => s_newforest w (xs.length : Int)) trivial rfl ?_
    rintro fv o rfl
    refine AK.val _ (Yl.assign rfl) trivial rfl ?_
    refine AK.nil ?_
    refine AK.then_ (hK5 _ ?_)
    refine AK.seq (fun _ hK6 => ?_)
    refine AK.seq (fun _ hK7 => ?_)
    refine AK.region ?_
    refine AK.val _ (Yl.move rfl) trivial rfl ?_
    refine AK.val _ (Yl.move rfl) trivial rfl ?_
    refine AK.lit (xs := [.tmp 19, .tmp 20]) sl28 el22 rfl rfl rfl (by intro a ha; simp at ha; rcases ha with rfl | rfl; (rw [su.cells]; rfl); (rw [sv.cells]; rfl)) (by decide) (by decide) trivial rfl (fun lv => ?_)
    refine AK.val _ (Yl.lenR sl28 rfl (by first | exact .arg ‹_› | exact .own 0 rfl | exact .own 1 rfl | exact .own 2 rfl | exact .own 3 rfl | exact .own 4 rfl | exact .own 5 rfl | exact .own 6 rfl | exact .own 7 rfl | exact .own 8 rfl | assumption | exact .big 3 _ rfl (matL_get hrl (by omega)))) trivial rfl ?_
    refine AK.val _ (Yl.move rfl) trivial rfl ?_
    refine AK.nil ?_
    refine AK.then_ (hK7 _ ?_)
    refine AK.block ?_
    refine AK.loopS (X := Nat × List Int) [5, 21, 22] (fun x => [(23, .int .i64 (x.1 : Int))]) (fun x => [row fv 3 1 xs.length (x.2.map (Value.int .i64)), row lv 22 1 2 [u, v]]) (fun x => x.1 ≤ 2 ∧ Rep (ufs (([xs, ys].take x.1).flatMap jp)) x.2 xs.length) (fun x => 2 - x.1) ((0, idl xs.length)) ?_ ?_ ?_ ?_
    · exact ⟨Nat.zero_le _, rep_id _⟩
    · exact .cons (rfl) (.nil)
    · exact fun w hw => by have e : discB (xs.length : Int) = idl xs.length := (by unfold discB; rw [if_pos (by omega)]; rfl); rw [e, idl_length] at hw; have e2 : [u, v].flatMap (·.cells.toList) = [u, v] := (by simp [su.cells, sv.cells]); rw [e2] at hw; exact hw
    · intro x hg0 _ hK8
      obtain ⟨hj2, hr1⟩ := hg0
      refine AK.seq (fun _ hK9 => ?_)
      refine AK.region ?_
      refine AK.val _ (Yl.lss rfl rfl) trivial rfl ?_
      refine AK.nil ?_
      refine AK.then_ (hK9 _ ?_)
      refine AK.seq (fun _ hK10 => ?_)
      refine AK.condD rfl (fun hc1 => ?_) (fun hc1 => ?_)
      · refine AK.skip ?_
        refine AK.then_ (hK10 _ ?_)
        refine AK.seq (fun _ hK11 => ?_)
        refine AK.block ?_
        refine AK.seq (fun _ hK12 => ?_)
        refine AK.region ?_
        first | refine AK.val _ (Yl.idxN sl28 rfl rfl (by first | exact .arg ‹_› | exact .own 0 rfl | exact .own 1 rfl | exact .own 2 rfl | exact .own 3 rfl | exact .own 4 rfl | exact .own 5 rfl | exact .own 6 rfl | exact .own 7 rfl | exact .own 8 rfl | assumption | exact .big 3 _ rfl (matL_get hrl (by omega))) (by decide) (by omega)) trivial rfl ?_ | refine AK.val _ (Yl.idx sl28 rfl rfl (by first | exact .arg ‹_› | exact .own 0 rfl | exact .own 1 rfl | exact .own 2 rfl | exact .own 3 rfl | exact .own 4 rfl | exact .own 5 rfl | exact .own 6 rfl | exact .own 7 rfl | exact .own 8 rfl | assumption | exact .big 3 _ rfl (matL_get hrl (by omega))) (by decide) (by omega)) trivial rfl ?_
        refine AK.val _ (Yl.loadV on22 rfl (by first | exact .arg ‹_› | exact .own 0 rfl | exact .own 1 rfl | exact .own 2 rfl | exact .own 3 rfl | exact .own 4 rfl | exact .own 5 rfl | exact .own 6 rfl | exact .own 7 rfl | exact .own 8 rfl | assumption | exact .big 3 _ rfl (matL_get hrl (by omega))) (by simp; omega)) trivial rfl ?_
        refine AK.val _ (Yl.assign rfl) trivial rfl ?_
        refine AK.nil ?_
        refine AK.then_ (hK12 _ ?_)
        refine AK.seq (fun _ hK13 => ?_)
        refine AK.region ?_
        refine AK.val _ (Yl.move rfl) trivial rfl ?_
        refine AK.call co22 rfl (fun w hw => s_classes w ([u, v].getD x.1 undef) ([xs, ys].getD x.1 []) (RdI.at (huv x.1 (by omega)) hw)) trivial rfl ?_
        rintro cv o ⟨rs, hrl, rfl⟩
        refine AK.val _ (Yl.lenR sl28 rfl (by first | exact .arg ‹_› | exact .own 0 rfl | exact .own 1 rfl | exact .own 2 rfl | exact .own 3 rfl | exact .own 4 rfl | exact .own 5 rfl | exact .own 6 rfl | exact .own 7 rfl | exact .own 8 rfl | assumption | exact .big 3 _ rfl (matL_get hrl (by omega)))) trivial rfl ?_
        refine AK.val _ (Yl.move rfl) trivial rfl ?_
        refine AK.nil ?_
        refine AK.then_ (hK13 _ ?_)
        refine AK.block ?_
        refine AK.loopS (X := Nat × List Int) [5, 21, 22, 23, 28, 29] (fun y => [(30, .int .i64 (y.1 : Int))]) (fun y => [row fv 3 1 xs.length (y.2.map (Value.int .i64)), row lv 22 1 2 [u, v], row cv 22 1 (classB ([xs, ys].getD x.1 [])).length rs, bigA (matL 3 rs (classB ([xs, ys].getD x.1 [])))]) (fun y => y.1 ≤ (classB ([xs, ys].getD x.1 [])).length ∧ Rep (ufs ((([xs, ys].take x.1).flatMap jp) ++ ((classB ([xs, ys].getD x.1 [])).take y.1).flatMap clP)) y.2 xs.length) (fun y => (classB ([xs, ys].getD x.1 [])).length - y.1) ((0, x.2)) ?_ ?_ ?_ ?_
        · exact ⟨Nat.zero_le _, by simpa using hr1⟩
        · exact .cons (rfl) (.nil)
        · exact fun w hw => hw
        · intro y hg1 _ hK14
          obtain ⟨hy1, hr2⟩ := hg1
          obtain ⟨hvx, hlx⟩ := hvX x.1 (by omega)
          have hcn := classB_len hvx
          have hvc := valid_cnt hvx
          refine AK.seq (fun _ hK15 => ?_)
          refine AK.region ?_
          refine AK.val _ (Yl.lss rfl rfl) trivial rfl ?_
          refine AK.nil ?_
          refine AK.then_ (hK15 _ ?_)
          refine AK.seq (fun _ hK16 => ?_)
          refine AK.condD rfl (fun hc2 => ?_) (fun hc2 => ?_)
          · refine AK.skip ?_
            refine AK.then_ (hK16 _ ?_)
            refine AK.seq (fun _ hK17 => ?_)
            refine AK.block ?_
            refine AK.seq (fun _ hK18 => ?_)
            refine AK.region ?_
            first | refine AK.val _ (Yl.idxN sl28 rfl rfl (by first | exact .arg ‹_› | exact .own 0 rfl | exact .own 1 rfl | exact .own 2 rfl | exact .own 3 rfl | exact .own 4 rfl | exact .own 5 rfl | exact .own 6 rfl | exact .own 7 rfl | exact .own 8 rfl | assumption | exact .big 3 _ rfl (matL_get hrl (by omega))) (by decide) (by omega)) trivial rfl ?_ | refine AK.val _ (Yl.idx sl28 rfl rfl (by first | exact .arg ‹_› | exact .own 0 rfl | exact .own 1 rfl | exact .own 2 rfl | exact .own 3 rfl | exact .own 4 rfl | exact .own 5 rfl | exact .own 6 rfl | exact .own 7 rfl | exact .own 8 rfl | assumption | exact .big 3 _ rfl (matL_get hrl (by omega))) (by decide) (by omega)) trivial rfl ?_
            refine AK.val _ (Yl.loadV on22 rfl (by first | exact .arg ‹_› | exact .own 0 rfl | exact .own 1 rfl | exact .own 2 rfl | exact .own 3 rfl | exact .own 4 rfl | exact .own 5 rfl | exact .own 6 rfl | exact .own 7 rfl | exact .own 8 rfl | assumption | exact .big 3 _ rfl (matL_get hrl (by omega))) (by omega)) trivial rfl ?_
            refine AK.val _ (Yl.assign rfl) trivial rfl ?_
            refine AK.nil ?_
            refine AK.then_ (hK18 _ ?_)
            refine AK.seq (fun _ hK19 => ?_)
            refine AK.region ?_
            refine AK.val _ (Yl.move rfl) trivial rfl ?_
            refine AK.val _ (Yl.lenR sl22 rfl (by first | exact .arg ‹_› | exact .own 0 rfl | exact .own 1 rfl | exact .own 2 rfl | exact .own 3 rfl | exact .own 4 rfl | exact .own 5 rfl | exact .own 6 rfl | exact .own 7 rfl | exact .own 8 rfl | assumption | exact .big 3 _ rfl (matL_get hrl (by omega)))) trivial rfl ?_
            refine AK.val _ (Yl.move rfl) trivial rfl ?_
            refine AK.nil ?_
            refine AK.then_ (hK19 _ ?_)
            refine AK.block ?_
            refine AK.loopS (X := Nat × List Int) [5, 9, 21, 22, 23, 28, 29, 30, 34, 35] (fun z => [(36, .int .i64 (z.1 : Int))]) (fun z => [row fv 3 1 xs.length (z.2.map (Value.int .i64)), row lv 22 1 2 [u, v], row cv 22 1 (classB ([xs, ys].getD x.1 [])).length rs, bigA (matL 3 rs (classB ([xs, ys].getD x.1 [])))]) (fun z => z.1 ≤ ((classB ([xs, ys].getD x.1 [])).getD y.1 []).length ∧ Rep (ufs ((([xs, ys].take x.1).flatMap jp) ++ ((classB ([xs, ys].getD x.1 [])).take y.1).flatMap clP ++ (((classB ([xs, ys].getD x.1 [])).getD y.1 []).take z.1).map fun i => (((classB ([xs, ys].getD x.1 [])).getD y.1 []).getD 0 0, i))) z.2 xs.length) (fun z => ((classB ([xs, ys].getD x.1 [])).getD y.1 []).length - z.1) ((0, y.2)) ?_ ?_ ?_ ?_
            · exact ⟨Nat.zero_le _, by simpa using hr2⟩
            · exact .cons (rfl) (.nil)
            · exact fun w hw => hw
            · intro z hg2 _ hK20
              obtain ⟨hm, hr3⟩ := hg2
              have hca : y.1 < (classB ([xs, ys].getD x.1 [])).length := (by omega)
              have hcl := fun h => cl_at hvx hca (m := z.1) h
              have hcl0 := fun h => cl_at hvx hca (m := 0) h
              have hcll := cl_len hvx hca
              refine AK.seq (fun _ hK21 => ?_)
              refine AK.region ?_
              refine AK.val _ (Yl.lss rfl rfl) trivial rfl ?_
              refine AK.nil ?_
              refine AK.then_ (hK21 _ ?_)
              refine AK.seq (fun _ hK22 => ?_)
              refine AK.condD rfl (fun hc3 => ?_) (fun hc3 => ?_)
              · refine AK.skip ?_
                refine AK.then_ (hK22 _ ?_)
                refine AK.seq (fun _ hK23 => ?_)
                refine AK.block ?_
                refine AK.seq (fun _ hK24 => ?_)
                refine AK.region ?_
                first | refine AK.val _ (Yl.idxN sl22 rfl rfl (by first | exact .arg ‹_› | exact .own 0 rfl | exact .own 1 rfl | exact .own 2 rfl | exact .own 3 rfl | exact .own 4 rfl | exact .own 5 rfl | exact .own 6 rfl | exact .own 7 rfl | exact .own 8 rfl | assumption | exact .big 3 _ rfl (matL_get hrl (by omega))) (by decide) (by omega)) trivial rfl ?_ | refine AK.val _ (Yl.idx sl22 rfl rfl (by first | exact .arg ‹_› | exact .own 0 rfl | exact .own 1 rfl | exact .own 2 rfl | exact .own 3 rfl | exact .own 4 rfl | exact .own 5 rfl | exact .own 6 rfl | exact .own 7 rfl | exact .own 8 rfl | assumption | exact .big 3 _ rfl (matL_get hrl (by omega))) (by decide) (by omega)) trivial rfl ?_
                refine AK.val _ (Yl.loadI on3 rfl (by first | exact .arg ‹_› | exact .own 0 rfl | exact .own 1 rfl | exact .own 2 rfl | exact .own 3 rfl | exact .own 4 rfl | exact .own 5 rfl | exact .own 6 rfl | exact .own 7 rfl | exact .own 8 rfl | assumption | exact .big 3 _ rfl (matL_get hrl (by omega))) (by omega)) trivial rfl ?_
                refine AK.val _ (Yl.assign rfl) trivial rfl ?_
                refine AK.nil ?_
                refine AK.then_ (hK24 _ ?_)
                refine AK.region ?_
                refine AK.val _ (Yl.move rfl) trivial rfl ?_
                refine AK.val _ (Yl.move rfl) trivial rfl ?_
                refine AK.val _ (Yl.idxN (k := 0) sl22 rfl rfl (by first | exact .arg ‹_› | exact .own 0 rfl | exact .own 1 rfl | exact .own 2 rfl | exact .own 3 rfl | exact .own 4 rfl | exact .own 5 rfl | exact .own 6 rfl | exact .own 7 rfl | exact .own 8 rfl | assumption | exact .big 3 _ rfl (matL_get hrl (by omega))) (by decide) (by omega)) trivial rfl ?_
                refine AK.val _ (Yl.loadI on3 rfl (by first | exact .arg ‹_› | exact .own 0 rfl | exact .own 1 rfl | exact .own 2 rfl | exact .own 3 rfl | exact .own 4 rfl | exact .own 5 rfl | exact .own 6 rfl | exact .own 7 rfl | exact .own 8 rfl | assumption | exact .big 3 _ rfl (matL_get hrl (by omega))) (by omega)) trivial rfl ?_
                refine AK.val _ (Yl.move rfl) trivial rfl ?_
                refine AK.callM 0 rfl co45 rfl (fun w F hw hA => s_union w F fv z.2 (ufs ((([xs, ys].take x.1).flatMap jp) ++ ((classB ([xs, ys].getD x.1 [])).take y.1).flatMap clP ++ (((classB ([xs, ys].getD x.1 [])).getD y.1 []).take z.1).map fun i => (((classB ([xs, ys].getD x.1 [])).getD y.1 []).getD 0 0, i))) xs.length (((classB ([xs, ys].getD x.1 [])).getD y.1 []).getD 0 0) (((classB ([xs, ys].getD x.1 [])).getD y.1 []).getD z.1 0) hA hr3 (by have := hcl0 (by omega); omega) (by have := hcl (by omega); omega) (by omega)) trivial rfl ?_
                rintro r A o ⟨f1, hr4, rfl, rfl, rfl⟩
                refine AK.nil ?_
                refine AK.block_normal ?_
                refine AK.then_ (hK23 _ ?_)
                refine AK.region ?_
                refine AK.val _ (Yl.add rfl rfl (by omega)) trivial rfl ?_
                refine AK.val _ (Yl.move rfl) trivial rfl ?_
                refine AK.nil ?_
                refine AK.then_ (hK20 _ _ ((z.1 + 1, f1)) ⟨by dsimp only; omega, by dsimp only; rw [take_snocD 0 ((classB ([xs, ys].getD x.1 [])).getD y.1 []) z.1 (by omega), List.map_append, ← List.append_assoc, List.map_cons, List.map_nil, ufs_snoc]; exact hr4⟩ (by dsimp only; omega) (.cons (rfl) (.cons rfl (.cons rfl (.cons rfl (.cons rfl (.cons rfl (.cons rfl (.cons rfl (.cons rfl (.cons rfl (.cons rfl (.nil)))))))))))) (fun w hw => hw.pick [0, 1, 2, 3] (by decide) rfl rfl))
              · refine AK.exit ?_
                refine AK.then_exit ?_
                refine AK.then_exit ?_
                refine AK.block_exit ?_
                refine AK.block_normal ?_
                refine AK.then_ (hK17 _ ?_)
                refine AK.region ?_
                refine AK.val _ (Yl.add rfl rfl (by omega)) trivial rfl ?_
                refine AK.val _ (Yl.move rfl) trivial rfl ?_
                refine AK.nil ?_
                refine AK.then_ (hK14 _ _ ((y.1 + 1, z.2)) ⟨by dsimp only; omega, by rw [show z.1 = ((classB ([xs, ys].getD x.1 [])).getD y.1 []).length from by omega, List.take_length] at hr3; dsimp only; rw [take_snocD [] (classB ([xs, ys].getD x.1 [])) y.1 (by omega), List.flatMap_append]; simpa [clP] using hr3⟩ (by dsimp only; omega) (.cons (rfl) (.cons rfl (.cons rfl (.cons rfl (.cons rfl (.cons rfl (.cons rfl (.nil)))))))) (fun w hw => hw))
          · refine AK.exit ?_
            refine AK.then_exit ?_
            refine AK.then_exit ?_
            refine AK.block_exit ?_
            refine AK.block_normal ?_
            refine AK.then_ (hK11 _ ?_)
            refine AK.region ?_
            refine AK.val _ (Yl.add rfl rfl (by omega)) trivial rfl ?_
            refine AK.val _ (Yl.move rfl) trivial rfl ?_
            refine AK.nil ?_
            refine AK.then_ (hK8 _ _ ((x.1 + 1, y.2)) ⟨by dsimp only; omega, by rw [show y.1 = (classB ([xs, ys].getD x.1 [])).length from by omega, List.take_length] at hr2; dsimp only; rw [take_snocD [] [xs, ys] x.1 (by simp; omega), List.flatMap_append]; simpa [jp] using hr2⟩ (by dsimp only; omega) (.cons (rfl) (.cons rfl (.cons rfl (.cons rfl (.nil))))) (fun w hw => hw.pick [0, 1] (by decide) rfl rfl))
      · refine AK.exit ?_
        refine AK.then_exit ?_
        refine AK.then_exit ?_
        refine AK.block_exit ?_
        refine AK.then_ (hK6 _ ?_)
        refine AK.seq (fun _ hK25 => ?_)
        refine AK.region ?_
        refine AK.val _ (Yl.move rfl) trivial rfl ?_
        refine AK.callM 0 rfl co46 rfl (fun w F hw hA => s_fpart w F fv x.2 (ufs (([xs, ys].take x.1).flatMap jp)) xs.length hA hr1 (by omega)) trivial rfl ?_
        rintro r A o ⟨f1, hr4, rfl, rfl⟩
        refine AK.val _ (Yl.assign rfl) trivial rfl ?_
        refine AK.nil ?_
        refine AK.then_ (hK25 _ ?_)
        refine AK.ret ?_
        refine AK.ret1 rfl rfl (fun w hw => ⟨_, _, ?_, rfl, Ret.of (hw.pick [2] (by decide) rfl rfl)⟩)
        have e : joinB xs ys = canon (rhoL xs.length (ufs (jp xs ++ jp ys))) := by unfold joinB; rw [if_pos (show okPQ xs ys from of_decide_eq_true hc0)]
        have e2 : x.1 = 2 := (by omega)
        rw [e, canon_length, rhoL_length, e2]; simp; try rfl

set_option maxRecDepth 100000 in
theorem s_refjoin (w : World) (u v : Value) (xs ys : List Int) (hu : RdI w u xs) (hv : RdI w v ys) (hok : okPQ xs ys) : CallS Try.prog 41 [u, v] w (fun r o => o = [row r 3 1 (joinB xs ys).length ((joinB xs ys).map (Value.int .i64))]) := by
  have hu0 := hu
  have hv0 := hv
  unfold RdI at hu hv
  obtain ⟨hle, hvp, hvq⟩ := id hok
  have hl1 := hvp.1
  refine spec_of Try.func41 rfl (Nat.le_of_ble_eq_true rfl) ?_
  refine AK.seq (fun _ hK1 => ?_)
  refine AK.region ?_
  refine AK.val _ (Yl.assign rfl) trivial rfl ?_
  refine AK.nil ?_
  refine AK.then_ (hK1 _ ?_)
  refine AK.seq (fun _ hK2 => ?_)
  refine AK.region ?_
  refine AK.lit (xs := []) sl22 el3 rfl rfl rfl (by simp [Value.cells]) (by decide) (by decide) trivial rfl (fun lv => ?_)
  refine AK.val _ (Yl.move rfl) trivial rfl ?_
  refine AK.appendS 0 rfl sl22 el3 rfl (by decide) rfl rfl rfl (.arg hu) (one_ints xs) (by omega) (by omega) trivial rfl (fun av => ?_)
  refine AK.val _ (Yl.assign rfl) trivial rfl ?_
  refine AK.nil ?_
  refine AK.then_ (hK2 _ ?_)
  refine AK.seq (fun _ hK3 => ?_)
  refine AK.seq (fun _ hK4 => ?_)
  refine AK.region ?_
  refine AK.val _ (Yl.move rfl) trivial rfl ?_
  refine AK.val _ (Yl.lenR sl22 rfl (by first | exact .arg ‹_› | exact .own 0 rfl | exact .own 1 rfl | exact .own 2 rfl | exact .own 3 rfl | exact .own 4 rfl | exact .own 5 rfl | exact .own 6 rfl | exact .own 7 rfl | exact .own 8 rfl | assumption)) trivial rfl ?_
  refine AK.val _ (Yl.move rfl) trivial rfl ?_
  refine AK.nil ?_
  refine AK.then_ (hK4 _ ?_)
  refine AK.block ?_
  refine AK.loopS (X := Nat × List (Int × Int)) [1, 5, 12] (fun x => [(13, .int .i64 (x.1 : Int))]) (fun x => [row av 3 1 xs.length ((mfsF xs x.2).map (Value.int .i64))]) (fun x => x.1 ≤ xs.length ∧ rjOK ys x.1 x.2) (fun x => xs.length - x.1) ((0, [])) ?_ ?_ ?_ ?_
  · exact ⟨Nat.zero_le _, rjOK_nil⟩
  · exact .cons (rfl) (.nil)
  · exact fun w hw => by simpa [mfsF] using hw
  · intro x hg0 _ hK5
    obtain ⟨hx1, hrj⟩ := hg0
    refine AK.seq (fun _ hK6 => ?_)
    refine AK.region ?_
    refine AK.val _ (Yl.lss rfl rfl) trivial rfl ?_
    refine AK.nil ?_
    refine AK.then_ (hK6 _ ?_)
    refine AK.seq (fun _ hK7 => ?_)
    refine AK.condD rfl (fun hc0 => ?_) (fun hc0 => ?_)
    · refine AK.skip ?_
      refine AK.then_ (hK7 _ ?_)
      refine AK.seq (fun _ hK8 => ?_)
      refine AK.block ?_
      refine AK.seq (fun _ hK9 => ?_)
      refine AK.region ?_
      refine AK.val _ (Yl.move rfl) trivial rfl ?_
      refine AK.val _ (Yl.assign rfl) trivial rfl ?_
      refine AK.nil ?_
      refine AK.then_ (hK9 _ ?_)
      refine AK.seq (fun _ hK10 => ?_)
      refine AK.region ?_
      refine AK.val _ (Yl.assign rfl) trivial rfl ?_
      refine AK.nil ?_
      refine AK.then_ (hK10 _ ?_)
      refine AK.block ?_
      refine AK.loopS (X := Nat) [1, 5, 6, 12, 13] (fun j => [(7, .int .i64 (j : Int))]) (fun j => [row av 3 1 xs.length ((mfsF xs x.2).map (Value.int .i64))]) (fun j => j ≤ x.1 ∧ ∀ m, m < j → ¬ ys.getD x.1 0 = ys.getD m 0) (fun j => x.1 - j) (0) ?_ ?_ ?_ ?_
      · exact ⟨Nat.zero_le _, fun m h => absurd h (Nat.not_lt_zero _)⟩
      · exact .cons (rfl) (.nil)
      · exact fun w hw => hw
      · intro j hg1 _ hK11
        obtain ⟨hj1, hjn⟩ := hg1
        refine AK.seq (fun _ hK12 => ?_)
        refine AK.seq (fun _ hK13 => ?_)
        refine AK.region ?_
        refine AK.val _ (Yl.move rfl) trivial rfl ?_
        refine AK.val _ (Yl.move rfl) trivial rfl ?_
        refine AK.val _ (Yl.lss rfl rfl) trivial rfl ?_
        refine AK.nil ?_
        refine AK.then_ (hK13 _ ?_)
        refine AK.condD rfl (fun hc1 => ?_) (fun hc1 => ?_)
        · refine AK.skip ?_
          refine AK.then_ (hK12 _ ?_)
          refine AK.seq (fun _ hK14 => ?_)
          refine AK.block ?_
          refine AK.seq (fun _ hK15 => ?_)
          refine AK.quiet mixed (by kernel_rfl) ?_
          refine QK.val _ (Yl.move rfl) trivial rfl ?_
          refine QK.val _ (Yl.move rfl) trivial rfl ?_
          first | refine QK.val _ (Yl.idxN sl22 rfl rfl (by first | exact .arg ‹_› | exact .own 0 rfl | exact .own 1 rfl | exact .own 2 rfl | exact .own 3 rfl | exact .own 4 rfl | exact .own 5 rfl | exact .own 6 rfl | exact .own 7 rfl | exact .own 8 rfl | assumption) (by decide) (by omega)) trivial rfl ?_ | refine QK.val _ (Yl.idx sl22 rfl rfl (by first | exact .arg ‹_› | exact .own 0 rfl | exact .own 1 rfl | exact .own 2 rfl | exact .own 3 rfl | exact .own 4 rfl | exact .own 5 rfl | exact .own 6 rfl | exact .own 7 rfl | exact .own 8 rfl | assumption) (by decide) (by omega)) trivial rfl ?_
          refine QK.val _ (Yl.loadI on3 rfl (by first | exact .arg ‹_› | exact .own 0 rfl | exact .own 1 rfl | exact .own 2 rfl | exact .own 3 rfl | exact .own 4 rfl | exact .own 5 rfl | exact .own 6 rfl | exact .own 7 rfl | exact .own 8 rfl | assumption) (by omega)) trivial rfl ?_
          refine QK.val _ (Yl.move rfl) trivial rfl ?_
          refine QK.val _ (Yl.move rfl) trivial rfl ?_
          first | refine QK.val _ (Yl.idxN sl22 rfl rfl (by first | exact .arg ‹_› | exact .own 0 rfl | exact .own 1 rfl | exact .own 2 rfl | exact .own 3 rfl | exact .own 4 rfl | exact .own 5 rfl | exact .own 6 rfl | exact .own 7 rfl | exact .own 8 rfl | assumption) (by decide) (by omega)) trivial rfl ?_ | refine QK.val _ (Yl.idx sl22 rfl rfl (by first | exact .arg ‹_› | exact .own 0 rfl | exact .own 1 rfl | exact .own 2 rfl | exact .own 3 rfl | exact .own 4 rfl | exact .own 5 rfl | exact .own 6 rfl | exact .own 7 rfl | exact .own 8 rfl | assumption) (by decide) (by omega)) trivial rfl ?_
          refine QK.val _ (Yl.loadI on3 rfl (by first | exact .arg ‹_› | exact .own 0 rfl | exact .own 1 rfl | exact .own 2 rfl | exact .own 3 rfl | exact .own 4 rfl | exact .own 5 rfl | exact .own 6 rfl | exact .own 7 rfl | exact .own 8 rfl | assumption) (by omega)) trivial rfl ?_
          refine QK.val _ (Yl.eql rfl rfl) trivial rfl ?_
          refine QK.nil (QK.fin ?_)
          refine AK.then_ (hK15 _ ?_)
          refine AK.condD rfl (fun hc2 => ?_) (fun hc2 => ?_)
          · refine AK.seq (fun _ hK16 => ?_)
            refine AK.region ?_
            refine AK.val _ (Yl.move rfl) trivial rfl ?_
            refine AK.val _ (Yl.move rfl) trivial rfl ?_
            refine AK.val _ (Yl.move rfl) trivial rfl ?_
            refine AK.callM 0 rfl co47 rfl (fun w F hw hA => s_merge w F av (mfsF xs x.2) xs.length (x.1 : Int) (j : Int) hA (mfsF_length _ _) (by omega) (by omega) (by omega)) trivial rfl ?_
            rintro r A o ⟨rfl, rfl, rfl⟩
            refine AK.nil ?_
            refine AK.then_ (hK16 _ ?_)
            refine AK.exit ?_
            refine AK.block_other rfl ?_
            refine AK.then_exit ?_
            refine AK.then_exit ?_
            refine AK.block_exit ?_
            refine AK.block_normal ?_
            refine AK.then_ (hK8 _ ?_)
            refine AK.region ?_
            refine AK.val _ (Yl.add rfl rfl (by omega)) trivial rfl ?_
            refine AK.val _ (Yl.move rfl) trivial rfl ?_
            refine AK.nil ?_
            first | refine AK.then_ (hK5 _ _ ((x.1 + 1, x.2 ++ [((x.1 : Int), (j : Int))])) ⟨by dsimp only; omega, rjOK_add hrj (by omega) hc2⟩ (by dsimp only; omega) (.cons (rfl) (.cons rfl (.cons rfl (.cons rfl (.nil))))) (fun w hw => by dsimp only; rw [mfsF_snoc]; exact hw)) | refine AK.then_ (hK5 _ _ ((x.1 + 1, x.2)) ⟨by dsimp only; omega, rjOK_skip hrj (fun m hm => hjn m (by omega))⟩ (by dsimp only; omega) (.cons (rfl) (.cons rfl (.cons rfl (.cons rfl (.nil))))) (fun w hw => hw))
          · refine AK.skip ?_
            refine AK.block_normal ?_
            refine AK.then_ (hK14 _ ?_)
            refine AK.region ?_
            refine AK.val _ (Yl.move rfl) trivial rfl ?_
            refine AK.val _ (Yl.add rfl rfl (by omega)) trivial rfl ?_
            refine AK.val _ (Yl.assign rfl) trivial rfl ?_
            refine AK.nil ?_
            refine AK.then_ (hK11 _ _ (j + 1) ⟨by omega, lt_succ_all hjn hc2⟩ (by omega) (.cons (rfl) (.cons rfl (.cons rfl (.cons rfl (.cons rfl (.cons rfl (.nil))))))) (fun w hw => hw))
        · refine AK.exit ?_
          refine AK.then_exit ?_
          refine AK.then_exit ?_
          refine AK.block_exit ?_
          refine AK.block_normal ?_
          refine AK.then_ (hK8 _ ?_)
          refine AK.region ?_
          refine AK.val _ (Yl.add rfl rfl (by omega)) trivial rfl ?_
          refine AK.val _ (Yl.move rfl) trivial rfl ?_
          refine AK.nil ?_
          first | refine AK.then_ (hK5 _ _ ((x.1 + 1, x.2 ++ [((x.1 : Int), (j : Int))])) ⟨by dsimp only; omega, rjOK_add hrj (by omega) hc2⟩ (by dsimp only; omega) (.cons (rfl) (.cons rfl (.cons rfl (.cons rfl (.nil))))) (fun w hw => by dsimp only; rw [mfsF_snoc]; exact hw)) | refine AK.then_ (hK5 _ _ ((x.1 + 1, x.2)) ⟨by dsimp only; omega, rjOK_skip hrj (fun m hm => hjn m (by omega))⟩ (by dsimp only; omega) (.cons (rfl) (.cons rfl (.cons rfl (.cons rfl (.nil))))) (fun w hw => hw))
    · refine AK.exit ?_
      refine AK.then_exit ?_
      refine AK.then_exit ?_
      refine AK.block_exit ?_
      refine AK.then_ (hK3 _ ?_)
      refine AK.seq (fun _ hK17 => ?_)
      refine AK.region ?_
      refine AK.val _ (Yl.move rfl) trivial rfl ?_
      refine AK.call co17 rfl (fun w hw => s_refcanon w av (mfsF xs x.2) (RdI.ownE 0 hw rfl (mfsF_length _ _).symm rfl)) trivial rfl ?_
      rintro r o rfl
      refine AK.val _ (Yl.assign rfl) trivial rfl ?_
      refine AK.nil ?_
      refine AK.then_ (hK17 _ ?_)
      refine AK.ret ?_
      refine AK.ret1 rfl rfl (fun w hw => ⟨_, _, ?_, rfl, Ret.of (hw.pick [1] (by decide) rfl rfl)⟩)
      rw [refjoin_eq hok (by have e : x.1 = xs.length := (by omega); rw [← e]; exact hrj)]; rfl

set_option maxRecDepth 100000 in
theorem s_pair (w : World) (u v : Value) (xs ys : List Int) (hu : RdI w u xs) (hv : RdI w v ys) (n : Int) (hn : 0 ≤ n ∧ n ≤ 4096) : CallS Try.prog 42 [u, v, .int .i64 n] w (fun r o => r = .bool (decide (okPQ xs ys ∧ (xs.length : Int) ≤ n)) ∧ o = []) := by
  have hu0 := hu
  have hv0 := hv
  unfold RdI at hu hv
  have hmx := Rd.le hu
  refine spec_of Try.func42 rfl (Nat.le_of_ble_eq_true rfl) ?_
  refine AK.seq (fun _ hK1 => ?_)
  refine AK.region ?_
  refine AK.val _ (Yl.assign rfl) trivial rfl ?_
  refine AK.nil ?_
  refine AK.then_ (hK1 _ ?_)
  refine AK.seq (fun _ hK2 => ?_)
  refine AK.region ?_
  refine AK.val _ (Yl.move rfl) trivial rfl ?_
  refine AK.val _ (Yl.lenR sl22 rfl (by first | exact .arg ‹_› | exact .own 0 rfl | exact .own 1 rfl | exact .own 2 rfl | exact .own 3 rfl | exact .own 4 rfl | exact .own 5 rfl | exact .own 6 rfl | exact .own 7 rfl | exact .own 8 rfl | assumption)) trivial rfl ?_
  refine AK.val _ (Yl.move rfl) trivial rfl ?_
  refine AK.val _ (Yl.lenR sl22 rfl (by first | exact .arg ‹_› | exact .own 0 rfl | exact .own 1 rfl | exact .own 2 rfl | exact .own 3 rfl | exact .own 4 rfl | exact .own 5 rfl | exact .own 6 rfl | exact .own 7 rfl | exact .own 8 rfl | assumption)) trivial rfl ?_
  refine AK.val _ (Yl.eql rfl rfl) trivial rfl ?_
  refine AK.val _ (Yl.move rfl) trivial rfl ?_
  refine AK.splitB (g := 12) rfl (fun hg_1_5 => ?_) (fun hg_1_5 => ?_)
  · have hg_1_5' := hg_1_5
    try simp only [decide_eq_true_eq, decide_eq_false_iff_not, Bool.not_eq_true', Bool.not_eq_false', Bool.not_not, ne_eq, Decidable.not_not, Int.not_lt, Int.not_le, beq_iff_eq, bne_iff_ne, Bool.and_eq_true, Bool.or_eq_true, Bool.or_eq_false_iff, Bool.not_false, Bool.not_true, reduceCtorEq, not_true_eq_false, not_false_eq_true] at hg_1_5'
    refine AK.val _ (Yl.move rfl) ⟨_, rfl, congrArg (fun b => some (Value.bool b)) hg_1_5⟩ rfl ?_
    refine AK.val _ (Yl.lenR sl22 rfl (by first | exact .arg ‹_› | exact .own 0 rfl | exact .own 1 rfl | exact .own 2 rfl | exact .own 3 rfl | exact .own 4 rfl | exact .own 5 rfl | exact .own 6 rfl | exact .own 7 rfl | exact .own 8 rfl | assumption)) ⟨_, rfl, congrArg (fun b => some (Value.bool b)) hg_1_5⟩ rfl ?_
    refine AK.val _ (Yl.move rfl) ⟨_, rfl, congrArg (fun b => some (Value.bool b)) hg_1_5⟩ rfl ?_
    refine AK.val _ (Yl.leq rfl rfl) ⟨_, rfl, congrArg (fun b => some (Value.bool b)) hg_1_5⟩ rfl ?_
    refine AK.val _ (Yl.pickT rfl (hg_1_5) rfl) trivial rfl ?_
    refine AK.val _ (Yl.move rfl) trivial rfl ?_
    refine AK.splitB (g := 18) rfl (fun hg_1_11 => ?_) (fun hg_1_11 => ?_)
    · have hg_1_11' := hg_1_11
      try simp only [decide_eq_true_eq, decide_eq_false_iff_not, Bool.not_eq_true', Bool.not_eq_false', Bool.not_not, ne_eq, Decidable.not_not, Int.not_lt, Int.not_le, beq_iff_eq, bne_iff_ne, Bool.and_eq_true, Bool.or_eq_true, Bool.or_eq_false_iff, Bool.not_false, Bool.not_true, reduceCtorEq, not_true_eq_false, not_false_eq_true] at hg_1_11'
      refine AK.val _ (Yl.move rfl) ⟨_, rfl, congrArg (fun b => some (Value.bool b)) hg_1_11⟩ rfl ?_
      refine AK.call co19 rfl (fun w hw => s_refvalid w u xs (RdI.at hu0 hw)) ⟨_, rfl, congrArg (fun b => some (Value.bool b)) hg_1_11⟩ rfl ?_
      rintro r o ⟨rfl, rfl⟩
      refine AK.val _ (Yl.pickT rfl (hg_1_11) rfl) trivial rfl ?_
      refine AK.val _ (Yl.move rfl) trivial rfl ?_
      refine AK.splitB (g := 22) rfl (fun hg_1_15 => ?_) (fun hg_1_15 => ?_)
      · have hg_1_15' := hg_1_15
        try simp only [decide_eq_true_eq, decide_eq_false_iff_not, Bool.not_eq_true', Bool.not_eq_false', Bool.not_not, ne_eq, Decidable.not_not, Int.not_lt, Int.not_le, beq_iff_eq, bne_iff_ne, Bool.and_eq_true, Bool.or_eq_true, Bool.or_eq_false_iff, Bool.not_false, Bool.not_true, reduceCtorEq, not_true_eq_false, not_false_eq_true] at hg_1_15'
        refine AK.val _ (Yl.move rfl) ⟨_, rfl, congrArg (fun b => some (Value.bool b)) hg_1_15⟩ rfl ?_
        refine AK.call co19 rfl (fun w hw => s_refvalid w v ys (RdI.at hv0 hw)) ⟨_, rfl, congrArg (fun b => some (Value.bool b)) hg_1_15⟩ rfl ?_
        rintro r o ⟨rfl, rfl⟩
        refine AK.val _ (Yl.pickT rfl (hg_1_15) rfl) trivial rfl ?_
        refine AK.val _ (Yl.assign rfl) trivial rfl ?_
        refine AK.nil ?_
        refine AK.then_ (hK2 _ ?_)
        refine AK.ret ?_
        refine AK.ret1 rfl rfl (fun w hw => ⟨_, _, ?_, rfl, Ret.of (hw.pick [] (by decide) rfl rfl)⟩)
        refine ⟨congrArg Value.bool ?_, rfl⟩
        apply Bool.eq_iff_iff.2
        unfold okPQ
        simp only [decide_eq_true_eq]
        first | (constructor <;> intro h <;> first | (exact ⟨⟨by omega, hg_1_15', h⟩, by omega⟩) | exact h.1.2.2) | (simp only [Bool.false_eq_true, false_iff]; rintro ⟨⟨h1, h2, h3⟩, h4⟩; first | exact hg_1_15' h2 | omega)
      · have hg_1_15' := hg_1_15
        try simp only [decide_eq_true_eq, decide_eq_false_iff_not, Bool.not_eq_true', Bool.not_eq_false', Bool.not_not, ne_eq, Decidable.not_not, Int.not_lt, Int.not_le, beq_iff_eq, bne_iff_ne, Bool.and_eq_true, Bool.or_eq_true, Bool.or_eq_false_iff, Bool.not_false, Bool.not_true, reduceCtorEq, not_true_eq_false, not_false_eq_true] at hg_1_15'
        refine AK.pass rfl rfl (hg_1_15) rfl ?_
        refine AK.pass rfl rfl (hg_1_15) rfl ?_
        refine AK.val _ (Yl.pickF rfl (hg_1_15) rfl) trivial rfl ?_
        refine AK.val _ (Yl.assign rfl) trivial rfl ?_
        refine AK.nil ?_
        refine AK.then_ (hK2 _ ?_)
        refine AK.ret ?_
        refine AK.ret1 rfl rfl (fun w hw => ⟨_, _, ?_, rfl, Ret.of (hw.pick [] (by decide) rfl rfl)⟩)
        refine ⟨congrArg Value.bool ?_, rfl⟩
        apply Bool.eq_iff_iff.2
        unfold okPQ
        simp only [decide_eq_true_eq]
        first | (constructor <;> intro h <;> first | (exact ⟨⟨by omega, hg_1_15', h⟩, by omega⟩) | exact h.1.2.2) | (simp only [Bool.false_eq_true, false_iff]; rintro ⟨⟨h1, h2, h3⟩, h4⟩; first | exact hg_1_15' h2 | omega)
    · have hg_1_11' := hg_1_11
      try simp only [decide_eq_true_eq, decide_eq_false_iff_not, Bool.not_eq_true', Bool.not_eq_false', Bool.not_not, ne_eq, Decidable.not_not, Int.not_lt, Int.not_le, beq_iff_eq, bne_iff_ne, Bool.and_eq_true, Bool.or_eq_true, Bool.or_eq_false_iff, Bool.not_false, Bool.not_true, reduceCtorEq, not_true_eq_false, not_false_eq_true] at hg_1_11'
      refine AK.pass rfl rfl (hg_1_11) rfl ?_
      refine AK.pass rfl rfl (hg_1_11) rfl ?_
      refine AK.val _ (Yl.pickF rfl (hg_1_11) rfl) trivial rfl ?_
      refine AK.val _ (Yl.move rfl) trivial rfl ?_
      refine AK.pass rfl rfl rfl rfl ?_
      refine AK.pass rfl rfl rfl rfl ?_
      refine AK.val _ (Yl.pickF rfl (rfl) rfl) trivial rfl ?_
      refine AK.val _ (Yl.assign rfl) trivial rfl ?_
      refine AK.nil ?_
      refine AK.then_ (hK2 _ ?_)
      refine AK.ret ?_
      refine AK.ret1 rfl rfl (fun w hw => ⟨_, _, ?_, rfl, Ret.of (hw.pick [] (by decide) rfl rfl)⟩)
      refine ⟨congrArg Value.bool ?_, rfl⟩
      apply Bool.eq_iff_iff.2
      unfold okPQ
      simp only [decide_eq_true_eq]
      first | (constructor <;> intro h <;> first | (exact ⟨⟨by omega, hg_1_15', h⟩, by omega⟩) | exact h.1.2.2) | (simp only [Bool.false_eq_true, false_iff]; rintro ⟨⟨h1, h2, h3⟩, h4⟩; first | exact hg_1_15' h2 | omega)
  · have hg_1_5' := hg_1_5
    try simp only [decide_eq_true_eq, decide_eq_false_iff_not, Bool.not_eq_true', Bool.not_eq_false', Bool.not_not, ne_eq, Decidable.not_not, Int.not_lt, Int.not_le, beq_iff_eq, bne_iff_ne, Bool.and_eq_true, Bool.or_eq_true, Bool.or_eq_false_iff, Bool.not_false, Bool.not_true, reduceCtorEq, not_true_eq_false, not_false_eq_true] at hg_1_5'
    refine AK.pass rfl rfl (hg_1_5) rfl ?_
    refine AK.pass rfl rfl (hg_1_5) rfl ?_
    refine AK.pass rfl rfl (hg_1_5) rfl ?_
    refine AK.pass rfl rfl (hg_1_5) rfl ?_
    refine AK.val _ (Yl.pickF rfl (hg_1_5) rfl) trivial rfl ?_
    refine AK.val _ (Yl.move rfl) trivial rfl ?_
    refine AK.pass rfl rfl rfl rfl ?_
    refine AK.pass rfl rfl rfl rfl ?_
    refine AK.val _ (Yl.pickF rfl (rfl) rfl) trivial rfl ?_
    refine AK.val _ (Yl.move rfl) trivial rfl ?_
    refine AK.pass rfl rfl rfl rfl ?_
    refine AK.pass rfl rfl rfl rfl ?_
    refine AK.val _ (Yl.pickF rfl (rfl) rfl) trivial rfl ?_
    refine AK.val _ (Yl.assign rfl) trivial rfl ?_
    refine AK.nil ?_
    refine AK.then_ (hK2 _ ?_)
    refine AK.ret ?_
    refine AK.ret1 rfl rfl (fun w hw => ⟨_, _, ?_, rfl, Ret.of (hw.pick [] (by decide) rfl rfl)⟩)
    refine ⟨congrArg Value.bool ?_, rfl⟩
    apply Bool.eq_iff_iff.2
    unfold okPQ
    simp only [decide_eq_true_eq]
    first | (constructor <;> intro h <;> first | (exact ⟨⟨by omega, hg_1_15', h⟩, by omega⟩) | exact h.1.2.2) | (simp only [Bool.false_eq_true, false_iff]; rintro ⟨⟨h1, h2, h3⟩, h4⟩; first | exact hg_1_15' h2 | omega)

end Go.Proofs.Ytkdidaiedibhaaa
