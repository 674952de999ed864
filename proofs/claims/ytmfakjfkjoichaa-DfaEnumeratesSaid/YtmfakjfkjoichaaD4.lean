import Derived.Test.YtmfakjfkjoichaaD3
set_option linter.unusedVariables false
set_option linter.unusedSimpArgs false
namespace Go.Proofs.Ytmfakjfkjoichaa
open Go.Sx Go.RowKit
set_option maxHeartbeats 400000 in
set_option maxRecDepth 100000 in
theorem s_words (w : World) (v : Value) (d : Dfa) (h : RdD (fun _ => False) w v d) (n : Int) : CallS Try.prog 19 [v, .int .i64 n] w (fun r o => o = [row r 9 1 (WordsV d n).length ((WordsV d n).map sv)]) := by
  have h0 := h
  obtain ⟨vF, vN, rfl, hF, hN⟩ := h
  have hF0 := hF
  have hN0 := hN
  obtain ⟨rs, hrl, hNr, hNi⟩ := hN
  have sF := hF.sl
  have sN := hNr.sl
  have hmf := hF.le
  have hmn := hNr.le
  unfold RdL at hF
  refine spec_of Try.func19 rfl (Nat.le_of_ble_eq_true rfl) ?_
  refine AK.seq (fun _ hK1 => ?_)
  refine AK.region ?_
  refine AK.box_ (E := 25) (cs := [.int .i64 d.L, .int .i64 d.s, vF, vN]) rfl rfl rfl trivial rfl (fun bx2 => ?_)
  refine AK.val _ (Yl.assign rfl) trivial rfl ?_
  refine AK.nil ?_
  refine AK.then_ (hK1 _ ?_)
  refine AK.seq (fun _ hK2 => ?_)
  refine AK.seq (fun _ hK3 => ?_)
  refine AK.region ?_
  refine AK.val _ (Yl.loadBoxG ag25 rfl (by first | exact .own 0 rfl | exact .own 1 rfl | exact .own 2 rfl | exact .own 3 rfl | exact .own 4 rfl | exact .own 5 rfl | exact .own 6 rfl | exact .own 7 rfl | exact .own 8 rfl | exact .own 9 rfl | exact .own 10 rfl | exact .own 11 rfl | exact .own 12 rfl | assumption | exact BoxS.arg (by assumption)) rfl rfl) trivial rfl ?_
  refine AK.call co15 rfl (fun w hw => s_validate w _ d (h0.at hw)) trivial rfl ?_
  rintro r o ⟨rfl, rfl⟩
  refine AK.val _ (Yl.neq rfl rfl) trivial rfl ?_
  refine AK.val _ (Yl.move rfl) trivial rfl ?_
  refine AK.splitB (g := 10) rfl (fun hg_1_3 => ?_) (fun hg_1_3 => ?_)
  · have hg_1_3' := hg_1_3
    try simp only [decide_eq_true_eq, decide_eq_false_iff_not, Bool.not_eq_true', Bool.not_eq_false', Bool.not_not, ne_eq, Decidable.not_not, Int.not_lt, Int.not_le, beq_iff_eq, bne_iff_ne, Bool.and_eq_true, Bool.or_eq_true, Bool.or_eq_false_iff, Bool.not_false, Bool.not_true, reduceCtorEq, not_true_eq_false, not_false_eq_true] at hg_1_3'
    refine AK.pass rfl rfl (hg_1_3) rfl ?_
    refine AK.pass rfl rfl (hg_1_3) rfl ?_
    refine AK.val _ (Yl.pickT rfl (hg_1_3) rfl) trivial rfl ?_
    refine AK.val _ (Yl.move rfl) trivial rfl ?_
    refine AK.pass rfl rfl rfl rfl ?_
    refine AK.pass rfl rfl rfl rfl ?_
    refine AK.val _ (Yl.pickT rfl (rfl) rfl) trivial rfl ?_
    refine AK.nil ?_
    refine AK.then_ (hK3 _ ?_)
    refine AK.cond_t rfl (rfl) ?_
    refine AK.seq (fun _ hK4 => ?_)
    refine AK.region ?_
    refine AK.val _ (Yl.assign rfl) trivial rfl ?_
    refine AK.nil ?_
    refine AK.then_ (hK4 _ ?_)
    refine AK.ret ?_
    refine AK.then_ret ?_
    refine AK.ghost 9 1 ?_
    refine AK.ret1 rfl rfl (fun w hw => ⟨_, _, ?_, rfl, Ret.of (hw.pick [1] (by decide) rfl rfl)⟩)
    have e : WordsV d n = [] := by
      unfold WordsV; rw [if_neg]; rintro ⟨h1, h2, h3⟩; first | omega | exact absurd h1 (by assumption)
    rw [e]; rfl
  · have hg_1_3' := hg_1_3
    try simp only [decide_eq_true_eq, decide_eq_false_iff_not, Bool.not_eq_true', Bool.not_eq_false', Bool.not_not, ne_eq, Decidable.not_not, Int.not_lt, Int.not_le, beq_iff_eq, bne_iff_ne, Bool.and_eq_true, Bool.or_eq_true, Bool.or_eq_false_iff, Bool.not_false, Bool.not_true, reduceCtorEq, not_true_eq_false, not_false_eq_true] at hg_1_3'
    refine AK.val _ (Yl.move rfl) ⟨_, rfl, congrArg (fun b => some (Value.bool b)) hg_1_3⟩ rfl ?_
    refine AK.val _ (Yl.lss rfl rfl) ⟨_, rfl, congrArg (fun b => some (Value.bool b)) hg_1_3⟩ rfl ?_
    refine AK.val _ (Yl.pickF rfl (hg_1_3) rfl) trivial rfl ?_
    refine AK.val _ (Yl.move rfl) trivial rfl ?_
    refine AK.splitB (g := 14) rfl (fun hg_1_7 => ?_) (fun hg_1_7 => ?_)
    · have hg_1_7' := hg_1_7
      try simp only [decide_eq_true_eq, decide_eq_false_iff_not, Bool.not_eq_true', Bool.not_eq_false', Bool.not_not, ne_eq, Decidable.not_not, Int.not_lt, Int.not_le, beq_iff_eq, bne_iff_ne, Bool.and_eq_true, Bool.or_eq_true, Bool.or_eq_false_iff, Bool.not_false, Bool.not_true, reduceCtorEq, not_true_eq_false, not_false_eq_true] at hg_1_7'
      refine AK.pass rfl rfl (hg_1_7) rfl ?_
      refine AK.pass rfl rfl (hg_1_7) rfl ?_
      refine AK.val _ (Yl.pickT rfl (hg_1_7) rfl) trivial rfl ?_
      refine AK.nil ?_
      refine AK.then_ (hK3 _ ?_)
      refine AK.cond_t rfl (rfl) ?_
      refine AK.seq (fun _ hK5 => ?_)
      refine AK.region ?_
      refine AK.val _ (Yl.assign rfl) trivial rfl ?_
      refine AK.nil ?_
      refine AK.then_ (hK5 _ ?_)
      refine AK.ret ?_
      refine AK.then_ret ?_
      refine AK.ghost 9 1 ?_
      refine AK.ret1 rfl rfl (fun w hw => ⟨_, _, ?_, rfl, Ret.of (hw.pick [1] (by decide) rfl rfl)⟩)
      have e : WordsV d n = [] := by
        unfold WordsV; rw [if_neg]; rintro ⟨h1, h2, h3⟩; first | omega | exact absurd h1 (by assumption)
      rw [e]; rfl
    · have hg_1_7' := hg_1_7
      try simp only [decide_eq_true_eq, decide_eq_false_iff_not, Bool.not_eq_true', Bool.not_eq_false', Bool.not_not, ne_eq, Decidable.not_not, Int.not_lt, Int.not_le, beq_iff_eq, bne_iff_ne, Bool.and_eq_true, Bool.or_eq_true, Bool.or_eq_false_iff, Bool.not_false, Bool.not_true, reduceCtorEq, not_true_eq_false, not_false_eq_true] at hg_1_7'
      refine AK.val _ (Yl.move rfl) ⟨_, rfl, congrArg (fun b => some (Value.bool b)) hg_1_7⟩ rfl ?_
      refine AK.val _ (Yl.gtr rfl rfl) ⟨_, rfl, congrArg (fun b => some (Value.bool b)) hg_1_7⟩ rfl ?_
      refine AK.val _ (Yl.pickF rfl (hg_1_7) rfl) trivial rfl ?_
      refine AK.nil ?_
      refine AK.then_ (hK3 _ ?_)
      refine AK.condD rfl (fun hc0 => ?_) (fun hc0 => ?_)
      · refine AK.seq (fun _ hK6 => ?_)
        refine AK.region ?_
        refine AK.val _ (Yl.assign rfl) trivial rfl ?_
        refine AK.nil ?_
        refine AK.then_ (hK6 _ ?_)
        refine AK.ret ?_
        refine AK.then_ret ?_
        refine AK.ghost 9 1 ?_
        refine AK.ret1 rfl rfl (fun w hw => ⟨_, _, ?_, rfl, Ret.of (hw.pick [1] (by decide) rfl rfl)⟩)
        have e : WordsV d n = [] := by
          unfold WordsV; rw [if_neg]; rintro ⟨h1, h2, h3⟩; first | omega | exact absurd h1 (by assumption)
        rw [e]; rfl
      · have hv : VD d := (errV_iff d).1 hg_1_3'
        obtain ⟨nn, rfl⟩ := Int.eq_ofNat_of_zero_le (by omega : 0 ≤ n)
        have hn5 := hv.n
        refine AK.skip ?_
        refine AK.then_ (hK2 _ ?_)
        refine AK.seq (fun _ hK7 => ?_)
        refine AK.region ?_
        refine AK.val _ (Yl.loadBoxG ag25 rfl (by first | exact .own 0 rfl | exact .own 1 rfl | exact .own 2 rfl | exact .own 3 rfl | exact .own 4 rfl | exact .own 5 rfl | exact .own 6 rfl | exact .own 7 rfl | exact .own 8 rfl | exact .own 9 rfl | exact .own 10 rfl | exact .own 11 rfl | exact .own 12 rfl | assumption | exact BoxS.arg (by assumption)) rfl rfl) trivial rfl ?_
        refine AK.val _ (Yl.move rfl) trivial rfl ?_
        refine AK.val _ (Yl.fieldAddr fd25_2 rfl) trivial rfl ?_
        refine AK.val _ (Yl.loadBox on22 rfl (by first | exact .own 0 rfl | exact .own 1 rfl | exact .own 2 rfl | exact .own 3 rfl | exact .own 4 rfl | exact .own 5 rfl | exact .own 6 rfl | exact .own 7 rfl | exact .own 8 rfl | exact .own 9 rfl | exact .own 10 rfl | exact .own 11 rfl | exact .own 12 rfl | assumption | exact BoxS.arg (by assumption)) rfl) trivial rfl ?_
        refine AK.lit (xs := [.tmp 21]) sl57 el22 rfl rfl rfl (by intro a ha; simp at ha; subst ha; rw [sF.cells]; rfl) (by decide) (by decide) trivial rfl (fun lv => ?_)
        refine AK.shape 1 rfl (fun slv => ?_)
        refine AK.val _ (Yl.build (parts := [(0, .tmp 18), (1, .tmp 19), (2, .tmp 22)]) (cs := #[.int .i64 d.L, .int .i64 d.s, vF, vN, .int .i64 (nn : Int), lv, (.slice none 0 0), (.slice none 0 0)]) rfl (by obtain ⟨_, _, _, rfl⟩ := slv; obtain ⟨_, _, _, rfl⟩ := sF; obtain ⟨_, _, _, rfl⟩ := sN; kernel_rfl)) trivial rfl ?_
        refine AK.alloc el60 rfl rfl trivial rfl (fun bx5 => ?_)
        refine AK.storeBox 2 (us := [.int .i64 d.L, .int .i64 d.s, vF, vN, .int .i64 (nn : Int), lv, (.slice none 0 0), (.slice none 0 0)]) (cs' := [.int .i64 d.L, .int .i64 d.s, vF, vN, .int .i64 (nn : Int), lv, (.slice none 0 0), (.slice none 0 0)]) rfl sz60 rfl rfl rfl rfl (by repeat (first | exact one'_nil | refine one'_cons (by first | rfl | exact IsSl.one (by assumption) | exact IsSl.one nilSl) ?_)) (Nat.le_of_ble_eq_true rfl) rfl trivial ?_
        refine AK.nil ?_
        refine AK.then_ (hK7 _ ?_)
        refine AK.seq (fun _ hK8 => ?_)
        refine AK.seq (fun _ hK9 => ?_)
        refine AK.region ?_
        refine AK.val _ (Yl.assign rfl) trivial rfl ?_
        refine AK.nil ?_
        refine AK.then_ (hK9 _ ?_)
        refine AK.block ?_
        refine AK.loopS (X := Nat × Value × Value × Value × List Value) [1, 2, 5] (fun x => [(6, .int .i64 (x.1 : Int))]) (fun x => [box bx2 25 4 [.int .i64 d.L, .int .i64 d.s, vF, vN], box bx5 60 8 [.int .i64 d.L, .int .i64 d.s, vF, vN, .int .i64 (nn : Int), x.2.1, x.2.2.1, x.2.2.2.1], row x.2.1 22 1 (x.1 + 1) (vF :: x.2.2.2.2), bigA (matG Value.bool 4 x.2.2.2.2 (alT d x.1)), row x.2.2.1 5 1 ([] : List UInt8).length (([] : List UInt8).map byv), row x.2.2.2.1 9 1 (wk d nn x.1).length ((wk d nn x.1).map sv)]) (fun x => x.1 ≤ 2049 ∧ x.2.2.2.2.length = x.1 ∧ IsSl x.2.1 ∧ IsSl x.2.2.1 ∧ IsSl x.2.2.2.1) (fun x => 2049 - x.1) ((0, lv, .slice none 0 0, .slice none 0 0, [])) ?_ ?_ ?_ ?_
        · exact ⟨Nat.zero_le _, rfl, slv, nilSl, nilSl⟩
        · exact .cons (rfl) (.nil)
        · exact fun w hw => by have h1 := ((hw.ghostG (f := Value.bool) 4).ghost 5 1).ghost 9 1; rw [show [vF].flatMap (·.cells.toList) = [vF] by simp [sF.cells]] at h1; exact h1.pick [0, 2, 1, 3, 4, 5] (by decide) rfl rfl
        · intro x hg0 _ hK10
          refine AK.seq (fun _ hK11 => ?_)
          refine AK.seq (fun _ hK12 => ?_)
          refine AK.region ?_
          refine AK.val _ (Yl.move rfl) trivial rfl ?_
          refine AK.val _ (Yl.leq rfl rfl) trivial rfl ?_
          refine AK.val _ (Yl.move rfl) trivial rfl ?_
          refine AK.splitB (g := 26) rfl (fun hg_5_2 => ?_) (fun hg_5_2 => ?_)
          · have hg_5_2' := hg_5_2
            try simp only [decide_eq_true_eq, decide_eq_false_iff_not, Bool.not_eq_true', Bool.not_eq_false', Bool.not_not, ne_eq, Decidable.not_not, Int.not_lt, Int.not_le, beq_iff_eq, bne_iff_ne, Bool.and_eq_true, Bool.or_eq_true, Bool.or_eq_false_iff, Bool.not_false, Bool.not_true, reduceCtorEq, not_true_eq_false, not_false_eq_true] at hg_5_2'
            refine AK.val _ (Yl.fieldAddr fd60_4 rfl) ⟨_, rfl, congrArg (fun b => some (Value.bool b)) hg_5_2⟩ rfl ?_
            refine AK.val _ (Yl.loadBox on30 rfl (by first | exact .own 0 rfl | exact .own 1 rfl | exact .own 2 rfl | exact .own 3 rfl | exact .own 4 rfl | exact .own 5 rfl | exact .own 6 rfl | exact .own 7 rfl | exact .own 8 rfl | exact .own 9 rfl | exact .own 10 rfl | exact .own 11 rfl | exact .own 12 rfl | assumption | exact BoxS.arg (by assumption)) rfl) ⟨_, rfl, congrArg (fun b => some (Value.bool b)) hg_5_2⟩ rfl ?_
            refine AK.val _ (Yl.lenR sl30 rfl (by first | exact .arg ‹_› | exact .own 0 rfl | exact .own 1 rfl | exact .own 2 rfl | exact .own 3 rfl | exact .own 4 rfl | exact .own 5 rfl | exact .own 6 rfl | exact .own 7 rfl | exact .own 8 rfl | assumption | exact .own 9 rfl | exact .own 10 rfl | exact .own 11 rfl | exact .own 12 rfl)) ⟨_, rfl, congrArg (fun b => some (Value.bool b)) hg_5_2⟩ rfl ?_
            refine AK.val _ (Yl.move rfl) ⟨_, rfl, congrArg (fun b => some (Value.bool b)) hg_5_2⟩ rfl ?_
            refine AK.val _ (Yl.lss rfl rfl) ⟨_, rfl, congrArg (fun b => some (Value.bool b)) hg_5_2⟩ rfl ?_
            refine AK.val _ (Yl.pickT rfl (hg_5_2) rfl) trivial rfl ?_
            refine AK.nil ?_
            refine AK.then_ (hK12 _ ?_)
            refine AK.condD rfl (fun hc1 => ?_) (fun hc1 => ?_)
            · refine AK.skip ?_
              refine AK.then_ (hK11 _ ?_)
              refine AK.seq (fun _ hK13 => ?_)
              refine AK.block ?_
              refine AK.seq (fun _ hK14 => ?_)
              refine AK.region ?_
              refine AK.val _ (Yl.fieldAddr fd25_1 rfl) trivial rfl ?_
              refine AK.val _ (Yl.loadBox on3 rfl (by first | exact .own 0 rfl | exact .own 1 rfl | exact .own 2 rfl | exact .own 3 rfl | exact .own 4 rfl | exact .own 5 rfl | exact .own 6 rfl | exact .own 7 rfl | exact .own 8 rfl | exact .own 9 rfl | exact .own 10 rfl | exact .own 11 rfl | exact .own 12 rfl | assumption | exact BoxS.arg (by assumption)) rfl) trivial rfl ?_
              refine AK.val _ (Yl.move rfl) trivial rfl ?_
              refine AK.own' [bigA [box bx5 60 8 [.int .i64 d.L, .int .i64 d.s, vF, vN, .int .i64 (nn : Int), x.2.1, x.2.2.1, x.2.2.2.1], row x.2.2.1 5 1 ([] : List UInt8).length (([] : List UInt8).map byv), row x.2.2.2.1 9 1 (wk d nn x.1).length ((wk d nn x.1).map sv)], box bx2 25 4 [.int .i64 d.L, .int .i64 d.s, vF, vN], row x.2.1 22 1 (x.1 + 1) (vF :: x.2.2.2.2), bigA (matG Value.bool 4 x.2.2.2.2 (alT d x.1))] (fun w hw => HW.unflat (l := [_, _, _]) (own := [_, _, _]) (hw.pick [1, 4, 5, 0, 2, 3] (by decide) rfl rfl)) ?_
              refine AK.callN 0 rfl co47 rfl (fun w Fs hw hh hfr hal => s_list x.1 w (Fs 0) bx5 d.s d vF vN x.2.1 x.2.2.1 x.2.2.2.1 nn x.1 [] (wk d nn x.1) hv hv.s (Nat.le_refl _) (by omega) (by simp; omega) (by omega) (wk_len _ _ _) hg0.2.2.2.1 hg0.2.2.2.2 (hN0.off hfr hal) (RdLL.alOff 0 2 3 hh hfr hal hF0 rfl rfl hg0.2.1 (by decide) (by decide)) (hh.at_ 0 _ rfl)) trivial rfl ?_
              rintro r A o ⟨vp, vw, sp2, sw2, rfl, rfl, rfl⟩
              refine AK.flat0 rfl ?_
              refine AK.nil ?_
              refine AK.then_ (hK14 _ ?_)
              refine AK.region ?_
              refine AK.own' [bigA [box bx5 60 8 [.int .i64 d.L, .int .i64 d.s, vF, vN, .int .i64 (nn : Int), x.2.1, vp, vw], row x.2.1 22 1 (x.1 + 1) (vF :: x.2.2.2.2), bigA (matG Value.bool 4 x.2.2.2.2 (alT d x.1))], box bx2 25 4 [.int .i64 d.L, .int .i64 d.s, vF, vN], row vp 5 1 0 [], row vw 9 1 (wl d nn x.1 d.s [] (wk d nn x.1)).length ((wl d nn x.1 d.s [] (wk d nn x.1)).map sv)] (fun w hw => HW.unflat (l := [_, _, _]) (own := [_, _, _]) (hw.pick [0, 4, 5, 3, 1, 2] (by decide) rfl rfl)) ?_
              refine AK.callN 0 rfl co48 rfl (fun w Fs hw hh hfr hal => s_extend w (Fs 0) bx5 x.1 d vF vN x.2.1 vp vw nn x.2.2.2.2 hv (by omega) hg0.2.1 (hF0.off hfr hal) (hN0.off hfr hal) (hh.at_ 0 _ rfl)) trivial rfl ?_
              rintro r A o ⟨va, rv, sa, rfl, rfl, rfl⟩
              refine AK.flat0 rfl ?_
              refine AK.nil ?_
              refine AK.block_normal ?_
              refine AK.then_ (hK13 _ ?_)
              refine AK.region ?_
              refine AK.val _ (Yl.move rfl) trivial rfl ?_
              refine AK.val _ (Yl.add rfl rfl (by omega)) trivial rfl ?_
              refine AK.val _ (Yl.assign rfl) trivial rfl ?_
              refine AK.nil ?_
              refine AK.then_ (hK10 _ _ ((x.1 + 1, va, vp, vw, x.2.2.2.2 ++ [rv])) ⟨by dsimp only; omega, by simp [hg0.2.1], sa, sp2, sw2⟩ (by dsimp only; omega) (.cons (rfl) (.cons rfl (.cons rfl (.cons rfl (.nil))))) (fun w hw => by dsimp only; rw [wk_next (by omega)]; exact hw.pick [3, 0, 1, 2, 4, 5] (by decide) rfl rfl))
            · refine AK.exit ?_
              refine AK.then_exit ?_
              refine AK.then_exit ?_
              refine AK.block_exit ?_
              refine AK.then_ (hK8 _ ?_)
              refine AK.seq (fun _ hK15 => ?_)
              refine AK.region ?_
              refine AK.val _ (Yl.fieldAddr fd60_4 rfl) trivial rfl ?_
              refine AK.val _ (Yl.loadBox on30 rfl (by first | exact .own 0 rfl | exact .own 1 rfl | exact .own 2 rfl | exact .own 3 rfl | exact .own 4 rfl | exact .own 5 rfl | exact .own 6 rfl | exact .own 7 rfl | exact .own 8 rfl | exact .own 9 rfl | exact .own 10 rfl | exact .own 11 rfl | exact .own 12 rfl | assumption | exact BoxS.arg (by assumption)) rfl) trivial rfl ?_
              refine AK.val _ (Yl.assign rfl) trivial rfl ?_
              refine AK.nil ?_
              refine AK.then_ (hK15 _ ?_)
              refine AK.ret ?_
              refine AK.ret1 rfl rfl (fun w hw => ⟨_, _, ?_, rfl, Ret.of (hw.pick [5] (by decide) rfl rfl)⟩)
              have e : WordsV d (nn : Int) = (wk d nn x.1) := by
                unfold WordsV; rw [if_pos ⟨(errV_iff d).2 hv, by omega, by omega⟩]; rw [Int.toNat_natCast]; exact wk_end hg0.1 (by omega)
              rw [e]; rfl
          · have hg_5_2' := hg_5_2
            try simp only [decide_eq_true_eq, decide_eq_false_iff_not, Bool.not_eq_true', Bool.not_eq_false', Bool.not_not, ne_eq, Decidable.not_not, Int.not_lt, Int.not_le, beq_iff_eq, bne_iff_ne, Bool.and_eq_true, Bool.or_eq_true, Bool.or_eq_false_iff, Bool.not_false, Bool.not_true, reduceCtorEq, not_true_eq_false, not_false_eq_true] at hg_5_2'
            refine AK.pass rfl rfl (hg_5_2) rfl ?_
            refine AK.pass rfl rfl (hg_5_2) rfl ?_
            refine AK.pass rfl rfl (hg_5_2) rfl ?_
            refine AK.pass rfl rfl (hg_5_2) rfl ?_
            refine AK.pass rfl rfl (hg_5_2) rfl ?_
            refine AK.val _ (Yl.pickF rfl (hg_5_2) rfl) trivial rfl ?_
            refine AK.nil ?_
            refine AK.then_ (hK12 _ ?_)
            refine AK.cond_f rfl (rfl) ?_
            refine AK.exit ?_
            refine AK.then_exit ?_
            refine AK.then_exit ?_
            refine AK.block_exit ?_
            refine AK.then_ (hK8 _ ?_)
            refine AK.seq (fun _ hK16 => ?_)
            refine AK.region ?_
            refine AK.val _ (Yl.fieldAddr fd60_4 rfl) trivial rfl ?_
            refine AK.val _ (Yl.loadBox on30 rfl (by first | exact .own 0 rfl | exact .own 1 rfl | exact .own 2 rfl | exact .own 3 rfl | exact .own 4 rfl | exact .own 5 rfl | exact .own 6 rfl | exact .own 7 rfl | exact .own 8 rfl | exact .own 9 rfl | exact .own 10 rfl | exact .own 11 rfl | exact .own 12 rfl | assumption | exact BoxS.arg (by assumption)) rfl) trivial rfl ?_
            refine AK.val _ (Yl.assign rfl) trivial rfl ?_
            refine AK.nil ?_
            refine AK.then_ (hK16 _ ?_)
            refine AK.ret ?_
            refine AK.ret1 rfl rfl (fun w hw => ⟨_, _, ?_, rfl, Ret.of (hw.pick [5] (by decide) rfl rfl)⟩)
            have e : WordsV d (nn : Int) = (wk d nn x.1) := by
              unfold WordsV; rw [if_pos ⟨(errV_iff d).2 hv, by omega, by omega⟩]; rw [Int.toNat_natCast]; exact wk_end hg0.1 (by omega)
            rw [e]; rfl

def EmitC (rest : Nat) : Prop := ∀ (w : World) (F : Nat → Prop) (v : Value) (d : Dfa) (vC vO : Value) (q : Int) (n m : Nat) (pre : List UInt8) (out : List (List UInt8)) (hv : VD d) (hq : 0 ≤ q ∧ q < d.fin.length) (hr : rest ≤ m) (hm : m ≤ 2048) (hp : pre.length + rest ≤ 2048) (hn : n ≤ 200) (ho : out.length ≤ n) (sO : IsSl vO) (h : RdD F w v d) (hAl0 : RdLL F Value.bool w vC (alR d m)) (hA : (row vO 9 1 out.length (out.map sv)).holds w F), CallM Try.prog 49 [v, vC, .int .i64 q, .int .i64 (rest : Int), sv pre, .int .i64 (n : Int), vO] w F (fun r A o => IsSl r ∧ A = row r 9 1 (wl d n rest q pre out).length ((wl d n rest q pre out).map sv) ∧ o = [])
set_option maxHeartbeats 400000 in
set_option maxRecDepth 100000 in
theorem s_emit_step (rest : Nat) (ih : ∀ r, r < rest → EmitC r) (w : World) (F : Nat → Prop) (v : Value) (d : Dfa) (vC vO : Value) (q : Int) (n m : Nat) (pre : List UInt8) (out : List (List UInt8)) (hv : VD d) (hq : 0 ≤ q ∧ q < d.fin.length) (hr : rest ≤ m) (hm : m ≤ 2048) (hp : pre.length + rest ≤ 2048) (hn : n ≤ 200) (ho : out.length ≤ n) (sO : IsSl vO) (h : RdD F w v d) (hAl0 : RdLL F Value.bool w vC (alR d m)) (hA : (row vO 9 1 out.length (out.map sv)).holds w F) : CallM Try.prog 49 [v, vC, .int .i64 q, .int .i64 (rest : Int), sv pre, .int .i64 (n : Int), vO] w F (fun r A o => IsSl r ∧ A = row r 9 1 (wl d n rest q pre out).length ((wl d n rest q pre out).map sv) ∧ o = []) := by
  have h0 := h
  obtain ⟨vF, vN, rfl, hF0, hN0⟩ := h
  have hNc := hN0
  obtain ⟨rn, hrl, hNr, hNi⟩ := hNc
  have hAc := hAl0
  obtain ⟨ra, hral, hAr, hAi⟩ := hAc
  have hmn := hNr.le
  have hnx := hv.nx
  have hn5 := hv.n
  have hvt := hv.to
  have hvr := hv.row q.toNat (by omega)
  have hvL := hv.L
  have hall := alR_len d m
  have har : (alR d m).getD rest [] = aliveR d rest := alR_at d hr
  have hlr : ((alR d m).getD rest []).length = d.fin.length := by rw [har]; exact aliveR_len hnx rest
  refine specM_of Try.func49 rfl (Nat.le_of_ble_eq_true rfl) hA ?_
  refine AK.seq (fun _ hK1 => ?_)
  refine AK.region ?_
  refine AK.box_ (E := 25) (cs := [.int .i64 d.L, .int .i64 d.s, vF, vN]) rfl rfl rfl trivial rfl (fun bx7 => ?_)
  refine AK.val _ (Yl.assign rfl) trivial rfl ?_
  refine AK.nil ?_
  refine AK.then_ (hK1 _ ?_)
  refine AK.seq (fun _ hK2 => ?_)
  refine AK.seq (fun _ hK3 => ?_)
  refine AK.region ?_
  refine AK.val _ (Yl.move rfl) trivial rfl ?_
  refine AK.val _ (Yl.lenR sl30 rfl (by first | exact .arg ‹_› | exact .own 0 rfl | exact .own 1 rfl | exact .own 2 rfl | exact .own 3 rfl | exact .own 4 rfl | exact .own 5 rfl | exact .own 6 rfl | exact .own 7 rfl | exact .own 8 rfl | assumption | exact .own 9 rfl | exact .own 10 rfl | exact .own 11 rfl | exact .own 12 rfl | exact .arg hAr | exact .arg (hAi rest (by omega)) | exact .arg hNr | exact .arg (hNi q.toNat (by omega)))) trivial rfl ?_
  refine AK.val _ (Yl.move rfl) trivial rfl ?_
  refine AK.val _ (Yl.geq rfl rfl) trivial rfl ?_
  refine AK.val _ (Yl.move rfl) trivial rfl ?_
  refine AK.splitB (g := 20) rfl (fun hg_1_4 => ?_) (fun hg_1_4 => ?_)
  · have hg_1_4' := hg_1_4
    try simp only [decide_eq_true_eq, decide_eq_false_iff_not, Bool.not_eq_true', Bool.not_eq_false', Bool.not_not, ne_eq, Decidable.not_not, Int.not_lt, Int.not_le, beq_iff_eq, bne_iff_ne, Bool.and_eq_true, Bool.or_eq_true, Bool.or_eq_false_iff, Bool.not_false, Bool.not_true, reduceCtorEq, not_true_eq_false, not_false_eq_true] at hg_1_4'
    refine AK.pass rfl rfl (hg_1_4) rfl ?_
    refine AK.pass rfl rfl (hg_1_4) rfl ?_
    refine AK.pass rfl rfl (hg_1_4) rfl ?_
    refine AK.pass rfl rfl (hg_1_4) rfl ?_
    refine AK.pass rfl rfl (hg_1_4) rfl ?_
    refine AK.pass rfl rfl (hg_1_4) rfl ?_
    refine AK.pass rfl rfl (hg_1_4) rfl ?_
    refine AK.pass rfl rfl (hg_1_4) rfl ?_
    refine AK.val _ (Yl.pickT rfl (hg_1_4) rfl) trivial rfl ?_
    refine AK.nil ?_
    refine AK.then_ (hK3 _ ?_)
    refine AK.cond_t rfl (rfl) ?_
    refine AK.seq (fun _ hK4 => ?_)
    refine AK.region ?_
    refine AK.val _ (Yl.move rfl) trivial rfl ?_
    refine AK.val _ (Yl.assign rfl) trivial rfl ?_
    refine AK.nil ?_
    refine AK.then_ (hK4 _ ?_)
    refine AK.ret ?_
    refine AK.then_ret ?_
    refine AK.ret1 rfl rfl (fun w hw => ⟨_, _, _, ?_, rfl, Ret.of (hw.pick [0] (by decide) rfl rfl)⟩)
    have hst : ((aliveR d rest).getD q.toNat false = false ∨ out.length = n) := by
      rw [← har]
      first | exact .inr (by omega) | exact .inl (by simpa using hc0)
    refine ⟨sO, ?_, rfl⟩
    rw [wl_stop hst]
    try rfl
  · have hg_1_4' := hg_1_4
    try simp only [decide_eq_true_eq, decide_eq_false_iff_not, Bool.not_eq_true', Bool.not_eq_false', Bool.not_not, ne_eq, Decidable.not_not, Int.not_lt, Int.not_le, beq_iff_eq, bne_iff_ne, Bool.and_eq_true, Bool.or_eq_true, Bool.or_eq_false_iff, Bool.not_false, Bool.not_true, reduceCtorEq, not_true_eq_false, not_false_eq_true] at hg_1_4'
    refine AK.val _ (Yl.move rfl) ⟨_, rfl, congrArg (fun b => some (Value.bool b)) hg_1_4⟩ rfl ?_
    refine AK.val _ (Yl.move rfl) ⟨_, rfl, congrArg (fun b => some (Value.bool b)) hg_1_4⟩ rfl ?_
    first | refine AK.val _ (Yl.idxN sl57 rfl rfl (by first | exact .arg ‹_› | exact .own 0 rfl | exact .own 1 rfl | exact .own 2 rfl | exact .own 3 rfl | exact .own 4 rfl | exact .own 5 rfl | exact .own 6 rfl | exact .own 7 rfl | exact .own 8 rfl | assumption | exact .own 9 rfl | exact .own 10 rfl | exact .own 11 rfl | exact .own 12 rfl | exact .arg hAr | exact .arg (hAi rest (by omega)) | exact .arg hNr | exact .arg (hNi q.toNat (by omega))) (by decide) (by omega)) ⟨_, rfl, congrArg (fun b => some (Value.bool b)) hg_1_4⟩ rfl ?_ | refine AK.val _ (Yl.idx sl57 rfl rfl (by first | exact .arg ‹_› | exact .own 0 rfl | exact .own 1 rfl | exact .own 2 rfl | exact .own 3 rfl | exact .own 4 rfl | exact .own 5 rfl | exact .own 6 rfl | exact .own 7 rfl | exact .own 8 rfl | assumption | exact .own 9 rfl | exact .own 10 rfl | exact .own 11 rfl | exact .own 12 rfl | exact .arg hAr | exact .arg (hAi rest (by omega)) | exact .arg hNr | exact .arg (hNi q.toNat (by omega))) (by decide) (by omega)) ⟨_, rfl, congrArg (fun b => some (Value.bool b)) hg_1_4⟩ rfl ?_ | refine AK.val _ (Yl.idxK sl57 rfl rfl (by first | exact .arg ‹_› | exact .own 0 rfl | exact .own 1 rfl | exact .own 2 rfl | exact .own 3 rfl | exact .own 4 rfl | exact .own 5 rfl | exact .own 6 rfl | exact .own 7 rfl | exact .own 8 rfl | assumption | exact .own 9 rfl | exact .own 10 rfl | exact .own 11 rfl | exact .own 12 rfl | exact .arg hAr | exact .arg (hAi rest (by omega)) | exact .arg hNr | exact .arg (hNi q.toNat (by omega))) (by decide) (by omega)) ⟨_, rfl, congrArg (fun b => some (Value.bool b)) hg_1_4⟩ rfl ?_
    refine AK.val _ (Yl.loadV on22 rfl (by first | exact .arg ‹_› | exact .own 0 rfl | exact .own 1 rfl | exact .own 2 rfl | exact .own 3 rfl | exact .own 4 rfl | exact .own 5 rfl | exact .own 6 rfl | exact .own 7 rfl | exact .own 8 rfl | assumption | exact .own 9 rfl | exact .own 10 rfl | exact .own 11 rfl | exact .own 12 rfl | exact .arg hAr | exact .arg (hAi rest (by omega)) | exact .arg hNr | exact .arg (hNi q.toNat (by omega))) (by omega)) ⟨_, rfl, congrArg (fun b => some (Value.bool b)) hg_1_4⟩ rfl ?_
    refine AK.val _ (Yl.move rfl) ⟨_, rfl, congrArg (fun b => some (Value.bool b)) hg_1_4⟩ rfl ?_
    first | refine AK.val _ (Yl.idxN sl22 rfl rfl (by first | exact .arg ‹_› | exact .own 0 rfl | exact .own 1 rfl | exact .own 2 rfl | exact .own 3 rfl | exact .own 4 rfl | exact .own 5 rfl | exact .own 6 rfl | exact .own 7 rfl | exact .own 8 rfl | assumption | exact .own 9 rfl | exact .own 10 rfl | exact .own 11 rfl | exact .own 12 rfl | exact .arg hAr | exact .arg (hAi rest (by omega)) | exact .arg hNr | exact .arg (hNi q.toNat (by omega))) (by decide) (by omega)) ⟨_, rfl, congrArg (fun b => some (Value.bool b)) hg_1_4⟩ rfl ?_ | refine AK.val _ (Yl.idx sl22 rfl rfl (by first | exact .arg ‹_› | exact .own 0 rfl | exact .own 1 rfl | exact .own 2 rfl | exact .own 3 rfl | exact .own 4 rfl | exact .own 5 rfl | exact .own 6 rfl | exact .own 7 rfl | exact .own 8 rfl | assumption | exact .own 9 rfl | exact .own 10 rfl | exact .own 11 rfl | exact .own 12 rfl | exact .arg hAr | exact .arg (hAi rest (by omega)) | exact .arg hNr | exact .arg (hNi q.toNat (by omega))) (by decide) (by omega)) ⟨_, rfl, congrArg (fun b => some (Value.bool b)) hg_1_4⟩ rfl ?_ | refine AK.val _ (Yl.idxK sl22 rfl rfl (by first | exact .arg ‹_› | exact .own 0 rfl | exact .own 1 rfl | exact .own 2 rfl | exact .own 3 rfl | exact .own 4 rfl | exact .own 5 rfl | exact .own 6 rfl | exact .own 7 rfl | exact .own 8 rfl | assumption | exact .own 9 rfl | exact .own 10 rfl | exact .own 11 rfl | exact .own 12 rfl | exact .arg hAr | exact .arg (hAi rest (by omega)) | exact .arg hNr | exact .arg (hNi q.toNat (by omega))) (by decide) (by omega)) ⟨_, rfl, congrArg (fun b => some (Value.bool b)) hg_1_4⟩ rfl ?_
    refine AK.val _ (Yl.loadB on4 rfl (by first | exact .arg ‹_› | exact .own 0 rfl | exact .own 1 rfl | exact .own 2 rfl | exact .own 3 rfl | exact .own 4 rfl | exact .own 5 rfl | exact .own 6 rfl | exact .own 7 rfl | exact .own 8 rfl | assumption | exact .own 9 rfl | exact .own 10 rfl | exact .own 11 rfl | exact .own 12 rfl | exact .arg hAr | exact .arg (hAi rest (by omega)) | exact .arg hNr | exact .arg (hNi q.toNat (by omega))) (by omega)) ⟨_, rfl, congrArg (fun b => some (Value.bool b)) hg_1_4⟩ rfl ?_
    refine AK.val _ (Yl.not rfl) ⟨_, rfl, congrArg (fun b => some (Value.bool b)) hg_1_4⟩ rfl ?_
    refine AK.val _ (Yl.pickF rfl (hg_1_4) rfl) trivial rfl ?_
    refine AK.nil ?_
    refine AK.then_ (hK3 _ ?_)
    refine AK.condB rfl (fun hc0 => ?_) (fun hc0 => ?_)
    · refine AK.seq (fun _ hK5 => ?_)
      refine AK.region ?_
      refine AK.val _ (Yl.move rfl) trivial rfl ?_
      refine AK.val _ (Yl.assign rfl) trivial rfl ?_
      refine AK.nil ?_
      refine AK.then_ (hK5 _ ?_)
      refine AK.ret ?_
      refine AK.then_ret ?_
      refine AK.ret1 rfl rfl (fun w hw => ⟨_, _, _, ?_, rfl, Ret.of (hw.pick [0] (by decide) rfl rfl)⟩)
      have hst : ((aliveR d rest).getD q.toNat false = false ∨ out.length = n) := by
        rw [← har]
        first | exact .inr (by omega) | exact .inl (by simpa using hc0)
      refine ⟨sO, ?_, rfl⟩
      rw [wl_stop hst]
      try rfl
    · have hnl : ¬ ((aliveR d rest).getD q.toNat false = false ∨ out.length = n) := by
        rw [← har]
        rintro (h | h)
        · rw [h] at hc0; exact absurd hc0 (by decide)
        · omega
      refine AK.skip ?_
      refine AK.then_ (hK2 _ ?_)
      refine AK.seq (fun _ hK6 => ?_)
      refine AK.seq (fun _ hK7 => ?_)
      refine AK.region ?_
      refine AK.val _ (Yl.move rfl) trivial rfl ?_
      refine AK.val _ (Yl.eql rfl rfl) trivial rfl ?_
      refine AK.nil ?_
      refine AK.then_ (hK7 _ ?_)
      refine AK.condD rfl (fun hc1 => ?_) (fun hc1 => ?_)
      · refine AK.seq (fun _ hK8 => ?_)
        refine AK.region ?_
        refine AK.val _ (Yl.move rfl) trivial rfl ?_
        refine AK.val _ (Yl.move rfl) trivial rfl ?_
        refine AK.append1 0 rfl sl30 el9 rfl (by decide) rfl (by intro k hk; cases hk; rfl) rfl (by intro u hu; simp [Value.cells, sv] at hu; subst hu; rfl) (by omega) (by omega) (by decide) rfl rfl (fun vw1 _ hw1 => ?_)
        refine AK.val _ (Yl.assign rfl) trivial rfl ?_
        refine AK.nil ?_
        refine AK.then_ (hK8 _ ?_)
        refine AK.ret ?_
        refine AK.then_ret ?_
        refine AK.ret1 rfl rfl (fun w hw => ⟨_, _, _, ?_, rfl, Ret.of (hw.pick [0] (by decide) rfl rfl)⟩)
        refine ⟨hw1, ?_, rfl⟩
        have e0 : rest = 0 := (by omega)
        subst e0
        rw [wl_zero hnl]; simp [Value.cells, sv]
      · refine AK.skip ?_
        refine AK.then_ (hK6 _ ?_)
        refine AK.seq (fun _ hK9 => ?_)
        refine AK.seq (fun _ hK10 => ?_)
        refine AK.region ?_
        refine AK.val _ (Yl.assign rfl) trivial rfl ?_
        refine AK.nil ?_
        refine AK.then_ (hK10 _ ?_)
        refine AK.block ?_
        refine AK.loopS (X := Nat × Value) [1, 2, 3, 4, 5, 7] (fun x => [(15, .int .i64 (x.1 : Int)), (6, x.2)]) (fun x => [row x.2 9 1 (wlk d n (rest - 1) (d.nx.getD q.toNat []) pre out x.1).length ((wlk d n (rest - 1) (d.nx.getD q.toNat []) pre out x.1).map sv), box bx7 25 4 [.int .i64 d.L, .int .i64 d.s, vF, vN]]) (fun x => x.1 ≤ (d.nx.getD q.toNat []).length ∧ IsSl x.2) (fun x => (d.nx.getD q.toNat []).length - x.1) ((0, vO)) ?_ ?_ ?_ ?_
        · exact ⟨Nat.zero_le _, sO⟩
        · exact .cons (rfl) (.cons (rfl) (.nil))
        · exact fun w hw => hw
        · intro x hg0 _ hK11
          refine AK.seq (fun _ hK12 => ?_)
          refine AK.seq (fun _ hK13 => ?_)
          refine AK.region ?_
          refine AK.val _ (Yl.move rfl) trivial rfl ?_
          refine AK.val _ (Yl.fieldAddr fd25_0 rfl) trivial rfl ?_
          refine AK.val _ (Yl.loadBox on3 rfl (by first | exact .own 0 rfl | exact .own 1 rfl | exact .own 2 rfl | exact .own 3 rfl | exact .own 4 rfl | exact .own 5 rfl | exact .own 6 rfl | exact .own 7 rfl | exact .own 8 rfl | exact .own 9 rfl | exact .own 10 rfl | exact .own 11 rfl | exact .own 12 rfl | assumption | exact BoxS.arg (by assumption)) rfl) trivial rfl ?_
          refine AK.val _ (Yl.lss rfl rfl) trivial rfl ?_
          refine AK.nil ?_
          refine AK.then_ (hK13 _ ?_)
          refine AK.condD rfl (fun hc2 => ?_) (fun hc2 => ?_)
          · have htx := hvt q.toNat x.1 (by omega) (by omega)
            refine AK.skip ?_
            refine AK.then_ (hK12 _ ?_)
            refine AK.seq (fun _ hK14 => ?_)
            refine AK.block ?_
            try (conv => enter [2, 2]; dsimp only [List.set_cons_zero, List.set_cons_succ, List.cons_append, List.nil_append])
            refine AK.held 21 mixed ?_
            refine HeldK.first 0 (fuel := 22) (listed' := #[true, false, false, false, false, false, false, false, false, false, false, false, false, false, false, false, false, false, false, false, false, false, false]) _ rfl (by kernel_rfl) rfl rfl (Yl.loadBoxG ag25 rfl (by first | exact .own 0 rfl | exact .own 1 rfl | exact .own 2 rfl | exact .own 3 rfl | exact .own 4 rfl | exact .own 5 rfl | exact .own 6 rfl | exact .own 7 rfl | exact .own 8 rfl | exact .own 9 rfl | exact .own 10 rfl | exact .own 11 rfl | exact .own 12 rfl | assumption | exact BoxS.arg (by assumption)) rfl rfl) trivial rfl ?_
            refine HeldK.first 1 (fuel := 21) (listed' := #[true, true, false, false, false, false, false, false, false, false, false, false, false, false, false, false, false, false, false, false, false, false, false]) _ rfl (by kernel_rfl) rfl rfl (Yl.move rfl) trivial rfl ?_
            refine HeldK.first 2 (fuel := 20) (listed' := #[true, true, true, false, false, false, false, false, false, false, false, false, false, false, false, false, false, false, false, false, false, false, false]) _ rfl (by kernel_rfl) rfl rfl (Yl.fieldAddr fd25_3 rfl) trivial rfl ?_
            refine HeldK.first 3 (fuel := 19) (listed' := #[true, true, true, true, false, false, false, false, false, false, false, false, false, false, false, false, false, false, false, false, false, false, false]) _ rfl (by kernel_rfl) rfl rfl (Yl.loadBox on23 rfl (by first | exact .own 0 rfl | exact .own 1 rfl | exact .own 2 rfl | exact .own 3 rfl | exact .own 4 rfl | exact .own 5 rfl | exact .own 6 rfl | exact .own 7 rfl | exact .own 8 rfl | exact .own 9 rfl | exact .own 10 rfl | exact .own 11 rfl | exact .own 12 rfl | assumption | exact BoxS.arg (by assumption)) rfl) trivial rfl ?_
            refine HeldK.first 4 (fuel := 18) (listed' := #[true, true, true, true, true, false, false, false, false, false, false, false, false, false, false, false, false, false, false, false, false, false, false]) _ rfl (by kernel_rfl) rfl rfl (Yl.move rfl) trivial rfl ?_
            first | refine HeldK.first 5 (fuel := 17) (listed' := #[true, true, true, true, true, true, false, false, false, false, false, false, false, false, false, false, false, false, false, false, false, false, false]) _ rfl (by kernel_rfl) rfl rfl (Yl.idxN sl23 rfl rfl (by first | exact .arg ‹_› | exact .own 0 rfl | exact .own 1 rfl | exact .own 2 rfl | exact .own 3 rfl | exact .own 4 rfl | exact .own 5 rfl | exact .own 6 rfl | exact .own 7 rfl | exact .own 8 rfl | assumption | exact .own 9 rfl | exact .own 10 rfl | exact .own 11 rfl | exact .own 12 rfl | exact .arg hAr | exact .arg (hAi rest (by omega)) | exact .arg hNr | exact .arg (hNi q.toNat (by omega))) (by decide) (by omega)) trivial rfl ?_ | refine HeldK.first 5 (fuel := 17) (listed' := #[true, true, true, true, true, true, false, false, false, false, false, false, false, false, false, false, false, false, false, false, false, false, false]) _ rfl (by kernel_rfl) rfl rfl (Yl.idx sl23 rfl rfl (by first | exact .arg ‹_› | exact .own 0 rfl | exact .own 1 rfl | exact .own 2 rfl | exact .own 3 rfl | exact .own 4 rfl | exact .own 5 rfl | exact .own 6 rfl | exact .own 7 rfl | exact .own 8 rfl | assumption | exact .own 9 rfl | exact .own 10 rfl | exact .own 11 rfl | exact .own 12 rfl | exact .arg hAr | exact .arg (hAi rest (by omega)) | exact .arg hNr | exact .arg (hNi q.toNat (by omega))) (by decide) (by omega)) trivial rfl ?_ | refine HeldK.first 5 (fuel := 17) (listed' := #[true, true, true, true, true, true, false, false, false, false, false, false, false, false, false, false, false, false, false, false, false, false, false]) _ rfl (by kernel_rfl) rfl rfl (Yl.idxK sl23 rfl rfl (by first | exact .arg ‹_› | exact .own 0 rfl | exact .own 1 rfl | exact .own 2 rfl | exact .own 3 rfl | exact .own 4 rfl | exact .own 5 rfl | exact .own 6 rfl | exact .own 7 rfl | exact .own 8 rfl | assumption | exact .own 9 rfl | exact .own 10 rfl | exact .own 11 rfl | exact .own 12 rfl | exact .arg hAr | exact .arg (hAi rest (by omega)) | exact .arg hNr | exact .arg (hNi q.toNat (by omega))) (by decide) (by omega)) trivial rfl ?_
            refine HeldK.first 6 (fuel := 16) (listed' := #[true, true, true, true, true, true, true, false, false, false, false, false, false, false, false, false, false, false, false, false, false, false, false]) _ rfl (by kernel_rfl) rfl rfl (Yl.loadV on38 rfl (by first | exact .arg ‹_› | exact .own 0 rfl | exact .own 1 rfl | exact .own 2 rfl | exact .own 3 rfl | exact .own 4 rfl | exact .own 5 rfl | exact .own 6 rfl | exact .own 7 rfl | exact .own 8 rfl | assumption | exact .own 9 rfl | exact .own 10 rfl | exact .own 11 rfl | exact .own 12 rfl | exact .arg hAr | exact .arg (hAi rest (by omega)) | exact .arg hNr | exact .arg (hNi q.toNat (by omega))) (by omega)) trivial rfl ?_
            refine HeldK.first 7 (fuel := 15) (listed' := #[true, true, true, true, true, true, true, true, false, false, false, false, false, false, false, false, false, false, false, false, false, false, false]) _ rfl (by kernel_rfl) rfl rfl (Yl.move rfl) trivial rfl ?_
            first | refine HeldK.first 8 (fuel := 14) (listed' := #[true, true, true, true, true, true, true, true, true, false, false, false, false, false, false, false, false, false, false, false, false, false, false]) _ rfl (by kernel_rfl) rfl rfl (Yl.idxN sl38 rfl rfl (by first | exact .arg ‹_› | exact .own 0 rfl | exact .own 1 rfl | exact .own 2 rfl | exact .own 3 rfl | exact .own 4 rfl | exact .own 5 rfl | exact .own 6 rfl | exact .own 7 rfl | exact .own 8 rfl | assumption | exact .own 9 rfl | exact .own 10 rfl | exact .own 11 rfl | exact .own 12 rfl | exact .arg hAr | exact .arg (hAi rest (by omega)) | exact .arg hNr | exact .arg (hNi q.toNat (by omega))) (by decide) (by omega)) trivial rfl ?_ | refine HeldK.first 8 (fuel := 14) (listed' := #[true, true, true, true, true, true, true, true, true, false, false, false, false, false, false, false, false, false, false, false, false, false, false]) _ rfl (by kernel_rfl) rfl rfl (Yl.idx sl38 rfl rfl (by first | exact .arg ‹_› | exact .own 0 rfl | exact .own 1 rfl | exact .own 2 rfl | exact .own 3 rfl | exact .own 4 rfl | exact .own 5 rfl | exact .own 6 rfl | exact .own 7 rfl | exact .own 8 rfl | assumption | exact .own 9 rfl | exact .own 10 rfl | exact .own 11 rfl | exact .own 12 rfl | exact .arg hAr | exact .arg (hAi rest (by omega)) | exact .arg hNr | exact .arg (hNi q.toNat (by omega))) (by decide) (by omega)) trivial rfl ?_ | refine HeldK.first 8 (fuel := 14) (listed' := #[true, true, true, true, true, true, true, true, true, false, false, false, false, false, false, false, false, false, false, false, false, false, false]) _ rfl (by kernel_rfl) rfl rfl (Yl.idxK sl38 rfl rfl (by first | exact .arg ‹_› | exact .own 0 rfl | exact .own 1 rfl | exact .own 2 rfl | exact .own 3 rfl | exact .own 4 rfl | exact .own 5 rfl | exact .own 6 rfl | exact .own 7 rfl | exact .own 8 rfl | assumption | exact .own 9 rfl | exact .own 10 rfl | exact .own 11 rfl | exact .own 12 rfl | exact .arg hAr | exact .arg (hAi rest (by omega)) | exact .arg hNr | exact .arg (hNi q.toNat (by omega))) (by decide) (by omega)) trivial rfl ?_
            refine HeldK.first 9 (fuel := 13) (listed' := #[true, true, true, true, true, true, true, true, true, true, false, false, false, false, false, false, false, false, false, false, false, false, false]) _ rfl (by kernel_rfl) rfl rfl (Yl.loadI on3 rfl (by first | exact .arg ‹_› | exact .own 0 rfl | exact .own 1 rfl | exact .own 2 rfl | exact .own 3 rfl | exact .own 4 rfl | exact .own 5 rfl | exact .own 6 rfl | exact .own 7 rfl | exact .own 8 rfl | assumption | exact .own 9 rfl | exact .own 10 rfl | exact .own 11 rfl | exact .own 12 rfl | exact .arg hAr | exact .arg (hAi rest (by omega)) | exact .arg hNr | exact .arg (hNi q.toNat (by omega))) (by omega)) trivial rfl ?_
            refine HeldK.first 10 (fuel := 12) (listed' := #[true, true, true, true, true, true, true, true, true, true, true, false, false, false, false, false, false, false, false, false, false, false, false]) _ rfl (by kernel_rfl) rfl rfl (Yl.move rfl) trivial rfl ?_
            refine HeldK.first 11 (fuel := 11) (listed' := #[true, true, true, true, true, true, true, true, true, true, true, true, false, false, false, false, false, false, false, false, false, false, false]) _ rfl (by kernel_rfl) rfl rfl (Yl.subE (((rest - 1 : Nat) : Int)) rfl rfl (by omega) (by omega)) trivial rfl ?_
            refine HeldK.first 12 (fuel := 10) (listed' := #[true, true, true, true, true, true, true, true, true, true, true, true, true, false, false, false, false, false, false, false, false, false, false]) _ rfl (by kernel_rfl) rfl rfl (Yl.move rfl) trivial rfl ?_
            refine HeldK.first 13 (fuel := 9) (listed' := #[true, true, true, true, true, true, true, true, true, true, true, true, true, true, false, false, false, false, false, false, false, false, false]) _ rfl (by kernel_rfl) rfl rfl (Yl.move rfl) trivial rfl ?_
            refine HeldK.first 14 (fuel := 8) (listed' := #[true, true, true, true, true, true, true, true, true, true, true, true, true, true, true, false, false, false, false, false, false, false, false]) _ rfl (by kernel_rfl) rfl rfl (Yl.add rfl rfl (by omega)) trivial rfl ?_
            refine HeldK.first 15 (fuel := 7) (listed' := #[true, true, true, true, true, true, true, true, true, true, true, true, true, true, true, true, false, false, false, false, false, false, false]) _ rfl (by kernel_rfl) rfl rfl (Yl.convI (by kernel_rfl) un5 rfl (wrap_u8 (by omega))) trivial rfl ?_
            refine HeldK.first 19 (fuel := 6) (listed' := #[true, true, true, true, true, true, true, true, true, true, true, true, true, true, true, true, false, false, false, true, false, false, false]) _ rfl (by kernel_rfl) rfl rfl (Yl.move rfl) trivial rfl ?_
            refine HeldK.first 20 (fuel := 5) (listed' := #[true, true, true, true, true, true, true, true, true, true, true, true, true, true, true, true, false, false, false, true, true, false, false]) _ rfl (by kernel_rfl) rfl rfl (Yl.move rfl) trivial rfl ?_
            refine HeldK.one 16 (fuel := 4) (listed' := #[true, true, true, true, true, true, true, true, true, true, true, true, true, true, true, true, true, false, false, true, true, false, false]) (by kernel_rfl) rfl rfl ?_
            refine AK.lit (xs := [.tmp 58]) sl58 el5 rfl rfl rfl (by simp [Value.cells]) (by decide) (by decide) trivial rfl (fun lb => ?_)
            refine AK.nil ?_
            try (conv => enter [2, 2]; dsimp only [List.set_cons_zero, List.set_cons_succ, List.cons_append, List.nil_append])
            refine HeldK.back (by repeat (first | exact HWle.nil | refine HWle.cons Ale.rfl ?_ | refine HWle.cons Ale.fst ?_)) ?_
            refine HeldK.first 17 (fuel := 3) (listed' := #[true, true, true, true, true, true, true, true, true, true, true, true, true, true, true, true, true, true, false, true, true, false, false]) _ rfl (by kernel_rfl) rfl rfl (Yl.bytesLtr 2 x.1 rfl (by omega) sl58.1 un5 un9 rfl) trivial rfl ?_
            refine HeldK.first 18 (fuel := 2) (listed' := #[true, true, true, true, true, true, true, true, true, true, true, true, true, true, true, true, true, true, true, true, true, false, false]) _ rfl (by kernel_rfl) rfl rfl (Yl.concat rfl rfl (by simp; omega)) trivial rfl ?_
            refine HeldK.one 21 (fuel := 1) (listed' := #[true, true, true, true, true, true, true, true, true, true, true, true, true, true, true, true, true, true, true, true, true, true, false]) (by kernel_rfl) rfl rfl ?_
            refine AK.callN 0 rfl co49 rfl (fun w Fs hw hh hfr hal => ih (rest - 1) (by omega) w (Fs 0) _ d vC x.2 _ n m (pre ++ [ltr x.1]) (wlk d n (rest - 1) (d.nx.getD q.toNat []) pre out x.1) hv htx (by omega) hm (by simp; omega) hn (wlk_len ho _) hg0.2 (h0.off hfr hal) (hAl0.off hfr hal) (hh.at_ 0 _ rfl)) trivial rfl ?_
            rintro r A o ⟨sr, rfl, rfl⟩
            refine AK.nil ?_
            try (conv => enter [2, 2]; dsimp only [List.set_cons_zero, List.set_cons_succ, List.cons_append, List.nil_append])
            refine HeldK.backN 22 rfl rfl (by kernel_rfl) ?_
            refine AK.val _ (Yl.assign rfl) trivial rfl ?_
            refine AK.nil ?_
            refine AK.fromQn ?_
            refine AK.block_normal ?_
            refine AK.then_ (hK14 _ ?_)
            refine AK.region ?_
            refine AK.val _ (Yl.move rfl) trivial rfl ?_
            refine AK.val _ (Yl.add rfl rfl (by omega)) trivial rfl ?_
            refine AK.val _ (Yl.assign rfl) trivial rfl ?_
            refine AK.nil ?_
            refine AK.then_ (hK11 _ _ ((x.1 + 1, r)) ⟨by dsimp only; omega, sr⟩ (by dsimp only; omega) (.cons (rfl) (.cons (rfl) (.cons rfl (.cons rfl (.cons rfl (.cons rfl (.cons rfl (.cons rfl (.nil))))))))) (fun w hw => by dsimp only; rw [wlk_succ]; exact hw.pick [0, 1] (by decide) rfl rfl))
          · refine AK.exit ?_
            refine AK.then_exit ?_
            refine AK.then_exit ?_
            refine AK.block_exit ?_
            refine AK.then_ (hK9 _ ?_)
            refine AK.seq (fun _ hK15 => ?_)
            refine AK.region ?_
            refine AK.val _ (Yl.move rfl) trivial rfl ?_
            refine AK.val _ (Yl.assign rfl) trivial rfl ?_
            refine AK.nil ?_
            refine AK.then_ (hK15 _ ?_)
            refine AK.ret ?_
            refine AK.ret1 rfl rfl (fun w hw => ⟨_, _, _, ?_, rfl, Ret.of (hw.pick [0] (by decide) rfl rfl)⟩)
            refine ⟨hg0.2, ?_, rfl⟩
            rw [wl_succ (by omega) hnl, show x.1 = (d.nx.getD q.toNat []).length by omega]
            try rfl

theorem s_emit : ∀ rest, EmitC rest := fun rest => Nat.strongRecOn rest fun r ih => s_emit_step r ih
set_option maxHeartbeats 600000 in
set_option maxRecDepth 100000 in
theorem s_refwords (w : World) (v : Value) (d : Dfa) (h : RdD (fun _ => False) w v d) (n : Int) (hv : VD d) (hn : 0 ≤ n ∧ n ≤ 200) : CallS Try.prog 21 [v, .int .i64 n] w (fun r o => o = [row r 9 1 (WordsV d n).length ((WordsV d n).map sv)]) := by
  have h0 := h
  obtain ⟨vF, vN, rfl, hF, hN⟩ := h
  have hF0 := hF
  have hN0 := hN
  obtain ⟨rs, hrl, hNr, hNi⟩ := hN
  have sF := hF.sl
  have sN := hNr.sl
  have hmf := hF.le
  have hmn := hNr.le
  unfold RdL at hF
  obtain ⟨nn, rfl⟩ := Int.eq_ofNat_of_zero_le (by omega : 0 ≤ n)
  have hn5 := hv.n
  have hnx := hv.nx
  have hvt := hv.to
  have hvr := hv.row
  have hvL := hv.L
  refine spec_of Try.func21 rfl (Nat.le_of_ble_eq_true rfl) ?_
  refine AK.seq (fun _ hK1 => ?_)
  refine AK.region ?_
  refine AK.box_ (E := 25) (cs := [.int .i64 d.L, .int .i64 d.s, vF, vN]) rfl rfl rfl trivial rfl (fun bx2 => ?_)
  refine AK.val _ (Yl.assign rfl) trivial rfl ?_
  refine AK.nil ?_
  refine AK.then_ (hK1 _ ?_)
  refine AK.seq (fun _ hK2 => ?_)
  refine AK.region ?_
  refine AK.val _ (Yl.assign rfl) trivial rfl ?_
  refine AK.nil ?_
  refine AK.then_ (hK2 _ ?_)
  refine AK.seq (fun _ hK3 => ?_)
  refine AK.region ?_
  refine AK.val _ (Yl.fieldAddr fd25_2 rfl) trivial rfl ?_
  refine AK.val _ (Yl.loadBox on22 rfl (by first | exact .own 0 rfl | exact .own 1 rfl | exact .own 2 rfl | exact .own 3 rfl | exact .own 4 rfl | exact .own 5 rfl | exact .own 6 rfl | exact .own 7 rfl | exact .own 8 rfl | exact .own 9 rfl | exact .own 10 rfl | exact .own 11 rfl | exact .own 12 rfl | assumption | exact BoxS.arg (by assumption)) rfl) trivial rfl ?_
  refine AK.lit (xs := [.tmp 13]) sl57 el22 rfl rfl rfl (by intro a ha; simp at ha; subst ha; rw [sF.cells]; rfl) (by decide) (by decide) trivial rfl (fun lv => ?_)
  refine AK.shape 1 rfl (fun slv => ?_)
  refine AK.val _ (Yl.assign rfl) trivial rfl ?_
  refine AK.nil ?_
  refine AK.then_ (hK3 _ ?_)
  refine AK.seq (fun _ hK4 => ?_)
  refine AK.seq (fun _ hK5 => ?_)
  refine AK.region ?_
  refine AK.val _ (Yl.assign rfl) trivial rfl ?_
  refine AK.nil ?_
  refine AK.then_ (hK5 _ ?_)
  refine AK.block ?_
  refine AK.loopS (X := Nat × Value × Value × List Value) [1, 2] (fun x => [(5, x.2.1), (6, x.2.2.1), (7, .int .i64 (x.1 : Int))]) (fun x => [row x.2.1 9 1 (wk d nn x.1).length ((wk d nn x.1).map sv), box bx2 25 4 [.int .i64 d.L, .int .i64 d.s, vF, vN], row x.2.2.1 22 1 (x.1 + 1) (vF :: x.2.2.2), bigA (matG Value.bool 4 x.2.2.2 (alT d x.1))]) (fun x => x.1 ≤ 2049 ∧ x.2.2.2.length = x.1 ∧ IsSl x.2.1 ∧ IsSl x.2.2.1) (fun x => 2049 - x.1) ((0, .slice none 0 0, lv, [])) ?_ ?_ ?_ ?_
  · exact ⟨Nat.zero_le _, rfl, nilSl, slv⟩
  · exact .cons (rfl) (.cons (rfl) (.cons (rfl) (.nil)))
  · exact fun w hw => by have h1 := (hw.ghostG (f := Value.bool) 4).ghost 9 1; rw [show [vF].flatMap (·.cells.toList) = [vF] by simp [sF.cells]] at h1; exact h1.pick [3, 0, 1, 2] (by decide) rfl rfl
  · intro x hg0 _ hK6
    have hal : (d.fin :: alT d x.1).getD x.1 [] = aliveR d x.1 := alR_at d (Nat.le_refl _)
    have hall := aliveR_len hnx x.1
    refine AK.seq (fun _ hK7 => ?_)
    refine AK.seq (fun _ hK8 => ?_)
    refine AK.region ?_
    refine AK.val _ (Yl.move rfl) trivial rfl ?_
    refine AK.val _ (Yl.leq rfl rfl) trivial rfl ?_
    refine AK.val _ (Yl.move rfl) trivial rfl ?_
    refine AK.splitB (g := 17) rfl (fun hg_4_2 => ?_) (fun hg_4_2 => ?_)
    · have hg_4_2' := hg_4_2
      try simp only [decide_eq_true_eq, decide_eq_false_iff_not, Bool.not_eq_true', Bool.not_eq_false', Bool.not_not, ne_eq, Decidable.not_not, Int.not_lt, Int.not_le, beq_iff_eq, bne_iff_ne, Bool.and_eq_true, Bool.or_eq_true, Bool.or_eq_false_iff, Bool.not_false, Bool.not_true, reduceCtorEq, not_true_eq_false, not_false_eq_true] at hg_4_2'
      refine AK.val _ (Yl.move rfl) ⟨_, rfl, congrArg (fun b => some (Value.bool b)) hg_4_2⟩ rfl ?_
      refine AK.val _ (Yl.lenR sl30 rfl (by first | exact .arg ‹_› | exact .own 0 rfl | exact .own 1 rfl | exact .own 2 rfl | exact .own 3 rfl | exact .own 4 rfl | exact .own 5 rfl | exact .own 6 rfl | exact .own 7 rfl | exact .own 8 rfl | assumption | exact .own 9 rfl | exact .own 10 rfl | exact .own 11 rfl | exact .own 12 rfl | exact .own 4 rfl | exact rd_al2 3 hF rfl (by rw [alT_len]; exact hg0.2.1) (by rw [alT_len]; omega) hal hall | exact .arg (hNi _ (by omega)))) ⟨_, rfl, congrArg (fun b => some (Value.bool b)) hg_4_2⟩ rfl ?_
      refine AK.val _ (Yl.move rfl) ⟨_, rfl, congrArg (fun b => some (Value.bool b)) hg_4_2⟩ rfl ?_
      refine AK.val _ (Yl.lss rfl rfl) ⟨_, rfl, congrArg (fun b => some (Value.bool b)) hg_4_2⟩ rfl ?_
      refine AK.val _ (Yl.pickT rfl (hg_4_2) rfl) trivial rfl ?_
      refine AK.nil ?_
      refine AK.then_ (hK8 _ ?_)
      refine AK.condD rfl (fun hc0 => ?_) (fun hc0 => ?_)
      · refine AK.skip ?_
        refine AK.then_ (hK7 _ ?_)
        refine AK.seq (fun _ hK9 => ?_)
        refine AK.block ?_
        refine AK.seq (fun _ hK10 => ?_)
        refine AK.region ?_
        refine AK.val _ (Yl.loadBoxG ag25 rfl (by first | exact .own 0 rfl | exact .own 1 rfl | exact .own 2 rfl | exact .own 3 rfl | exact .own 4 rfl | exact .own 5 rfl | exact .own 6 rfl | exact .own 7 rfl | exact .own 8 rfl | exact .own 9 rfl | exact .own 10 rfl | exact .own 11 rfl | exact .own 12 rfl | assumption | exact BoxS.arg (by assumption)) rfl rfl) trivial rfl ?_
        refine AK.val _ (Yl.move rfl) trivial rfl ?_
        refine AK.val _ (Yl.fieldAddr fd25_1 rfl) trivial rfl ?_
        refine AK.val _ (Yl.loadBox on3 rfl (by first | exact .own 0 rfl | exact .own 1 rfl | exact .own 2 rfl | exact .own 3 rfl | exact .own 4 rfl | exact .own 5 rfl | exact .own 6 rfl | exact .own 7 rfl | exact .own 8 rfl | exact .own 9 rfl | exact .own 10 rfl | exact .own 11 rfl | exact .own 12 rfl | assumption | exact BoxS.arg (by assumption)) rfl) trivial rfl ?_
        refine AK.val _ (Yl.move rfl) trivial rfl ?_
        refine AK.val _ (Yl.move rfl) trivial rfl ?_
        refine AK.val _ (Yl.move rfl) trivial rfl ?_
        refine AK.own' [row x.2.1 9 1 (wk d nn x.1).length ((wk d nn x.1).map sv), box bx2 25 4 [.int .i64 d.L, .int .i64 d.s, vF, vN], row x.2.2.1 22 1 (x.1 + 1) (vF :: x.2.2.2), bigA (matG Value.bool 4 x.2.2.2 (alT d x.1))] (fun w hw => hw) ?_
        refine AK.callN 0 rfl co49 rfl (fun w Fs hw hh hfr hal => s_emit x.1 w (Fs 0) _ d x.2.2.1 x.2.1 d.s nn x.1 [] (wk d nn x.1) hv hv.s (Nat.le_refl _) (by omega) (by simp; omega) (by omega) (wk_len _ _ _) hg0.2.2.1 (h0.off hfr hal) (RdLL.alOff 0 2 3 hh hfr hal hF0 rfl rfl hg0.2.1 (by decide) (by decide)) (hh.at_ 0 _ rfl)) trivial rfl ?_
        rintro vo A o ⟨so, rfl, rfl⟩
        refine AK.val _ (Yl.assign rfl) trivial rfl ?_
        refine AK.nil ?_
        refine AK.then_ (hK10 _ ?_)
        refine AK.seq (fun _ hK11 => ?_)
        refine AK.region ?_
        refine AK.val _ (Yl.fieldAddr fd25_2 rfl) trivial rfl ?_
        refine AK.val _ (Yl.loadBox on22 rfl (by first | exact .own 0 rfl | exact .own 1 rfl | exact .own 2 rfl | exact .own 3 rfl | exact .own 4 rfl | exact .own 5 rfl | exact .own 6 rfl | exact .own 7 rfl | exact .own 8 rfl | exact .own 9 rfl | exact .own 10 rfl | exact .own 11 rfl | exact .own 12 rfl | assumption | exact BoxS.arg (by assumption)) rfl) trivial rfl ?_
        refine AK.val _ (Yl.lenR sl22 rfl (by first | exact .arg ‹_› | exact .own 0 rfl | exact .own 1 rfl | exact .own 2 rfl | exact .own 3 rfl | exact .own 4 rfl | exact .own 5 rfl | exact .own 6 rfl | exact .own 7 rfl | exact .own 8 rfl | assumption | exact .own 9 rfl | exact .own 10 rfl | exact .own 11 rfl | exact .own 12 rfl | exact .own 4 rfl | exact rd_al2 3 hF rfl (by rw [alT_len]; exact hg0.2.1) (by rw [alT_len]; omega) hal hall | exact .arg (hNi _ (by omega)))) trivial rfl ?_
        refine AK.make1 (n := d.fin.length) sl22 el4 rfl rfl rfl (by omega) (by omega) trivial rfl (fun rv => ?_)
        refine AK.val _ (Yl.assign rfl) trivial rfl ?_
        refine AK.nil ?_
        refine AK.then_ (hK11 _ ?_)
        refine AK.seq (fun _ hK12 => ?_)
        refine AK.seq (fun _ hK13 => ?_)
        refine AK.region ?_
        refine AK.val _ (Yl.move rfl) trivial rfl ?_
        refine AK.val _ (Yl.lenR sl22 rfl (by first | exact .arg ‹_› | exact .own 0 rfl | exact .own 1 rfl | exact .own 2 rfl | exact .own 3 rfl | exact .own 4 rfl | exact .own 5 rfl | exact .own 6 rfl | exact .own 7 rfl | exact .own 8 rfl | assumption | exact .own 9 rfl | exact .own 10 rfl | exact .own 11 rfl | exact .own 12 rfl | exact .own 4 rfl | exact rd_al2 3 hF rfl (by rw [alT_len]; exact hg0.2.1) (by rw [alT_len]; omega) hal hall | exact .arg (hNi _ (by omega)))) trivial rfl ?_
        refine AK.val _ (Yl.move rfl) trivial rfl ?_
        refine AK.nil ?_
        refine AK.then_ (hK13 _ ?_)
        refine AK.block ?_
        refine AK.loopS (X := Nat) [1, 2, 5, 6, 7, 8, 38] (fun k => [(39, .int .i64 (k : Int))]) (fun k => [row vo 9 1 (wl d nn x.1 d.s [] (wk d nn x.1)).length ((wl d nn x.1 d.s [] (wk d nn x.1)).map sv), box bx2 25 4 [.int .i64 d.L, .int .i64 d.s, vF, vN], row x.2.2.1 22 1 (x.1 + 1) (vF :: x.2.2.2), bigA (matG Value.bool 4 x.2.2.2 (alT d x.1)), row rv 4 1 d.fin.length (((preB d (aliveR d x.1)).take k ++ List.replicate (d.fin.length - k) false).map Value.bool)]) (fun k => k ≤ d.nx.length) (fun k => d.nx.length - k) (0) ?_ ?_ ?_ ?_
        · exact Nat.zero_le _
        · exact .cons (rfl) (.nil)
        · exact fun w hw => by simpa using hw
        · intro k hg1 _ hK14
          refine AK.seq (fun _ hK15 => ?_)
          refine AK.region ?_
          refine AK.val _ (Yl.lss rfl rfl) trivial rfl ?_
          refine AK.nil ?_
          refine AK.then_ (hK15 _ ?_)
          refine AK.seq (fun _ hK16 => ?_)
          refine AK.condD rfl (fun hc1 => ?_) (fun hc1 => ?_)
          · refine AK.skip ?_
            refine AK.then_ (hK16 _ ?_)
            refine AK.seq (fun _ hK17 => ?_)
            refine AK.block ?_
            refine AK.seq (fun _ hK18 => ?_)
            refine AK.region ?_
            refine AK.val _ (Yl.move rfl) trivial rfl ?_
            refine AK.val _ (Yl.assign rfl) trivial rfl ?_
            refine AK.nil ?_
            refine AK.then_ (hK18 _ ?_)
            refine AK.seq (fun _ hK19 => ?_)
            refine AK.region ?_
            refine AK.val _ (Yl.fieldAddr fd25_3 rfl) trivial rfl ?_
            refine AK.val _ (Yl.loadBox on23 rfl (by first | exact .own 0 rfl | exact .own 1 rfl | exact .own 2 rfl | exact .own 3 rfl | exact .own 4 rfl | exact .own 5 rfl | exact .own 6 rfl | exact .own 7 rfl | exact .own 8 rfl | exact .own 9 rfl | exact .own 10 rfl | exact .own 11 rfl | exact .own 12 rfl | assumption | exact BoxS.arg (by assumption)) rfl) trivial rfl ?_
            refine AK.val _ (Yl.move rfl) trivial rfl ?_
            first | refine AK.val _ (Yl.idxN sl23 rfl rfl (by first | exact .arg ‹_› | exact .own 0 rfl | exact .own 1 rfl | exact .own 2 rfl | exact .own 3 rfl | exact .own 4 rfl | exact .own 5 rfl | exact .own 6 rfl | exact .own 7 rfl | exact .own 8 rfl | assumption | exact .own 9 rfl | exact .own 10 rfl | exact .own 11 rfl | exact .own 12 rfl | exact .own 4 rfl | exact rd_al2 3 hF rfl (by rw [alT_len]; exact hg0.2.1) (by rw [alT_len]; omega) hal hall | exact .arg (hNi _ (by omega))) (by decide) (by omega)) trivial rfl ?_ | refine AK.val _ (Yl.idx sl23 rfl rfl (by first | exact .arg ‹_› | exact .own 0 rfl | exact .own 1 rfl | exact .own 2 rfl | exact .own 3 rfl | exact .own 4 rfl | exact .own 5 rfl | exact .own 6 rfl | exact .own 7 rfl | exact .own 8 rfl | assumption | exact .own 9 rfl | exact .own 10 rfl | exact .own 11 rfl | exact .own 12 rfl | exact .own 4 rfl | exact rd_al2 3 hF rfl (by rw [alT_len]; exact hg0.2.1) (by rw [alT_len]; omega) hal hall | exact .arg (hNi _ (by omega))) (by decide) (by omega)) trivial rfl ?_ | refine AK.val _ (Yl.idxK sl23 rfl rfl (by first | exact .arg ‹_› | exact .own 0 rfl | exact .own 1 rfl | exact .own 2 rfl | exact .own 3 rfl | exact .own 4 rfl | exact .own 5 rfl | exact .own 6 rfl | exact .own 7 rfl | exact .own 8 rfl | assumption | exact .own 9 rfl | exact .own 10 rfl | exact .own 11 rfl | exact .own 12 rfl | exact .own 4 rfl | exact rd_al2 3 hF rfl (by rw [alT_len]; exact hg0.2.1) (by rw [alT_len]; omega) hal hall | exact .arg (hNi _ (by omega))) (by decide) (by omega)) trivial rfl ?_
            refine AK.val _ (Yl.loadV on38 rfl (by first | exact .arg ‹_› | exact .own 0 rfl | exact .own 1 rfl | exact .own 2 rfl | exact .own 3 rfl | exact .own 4 rfl | exact .own 5 rfl | exact .own 6 rfl | exact .own 7 rfl | exact .own 8 rfl | assumption | exact .own 9 rfl | exact .own 10 rfl | exact .own 11 rfl | exact .own 12 rfl | exact .own 4 rfl | exact rd_al2 3 hF rfl (by rw [alT_len]; exact hg0.2.1) (by rw [alT_len]; omega) hal hall | exact .arg (hNi _ (by omega))) (by omega)) trivial rfl ?_
            refine AK.val _ (Yl.lenR sl38 rfl (by first | exact .arg ‹_› | exact .own 0 rfl | exact .own 1 rfl | exact .own 2 rfl | exact .own 3 rfl | exact .own 4 rfl | exact .own 5 rfl | exact .own 6 rfl | exact .own 7 rfl | exact .own 8 rfl | assumption | exact .own 9 rfl | exact .own 10 rfl | exact .own 11 rfl | exact .own 12 rfl | exact .own 4 rfl | exact rd_al2 3 hF rfl (by rw [alT_len]; exact hg0.2.1) (by rw [alT_len]; omega) hal hall | exact .arg (hNi _ (by omega)))) trivial rfl ?_
            refine AK.val _ (Yl.move rfl) trivial rfl ?_
            refine AK.nil ?_
            refine AK.then_ (hK19 _ ?_)
            refine AK.block ?_
            refine AK.loopS (X := Nat) [1, 2, 5, 6, 7, 8, 9, 38, 39, 46, 47] (fun j => [(48, .int .i64 (j : Int))]) (fun j => [row vo 9 1 (wl d nn x.1 d.s [] (wk d nn x.1)).length ((wl d nn x.1 d.s [] (wk d nn x.1)).map sv), box bx2 25 4 [.int .i64 d.L, .int .i64 d.s, vF, vN], row x.2.2.1 22 1 (x.1 + 1) (vF :: x.2.2.2), bigA (matG Value.bool 4 x.2.2.2 (alT d x.1)), row rv 4 1 d.fin.length ((orRow ((preB d (aliveR d x.1)).take k) d.fin.length k (((d.nx.getD k []).take j).any (fun q => (aliveR d x.1).getD q.toNat false))).map Value.bool)]) (fun j => j ≤ (d.nx.getD k []).length) (fun j => (d.nx.getD k []).length - j) (0) ?_ ?_ ?_ ?_
            · exact Nat.zero_le _
            · exact .cons (rfl) (.nil)
            · exact fun w hw => by rw [orRow_zero (by omega)] at hw; exact hw
            · intro j hg2 _ hK20
              have hA := preB_tlen (d := d) (row := aliveR d x.1) (k := k) (by omega)
              have hlen : (orRow ((preB d (aliveR d x.1)).take k) d.fin.length k (((d.nx.getD k []).take j).any (fun q => (aliveR d x.1).getD q.toNat false))).length = d.fin.length := orRow_len hA (by omega)
              have hget : (orRow ((preB d (aliveR d x.1)).take k) d.fin.length k (((d.nx.getD k []).take j).any (fun q => (aliveR d x.1).getD q.toNat false))).getD k false = ((d.nx.getD k []).take j).any (fun q => (aliveR d x.1).getD q.toNat false) := orRow_get hA
              have hsn := fun h => any_snoc (fun q => (aliveR d x.1).getD q.toNat false) 0 (xs := d.nx.getD k []) (k := j) h
              have hrl2 := hvr k (by omega)
              refine AK.seq (fun _ hK21 => ?_)
              refine AK.region ?_
              refine AK.val _ (Yl.lss rfl rfl) trivial rfl ?_
              refine AK.nil ?_
              refine AK.then_ (hK21 _ ?_)
              refine AK.seq (fun _ hK22 => ?_)
              refine AK.condD rfl (fun hc2 => ?_) (fun hc2 => ?_)
              · have ht := hvt k j (by omega) (by omega)
                refine AK.skip ?_
                refine AK.then_ (hK22 _ ?_)
                refine AK.seq (fun _ hK23 => ?_)
                refine AK.block ?_
                refine AK.seq (fun _ hK24 => ?_)
                refine AK.region ?_
                first | refine AK.val _ (Yl.idxN sl38 rfl rfl (by first | exact .arg ‹_› | exact .own 0 rfl | exact .own 1 rfl | exact .own 2 rfl | exact .own 3 rfl | exact .own 4 rfl | exact .own 5 rfl | exact .own 6 rfl | exact .own 7 rfl | exact .own 8 rfl | assumption | exact .own 9 rfl | exact .own 10 rfl | exact .own 11 rfl | exact .own 12 rfl | exact .own 4 rfl | exact rd_al2 3 hF rfl (by rw [alT_len]; exact hg0.2.1) (by rw [alT_len]; omega) hal hall | exact .arg (hNi _ (by omega))) (by decide) (by omega)) trivial rfl ?_ | refine AK.val _ (Yl.idx sl38 rfl rfl (by first | exact .arg ‹_› | exact .own 0 rfl | exact .own 1 rfl | exact .own 2 rfl | exact .own 3 rfl | exact .own 4 rfl | exact .own 5 rfl | exact .own 6 rfl | exact .own 7 rfl | exact .own 8 rfl | assumption | exact .own 9 rfl | exact .own 10 rfl | exact .own 11 rfl | exact .own 12 rfl | exact .own 4 rfl | exact rd_al2 3 hF rfl (by rw [alT_len]; exact hg0.2.1) (by rw [alT_len]; omega) hal hall | exact .arg (hNi _ (by omega))) (by decide) (by omega)) trivial rfl ?_ | refine AK.val _ (Yl.idxK sl38 rfl rfl (by first | exact .arg ‹_› | exact .own 0 rfl | exact .own 1 rfl | exact .own 2 rfl | exact .own 3 rfl | exact .own 4 rfl | exact .own 5 rfl | exact .own 6 rfl | exact .own 7 rfl | exact .own 8 rfl | assumption | exact .own 9 rfl | exact .own 10 rfl | exact .own 11 rfl | exact .own 12 rfl | exact .own 4 rfl | exact rd_al2 3 hF rfl (by rw [alT_len]; exact hg0.2.1) (by rw [alT_len]; omega) hal hall | exact .arg (hNi _ (by omega))) (by decide) (by omega)) trivial rfl ?_
                refine AK.val _ (Yl.loadI on3 rfl (by first | exact .arg ‹_› | exact .own 0 rfl | exact .own 1 rfl | exact .own 2 rfl | exact .own 3 rfl | exact .own 4 rfl | exact .own 5 rfl | exact .own 6 rfl | exact .own 7 rfl | exact .own 8 rfl | assumption | exact .own 9 rfl | exact .own 10 rfl | exact .own 11 rfl | exact .own 12 rfl | exact .own 4 rfl | exact rd_al2 3 hF rfl (by rw [alT_len]; exact hg0.2.1) (by rw [alT_len]; omega) hal hall | exact .arg (hNi _ (by omega))) (by omega)) trivial rfl ?_
                refine AK.val _ (Yl.assign rfl) trivial rfl ?_
                refine AK.nil ?_
                refine AK.then_ (hK24 _ ?_)
                refine AK.region ?_
                refine AK.val _ (Yl.move rfl) trivial rfl ?_
                refine AK.val _ (Yl.move rfl) trivial rfl ?_
                refine AK.val _ (Yl.move rfl) trivial rfl ?_
                refine AK.val _ (Yl.move rfl) trivial rfl ?_
                first | refine AK.val _ (Yl.idxN sl22 rfl rfl (by first | exact .arg ‹_› | exact .own 0 rfl | exact .own 1 rfl | exact .own 2 rfl | exact .own 3 rfl | exact .own 4 rfl | exact .own 5 rfl | exact .own 6 rfl | exact .own 7 rfl | exact .own 8 rfl | assumption | exact .own 9 rfl | exact .own 10 rfl | exact .own 11 rfl | exact .own 12 rfl | exact .own 4 rfl | exact rd_al2 3 hF rfl (by rw [alT_len]; exact hg0.2.1) (by rw [alT_len]; omega) hal hall | exact .arg (hNi _ (by omega))) (by decide) (by omega)) trivial rfl ?_ | refine AK.val _ (Yl.idx sl22 rfl rfl (by first | exact .arg ‹_› | exact .own 0 rfl | exact .own 1 rfl | exact .own 2 rfl | exact .own 3 rfl | exact .own 4 rfl | exact .own 5 rfl | exact .own 6 rfl | exact .own 7 rfl | exact .own 8 rfl | assumption | exact .own 9 rfl | exact .own 10 rfl | exact .own 11 rfl | exact .own 12 rfl | exact .own 4 rfl | exact rd_al2 3 hF rfl (by rw [alT_len]; exact hg0.2.1) (by rw [alT_len]; omega) hal hall | exact .arg (hNi _ (by omega))) (by decide) (by omega)) trivial rfl ?_ | refine AK.val _ (Yl.idxK sl22 rfl rfl (by first | exact .arg ‹_› | exact .own 0 rfl | exact .own 1 rfl | exact .own 2 rfl | exact .own 3 rfl | exact .own 4 rfl | exact .own 5 rfl | exact .own 6 rfl | exact .own 7 rfl | exact .own 8 rfl | assumption | exact .own 9 rfl | exact .own 10 rfl | exact .own 11 rfl | exact .own 12 rfl | exact .own 4 rfl | exact rd_al2 3 hF rfl (by rw [alT_len]; exact hg0.2.1) (by rw [alT_len]; omega) hal hall | exact .arg (hNi _ (by omega))) (by decide) (by omega)) trivial rfl ?_
                refine AK.val _ (Yl.loadB on4 rfl (by first | exact .arg ‹_› | exact .own 0 rfl | exact .own 1 rfl | exact .own 2 rfl | exact .own 3 rfl | exact .own 4 rfl | exact .own 5 rfl | exact .own 6 rfl | exact .own 7 rfl | exact .own 8 rfl | assumption | exact .own 9 rfl | exact .own 10 rfl | exact .own 11 rfl | exact .own 12 rfl | exact .own 4 rfl | exact rd_al2 3 hF rfl (by rw [alT_len]; exact hg0.2.1) (by rw [alT_len]; omega) hal hall | exact .arg (hNi _ (by omega))) (by omega)) trivial rfl ?_
                refine AK.val _ (Yl.move rfl) trivial rfl ?_
                refine AK.splitB (g := 58) rfl (fun hg_14_6 => ?_) (fun hg_14_6 => ?_)
                · have hg_14_6' := hg_14_6
                  try simp only [decide_eq_true_eq, decide_eq_false_iff_not, Bool.not_eq_true', Bool.not_eq_false', Bool.not_not, ne_eq, Decidable.not_not, Int.not_lt, Int.not_le, beq_iff_eq, bne_iff_ne, Bool.and_eq_true, Bool.or_eq_true, Bool.or_eq_false_iff, Bool.not_false, Bool.not_true, reduceCtorEq, not_true_eq_false, not_false_eq_true] at hg_14_6'
                  refine AK.pass rfl rfl (hg_14_6) rfl ?_
                  refine AK.pass rfl rfl (hg_14_6) rfl ?_
                  refine AK.pass rfl rfl (hg_14_6) rfl ?_
                  refine AK.pass rfl rfl (hg_14_6) rfl ?_
                  refine AK.pass rfl rfl (hg_14_6) rfl ?_
                  refine AK.pass rfl rfl (hg_14_6) rfl ?_
                  refine AK.pass rfl rfl (hg_14_6) rfl ?_
                  refine AK.val _ (Yl.pickT rfl (hg_14_6) rfl) trivial rfl ?_
                  first | refine AK.val _ (Yl.idxN sl22 rfl rfl (by first | exact .arg ‹_› | exact .own 0 rfl | exact .own 1 rfl | exact .own 2 rfl | exact .own 3 rfl | exact .own 4 rfl | exact .own 5 rfl | exact .own 6 rfl | exact .own 7 rfl | exact .own 8 rfl | assumption | exact .own 9 rfl | exact .own 10 rfl | exact .own 11 rfl | exact .own 12 rfl | exact .own 4 rfl | exact rd_al2 3 hF rfl (by rw [alT_len]; exact hg0.2.1) (by rw [alT_len]; omega) hal hall | exact .arg (hNi _ (by omega))) (by decide) (by omega)) trivial rfl ?_ | refine AK.val _ (Yl.idx sl22 rfl rfl (by first | exact .arg ‹_› | exact .own 0 rfl | exact .own 1 rfl | exact .own 2 rfl | exact .own 3 rfl | exact .own 4 rfl | exact .own 5 rfl | exact .own 6 rfl | exact .own 7 rfl | exact .own 8 rfl | assumption | exact .own 9 rfl | exact .own 10 rfl | exact .own 11 rfl | exact .own 12 rfl | exact .own 4 rfl | exact rd_al2 3 hF rfl (by rw [alT_len]; exact hg0.2.1) (by rw [alT_len]; omega) hal hall | exact .arg (hNi _ (by omega))) (by decide) (by omega)) trivial rfl ?_ | refine AK.val _ (Yl.idxK sl22 rfl rfl (by first | exact .arg ‹_› | exact .own 0 rfl | exact .own 1 rfl | exact .own 2 rfl | exact .own 3 rfl | exact .own 4 rfl | exact .own 5 rfl | exact .own 6 rfl | exact .own 7 rfl | exact .own 8 rfl | assumption | exact .own 9 rfl | exact .own 10 rfl | exact .own 11 rfl | exact .own 12 rfl | exact .own 4 rfl | exact rd_al2 3 hF rfl (by rw [alT_len]; exact hg0.2.1) (by rw [alT_len]; omega) hal hall | exact .arg (hNi _ (by omega))) (by decide) (by omega)) trivial rfl ?_
                  refine AK.store1e 4 rfl sz4 rfl rfl rfl rfl (by omega) (cs' := ((orRow ((preB d (aliveR d x.1)).take k) d.fin.length k (((d.nx.getD k []).take (j + 1)).any (fun q => (aliveR d x.1).getD q.toNat false))).map Value.bool)) (by rw [orRow_set _ hA, hsn (by omega), ← hget]; rw [hg_14_6]; rfl) trivial ?_
                  refine AK.nil ?_
                  refine AK.block_normal ?_
                  refine AK.then_ (hK23 _ ?_)
                  refine AK.region ?_
                  refine AK.val _ (Yl.add rfl rfl (by omega)) trivial rfl ?_
                  refine AK.val _ (Yl.move rfl) trivial rfl ?_
                  refine AK.nil ?_
                  refine AK.then_ (hK20 _ _ (j + 1) (by omega) (by omega) (.cons (rfl) (.cons rfl (.cons rfl (.cons rfl (.cons rfl (.cons rfl (.cons rfl (.cons rfl (.cons rfl (.cons rfl (.cons rfl (.cons rfl (.nil))))))))))))) (fun w hw => hw))
                · have hg_14_6' := hg_14_6
                  try simp only [decide_eq_true_eq, decide_eq_false_iff_not, Bool.not_eq_true', Bool.not_eq_false', Bool.not_not, ne_eq, Decidable.not_not, Int.not_lt, Int.not_le, beq_iff_eq, bne_iff_ne, Bool.and_eq_true, Bool.or_eq_true, Bool.or_eq_false_iff, Bool.not_false, Bool.not_true, reduceCtorEq, not_true_eq_false, not_false_eq_true] at hg_14_6'
                  refine AK.val _ (Yl.move rfl) ⟨_, rfl, congrArg (fun b => some (Value.bool b)) hg_14_6⟩ rfl ?_
                  refine AK.val _ (Yl.move rfl) ⟨_, rfl, congrArg (fun b => some (Value.bool b)) hg_14_6⟩ rfl ?_
                  first | refine AK.val _ (Yl.idxN sl57 rfl rfl (by first | exact .arg ‹_› | exact .own 0 rfl | exact .own 1 rfl | exact .own 2 rfl | exact .own 3 rfl | exact .own 4 rfl | exact .own 5 rfl | exact .own 6 rfl | exact .own 7 rfl | exact .own 8 rfl | assumption | exact .own 9 rfl | exact .own 10 rfl | exact .own 11 rfl | exact .own 12 rfl | exact .own 4 rfl | exact rd_al2 3 hF rfl (by rw [alT_len]; exact hg0.2.1) (by rw [alT_len]; omega) hal hall | exact .arg (hNi _ (by omega))) (by decide) (by omega)) ⟨_, rfl, congrArg (fun b => some (Value.bool b)) hg_14_6⟩ rfl ?_ | refine AK.val _ (Yl.idx sl57 rfl rfl (by first | exact .arg ‹_› | exact .own 0 rfl | exact .own 1 rfl | exact .own 2 rfl | exact .own 3 rfl | exact .own 4 rfl | exact .own 5 rfl | exact .own 6 rfl | exact .own 7 rfl | exact .own 8 rfl | assumption | exact .own 9 rfl | exact .own 10 rfl | exact .own 11 rfl | exact .own 12 rfl | exact .own 4 rfl | exact rd_al2 3 hF rfl (by rw [alT_len]; exact hg0.2.1) (by rw [alT_len]; omega) hal hall | exact .arg (hNi _ (by omega))) (by decide) (by omega)) ⟨_, rfl, congrArg (fun b => some (Value.bool b)) hg_14_6⟩ rfl ?_ | refine AK.val _ (Yl.idxK sl57 rfl rfl (by first | exact .arg ‹_› | exact .own 0 rfl | exact .own 1 rfl | exact .own 2 rfl | exact .own 3 rfl | exact .own 4 rfl | exact .own 5 rfl | exact .own 6 rfl | exact .own 7 rfl | exact .own 8 rfl | assumption | exact .own 9 rfl | exact .own 10 rfl | exact .own 11 rfl | exact .own 12 rfl | exact .own 4 rfl | exact rd_al2 3 hF rfl (by rw [alT_len]; exact hg0.2.1) (by rw [alT_len]; omega) hal hall | exact .arg (hNi _ (by omega))) (by decide) (by omega)) ⟨_, rfl, congrArg (fun b => some (Value.bool b)) hg_14_6⟩ rfl ?_
                  refine AK.val _ (Yl.loadV on22 rfl (by first | exact .arg ‹_› | exact .own 0 rfl | exact .own 1 rfl | exact .own 2 rfl | exact .own 3 rfl | exact .own 4 rfl | exact .own 5 rfl | exact .own 6 rfl | exact .own 7 rfl | exact .own 8 rfl | assumption | exact .own 9 rfl | exact .own 10 rfl | exact .own 11 rfl | exact .own 12 rfl | exact .own 4 rfl | exact rd_al2 3 hF rfl (by rw [alT_len]; exact hg0.2.1) (by rw [alT_len]; omega) hal hall | exact .arg (hNi _ (by omega))) (by simp; omega)) ⟨_, rfl, congrArg (fun b => some (Value.bool b)) hg_14_6⟩ rfl ?_
                  refine AK.val _ (Yl.move rfl) ⟨_, rfl, congrArg (fun b => some (Value.bool b)) hg_14_6⟩ rfl ?_
                  first | refine AK.val _ (Yl.idxN sl22 rfl rfl (by first | exact .arg ‹_› | exact .own 0 rfl | exact .own 1 rfl | exact .own 2 rfl | exact .own 3 rfl | exact .own 4 rfl | exact .own 5 rfl | exact .own 6 rfl | exact .own 7 rfl | exact .own 8 rfl | assumption | exact .own 9 rfl | exact .own 10 rfl | exact .own 11 rfl | exact .own 12 rfl | exact .own 4 rfl | exact rd_al2 3 hF rfl (by rw [alT_len]; exact hg0.2.1) (by rw [alT_len]; omega) hal hall | exact .arg (hNi _ (by omega))) (by decide) (by omega)) ⟨_, rfl, congrArg (fun b => some (Value.bool b)) hg_14_6⟩ rfl ?_ | refine AK.val _ (Yl.idx sl22 rfl rfl (by first | exact .arg ‹_› | exact .own 0 rfl | exact .own 1 rfl | exact .own 2 rfl | exact .own 3 rfl | exact .own 4 rfl | exact .own 5 rfl | exact .own 6 rfl | exact .own 7 rfl | exact .own 8 rfl | assumption | exact .own 9 rfl | exact .own 10 rfl | exact .own 11 rfl | exact .own 12 rfl | exact .own 4 rfl | exact rd_al2 3 hF rfl (by rw [alT_len]; exact hg0.2.1) (by rw [alT_len]; omega) hal hall | exact .arg (hNi _ (by omega))) (by decide) (by omega)) ⟨_, rfl, congrArg (fun b => some (Value.bool b)) hg_14_6⟩ rfl ?_ | refine AK.val _ (Yl.idxK sl22 rfl rfl (by first | exact .arg ‹_› | exact .own 0 rfl | exact .own 1 rfl | exact .own 2 rfl | exact .own 3 rfl | exact .own 4 rfl | exact .own 5 rfl | exact .own 6 rfl | exact .own 7 rfl | exact .own 8 rfl | assumption | exact .own 9 rfl | exact .own 10 rfl | exact .own 11 rfl | exact .own 12 rfl | exact .own 4 rfl | exact rd_al2 3 hF rfl (by rw [alT_len]; exact hg0.2.1) (by rw [alT_len]; omega) hal hall | exact .arg (hNi _ (by omega))) (by decide) (by omega)) ⟨_, rfl, congrArg (fun b => some (Value.bool b)) hg_14_6⟩ rfl ?_
                  refine AK.val _ (Yl.loadB on4 rfl (by first | exact .arg ‹_› | exact .own 0 rfl | exact .own 1 rfl | exact .own 2 rfl | exact .own 3 rfl | exact .own 4 rfl | exact .own 5 rfl | exact .own 6 rfl | exact .own 7 rfl | exact .own 8 rfl | assumption | exact .own 9 rfl | exact .own 10 rfl | exact .own 11 rfl | exact .own 12 rfl | exact .own 4 rfl | exact rd_al2 3 hF rfl (by rw [alT_len]; exact hg0.2.1) (by rw [alT_len]; omega) hal hall | exact .arg (hNi _ (by omega))) (by rw [hall]; omega)) ⟨_, rfl, congrArg (fun b => some (Value.bool b)) hg_14_6⟩ rfl ?_
                  refine AK.val _ (Yl.pickF rfl (hg_14_6) rfl) trivial rfl ?_
                  first | refine AK.val _ (Yl.idxN sl22 rfl rfl (by first | exact .arg ‹_› | exact .own 0 rfl | exact .own 1 rfl | exact .own 2 rfl | exact .own 3 rfl | exact .own 4 rfl | exact .own 5 rfl | exact .own 6 rfl | exact .own 7 rfl | exact .own 8 rfl | assumption | exact .own 9 rfl | exact .own 10 rfl | exact .own 11 rfl | exact .own 12 rfl | exact .own 4 rfl | exact rd_al2 3 hF rfl (by rw [alT_len]; exact hg0.2.1) (by rw [alT_len]; omega) hal hall | exact .arg (hNi _ (by omega))) (by decide) (by omega)) trivial rfl ?_ | refine AK.val _ (Yl.idx sl22 rfl rfl (by first | exact .arg ‹_› | exact .own 0 rfl | exact .own 1 rfl | exact .own 2 rfl | exact .own 3 rfl | exact .own 4 rfl | exact .own 5 rfl | exact .own 6 rfl | exact .own 7 rfl | exact .own 8 rfl | assumption | exact .own 9 rfl | exact .own 10 rfl | exact .own 11 rfl | exact .own 12 rfl | exact .own 4 rfl | exact rd_al2 3 hF rfl (by rw [alT_len]; exact hg0.2.1) (by rw [alT_len]; omega) hal hall | exact .arg (hNi _ (by omega))) (by decide) (by omega)) trivial rfl ?_ | refine AK.val _ (Yl.idxK sl22 rfl rfl (by first | exact .arg ‹_› | exact .own 0 rfl | exact .own 1 rfl | exact .own 2 rfl | exact .own 3 rfl | exact .own 4 rfl | exact .own 5 rfl | exact .own 6 rfl | exact .own 7 rfl | exact .own 8 rfl | assumption | exact .own 9 rfl | exact .own 10 rfl | exact .own 11 rfl | exact .own 12 rfl | exact .own 4 rfl | exact rd_al2 3 hF rfl (by rw [alT_len]; exact hg0.2.1) (by rw [alT_len]; omega) hal hall | exact .arg (hNi _ (by omega))) (by decide) (by omega)) trivial rfl ?_
                  refine AK.store1e 4 rfl sz4 rfl rfl rfl rfl (by omega) (cs' := ((orRow ((preB d (aliveR d x.1)).take k) d.fin.length k (((d.nx.getD k []).take (j + 1)).any (fun q => (aliveR d x.1).getD q.toNat false))).map Value.bool)) (by rw [orRow_set _ hA, hsn (by omega), ← hget]; rw [hg_14_6]; rfl) trivial ?_
                  refine AK.nil ?_
                  refine AK.block_normal ?_
                  refine AK.then_ (hK23 _ ?_)
                  refine AK.region ?_
                  refine AK.val _ (Yl.add rfl rfl (by omega)) trivial rfl ?_
                  refine AK.val _ (Yl.move rfl) trivial rfl ?_
                  refine AK.nil ?_
                  refine AK.then_ (hK20 _ _ (j + 1) (by omega) (by omega) (.cons (rfl) (.cons rfl (.cons rfl (.cons rfl (.cons rfl (.cons rfl (.cons rfl (.cons rfl (.cons rfl (.cons rfl (.cons rfl (.cons rfl (.nil))))))))))))) (fun w hw => hw))
              · refine AK.exit ?_
                refine AK.then_exit ?_
                refine AK.then_exit ?_
                refine AK.block_exit ?_
                refine AK.block_normal ?_
                refine AK.then_ (hK17 _ ?_)
                refine AK.region ?_
                refine AK.val _ (Yl.add rfl rfl (by omega)) trivial rfl ?_
                refine AK.val _ (Yl.move rfl) trivial rfl ?_
                refine AK.nil ?_
                refine AK.then_ (hK14 _ _ (k + 1) (by omega) (by omega) (.cons (rfl) (.cons rfl (.cons rfl (.cons rfl (.cons rfl (.cons rfl (.cons rfl (.cons rfl (.nil))))))))) (fun w hw => by have e : (orRow ((preB d (aliveR d x.1)).take k) d.fin.length k (((d.nx.getD k []).take j).any (fun q => (aliveR d x.1).getD q.toNat false))) = ((preB d (aliveR d x.1)).take (k + 1) ++ List.replicate (d.fin.length - (k + 1)) false) := (by rw [preB_take (by omega), orRow_end, show j = (d.nx.getD k []).length by omega, List.take_length]); rw [e] at hw; exact hw))
          · refine AK.shape 4 rfl (fun hsr => ?_)
            refine AK.exit ?_
            refine AK.then_exit ?_
            refine AK.then_exit ?_
            refine AK.block_exit ?_
            refine AK.then_ (hK12 _ ?_)
            refine AK.region ?_
            refine AK.val _ (Yl.move rfl) trivial rfl ?_
            refine AK.val _ (Yl.move rfl) trivial rfl ?_
            refine AK.append1 2 rfl sl57 el22 rfl (by decide) rfl (by intro k hk; cases hk; rfl) (by rw [hsr.cells]; rfl) (by rw [hsr.cells]; exact one'_cons hsr.one one'_nil) (by omega) (by omega) (by decide) rfl rfl (fun va _ hsa => ?_)
            refine AK.val _ (Yl.assign rfl) trivial rfl ?_
            refine AK.nil ?_
            refine AK.block_normal ?_
            refine AK.then_ (hK9 _ ?_)
            refine AK.region ?_
            refine AK.val _ (Yl.move rfl) trivial rfl ?_
            refine AK.val _ (Yl.add rfl rfl (by omega)) trivial rfl ?_
            refine AK.val _ (Yl.assign rfl) trivial rfl ?_
            refine AK.nil ?_
            refine AK.then_ (hK6 _ _ ((x.1 + 1, vo, va, x.2.2.2 ++ [rv])) ⟨by dsimp only; omega, by simp [hg0.2.1], so, hsa⟩ (by dsimp only; omega) (.cons (rfl) (.cons (rfl) (.cons (rfl) (.cons rfl (.cons rfl (.nil)))))) (fun w hw => by
    dsimp only
    have e1 : ((preB d (aliveR d x.1)).take k ++ List.replicate (d.fin.length - k) false) = aliveR d (x.1 + 1) := (by rw [show k = d.nx.length by omega, hnx, Nat.sub_self, List.replicate_zero, List.append_nil]; exact List.take_of_length_le (by simp [preB, hnx]))
    have e2 : matG Value.bool 4 (x.2.2.2 ++ [rv]) (alT d (x.1 + 1)) = matG Value.bool 4 x.2.2.2 (alT d x.1) ++ [row rv 4 1 (aliveR d (x.1 + 1)).length ((aliveR d (x.1 + 1)).map Value.bool)] := (by rw [alT_succ, matG_snoc (by rw [alT_len]; exact hg0.2.1)])
    have e3 : rv.cells.toList = [rv] := (by rw [hsr.cells])
    rw [e1, e3] at hw
    rw [e2, aliveR_len hnx (x.1 + 1), wk_next (by omega)]
    exact HW.absorb (own := [_, _, _, _]) 3 rfl hw))
      · refine AK.exit ?_
        refine AK.then_exit ?_
        refine AK.then_exit ?_
        refine AK.block_exit ?_
        refine AK.then_ (hK4 _ ?_)
        refine AK.seq (fun _ hK25 => ?_)
        refine AK.region ?_
        refine AK.val _ (Yl.move rfl) trivial rfl ?_
        refine AK.val _ (Yl.assign rfl) trivial rfl ?_
        refine AK.nil ?_
        refine AK.then_ (hK25 _ ?_)
        refine AK.ret ?_
        refine AK.ret1 rfl rfl (fun w hw => ⟨_, _, ?_, rfl, Ret.of (hw.pick [0] (by decide) rfl rfl)⟩)
        have e : WordsV d (nn : Int) = (wk d nn x.1) := by
          unfold WordsV; rw [if_pos ⟨(errV_iff d).2 hv, by omega, by omega⟩]; rw [Int.toNat_natCast]; exact wk_end hg0.1 (by omega)
        rw [e]; rfl
    · have hg_4_2' := hg_4_2
      try simp only [decide_eq_true_eq, decide_eq_false_iff_not, Bool.not_eq_true', Bool.not_eq_false', Bool.not_not, ne_eq, Decidable.not_not, Int.not_lt, Int.not_le, beq_iff_eq, bne_iff_ne, Bool.and_eq_true, Bool.or_eq_true, Bool.or_eq_false_iff, Bool.not_false, Bool.not_true, reduceCtorEq, not_true_eq_false, not_false_eq_true] at hg_4_2'
      refine AK.pass rfl rfl (hg_4_2) rfl ?_
      refine AK.pass rfl rfl (hg_4_2) rfl ?_
      refine AK.pass rfl rfl (hg_4_2) rfl ?_
      refine AK.pass rfl rfl (hg_4_2) rfl ?_
      refine AK.val _ (Yl.pickF rfl (hg_4_2) rfl) trivial rfl ?_
      refine AK.nil ?_
      refine AK.then_ (hK8 _ ?_)
      refine AK.cond_f rfl (rfl) ?_
      refine AK.exit ?_
      refine AK.then_exit ?_
      refine AK.then_exit ?_
      refine AK.block_exit ?_
      refine AK.then_ (hK4 _ ?_)
      refine AK.seq (fun _ hK26 => ?_)
      refine AK.region ?_
      refine AK.val _ (Yl.move rfl) trivial rfl ?_
      refine AK.val _ (Yl.assign rfl) trivial rfl ?_
      refine AK.nil ?_
      refine AK.then_ (hK26 _ ?_)
      refine AK.ret ?_
      refine AK.ret1 rfl rfl (fun w hw => ⟨_, _, ?_, rfl, Ret.of (hw.pick [0] (by decide) rfl rfl)⟩)
      have e : WordsV d (nn : Int) = (wk d nn x.1) := by
        unfold WordsV; rw [if_pos ⟨(errV_iff d).2 hv, by omega, by omega⟩]; rw [Int.toNat_natCast]; exact wk_end hg0.1 (by omega)
      rw [e]; rfl

end Go.Proofs.Ytmfakjfkjoichaa
