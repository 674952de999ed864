import Derived.Test.YtmfakjfkjoichaaD12
set_option linter.unusedVariables false
set_option linter.unusedSimpArgs false
namespace Go.Proofs.Ytmfakjfkjoichaa
open Go.Sx Go.RowKit
set_option maxHeartbeats 2000000 in
set_option maxRecDepth 100000 in
theorem s_refproduct (w : World) (u v : Value) (a b : Dfa) (hu : RdD (fun _ => False) w u a) (hv : RdD (fun _ => False) w v b) (op : Int) (hsz : VD a → VD b → a.fin.length * b.fin.length ≤ 512) : CallS Try.prog 37 [u, v, .int .i64 op] w (fun r o => ∃ (vF vN : Value) (rs : List Value), r = .tuple #[.agg #[.int .i64 (ProdV a b op).L, .int .i64 (ProdV a b op).s, vF, vN], .int .i64 (prodE a b op)] ∧ rs.length = (ProdV a b op).nx.length ∧ IsSl vF ∧ IsSl vN ∧ o = dfaO 4 3 38 vF vN rs (ProdV a b op)) := by
  have hu0 := hu
  have hv0 := hv
  obtain ⟨aF, aN, rfl, haF, haN⟩ := hu
  obtain ⟨bF, bN, rfl, hbF, hbN⟩ := hv
  have haF0 := haF
  have hbF0 := hbF
  have haN0 := haN
  have hbN0 := hbN
  obtain ⟨ra, hra, haNr, haNi⟩ := haN
  obtain ⟨rb, hrb, hbNr, hbNi⟩ := hbN
  unfold RdL at haF hbF
  have m1 := haF.le
  have m2 := hbF.le
  refine spec_of Try.func37 rfl (Nat.le_of_ble_eq_true rfl) ?_
  refine AK.seq (fun _ hK1 => ?_)
  refine AK.region ?_
  refine AK.box_ (E := 25) (cs := [.int .i64 a.L, .int .i64 a.s, aF, aN]) rfl rfl rfl trivial rfl (fun bx3 => ?_)
  refine AK.box_ (E := 25) (cs := [.int .i64 b.L, .int .i64 b.s, bF, bN]) rfl rfl rfl trivial rfl (fun bx4 => ?_)
  refine AK.alloc el25 rfl rfl trivial rfl (fun bx6 => ?_)
  refine AK.val _ (Yl.assign rfl) trivial rfl ?_
  refine AK.nil ?_
  refine AK.then_ (hK1 _ ?_)
  refine AK.seq (fun _ hK2 => ?_)
  refine AK.seq (fun _ hK3 => ?_)
  refine AK.region ?_
  refine AK.val _ (Yl.loadBoxG ag25 rfl (by first | exact .own 0 rfl | exact .own 1 rfl | exact .own 2 rfl | exact .own 3 rfl | exact .own 4 rfl | exact .own 5 rfl | exact .own 6 rfl | exact .own 7 rfl | exact .own 8 rfl | exact .own 9 rfl | exact .own 10 rfl | exact .own 11 rfl | exact .own 12 rfl | assumption | exact BoxS.arg (by assumption)) rfl rfl) trivial rfl ?_
  refine AK.val _ (Yl.loadBoxG ag25 rfl (by first | exact .own 0 rfl | exact .own 1 rfl | exact .own 2 rfl | exact .own 3 rfl | exact .own 4 rfl | exact .own 5 rfl | exact .own 6 rfl | exact .own 7 rfl | exact .own 8 rfl | exact .own 9 rfl | exact .own 10 rfl | exact .own 11 rfl | exact .own 12 rfl | assumption | exact BoxS.arg (by assumption)) rfl rfl) trivial rfl ?_
  refine AK.call co59 rfl (fun w hw => s_refpair w _ _ a b (hu0.at hw) (hv0.at hw)) trivial rfl ?_
  rintro r o ⟨rfl, rfl⟩
  refine AK.val _ (Yl.assign rfl) trivial rfl ?_
  refine AK.nil ?_
  refine AK.then_ (hK3 _ ?_)
  refine AK.seq (fun _ hK4 => ?_)
  refine AK.region ?_
  refine AK.val _ (Yl.move rfl) trivial rfl ?_
  refine AK.val _ (Yl.neq rfl rfl) trivial rfl ?_
  refine AK.nil ?_
  refine AK.then_ (hK4 _ ?_)
  refine AK.condNe rfl (fun hc0 => ?_) (fun hc0 => ?_)
  · have hE : prodE a b op = pairE a b := (by unfold prodE; rw [if_pos hc0])
    refine AK.seq (fun _ hK5 => ?_)
    refine AK.region ?_
    refine AK.val _ (Yl.build (parts := []) (cs := #[.int .i64 0, .int .i64 0, .slice none 0 0, .slice none 0 0]) rfl (by kernel_rfl)) trivial rfl ?_
    refine AK.val _ (Yl.move rfl) trivial rfl ?_
    refine AK.storeBox 2 (us := [.int .i64 0, .int .i64 0, .slice none 0 0, .slice none 0 0]) (cs' := [.int .i64 0, .int .i64 0, .slice none 0 0, .slice none 0 0]) rfl sz25 rfl rfl rfl rfl (by repeat (first | exact one'_nil | refine one'_cons (by first | rfl | exact IsSl.one (by assumption) | exact IsSl.one nilSl) ?_)) (Nat.le_of_ble_eq_true rfl) rfl trivial ?_
    refine AK.val _ (Yl.assign rfl) trivial rfl ?_
    refine AK.nil ?_
    refine AK.then_ (hK5 _ ?_)
    refine AK.ret ?_
    refine AK.then_ret ?_
    refine AK.own' (dfaO 4 3 38 (.slice none 0 0) (.slice none 0 0) [] nilD ++ [box bx6 25 4 [.int .i64 0, .int .i64 0, .slice none 0 0, .slice none 0 0]]) (fun w hw => by have h1 := (((hw.pick [2] (by decide) rfl rfl).ghost 4 1).ghost 38 1).ghostG (f := Value.int .i64) 3; exact h1.pick [1, 2, 3, 0] (by decide) rfl rfl) ?_
    refine AK.retG [.cell 6 25, .tmp 7] rfl (.cons (.cell ag25 rfl (by first | exact .own 0 rfl | exact .own 1 rfl | exact .own 2 rfl | exact .own 3 rfl | exact .own 4 rfl | exact .own 5 rfl | exact .own 6 rfl | exact .own 7 rfl | exact .own 8 rfl | exact .own 9 rfl | exact .own 10 rfl | exact .own 11 rfl | exact .own 12 rfl | assumption | exact BoxS.arg (by assumption)) rfl rfl) (.cons (.tmp rfl) (.nil))) (fun w hw => ⟨_, _, ?_, rfl, Ret.of (hw.pick [0, 1, 2] (by decide) rfl rfl)⟩)
    rw [show ProdV a b op = nilD from if_neg (by omega)]
    rw [hE]
    exact ⟨_, _, [], rfl, rfl, nilSl, nilSl, rfl⟩
  · refine AK.skip ?_
    refine AK.then_ (hK2 _ ?_)
    refine AK.seq (fun _ hK6 => ?_)
    refine AK.seq (fun _ hK7 => ?_)
    refine AK.region ?_
    refine AK.val _ (Yl.move rfl) trivial rfl ?_
    refine AK.val _ (Yl.lss rfl rfl) trivial rfl ?_
    refine AK.val _ (Yl.move rfl) trivial rfl ?_
    refine AK.splitB (g := 28) rfl (fun hg_4_2 => ?_) (fun hg_4_2 => ?_)
    · have hg_4_2' := hg_4_2
      try simp only [decide_eq_true_eq, decide_eq_false_iff_not, Bool.not_eq_true', Bool.not_eq_false', Bool.not_not, ne_eq, Decidable.not_not, Int.not_lt, Int.not_le, beq_iff_eq, bne_iff_ne, Bool.and_eq_true, Bool.or_eq_true, Bool.or_eq_false_iff, Bool.not_false, Bool.not_true, reduceCtorEq, not_true_eq_false, not_false_eq_true] at hg_4_2'
      refine AK.pass rfl rfl (hg_4_2) rfl ?_
      refine AK.pass rfl rfl (hg_4_2) rfl ?_
      refine AK.val _ (Yl.pickT rfl (hg_4_2) rfl) trivial rfl ?_
      refine AK.nil ?_
      refine AK.then_ (hK7 _ ?_)
      refine AK.cond_t rfl (rfl) ?_
      have hE : prodE a b op = 1 := (by unfold prodE; rw [if_neg (show ¬ pairE a b ≠ 0 by omega), if_pos (by omega)])
      refine AK.seq (fun _ hK8 => ?_)
      refine AK.region ?_
      refine AK.val _ (Yl.build (parts := []) (cs := #[.int .i64 0, .int .i64 0, .slice none 0 0, .slice none 0 0]) rfl (by kernel_rfl)) trivial rfl ?_
      refine AK.storeBox 2 (us := [.int .i64 0, .int .i64 0, .slice none 0 0, .slice none 0 0]) (cs' := [.int .i64 0, .int .i64 0, .slice none 0 0, .slice none 0 0]) rfl sz25 rfl rfl rfl rfl (by repeat (first | exact one'_nil | refine one'_cons (by first | rfl | exact IsSl.one (by assumption) | exact IsSl.one nilSl) ?_)) (Nat.le_of_ble_eq_true rfl) rfl trivial ?_
      refine AK.val _ (Yl.assign rfl) trivial rfl ?_
      refine AK.nil ?_
      refine AK.then_ (hK8 _ ?_)
      refine AK.ret ?_
      refine AK.then_ret ?_
      refine AK.own' (dfaO 4 3 38 (.slice none 0 0) (.slice none 0 0) [] nilD ++ [box bx6 25 4 [.int .i64 0, .int .i64 0, .slice none 0 0, .slice none 0 0]]) (fun w hw => by have h1 := (((hw.pick [2] (by decide) rfl rfl).ghost 4 1).ghost 38 1).ghostG (f := Value.int .i64) 3; exact h1.pick [1, 2, 3, 0] (by decide) rfl rfl) ?_
      refine AK.retG [.cell 6 25, .tmp 7] rfl (.cons (.cell ag25 rfl (by first | exact .own 0 rfl | exact .own 1 rfl | exact .own 2 rfl | exact .own 3 rfl | exact .own 4 rfl | exact .own 5 rfl | exact .own 6 rfl | exact .own 7 rfl | exact .own 8 rfl | exact .own 9 rfl | exact .own 10 rfl | exact .own 11 rfl | exact .own 12 rfl | assumption | exact BoxS.arg (by assumption)) rfl rfl) (.cons (.tmp rfl) (.nil))) (fun w hw => ⟨_, _, ?_, rfl, Ret.of (hw.pick [0, 1, 2] (by decide) rfl rfl)⟩)
      rw [show ProdV a b op = nilD from if_neg (by omega)]
      rw [hE]
      exact ⟨_, _, [], rfl, rfl, nilSl, nilSl, rfl⟩
    · have hg_4_2' := hg_4_2
      try simp only [decide_eq_true_eq, decide_eq_false_iff_not, Bool.not_eq_true', Bool.not_eq_false', Bool.not_not, ne_eq, Decidable.not_not, Int.not_lt, Int.not_le, beq_iff_eq, bne_iff_ne, Bool.and_eq_true, Bool.or_eq_true, Bool.or_eq_false_iff, Bool.not_false, Bool.not_true, reduceCtorEq, not_true_eq_false, not_false_eq_true] at hg_4_2'
      refine AK.val _ (Yl.move rfl) ⟨_, rfl, congrArg (fun b => some (Value.bool b)) hg_4_2⟩ rfl ?_
      refine AK.val _ (Yl.gtr rfl rfl) ⟨_, rfl, congrArg (fun b => some (Value.bool b)) hg_4_2⟩ rfl ?_
      refine AK.val _ (Yl.pickF rfl (hg_4_2) rfl) trivial rfl ?_
      refine AK.nil ?_
      refine AK.then_ (hK7 _ ?_)
      refine AK.condD rfl (fun hc1 => ?_) (fun hc1 => ?_)
      · have hE : prodE a b op = 1 := (by unfold prodE; rw [if_neg (show ¬ pairE a b ≠ 0 by omega), if_pos (by omega)])
        refine AK.seq (fun _ hK9 => ?_)
        refine AK.region ?_
        refine AK.val _ (Yl.build (parts := []) (cs := #[.int .i64 0, .int .i64 0, .slice none 0 0, .slice none 0 0]) rfl (by kernel_rfl)) trivial rfl ?_
        refine AK.storeBox 2 (us := [.int .i64 0, .int .i64 0, .slice none 0 0, .slice none 0 0]) (cs' := [.int .i64 0, .int .i64 0, .slice none 0 0, .slice none 0 0]) rfl sz25 rfl rfl rfl rfl (by repeat (first | exact one'_nil | refine one'_cons (by first | rfl | exact IsSl.one (by assumption) | exact IsSl.one nilSl) ?_)) (Nat.le_of_ble_eq_true rfl) rfl trivial ?_
        refine AK.val _ (Yl.assign rfl) trivial rfl ?_
        refine AK.nil ?_
        refine AK.then_ (hK9 _ ?_)
        refine AK.ret ?_
        refine AK.then_ret ?_
        refine AK.own' (dfaO 4 3 38 (.slice none 0 0) (.slice none 0 0) [] nilD ++ [box bx6 25 4 [.int .i64 0, .int .i64 0, .slice none 0 0, .slice none 0 0]]) (fun w hw => by have h1 := (((hw.pick [2] (by decide) rfl rfl).ghost 4 1).ghost 38 1).ghostG (f := Value.int .i64) 3; exact h1.pick [1, 2, 3, 0] (by decide) rfl rfl) ?_
        refine AK.retG [.cell 6 25, .tmp 7] rfl (.cons (.cell ag25 rfl (by first | exact .own 0 rfl | exact .own 1 rfl | exact .own 2 rfl | exact .own 3 rfl | exact .own 4 rfl | exact .own 5 rfl | exact .own 6 rfl | exact .own 7 rfl | exact .own 8 rfl | exact .own 9 rfl | exact .own 10 rfl | exact .own 11 rfl | exact .own 12 rfl | assumption | exact BoxS.arg (by assumption)) rfl rfl) (.cons (.tmp rfl) (.nil))) (fun w hw => ⟨_, _, ?_, rfl, Ret.of (hw.pick [0, 1, 2] (by decide) rfl rfl)⟩)
        rw [show ProdV a b op = nilD from if_neg (by omega)]
        rw [hE]
        exact ⟨_, _, [], rfl, rfl, nilSl, nilSl, rfl⟩
      · have hE : prodE a b op = 0 := (by unfold prodE; rw [if_neg (show ¬ pairE a b ≠ 0 by omega), if_neg (by omega)])
        obtain ⟨ha, hb, hL, ho1, ho2⟩ := prodE_zero hE
        have ho : 0 ≤ op ∧ op ≤ 15 := ⟨ho1, ho2⟩
        have hvL := ha.L
        have hLL : ((a.L.toNat : Nat) : Int) = a.L := by omega
        have n1 := ha.nx
        have n2 := hb.nx
        have hs := start_univ2 ha hb
        have hf := step_univ2 ha hb hL
        have hU := hsz ha hb
        rw [← univ2_len] at hU
        have hok := exI_ok (z := ((0 : Int), (0 : Int))) hs hf
        have hbd := exI_bd (z := ((0 : Int), (0 : Int))) hs hf
        refine AK.skip ?_
        refine AK.then_ (hK6 _ ?_)
        refine AK.seq (fun _ hK10 => ?_)
        refine AK.region ?_
        refine AK.val _ (Yl.fieldAddr fd25_1 rfl) trivial rfl ?_
        refine AK.val _ (Yl.loadBox on3 rfl (by first | exact .own 0 rfl | exact .own 1 rfl | exact .own 2 rfl | exact .own 3 rfl | exact .own 4 rfl | exact .own 5 rfl | exact .own 6 rfl | exact .own 7 rfl | exact .own 8 rfl | exact .own 9 rfl | exact .own 10 rfl | exact .own 11 rfl | exact .own 12 rfl | assumption | exact BoxS.arg (by assumption)) rfl) trivial rfl ?_
        refine AK.val _ (Yl.fieldAddr fd25_1 rfl) trivial rfl ?_
        refine AK.val _ (Yl.loadBox on3 rfl (by first | exact .own 0 rfl | exact .own 1 rfl | exact .own 2 rfl | exact .own 3 rfl | exact .own 4 rfl | exact .own 5 rfl | exact .own 6 rfl | exact .own 7 rfl | exact .own 8 rfl | exact .own 9 rfl | exact .own 10 rfl | exact .own 11 rfl | exact .own 12 rfl | assumption | exact BoxS.arg (by assumption)) rfl) trivial rfl ?_
        refine AK.val _ (Yl.build (parts := [(0, .tmp 34), (1, .tmp 36)]) (cs := #[.int .i64 a.s, .int .i64 b.s]) rfl (by kernel_rfl)) trivial rfl ?_
        refine AK.lit (xs := [.tmp 37]) sl69 el72 rfl rfl rfl (by intro c hc; simp at hc; subst hc; rfl) (by decide) (by decide) trivial rfl (fun lp => ?_)
        refine AK.shape 3 rfl (fun slp => ?_)
        refine AK.val _ (Yl.assign rfl) trivial rfl ?_
        refine AK.nil ?_
        refine AK.then_ (hK10 _ ?_)
        refine AK.seq (fun _ hK11 => ?_)
        refine AK.region ?_
        refine AK.makeMap trivial rfl (fun mb => ?_)
        refine AK.val _ (Yl.fieldAddr fd25_1 rfl) trivial rfl ?_
        refine AK.val _ (Yl.loadBox on3 rfl (by first | exact .own 0 rfl | exact .own 1 rfl | exact .own 2 rfl | exact .own 3 rfl | exact .own 4 rfl | exact .own 5 rfl | exact .own 6 rfl | exact .own 7 rfl | exact .own 8 rfl | exact .own 9 rfl | exact .own 10 rfl | exact .own 11 rfl | exact .own 12 rfl | assumption | exact BoxS.arg (by assumption)) rfl) trivial rfl ?_
        refine AK.val _ (Yl.fieldAddr fd25_1 rfl) trivial rfl ?_
        refine AK.val _ (Yl.loadBox on3 rfl (by first | exact .own 0 rfl | exact .own 1 rfl | exact .own 2 rfl | exact .own 3 rfl | exact .own 4 rfl | exact .own 5 rfl | exact .own 6 rfl | exact .own 7 rfl | exact .own 8 rfl | exact .own 9 rfl | exact .own 10 rfl | exact .own 11 rfl | exact .own 12 rfl | assumption | exact BoxS.arg (by assumption)) rfl) trivial rfl ?_
        refine AK.val _ (Yl.build (parts := [(0, .tmp 41), (1, .tmp 43)]) (cs := #[.int .i64 a.s, .int .i64 b.s]) rfl (by kernel_rfl)) trivial rfl ?_
        refine AK.mapIns 4 (m := ([] : List ((Int × Int) × Int))) (a := (a.s, b.s)) (v := 0) rfl mp76 (keyPair ar72.1 un3 sz3) rfl rfl rfl trivial ?_
        refine AK.val _ (Yl.move rfl) trivial rfl ?_
        refine AK.val _ (Yl.assign rfl) trivial rfl ?_
        refine AK.nil ?_
        refine AK.then_ (hK11 _ ?_)
        refine AK.seq (fun _ hK12 => ?_)
        refine AK.region ?_
        refine AK.val _ (Yl.fieldAddr fd25_0 rfl) trivial rfl ?_
        refine AK.val _ (Yl.loadBox on3 rfl (by first | exact .own 0 rfl | exact .own 1 rfl | exact .own 2 rfl | exact .own 3 rfl | exact .own 4 rfl | exact .own 5 rfl | exact .own 6 rfl | exact .own 7 rfl | exact .own 8 rfl | exact .own 9 rfl | exact .own 10 rfl | exact .own 11 rfl | exact .own 12 rfl | assumption | exact BoxS.arg (by assumption)) rfl) trivial rfl ?_
        refine AK.val _ (Yl.build (parts := [(0, .tmp 47)]) (cs := #[.int .i64 a.L, .int .i64 0, .slice none 0 0, .slice none 0 0]) rfl (by kernel_rfl)) trivial rfl ?_
        refine AK.alloc el25 rfl rfl trivial rfl (fun bx11 => ?_)
        refine AK.storeBox 5 (us := [.int .i64 a.L, .int .i64 0, .slice none 0 0, .slice none 0 0]) (cs' := [.int .i64 a.L, .int .i64 0, .slice none 0 0, .slice none 0 0]) rfl sz25 rfl rfl rfl rfl (by repeat (first | exact one'_nil | refine one'_cons (by first | rfl | exact IsSl.one (by assumption) | exact IsSl.one nilSl) ?_)) (Nat.le_of_ble_eq_true rfl) rfl trivial ?_
        refine AK.nil ?_
        refine AK.then_ (hK12 _ ?_)
        refine AK.seq (fun _ hK13 => ?_)
        refine AK.seq (fun _ hK14 => ?_)
        refine AK.region ?_
        refine AK.val _ (Yl.assign rfl) trivial rfl ?_
        refine AK.nil ?_
        refine AK.then_ (hK14 _ ?_)
        refine AK.block ?_
        refine AK.loopK (X := Nat × Value × Value × Value × List Value) [(2, _), (3, _), (4, _), (6, _), (10, _), (11, _)] (fun x => [(9, x.2.1), (12, .int .i64 (x.1 : Int))]) (fun x => [box bx3 25 4 [.int .i64 a.L, .int .i64 a.s, aF, aN], box bx4 25 4 [.int .i64 b.L, .int .i64 b.s, bF, bN], box bx6 25 4 [.int .i64 0, .int .i64 0, .slice none 0 0, .slice none 0 0], row x.2.1 72 2 (exI (stepP a b) a.L.toNat (a.s, b.s) (0, 0) x.1).length (pcs (exI (stepP a b) a.L.toNat (a.s, b.s) (0, 0) x.1)), mapA mb (mkv pv (Value.int .i64) (numM (exI (stepP a b) a.L.toNat (a.s, b.s) (0, 0) x.1))), box bx11 25 4 [.int .i64 a.L, .int .i64 0, x.2.2.1, x.2.2.2.1], row x.2.2.1 4 1 x.1 ((exG (stepP a b) a.L.toNat (a.s, b.s) (0, 0) (finP a b op) x.1).map Value.bool), row x.2.2.2.1 38 1 x.1 x.2.2.2.2, bigA (matG (Value.int .i64) 3 x.2.2.2.2 (exN (stepP a b) a.L.toNat (a.s, b.s) (0, 0) x.1))]) (fun x => x.1 ≤ (exI (stepP a b) a.L.toNat (a.s, b.s) (0, 0) x.1).length ∧ x.2.2.2.2.length = x.1 ∧ IsSl x.2.1 ∧ IsSl x.2.2.1 ∧ IsSl x.2.2.2.1) (fun x => (univ2 a.fin.length b.fin.length).length - x.1) ((0, lp, .slice none 0 0, .slice none 0 0, [])) (.cons rfl (.cons rfl (.cons rfl (.cons rfl (.cons rfl (.cons rfl (.nil))))))) ?_ ?_ ?_ ?_
        · exact ⟨Nat.zero_le _, rfl, slp, nilSl, nilSl⟩
        · exact .cons (rfl) (.cons (rfl) (.nil))
        · exact fun w hw => by have h1 := ((hw.ghostG (f := Value.int .i64) 3).ghost 4 1).ghost 38 1; exact h1.pick [0, 1, 2, 3, 4, 5, 7, 8, 6] (by decide) rfl rfl
        · intro x hg0 _ hK15
          have hb0 := hbd x.1
          have hsF := hg0.2.2.2.1
          have hsN := hg0.2.2.2.2
          refine AK.seq (fun _ hK16 => ?_)
          refine AK.seq (fun _ hK17 => ?_)
          refine AK.region ?_
          refine AK.val _ (Yl.move rfl) trivial rfl ?_
          refine AK.val _ (Yl.move rfl) trivial rfl ?_
          refine AK.val _ (Yl.lenR sl69 rfl (by first | exact .arg ‹_› | exact .own 0 rfl | exact .own 1 rfl | exact .own 2 rfl | exact .own 3 rfl | exact .own 4 rfl | exact .own 5 rfl | exact .own 6 rfl | exact .own 7 rfl | exact .own 8 rfl | assumption | exact .own 9 rfl | exact .own 10 rfl | exact .own 11 rfl | exact .own 12 rfl | exact .arg haNr | exact .arg hbNr | exact .arg haF | exact .arg hbF | exact .arg (haNi _ (by omega)) | exact .arg (hbNi _ (by omega)))) trivial rfl ?_
          refine AK.val _ (Yl.lss rfl rfl) trivial rfl ?_
          refine AK.nil ?_
          refine AK.then_ (hK17 _ ?_)
          refine AK.condD rfl (fun hc2 => ?_) (fun hc2 => ?_)
          · have hlt : x.1 < (exI (stepP a b) a.L.toNat (a.s, b.s) (0, 0) x.1).length := (by omega)
            have hqU := (hok x.1).2 _ (getD_mem (d := ((0 : Int), (0 : Int))) hlt)
            have hqb := mem_univ2.1 hqU
            have hrb := fun k hk => exR_bd (z := ((0 : Int), (0 : Int))) hs hf (k := k) hlt hk
            have r1 := ha.row ((exI (stepP a b) a.L.toNat (a.s, b.s) (0, 0) x.1).getD x.1 (0, 0)).1.toNat (by omega)
            have r2 := hb.row ((exI (stepP a b) a.L.toNat (a.s, b.s) (0, 0) x.1).getD x.1 (0, 0)).2.toNat (by omega)
            refine AK.skip ?_
            refine AK.then_ (hK16 _ ?_)
            refine AK.seq (fun _ hK18 => ?_)
            refine AK.block ?_
            refine AK.seq (fun _ hK19 => ?_)
            refine AK.region ?_
            refine AK.val _ (Yl.move rfl) trivial rfl ?_
            refine AK.val _ (Yl.move rfl) trivial rfl ?_
            first | refine AK.val _ (Yl.idxN sl69 rfl rfl (by first | exact .arg ‹_› | exact .own 0 rfl | exact .own 1 rfl | exact .own 2 rfl | exact .own 3 rfl | exact .own 4 rfl | exact .own 5 rfl | exact .own 6 rfl | exact .own 7 rfl | exact .own 8 rfl | assumption | exact .own 9 rfl | exact .own 10 rfl | exact .own 11 rfl | exact .own 12 rfl | exact .arg haNr | exact .arg hbNr | exact .arg haF | exact .arg hbF | exact .arg (haNi _ (by omega)) | exact .arg (hbNi _ (by omega))) (by decide) (by omega)) trivial rfl ?_ | refine AK.val _ (Yl.idx sl69 rfl rfl (by first | exact .arg ‹_› | exact .own 0 rfl | exact .own 1 rfl | exact .own 2 rfl | exact .own 3 rfl | exact .own 4 rfl | exact .own 5 rfl | exact .own 6 rfl | exact .own 7 rfl | exact .own 8 rfl | assumption | exact .own 9 rfl | exact .own 10 rfl | exact .own 11 rfl | exact .own 12 rfl | exact .arg haNr | exact .arg hbNr | exact .arg haF | exact .arg hbF | exact .arg (haNi _ (by omega)) | exact .arg (hbNi _ (by omega))) (by decide) (by omega)) trivial rfl ?_ | refine AK.val _ (Yl.idxK sl69 rfl rfl (by first | exact .arg ‹_› | exact .own 0 rfl | exact .own 1 rfl | exact .own 2 rfl | exact .own 3 rfl | exact .own 4 rfl | exact .own 5 rfl | exact .own 6 rfl | exact .own 7 rfl | exact .own 8 rfl | assumption | exact .own 9 rfl | exact .own 10 rfl | exact .own 11 rfl | exact .own 12 rfl | exact .arg haNr | exact .arg hbNr | exact .arg haF | exact .arg hbF | exact .arg (haNi _ (by omega)) | exact .arg (hbNi _ (by omega))) (by decide) (by omega)) trivial rfl ?_
            refine AK.val _ (Yl.loadP ag72 rfl (by first | exact .arg ‹_› | exact .own 0 rfl | exact .own 1 rfl | exact .own 2 rfl | exact .own 3 rfl | exact .own 4 rfl | exact .own 5 rfl | exact .own 6 rfl | exact .own 7 rfl | exact .own 8 rfl | assumption | exact .own 9 rfl | exact .own 10 rfl | exact .own 11 rfl | exact .own 12 rfl | exact .arg haNr | exact .arg hbNr | exact .arg haF | exact .arg hbF | exact .arg (haNi _ (by omega)) | exact .arg (hbNi _ (by omega))) (by omega)) trivial rfl ?_
            refine AK.alloc el72 rfl rfl trivial rfl (fun bx13 => ?_)
            refine AK.storeBox 9 (us := [.int .i64 ((exI (stepP a b) a.L.toNat (a.s, b.s) (0, 0) x.1).getD x.1 (0, 0)).1, .int .i64 ((exI (stepP a b) a.L.toNat (a.s, b.s) (0, 0) x.1).getD x.1 (0, 0)).2]) (cs' := [.int .i64 ((exI (stepP a b) a.L.toNat (a.s, b.s) (0, 0) x.1).getD x.1 (0, 0)).1, .int .i64 ((exI (stepP a b) a.L.toNat (a.s, b.s) (0, 0) x.1).getD x.1 (0, 0)).2]) rfl sz72 rfl rfl rfl rfl (by repeat (first | exact one'_nil | refine one'_cons (by first | rfl | exact IsSl.one (by assumption) | exact IsSl.one nilSl) ?_)) (Nat.le_of_ble_eq_true rfl) rfl trivial ?_
            refine AK.nil ?_
            refine AK.then_ (hK19 _ ?_)
            refine AK.seq (fun _ hK20 => ?_)
            refine AK.region ?_
            refine AK.val _ (Yl.assign rfl) trivial rfl ?_
            refine AK.nil ?_
            refine AK.then_ (hK20 _ ?_)
            refine AK.seq (fun _ hK21 => ?_)
            refine AK.seq (fun _ hK22 => ?_)
            refine AK.region ?_
            refine AK.val _ (Yl.assign rfl) trivial rfl ?_
            refine AK.nil ?_
            refine AK.then_ (hK22 _ ?_)
            refine AK.block ?_
            refine AK.loopK (X := Nat × Value × Value) [(2, _), (3, _), (4, _), (6, _), (10, _), (11, _), (12, _), (13, _)] (fun y => [(9, y.2.1), (14, y.2.2), (15, .int .i64 (y.1 : Int))]) (fun y => [box bx3 25 4 [.int .i64 a.L, .int .i64 a.s, aF, aN], box bx4 25 4 [.int .i64 b.L, .int .i64 b.s, bF, bN], box bx6 25 4 [.int .i64 0, .int .i64 0, .slice none 0 0, .slice none 0 0], row y.2.1 72 2 (exR (stepP a b) ((exI (stepP a b) a.L.toNat (a.s, b.s) (0, 0) x.1).getD x.1 (0, 0)) (exI (stepP a b) a.L.toNat (a.s, b.s) (0, 0) x.1) y.1).length (pcs (exR (stepP a b) ((exI (stepP a b) a.L.toNat (a.s, b.s) (0, 0) x.1).getD x.1 (0, 0)) (exI (stepP a b) a.L.toNat (a.s, b.s) (0, 0) x.1) y.1)), mapA mb (mkv pv (Value.int .i64) (numM (exR (stepP a b) ((exI (stepP a b) a.L.toNat (a.s, b.s) (0, 0) x.1).getD x.1 (0, 0)) (exI (stepP a b) a.L.toNat (a.s, b.s) (0, 0) x.1) y.1))), box bx11 25 4 [.int .i64 a.L, .int .i64 0, x.2.2.1, x.2.2.2.1], row x.2.2.1 4 1 x.1 ((exG (stepP a b) a.L.toNat (a.s, b.s) (0, 0) (finP a b op) x.1).map Value.bool), row x.2.2.2.1 38 1 x.1 x.2.2.2.2, bigA (matG (Value.int .i64) 3 x.2.2.2.2 (exN (stepP a b) a.L.toNat (a.s, b.s) (0, 0) x.1)), box bx13 72 2 [.int .i64 ((exI (stepP a b) a.L.toNat (a.s, b.s) (0, 0) x.1).getD x.1 (0, 0)).1, .int .i64 ((exI (stepP a b) a.L.toNat (a.s, b.s) (0, 0) x.1).getD x.1 (0, 0)).2], row y.2.2 3 1 y.1 ((exW (stepP a b) ((exI (stepP a b) a.L.toNat (a.s, b.s) (0, 0) x.1).getD x.1 (0, 0)) (exI (stepP a b) a.L.toNat (a.s, b.s) (0, 0) x.1) y.1).map (Value.int .i64))]) (fun y => (y.1 : Int) ≤ a.L ∧ IsSl y.2.1 ∧ IsSl y.2.2) (fun y => a.L.toNat - y.1) ((0, x.2.1, .slice none 0 0)) (.cons rfl (.cons rfl (.cons rfl (.cons rfl (.cons rfl (.cons rfl (.cons rfl (.cons rfl (.nil))))))))) ?_ ?_ ?_ ?_
            · exact ⟨by dsimp only; omega, hg0.2.2.1, nilSl⟩
            · exact .cons (rfl) (.cons (rfl) (.cons (rfl) (.nil)))
            · exact fun w hw => by exact (hw.ghost 3 1)
            · intro y hg1 _ hK23
              refine AK.seq (fun _ hK24 => ?_)
              refine AK.seq (fun _ hK25 => ?_)
              refine AK.region ?_
              refine AK.val _ (Yl.move rfl) trivial rfl ?_
              refine AK.val _ (Yl.fieldAddr fd25_0 rfl) trivial rfl ?_
              refine AK.val _ (Yl.loadBox on3 rfl (by first | exact .own 0 rfl | exact .own 1 rfl | exact .own 2 rfl | exact .own 3 rfl | exact .own 4 rfl | exact .own 5 rfl | exact .own 6 rfl | exact .own 7 rfl | exact .own 8 rfl | exact .own 9 rfl | exact .own 10 rfl | exact .own 11 rfl | exact .own 12 rfl | assumption | exact BoxS.arg (by assumption)) rfl) trivial rfl ?_
              refine AK.val _ (Yl.lss rfl rfl) trivial rfl ?_
              refine AK.nil ?_
              refine AK.then_ (hK25 _ ?_)
              refine AK.condD rfl (fun hc3 => ?_) (fun hc3 => ?_)
              · have hrb1 := hrb y.1 (by omega)
                refine AK.skip ?_
                refine AK.then_ (hK24 _ ?_)
                refine AK.seq (fun _ hK26 => ?_)
                refine AK.block ?_
                refine AK.seq (fun _ hK27 => ?_)
                try (conv => enter [2, 2]; dsimp only [List.set_cons_zero, List.set_cons_succ, List.cons_append, List.nil_append])
                refine AK.held 20 mixed ?_
                refine HeldK.first 0 (fuel := 20) (listed' := #[true, false, false, false, false, false, false, false, false, false, false, false, false, false, false, false, false, false, false, false, false]) _ rfl (by kernel_rfl) rfl rfl (Yl.fieldAddr fd25_3 rfl) trivial rfl ?_
                refine HeldK.first 1 (fuel := 19) (listed' := #[true, true, false, false, false, false, false, false, false, false, false, false, false, false, false, false, false, false, false, false, false]) _ rfl (by kernel_rfl) rfl rfl (Yl.loadBox on23 rfl (by first | exact .own 0 rfl | exact .own 1 rfl | exact .own 2 rfl | exact .own 3 rfl | exact .own 4 rfl | exact .own 5 rfl | exact .own 6 rfl | exact .own 7 rfl | exact .own 8 rfl | exact .own 9 rfl | exact .own 10 rfl | exact .own 11 rfl | exact .own 12 rfl | assumption | exact BoxS.arg (by assumption)) rfl) trivial rfl ?_
                refine HeldK.first 2 (fuel := 18) (listed' := #[true, true, true, false, false, false, false, false, false, false, false, false, false, false, false, false, false, false, false, false, false]) _ rfl (by kernel_rfl) rfl rfl (Yl.idxArr 0 ar72 rfl rfl (by decide)) trivial rfl ?_
                refine HeldK.first 3 (fuel := 17) (listed' := #[true, true, true, true, false, false, false, false, false, false, false, false, false, false, false, false, false, false, false, false, false]) _ rfl (by kernel_rfl) rfl rfl (Yl.loadBox on3 rfl (by first | exact .own 0 rfl | exact .own 1 rfl | exact .own 2 rfl | exact .own 3 rfl | exact .own 4 rfl | exact .own 5 rfl | exact .own 6 rfl | exact .own 7 rfl | exact .own 8 rfl | exact .own 9 rfl | exact .own 10 rfl | exact .own 11 rfl | exact .own 12 rfl | assumption | exact BoxS.arg (by assumption)) rfl) trivial rfl ?_
                first | refine HeldK.first 4 (fuel := 16) (listed' := #[true, true, true, true, true, false, false, false, false, false, false, false, false, false, false, false, false, false, false, false, false]) _ rfl (by kernel_rfl) rfl rfl (Yl.idxN sl23 rfl rfl (by first | exact .arg ‹_› | exact .own 0 rfl | exact .own 1 rfl | exact .own 2 rfl | exact .own 3 rfl | exact .own 4 rfl | exact .own 5 rfl | exact .own 6 rfl | exact .own 7 rfl | exact .own 8 rfl | assumption | exact .own 9 rfl | exact .own 10 rfl | exact .own 11 rfl | exact .own 12 rfl | exact .arg haNr | exact .arg hbNr | exact .arg haF | exact .arg hbF | exact .arg (haNi _ (by omega)) | exact .arg (hbNi _ (by omega))) (by decide) (by omega)) trivial rfl ?_ | refine HeldK.first 4 (fuel := 16) (listed' := #[true, true, true, true, true, false, false, false, false, false, false, false, false, false, false, false, false, false, false, false, false]) _ rfl (by kernel_rfl) rfl rfl (Yl.idx sl23 rfl rfl (by first | exact .arg ‹_› | exact .own 0 rfl | exact .own 1 rfl | exact .own 2 rfl | exact .own 3 rfl | exact .own 4 rfl | exact .own 5 rfl | exact .own 6 rfl | exact .own 7 rfl | exact .own 8 rfl | assumption | exact .own 9 rfl | exact .own 10 rfl | exact .own 11 rfl | exact .own 12 rfl | exact .arg haNr | exact .arg hbNr | exact .arg haF | exact .arg hbF | exact .arg (haNi _ (by omega)) | exact .arg (hbNi _ (by omega))) (by decide) (by omega)) trivial rfl ?_ | refine HeldK.first 4 (fuel := 16) (listed' := #[true, true, true, true, true, false, false, false, false, false, false, false, false, false, false, false, false, false, false, false, false]) _ rfl (by kernel_rfl) rfl rfl (Yl.idxK sl23 rfl rfl (by first | exact .arg ‹_› | exact .own 0 rfl | exact .own 1 rfl | exact .own 2 rfl | exact .own 3 rfl | exact .own 4 rfl | exact .own 5 rfl | exact .own 6 rfl | exact .own 7 rfl | exact .own 8 rfl | assumption | exact .own 9 rfl | exact .own 10 rfl | exact .own 11 rfl | exact .own 12 rfl | exact .arg haNr | exact .arg hbNr | exact .arg haF | exact .arg hbF | exact .arg (haNi _ (by omega)) | exact .arg (hbNi _ (by omega))) (by decide) (by omega)) trivial rfl ?_
                refine HeldK.first 5 (fuel := 15) (listed' := #[true, true, true, true, true, true, false, false, false, false, false, false, false, false, false, false, false, false, false, false, false]) _ rfl (by kernel_rfl) rfl rfl (Yl.loadV on38 rfl (by first | exact .arg ‹_› | exact .own 0 rfl | exact .own 1 rfl | exact .own 2 rfl | exact .own 3 rfl | exact .own 4 rfl | exact .own 5 rfl | exact .own 6 rfl | exact .own 7 rfl | exact .own 8 rfl | assumption | exact .own 9 rfl | exact .own 10 rfl | exact .own 11 rfl | exact .own 12 rfl | exact .arg haNr | exact .arg hbNr | exact .arg haF | exact .arg hbF | exact .arg (haNi _ (by omega)) | exact .arg (hbNi _ (by omega))) (by omega)) trivial rfl ?_
                refine HeldK.first 6 (fuel := 14) (listed' := #[true, true, true, true, true, true, true, false, false, false, false, false, false, false, false, false, false, false, false, false, false]) _ rfl (by kernel_rfl) rfl rfl (Yl.move rfl) trivial rfl ?_
                first | refine HeldK.first 7 (fuel := 13) (listed' := #[true, true, true, true, true, true, true, true, false, false, false, false, false, false, false, false, false, false, false, false, false]) _ rfl (by kernel_rfl) rfl rfl (Yl.idxN sl38 rfl rfl (by first | exact .arg ‹_› | exact .own 0 rfl | exact .own 1 rfl | exact .own 2 rfl | exact .own 3 rfl | exact .own 4 rfl | exact .own 5 rfl | exact .own 6 rfl | exact .own 7 rfl | exact .own 8 rfl | assumption | exact .own 9 rfl | exact .own 10 rfl | exact .own 11 rfl | exact .own 12 rfl | exact .arg haNr | exact .arg hbNr | exact .arg haF | exact .arg hbF | exact .arg (haNi _ (by omega)) | exact .arg (hbNi _ (by omega))) (by decide) (by omega)) trivial rfl ?_ | refine HeldK.first 7 (fuel := 13) (listed' := #[true, true, true, true, true, true, true, true, false, false, false, false, false, false, false, false, false, false, false, false, false]) _ rfl (by kernel_rfl) rfl rfl (Yl.idx sl38 rfl rfl (by first | exact .arg ‹_› | exact .own 0 rfl | exact .own 1 rfl | exact .own 2 rfl | exact .own 3 rfl | exact .own 4 rfl | exact .own 5 rfl | exact .own 6 rfl | exact .own 7 rfl | exact .own 8 rfl | assumption | exact .own 9 rfl | exact .own 10 rfl | exact .own 11 rfl | exact .own 12 rfl | exact .arg haNr | exact .arg hbNr | exact .arg haF | exact .arg hbF | exact .arg (haNi _ (by omega)) | exact .arg (hbNi _ (by omega))) (by decide) (by omega)) trivial rfl ?_ | refine HeldK.first 7 (fuel := 13) (listed' := #[true, true, true, true, true, true, true, true, false, false, false, false, false, false, false, false, false, false, false, false, false]) _ rfl (by kernel_rfl) rfl rfl (Yl.idxK sl38 rfl rfl (by first | exact .arg ‹_› | exact .own 0 rfl | exact .own 1 rfl | exact .own 2 rfl | exact .own 3 rfl | exact .own 4 rfl | exact .own 5 rfl | exact .own 6 rfl | exact .own 7 rfl | exact .own 8 rfl | assumption | exact .own 9 rfl | exact .own 10 rfl | exact .own 11 rfl | exact .own 12 rfl | exact .arg haNr | exact .arg hbNr | exact .arg haF | exact .arg hbF | exact .arg (haNi _ (by omega)) | exact .arg (hbNi _ (by omega))) (by decide) (by omega)) trivial rfl ?_
                refine HeldK.first 8 (fuel := 12) (listed' := #[true, true, true, true, true, true, true, true, true, false, false, false, false, false, false, false, false, false, false, false, false]) _ rfl (by kernel_rfl) rfl rfl (Yl.loadI on3 rfl (by first | exact .arg ‹_› | exact .own 0 rfl | exact .own 1 rfl | exact .own 2 rfl | exact .own 3 rfl | exact .own 4 rfl | exact .own 5 rfl | exact .own 6 rfl | exact .own 7 rfl | exact .own 8 rfl | assumption | exact .own 9 rfl | exact .own 10 rfl | exact .own 11 rfl | exact .own 12 rfl | exact .arg haNr | exact .arg hbNr | exact .arg haF | exact .arg hbF | exact .arg (haNi _ (by omega)) | exact .arg (hbNi _ (by omega))) (by omega)) trivial rfl ?_
                refine HeldK.first 9 (fuel := 11) (listed' := #[true, true, true, true, true, true, true, true, true, true, false, false, false, false, false, false, false, false, false, false, false]) _ rfl (by kernel_rfl) rfl rfl (Yl.fieldAddr fd25_3 rfl) trivial rfl ?_
                refine HeldK.first 10 (fuel := 10) (listed' := #[true, true, true, true, true, true, true, true, true, true, true, false, false, false, false, false, false, false, false, false, false]) _ rfl (by kernel_rfl) rfl rfl (Yl.loadBox on23 rfl (by first | exact .own 0 rfl | exact .own 1 rfl | exact .own 2 rfl | exact .own 3 rfl | exact .own 4 rfl | exact .own 5 rfl | exact .own 6 rfl | exact .own 7 rfl | exact .own 8 rfl | exact .own 9 rfl | exact .own 10 rfl | exact .own 11 rfl | exact .own 12 rfl | assumption | exact BoxS.arg (by assumption)) rfl) trivial rfl ?_
                refine HeldK.first 11 (fuel := 9) (listed' := #[true, true, true, true, true, true, true, true, true, true, true, true, false, false, false, false, false, false, false, false, false]) _ rfl (by kernel_rfl) rfl rfl (Yl.idxArr 1 ar72 rfl rfl (by decide)) trivial rfl ?_
                refine HeldK.first 12 (fuel := 8) (listed' := #[true, true, true, true, true, true, true, true, true, true, true, true, true, false, false, false, false, false, false, false, false]) _ rfl (by kernel_rfl) rfl rfl (Yl.loadBox on3 rfl (by first | exact .own 0 rfl | exact .own 1 rfl | exact .own 2 rfl | exact .own 3 rfl | exact .own 4 rfl | exact .own 5 rfl | exact .own 6 rfl | exact .own 7 rfl | exact .own 8 rfl | exact .own 9 rfl | exact .own 10 rfl | exact .own 11 rfl | exact .own 12 rfl | assumption | exact BoxS.arg (by assumption)) rfl) trivial rfl ?_
                first | refine HeldK.first 13 (fuel := 7) (listed' := #[true, true, true, true, true, true, true, true, true, true, true, true, true, true, false, false, false, false, false, false, false]) _ rfl (by kernel_rfl) rfl rfl (Yl.idxN sl23 rfl rfl (by first | exact .arg ‹_› | exact .own 0 rfl | exact .own 1 rfl | exact .own 2 rfl | exact .own 3 rfl | exact .own 4 rfl | exact .own 5 rfl | exact .own 6 rfl | exact .own 7 rfl | exact .own 8 rfl | assumption | exact .own 9 rfl | exact .own 10 rfl | exact .own 11 rfl | exact .own 12 rfl | exact .arg haNr | exact .arg hbNr | exact .arg haF | exact .arg hbF | exact .arg (haNi _ (by omega)) | exact .arg (hbNi _ (by omega))) (by decide) (by omega)) trivial rfl ?_ | refine HeldK.first 13 (fuel := 7) (listed' := #[true, true, true, true, true, true, true, true, true, true, true, true, true, true, false, false, false, false, false, false, false]) _ rfl (by kernel_rfl) rfl rfl (Yl.idx sl23 rfl rfl (by first | exact .arg ‹_› | exact .own 0 rfl | exact .own 1 rfl | exact .own 2 rfl | exact .own 3 rfl | exact .own 4 rfl | exact .own 5 rfl | exact .own 6 rfl | exact .own 7 rfl | exact .own 8 rfl | assumption | exact .own 9 rfl | exact .own 10 rfl | exact .own 11 rfl | exact .own 12 rfl | exact .arg haNr | exact .arg hbNr | exact .arg haF | exact .arg hbF | exact .arg (haNi _ (by omega)) | exact .arg (hbNi _ (by omega))) (by decide) (by omega)) trivial rfl ?_ | refine HeldK.first 13 (fuel := 7) (listed' := #[true, true, true, true, true, true, true, true, true, true, true, true, true, true, false, false, false, false, false, false, false]) _ rfl (by kernel_rfl) rfl rfl (Yl.idxK sl23 rfl rfl (by first | exact .arg ‹_› | exact .own 0 rfl | exact .own 1 rfl | exact .own 2 rfl | exact .own 3 rfl | exact .own 4 rfl | exact .own 5 rfl | exact .own 6 rfl | exact .own 7 rfl | exact .own 8 rfl | assumption | exact .own 9 rfl | exact .own 10 rfl | exact .own 11 rfl | exact .own 12 rfl | exact .arg haNr | exact .arg hbNr | exact .arg haF | exact .arg hbF | exact .arg (haNi _ (by omega)) | exact .arg (hbNi _ (by omega))) (by decide) (by omega)) trivial rfl ?_
                refine HeldK.first 14 (fuel := 6) (listed' := #[true, true, true, true, true, true, true, true, true, true, true, true, true, true, true, false, false, false, false, false, false]) _ rfl (by kernel_rfl) rfl rfl (Yl.loadV on38 rfl (by first | exact .arg ‹_› | exact .own 0 rfl | exact .own 1 rfl | exact .own 2 rfl | exact .own 3 rfl | exact .own 4 rfl | exact .own 5 rfl | exact .own 6 rfl | exact .own 7 rfl | exact .own 8 rfl | assumption | exact .own 9 rfl | exact .own 10 rfl | exact .own 11 rfl | exact .own 12 rfl | exact .arg haNr | exact .arg hbNr | exact .arg haF | exact .arg hbF | exact .arg (haNi _ (by omega)) | exact .arg (hbNi _ (by omega))) (by omega)) trivial rfl ?_
                refine HeldK.first 15 (fuel := 5) (listed' := #[true, true, true, true, true, true, true, true, true, true, true, true, true, true, true, true, false, false, false, false, false]) _ rfl (by kernel_rfl) rfl rfl (Yl.move rfl) trivial rfl ?_
                first | refine HeldK.first 16 (fuel := 4) (listed' := #[true, true, true, true, true, true, true, true, true, true, true, true, true, true, true, true, true, false, false, false, false]) _ rfl (by kernel_rfl) rfl rfl (Yl.idxN sl38 rfl rfl (by first | exact .arg ‹_› | exact .own 0 rfl | exact .own 1 rfl | exact .own 2 rfl | exact .own 3 rfl | exact .own 4 rfl | exact .own 5 rfl | exact .own 6 rfl | exact .own 7 rfl | exact .own 8 rfl | assumption | exact .own 9 rfl | exact .own 10 rfl | exact .own 11 rfl | exact .own 12 rfl | exact .arg haNr | exact .arg hbNr | exact .arg haF | exact .arg hbF | exact .arg (haNi _ (by omega)) | exact .arg (hbNi _ (by omega))) (by decide) (by omega)) trivial rfl ?_ | refine HeldK.first 16 (fuel := 4) (listed' := #[true, true, true, true, true, true, true, true, true, true, true, true, true, true, true, true, true, false, false, false, false]) _ rfl (by kernel_rfl) rfl rfl (Yl.idx sl38 rfl rfl (by first | exact .arg ‹_› | exact .own 0 rfl | exact .own 1 rfl | exact .own 2 rfl | exact .own 3 rfl | exact .own 4 rfl | exact .own 5 rfl | exact .own 6 rfl | exact .own 7 rfl | exact .own 8 rfl | assumption | exact .own 9 rfl | exact .own 10 rfl | exact .own 11 rfl | exact .own 12 rfl | exact .arg haNr | exact .arg hbNr | exact .arg haF | exact .arg hbF | exact .arg (haNi _ (by omega)) | exact .arg (hbNi _ (by omega))) (by decide) (by omega)) trivial rfl ?_ | refine HeldK.first 16 (fuel := 4) (listed' := #[true, true, true, true, true, true, true, true, true, true, true, true, true, true, true, true, true, false, false, false, false]) _ rfl (by kernel_rfl) rfl rfl (Yl.idxK sl38 rfl rfl (by first | exact .arg ‹_› | exact .own 0 rfl | exact .own 1 rfl | exact .own 2 rfl | exact .own 3 rfl | exact .own 4 rfl | exact .own 5 rfl | exact .own 6 rfl | exact .own 7 rfl | exact .own 8 rfl | assumption | exact .own 9 rfl | exact .own 10 rfl | exact .own 11 rfl | exact .own 12 rfl | exact .arg haNr | exact .arg hbNr | exact .arg haF | exact .arg hbF | exact .arg (haNi _ (by omega)) | exact .arg (hbNi _ (by omega))) (by decide) (by omega)) trivial rfl ?_
                refine HeldK.first 17 (fuel := 3) (listed' := #[true, true, true, true, true, true, true, true, true, true, true, true, true, true, true, true, true, true, false, false, false]) _ rfl (by kernel_rfl) rfl rfl (Yl.loadI on3 rfl (by first | exact .arg ‹_› | exact .own 0 rfl | exact .own 1 rfl | exact .own 2 rfl | exact .own 3 rfl | exact .own 4 rfl | exact .own 5 rfl | exact .own 6 rfl | exact .own 7 rfl | exact .own 8 rfl | assumption | exact .own 9 rfl | exact .own 10 rfl | exact .own 11 rfl | exact .own 12 rfl | exact .arg haNr | exact .arg hbNr | exact .arg haF | exact .arg hbF | exact .arg (haNi _ (by omega)) | exact .arg (hbNi _ (by omega))) (by omega)) trivial rfl ?_
                refine HeldK.first 18 (fuel := 2) (listed' := #[true, true, true, true, true, true, true, true, true, true, true, true, true, true, true, true, true, true, true, false, false]) _ rfl (by kernel_rfl) rfl rfl (Yl.build (parts := [(0, .tmp 73), (1, .tmp 82)]) (cs := #[.int .i64 (stepP a b ((exI (stepP a b) a.L.toNat (a.s, b.s) (0, 0) x.1).getD x.1 (0, 0)) y.1).1, .int .i64 (stepP a b ((exI (stepP a b) a.L.toNat (a.s, b.s) (0, 0) x.1).getD x.1 (0, 0)) y.1).2]) rfl (by kernel_rfl)) trivial rfl ?_
                refine HeldK.one 19 (fuel := 1) (listed' := #[true, true, true, true, true, true, true, true, true, true, true, true, true, true, true, true, true, true, true, true, false]) (by kernel_rfl) rfl rfl ?_
                refine AK.alloc el72 rfl rfl trivial rfl (fun bx16 => ?_)
                refine AK.nil ?_
                try (conv => enter [2, 2]; dsimp only [List.set_cons_zero, List.set_cons_succ, List.cons_append, List.nil_append])
                refine HeldK.back (by repeat (first | exact HWle.nil | refine HWle.cons Ale.rfl ?_ | refine HWle.cons Ale.fst ?_)) ?_
                refine HeldK.one 20 (fuel := 0) (listed' := #[true, true, true, true, true, true, true, true, true, true, true, true, true, true, true, true, true, true, true, true, true]) (by kernel_rfl) rfl rfl ?_
                refine AK.storeBox 11 (us := [.int .i64 (stepP a b ((exI (stepP a b) a.L.toNat (a.s, b.s) (0, 0) x.1).getD x.1 (0, 0)) y.1).1, .int .i64 (stepP a b ((exI (stepP a b) a.L.toNat (a.s, b.s) (0, 0) x.1).getD x.1 (0, 0)) y.1).2]) (cs' := [.int .i64 (stepP a b ((exI (stepP a b) a.L.toNat (a.s, b.s) (0, 0) x.1).getD x.1 (0, 0)) y.1).1, .int .i64 (stepP a b ((exI (stepP a b) a.L.toNat (a.s, b.s) (0, 0) x.1).getD x.1 (0, 0)) y.1).2]) rfl sz72 rfl rfl rfl rfl (by repeat (first | exact one'_nil | refine one'_cons (by first | rfl | exact IsSl.one (by assumption) | exact IsSl.one nilSl) ?_)) (Nat.le_of_ble_eq_true rfl) rfl trivial ?_
                refine AK.nil ?_
                try (conv => enter [2, 2]; dsimp only [List.set_cons_zero, List.set_cons_succ, List.cons_append, List.nil_append])
                refine HeldK.backN 21 rfl rfl (by kernel_rfl) ?_
                refine AK.nil ?_
                refine AK.fromQn ?_
                refine AK.then_ (hK27 _ ?_)
                refine AK.seq (fun _ hK28 => ?_)
                refine AK.region ?_
                refine AK.val _ (Yl.move rfl) trivial rfl ?_
                refine AK.val _ (Yl.loadBoxP ag72 rfl (by first | exact .own 0 rfl | exact .own 1 rfl | exact .own 2 rfl | exact .own 3 rfl | exact .own 4 rfl | exact .own 5 rfl | exact .own 6 rfl | exact .own 7 rfl | exact .own 8 rfl | exact .own 9 rfl | exact .own 10 rfl | exact .own 11 rfl | exact .own 12 rfl | assumption | exact BoxS.arg (by assumption))) trivial rfl ?_
                refine AK.val _ (Yl.lookup2I mp76 (keyPair ar72.1 un3 sz3) el3 rfl rfl (by first | exact .own 0 rfl | exact .own 1 rfl | exact .own 2 rfl | exact .own 3 rfl | exact .own 4 rfl | exact .own 5 rfl | exact .own 6 rfl | exact .own 7 rfl | exact .own 8 rfl | exact .own 9 rfl | exact .own 10 rfl | exact .own 11 rfl | exact .own 12 rfl | assumption | exact BoxS.arg (by assumption))) trivial rfl ?_
                refine AK.val _ (Yl.move rfl) trivial rfl ?_
                refine AK.val _ (Yl.extract rfl rfl) trivial rfl ?_
                refine AK.val _ (Yl.extract rfl rfl) trivial rfl ?_
                refine AK.val _ (Yl.assign rfl) trivial rfl ?_
                refine AK.val _ (Yl.assign rfl) trivial rfl ?_
                refine AK.nil ?_
                refine AK.then_ (hK28 _ ?_)
                refine AK.seq (fun _ hK29 => ?_)
                refine AK.seq (fun _ hK30 => ?_)
                refine AK.region ?_
                refine AK.val _ (Yl.move rfl) trivial rfl ?_
                refine AK.val _ (Yl.not rfl) trivial rfl ?_
                refine AK.nil ?_
                refine AK.then_ (hK30 _ ?_)
                refine AK.condB rfl (fun hc4 => ?_) (fun hc4 => ?_)
                · have hx : (stepP a b ((exI (stepP a b) a.L.toNat (a.s, b.s) (0, 0) x.1).getD x.1 (0, 0)) y.1) ∉ (exR (stepP a b) ((exI (stepP a b) a.L.toNat (a.s, b.s) (0, 0) x.1).getD x.1 (0, 0)) (exI (stepP a b) a.L.toNat (a.s, b.s) (0, 0) x.1) y.1) := by
                    rw [mget_numM] at hc4; intro h; rw [if_pos h] at hc4; cases hc4
                  have hex : (exR (stepP a b) ((exI (stepP a b) a.L.toNat (a.s, b.s) (0, 0) x.1).getD x.1 (0, 0)) (exI (stepP a b) a.L.toNat (a.s, b.s) (0, 0) x.1) (y.1 + 1)) = (exR (stepP a b) ((exI (stepP a b) a.L.toNat (a.s, b.s) (0, 0) x.1).getD x.1 (0, 0)) (exI (stepP a b) a.L.toNat (a.s, b.s) (0, 0) x.1) y.1) ++ [(stepP a b ((exI (stepP a b) a.L.toNat (a.s, b.s) (0, 0) x.1).getD x.1 (0, 0)) y.1)] := if_neg hx
                  have hrb2 := hrb (y.1 + 1) (by omega)
                  rw [hex, List.length_append] at hrb2
                  simp only [List.length_cons, List.length_nil] at hrb2
                  have hpos : ((posN (exR (stepP a b) ((exI (stepP a b) a.L.toNat (a.s, b.s) (0, 0) x.1).getD x.1 (0, 0)) (exI (stepP a b) a.L.toNat (a.s, b.s) (0, 0) x.1) y.1) (stepP a b ((exI (stepP a b) a.L.toNat (a.s, b.s) (0, 0) x.1).getD x.1 (0, 0)) y.1) : Nat) : Int) = ((exR (stepP a b) ((exI (stepP a b) a.L.toNat (a.s, b.s) (0, 0) x.1).getD x.1 (0, 0)) (exI (stepP a b) a.L.toNat (a.s, b.s) (0, 0) x.1) y.1).length : Int) := (by rw [posN_not hx])
                  refine AK.seq (fun _ hK31 => ?_)
                  refine AK.seq (fun _ hK32 => ?_)
                  refine AK.region ?_
                  refine AK.val _ (Yl.move rfl) trivial rfl ?_
                  refine AK.val _ (Yl.lenR sl69 rfl (by first | exact .arg ‹_› | exact .own 0 rfl | exact .own 1 rfl | exact .own 2 rfl | exact .own 3 rfl | exact .own 4 rfl | exact .own 5 rfl | exact .own 6 rfl | exact .own 7 rfl | exact .own 8 rfl | assumption | exact .own 9 rfl | exact .own 10 rfl | exact .own 11 rfl | exact .own 12 rfl | exact .arg haNr | exact .arg hbNr | exact .arg haF | exact .arg hbF | exact .arg (haNi _ (by omega)) | exact .arg (hbNi _ (by omega)))) trivial rfl ?_
                  refine AK.val _ (Yl.eql rfl rfl) trivial rfl ?_
                  refine AK.nil ?_
                  refine AK.then_ (hK32 _ ?_)
                  refine AK.cond_f rfl (decide_eq_false (by omega)) ?_
                  refine AK.skip ?_
                  refine AK.then_ (hK31 _ ?_)
                  refine AK.seq (fun _ hK33 => ?_)
                  refine AK.region ?_
                  refine AK.val _ (Yl.move rfl) trivial rfl ?_
                  refine AK.val _ (Yl.lenR sl69 rfl (by first | exact .arg ‹_› | exact .own 0 rfl | exact .own 1 rfl | exact .own 2 rfl | exact .own 3 rfl | exact .own 4 rfl | exact .own 5 rfl | exact .own 6 rfl | exact .own 7 rfl | exact .own 8 rfl | assumption | exact .own 9 rfl | exact .own 10 rfl | exact .own 11 rfl | exact .own 12 rfl | exact .arg haNr | exact .arg hbNr | exact .arg haF | exact .arg hbF | exact .arg (haNi _ (by omega)) | exact .arg (hbNi _ (by omega)))) trivial rfl ?_
                  refine AK.val _ (Yl.assign rfl) trivial rfl ?_
                  refine AK.nil ?_
                  refine AK.then_ (hK33 _ ?_)
                  refine AK.seq (fun _ hK34 => ?_)
                  refine AK.region ?_
                  refine AK.val _ (Yl.move rfl) trivial rfl ?_
                  refine AK.val _ (Yl.loadBoxP ag72 rfl (by first | exact .own 0 rfl | exact .own 1 rfl | exact .own 2 rfl | exact .own 3 rfl | exact .own 4 rfl | exact .own 5 rfl | exact .own 6 rfl | exact .own 7 rfl | exact .own 8 rfl | exact .own 9 rfl | exact .own 10 rfl | exact .own 11 rfl | exact .own 12 rfl | assumption | exact BoxS.arg (by assumption))) trivial rfl ?_
                  refine AK.val _ (Yl.move rfl) trivial rfl ?_
                  refine AK.mapSet 4 (a := (stepP a b ((exI (stepP a b) a.L.toNat (a.s, b.s) (0, 0) x.1).getD x.1 (0, 0)) y.1)) rfl mp76 (keyPair ar72.1 un3 sz3) rfl rfl rfl trivial ?_
                  refine AK.nil ?_
                  refine AK.then_ (hK34 _ ?_)
                  refine AK.region ?_
                  refine AK.val _ (Yl.move rfl) trivial rfl ?_
                  refine AK.val _ (Yl.loadBoxP ag72 rfl (by first | exact .own 0 rfl | exact .own 1 rfl | exact .own 2 rfl | exact .own 3 rfl | exact .own 4 rfl | exact .own 5 rfl | exact .own 6 rfl | exact .own 7 rfl | exact .own 8 rfl | exact .own 9 rfl | exact .own 10 rfl | exact .own 11 rfl | exact .own 12 rfl | assumption | exact BoxS.arg (by assumption))) trivial rfl ?_
                  refine AK.append1 3 rfl sl69 el72 rfl (by decide) rfl (by intro k hk; cases hk; rfl) rfl (by intro c hc; simp [pv, Value.cells] at hc; rcases hc with rfl | rfl <;> rfl) (by omega) (by omega) (by decide) rfl rfl (fun va _ ha2 => ?_)
                  refine AK.val _ (Yl.assign rfl) trivial rfl ?_
                  refine AK.nil ?_
                  refine AK.then_ (hK29 _ ?_)
                  refine AK.region ?_
                  refine AK.val _ (Yl.move rfl) trivial rfl ?_
                  refine AK.val _ (Yl.move rfl) trivial rfl ?_
                  refine AK.append1 10 rfl sl38 el3 rfl (by decide) rfl (by intro k hk; cases hk; rfl) rfl (by intro u hu; simp [Value.cells] at hu; subst hu; rfl) (by omega) (by omega) (by decide) rfl rfl (fun vr2 _ hr2 => ?_)
                  refine AK.val _ (Yl.assign rfl) trivial rfl ?_
                  refine AK.nil ?_
                  refine AK.block_normal ?_
                  refine AK.then_ (hK26 _ ?_)
                  refine AK.region ?_
                  refine AK.val _ (Yl.move rfl) trivial rfl ?_
                  refine AK.val _ (Yl.add rfl rfl (by omega)) trivial rfl ?_
                  refine AK.val _ (Yl.assign rfl) trivial rfl ?_
                  refine AK.nil ?_
                  first | refine AK.then_ (hK23 _ _ ((y.1 + 1, va, vr2)) ⟨by dsimp only; omega, ha2, hr2⟩ (by dsimp only; omega) (.cons (rfl) (.cons (rfl) (.cons (rfl) (.cons rfl (.cons rfl (.cons rfl (.cons rfl (.cons rfl (.cons rfl (.cons rfl (.cons rfl (.nil)))))))))))) (fun w hw => by
    dsimp only
    rw [hex, show (exW (stepP a b) ((exI (stepP a b) a.L.toNat (a.s, b.s) (0, 0) x.1).getD x.1 (0, 0)) (exI (stepP a b) a.L.toNat (a.s, b.s) (0, 0) x.1) (y.1 + 1)) = (exW (stepP a b) ((exI (stepP a b) a.L.toNat (a.s, b.s) (0, 0) x.1).getD x.1 (0, 0)) (exI (stepP a b) a.L.toNat (a.s, b.s) (0, 0) x.1) y.1) ++ [((posN (exR (stepP a b) ((exI (stepP a b) a.L.toNat (a.s, b.s) (0, 0) x.1).getD x.1 (0, 0)) (exI (stepP a b) a.L.toNat (a.s, b.s) (0, 0) x.1) y.1) (stepP a b ((exI (stepP a b) a.L.toNat (a.s, b.s) (0, 0) x.1).getD x.1 (0, 0)) y.1) : Nat) : Int)] from rfl, hpos, ← mset_numM hx, List.map_append, pcs_append, List.length_append]
    exact hw.pick [0, 1, 2, 3, 4, 5, 6, 7, 8, 9, 10] (by decide) rfl rfl)) | refine AK.then_ (hK23 _ _ ((y.1 + 1, y.2.1, vr2)) ⟨by dsimp only; omega, hg1.2.1, hr2⟩ (by dsimp only; omega) (.cons (rfl) (.cons (rfl) (.cons (rfl) (.cons rfl (.cons rfl (.cons rfl (.cons rfl (.cons rfl (.cons rfl (.cons rfl (.cons rfl (.nil)))))))))))) (fun w hw => by
    dsimp only
    rw [hex, show (exW (stepP a b) ((exI (stepP a b) a.L.toNat (a.s, b.s) (0, 0) x.1).getD x.1 (0, 0)) (exI (stepP a b) a.L.toNat (a.s, b.s) (0, 0) x.1) (y.1 + 1)) = (exW (stepP a b) ((exI (stepP a b) a.L.toNat (a.s, b.s) (0, 0) x.1).getD x.1 (0, 0)) (exI (stepP a b) a.L.toNat (a.s, b.s) (0, 0) x.1) y.1) ++ [((posN (exR (stepP a b) ((exI (stepP a b) a.L.toNat (a.s, b.s) (0, 0) x.1).getD x.1 (0, 0)) (exI (stepP a b) a.L.toNat (a.s, b.s) (0, 0) x.1) y.1) (stepP a b ((exI (stepP a b) a.L.toNat (a.s, b.s) (0, 0) x.1).getD x.1 (0, 0)) y.1) : Nat) : Int)] from rfl, hpos, List.map_append]
    exact hw.pick [0, 1, 2, 3, 4, 5, 6, 7, 8, 9, 10] (by decide) rfl rfl))
                · have hx : (stepP a b ((exI (stepP a b) a.L.toNat (a.s, b.s) (0, 0) x.1).getD x.1 (0, 0)) y.1) ∈ (exR (stepP a b) ((exI (stepP a b) a.L.toNat (a.s, b.s) (0, 0) x.1).getD x.1 (0, 0)) (exI (stepP a b) a.L.toNat (a.s, b.s) (0, 0) x.1) y.1) := by
                    rw [mget_numM] at hc4; by_cases h : (stepP a b ((exI (stepP a b) a.L.toNat (a.s, b.s) (0, 0) x.1).getD x.1 (0, 0)) y.1) ∈ (exR (stepP a b) ((exI (stepP a b) a.L.toNat (a.s, b.s) (0, 0) x.1).getD x.1 (0, 0)) (exI (stepP a b) a.L.toNat (a.s, b.s) (0, 0) x.1) y.1)
                    · exact h
                    · rw [if_neg h] at hc4; cases hc4
                  have hex : (exR (stepP a b) ((exI (stepP a b) a.L.toNat (a.s, b.s) (0, 0) x.1).getD x.1 (0, 0)) (exI (stepP a b) a.L.toNat (a.s, b.s) (0, 0) x.1) (y.1 + 1)) = (exR (stepP a b) ((exI (stepP a b) a.L.toNat (a.s, b.s) (0, 0) x.1).getD x.1 (0, 0)) (exI (stepP a b) a.L.toNat (a.s, b.s) (0, 0) x.1) y.1) := if_pos hx
                  have hpos : ((posN (exR (stepP a b) ((exI (stepP a b) a.L.toNat (a.s, b.s) (0, 0) x.1).getD x.1 (0, 0)) (exI (stepP a b) a.L.toNat (a.s, b.s) (0, 0) x.1) y.1) (stepP a b ((exI (stepP a b) a.L.toNat (a.s, b.s) (0, 0) x.1).getD x.1 (0, 0)) y.1) : Nat) : Int) = (mget (numM (exR (stepP a b) ((exI (stepP a b) a.L.toNat (a.s, b.s) (0, 0) x.1).getD x.1 (0, 0)) (exI (stepP a b) a.L.toNat (a.s, b.s) (0, 0) x.1) y.1)) (stepP a b ((exI (stepP a b) a.L.toNat (a.s, b.s) (0, 0) x.1).getD x.1 (0, 0)) y.1)).getD 0 := (by rw [mget_numM, if_pos hx]; rfl)
                  refine AK.skip ?_
                  refine AK.then_ (hK29 _ ?_)
                  refine AK.region ?_
                  refine AK.val _ (Yl.move rfl) trivial rfl ?_
                  refine AK.val _ (Yl.move rfl) trivial rfl ?_
                  refine AK.append1 10 rfl sl38 el3 rfl (by decide) rfl (by intro k hk; cases hk; rfl) rfl (by intro u hu; simp [Value.cells] at hu; subst hu; rfl) (by omega) (by omega) (by decide) rfl rfl (fun vr2 _ hr2 => ?_)
                  refine AK.val _ (Yl.assign rfl) trivial rfl ?_
                  refine AK.nil ?_
                  refine AK.block_normal ?_
                  refine AK.then_ (hK26 _ ?_)
                  refine AK.region ?_
                  refine AK.val _ (Yl.move rfl) trivial rfl ?_
                  refine AK.val _ (Yl.add rfl rfl (by omega)) trivial rfl ?_
                  refine AK.val _ (Yl.assign rfl) trivial rfl ?_
                  refine AK.nil ?_
                  first | refine AK.then_ (hK23 _ _ ((y.1 + 1, va, vr2)) ⟨by dsimp only; omega, ha2, hr2⟩ (by dsimp only; omega) (.cons (rfl) (.cons (rfl) (.cons (rfl) (.cons rfl (.cons rfl (.cons rfl (.cons rfl (.cons rfl (.cons rfl (.cons rfl (.cons rfl (.nil)))))))))))) (fun w hw => by
    dsimp only
    rw [hex, show (exW (stepP a b) ((exI (stepP a b) a.L.toNat (a.s, b.s) (0, 0) x.1).getD x.1 (0, 0)) (exI (stepP a b) a.L.toNat (a.s, b.s) (0, 0) x.1) (y.1 + 1)) = (exW (stepP a b) ((exI (stepP a b) a.L.toNat (a.s, b.s) (0, 0) x.1).getD x.1 (0, 0)) (exI (stepP a b) a.L.toNat (a.s, b.s) (0, 0) x.1) y.1) ++ [((posN (exR (stepP a b) ((exI (stepP a b) a.L.toNat (a.s, b.s) (0, 0) x.1).getD x.1 (0, 0)) (exI (stepP a b) a.L.toNat (a.s, b.s) (0, 0) x.1) y.1) (stepP a b ((exI (stepP a b) a.L.toNat (a.s, b.s) (0, 0) x.1).getD x.1 (0, 0)) y.1) : Nat) : Int)] from rfl, hpos, ← mset_numM hx, List.map_append, pcs_append, List.length_append]
    exact hw.pick [0, 1, 2, 3, 4, 5, 6, 7, 8, 9, 10] (by decide) rfl rfl)) | refine AK.then_ (hK23 _ _ ((y.1 + 1, y.2.1, vr2)) ⟨by dsimp only; omega, hg1.2.1, hr2⟩ (by dsimp only; omega) (.cons (rfl) (.cons (rfl) (.cons (rfl) (.cons rfl (.cons rfl (.cons rfl (.cons rfl (.cons rfl (.cons rfl (.cons rfl (.cons rfl (.nil)))))))))))) (fun w hw => by
    dsimp only
    rw [hex, show (exW (stepP a b) ((exI (stepP a b) a.L.toNat (a.s, b.s) (0, 0) x.1).getD x.1 (0, 0)) (exI (stepP a b) a.L.toNat (a.s, b.s) (0, 0) x.1) (y.1 + 1)) = (exW (stepP a b) ((exI (stepP a b) a.L.toNat (a.s, b.s) (0, 0) x.1).getD x.1 (0, 0)) (exI (stepP a b) a.L.toNat (a.s, b.s) (0, 0) x.1) y.1) ++ [((posN (exR (stepP a b) ((exI (stepP a b) a.L.toNat (a.s, b.s) (0, 0) x.1).getD x.1 (0, 0)) (exI (stepP a b) a.L.toNat (a.s, b.s) (0, 0) x.1) y.1) (stepP a b ((exI (stepP a b) a.L.toNat (a.s, b.s) (0, 0) x.1).getD x.1 (0, 0)) y.1) : Nat) : Int)] from rfl, hpos, List.map_append]
    exact hw.pick [0, 1, 2, 3, 4, 5, 6, 7, 8, 9, 10] (by decide) rfl rfl))
              · refine AK.exit ?_
                refine AK.then_exit ?_
                refine AK.then_exit ?_
                refine AK.block_exit ?_
                refine AK.then_ (hK21 _ ?_)
                try (conv => enter [2, 2]; dsimp only [List.set_cons_zero, List.set_cons_succ, List.cons_append, List.nil_append])
                refine AK.held 24 mixed ?_
                refine HeldK.first 0 (fuel := 26) (listed' := #[true, false, false, false, false, false, false, false, false, false, false, false, false, false, false, false, false, false, false, false, false, false, false, false, false, false, false]) _ rfl (by kernel_rfl) rfl rfl (Yl.fieldAddr fd25_3 rfl) trivial rfl ?_
                refine HeldK.first 1 (fuel := 25) (listed' := #[true, true, false, false, false, false, false, false, false, false, false, false, false, false, false, false, false, false, false, false, false, false, false, false, false, false, false]) _ rfl (by kernel_rfl) rfl rfl (Yl.loadBox on23 rfl (by first | exact .own 0 rfl | exact .own 1 rfl | exact .own 2 rfl | exact .own 3 rfl | exact .own 4 rfl | exact .own 5 rfl | exact .own 6 rfl | exact .own 7 rfl | exact .own 8 rfl | exact .own 9 rfl | exact .own 10 rfl | exact .own 11 rfl | exact .own 12 rfl | assumption | exact BoxS.arg (by assumption)) rfl) trivial rfl ?_
                refine HeldK.first 2 (fuel := 24) (listed' := #[true, true, true, false, false, false, false, false, false, false, false, false, false, false, false, false, false, false, false, false, false, false, false, false, false, false, false]) _ rfl (by kernel_rfl) rfl rfl (Yl.move rfl) trivial rfl ?_
                refine HeldK.first 5 (fuel := 23) (listed' := #[true, true, true, false, false, true, false, false, false, false, false, false, false, false, false, false, false, false, false, false, false, false, false, false, false, false, false]) _ rfl (by kernel_rfl) rfl rfl (Yl.fieldAddr fd25_2 rfl) trivial rfl ?_
                refine HeldK.first 6 (fuel := 22) (listed' := #[true, true, true, false, false, true, true, false, false, false, false, false, false, false, false, false, false, false, false, false, false, false, false, false, false, false, false]) _ rfl (by kernel_rfl) rfl rfl (Yl.loadBox on22 rfl (by first | exact .own 0 rfl | exact .own 1 rfl | exact .own 2 rfl | exact .own 3 rfl | exact .own 4 rfl | exact .own 5 rfl | exact .own 6 rfl | exact .own 7 rfl | exact .own 8 rfl | exact .own 9 rfl | exact .own 10 rfl | exact .own 11 rfl | exact .own 12 rfl | assumption | exact BoxS.arg (by assumption)) rfl) trivial rfl ?_
                refine HeldK.first 7 (fuel := 21) (listed' := #[true, true, true, false, false, true, true, true, false, false, false, false, false, false, false, false, false, false, false, false, false, false, false, false, false, false, false]) _ rfl (by kernel_rfl) rfl rfl (Yl.move rfl) trivial rfl ?_
                refine HeldK.first 8 (fuel := 20) (listed' := #[true, true, true, false, false, true, true, true, true, false, false, false, false, false, false, false, false, false, false, false, false, false, false, false, false, false, false]) _ rfl (by kernel_rfl) rfl rfl (Yl.fieldAddr fd25_2 rfl) trivial rfl ?_
                refine HeldK.first 9 (fuel := 19) (listed' := #[true, true, true, false, false, true, true, true, true, true, false, false, false, false, false, false, false, false, false, false, false, false, false, false, false, false, false]) _ rfl (by kernel_rfl) rfl rfl (Yl.loadBox on22 rfl (by first | exact .own 0 rfl | exact .own 1 rfl | exact .own 2 rfl | exact .own 3 rfl | exact .own 4 rfl | exact .own 5 rfl | exact .own 6 rfl | exact .own 7 rfl | exact .own 8 rfl | exact .own 9 rfl | exact .own 10 rfl | exact .own 11 rfl | exact .own 12 rfl | assumption | exact BoxS.arg (by assumption)) rfl) trivial rfl ?_
                refine HeldK.first 10 (fuel := 18) (listed' := #[true, true, true, false, false, true, true, true, true, true, true, false, false, false, false, false, false, false, false, false, false, false, false, false, false, false, false]) _ rfl (by kernel_rfl) rfl rfl (Yl.idxArr 0 ar72 rfl rfl (by decide)) trivial rfl ?_
                refine HeldK.first 11 (fuel := 17) (listed' := #[true, true, true, false, false, true, true, true, true, true, true, true, false, false, false, false, false, false, false, false, false, false, false, false, false, false, false]) _ rfl (by kernel_rfl) rfl rfl (Yl.loadBox on3 rfl (by first | exact .own 0 rfl | exact .own 1 rfl | exact .own 2 rfl | exact .own 3 rfl | exact .own 4 rfl | exact .own 5 rfl | exact .own 6 rfl | exact .own 7 rfl | exact .own 8 rfl | exact .own 9 rfl | exact .own 10 rfl | exact .own 11 rfl | exact .own 12 rfl | assumption | exact BoxS.arg (by assumption)) rfl) trivial rfl ?_
                first | refine HeldK.first 12 (fuel := 16) (listed' := #[true, true, true, false, false, true, true, true, true, true, true, true, true, false, false, false, false, false, false, false, false, false, false, false, false, false, false]) _ rfl (by kernel_rfl) rfl rfl (Yl.idxN sl22 rfl rfl (by first | exact .arg ‹_› | exact .own 0 rfl | exact .own 1 rfl | exact .own 2 rfl | exact .own 3 rfl | exact .own 4 rfl | exact .own 5 rfl | exact .own 6 rfl | exact .own 7 rfl | exact .own 8 rfl | assumption | exact .own 9 rfl | exact .own 10 rfl | exact .own 11 rfl | exact .own 12 rfl | exact .arg haNr | exact .arg hbNr | exact .arg haF | exact .arg hbF | exact .arg (haNi _ (by omega)) | exact .arg (hbNi _ (by omega))) (by decide) (by omega)) trivial rfl ?_ | refine HeldK.first 12 (fuel := 16) (listed' := #[true, true, true, false, false, true, true, true, true, true, true, true, true, false, false, false, false, false, false, false, false, false, false, false, false, false, false]) _ rfl (by kernel_rfl) rfl rfl (Yl.idx sl22 rfl rfl (by first | exact .arg ‹_› | exact .own 0 rfl | exact .own 1 rfl | exact .own 2 rfl | exact .own 3 rfl | exact .own 4 rfl | exact .own 5 rfl | exact .own 6 rfl | exact .own 7 rfl | exact .own 8 rfl | assumption | exact .own 9 rfl | exact .own 10 rfl | exact .own 11 rfl | exact .own 12 rfl | exact .arg haNr | exact .arg hbNr | exact .arg haF | exact .arg hbF | exact .arg (haNi _ (by omega)) | exact .arg (hbNi _ (by omega))) (by decide) (by omega)) trivial rfl ?_ | refine HeldK.first 12 (fuel := 16) (listed' := #[true, true, true, false, false, true, true, true, true, true, true, true, true, false, false, false, false, false, false, false, false, false, false, false, false, false, false]) _ rfl (by kernel_rfl) rfl rfl (Yl.idxK sl22 rfl rfl (by first | exact .arg ‹_› | exact .own 0 rfl | exact .own 1 rfl | exact .own 2 rfl | exact .own 3 rfl | exact .own 4 rfl | exact .own 5 rfl | exact .own 6 rfl | exact .own 7 rfl | exact .own 8 rfl | assumption | exact .own 9 rfl | exact .own 10 rfl | exact .own 11 rfl | exact .own 12 rfl | exact .arg haNr | exact .arg hbNr | exact .arg haF | exact .arg hbF | exact .arg (haNi _ (by omega)) | exact .arg (hbNi _ (by omega))) (by decide) (by omega)) trivial rfl ?_
                refine HeldK.first 13 (fuel := 15) (listed' := #[true, true, true, false, false, true, true, true, true, true, true, true, true, true, false, false, false, false, false, false, false, false, false, false, false, false, false]) _ rfl (by kernel_rfl) rfl rfl (Yl.loadB on4 rfl (by first | exact .arg ‹_› | exact .own 0 rfl | exact .own 1 rfl | exact .own 2 rfl | exact .own 3 rfl | exact .own 4 rfl | exact .own 5 rfl | exact .own 6 rfl | exact .own 7 rfl | exact .own 8 rfl | assumption | exact .own 9 rfl | exact .own 10 rfl | exact .own 11 rfl | exact .own 12 rfl | exact .arg haNr | exact .arg hbNr | exact .arg haF | exact .arg hbF | exact .arg (haNi _ (by omega)) | exact .arg (hbNi _ (by omega))) (by omega)) trivial rfl ?_
                refine HeldK.first 14 (fuel := 14) (listed' := #[true, true, true, false, false, true, true, true, true, true, true, true, true, true, true, false, false, false, false, false, false, false, false, false, false, false, false]) _ rfl (by kernel_rfl) rfl rfl (Yl.fieldAddr fd25_2 rfl) trivial rfl ?_
                refine HeldK.first 15 (fuel := 13) (listed' := #[true, true, true, false, false, true, true, true, true, true, true, true, true, true, true, true, false, false, false, false, false, false, false, false, false, false, false]) _ rfl (by kernel_rfl) rfl rfl (Yl.loadBox on22 rfl (by first | exact .own 0 rfl | exact .own 1 rfl | exact .own 2 rfl | exact .own 3 rfl | exact .own 4 rfl | exact .own 5 rfl | exact .own 6 rfl | exact .own 7 rfl | exact .own 8 rfl | exact .own 9 rfl | exact .own 10 rfl | exact .own 11 rfl | exact .own 12 rfl | assumption | exact BoxS.arg (by assumption)) rfl) trivial rfl ?_
                refine HeldK.first 16 (fuel := 12) (listed' := #[true, true, true, false, false, true, true, true, true, true, true, true, true, true, true, true, true, false, false, false, false, false, false, false, false, false, false]) _ rfl (by kernel_rfl) rfl rfl (Yl.idxArr 1 ar72 rfl rfl (by decide)) trivial rfl ?_
                refine HeldK.first 17 (fuel := 11) (listed' := #[true, true, true, false, false, true, true, true, true, true, true, true, true, true, true, true, true, true, false, false, false, false, false, false, false, false, false]) _ rfl (by kernel_rfl) rfl rfl (Yl.loadBox on3 rfl (by first | exact .own 0 rfl | exact .own 1 rfl | exact .own 2 rfl | exact .own 3 rfl | exact .own 4 rfl | exact .own 5 rfl | exact .own 6 rfl | exact .own 7 rfl | exact .own 8 rfl | exact .own 9 rfl | exact .own 10 rfl | exact .own 11 rfl | exact .own 12 rfl | assumption | exact BoxS.arg (by assumption)) rfl) trivial rfl ?_
                first | refine HeldK.first 18 (fuel := 10) (listed' := #[true, true, true, false, false, true, true, true, true, true, true, true, true, true, true, true, true, true, true, false, false, false, false, false, false, false, false]) _ rfl (by kernel_rfl) rfl rfl (Yl.idxN sl22 rfl rfl (by first | exact .arg ‹_› | exact .own 0 rfl | exact .own 1 rfl | exact .own 2 rfl | exact .own 3 rfl | exact .own 4 rfl | exact .own 5 rfl | exact .own 6 rfl | exact .own 7 rfl | exact .own 8 rfl | assumption | exact .own 9 rfl | exact .own 10 rfl | exact .own 11 rfl | exact .own 12 rfl | exact .arg haNr | exact .arg hbNr | exact .arg haF | exact .arg hbF | exact .arg (haNi _ (by omega)) | exact .arg (hbNi _ (by omega))) (by decide) (by omega)) trivial rfl ?_ | refine HeldK.first 18 (fuel := 10) (listed' := #[true, true, true, false, false, true, true, true, true, true, true, true, true, true, true, true, true, true, true, false, false, false, false, false, false, false, false]) _ rfl (by kernel_rfl) rfl rfl (Yl.idx sl22 rfl rfl (by first | exact .arg ‹_› | exact .own 0 rfl | exact .own 1 rfl | exact .own 2 rfl | exact .own 3 rfl | exact .own 4 rfl | exact .own 5 rfl | exact .own 6 rfl | exact .own 7 rfl | exact .own 8 rfl | assumption | exact .own 9 rfl | exact .own 10 rfl | exact .own 11 rfl | exact .own 12 rfl | exact .arg haNr | exact .arg hbNr | exact .arg haF | exact .arg hbF | exact .arg (haNi _ (by omega)) | exact .arg (hbNi _ (by omega))) (by decide) (by omega)) trivial rfl ?_ | refine HeldK.first 18 (fuel := 10) (listed' := #[true, true, true, false, false, true, true, true, true, true, true, true, true, true, true, true, true, true, true, false, false, false, false, false, false, false, false]) _ rfl (by kernel_rfl) rfl rfl (Yl.idxK sl22 rfl rfl (by first | exact .arg ‹_› | exact .own 0 rfl | exact .own 1 rfl | exact .own 2 rfl | exact .own 3 rfl | exact .own 4 rfl | exact .own 5 rfl | exact .own 6 rfl | exact .own 7 rfl | exact .own 8 rfl | assumption | exact .own 9 rfl | exact .own 10 rfl | exact .own 11 rfl | exact .own 12 rfl | exact .arg haNr | exact .arg hbNr | exact .arg haF | exact .arg hbF | exact .arg (haNi _ (by omega)) | exact .arg (hbNi _ (by omega))) (by decide) (by omega)) trivial rfl ?_
                refine HeldK.first 19 (fuel := 9) (listed' := #[true, true, true, false, false, true, true, true, true, true, true, true, true, true, true, true, true, true, true, true, false, false, false, false, false, false, false]) _ rfl (by kernel_rfl) rfl rfl (Yl.loadB on4 rfl (by first | exact .arg ‹_› | exact .own 0 rfl | exact .own 1 rfl | exact .own 2 rfl | exact .own 3 rfl | exact .own 4 rfl | exact .own 5 rfl | exact .own 6 rfl | exact .own 7 rfl | exact .own 8 rfl | assumption | exact .own 9 rfl | exact .own 10 rfl | exact .own 11 rfl | exact .own 12 rfl | exact .arg haNr | exact .arg hbNr | exact .arg haF | exact .arg hbF | exact .arg (haNi _ (by omega)) | exact .arg (hbNi _ (by omega))) (by omega)) trivial rfl ?_
                refine HeldK.one 3 (fuel := 8) (listed' := #[true, true, true, true, false, true, true, true, true, true, true, true, true, true, true, true, true, true, true, true, false, false, false, false, false, false, false]) (by kernel_rfl) rfl rfl ?_
                refine AK.lit (xs := [.tmp 111]) sl23 el38 rfl rfl rfl (by intro c hc; simp at hc; subst hc; rw [hg1.2.2.cells]; rfl) (by decide) (by decide) trivial rfl (fun t3 => ?_)
                refine AK.nil ?_
                try (conv => enter [2, 2]; dsimp only [List.set_cons_zero, List.set_cons_succ, List.cons_append, List.nil_append])
                refine HeldK.back (by repeat (first | exact HWle.nil | refine HWle.cons Ale.rfl ?_ | refine HWle.cons Ale.fst ?_)) ?_
                refine HeldK.one 4 (fuel := 7) (listed' := #[true, true, true, true, true, true, true, true, true, true, true, true, true, true, true, true, true, true, true, true, false, false, false, false, false, false, false]) (by kernel_rfl) rfl rfl ?_
                refine AK.appendH 7 rfl sl23 el38 rfl (by decide) rfl rfl rfl (by first | exact .arg ‹_› | exact .own 0 rfl | exact .own 1 rfl | exact .own 2 rfl | exact .own 3 rfl | exact .own 4 rfl | exact .own 5 rfl | exact .own 6 rfl | exact .own 7 rfl | exact .own 8 rfl | assumption | exact .own 9 rfl | exact .own 10 rfl | exact .own 11 rfl | exact .own 12 rfl | exact .arg haNr | exact .arg hbNr | exact .arg haF | exact .arg hbF | exact .arg (haNi _ (by omega)) | exact .arg (hbNi _ (by omega))) (by rw [show [y.2.2].flatMap (·.cells.toList) = [y.2.2] by simp [hg1.2.2.cells]]; exact one'_cons hg1.2.2.one one'_nil) (by omega) (by omega) trivial rfl (fun vn2 hn2 => ?_)
                refine AK.nil ?_
                try (conv => enter [2, 2]; dsimp only [List.set_cons_zero, List.set_cons_succ, List.cons_append, List.nil_append])
                refine HeldK.back (by repeat (first | exact HWle.nil | refine HWle.cons Ale.rfl ?_ | refine HWle.cons Ale.fst ?_)) ?_
                refine HeldK.first 23 (fuel := 6) (listed' := #[true, true, true, true, true, true, true, true, true, true, true, true, true, true, true, true, true, true, true, true, false, false, false, true, false, false, false]) _ rfl (by kernel_rfl) rfl rfl (Yl.fieldAddr fd25_3 rfl) trivial rfl ?_
                refine HeldK.one 20 (fuel := 5) (listed' := #[true, true, true, true, true, true, true, true, true, true, true, true, true, true, true, true, true, true, true, true, true, false, false, true, false, false, false]) (by kernel_rfl) rfl rfl ?_
                refine AK.call co44 rfl (fun w hw => s_by w op (finQ a ((exI (stepP a b) a.L.toNat (a.s, b.s) (0, 0) x.1).getD x.1 (0, 0)).1) (finQ b ((exI (stepP a b) a.L.toNat (a.s, b.s) (0, 0) x.1).getD x.1 (0, 0)).2) ho) trivial rfl ?_
                rintro r o ⟨rfl, rfl⟩
                refine AK.nil ?_
                try (conv => enter [2, 2]; dsimp only [List.set_cons_zero, List.set_cons_succ, List.cons_append, List.nil_append])
                refine HeldK.back (by repeat (first | exact HWle.nil | refine HWle.cons Ale.rfl ?_ | refine HWle.cons Ale.fst ?_)) ?_
                refine HeldK.one 21 (fuel := 4) (listed' := #[true, true, true, true, true, true, true, true, true, true, true, true, true, true, true, true, true, true, true, true, true, true, false, true, false, false, false]) (by kernel_rfl) rfl rfl ?_
                refine AK.lit (xs := [.tmp 129]) sl22 el4 rfl rfl rfl (by intro c hc; simp at hc; subst hc; rfl) (by decide) (by decide) trivial rfl (fun t21 => ?_)
                refine AK.nil ?_
                try (conv => enter [2, 2]; dsimp only [List.set_cons_zero, List.set_cons_succ, List.cons_append, List.nil_append])
                refine HeldK.back (by repeat (first | exact HWle.nil | refine HWle.cons Ale.rfl ?_ | refine HWle.cons Ale.fst ?_)) ?_
                refine HeldK.one 22 (fuel := 3) (listed' := #[true, true, true, true, true, true, true, true, true, true, true, true, true, true, true, true, true, true, true, true, true, true, true, true, false, false, false]) (by kernel_rfl) rfl rfl ?_
                refine AK.appendH 6 rfl sl22 el4 rfl (by decide) rfl rfl rfl (by first | exact .arg ‹_› | exact .own 0 rfl | exact .own 1 rfl | exact .own 2 rfl | exact .own 3 rfl | exact .own 4 rfl | exact .own 5 rfl | exact .own 6 rfl | exact .own 7 rfl | exact .own 8 rfl | assumption | exact .own 9 rfl | exact .own 10 rfl | exact .own 11 rfl | exact .own 12 rfl | exact .arg haNr | exact .arg hbNr | exact .arg haF | exact .arg hbF | exact .arg (haNi _ (by omega)) | exact .arg (hbNi _ (by omega))) (by repeat (first | exact one'_nil | refine one'_cons (by first | rfl | exact IsSl.one (by assumption) | exact IsSl.one nilSl) ?_)) (by omega) (by omega) trivial rfl (fun vf2 hf2 => ?_)
                refine AK.nil ?_
                try (conv => enter [2, 2]; dsimp only [List.set_cons_zero, List.set_cons_succ, List.cons_append, List.nil_append])
                refine HeldK.back (by repeat (first | exact HWle.nil | refine HWle.cons Ale.rfl ?_ | refine HWle.cons Ale.fst ?_)) ?_
                refine HeldK.one 24 (fuel := 2) (listed' := #[true, true, true, true, true, true, true, true, true, true, true, true, true, true, true, true, true, true, true, true, true, true, true, true, true, false, false]) (by kernel_rfl) rfl rfl ?_
                refine AK.storeBox 5 (us := [vn2]) (cs' := [.int .i64 a.L, .int .i64 0, x.2.2.1, vn2]) rfl sz23 rfl rfl (by rw [IsSl.cells (by assumption)]) rfl (by repeat (first | exact one'_nil | refine one'_cons (by first | rfl | exact IsSl.one (by assumption) | exact IsSl.one nilSl) ?_)) (Nat.le_of_ble_eq_true rfl) rfl trivial ?_
                refine AK.nil ?_
                try (conv => enter [2, 2]; dsimp only [List.set_cons_zero, List.set_cons_succ, List.cons_append, List.nil_append])
                refine HeldK.backN 25 rfl rfl (by kernel_rfl) ?_
                refine AK.val _ (Yl.fieldAddr fd25_2 rfl) trivial rfl ?_
                refine AK.storeBox 5 (us := [vf2]) (cs' := [.int .i64 a.L, .int .i64 0, vf2, vn2]) rfl sz22 rfl rfl (by rw [IsSl.cells (by assumption)]) rfl (by repeat (first | exact one'_nil | refine one'_cons (by first | rfl | exact IsSl.one (by assumption) | exact IsSl.one nilSl) ?_)) (Nat.le_of_ble_eq_true rfl) rfl trivial ?_
                refine AK.nil ?_
                refine AK.fromQn ?_
                refine AK.block_normal ?_
                refine AK.then_ (hK18 _ ?_)
                refine AK.region ?_
                refine AK.val _ (Yl.move rfl) trivial rfl ?_
                refine AK.val _ (Yl.add rfl rfl (by omega)) trivial rfl ?_
                refine AK.val _ (Yl.assign rfl) trivial rfl ?_
                refine AK.nil ?_
                refine AK.then_ (hK15 _ _ ((x.1 + 1, y.2.1, vf2, vn2, x.2.2.2.2 ++ [y.2.2])) ⟨by dsimp only; rw [exI_next hlt]; have := exR_pre (stepP a b) ((exI (stepP a b) a.L.toNat (a.s, b.s) (0, 0) x.1).getD x.1 (0, 0)) (exI (stepP a b) a.L.toNat (a.s, b.s) (0, 0) x.1) a.L.toNat; obtain ⟨ys, e⟩ := this; rw [e, List.length_append]; omega, by simp [hg0.2.1], hg1.2.1, hf2, hn2⟩ (by dsimp only; omega) (.cons (rfl) (.cons (rfl) (.cons rfl (.cons rfl (.cons rfl (.cons rfl (.cons rfl (.cons rfl (.nil))))))))) (fun w hw => by
    dsimp only
    have e2 : matG (Value.int .i64) 3 (x.2.2.2.2 ++ [y.2.2]) (exN (stepP a b) a.L.toNat (a.s, b.s) (0, 0) (x.1 + 1)) = matG (Value.int .i64) 3 x.2.2.2.2 (exN (stepP a b) a.L.toNat (a.s, b.s) (0, 0) x.1) ++ [row y.2.2 3 1 (exW (stepP a b) ((exI (stepP a b) a.L.toNat (a.s, b.s) (0, 0) x.1).getD x.1 (0, 0)) (exI (stepP a b) a.L.toNat (a.s, b.s) (0, 0) x.1) a.L.toNat).length ((exW (stepP a b) ((exI (stepP a b) a.L.toNat (a.s, b.s) (0, 0) x.1).getD x.1 (0, 0)) (exI (stepP a b) a.L.toNat (a.s, b.s) (0, 0) x.1) a.L.toNat).map (Value.int .i64))] := matG_snoc (by rw [exN_len]; exact hg0.2.1) y.2.2 _
    have e3 : [y.2.2].flatMap (·.cells.toList) = [y.2.2] := (by simp [hg1.2.2.cells])
    have e5 : (exG (stepP a b) a.L.toNat (a.s, b.s) (0, 0) (finP a b op) (x.1 + 1)).map Value.bool = (exG (stepP a b) a.L.toNat (a.s, b.s) (0, 0) (finP a b op) x.1).map Value.bool ++ [Value.bool (finP a b op ((exI (stepP a b) a.L.toNat (a.s, b.s) (0, 0) x.1).getD x.1 (0, 0)))].flatMap (·.cells.toList) := (by simp [exG, Value.cells])
    have hyL : y.1 = a.L.toNat := (by omega)
    rw [e3, hyL] at hw
    rw [e2, exI_next hlt, exW_len, e5]
    have h2 := hw.pickLe (L := [_, _, _, _, _, _, row vf2 4 1 (x.1 + 1) ((exG (stepP a b) a.L.toNat (a.s, b.s) (0, 0) (finP a b op) x.1).map Value.bool ++ [Value.bool (finP a b op ((exI (stepP a b) a.L.toNat (a.s, b.s) (0, 0) x.1).getD x.1 (0, 0)))].flatMap (·.cells.toList)), row vn2 38 1 (x.1 + 1) (x.2.2.2.2 ++ [y.2.2]), _, _]) [0, 1, 2, 3, 4, 5, 6, 7, 8, 10] (by decide) (by repeat (first | exact PickLe.nil | refine PickLe.cons rfl Ale.rfl ?_ | refine PickLe.cons rfl Ale.snd ?_ | refine PickLe.cons rfl Ale.fst ?_))
    exact HW.absorb (own := [_, _, _, _, _, _, _, _, _]) 8 rfl h2))
          · refine AK.exit ?_
            refine AK.then_exit ?_
            refine AK.then_exit ?_
            refine AK.block_exit ?_
            refine AK.then_ (hK13 _ ?_)
            refine AK.seq (fun _ hK35 => ?_)
            refine AK.region ?_
            refine AK.val _ (Yl.loadBoxG ag25 rfl (by first | exact .own 0 rfl | exact .own 1 rfl | exact .own 2 rfl | exact .own 3 rfl | exact .own 4 rfl | exact .own 5 rfl | exact .own 6 rfl | exact .own 7 rfl | exact .own 8 rfl | exact .own 9 rfl | exact .own 10 rfl | exact .own 11 rfl | exact .own 12 rfl | assumption | exact BoxS.arg (by assumption)) rfl rfl) trivial rfl ?_
            refine AK.storeBox 2 (us := [.int .i64 a.L, .int .i64 0, x.2.2.1, x.2.2.2.1]) (cs' := [.int .i64 a.L, .int .i64 0, x.2.2.1, x.2.2.2.1]) rfl sz25 rfl rfl rfl rfl (by repeat (first | exact one'_nil | refine one'_cons (by first | rfl | exact IsSl.one (by assumption) | exact IsSl.one nilSl) ?_)) (Nat.le_of_ble_eq_true rfl) rfl trivial ?_
            refine AK.val _ (Yl.assign rfl) trivial rfl ?_
            refine AK.nil ?_
            refine AK.then_ (hK35 _ ?_)
            refine AK.ret ?_
            refine AK.own' ([box bx3 25 4 [.int .i64 a.L, .int .i64 a.s, aF, aN], box bx4 25 4 [.int .i64 b.L, .int .i64 b.s, bF, bN], box bx6 25 4 [.int .i64 a.L, .int .i64 0, x.2.2.1, x.2.2.2.1], row x.2.1 72 2 (exI (stepP a b) a.L.toNat (a.s, b.s) (0, 0) x.1).length (pcs (exI (stepP a b) a.L.toNat (a.s, b.s) (0, 0) x.1)), mapA mb (mkv pv (Value.int .i64) (numM (exI (stepP a b) a.L.toNat (a.s, b.s) (0, 0) x.1))), box bx11 25 4 [.int .i64 a.L, .int .i64 0, x.2.2.1, x.2.2.2.1], row x.2.2.1 4 1 x.1 ((exG (stepP a b) a.L.toNat (a.s, b.s) (0, 0) (finP a b op) x.1).map Value.bool), row x.2.2.2.1 38 1 x.1 x.2.2.2.2, bigA (matG (Value.int .i64) 3 x.2.2.2.2 (exN (stepP a b) a.L.toNat (a.s, b.s) (0, 0) x.1))]) (fun w hw => hw) ?_
            refine AK.retG [.cell 6 25, .tmp 7] rfl (.cons (.cell ag25 rfl (by first | exact .own 0 rfl | exact .own 1 rfl | exact .own 2 rfl | exact .own 3 rfl | exact .own 4 rfl | exact .own 5 rfl | exact .own 6 rfl | exact .own 7 rfl | exact .own 8 rfl | exact .own 9 rfl | exact .own 10 rfl | exact .own 11 rfl | exact .own 12 rfl | assumption | exact BoxS.arg (by assumption)) rfl rfl) (.cons (.tmp rfl) (.nil))) (fun w hw => ⟨_, _, ?_, rfl, Ret.of (hw.pick [6, 7, 8] (by decide) rfl rfl)⟩)
            obtain ⟨ht1, ht2⟩ := gen_is (g := finP a b op) (z := ((0 : Int), (0 : Int))) a.L hs hf (n := x.1) (by omega)
            rw [show ProdV a b op = prodD a b op from if_pos hE, hE, show prodD a b op = _ from ht2.symm]
            refine ⟨x.2.2.1, x.2.2.2.1, x.2.2.2.2, rfl, ?_, hsF, hsN, ?_⟩
            · rw [hg0.2.1, exN_len]
            · unfold dfaO; rw [exG_len, exN_len]; rfl

end Go.Proofs.Ytmfakjfkjoichaa
