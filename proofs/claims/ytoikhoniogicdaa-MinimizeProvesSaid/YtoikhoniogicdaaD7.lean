import Derived.Test.YtoikhoniogicdaaD2
import Derived.Test.YtoikhoniogicdaaDe
import Derived.Test.YtoikhoniogicdaaDf
set_option linter.unusedVariables false
set_option linter.unusedSimpArgs false
namespace Go.Proofs.Ytoikhoniogicdaa
open Go.Sx Go.RowKit
set_option maxHeartbeats 400000 in
set_option maxRecDepth 100000 in
theorem s_ofI (w : World) (F : Nat → Prop) (b mb : Nat) (vL : Value) (xs : List Int) (x : Int) (hl : xs.length ≤ 100000) (sL : IsSl vL) (hA : (bigA [box b 83 2 [vL, .map (some mb)], row vL 3 1 xs.length (xs.map (Value.int .i64)), mapA mb (mkv (Value.int .i64) (Value.int .i64) (numM xs))]).holds w F) : CallM Try.prog 53 [.pointer (some ⟨b, 0, none⟩), Value.int .i64 x] w F (fun r A o => ∃ va, IsSl va ∧ r = .int .i64 ((posN xs x : Nat) : Int) ∧ A = bigA [box b 83 2 [va, .map (some mb)], row va 3 1 (insN xs x).length ((insN xs x).map (Value.int .i64)), mapA mb (mkv (Value.int .i64) (Value.int .i64) (numM (insN xs x)))] ∧ o = []) := by
  refine specM_of' Try.func53 rfl (Nat.le_of_ble_eq_true rfl) hA ?_
  refine AK.seq (fun _ hK1 => ?_)
  refine AK.region ?_
  refine AK.val _ (Yl.assign rfl) trivial rfl ?_
  refine AK.nil ?_
  refine AK.then_ (hK1 _ ?_)
  refine AK.seq (fun _ hK2 => ?_)
  refine AK.region ?_
  refine AK.val _ (Yl.move rfl) trivial rfl ?_
  refine AK.val _ (Yl.nilCheck rfl) trivial rfl ?_
  refine AK.val _ (Yl.fieldAddr fd83_1 rfl) trivial rfl ?_
  refine AK.val _ (Yl.loadBox on79 rfl (by first | ((repeat (first | exact .hd | apply BoxS.tl | apply MapS.tl)); done) | assumption | exact BoxS.arg (by assumption)) rfl) trivial rfl ?_
  refine AK.val _ (Yl.move rfl) trivial rfl ?_
  refine AK.val _ (Yl.lookup2I mp79 (keyInt un3) el3 rfl rfl (by first | ((repeat (first | exact .hd | apply BoxS.tl | apply MapS.tl)); done) | assumption | exact BoxS.arg (by assumption))) trivial rfl ?_
  refine AK.val _ (Yl.move rfl) trivial rfl ?_
  refine AK.val _ (Yl.extract rfl rfl) trivial rfl ?_
  refine AK.val _ (Yl.extract rfl rfl) trivial rfl ?_
  refine AK.val _ (Yl.assign rfl) trivial rfl ?_
  refine AK.val _ (Yl.assign rfl) trivial rfl ?_
  refine AK.nil ?_
  refine AK.then_ (hK2 _ ?_)
  refine AK.seq (fun _ hK3 => ?_)
  refine AK.seq (fun _ hK4 => ?_)
  refine AK.region ?_
  refine AK.val _ (Yl.move rfl) trivial rfl ?_
  refine AK.val _ (Yl.not rfl) trivial rfl ?_
  refine AK.nil ?_
  refine AK.then_ (hK4 _ ?_)
  refine AK.condB rfl (fun hc0 => ?_) (fun hc0 => ?_)
  · have hx : x ∉ xs := by
      rw [mget_numM] at hc0; intro h; rw [if_pos h] at hc0; cases hc0
    refine AK.seq (fun _ hK5 => ?_)
    refine AK.seq (fun _ hK6 => ?_)
    refine AK.region ?_
    refine AK.val _ (Yl.move rfl) trivial rfl ?_
    refine AK.val _ (Yl.nilCheck rfl) trivial rfl ?_
    refine AK.val _ (Yl.fieldAddr fd83_1 rfl) trivial rfl ?_
    refine AK.val _ (Yl.loadBox on79 rfl (by first | ((repeat (first | exact .hd | apply BoxS.tl | apply MapS.tl)); done) | assumption | exact BoxS.arg (by assumption)) rfl) trivial rfl ?_
    refine AK.val _ (Yl.eqlMap mp79 rfl) trivial rfl ?_
    refine AK.nil ?_
    refine AK.then_ (hK6 _ ?_)
    refine AK.cond_f rfl (rfl) ?_
    refine AK.skip ?_
    refine AK.then_ (hK5 _ ?_)
    refine AK.seq (fun _ hK7 => ?_)
    refine AK.region ?_
    refine AK.val _ (Yl.move rfl) trivial rfl ?_
    refine AK.val _ (Yl.nilCheck rfl) trivial rfl ?_
    refine AK.val _ (Yl.fieldAddr fd83_0 rfl) trivial rfl ?_
    refine AK.val _ (Yl.loadBox on26 rfl (by first | ((repeat (first | exact .hd | apply BoxS.tl | apply MapS.tl)); done) | assumption | exact BoxS.arg (by assumption)) rfl) trivial rfl ?_
    refine AK.val _ (Yl.lenR sl26 rfl (by first | exact .arg ‹_› | ((repeat (first | exact .hd | apply RdS.tl)); done) | assumption)) trivial rfl ?_
    refine AK.val _ (Yl.assign rfl) trivial rfl ?_
    refine AK.nil ?_
    refine AK.then_ (hK7 _ ?_)
    refine AK.seq (fun _ hK8 => ?_)
    refine AK.region ?_
    refine AK.val _ (Yl.move rfl) trivial rfl ?_
    refine AK.val _ (Yl.nilCheck rfl) trivial rfl ?_
    refine AK.val _ (Yl.fieldAddr fd83_1 rfl) trivial rfl ?_
    refine AK.val _ (Yl.loadBox on79 rfl (by first | ((repeat (first | exact .hd | apply BoxS.tl | apply MapS.tl)); done) | assumption | exact BoxS.arg (by assumption)) rfl) trivial rfl ?_
    refine AK.val _ (Yl.move rfl) trivial rfl ?_
    refine AK.val _ (Yl.move rfl) trivial rfl ?_
    refine AK.mapSet 2 rfl mp79 (keyInt un3) rfl rfl rfl trivial ?_
    refine AK.nil ?_
    refine AK.then_ (hK8 _ ?_)
    refine AK.region ?_
    refine AK.val _ (Yl.move rfl) trivial rfl ?_
    refine AK.val _ (Yl.move rfl) trivial rfl ?_
    refine AK.val _ (Yl.nilCheck rfl) trivial rfl ?_
    refine AK.val _ (Yl.fieldAddr fd83_0 rfl) trivial rfl ?_
    refine AK.val _ (Yl.loadBox on26 rfl (by first | ((repeat (first | exact .hd | apply BoxS.tl | apply MapS.tl)); done) | assumption | exact BoxS.arg (by assumption)) rfl) trivial rfl ?_
    refine AK.val _ (Yl.move rfl) trivial rfl ?_
    refine AK.append1 1 rfl sl26 el3 rfl (by decide) rfl (by intro k hk; cases hk; rfl) rfl (by intro u hu; simp [Value.cells] at hu; subst hu; rfl) (by omega) (by omega) (by decide) rfl rfl (fun va _ hsa => ?_)
    refine AK.val _ (Yl.nilCheck rfl) trivial rfl ?_
    refine AK.val _ (Yl.fieldAddr fd83_0 rfl) trivial rfl ?_
    refine AK.storeBox 0 (us := [va]) (cs' := [va, .map (some mb)]) rfl sz26 rfl rfl (by rw [IsSl.cells (by assumption)]) rfl (by repeat (first | exact one'_nil | refine one'_cons (by first | rfl | exact IsSl.one (by assumption) | exact IsSl.one nilSl) ?_)) (Nat.le_of_ble_eq_true rfl) rfl trivial ?_
    refine AK.nil ?_
    refine AK.then_ (hK3 _ ?_)
    refine AK.seq (fun _ hK9 => ?_)
    refine AK.region ?_
    refine AK.val _ (Yl.move rfl) trivial rfl ?_
    refine AK.val _ (Yl.assign rfl) trivial rfl ?_
    refine AK.nil ?_
    refine AK.then_ (hK9 _ ?_)
    refine AK.ret ?_
    refine AK.grown [box b 83 2 [va, .map (some mb)], row va 3 1 (xs.length + 1) ((xs.map (Value.int .i64)) ++ (Value.int .i64 x).cells.toList), mapA mb (mkv (Value.int .i64) (Value.int .i64) (mset (numM xs) x (xs.length : Int)))] [0, 1, 2] (by decide) (by repeat (first | exact PickLe.nil | refine PickLe.cons rfl Ale.rfl ?_ | refine PickLe.cons rfl Ale.snd ?_ | refine PickLe.cons rfl Ale.fst ?_)) ?_
    refine AK.ret1 rfl rfl (fun w hw => ⟨_, _, _, ?_, rfl, Ret.ofBig0 hw⟩)
    refine ⟨va, hsa, ?_, ?_, rfl⟩
    · rw [posN_not hx]
      try rfl
    · rw [show insN xs x = xs ++ [x] from if_neg hx, ← mset_numM hx]; simp [Value.cells]
  · have hx : x ∈ xs := by
      rw [mget_numM] at hc0; by_cases h : x ∈ xs
      · exact h
      · rw [if_neg h] at hc0; cases hc0
    refine AK.skip ?_
    refine AK.then_ (hK3 _ ?_)
    refine AK.seq (fun _ hK10 => ?_)
    refine AK.region ?_
    refine AK.val _ (Yl.move rfl) trivial rfl ?_
    refine AK.val _ (Yl.assign rfl) trivial rfl ?_
    refine AK.nil ?_
    refine AK.then_ (hK10 _ ?_)
    refine AK.ret ?_
    refine AK.grown [box b 83 2 [vL, .map (some mb)], row vL 3 1 xs.length (xs.map (Value.int .i64)), mapA mb (mkv (Value.int .i64) (Value.int .i64) (numM xs))] [0, 1, 2] (by decide) (by repeat (first | exact PickLe.nil | refine PickLe.cons rfl Ale.rfl ?_ | refine PickLe.cons rfl Ale.snd ?_ | refine PickLe.cons rfl Ale.fst ?_)) ?_
    refine AK.ret1 rfl rfl (fun w hw => ⟨_, _, _, ?_, rfl, Ret.ofBig0 hw⟩)
    refine ⟨vL, sL, ?_, ?_, rfl⟩
    · rw [mget_numM, if_pos hx]
      try rfl
    · rw [show insN xs x = xs from if_pos hx]

set_option maxHeartbeats 400000 in
set_option maxRecDepth 100000 in
theorem s_of0I (w : World) (F : Nat → Prop) (b : Nat) (x : Int) (hA : (bigA [box b 83 2 [.slice none 0 0, .map none]]).holds w F) : CallM Try.prog 53 [.pointer (some ⟨b, 0, none⟩), Value.int .i64 x] w F (fun r A o => ∃ va mb, IsSl va ∧ r = .int .i64 0 ∧ A = bigA [box b 83 2 [va, .map (some mb)], row va 3 1 [x].length ([x].map (Value.int .i64)), mapA mb (mkv (Value.int .i64) (Value.int .i64) (numM [x]))] ∧ o = []) := by
  refine specM_of' Try.func53 rfl (Nat.le_of_ble_eq_true rfl) hA ?_
  refine AK.ghost 3 1 ?_
  refine AK.seq (fun _ hK1 => ?_)
  refine AK.region ?_
  refine AK.val _ (Yl.assign rfl) trivial rfl ?_
  refine AK.nil ?_
  refine AK.then_ (hK1 _ ?_)
  refine AK.seq (fun _ hK2 => ?_)
  refine AK.region ?_
  refine AK.val _ (Yl.move rfl) trivial rfl ?_
  refine AK.val _ (Yl.nilCheck rfl) trivial rfl ?_
  refine AK.val _ (Yl.fieldAddr fd83_1 rfl) trivial rfl ?_
  refine AK.val _ (Yl.loadBox on79 rfl (by first | ((repeat (first | exact .hd | apply BoxS.tl | apply MapS.tl)); done) | assumption | exact BoxS.arg (by assumption)) rfl) trivial rfl ?_
  refine AK.val _ (Yl.move rfl) trivial rfl ?_
  refine AK.val _ (Yl.lookup2I (m := ([] : List (Int × Int))) mp79 (keyInt un3) el3 rfl rfl MapS.nil) trivial rfl ?_
  refine AK.val _ (Yl.move rfl) trivial rfl ?_
  refine AK.val _ (Yl.extract rfl rfl) trivial rfl ?_
  refine AK.val _ (Yl.extract rfl rfl) trivial rfl ?_
  refine AK.val _ (Yl.assign rfl) trivial rfl ?_
  refine AK.val _ (Yl.assign rfl) trivial rfl ?_
  refine AK.nil ?_
  refine AK.then_ (hK2 _ ?_)
  refine AK.seq (fun _ hK3 => ?_)
  refine AK.seq (fun _ hK4 => ?_)
  refine AK.region ?_
  refine AK.val _ (Yl.move rfl) trivial rfl ?_
  refine AK.val _ (Yl.not rfl) trivial rfl ?_
  refine AK.nil ?_
  refine AK.then_ (hK4 _ ?_)
  refine AK.cond_t rfl (rfl) ?_
  refine AK.seq (fun _ hK5 => ?_)
  refine AK.seq (fun _ hK6 => ?_)
  refine AK.region ?_
  refine AK.val _ (Yl.move rfl) trivial rfl ?_
  refine AK.val _ (Yl.nilCheck rfl) trivial rfl ?_
  refine AK.val _ (Yl.fieldAddr fd83_1 rfl) trivial rfl ?_
  refine AK.val _ (Yl.loadBox on79 rfl (by first | ((repeat (first | exact .hd | apply BoxS.tl | apply MapS.tl)); done) | assumption | exact BoxS.arg (by assumption)) rfl) trivial rfl ?_
  refine AK.val _ (Yl.eqlMap mp79 rfl) trivial rfl ?_
  refine AK.nil ?_
  refine AK.then_ (hK6 _ ?_)
  refine AK.cond_t rfl (rfl) ?_
  refine AK.region ?_
  refine AK.val _ (Yl.move rfl) trivial rfl ?_
  refine AK.makeMap trivial rfl (fun mb => ?_)
  refine AK.val _ (Yl.nilCheck rfl) trivial rfl ?_
  refine AK.val _ (Yl.fieldAddr fd83_1 rfl) trivial rfl ?_
  refine AK.storeBox 0 (us := [.map (some mb)]) (cs' := [.slice none 0 0, .map (some mb)]) rfl sz79 rfl rfl rfl rfl (by repeat (first | exact one'_nil | refine one'_cons (by first | rfl | exact IsSl.one (by assumption) | exact IsSl.one nilSl) ?_)) (Nat.le_of_ble_eq_true rfl) rfl trivial ?_
  refine AK.nil ?_
  refine AK.then_ (hK5 _ ?_)
  refine AK.seq (fun _ hK7 => ?_)
  refine AK.region ?_
  refine AK.val _ (Yl.move rfl) trivial rfl ?_
  refine AK.val _ (Yl.nilCheck rfl) trivial rfl ?_
  refine AK.val _ (Yl.fieldAddr fd83_0 rfl) trivial rfl ?_
  refine AK.val _ (Yl.loadBox on26 rfl (by first | ((repeat (first | exact .hd | apply BoxS.tl | apply MapS.tl)); done) | assumption | exact BoxS.arg (by assumption)) rfl) trivial rfl ?_
  refine AK.val _ (Yl.lenR sl26 rfl (by first | exact .arg ‹_› | ((repeat (first | exact .hd | apply RdS.tl)); done) | assumption)) trivial rfl ?_
  refine AK.val _ (Yl.assign rfl) trivial rfl ?_
  refine AK.nil ?_
  refine AK.then_ (hK7 _ ?_)
  refine AK.seq (fun _ hK8 => ?_)
  refine AK.region ?_
  refine AK.val _ (Yl.move rfl) trivial rfl ?_
  refine AK.val _ (Yl.nilCheck rfl) trivial rfl ?_
  refine AK.val _ (Yl.fieldAddr fd83_1 rfl) trivial rfl ?_
  refine AK.val _ (Yl.loadBox on79 rfl (by first | ((repeat (first | exact .hd | apply BoxS.tl | apply MapS.tl)); done) | assumption | exact BoxS.arg (by assumption)) rfl) trivial rfl ?_
  refine AK.val _ (Yl.move rfl) trivial rfl ?_
  refine AK.val _ (Yl.move rfl) trivial rfl ?_
  refine AK.mapSet 2 (m := ([] : List (Int × Int))) rfl mp79 (keyInt un3) rfl rfl rfl trivial ?_
  refine AK.nil ?_
  refine AK.then_ (hK8 _ ?_)
  refine AK.region ?_
  refine AK.val _ (Yl.move rfl) trivial rfl ?_
  refine AK.val _ (Yl.move rfl) trivial rfl ?_
  refine AK.val _ (Yl.nilCheck rfl) trivial rfl ?_
  refine AK.val _ (Yl.fieldAddr fd83_0 rfl) trivial rfl ?_
  refine AK.val _ (Yl.loadBox on26 rfl (by first | ((repeat (first | exact .hd | apply BoxS.tl | apply MapS.tl)); done) | assumption | exact BoxS.arg (by assumption)) rfl) trivial rfl ?_
  refine AK.val _ (Yl.move rfl) trivial rfl ?_
  refine AK.append1 1 rfl sl26 el3 rfl (by decide) rfl (by intro k hk; cases hk; rfl) rfl (by intro u hu; simp [Value.cells] at hu; subst hu; rfl) (by omega) (by omega) (by decide) rfl rfl (fun va _ hsa => ?_)
  refine AK.val _ (Yl.nilCheck rfl) trivial rfl ?_
  refine AK.val _ (Yl.fieldAddr fd83_0 rfl) trivial rfl ?_
  refine AK.storeBox 0 (us := [va]) (cs' := [va, .map (some mb)]) rfl sz26 rfl rfl (by rw [IsSl.cells (by assumption)]) rfl (by repeat (first | exact one'_nil | refine one'_cons (by first | rfl | exact IsSl.one (by assumption) | exact IsSl.one nilSl) ?_)) (Nat.le_of_ble_eq_true rfl) rfl trivial ?_
  refine AK.nil ?_
  refine AK.then_ (hK3 _ ?_)
  refine AK.seq (fun _ hK9 => ?_)
  refine AK.region ?_
  refine AK.val _ (Yl.move rfl) trivial rfl ?_
  refine AK.val _ (Yl.assign rfl) trivial rfl ?_
  refine AK.nil ?_
  refine AK.then_ (hK9 _ ?_)
  refine AK.ret ?_
  refine AK.grown [box b 83 2 [va, .map (some mb)], row va 3 1 (0 + 1) ([] ++ (Value.int .i64 x).cells.toList), mapA mb (mkv (Value.int .i64) (Value.int .i64) (mset ([] : List (Int × Int)) x ((0 : Nat) : Int)))] [0, 1, 2] (by decide) (by repeat (first | exact PickLe.nil | refine PickLe.cons rfl Ale.rfl ?_ | refine PickLe.cons rfl Ale.snd ?_ | refine PickLe.cons rfl Ale.fst ?_)) ?_
  refine AK.ret1 rfl rfl (fun w hw => ⟨_, _, _, ?_, rfl, Ret.ofBig0 hw⟩)
  exact ⟨va, mb, hsa, rfl, rfl, rfl⟩

set_option maxHeartbeats 1000000 in
set_option maxRecDepth 100000 in
theorem s_exploreI (w : World) (L : Nat) (s : Int) (f : Int → Nat → Int) (g : Int → Bool) (U : List Int) (fN fG : Nat) (cN cG : List Value) (hL : 1 ≤ L ∧ L ≤ 6) (hs : s ∈ U) (hU : U.length ≤ 512) (hf : ∀ q ∈ U, ∀ x, x < L → f q x ∈ U) (hcN : CallOk Try.prog fN) (hcG : CallOk Try.prog fG) (hN : ∀ w', FrameX (fun _ => False) w w' → ∀ q ∈ U, ∀ x, x < L → CallS Try.prog fN ([(Value.int .i64 q), .int .i64 (x : Int)] ++ cN) w' (fun r o => r = (Value.int .i64 (f q x)) ∧ o = [])) (hG : ∀ w', FrameX (fun _ => False) w w' → ∀ q ∈ U, CallS Try.prog fG ([(Value.int .i64 q)] ++ cG) w' (fun r o => r = .bool (g q) ∧ o = [])) : CallS Try.prog 41 [.int .i64 (L : Int), Value.int .i64 s, .func (.func fN) #[] cN.toArray, .func (.func fG) #[] cG.toArray] w (fun r o => ∃ (n : Nat) (vL vF vN : Value) (rs : List Value), n = (exI f L s 0 n).length ∧ rs.length = n ∧ IsSl vL ∧ IsSl vF ∧ IsSl vN ∧ r = .tuple #[.agg #[.int .i64 (L : Int), .int .i64 0, vF, vN], vL, .int .i64 0] ∧ o = dfaO 4 3 26 vF vN rs ⟨(L : Int), 0, (exG f L s 0 g n), (exN f L s 0 n)⟩ ++ [row vL 3 1 (exI f L s 0 n).length ((exI f L s 0 n).map (Value.int .i64))]) := by
  have hok := exI_ok (z := 0) hs hf
  have hbd := exI_bd (z := 0) hs hf
  refine spec_of Try.func41 rfl (Nat.le_of_ble_eq_true rfl) ?_
  refine AK.seq (fun _ hK1 => ?_)
  refine AK.region ?_
  refine AK.alloc el25 rfl rfl trivial rfl (fun bx8 => ?_)
  refine AK.val _ (Yl.assign rfl) trivial rfl ?_
  refine AK.val _ (Yl.assign rfl) trivial rfl ?_
  refine AK.nil ?_
  refine AK.then_ (hK1 _ ?_)
  refine AK.seq (fun _ hK2 => ?_)
  refine AK.region ?_
  refine AK.alloc el83 rfl rfl trivial rfl (fun bx11 => ?_)
  refine AK.nil ?_
  refine AK.then_ (hK2 _ ?_)
  refine AK.seq (fun _ hK3 => ?_)
  refine AK.region ?_
  refine AK.val _ (Yl.move rfl) trivial rfl ?_
  refine AK.own' [bigA [box bx11 83 2 [.slice none 0 0, .map none]], box bx8 25 4 [.int .i64 0, .int .i64 0, .slice none 0 0, .slice none 0 0]] (fun w hw => HW.unflat (l := [_]) (own := [_]) (hw.pick [1, 0] (by decide) rfl rfl)) ?_
  refine AK.callM 0 rfl co53 rfl (fun w F hw hA => s_of0I w F bx11 s hA) trivial rfl ?_
  rintro r A o ⟨vl, mb, sl0, rfl, rfl, rfl⟩
  refine AK.flat0 rfl ?_
  refine AK.nil ?_
  refine AK.then_ (hK3 _ ?_)
  refine AK.seq (fun _ hK4 => ?_)
  refine AK.region ?_
  refine AK.val _ (Yl.move rfl) trivial rfl ?_
  refine AK.val _ (Yl.build (parts := [(0, .tmp 19)]) (cs := #[.int .i64 (L : Int), .int .i64 0, .slice none 0 0, .slice none 0 0]) rfl (by kernel_rfl)) trivial rfl ?_
  refine AK.alloc el25 rfl rfl trivial rfl (fun bx12 => ?_)
  refine AK.storeBox 4 (us := [.int .i64 (L : Int), .int .i64 0, .slice none 0 0, .slice none 0 0]) (cs' := [.int .i64 (L : Int), .int .i64 0, .slice none 0 0, .slice none 0 0]) rfl sz25 rfl rfl rfl rfl (by repeat (first | exact one'_nil | refine one'_cons (by first | rfl | exact IsSl.one (by assumption) | exact IsSl.one nilSl) ?_)) (Nat.le_of_ble_eq_true rfl) rfl trivial ?_
  refine AK.nil ?_
  refine AK.then_ (hK4 _ ?_)
  refine AK.seq (fun _ hK5 => ?_)
  refine AK.seq (fun _ hK6 => ?_)
  refine AK.region ?_
  refine AK.val _ (Yl.assign rfl) trivial rfl ?_
  refine AK.nil ?_
  refine AK.then_ (hK6 _ ?_)
  refine AK.block ?_
  refine AK.loopS (X := Nat × Value × Value × Value × List Value) [0, 2, 3, 8, 11, 12] (fun x => [(13, .int .i64 (x.1 : Int))]) (fun x => [box bx11 83 2 [x.2.1, .map (some mb)], row x.2.1 3 1 (exI f L s 0 x.1).length ((exI f L s 0 x.1).map (Value.int .i64)), mapA mb (mkv (Value.int .i64) (Value.int .i64) (numM (exI f L s 0 x.1))), box bx8 25 4 [.int .i64 0, .int .i64 0, .slice none 0 0, .slice none 0 0], box bx12 25 4 [.int .i64 (L : Int), .int .i64 0, x.2.2.1, x.2.2.2.1], row x.2.2.1 4 1 x.1 ((exG f L s 0 g x.1).map Value.bool), row x.2.2.2.1 26 1 x.1 x.2.2.2.2, bigA (matG (Value.int .i64) 3 x.2.2.2.2 (exN f L s 0 x.1))]) (fun x => x.1 ≤ (exI f L s 0 x.1).length ∧ x.2.2.2.2.length = x.1 ∧ IsSl x.2.1 ∧ IsSl x.2.2.1 ∧ IsSl x.2.2.2.1) (fun x => U.length - x.1) ((0, vl, .slice none 0 0, .slice none 0 0, [])) ?_ ?_ ?_ ?_
  · exact ⟨Nat.zero_le _, rfl, sl0, nilSl, nilSl⟩
  · exact .cons (rfl) (.nil)
  · exact fun w hw => by have h1 := ((hw.ghostG (f := Value.int .i64) 3).ghost 4 1).ghost 26 1; exact h1.pick [0, 1, 2, 3, 4, 6, 7, 5] (by decide) rfl rfl
  · intro x hg0 _ hK7
    have hb0 := hbd x.1
    have hsF := hg0.2.2.2.1
    have hsN := hg0.2.2.2.2
    refine AK.seq (fun _ hK8 => ?_)
    refine AK.seq (fun _ hK9 => ?_)
    refine AK.region ?_
    refine AK.val _ (Yl.move rfl) trivial rfl ?_
    refine AK.val _ (Yl.fieldAddr fd83_0 rfl) trivial rfl ?_
    refine AK.val _ (Yl.loadBox on26 rfl (by first | ((repeat (first | exact .hd | apply BoxS.tl | apply MapS.tl)); done) | assumption | exact BoxS.arg (by assumption)) rfl) trivial rfl ?_
    refine AK.val _ (Yl.lenR sl26 rfl (by first | exact .arg ‹_› | ((repeat (first | exact .hd | apply RdS.tl)); done) | assumption)) trivial rfl ?_
    refine AK.val _ (Yl.lss rfl rfl) trivial rfl ?_
    refine AK.nil ?_
    refine AK.then_ (hK9 _ ?_)
    refine AK.condD rfl (fun hc0 => ?_) (fun hc0 => ?_)
    · have hlt : x.1 < (exI f L s 0 x.1).length := (by omega)
      have hqU : ((exI f L s 0 x.1).getD x.1 0) ∈ U := (hok x.1).2 _ (getD_mem hlt)
      have hrb := fun k hk => exR_bd (z := 0) hs hf (k := k) hlt hk
      refine AK.skip ?_
      refine AK.then_ (hK8 _ ?_)
      refine AK.seq (fun _ hK10 => ?_)
      refine AK.block ?_
      refine AK.seq (fun _ hK11 => ?_)
      refine AK.region ?_
      refine AK.val _ (Yl.fieldAddr fd83_0 rfl) trivial rfl ?_
      refine AK.val _ (Yl.loadBox on26 rfl (by first | ((repeat (first | exact .hd | apply BoxS.tl | apply MapS.tl)); done) | assumption | exact BoxS.arg (by assumption)) rfl) trivial rfl ?_
      refine AK.val _ (Yl.move rfl) trivial rfl ?_
      first | refine AK.val _ (Yl.idxN sl26 rfl rfl (by first | exact .arg ‹_› | ((repeat (first | exact .hd | apply RdS.tl)); done) | assumption) (by decide) (by omega)) trivial rfl ?_ | refine AK.val _ (Yl.idx sl26 rfl rfl (by first | exact .arg ‹_› | ((repeat (first | exact .hd | apply RdS.tl)); done) | assumption) (by decide) (by omega)) trivial rfl ?_ | refine AK.val _ (Yl.idxK sl26 rfl rfl (by first | exact .arg ‹_› | ((repeat (first | exact .hd | apply RdS.tl)); done) | assumption) (by decide) (by omega)) trivial rfl ?_
      refine AK.val _ (Yl.loadI on3 rfl (by first | exact .arg ‹_› | ((repeat (first | exact .hd | apply RdS.tl)); done) | assumption) (by omega)) trivial rfl ?_
      refine AK.val _ (Yl.assign rfl) trivial rfl ?_
      refine AK.nil ?_
      refine AK.then_ (hK11 _ ?_)
      refine AK.seq (fun _ hK12 => ?_)
      refine AK.region ?_
      refine AK.val _ (Yl.move rfl) trivial rfl ?_
      refine AK.make1 (n := L) sl26 el3 rfl rfl rfl (by omega) (by omega) trivial rfl (fun mv => ?_)
      refine AK.val _ (Yl.assign rfl) trivial rfl ?_
      refine AK.nil ?_
      refine AK.then_ (hK12 _ ?_)
      refine AK.seq (fun _ hK13 => ?_)
      refine AK.seq (fun _ hK14 => ?_)
      refine AK.region ?_
      refine AK.val _ (Yl.move rfl) trivial rfl ?_
      refine AK.val _ (Yl.lenR sl26 rfl (by first | exact .arg ‹_› | ((repeat (first | exact .hd | apply RdS.tl)); done) | assumption)) trivial rfl ?_
      refine AK.val _ (Yl.move rfl) trivial rfl ?_
      refine AK.nil ?_
      refine AK.then_ (hK14 _ ?_)
      refine AK.block ?_
      refine AK.loopS (X := Nat × Value) [0, 2, 3, 8, 11, 12, 13, 14, 15, 36] (fun y => [(37, .int .i64 (y.1 : Int))]) (fun y => [box bx11 83 2 [y.2, .map (some mb)], row y.2 3 1 (exR f ((exI f L s 0 x.1).getD x.1 0) (exI f L s 0 x.1) y.1).length ((exR f ((exI f L s 0 x.1).getD x.1 0) (exI f L s 0 x.1) y.1).map (Value.int .i64)), mapA mb (mkv (Value.int .i64) (Value.int .i64) (numM (exR f ((exI f L s 0 x.1).getD x.1 0) (exI f L s 0 x.1) y.1))), box bx8 25 4 [.int .i64 0, .int .i64 0, .slice none 0 0, .slice none 0 0], box bx12 25 4 [.int .i64 (L : Int), .int .i64 0, x.2.2.1, x.2.2.2.1], row x.2.2.1 4 1 x.1 ((exG f L s 0 g x.1).map Value.bool), row x.2.2.2.1 26 1 x.1 x.2.2.2.2, bigA (matG (Value.int .i64) 3 x.2.2.2.2 (exN f L s 0 x.1)), row mv 3 1 L (((exW f ((exI f L s 0 x.1).getD x.1 0) (exI f L s 0 x.1) y.1) ++ List.replicate (L - y.1) 0).map (Value.int .i64))]) (fun y => y.1 ≤ L ∧ IsSl y.2) (fun y => L - y.1) ((0, x.2.1)) ?_ ?_ ?_ ?_
      · exact ⟨Nat.zero_le _, hg0.2.2.1⟩
      · exact .cons (rfl) (.nil)
      · exact fun w hw => by have e : (((exW f ((exI f L s 0 x.1).getD x.1 0) (exI f L s 0 x.1) 0) ++ List.replicate (L - 0) 0).map (Value.int .i64)) = List.replicate L (Value.int .i64 0) := (by simp [exW]); rw [e]; exact hw
      · intro y hg1 _ hK15
        refine AK.seq (fun _ hK16 => ?_)
        refine AK.region ?_
        refine AK.val _ (Yl.lss rfl rfl) trivial rfl ?_
        refine AK.nil ?_
        refine AK.then_ (hK16 _ ?_)
        refine AK.seq (fun _ hK17 => ?_)
        refine AK.condD rfl (fun hc1 => ?_) (fun hc1 => ?_)
        · refine AK.skip ?_
          refine AK.then_ (hK17 _ ?_)
          refine AK.seq (fun _ hK18 => ?_)
          refine AK.block ?_
          refine AK.seq (fun _ hK19 => ?_)
          refine AK.region ?_
          refine AK.val _ (Yl.move rfl) trivial rfl ?_
          refine AK.val _ (Yl.assign rfl) trivial rfl ?_
          refine AK.nil ?_
          refine AK.then_ (hK19 _ ?_)
          refine AK.region ?_
          refine AK.val _ (Yl.move rfl) trivial rfl ?_
          refine AK.val _ (Yl.move rfl) trivial rfl ?_
          refine AK.val _ (Yl.move rfl) trivial rfl ?_
          refine AK.val _ (Yl.move rfl) trivial rfl ?_
          refine AK.val _ (Yl.move rfl) trivial rfl ?_
          refine AK.callV hcN rfl rfl (fun w hw => hN w hw.frame _ hqU y.1 (by omega)) trivial rfl ?_
          rintro r o ⟨rfl, rfl⟩
          refine AK.own' (bigA [box bx11 83 2 [y.2, .map (some mb)], row y.2 3 1 (exR f ((exI f L s 0 x.1).getD x.1 0) (exI f L s 0 x.1) y.1).length ((exR f ((exI f L s 0 x.1).getD x.1 0) (exI f L s 0 x.1) y.1).map (Value.int .i64)), mapA mb (mkv (Value.int .i64) (Value.int .i64) (numM (exR f ((exI f L s 0 x.1).getD x.1 0) (exI f L s 0 x.1) y.1)))] :: [box bx8 25 4 [.int .i64 0, .int .i64 0, .slice none 0 0, .slice none 0 0], box bx12 25 4 [.int .i64 (L : Int), .int .i64 0, x.2.2.1, x.2.2.2.1], row x.2.2.1 4 1 x.1 ((exG f L s 0 g x.1).map Value.bool), row x.2.2.2.1 26 1 x.1 x.2.2.2.2, bigA (matG (Value.int .i64) 3 x.2.2.2.2 (exN f L s 0 x.1)), row mv 3 1 L (((exW f ((exI f L s 0 x.1).getD x.1 0) (exI f L s 0 x.1) y.1) ++ List.replicate (L - y.1) 0).map (Value.int .i64))]) (fun w hw => HW.unflat (l := [_, _, _]) (own := [_, _, _, _, _, _]) (hw.pick [0, 1, 2, 3, 4, 5, 6, 7, 8] (by decide) rfl rfl)) ?_
          refine AK.callM 0 rfl co53 rfl (fun w F hw hA => s_ofI w F bx11 mb y.2 (exR f ((exI f L s 0 x.1).getD x.1 0) (exI f L s 0 x.1) y.1) (f ((exI f L s 0 x.1).getD x.1 0) y.1) (by have := hrb y.1 (by omega); omega) hg1.2 hA) trivial rfl ?_
          rintro r A o ⟨va, sa, rfl, rfl, rfl⟩
          refine AK.flat0 rfl ?_
          first | refine AK.val _ (Yl.idxN sl26 rfl rfl (by first | exact .arg ‹_› | ((repeat (first | exact .hd | apply RdS.tl)); done) | assumption) (by decide) (by omega)) trivial rfl ?_ | refine AK.val _ (Yl.idx sl26 rfl rfl (by first | exact .arg ‹_› | ((repeat (first | exact .hd | apply RdS.tl)); done) | assumption) (by decide) (by omega)) trivial rfl ?_ | refine AK.val _ (Yl.idxK sl26 rfl rfl (by first | exact .arg ‹_› | ((repeat (first | exact .hd | apply RdS.tl)); done) | assumption) (by decide) (by omega)) trivial rfl ?_
          refine AK.store1e 8 rfl sz3 rfl rfl rfl rfl (by omega) (cs' := (((exW f ((exI f L s 0 x.1).getD x.1 0) (exI f L s 0 x.1) (y.1 + 1)) ++ List.replicate (L - (y.1 + 1)) 0).map (Value.int .i64))) (by exact fill_set (Value.int .i64) (exW f ((exI f L s 0 x.1).getD x.1 0) (exI f L s 0 x.1) y.1) 0 _ L y.1 (exW_len _ _ _ _) (by omega)) trivial ?_
          refine AK.nil ?_
          refine AK.block_normal ?_
          refine AK.then_ (hK18 _ ?_)
          refine AK.region ?_
          refine AK.val _ (Yl.add rfl rfl (by omega)) trivial rfl ?_
          refine AK.val _ (Yl.move rfl) trivial rfl ?_
          refine AK.nil ?_
          refine AK.then_ (hK15 _ _ ((y.1 + 1, va)) ⟨by dsimp only; omega, sa⟩ (by dsimp only; omega) (.cons (rfl) (.cons rfl (.cons rfl (.cons rfl (.cons rfl (.cons rfl (.cons rfl (.cons rfl (.cons rfl (.cons rfl (.cons rfl (.nil)))))))))))) (fun w hw => hw))
        · refine AK.shape 8 rfl (fun hsr => ?_)
          have hyL : y.1 = L := (by omega)
          refine AK.exit ?_
          refine AK.then_exit ?_
          refine AK.then_exit ?_
          refine AK.block_exit ?_
          refine AK.then_ (hK13 _ ?_)
          refine AK.seq (fun _ hK20 => ?_)
          refine AK.seq (fun _ hK21 => ?_)
          refine AK.region ?_
          refine AK.val _ (Yl.fieldAddr fd83_0 rfl) trivial rfl ?_
          refine AK.val _ (Yl.loadBox on26 rfl (by first | ((repeat (first | exact .hd | apply BoxS.tl | apply MapS.tl)); done) | assumption | exact BoxS.arg (by assumption)) rfl) trivial rfl ?_
          refine AK.val _ (Yl.lenR sl26 rfl (by first | exact .arg ‹_› | ((repeat (first | exact .hd | apply RdS.tl)); done) | assumption)) trivial rfl ?_
          refine AK.val _ (Yl.gtr rfl rfl) trivial rfl ?_
          refine AK.nil ?_
          refine AK.then_ (hK21 _ ?_)
          refine AK.cond_f rfl (decide_eq_false (by have := hrb y.1 (by omega); omega)) ?_
          refine AK.skip ?_
          refine AK.then_ (hK20 _ ?_)
          refine AK.seq (fun _ hK22 => ?_)
          refine AK.region ?_
          refine AK.val _ (Yl.fieldAddr fd25_3 rfl) trivial rfl ?_
          refine AK.val _ (Yl.loadBox on23 rfl (by first | ((repeat (first | exact .hd | apply BoxS.tl | apply MapS.tl)); done) | assumption | exact BoxS.arg (by assumption)) rfl) trivial rfl ?_
          refine AK.val _ (Yl.move rfl) trivial rfl ?_
          refine AK.append1 6 rfl sl23 el26 rfl (by decide) rfl (by intro k hk; cases hk; rfl) (by rw [hsr.cells]; rfl) (by rw [hsr.cells]; exact one'_cons hsr.one one'_nil) (by omega) (by omega) (by decide) rfl rfl (fun vn2 _ hn2 => ?_)
          refine AK.val _ (Yl.fieldAddr fd25_3 rfl) trivial rfl ?_
          refine AK.storeBox 4 (us := [vn2]) (cs' := [.int .i64 (L : Int), .int .i64 0, x.2.2.1, vn2]) rfl sz23 rfl rfl (by rw [IsSl.cells (by assumption)]) rfl (by repeat (first | exact one'_nil | refine one'_cons (by first | rfl | exact IsSl.one (by assumption) | exact IsSl.one nilSl) ?_)) (Nat.le_of_ble_eq_true rfl) rfl trivial ?_
          refine AK.nil ?_
          refine AK.then_ (hK22 _ ?_)
          try (conv => enter [2, 2]; dsimp only [List.set_cons_zero, List.set_cons_succ, List.cons_append, List.nil_append])
          refine AK.held 8 mixed ?_
          refine HeldK.first 0 (fuel := 8) (listed' := #[true, false, false, false, false, false, false, false, false]) _ rfl (by kernel_rfl) rfl rfl (Yl.fieldAddr fd25_2 rfl) trivial rfl ?_
          refine HeldK.first 1 (fuel := 7) (listed' := #[true, true, false, false, false, false, false, false, false]) _ rfl (by kernel_rfl) rfl rfl (Yl.loadBox on22 rfl (by first | ((repeat (first | exact .hd | apply BoxS.tl | apply MapS.tl)); done) | assumption | exact BoxS.arg (by assumption)) rfl) trivial rfl ?_
          refine HeldK.first 2 (fuel := 6) (listed' := #[true, true, true, false, false, false, false, false, false]) _ rfl (by kernel_rfl) rfl rfl (Yl.move rfl) trivial rfl ?_
          refine HeldK.first 3 (fuel := 5) (listed' := #[true, true, true, true, false, false, false, false, false]) _ rfl (by kernel_rfl) rfl rfl (Yl.move rfl) trivial rfl ?_
          refine HeldK.one 4 (fuel := 4) (listed' := #[true, true, true, true, true, false, false, false, false]) (by kernel_rfl) rfl rfl ?_
          refine AK.callV hcG rfl rfl (fun w hw => hG w hw.frame _ hqU) trivial rfl ?_
          rintro r o ⟨rfl, rfl⟩
          refine AK.nil ?_
          try (conv => enter [2, 2]; dsimp only [List.set_cons_zero, List.set_cons_succ, List.cons_append, List.nil_append])
          refine HeldK.back (by repeat (first | exact HWle.nil | refine HWle.cons Ale.rfl ?_ | refine HWle.cons Ale.fst ?_)) ?_
          refine HeldK.one 5 (fuel := 3) (listed' := #[true, true, true, true, true, true, false, false, false]) (by kernel_rfl) rfl rfl ?_
          refine AK.lit (xs := [.tmp 64]) sl22 el4 rfl rfl rfl (by simp [Value.cells]) (by decide) (by decide) trivial rfl (fun lg => ?_)
          refine AK.nil ?_
          try (conv => enter [2, 2]; dsimp only [List.set_cons_zero, List.set_cons_succ, List.cons_append, List.nil_append])
          refine HeldK.back (by repeat (first | exact HWle.nil | refine HWle.cons Ale.rfl ?_ | refine HWle.cons Ale.fst ?_)) ?_
          refine HeldK.one 6 (fuel := 2) (listed' := #[true, true, true, true, true, true, true, false, false]) (by kernel_rfl) rfl rfl ?_
          refine AK.appendH 5 rfl sl22 el4 rfl (by decide) rfl rfl rfl (by first | exact .arg ‹_› | ((repeat (first | exact .hd | apply RdS.tl)); done) | assumption) (by repeat (first | exact one'_nil | refine one'_cons (by first | rfl | exact IsSl.one (by assumption) | exact IsSl.one nilSl) ?_)) (by omega) (by omega) trivial rfl (fun vf2 hf2 => ?_)
          refine AK.nil ?_
          try (conv => enter [2, 2]; dsimp only [List.set_cons_zero, List.set_cons_succ, List.cons_append, List.nil_append])
          refine HeldK.back (by repeat (first | exact HWle.nil | refine HWle.cons Ale.rfl ?_ | refine HWle.cons Ale.fst ?_)) ?_
          refine HeldK.first 7 (fuel := 1) (listed' := #[true, true, true, true, true, true, true, true, false]) _ rfl (by kernel_rfl) rfl rfl (Yl.fieldAddr fd25_2 rfl) trivial rfl ?_
          refine HeldK.one 8 (fuel := 0) (listed' := #[true, true, true, true, true, true, true, true, true]) (by kernel_rfl) rfl rfl ?_
          refine AK.storeBox 4 (us := [vf2]) (cs' := [.int .i64 (L : Int), .int .i64 0, vf2, vn2]) rfl sz22 rfl rfl (by rw [IsSl.cells (by assumption)]) rfl (by repeat (first | exact one'_nil | refine one'_cons (by first | rfl | exact IsSl.one (by assumption) | exact IsSl.one nilSl) ?_)) (Nat.le_of_ble_eq_true rfl) rfl trivial ?_
          refine AK.nil ?_
          try (conv => enter [2, 2]; dsimp only [List.set_cons_zero, List.set_cons_succ, List.cons_append, List.nil_append])
          refine HeldK.backN 9 rfl rfl (by kernel_rfl) ?_
          refine AK.nil ?_
          refine AK.fromQn ?_
          refine AK.block_normal ?_
          refine AK.then_ (hK10 _ ?_)
          refine AK.region ?_
          refine AK.val _ (Yl.move rfl) trivial rfl ?_
          refine AK.val _ (Yl.add rfl rfl (by omega)) trivial rfl ?_
          refine AK.val _ (Yl.assign rfl) trivial rfl ?_
          refine AK.nil ?_
          refine AK.then_ (hK7 _ _ ((x.1 + 1, y.2, vf2, vn2, x.2.2.2.2 ++ [mv])) ⟨by dsimp only; rw [exI_next hlt]; have := exR_pre f ((exI f L s 0 x.1).getD x.1 0) (exI f L s 0 x.1) L; obtain ⟨ys, e⟩ := this; rw [e, List.length_append]; omega, by simp [hg0.2.1], hg1.2, hf2, hn2⟩ (by dsimp only; omega) (.cons (rfl) (.cons rfl (.cons rfl (.cons rfl (.cons rfl (.cons rfl (.cons rfl (.nil)))))))) (fun w hw => by
    dsimp only
    have e2 : matG (Value.int .i64) 3 (x.2.2.2.2 ++ [mv]) (exN f L s 0 (x.1 + 1)) = matG (Value.int .i64) 3 x.2.2.2.2 (exN f L s 0 x.1) ++ [row mv 3 1 (exW f ((exI f L s 0 x.1).getD x.1 0) (exI f L s 0 x.1) L).length ((exW f ((exI f L s 0 x.1).getD x.1 0) (exI f L s 0 x.1) L).map (Value.int .i64))] := matG_snoc (by rw [exN_len]; exact hg0.2.1) mv _
    have e3 : mv.cells.toList = [mv] := (by rw [hsr.cells])
    have e4 : L - y.1 = 0 := (by omega)
    rw [e3, e4] at hw
    rw [e2, exI_next hlt, exW_len]
    rw [hyL] at hw
    have e5 : (exG f L s 0 g (x.1 + 1)).map Value.bool = (exG f L s 0 g x.1).map Value.bool ++ [Value.bool (g ((exI f L s 0 x.1).getD x.1 0))].flatMap (·.cells.toList) := (by simp [exG, Value.cells])
    rw [e5]
    have h2 := hw.pickLe (L := [_, _, _, _, _, row vf2 4 1 (x.1 + 1) ((exG f L s 0 g x.1).map Value.bool ++ [Value.bool (g ((exI f L s 0 x.1).getD x.1 0))].flatMap (·.cells.toList)), _, _, _]) [0, 1, 2, 3, 4, 5, 6, 7, 8] (by decide) (by repeat (first | exact PickLe.nil | refine PickLe.cons rfl Ale.rfl ?_ | refine PickLe.cons rfl Ale.snd ?_ | refine PickLe.cons rfl Ale.fst ?_))
    rw [List.replicate_zero, List.append_nil] at h2
    exact HW.absorb (own := [_, _, _, _, _, _, _, _]) 7 rfl h2))
    · refine AK.exit ?_
      refine AK.then_exit ?_
      refine AK.then_exit ?_
      refine AK.block_exit ?_
      refine AK.then_ (hK5 _ ?_)
      refine AK.seq (fun _ hK23 => ?_)
      try (conv => enter [2, 2]; dsimp only [List.set_cons_zero, List.set_cons_succ, List.cons_append, List.nil_append])
      refine AK.heldS _ 6 (fun _ hw => hw.pick [0, 1, 2, 4, 5, 6, 7] (by decide) rfl rfl) mixed ?_
      refine HeldK.firstS (fun _ hw => hw.pick [0, 1, 2, 4, 5, 6, 7] (by decide) rfl rfl) 0 (fuel := 5) (listed' := #[true, false, false, false, false, false]) _ rfl (by kernel_rfl) rfl rfl (Yl.loadBoxG ag25 rfl (by first | ((repeat (first | exact .hd | apply BoxS.tl | apply MapS.tl)); done) | assumption | exact BoxS.arg (by assumption)) rfl rfl) trivial rfl ?_
      refine HeldK.firstS (fun _ hw => hw.pick [0, 1, 2, 4, 5, 6, 7] (by decide) rfl rfl) 1 (fuel := 4) (listed' := #[true, true, false, false, false, false]) _ rfl (by kernel_rfl) rfl rfl (Yl.fieldAddr fd83_0 rfl) trivial rfl ?_
      refine HeldK.firstS (fun _ hw => hw.pick [0, 1, 2, 4, 5, 6, 7] (by decide) rfl rfl) 2 (fuel := 3) (listed' := #[true, true, true, false, false, false]) _ rfl (by kernel_rfl) rfl rfl (Yl.loadBox on26 rfl (by first | ((repeat (first | exact .hd | apply BoxS.tl | apply MapS.tl)); done) | assumption | exact BoxS.arg (by assumption)) rfl) trivial rfl ?_
      refine HeldK.one 3 (fuel := 2) (listed' := #[true, true, true, true, false, false]) (by kernel_rfl) rfl rfl ?_
      refine AK.storeBox 3 (us := [.int .i64 (L : Int), .int .i64 0, x.2.2.1, x.2.2.2.1]) (cs' := [.int .i64 (L : Int), .int .i64 0, x.2.2.1, x.2.2.2.1]) rfl sz25 rfl rfl rfl rfl (by repeat (first | exact one'_nil | refine one'_cons (by first | rfl | exact IsSl.one (by assumption) | exact IsSl.one nilSl) ?_)) (Nat.le_of_ble_eq_true rfl) rfl trivial ?_
      refine AK.nil ?_
      try (conv => enter [2, 2]; dsimp only [List.set_cons_zero, List.set_cons_succ, List.cons_append, List.nil_append])
      refine HeldK.backS (fun _ hw => hw.pick [0, 1, 2, 4, 5, 6, 7] (by decide) rfl rfl) ?_
      refine HeldK.firstS (fun _ hw => hw.pick [0, 1, 2, 4, 5, 6, 7] (by decide) rfl rfl) 4 (fuel := 1) (listed' := #[true, true, true, true, true, false]) _ rfl (by kernel_rfl) rfl rfl (Yl.assign rfl) trivial rfl ?_
      refine HeldK.firstS (fun _ hw => hw.pick [0, 1, 2, 4, 5, 6, 7] (by decide) rfl rfl) 5 (fuel := 0) (listed' := #[true, true, true, true, true, true]) _ rfl (by kernel_rfl) rfl rfl (Yl.assign rfl) trivial rfl ?_
      refine HeldK.done (by kernel_rfl) ?_
      refine AK.then_ (hK23 _ ?_)
      refine AK.ret ?_
      refine AK.own' ([box bx11 83 2 [x.2.1, .map (some mb)], row x.2.1 3 1 (exI f L s 0 x.1).length ((exI f L s 0 x.1).map (Value.int .i64)), mapA mb (mkv (Value.int .i64) (Value.int .i64) (numM (exI f L s 0 x.1))), box bx8 25 4 [.int .i64 (L : Int), .int .i64 0, x.2.2.1, x.2.2.2.1], box bx12 25 4 [.int .i64 (L : Int), .int .i64 0, x.2.2.1, x.2.2.2.1], row x.2.2.1 4 1 x.1 ((exG f L s 0 g x.1).map Value.bool), row x.2.2.2.1 26 1 x.1 x.2.2.2.2, bigA (matG (Value.int .i64) 3 x.2.2.2.2 (exN f L s 0 x.1))]) (fun w hw => hw) ?_
      refine AK.retG [.cell 8 25, .tmp 9, .tmp 10] rfl (.cons (.cell ag25 rfl (by first | ((repeat (first | exact .hd | apply BoxS.tl | apply MapS.tl)); done) | assumption | exact BoxS.arg (by assumption)) rfl rfl) (.cons (.tmp rfl) (.cons (.tmp rfl) (.nil)))) (fun w hw => ⟨_, _, ?_, rfl, Ret.of (hw.pick [5, 6, 7, 1] (by decide) rfl rfl)⟩)
      refine ⟨x.1, x.2.1, x.2.2.1, x.2.2.2.1, x.2.2.2.2, by omega, hg0.2.1, hg0.2.2.1, hg0.2.2.2.1, hg0.2.2.2.2, rfl, ?_⟩
      unfold dfaO
      rw [exG_len, exN_len]; rfl

end Go.Proofs.Ytoikhoniogicdaa
