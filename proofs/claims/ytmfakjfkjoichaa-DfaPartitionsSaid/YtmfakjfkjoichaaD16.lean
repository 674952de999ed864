import Derived.Test.YtmfakjfkjoichaaD15
import Derived.Test.YtmfakjfkjoichaaD6
import Derived.Test.YtmfakjfkjoichaaDk
set_option linter.unusedVariables false
set_option linter.unusedSimpArgs false
namespace Go.Proofs.Ytmfakjfkjoichaa
open Go.Sx Go.RowKit
section
open Go
theorem Yl.and15 {C : Cx} {sl : List (Nat × Value)} {own : List Asn} {ty : TypeId} {pos : String} {aft : Array Edge} {g : Option (Nat × Bool)} {dst : Option Nat} {x y : Operand} {t t' : TypeId} {m : Int} (hx : opv ⟨sl, own⟩ x = some (.int .u8 m)) (hy : opv ⟨sl, own⟩ y = some (.int .u8 15)) (hm : 0 ≤ m ∧ m ≤ 255) :
    Yl C ⟨sl, own⟩ ⟨dst, .binOp .and t x y t', ty, pos, aft, g⟩ (.int .u8 (m % 16)) :=
  fun a w hs => by
    obtain ⟨k, rfl⟩ := Int.eq_ofNat_of_zero_le hm.1
    have hk : k < 256 := by omega
    have h2 : IntKind.u8.wrap (((BitVec.ofNat 8 k &&& 15#8).toNat : Nat) : Int) = ((k : Int) % 16) := by
      have h1 : (BitVec.ofNat 8 k &&& 15#8).toNat = k % 16 := by
        rw [BitVec.toNat_and]
        have e1 : (BitVec.ofNat 8 k).toNat = k := by rw [BitVec.toNat_ofNat]; omega
        have e2 : (15#8).toNat = 2 ^ 4 - 1 := by decide
        rw [e1, e2, Nat.and_two_pow_sub_one_eq_mod]
      rw [h1, IntKind.wrap_u8]; omega
    simp only [execOp, opv_eval hs hx, opv_eval hs hy]
    simp [go_sem, Op.intBits, IntKind.bits]
    exact h2
end
set_option maxHeartbeats 1000000 in
set_option maxRecDepth 100000 in
theorem l_partitions (w : World) (u v : Value) (a b : Dfa) (hu : RdD (fun _ => False) w u a) (hv : RdD (fun _ => False) w v b) (n : Int) (hn : 0 ≤ n ∧ n ≤ 255) : CallS Try.prog 13 [u, v, .int .u8 n] w (fun r o => r = .bool true ∧ o = []) := by
  have hu0 := hu
  have hv0 := hv
  obtain ⟨aF, aN, rfl, haF, haN⟩ := hu
  obtain ⟨bF, bN, rfl, hbF, hbN⟩ := hv
  unfold RdL at haF hbF
  have m1 := haF.le
  have m2 := hbF.le
  have saF := haF.sl
  have sbF := hbF.sl
  obtain ⟨ra, hra, haNr, haNi⟩ := haN
  obtain ⟨rb, hrb, hbNr, hbNi⟩ := hbN
  have saN := haNr.sl
  have sbN := hbNr.sl
  refine spec_of Try.func13 rfl (Nat.le_of_ble_eq_true rfl) ?_
  refine AK.seq (fun _ hK1 => ?_)
  refine AK.region ?_
  refine AK.box_ (E := 25) (cs := [.int .i64 a.L, .int .i64 a.s, aF, aN]) rfl rfl rfl trivial rfl (fun bx3 => ?_)
  refine AK.box_ (E := 25) (cs := [.int .i64 b.L, .int .i64 b.s, bF, bN]) rfl rfl rfl trivial rfl (fun bx4 => ?_)
  refine AK.val _ (Yl.assign rfl) trivial rfl ?_
  refine AK.nil ?_
  refine AK.then_ (hK1 _ ?_)
  refine AK.seq (fun _ hK2 => ?_)
  refine AK.seq (fun _ hK3 => ?_)
  refine AK.region ?_
  refine AK.val _ (Yl.loadBoxG ag25 rfl (by first | exact .own 0 rfl | exact .own 1 rfl | exact .own 2 rfl | exact .own 3 rfl | exact .own 4 rfl | exact .own 5 rfl | exact .own 6 rfl | exact .own 7 rfl | exact .own 8 rfl | exact .own 9 rfl | exact .own 10 rfl | exact .own 11 rfl | exact .own 12 rfl | assumption | exact BoxS.arg (by assumption)) rfl rfl) trivial rfl ?_
  refine AK.call co34 rfl (fun w hw => s_small w _ a (hu0.at hw) 10) trivial rfl ?_
  rintro r o ⟨rfl, rfl⟩
  refine AK.val _ (Yl.not rfl) trivial rfl ?_
  refine AK.val _ (Yl.move rfl) trivial rfl ?_
  refine AK.splitB (g := 17) rfl (fun hg_1_3 => ?_) (fun hg_1_3 => ?_)
  · have hg_1_3' := hg_1_3
    try simp only [decide_eq_true_eq, decide_eq_false_iff_not, Bool.not_eq_true', Bool.not_eq_false', Bool.not_not, ne_eq, Decidable.not_not, Int.not_lt, Int.not_le, beq_iff_eq, bne_iff_ne, Bool.and_eq_true, Bool.or_eq_true, Bool.or_eq_false_iff, Bool.not_false, Bool.not_true, reduceCtorEq, not_true_eq_false, not_false_eq_true] at hg_1_3'
    refine AK.pass rfl rfl (hg_1_3) rfl ?_
    refine AK.pass rfl rfl (hg_1_3) rfl ?_
    refine AK.pass rfl rfl (hg_1_3) rfl ?_
    refine AK.val _ (Yl.pickT rfl (hg_1_3) rfl) trivial rfl ?_
    refine AK.val _ (Yl.move rfl) trivial rfl ?_
    refine AK.pass rfl rfl rfl rfl ?_
    refine AK.pass rfl rfl rfl rfl ?_
    refine AK.pass rfl rfl rfl rfl ?_
    refine AK.pass rfl rfl rfl rfl ?_
    refine AK.pass rfl rfl rfl rfl ?_
    refine AK.val _ (Yl.pickT rfl (rfl) rfl) trivial rfl ?_
    refine AK.nil ?_
    refine AK.then_ (hK3 _ ?_)
    refine AK.cond_t rfl (rfl) ?_
    refine AK.seq (fun _ hK4 => ?_)
    refine AK.region ?_
    refine AK.call co17 rfl (fun w hw => s_awake w) trivial rfl ?_
    rintro r o ⟨rfl, rfl⟩
    refine AK.val _ (Yl.assign rfl) trivial rfl ?_
    refine AK.nil ?_
    refine AK.then_ (hK4 _ ?_)
    refine AK.ret ?_
    refine AK.then_ret ?_
    refine AK.ret1 rfl rfl (fun w hw => ⟨_, _, ?_, rfl, Ret.of (hw.pick [] (by decide) rfl rfl)⟩)
    exact ⟨rfl, rfl⟩
  · have hg_1_3' := hg_1_3
    try simp only [decide_eq_true_eq, decide_eq_false_iff_not, Bool.not_eq_true', Bool.not_eq_false', Bool.not_not, ne_eq, Decidable.not_not, Int.not_lt, Int.not_le, beq_iff_eq, bne_iff_ne, Bool.and_eq_true, Bool.or_eq_true, Bool.or_eq_false_iff, Bool.not_false, Bool.not_true, reduceCtorEq, not_true_eq_false, not_false_eq_true] at hg_1_3'
    refine AK.val _ (Yl.loadBoxG ag25 rfl (by first | exact .own 0 rfl | exact .own 1 rfl | exact .own 2 rfl | exact .own 3 rfl | exact .own 4 rfl | exact .own 5 rfl | exact .own 6 rfl | exact .own 7 rfl | exact .own 8 rfl | exact .own 9 rfl | exact .own 10 rfl | exact .own 11 rfl | exact .own 12 rfl | assumption | exact BoxS.arg (by assumption)) rfl rfl) ⟨_, rfl, congrArg (fun b => some (Value.bool b)) hg_1_3⟩ rfl ?_
    refine AK.call co34 rfl (fun w hw => s_small w _ b (hv0.at hw) 10) ⟨_, rfl, congrArg (fun b => some (Value.bool b)) hg_1_3⟩ rfl ?_
    rintro r o ⟨rfl, rfl⟩
    refine AK.val _ (Yl.not rfl) ⟨_, rfl, congrArg (fun b => some (Value.bool b)) hg_1_3⟩ rfl ?_
    refine AK.val _ (Yl.pickF rfl (hg_1_3) rfl) trivial rfl ?_
    refine AK.val _ (Yl.move rfl) trivial rfl ?_
    refine AK.splitB (g := 22) rfl (fun hg_1_8 => ?_) (fun hg_1_8 => ?_)
    · have hg_1_8' := hg_1_8
      try simp only [decide_eq_true_eq, decide_eq_false_iff_not, Bool.not_eq_true', Bool.not_eq_false', Bool.not_not, ne_eq, Decidable.not_not, Int.not_lt, Int.not_le, beq_iff_eq, bne_iff_ne, Bool.and_eq_true, Bool.or_eq_true, Bool.or_eq_false_iff, Bool.not_false, Bool.not_true, reduceCtorEq, not_true_eq_false, not_false_eq_true] at hg_1_8'
      refine AK.pass rfl rfl (hg_1_8) rfl ?_
      refine AK.pass rfl rfl (hg_1_8) rfl ?_
      refine AK.pass rfl rfl (hg_1_8) rfl ?_
      refine AK.pass rfl rfl (hg_1_8) rfl ?_
      refine AK.pass rfl rfl (hg_1_8) rfl ?_
      refine AK.val _ (Yl.pickT rfl (hg_1_8) rfl) trivial rfl ?_
      refine AK.nil ?_
      refine AK.then_ (hK3 _ ?_)
      refine AK.cond_t rfl (rfl) ?_
      refine AK.seq (fun _ hK5 => ?_)
      refine AK.region ?_
      refine AK.call co17 rfl (fun w hw => s_awake w) trivial rfl ?_
      rintro r o ⟨rfl, rfl⟩
      refine AK.val _ (Yl.assign rfl) trivial rfl ?_
      refine AK.nil ?_
      refine AK.then_ (hK5 _ ?_)
      refine AK.ret ?_
      refine AK.then_ret ?_
      refine AK.ret1 rfl rfl (fun w hw => ⟨_, _, ?_, rfl, Ret.of (hw.pick [] (by decide) rfl rfl)⟩)
      exact ⟨rfl, rfl⟩
    · have hg_1_8' := hg_1_8
      try simp only [decide_eq_true_eq, decide_eq_false_iff_not, Bool.not_eq_true', Bool.not_eq_false', Bool.not_not, ne_eq, Decidable.not_not, Int.not_lt, Int.not_le, beq_iff_eq, bne_iff_ne, Bool.and_eq_true, Bool.or_eq_true, Bool.or_eq_false_iff, Bool.not_false, Bool.not_true, reduceCtorEq, not_true_eq_false, not_false_eq_true] at hg_1_8'
      refine AK.val _ (Yl.fieldAddr fd25_0 rfl) ⟨_, rfl, congrArg (fun b => some (Value.bool b)) hg_1_8⟩ rfl ?_
      refine AK.val _ (Yl.loadBox on3 rfl (by first | exact .own 0 rfl | exact .own 1 rfl | exact .own 2 rfl | exact .own 3 rfl | exact .own 4 rfl | exact .own 5 rfl | exact .own 6 rfl | exact .own 7 rfl | exact .own 8 rfl | exact .own 9 rfl | exact .own 10 rfl | exact .own 11 rfl | exact .own 12 rfl | assumption | exact BoxS.arg (by assumption)) rfl) ⟨_, rfl, congrArg (fun b => some (Value.bool b)) hg_1_8⟩ rfl ?_
      refine AK.val _ (Yl.fieldAddr fd25_0 rfl) ⟨_, rfl, congrArg (fun b => some (Value.bool b)) hg_1_8⟩ rfl ?_
      refine AK.val _ (Yl.loadBox on3 rfl (by first | exact .own 0 rfl | exact .own 1 rfl | exact .own 2 rfl | exact .own 3 rfl | exact .own 4 rfl | exact .own 5 rfl | exact .own 6 rfl | exact .own 7 rfl | exact .own 8 rfl | exact .own 9 rfl | exact .own 10 rfl | exact .own 11 rfl | exact .own 12 rfl | assumption | exact BoxS.arg (by assumption)) rfl) ⟨_, rfl, congrArg (fun b => some (Value.bool b)) hg_1_8⟩ rfl ?_
      refine AK.val _ (Yl.neq rfl rfl) ⟨_, rfl, congrArg (fun b => some (Value.bool b)) hg_1_8⟩ rfl ?_
      refine AK.val _ (Yl.pickF rfl (hg_1_8) rfl) trivial rfl ?_
      refine AK.nil ?_
      refine AK.then_ (hK3 _ ?_)
      refine AK.condNe rfl (fun hc0 => ?_) (fun hc0 => ?_)
      · refine AK.seq (fun _ hK6 => ?_)
        refine AK.region ?_
        refine AK.call co17 rfl (fun w hw => s_awake w) trivial rfl ?_
        rintro r o ⟨rfl, rfl⟩
        refine AK.val _ (Yl.assign rfl) trivial rfl ?_
        refine AK.nil ?_
        refine AK.then_ (hK6 _ ?_)
        refine AK.ret ?_
        refine AK.then_ret ?_
        refine AK.ret1 rfl rfl (fun w hw => ⟨_, _, ?_, rfl, Ret.of (hw.pick [] (by decide) rfl rfl)⟩)
        exact ⟨rfl, rfl⟩
      · have hgs : (((a.fin.length : Int) ≤ 10 ∧ VD a) ∧ ((b.fin.length : Int) ≤ 10 ∧ VD b)) ∧ a.L = b.L := by first | (simp_all; done) | (simp_all; omega)
        obtain ⟨⟨⟨ha12, hva⟩, hb12, hvb⟩, hLL⟩ := hgs
        have hsz : a.fin.length * b.fin.length ≤ 512 := Nat.le_trans (Nat.mul_le_mul (show a.fin.length ≤ 12 by omega) (show b.fin.length ≤ 12 by omega)) (by decide)
        have hpe1 : prodE a b 14 = 0 := prodE_mk hva hvb hLL (by decide)
        have hpv1 : ProdV a b 14 = prodD a b 14 := if_pos hpe1
        have hpe2 : prodE a b 8 = 0 := prodE_mk hva hvb hLL (by decide)
        have hpv2 : ProdV a b 8 = prodD a b 8 := if_pos hpe2
        have hm15 : 0 ≤ n % 16 ∧ n % 16 ≤ 15 := ⟨by omega, by omega⟩
        have hLb := hva.L
        have hpw := fun k (hk : k ≤ 15) => pow_bd hva.L k hk
        have hk1 := count_comp hva (n := (n % 16).toNat) (by omega)
        have hk2 := count_prod hva hvb hLL hsz (n := (n % 16).toNat) (by omega)
        rw [← hpv1, ← hpv2] at hk2
        rw [show (((n % 16).toNat : Nat) : Int) = (n % 16) by omega] at hk1 hk2
        have hb1 := CountV_bd a (n % 16)
        have hb2 := CountV_bd (CompV a) (n % 16)
        have hb3 := CountV_bd b (n % 16)
        have hb4 := CountV_bd (ProdV a b 14) (n % 16)
        have hb5 := CountV_bd (ProdV a b 8) (n % 16)
        simp only [MM] at hb1 hb2 hb3 hb4 hb5
        refine AK.skip ?_
        refine AK.then_ (hK2 _ ?_)
        refine AK.seq (fun _ hK7 => ?_)
        refine AK.region ?_
        refine AK.val _ (Yl.move rfl) trivial rfl ?_
        refine AK.val _ (Yl.and15 rfl rfl hn) trivial rfl ?_
        refine AK.val _ (Yl.convI (by kernel_rfl) un3 rfl (wrap_i64 (by omega))) trivial rfl ?_
        refine AK.val _ (Yl.assign rfl) trivial rfl ?_
        refine AK.nil ?_
        refine AK.then_ (hK7 _ ?_)
        refine AK.seq (fun _ hK8 => ?_)
        refine AK.region ?_
        refine AK.val _ (Yl.assign rfl) trivial rfl ?_
        refine AK.nil ?_
        refine AK.then_ (hK8 _ ?_)
        refine AK.seq (fun _ hK9 => ?_)
        refine AK.seq (fun _ hK10 => ?_)
        refine AK.region ?_
        refine AK.val _ (Yl.assign rfl) trivial rfl ?_
        refine AK.nil ?_
        refine AK.then_ (hK10 _ ?_)
        refine AK.block ?_
        refine AK.loopK (X := Nat) [(3, _), (4, _), (7, _)] (fun k => [(8, .int .i64 (a.L ^ k)), (9, .int .i64 (k : Int))]) (fun k => [box bx3 25 4 [.int .i64 a.L, .int .i64 a.s, aF, aN], box bx4 25 4 [.int .i64 b.L, .int .i64 b.s, bF, bN]]) (fun k => k ≤ (n % 16).toNat) (fun k => (n % 16).toNat - k) (0) (.cons rfl (.cons rfl (.cons rfl (.nil)))) ?_ ?_ ?_ ?_
        · exact Nat.zero_le _
        · exact .cons (show some (Value.int .i64 1) = some (Value.int .i64 (a.L ^ 0)) from by rw [Int.pow_zero]) (.cons (rfl) (.nil))
        · exact fun w hw => hw
        · intro k hg0 _ hK11
          refine AK.seq (fun _ hK12 => ?_)
          refine AK.seq (fun _ hK13 => ?_)
          refine AK.region ?_
          refine AK.val _ (Yl.move rfl) trivial rfl ?_
          refine AK.val _ (Yl.move rfl) trivial rfl ?_
          refine AK.val _ (Yl.lss rfl rfl) trivial rfl ?_
          refine AK.nil ?_
          refine AK.then_ (hK13 _ ?_)
          refine AK.condD rfl (fun hc1 => ?_) (fun hc1 => ?_)
          · have hp1 := hpw (k + 1) (by omega)
            rw [Int.pow_succ] at hp1
            refine AK.skip ?_
            refine AK.then_ (hK12 _ ?_)
            refine AK.seq (fun _ hK14 => ?_)
            refine AK.block ?_
            refine AK.region ?_
            refine AK.val _ (Yl.move rfl) trivial rfl ?_
            refine AK.val _ (Yl.fieldAddr fd25_0 rfl) trivial rfl ?_
            refine AK.val _ (Yl.loadBox on3 rfl (by first | exact .own 0 rfl | exact .own 1 rfl | exact .own 2 rfl | exact .own 3 rfl | exact .own 4 rfl | exact .own 5 rfl | exact .own 6 rfl | exact .own 7 rfl | exact .own 8 rfl | exact .own 9 rfl | exact .own 10 rfl | exact .own 11 rfl | exact .own 12 rfl | assumption | exact BoxS.arg (by assumption)) rfl) trivial rfl ?_
            refine AK.val _ (Yl.mul rfl rfl (by omega)) trivial rfl ?_
            refine AK.val _ (Yl.assign rfl) trivial rfl ?_
            refine AK.nil ?_
            refine AK.block_normal ?_
            refine AK.then_ (hK14 _ ?_)
            refine AK.region ?_
            refine AK.val _ (Yl.move rfl) trivial rfl ?_
            refine AK.val _ (Yl.add rfl rfl (by omega)) trivial rfl ?_
            refine AK.val _ (Yl.assign rfl) trivial rfl ?_
            refine AK.nil ?_
            refine AK.then_ (hK11 _ _ (k + 1) (by omega) (by omega) (.cons (show some (Value.int .i64 (a.L ^ k * a.L)) = _ from by rw [Int.pow_succ]) (.cons (rfl) (.cons rfl (.cons rfl (.cons rfl (.nil)))))) (fun w hw => hw))
          · obtain rfl : k = (n % 16).toNat := (by omega)
            refine AK.exit ?_
            refine AK.then_exit ?_
            refine AK.then_exit ?_
            refine AK.block_exit ?_
            refine AK.then_ (hK9 _ ?_)
            refine AK.seq (fun _ hK15 => ?_)
            refine AK.region ?_
            refine AK.val _ (Yl.loadBoxG ag25 rfl (by first | exact .own 0 rfl | exact .own 1 rfl | exact .own 2 rfl | exact .own 3 rfl | exact .own 4 rfl | exact .own 5 rfl | exact .own 6 rfl | exact .own 7 rfl | exact .own 8 rfl | exact .own 9 rfl | exact .own 10 rfl | exact .own 11 rfl | exact .own 12 rfl | assumption | exact BoxS.arg (by assumption)) rfl rfl) trivial rfl ?_
            refine AK.val _ (Yl.loadBoxG ag25 rfl (by first | exact .own 0 rfl | exact .own 1 rfl | exact .own 2 rfl | exact .own 3 rfl | exact .own 4 rfl | exact .own 5 rfl | exact .own 6 rfl | exact .own 7 rfl | exact .own 8 rfl | exact .own 9 rfl | exact .own 10 rfl | exact .own 11 rfl | exact .own 12 rfl | assumption | exact BoxS.arg (by assumption)) rfl rfl) trivial rfl ?_
            refine AK.call co36 rfl (fun w hw => s_product w _ _ a b (hu0.at hw) (hv0.at hw) 14 (fun _ _ => hsz)) trivial rfl ?_
            rintro r o ⟨pF, pN, prs, rfl, hprs, s5, s6, rfl⟩
            refine AK.val _ (Yl.move rfl) trivial rfl ?_
            refine AK.val _ (Yl.extract rfl rfl) trivial rfl ?_
            refine AK.val _ (Yl.extract rfl rfl) trivial rfl ?_
            refine AK.alloc el25 rfl rfl trivial rfl (fun bx10 => ?_)
            refine AK.storeBox 5 (us := [.int .i64 (ProdV a b 14).L, .int .i64 (ProdV a b 14).s, pF, pN]) (cs' := [.int .i64 (ProdV a b 14).L, .int .i64 (ProdV a b 14).s, pF, pN]) rfl sz25 rfl rfl rfl rfl (by repeat (first | exact one'_nil | refine one'_cons (by first | rfl | exact IsSl.one (by assumption) | exact IsSl.one nilSl) ?_)) (Nat.le_of_ble_eq_true rfl) rfl trivial ?_
            refine AK.val _ (Yl.assign rfl) trivial rfl ?_
            refine AK.nil ?_
            refine AK.then_ (hK15 _ ?_)
            refine AK.seq (fun _ hK16 => ?_)
            refine AK.region ?_
            refine AK.val _ (Yl.loadBoxG ag25 rfl (by first | exact .own 0 rfl | exact .own 1 rfl | exact .own 2 rfl | exact .own 3 rfl | exact .own 4 rfl | exact .own 5 rfl | exact .own 6 rfl | exact .own 7 rfl | exact .own 8 rfl | exact .own 9 rfl | exact .own 10 rfl | exact .own 11 rfl | exact .own 12 rfl | assumption | exact BoxS.arg (by assumption)) rfl rfl) trivial rfl ?_
            refine AK.val _ (Yl.loadBoxG ag25 rfl (by first | exact .own 0 rfl | exact .own 1 rfl | exact .own 2 rfl | exact .own 3 rfl | exact .own 4 rfl | exact .own 5 rfl | exact .own 6 rfl | exact .own 7 rfl | exact .own 8 rfl | exact .own 9 rfl | exact .own 10 rfl | exact .own 11 rfl | exact .own 12 rfl | assumption | exact BoxS.arg (by assumption)) rfl rfl) trivial rfl ?_
            refine AK.call co36 rfl (fun w hw => s_product w _ _ a b (hu0.at hw) (hv0.at hw) 8 (fun _ _ => hsz)) trivial rfl ?_
            rintro r o ⟨qF, qN, qrs, rfl, hqrs, s7, s8, rfl⟩
            refine AK.val _ (Yl.move rfl) trivial rfl ?_
            refine AK.val _ (Yl.extract rfl rfl) trivial rfl ?_
            refine AK.val _ (Yl.extract rfl rfl) trivial rfl ?_
            refine AK.alloc el25 rfl rfl trivial rfl (fun bx12 => ?_)
            refine AK.storeBox 9 (us := [.int .i64 (ProdV a b 8).L, .int .i64 (ProdV a b 8).s, qF, qN]) (cs' := [.int .i64 (ProdV a b 8).L, .int .i64 (ProdV a b 8).s, qF, qN]) rfl sz25 rfl rfl rfl rfl (by repeat (first | exact one'_nil | refine one'_cons (by first | rfl | exact IsSl.one (by assumption) | exact IsSl.one nilSl) ?_)) (Nat.le_of_ble_eq_true rfl) rfl trivial ?_
            refine AK.val _ (Yl.assign rfl) trivial rfl ?_
            refine AK.nil ?_
            refine AK.then_ (hK16 _ ?_)
            refine AK.seq (fun _ hK17 => ?_)
            refine AK.seq (fun _ hK18 => ?_)
            refine AK.joinK (X := Unit) [(3, _), (4, _), (7, _), (10, _), (12, _)] (fun _ => [(71, .bool false)]) (fun _ => ([box bx3 25 4 [.int .i64 a.L, .int .i64 a.s, aF, aN], box bx4 25 4 [.int .i64 b.L, .int .i64 b.s, bF, bN]] ++ dfaO 4 3 38 pF pN prs (ProdV a b 14) ++ [box bx10 25 4 [.int .i64 (ProdV a b 14).L, .int .i64 (ProdV a b 14).s, pF, pN]] ++ dfaO 4 3 38 qF qN qrs (ProdV a b 8) ++ [box bx12 25 4 [.int .i64 (ProdV a b 8).L, .int .i64 (ProdV a b 8).s, qF, qN]])) (fun _ => True) (.cons rfl (.cons rfl (.cons rfl (.cons rfl (.cons rfl (.nil)))))) (fun _ hJ => ?_) (fun _ hg => ?_)
            · try (conv => enter [2, 2]; dsimp only [List.set_cons_zero, List.set_cons_succ, List.cons_append, List.nil_append])
              refine AK.held 18 mixed ?_
              refine HeldK.first 0 (fuel := 17) (listed' := #[true, false, false, false, false, false, false, false, false, false, false, false, false, false, false, false, false, false]) _ rfl (by kernel_rfl) rfl rfl (Yl.move rfl) trivial rfl ?_
              refine HeldK.first 1 (fuel := 16) (listed' := #[true, true, false, false, false, false, false, false, false, false, false, false, false, false, false, false, false, false]) _ rfl (by kernel_rfl) rfl rfl (Yl.neq rfl rfl) trivial rfl ?_
              refine HeldK.first 2 (fuel := 15) (listed' := #[true, true, true, false, false, false, false, false, false, false, false, false, false, false, false, false, false, false]) _ rfl (by kernel_rfl) rfl rfl (Yl.move rfl) trivial rfl ?_
              refine AK.knownF (g := 56) rfl (by simp [hpe1]) (fun hg_11_2 => ?_)
              refine HeldK.first 3 (fuel := 14) (listed' := #[true, true, true, true, false, false, false, false, false, false, false, false, false, false, false, false, false, false]) _ rfl (by kernel_rfl) rfl rfl (Yl.move rfl) ⟨_, rfl, congrArg (fun b => some (Value.bool b)) hg_11_2⟩ rfl ?_
              refine HeldK.first 4 (fuel := 13) (listed' := #[true, true, true, true, true, false, false, false, false, false, false, false, false, false, false, false, false, false]) _ rfl (by kernel_rfl) rfl rfl (Yl.neq rfl rfl) ⟨_, rfl, congrArg (fun b => some (Value.bool b)) hg_11_2⟩ rfl ?_
              refine HeldK.first 5 (fuel := 12) (listed' := #[true, true, true, true, true, true, false, false, false, false, false, false, false, false, false, false, false, false]) _ rfl (by kernel_rfl) rfl rfl (Yl.pickF rfl (hg_11_2) rfl) trivial rfl ?_
              refine HeldK.first 6 (fuel := 11) (listed' := #[true, true, true, true, true, true, true, false, false, false, false, false, false, false, false, false, false, false]) _ rfl (by kernel_rfl) rfl rfl (Yl.move rfl) trivial rfl ?_
              refine AK.knownF (g := 60) rfl (by simp [hpe2]) (fun hg_11_6 => ?_)
              refine HeldK.first 7 (fuel := 10) (listed' := #[true, true, true, true, true, true, true, true, false, false, false, false, false, false, false, false, false, false]) _ rfl (by kernel_rfl) rfl rfl (Yl.loadBoxG ag25 rfl (by first | exact .own 0 rfl | exact .own 1 rfl | exact .own 2 rfl | exact .own 3 rfl | exact .own 4 rfl | exact .own 5 rfl | exact .own 6 rfl | exact .own 7 rfl | exact .own 8 rfl | exact .own 9 rfl | exact .own 10 rfl | exact .own 11 rfl | exact .own 12 rfl | assumption | exact BoxS.arg (by assumption)) rfl rfl) ⟨_, rfl, congrArg (fun b => some (Value.bool b)) hg_11_6⟩ rfl ?_
              refine HeldK.first 8 (fuel := 9) (listed' := #[true, true, true, true, true, true, true, true, true, false, false, false, false, false, false, false, false, false]) _ rfl (by kernel_rfl) rfl rfl (Yl.move rfl) ⟨_, rfl, congrArg (fun b => some (Value.bool b)) hg_11_6⟩ rfl ?_
              refine HeldK.first 10 (fuel := 8) (listed' := #[true, true, true, true, true, true, true, true, true, false, true, false, false, false, false, false, false, false]) _ rfl (by kernel_rfl) rfl rfl (Yl.loadBoxG ag25 rfl (by first | exact .own 0 rfl | exact .own 1 rfl | exact .own 2 rfl | exact .own 3 rfl | exact .own 4 rfl | exact .own 5 rfl | exact .own 6 rfl | exact .own 7 rfl | exact .own 8 rfl | exact .own 9 rfl | exact .own 10 rfl | exact .own 11 rfl | exact .own 12 rfl | assumption | exact BoxS.arg (by assumption)) rfl rfl) ⟨_, rfl, congrArg (fun b => some (Value.bool b)) hg_11_6⟩ rfl ?_
              refine HeldK.first 12 (fuel := 7) (listed' := #[true, true, true, true, true, true, true, true, true, false, true, false, true, false, false, false, false, false]) _ rfl (by kernel_rfl) rfl rfl (Yl.move rfl) ⟨_, rfl, congrArg (fun b => some (Value.bool b)) hg_11_6⟩ rfl ?_
              refine HeldK.first 15 (fuel := 6) (listed' := #[true, true, true, true, true, true, true, true, true, false, true, false, true, false, false, true, false, false]) _ rfl (by kernel_rfl) rfl rfl (Yl.move rfl) ⟨_, rfl, congrArg (fun b => some (Value.bool b)) hg_11_6⟩ rfl ?_
              refine HeldK.one 9 (fuel := 5) (listed' := #[true, true, true, true, true, true, true, true, true, true, true, false, true, false, false, true, false, false]) (by kernel_rfl) rfl rfl ?_
              refine AK.call co22 rfl (fun w hw => s_count w _ a (hu0.at hw) (n % 16)) ⟨_, rfl, congrArg (fun b => some (Value.bool b)) hg_11_6⟩ rfl ?_
              rintro r o ⟨rfl, rfl⟩
              refine AK.nil ?_
              try (conv => enter [2, 2]; dsimp only [List.set_cons_zero, List.set_cons_succ, List.cons_append, List.nil_append])
              refine HeldK.back (by repeat (first | exact HWle.nil | refine HWle.cons Ale.rfl ?_ | refine HWle.cons Ale.fst ?_)) ?_
              refine HeldK.one 11 (fuel := 4) (listed' := #[true, true, true, true, true, true, true, true, true, true, true, true, true, false, false, true, false, false]) (by kernel_rfl) rfl rfl ?_
              refine AK.call co41 rfl (fun w hw => s_compl w _ a (hu0.at hw)) ⟨_, rfl, congrArg (fun b => some (Value.bool b)) hg_11_6⟩ rfl ?_
              rintro r o ⟨cF, cN, crs, rfl, hcrs, s1, s2, rfl⟩
              refine AK.nil ?_
              try (conv => enter [2, 2]; dsimp only [List.set_cons_zero, List.set_cons_succ, List.cons_append, List.nil_append])
              refine HeldK.back (by repeat (first | exact HWle.nil | refine HWle.cons Ale.rfl ?_ | refine HWle.cons Ale.fst ?_)) ?_
              refine HeldK.one 13 (fuel := 3) (listed' := #[true, true, true, true, true, true, true, true, true, true, true, true, true, true, false, true, false, false]) (by kernel_rfl) rfl rfl ?_
              refine AK.call co22 rfl (fun w hw => s_count w _ (CompV a) (RdD.own 10 hw hcrs rfl rfl rfl) (n % 16)) ⟨_, rfl, congrArg (fun b => some (Value.bool b)) hg_11_6⟩ rfl ?_
              rintro r o ⟨rfl, rfl⟩
              refine AK.nil ?_
              try (conv => enter [2, 2]; dsimp only [List.set_cons_zero, List.set_cons_succ, List.cons_append, List.nil_append])
              refine HeldK.back (by repeat (first | exact HWle.nil | refine HWle.cons Ale.rfl ?_ | refine HWle.cons Ale.fst ?_)) ?_
              refine HeldK.first 14 (fuel := 2) (listed' := #[true, true, true, true, true, true, true, true, true, true, true, true, true, true, true, true, false, false]) _ rfl (by kernel_rfl) rfl rfl (Yl.add rfl rfl (by omega)) ⟨_, rfl, congrArg (fun b => some (Value.bool b)) hg_11_6⟩ rfl ?_
              refine HeldK.first 16 (fuel := 1) (listed' := #[true, true, true, true, true, true, true, true, true, true, true, true, true, true, true, true, true, false]) _ rfl (by kernel_rfl) rfl rfl (Yl.neq rfl rfl) ⟨_, rfl, congrArg (fun b => some (Value.bool b)) hg_11_6⟩ rfl ?_
              refine HeldK.first 17 (fuel := 0) (listed' := #[true, true, true, true, true, true, true, true, true, true, true, true, true, true, true, true, true, true]) _ rfl (by kernel_rfl) rfl rfl (Yl.pickF rfl (hg_11_6) rfl) trivial rfl ?_
              refine HeldK.done (by kernel_rfl) ?_
              exact hJ _ _ (()) trivial (.cons (show some (Value.bool (decide (CountV a (n % 16) + CountV (CompV a) (n % 16) ≠ a.L ^ (n % 16).toNat))) = _ from by simp [hk1]) (.cons rfl (.cons rfl (.cons rfl (.cons rfl (.cons rfl (.nil))))))) (fun w hw => by first | (refine hw.pickLe [0, 1, 2, 3, 4, 5, 6, 7, 8, 9] (by decide) ?_; (repeat (first | exact PickLe.nil | refine PickLe.cons rfl Ale.rfl ?_ | refine PickLe.cons rfl Ale.snd ?_ | refine PickLe.cons rfl Ale.fst ?_)); done))
            · skip
              refine AK.then_ (hK18 _ ?_)
              refine AK.cond_f rfl (rfl) ?_
              refine AK.skip ?_
              refine AK.then_ (hK17 _ ?_)
              refine AK.seq (fun _ hK19 => ?_)
              try (conv => enter [2, 2]; dsimp only [List.set_cons_zero, List.set_cons_succ, List.cons_append, List.nil_append])
              refine AK.held 19 mixed ?_
              refine HeldK.first 0 (fuel := 18) (listed' := #[true, false, false, false, false, false, false, false, false, false, false, false, false, false, false, false, false, false, false]) _ rfl (by kernel_rfl) rfl rfl (Yl.loadBoxG ag25 rfl (by first | exact .own 0 rfl | exact .own 1 rfl | exact .own 2 rfl | exact .own 3 rfl | exact .own 4 rfl | exact .own 5 rfl | exact .own 6 rfl | exact .own 7 rfl | exact .own 8 rfl | exact .own 9 rfl | exact .own 10 rfl | exact .own 11 rfl | exact .own 12 rfl | assumption | exact BoxS.arg (by assumption)) rfl rfl) trivial rfl ?_
              refine HeldK.first 1 (fuel := 17) (listed' := #[true, true, false, false, false, false, false, false, false, false, false, false, false, false, false, false, false, false, false]) _ rfl (by kernel_rfl) rfl rfl (Yl.move rfl) trivial rfl ?_
              refine HeldK.first 3 (fuel := 16) (listed' := #[true, true, false, true, false, false, false, false, false, false, false, false, false, false, false, false, false, false, false]) _ rfl (by kernel_rfl) rfl rfl (Yl.loadBoxG ag25 rfl (by first | exact .own 0 rfl | exact .own 1 rfl | exact .own 2 rfl | exact .own 3 rfl | exact .own 4 rfl | exact .own 5 rfl | exact .own 6 rfl | exact .own 7 rfl | exact .own 8 rfl | exact .own 9 rfl | exact .own 10 rfl | exact .own 11 rfl | exact .own 12 rfl | assumption | exact BoxS.arg (by assumption)) rfl rfl) trivial rfl ?_
              refine HeldK.first 4 (fuel := 15) (listed' := #[true, true, false, true, true, false, false, false, false, false, false, false, false, false, false, false, false, false, false]) _ rfl (by kernel_rfl) rfl rfl (Yl.move rfl) trivial rfl ?_
              refine HeldK.first 7 (fuel := 14) (listed' := #[true, true, false, true, true, false, false, true, false, false, false, false, false, false, false, false, false, false, false]) _ rfl (by kernel_rfl) rfl rfl (Yl.loadBoxG ag25 rfl (by first | exact .own 0 rfl | exact .own 1 rfl | exact .own 2 rfl | exact .own 3 rfl | exact .own 4 rfl | exact .own 5 rfl | exact .own 6 rfl | exact .own 7 rfl | exact .own 8 rfl | exact .own 9 rfl | exact .own 10 rfl | exact .own 11 rfl | exact .own 12 rfl | assumption | exact BoxS.arg (by assumption)) rfl rfl) trivial rfl ?_
              refine HeldK.first 8 (fuel := 13) (listed' := #[true, true, false, true, true, false, false, true, true, false, false, false, false, false, false, false, false, false, false]) _ rfl (by kernel_rfl) rfl rfl (Yl.move rfl) trivial rfl ?_
              refine HeldK.first 10 (fuel := 12) (listed' := #[true, true, false, true, true, false, false, true, true, false, true, false, false, false, false, false, false, false, false]) _ rfl (by kernel_rfl) rfl rfl (Yl.loadBoxG ag25 rfl (by first | exact .own 0 rfl | exact .own 1 rfl | exact .own 2 rfl | exact .own 3 rfl | exact .own 4 rfl | exact .own 5 rfl | exact .own 6 rfl | exact .own 7 rfl | exact .own 8 rfl | exact .own 9 rfl | exact .own 10 rfl | exact .own 11 rfl | exact .own 12 rfl | assumption | exact BoxS.arg (by assumption)) rfl rfl) trivial rfl ?_
              refine HeldK.first 11 (fuel := 11) (listed' := #[true, true, false, true, true, false, false, true, true, false, true, true, false, false, false, false, false, false, false]) _ rfl (by kernel_rfl) rfl rfl (Yl.move rfl) trivial rfl ?_
              refine HeldK.one 2 (fuel := 10) (listed' := #[true, true, true, true, true, false, false, true, true, false, true, true, false, false, false, false, false, false, false]) (by kernel_rfl) rfl rfl ?_
              refine AK.call co22 rfl (fun w hw => s_count w _ (ProdV a b 14) (RdD.own 2 hw hprs rfl rfl rfl) (n % 16)) trivial rfl ?_
              rintro r o ⟨rfl, rfl⟩
              refine AK.nil ?_
              try (conv => enter [2, 2]; dsimp only [List.set_cons_zero, List.set_cons_succ, List.cons_append, List.nil_append])
              refine HeldK.back (by repeat (first | exact HWle.nil | refine HWle.cons Ale.rfl ?_ | refine HWle.cons Ale.fst ?_)) ?_
              refine HeldK.one 5 (fuel := 9) (listed' := #[true, true, true, true, true, true, false, true, true, false, true, true, false, false, false, false, false, false, false]) (by kernel_rfl) rfl rfl ?_
              refine AK.call co22 rfl (fun w hw => s_count w _ (ProdV a b 8) (RdD.own 6 hw hqrs rfl rfl rfl) (n % 16)) trivial rfl ?_
              rintro r o ⟨rfl, rfl⟩
              refine AK.nil ?_
              try (conv => enter [2, 2]; dsimp only [List.set_cons_zero, List.set_cons_succ, List.cons_append, List.nil_append])
              refine HeldK.back (by repeat (first | exact HWle.nil | refine HWle.cons Ale.rfl ?_ | refine HWle.cons Ale.fst ?_)) ?_
              refine HeldK.first 6 (fuel := 8) (listed' := #[true, true, true, true, true, true, true, true, true, false, true, true, false, false, false, false, false, false, false]) _ rfl (by kernel_rfl) rfl rfl (Yl.add rfl rfl (by omega)) trivial rfl ?_
              refine HeldK.one 9 (fuel := 7) (listed' := #[true, true, true, true, true, true, true, true, true, true, true, true, false, false, false, false, false, false, false]) (by kernel_rfl) rfl rfl ?_
              refine AK.call co22 rfl (fun w hw => s_count w _ a (hu0.at hw) (n % 16)) trivial rfl ?_
              rintro r o ⟨rfl, rfl⟩
              refine AK.nil ?_
              try (conv => enter [2, 2]; dsimp only [List.set_cons_zero, List.set_cons_succ, List.cons_append, List.nil_append])
              refine HeldK.back (by repeat (first | exact HWle.nil | refine HWle.cons Ale.rfl ?_ | refine HWle.cons Ale.fst ?_)) ?_
              refine HeldK.one 12 (fuel := 6) (listed' := #[true, true, true, true, true, true, true, true, true, true, true, true, true, false, false, false, false, false, false]) (by kernel_rfl) rfl rfl ?_
              refine AK.call co22 rfl (fun w hw => s_count w _ b (hv0.at hw) (n % 16)) trivial rfl ?_
              rintro r o ⟨rfl, rfl⟩
              refine AK.nil ?_
              try (conv => enter [2, 2]; dsimp only [List.set_cons_zero, List.set_cons_succ, List.cons_append, List.nil_append])
              refine HeldK.back (by repeat (first | exact HWle.nil | refine HWle.cons Ale.rfl ?_ | refine HWle.cons Ale.fst ?_)) ?_
              refine HeldK.first 13 (fuel := 5) (listed' := #[true, true, true, true, true, true, true, true, true, true, true, true, true, true, false, false, false, false, false]) _ rfl (by kernel_rfl) rfl rfl (Yl.add rfl rfl (by omega)) trivial rfl ?_
              refine HeldK.first 14 (fuel := 4) (listed' := #[true, true, true, true, true, true, true, true, true, true, true, true, true, true, true, false, false, false, false]) _ rfl (by kernel_rfl) rfl rfl (Yl.eql rfl rfl) trivial rfl ?_
              refine HeldK.first 15 (fuel := 3) (listed' := #[true, true, true, true, true, true, true, true, true, true, true, true, true, true, true, true, false, false, false]) _ rfl (by kernel_rfl) rfl rfl (Yl.move rfl) trivial rfl ?_
              refine HeldK.one 16 (fuel := 2) (listed' := #[true, true, true, true, true, true, true, true, true, true, true, true, true, true, true, true, true, false, false]) (by kernel_rfl) rfl rfl ?_
              refine AK.knownT (g := 87) rfl (by simp [hk2]) (fun hg_13_15 => ?_)
              refine AK.call co17 rfl (fun w hw => s_awake w) ⟨_, rfl, congrArg (fun b => some (Value.bool b)) hg_13_15⟩ rfl ?_
              rintro r o ⟨rfl, rfl⟩
              refine AK.nil ?_
              try (conv => enter [2, 2]; dsimp only [List.set_cons_zero, List.set_cons_succ, List.cons_append, List.nil_append])
              refine HeldK.back (by repeat (first | exact HWle.nil | refine HWle.cons Ale.rfl ?_ | refine HWle.cons Ale.fst ?_)) ?_
              refine HeldK.first 17 (fuel := 1) (listed' := #[true, true, true, true, true, true, true, true, true, true, true, true, true, true, true, true, true, true, false]) _ rfl (by kernel_rfl) rfl rfl (Yl.pickT rfl (hg_13_15) rfl) trivial rfl ?_
              refine HeldK.first 18 (fuel := 0) (listed' := #[true, true, true, true, true, true, true, true, true, true, true, true, true, true, true, true, true, true, true]) _ rfl (by kernel_rfl) rfl rfl (Yl.assign rfl) trivial rfl ?_
              refine HeldK.done (by kernel_rfl) ?_
              refine AK.then_ (hK19 _ ?_)
              refine AK.ret ?_
              refine AK.ret1 rfl rfl (fun w hw => ⟨_, _, ?_, rfl, Ret.of (hw.pick [] (by decide) rfl rfl)⟩)
              exact ⟨rfl, rfl⟩

end Go.Proofs.Ytmfakjfkjoichaa
