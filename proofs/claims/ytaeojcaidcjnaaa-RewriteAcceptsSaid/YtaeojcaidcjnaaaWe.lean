import Derived.Test.YtaeojcaidcjnaaaWd
import Derived.Test.YtaeojcaidcjnaaaD10
import Derived.Test.YtaeojcaidcjnaaaRo
set_option linter.unusedVariables false
set_option linter.unusedSimpArgs false
namespace Go.Proofs.Ytaeojcaidcjnaaa
open Go.Sx Go.RowKit
set_option maxHeartbeats 1600000 in
set_option maxRecDepth 100000 in
theorem l_irreducible (w : World) (v : Value) (rs : List Rul) (h : RdR (fun _ => False) w v rs) (hll : ∀ k, k < rs.length → (rs.getD k ([], [])).1.length ≤ 9223372036854775807 ∧ (rs.getD k ([], [])).2.length ≤ 9223372036854775807) (L : Int) : CallS Try.prog 6 [v, .int .i64 L] w (fun r o => r = .bool true ∧ o = []) := by
 have h0 := h
 have hb := h.len
 have sv0 := Rd.sl h
 unfold RdR at h
 refine spec_of Try.func6 rfl (Nat.le_of_ble_eq_true rfl) ?_
 refine .sr fun _ hK1 => ?_
 refine .as rfl (.nt hK1 ?_)
 refine .sr fun _ hK2 => ?_
 refine .mv rfl (.mv rfl ?_)
 refine AK.call co23 rfl (fun w hw => s_irred w v rs (h0.at hw) hll L) trivial rfl ?_
 rintro r o ⟨d1, e1, aF, aN, as1, hI1, rfl, has, saF, saN, rfl⟩
 refine .mv rfl ?_
 refine .v (.extract rfl rfl) ?_
 refine .v (.extract rfl rfl) ?_
 refine AK.alloc el36 rfl rfl trivial rfl (fun bx5 => ?_)
 refine AK.storeBox 3 (us := [.int .i64 d1.L, .int .i64 d1.s, aF, aN]) (cs' := [.int .i64 d1.L, .int .i64 d1.s, aF, aN]) rfl sz36 rfl rfl rfl rfl oneP (Nat.le_of_ble_eq_true rfl) rfl trivial ?_
 refine .as rfl (.nt hK2 ?_)
 refine .seq fun _ hK3 => ?_
 refine .sr fun _ hK4 => ?_
 refine .mv rfl (.mv rfl ?_)
 refine AK.call co14 rfl (fun w hw => s_refrval w v rs (h0.at hw) hll L) trivial rfl ?_
 rintro r o ⟨rfl, rfl⟩
 refine .as rfl (.nt hK4 ?_)
 refine .sr fun _ hK5 => ?_
 refine .mv rfl ?_
 refine .v (.neq rfl rfl) ?_
 refine .nt hK5 ?_
 refine AK.condNe rfl (fun hc0 => ?_) (fun hc0 => ?_)
 ·have hd0 : d1 = nilD := by
   rcases hI1 with ⟨_, _, h⟩ | ⟨h, _⟩ | ⟨h, _⟩
   ·exact h
   ·exact absurd h hc0
   ·exact absurd h hc0
  have he0 : e1 = errR L rs := by
   rcases hI1 with ⟨_, h, _⟩ | ⟨h, _⟩ | ⟨h, _⟩
   ·exact h
   ·exact absurd h hc0
   ·exact absurd h hc0
  refine .sr fun _ hK6 => ?_
  refine .mv rfl (.mv rfl ?_)
  refine .v (.eql rfl rfl) ?_
  refine .mv rfl ?_
  refine AK.knownT (g := 27) rfl (decide_eq_true he0) (fun hg_4_3 => ?_)
  refine AK.val _ (Yl.loadBoxG ag36 rfl bsp rfl rfl) ⟨_, rfl, congrArg (fun b => some (Value.bool b)) hg_4_3⟩ rfl ?_
  refine AK.val _ (Yl.build (parts := []) (cs := #[.int .i64 0, .int .i64 0, .slice none 0 0, .slice none 0 0]) rfl (by kernel_rfl)) ⟨_, rfl, congrArg (fun b => some (Value.bool b)) hg_4_3⟩ rfl ?_
  refine AK.call co24 rfl (fun w hw => s_sameD w _ _ d1 nilD (RdD.own 0 hw has rfl rfl rfl) rd_nilD) ⟨_, rfl, congrArg (fun b => some (Value.bool b)) hg_4_3⟩ rfl ?_
  rintro r o ⟨rfl, rfl⟩
  refine .v (.pickT rfl (hg_4_3) rfl) ?_
  refine .mv rfl ?_
  refine AK.knownT (g := 32) rfl (decide_eq_true hd0) (fun hg_4_8 => ?_)
  refine AK.call co15 rfl (fun w hw => s_awake w) ⟨_, rfl, congrArg (fun b => some (Value.bool b)) hg_4_8⟩ rfl ?_
  rintro r o ⟨rfl, rfl⟩
  refine .v (.pickT rfl (hg_4_8) rfl) ?_
  refine .as rfl (.nt hK6 (.ret (.then_ret ?_)))
  refine AK.ret1 rfl rfl (fun w hw => ⟨_, _, ?_, rfl, Ret.of (hw.pick [] (by decide) rfl rfl)⟩)
  exact ⟨rfl, rfl⟩
 ·have hV : VR L rs := errR_iff.1 (by omega)
  have hal := al_lfs hV
  have hrn := hV.n
  refine .skip ?_
  refine AK.then_ (hK3 _ ?_)
  refine .sr fun _ hK7 => ?_
  refine .as rfl (.nt hK7 ?_)
  refine .seq fun _ hK8 => ?_
  refine .sr fun _ hK9 => ?_
  refine .mv rfl ?_
  refine .v (.lenR sl22 rfl rdp) ?_
  refine .mv rfl (.nt hK9 (.block ?_))
  refine AK.loopK (X := Nat) [(0, _), (1, _), (5, _), (6, _), (35, _), (36, _)] (fun k => [(8, .int .i64 ((min (tot (lfs rs) k) 512 : Nat) : Int)), (37, .int .i64 (k : Int))]) (fun k => dfaO 4 3 74 aF aN as1 d1 ++ [box bx5 36 4 [.int .i64 d1.L, .int .i64 d1.s, aF, aN]]) (fun k => k ≤ rs.length) (fun k => rs.length - k) (0) slr ?_ ?_ ?_ ?_
  ·exact Nat.zero_le _
  ·exact slr
  ·exact fun w hw => hw
  ·intro k hg0 _ hK10
   refine .sr fun _ hK11 => ?_
   refine .v (.lss rfl rfl) ?_
   refine .nt hK11 ?_
   refine .seq fun _ hK12 => ?_
   refine AK.condD rfl (fun hc1 => ?_) (fun hc1 => ?_)
   ·have hts : tot (lfs rs) (k + 1) = tot (lfs rs) k + (rs.getD k ([], [])).1.length := (by show tot (lfs rs) k + _ = _; rw [lfs_get rs (by omega)])
    have hl6 := (validW_al (hV.v _ (getD_mem (d := ([], [])) (show k < rs.length by omega))).1).1
    refine .skip ?_
    refine AK.then_ (hK12 _ ?_)
    refine .seq fun _ hK13 => ?_
    refine .block ?_
    refine .sr fun _ hK14 => ?_
    first | refine .v (.iN sl22 rfl rfl) ?_ | refine .v (.iK sl22 rfl rfl) ?_
    refine .v (.loadRu ag41 rfl rdp (by omega)) ?_
    refine AK.alloc el41 rfl rfl trivial rfl (fun bx10 => ?_)
    refine AK.storeBox 4 (us := rcs (rs.getD k ([], []))) (cs' := rcs (rs.getD k ([], []))) rfl sz41 rfl rfl rfl rfl oneP (Nat.le_of_ble_eq_true rfl) rfl trivial ?_
    refine .nt hK14 ?_
    refine AK.region ?_
    refine .mv rfl ?_
    refine .v (.fieldAddr fd41_0 rfl) ?_
    refine .v (.loadBox on9 rfl bsp rfl) ?_
    refine .v (.lenS un9 rfl) ?_
    refine .v (.add rfl rfl (by omega)) ?_
    refine AK.val (.int .i64 ((min (tot (lfs rs) (k + 1)) 512 : Nat) : Int)) (Yl.valE (Yl.min rfl rfl) (congrArg (Value.int .i64) (by rw [hts]; omega))) trivial rfl ?_
    refine .as rfl (.nil (.block_normal ?_))
    refine AK.then_ (hK13 _ ?_)
    refine AK.region ?_
    refine .v (.add rfl rfl (by omega)) ?_
    refine .mv rfl (.nil ?_)
    refine AK.then_ (hK10 _ _ (k + 1) (by omega) (by omega) (slr) (fun w hw => hw.pick [0, 1, 2, 3] (by decide) rfl rfl))
   ·have hk : k = rs.length := (by omega)
    subst hk
    refine .exit (.then_exit (.then_exit (.block_exit ?_)))
    refine AK.then_ (hK8 _ ?_)
    refine .seq fun _ hK15 => ?_
    refine .sr fun _ hK16 => ?_
    refine .mv rfl ?_
    refine .v (.gtr rfl rfl) ?_
    refine .mv rfl ?_
    refine AK.splitB (g := 50) rfl (fun hg_11_2 => ?_) (fun hg_11_2 => ?_)
    ·have hg_11_2' := hg_11_2
     try simp only [bs] at hg_11_2'
     refine AK.val _ (Yl.move rfl) ⟨_, rfl, congrArg (fun b => some (Value.bool b)) hg_11_2⟩ rfl ?_
     refine AK.val _ (Yl.lss rfl rfl) ⟨_, rfl, congrArg (fun b => some (Value.bool b)) hg_11_2⟩ rfl ?_
     refine .v (.pickT rfl (hg_11_2) rfl) ?_
     refine .nt hK16 ?_
     refine AK.condD rfl (fun hc2 => ?_) (fun hc2 => ?_)
     ·refine .sr fun _ hK17 => ?_
      refine AK.call co15 rfl (fun w hw => s_awake w) trivial rfl ?_
      rintro r o ⟨rfl, rfl⟩
      refine .as rfl (.nt hK17 (.ret (.then_ret ?_)))
      refine AK.ret1 rfl rfl (fun w hw => ⟨_, _, ?_, rfl, Ret.of (hw.pick [] (by decide) rfl rfl)⟩)
      exact ⟨rfl, rfl⟩
     ·refine .skip ?_
      refine AK.then_ (hK15 _ ?_)
      refine .sr fun _ hK18 => ?_
      refine .mv rfl (.mv rfl ?_)
      refine AK.call co25 rfl (fun w hw => s_refirred w v rs (h0.at hw) L hV (by omega)) trivial rfl ?_
      rintro r o ⟨d2, e2, bF, bN, bs, hI2, rfl, hbs, sbF, sbN, rfl⟩
      obtain ⟨hd12, he12⟩ := hI1.uniq hI2
      subst hd12
      subst he12
      refine .mv rfl ?_
      refine .v (.extract rfl rfl) ?_
      refine .v (.extract rfl rfl) ?_
      refine AK.alloc el36 rfl rfl trivial rfl (fun bx11 => ?_)
      refine AK.storeBox 7 (us := [.int .i64 d1.L, .int .i64 d1.s, bF, bN]) (cs' := [.int .i64 d1.L, .int .i64 d1.s, bF, bN]) rfl sz36 rfl rfl rfl rfl oneP (Nat.le_of_ble_eq_true rfl) rfl trivial ?_
      refine .as rfl (.nt hK18 ?_)
      refine .sr fun _ hK19 => ?_
      refine .mv rfl (.mv rfl ?_)
      refine .v (.eql rfl rfl) ?_
      refine .mv rfl ?_
      refine AK.knownT (g := 64) rfl (decide_eq_true rfl) (fun hg_14_3 => ?_)
      refine AK.val _ (Yl.loadBoxG ag36 rfl bsp rfl rfl) ⟨_, rfl, congrArg (fun b => some (Value.bool b)) hg_14_3⟩ rfl ?_
      refine AK.val _ (Yl.loadBoxG ag36 rfl bsp rfl rfl) ⟨_, rfl, congrArg (fun b => some (Value.bool b)) hg_14_3⟩ rfl ?_
      refine AK.call co24 rfl (fun w hw => s_sameD w _ _ d1 d1 (RdD.own 0 hw has rfl rfl rfl) (RdD.own 4 hw hbs rfl rfl rfl)) ⟨_, rfl, congrArg (fun b => some (Value.bool b)) hg_14_3⟩ rfl ?_
      rintro r o ⟨rfl, rfl⟩
      refine .v (.pickT rfl (hg_14_3) rfl) ?_
      refine .mv rfl ?_
      refine AK.knownT (g := 69) rfl (decide_eq_true rfl) (fun hg_14_8 => ?_)
      refine AK.call co15 rfl (fun w hw => s_awake w) ⟨_, rfl, congrArg (fun b => some (Value.bool b)) hg_14_8⟩ rfl ?_
      rintro r o ⟨rfl, rfl⟩
      refine .v (.pickT rfl (hg_14_8) rfl) ?_
      refine .as rfl (.nt hK19 (.ret ?_))
      refine AK.ret1 rfl rfl (fun w hw => ⟨_, _, ?_, rfl, Ret.of (hw.pick [] (by decide) rfl rfl)⟩)
      exact ⟨rfl, rfl⟩
    ·have hg_11_2' := hg_11_2
     try simp only [bs] at hg_11_2'
     refine AK.pass rfl rfl (hg_11_2) rfl ?_
     refine AK.pass rfl rfl (hg_11_2) rfl ?_
     refine .v (.pickF rfl (hg_11_2) rfl) ?_
     refine .nt hK16 ?_
     refine AK.cond_f rfl (rfl) ?_
     refine .skip ?_
     refine AK.then_ (hK15 _ ?_)
     refine .sr fun _ hK20 => ?_
     refine .mv rfl (.mv rfl ?_)
     refine AK.call co25 rfl (fun w hw => s_refirred w v rs (h0.at hw) L hV (by omega)) trivial rfl ?_
     rintro r o ⟨d2, e2, bF, bN, bs, hI2, rfl, hbs, sbF, sbN, rfl⟩
     obtain ⟨hd12, he12⟩ := hI1.uniq hI2
     subst hd12
     subst he12
     refine .mv rfl ?_
     refine .v (.extract rfl rfl) ?_
     refine .v (.extract rfl rfl) ?_
     refine AK.alloc el36 rfl rfl trivial rfl (fun bx11 => ?_)
     refine AK.storeBox 7 (us := [.int .i64 d1.L, .int .i64 d1.s, bF, bN]) (cs' := [.int .i64 d1.L, .int .i64 d1.s, bF, bN]) rfl sz36 rfl rfl rfl rfl oneP (Nat.le_of_ble_eq_true rfl) rfl trivial ?_
     refine .as rfl (.nt hK20 ?_)
     refine .sr fun _ hK21 => ?_
     refine .mv rfl (.mv rfl ?_)
     refine .v (.eql rfl rfl) ?_
     refine .mv rfl ?_
     refine AK.knownT (g := 64) rfl (decide_eq_true rfl) (fun hg_14_3 => ?_)
     refine AK.val _ (Yl.loadBoxG ag36 rfl bsp rfl rfl) ⟨_, rfl, congrArg (fun b => some (Value.bool b)) hg_14_3⟩ rfl ?_
     refine AK.val _ (Yl.loadBoxG ag36 rfl bsp rfl rfl) ⟨_, rfl, congrArg (fun b => some (Value.bool b)) hg_14_3⟩ rfl ?_
     refine AK.call co24 rfl (fun w hw => s_sameD w _ _ d1 d1 (RdD.own 0 hw has rfl rfl rfl) (RdD.own 4 hw hbs rfl rfl rfl)) ⟨_, rfl, congrArg (fun b => some (Value.bool b)) hg_14_3⟩ rfl ?_
     rintro r o ⟨rfl, rfl⟩
     refine .v (.pickT rfl (hg_14_3) rfl) ?_
     refine .mv rfl ?_
     refine AK.knownT (g := 69) rfl (decide_eq_true rfl) (fun hg_14_8 => ?_)
     refine AK.call co15 rfl (fun w hw => s_awake w) ⟨_, rfl, congrArg (fun b => some (Value.bool b)) hg_14_8⟩ rfl ?_
     rintro r o ⟨rfl, rfl⟩
     refine .v (.pickT rfl (hg_14_8) rfl) ?_
     refine .as rfl (.nt hK21 (.ret ?_))
     refine AK.ret1 rfl rfl (fun w hw => ⟨_, _, ?_, rfl, Ret.of (hw.pick [] (by decide) rfl rfl)⟩)
     exact ⟨rfl, rfl⟩

set_option maxHeartbeats 1600000 in
set_option maxRecDepth 100000 in
theorem l_accepts (w : World) (v : Value) (rs : List Rul) (h : RdR (fun _ => False) w v rs) (hll : ∀ k, k < rs.length → (rs.getD k ([], [])).1.length ≤ 9223372036854775807 ∧ (rs.getD k ([], [])).2.length ≤ 9223372036854775807) (L : Int) (u : Wrd) (hu : u.length ≤ 9223372036854775807) (hX : MxA w) : CallS Try.prog 11 [v, .int .i64 L, sv u] w (fun r o => r = .bool true ∧ o = []) := by
 have h0 := h
 have hb := h.len
 have sv0 := Rd.sl h
 unfold RdR at h
 refine spec_of Try.func11 rfl (Nat.le_of_ble_eq_true rfl) ?_
 refine .sr fun _ hK1 => ?_
 refine .as rfl (.nt hK1 ?_)
 refine .seq fun _ hK2 => ?_
 refine .sr fun _ hK3 => ?_
 refine .mv rfl (.mv rfl ?_)
 refine AK.call co21 rfl (fun w hw => s_little w v rs (h0.at hw) hll L 8) trivial rfl ?_
 rintro r o ⟨rfl, rfl⟩
 refine .v (.not rfl) ?_
 refine .mv rfl ?_
 refine AK.splitB (g := 13) rfl (fun hg_1_4 => ?_) (fun hg_1_4 => ?_)
 ·have hg_1_4' := hg_1_4
  try simp only [bs] at hg_1_4'
  refine AK.pass rfl rfl (hg_1_4) rfl ?_
  refine AK.pass rfl rfl (hg_1_4) rfl ?_
  refine AK.pass rfl rfl (hg_1_4) rfl ?_
  refine .v (.pickT rfl (hg_1_4) rfl) ?_
  refine .mv rfl ?_
  refine AK.pass rfl rfl rfl rfl ?_
  refine AK.pass rfl rfl rfl rfl ?_
  refine AK.pass rfl rfl rfl rfl ?_
  refine AK.pass rfl rfl rfl rfl ?_
  refine .v (.pickT rfl (rfl) rfl) ?_
  refine .nt hK3 ?_
  refine AK.cond_t rfl (rfl) ?_
  refine .sr fun _ hK4 => ?_
  refine AK.call co15 rfl (fun w hw => s_awake w) trivial rfl ?_
  rintro r o ⟨rfl, rfl⟩
  refine .as rfl (.nt hK4 (.ret (.then_ret ?_)))
  refine AK.ret1 rfl rfl (fun w hw => ⟨_, _, ?_, rfl, Ret.of (hw.pick [] (by decide) rfl rfl)⟩)
  exact ⟨rfl, rfl⟩
 ·have hg_1_4' := hg_1_4
  try simp only [bs] at hg_1_4'
  refine AK.val _ (Yl.move rfl) ⟨_, rfl, congrArg (fun b => some (Value.bool b)) hg_1_4⟩ rfl ?_
  refine AK.val _ (Yl.lenS un9 rfl) ⟨_, rfl, congrArg (fun b => some (Value.bool b)) hg_1_4⟩ rfl ?_
  refine AK.val _ (Yl.gtr rfl rfl) ⟨_, rfl, congrArg (fun b => some (Value.bool b)) hg_1_4⟩ rfl ?_
  refine .v (.pickF rfl (hg_1_4) rfl) ?_
  refine .mv rfl ?_
  refine AK.splitB (g := 18) rfl (fun hg_1_9 => ?_) (fun hg_1_9 => ?_)
  ·have hg_1_9' := hg_1_9
   try simp only [bs] at hg_1_9'
   refine AK.pass rfl rfl (hg_1_9) rfl ?_
   refine AK.pass rfl rfl (hg_1_9) rfl ?_
   refine AK.pass rfl rfl (hg_1_9) rfl ?_
   refine AK.pass rfl rfl (hg_1_9) rfl ?_
   refine .v (.pickT rfl (hg_1_9) rfl) ?_
   refine .nt hK3 ?_
   refine AK.cond_t rfl (rfl) ?_
   refine .sr fun _ hK5 => ?_
   refine AK.call co15 rfl (fun w hw => s_awake w) trivial rfl ?_
   rintro r o ⟨rfl, rfl⟩
   refine .as rfl (.nt hK5 (.ret (.then_ret ?_)))
   refine AK.ret1 rfl rfl (fun w hw => ⟨_, _, ?_, rfl, Ret.of (hw.pick [] (by decide) rfl rfl)⟩)
   exact ⟨rfl, rfl⟩
  ·have hg_1_9' := hg_1_9
   try simp only [bs] at hg_1_9'
   refine AK.val _ (Yl.move rfl) ⟨_, rfl, congrArg (fun b => some (Value.bool b)) hg_1_9⟩ rfl ?_
   refine AK.val _ (Yl.move rfl) ⟨_, rfl, congrArg (fun b => some (Value.bool b)) hg_1_9⟩ rfl ?_
   refine AK.call co18 rfl (fun w hw => s_refwvalid w u L hu) ⟨_, rfl, congrArg (fun b => some (Value.bool b)) hg_1_9⟩ rfl ?_
   rintro r o ⟨rfl, rfl⟩
   refine AK.val _ (Yl.not rfl) ⟨_, rfl, congrArg (fun b => some (Value.bool b)) hg_1_9⟩ rfl ?_
   refine .v (.pickF rfl (hg_1_9) rfl) ?_
   refine .nt hK3 ?_
   refine AK.condB rfl (fun hc0 => ?_) (fun hc0 => ?_)
   ·refine .sr fun _ hK6 => ?_
    refine AK.call co15 rfl (fun w hw => s_awake w) trivial rfl ?_
    rintro r o ⟨rfl, rfl⟩
    refine .as rfl (.nt hK6 (.ret (.then_ret ?_)))
    refine AK.ret1 rfl rfl (fun w hw => ⟨_, _, ?_, rfl, Ret.of (hw.pick [] (by decide) rfl rfl)⟩)
    exact ⟨rfl, rfl⟩
   ·have hW : validW L u = true := (by simpa using hc0)
    have hLt := lit_iff.1 (by simpa using hg_1_4)
    have hE := hLt.1
    have hts := tot_small hLt.2.2 rs.length (Nat.le_refl _)
    have hl8 := hLt.2.1
    refine .skip ?_
    refine AK.then_ (hK2 _ ?_)
    refine .sr fun _ hK7 => ?_
    refine .mv rfl (.mv rfl ?_)
    refine AK.call co23 rfl (fun w hw => s_irred w v rs (h0.at hw) hll L) trivial rfl ?_
    rintro r o ⟨d1, e1, aF, aN, as1, hI1, rfl, has, saF, saN, rfl⟩
    refine .mv rfl ?_
    refine .v (.extract rfl rfl) ?_
    refine .v (.extract rfl rfl) ?_
    refine AK.alloc el36 rfl rfl trivial rfl (fun bx7 => ?_)
    refine AK.storeBox 3 (us := [.int .i64 d1.L, .int .i64 d1.s, aF, aN]) (cs' := [.int .i64 d1.L, .int .i64 d1.s, aF, aN]) rfl sz36 rfl rfl rfl rfl oneP (Nat.le_of_ble_eq_true rfl) rfl trivial ?_
    refine .as rfl (.nt hK7 ?_)
    refine .sr fun _ hK8 => ?_
    refine .mv rfl ?_
    refine .v (.eql rfl rfl) ?_
    refine .mv rfl ?_
    refine AK.knownT (g := 33) rfl (decide_eq_true (irr_acc hI1 hE (by omega) hW).1) (fun hg_4_2 => ?_)
    refine AK.val _ (Yl.loadBoxG ag36 rfl bsp rfl rfl) ⟨_, rfl, congrArg (fun b => some (Value.bool b)) hg_4_2⟩ rfl ?_
    refine AK.val _ (Yl.move rfl) ⟨_, rfl, congrArg (fun b => some (Value.bool b)) hg_4_2⟩ rfl ?_
    refine AK.call co30 rfl (fun w hw => s_acc w _ d1 (RdD.own 0 hw has rfl rfl rfl) u hu) ⟨_, rfl, congrArg (fun b => some (Value.bool b)) hg_4_2⟩ rfl ?_
    rintro r o ⟨rfl, rfl⟩
    refine AK.val _ (Yl.move rfl) ⟨_, rfl, congrArg (fun b => some (Value.bool b)) hg_4_2⟩ rfl ?_
    refine AK.val _ (Yl.move rfl) ⟨_, rfl, congrArg (fun b => some (Value.bool b)) hg_4_2⟩ rfl ?_
    refine AK.call co17 rfl (fun w hw => s_Reduced w v rs (h0.at hw) hll u hu (hX.at hw)) ⟨_, rfl, congrArg (fun b => some (Value.bool b)) hg_4_2⟩ rfl ?_
    rintro r o ⟨rfl, rfl⟩
    refine AK.val _ (Yl.eqlB bo4 rfl rfl) ⟨_, rfl, congrArg (fun b => some (Value.bool b)) hg_4_2⟩ rfl ?_
    refine .v (.pickT rfl (hg_4_2) rfl) ?_
    refine .mv rfl ?_
    refine AK.knownT (g := 42) rfl (by rw [(irr_acc hI1 hE (by omega) hW).2]; simp) (fun hg_4_11 => ?_)
    refine AK.call co15 rfl (fun w hw => s_awake w) ⟨_, rfl, congrArg (fun b => some (Value.bool b)) hg_4_11⟩ rfl ?_
    rintro r o ⟨rfl, rfl⟩
    refine .v (.pickT rfl (hg_4_11) rfl) ?_
    refine .as rfl (.nt hK8 (.ret ?_))
    refine AK.ret1 rfl rfl (fun w hw => ⟨_, _, ?_, rfl, Ret.of (hw.pick [] (by decide) rfl rfl)⟩)
    exact ⟨rfl, rfl⟩

end Go.Proofs.Ytaeojcaidcjnaaa
