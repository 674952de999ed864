import Derived.Test.YtdnhiinakhmhgaaGreatDoorXZh
import Derived.Test.YtdnhiinakhmhgaaGreatDoorXZe
import Derived.Test.YtdnhiinakhmhgaaGreatDoorXZf
set_option linter.unusedVariables false
set_option linter.unusedSimpArgs false
set_option maxRecDepth 100000
namespace Go.Proofs.YtdnhiinakhmhgaaGreatDoor
open Go.Sx Go.RowKit
set_option maxHeartbeats 2000000 in
theorem s_replay (w : World) (v : Value) (q : Rn) (hv : RdEn (fun _ => False) w v q) (hW : Go.Sx.Way q) : CallS Tryz.prog 35 [v] w (fun r o => ∃ rb mb m, r = .tuple #[.pointer (some ⟨rb, 0, none⟩), .bool true] ∧ EnF m q ∧ o = [bigA (enO 75 26 3 39 9 rb mb m q)]) := by
 have hv0 := hv
 obtain ⟨vG, vE, vP, vL, vR, vU, rfl, h1, h2, h3, h4, h5, h6⟩ := hv
 refine spec_of Tryz.func35 rfl (leb rfl) ?_
 refine .sr fun _ hK1 => ?_
 refine AK.box_ (E := 29) (cs := [.int .i64 (q.pts : Int), .bool q.mon, vG, vE, vP, vL, vR, vU, .int .i64 (q.done : Int)]) rfl rfl rfl trivial rfl (fun bx1 => ?_)
 refine .as rfl (.as rfl (.nt hK1 ?_))
 refine .sr fun _ hK2 => ?_
 refine .v (.fieldAddr fd29_2 rfl) ?_
 refine .v (.loadBox on22 rfl bsp rfl) ?_
 refine .v (.fieldAddr fd29_1 rfl) ?_
 refine .v (.loadBox on4 rfl bsp rfl) ?_
 refine AK.call co34 rfl (fun w hw => s_ebegin w vG q.gens (h1.at hw) q.pts hW.ok.g hW.first q.mon) trivial rfl ?_
 rintro r o ⟨rb, mb, m, rfl, hF0, rfl⟩
 refine .mv rfl ?_
 refine .v (.extract rfl rfl) ?_
 refine .v (.extract rfl rfl) ?_
 refine .as rfl (.as rfl (.nt hK2 ?_))
 refine .seq fun _ hK3 => ?_
 refine .sr fun _ hK4 => ?_
 refine .mv rfl ?_
 refine .v (.neq rfl rfl) ?_
 refine .nt hK4 ?_
 refine AK.cond_f rfl (rfl) ?_
 refine .skip ?_
 refine AK.then_ (hK3 _ ?_)
 refine .seq fun _ hK5 => ?_
 refine .block ?_
 refine AK.loopK (X := Nat × EnM) [(1, _), (4, _)] (fun y => []) (fun y => [box bx1 29 9 [.int .i64 (q.pts : Int), .bool q.mon, vG, vE, vP, vL, vR, vU, .int .i64 (q.done : Int)], bigA (enO 75 26 3 39 9 rb mb y.2 (runK (begN q.gens q.mon) y.1))]) (fun y => y.1 ≤ q.done ∧ EnF y.2 (runK (begN q.gens q.mon) y.1)) (fun y => q.done - y.1) ((0, m)) slr ?_ ?_ ?_ ?_
 ·exact ⟨Nat.zero_le _, hF0⟩
 ·exact slr
 ·exact fun w hw => hw
 ·intro y hg0 _ hK6
  refine .seq fun _ hK7 => ?_
  refine .seq fun _ hK8 => ?_
  refine AK.quiet mixed krf ?_
  refine .mv rfl ?_
  refine .v (.nilCheck rfl) ?_
  refine .v (.fieldAddr fd75_0 rfl) ?_
  refine .v (.fieldAddr fd29_8 rfl) ?_
  refine .v (.loadBox on3 rfl (BoxS.big 1 9 rfl rfl) rfl) ?_
  refine .v (.fieldAddr fd29_8 rfl) ?_
  refine .v (.loadBox on3 rfl bsp rfl) ?_
  refine .v (.lss rfl rfl) ?_
  refine QK.nil (QK.fin ?_)
  refine AK.then_ (hK8 _ ?_)
  refine AK.condD rfl (fun hc1 => ?_) (fun hc1 => ?_)
  ·have hF := hg0.2
   have hi : y.1 < q.done := by
    rcases Nat.lt_or_ge y.1 q.done with h | h
    ·exact h
    ·have e : y.1 = q.done := by omega
     rw [e, hW.is] at hc1; omega
   obtain ⟨hnf, hdn⟩ := hW.part hi
   have hwy := hW.mid y.1
   have hlt := hwy.lt hnf
   refine .skip ?_
   refine AK.then_ (hK7 _ ?_)
   refine .block ?_
   refine .sr fun _ hK9 => ?_
   refine .mv rfl ?_
   refine AK.call co36 rfl (fun w hw => s_efin w rb mb y.2 (runK (begN q.gens q.mon) y.1) (RnR.big (TR := 75) (TRI := 26) (TI := 3) (TRU := 39) (TS := 9) 1 hw hF rfl)) trivial rfl ?_
   rintro r o ⟨rfl, rfl⟩
   refine .mv rfl ?_
   refine AK.knownF (g := 26) rfl (decide_eq_false hnf) (fun hg_5_2 => ?_)
   refine AK.val _ (Yl.move rfl) ⟨_, rfl, gB hg_5_2⟩ rfl ?_
   refine AK.callN 1 rfl co37 rfl (fun w Fs hw hh hfr hal => s_eproc w (Fs 1) rb mb y.2 (runK (begN q.gens q.mon) y.1) hF _ hwy.ok hlt hwy.bnd (hh.at_ 1 _ rfl)) ⟨_, rfl, gB hg_5_2⟩ rfl ?_
   rintro r A o ⟨rfl, rfl, m2, hF2, rfl⟩
   refine AK.val _ (Yl.neq rfl rfl) ⟨_, rfl, gB hg_5_2⟩ rfl ?_
   refine .v (.pickF rfl (hg_5_2) rfl) ?_
   refine .nt hK9 ?_
   refine AK.cond_f rfl (by first | rfl | decide) ?_
   refine .skip (.block_normal ?_)
   refine AK.then_ (hK6 _ _ ((y.1 + 1, m2)) ⟨by dsimp only; omega, by dsimp only; rw [runK_next hnf]; exact hF2⟩ (by dsimp only; omega) (slr) (fun w hw => by dsimp only; rw [runK_next hnf]; exact hw.pick [0, 1] (by decide) rfl rfl))
  ·have e : y.1 = q.done := by
    rcases Nat.lt_or_ge y.1 q.done with h | h
    ·have := (hW.part h).2; omega
    ·omega
   have hq : (runK (begN q.gens q.mon) y.1) = q := by rw [e]; exact hW.is
   have hF : EnF y.2 q := by have h := hg0.2; rw [hq] at h; exact h
   refine AK.own' [box bx1 29 9 [.int .i64 (q.pts : Int), .bool q.mon, vG, vE, vP, vL, vR, vU, .int .i64 (q.done : Int)], bigA (enO 75 26 3 39 9 rb mb y.2 q)] (fun w hw => by rw [hq] at hw; exact hw) ?_
   refine .exit (.then_exit (.then_exit (.block_exit ?_)))
   refine AK.then_ (hK5 _ ?_)
   refine .sr fun _ hK10 => ?_
   refine .mv rfl (.mv rfl ?_)
   refine .v (.loadBoxG ag29 rfl bsp rfl rfl) ?_
   refine AK.call co74 rfl (fun w hw => s_is w rb mb y.2 q (RnR.big (TR := 75) (TRI := 26) (TI := 3) (TRU := 39) (TS := 9) 1 hw hF rfl) _ (RdEn.at hv0 hw)) trivial rfl ?_
   rintro r o ⟨rfl, rfl⟩
   refine .as rfl (.as rfl (.nt hK10 (.ret ?_)))
   refine AK.ret2 rfl rfl rfl (fun w hw => ⟨_, _, ?_, rfl, Ret.of (hw.pick [1] (by decide) rfl rfl)⟩)
   exact ⟨rb, mb, y.2, rfl, hF, rfl⟩

set_option maxHeartbeats 400000 in
theorem s_replayfin (w : World) (v : Value) (q : Rn) (hv : RdEn (fun _ => False) w v q) (hW : Go.Sx.Way q) : CallS Tryz.prog 38 [v] w (fun r o => ∃ rb mb m, r = .tuple #[.pointer (some ⟨rb, 0, none⟩), .bool (decide (q.done = q.elems.length))] ∧ EnF m q ∧ o = [bigA (enO 75 26 3 39 9 rb mb m q)]) := by
 have hv0 := hv
 obtain ⟨vG, vE, vP, vL, vR, vU, rfl, h1, h2, h3, h4, h5, h6⟩ := hv
 refine spec_of Tryz.func38 rfl (leb rfl) ?_
 refine .sr fun _ hK1 => ?_
 refine AK.box_ (E := 29) (cs := [.int .i64 (q.pts : Int), .bool q.mon, vG, vE, vP, vL, vR, vU, .int .i64 (q.done : Int)]) rfl rfl rfl trivial rfl (fun bx1 => ?_)
 refine .as rfl (.as rfl (.nt hK1 ?_))
 refine .sr fun _ hK2 => ?_
 refine .v (.loadBoxG ag29 rfl bsp rfl rfl) ?_
 refine AK.call co35 rfl (fun w hw => s_replay w _ q (RdEn.at hv0 hw) hW) trivial rfl ?_
 rintro r o ⟨rb, mb, m, rfl, hF, rfl⟩
 refine .mv rfl ?_
 refine .v (.extract rfl rfl) ?_
 refine .v (.extract rfl rfl) ?_
 refine .as rfl (.as rfl (.nt hK2 ?_))
 refine .sr fun _ hK3 => ?_
 refine .mv rfl (.mv rfl (.mv rfl ?_))
 refine AK.knownT (g := 13) rfl (rfl) (fun hg_2_2 => ?_)
 refine AK.val _ (Yl.move rfl) ⟨_, rfl, gB hg_2_2⟩ rfl ?_
 refine AK.call co36 rfl (fun w hw => s_efin w rb mb m q (RnR.big (TR := 75) (TRI := 26) (TI := 3) (TRU := 39) (TS := 9) 1 hw hF rfl)) ⟨_, rfl, gB hg_2_2⟩ rfl ?_
 rintro r o ⟨rfl, rfl⟩
 refine .v (.pickT rfl (hg_2_2) rfl) ?_
 refine .as rfl (.as rfl (.nt hK3 (.ret ?_)))
 refine AK.ret2 rfl rfl rfl (fun w hw => ⟨_, _, ?_, rfl, Ret.of (hw.pick [1] (by decide) rfl rfl)⟩)
 exact ⟨rb, mb, m, rfl, hF, rfl⟩

set_option maxHeartbeats 400000 in
theorem s_evalid (w : World) (v : Value) (q : Rn) (hv : RdEn (fun _ => False) w v q) (hW : Go.Sx.Way q) : CallS Tryz.prog 9 [v] w (fun r o => r = .int .i64 0 ∧ o = []) := by
 have hv0 := hv
 obtain ⟨vG, vE, vP, vL, vR, vU, rfl, h1, h2, h3, h4, h5, h6⟩ := hv
 refine spec_of Tryz.func9 rfl (leb rfl) ?_
 refine .sr fun _ hK1 => ?_
 refine AK.box_ (E := 29) (cs := [.int .i64 (q.pts : Int), .bool q.mon, vG, vE, vP, vL, vR, vU, .int .i64 (q.done : Int)]) rfl rfl rfl trivial rfl (fun bx1 => ?_)
 refine .as rfl (.nt hK1 ?_)
 refine .seq fun _ hK2 => ?_
 refine .sr fun _ hK3 => ?_
 refine .v (.loadBoxG ag29 rfl bsp rfl rfl) ?_
 refine AK.call co35 rfl (fun w hw => s_replay w _ q (RdEn.at hv0 hw) hW) trivial rfl ?_
 rintro r o ⟨rb, mb, m, rfl, hF, rfl⟩
 refine .mv rfl ?_
 refine .v (.extract rfl rfl) ?_
 refine .v (.extract rfl rfl) ?_
 refine .as rfl (.as rfl (.nt hK3 ?_))
 refine .sr fun _ hK4 => ?_
 refine .mv rfl ?_
 refine .v (.not rfl) ?_
 refine .nt hK4 ?_
 refine AK.cond_f rfl (rfl) ?_
 refine .skip ?_
 refine AK.then_ (hK2 _ ?_)
 refine .sr fun _ hK5 => ?_
 refine .as rfl (.nt hK5 (.ret ?_))
 refine AK.ret1 rfl rfl (fun w hw => ⟨_, _, ?_, rfl, Ret.of (hw.pick [] (by decide) rfl rfl)⟩)
 exact ⟨rfl, rfl⟩

set_option maxHeartbeats 400000 in
theorem s_efinished (w : World) (v : Value) (q : Rn) (hv : RdEn (fun _ => False) w v q) (hW : Go.Sx.Way q) : CallS Tryz.prog 12 [v] w (fun r o => r = .bool (decide (q.done = q.elems.length)) ∧ o = []) := by
 have hv0 := hv
 obtain ⟨vG, vE, vP, vL, vR, vU, rfl, h1, h2, h3, h4, h5, h6⟩ := hv
 refine spec_of Tryz.func12 rfl (leb rfl) ?_
 refine .sr fun _ hK1 => ?_
 refine AK.box_ (E := 29) (cs := [.int .i64 (q.pts : Int), .bool q.mon, vG, vE, vP, vL, vR, vU, .int .i64 (q.done : Int)]) rfl rfl rfl trivial rfl (fun bx1 => ?_)
 refine .as rfl (.nt hK1 ?_)
 refine .sr fun _ hK2 => ?_
 refine .v (.loadBoxG ag29 rfl bsp rfl rfl) ?_
 refine AK.call co38 rfl (fun w hw => s_replayfin w _ q (RdEn.at hv0 hw) hW) trivial rfl ?_
 rintro r o ⟨rb, mb, m, rfl, hF, rfl⟩
 refine .mv rfl ?_
 refine .v (.extract rfl rfl) ?_
 refine .v (.extract rfl rfl) ?_
 refine .as rfl (.as rfl (.nt hK2 ?_))
 refine .sr fun _ hK3 => ?_
 refine .mv rfl (.as rfl (.nt hK3 (.ret ?_)))
 refine AK.ret1 rfl rfl (fun w hw => ⟨_, _, ?_, rfl, Ret.of (hw.pick [] (by decide) rfl rfl)⟩)
 exact ⟨rfl, rfl⟩

set_option maxHeartbeats 800000 in
theorem s_estart (w : World) (v : Value) (G : List (List Int)) (h : RdLL (fun _ => False) (Value.int .i64) w v G) (n : Nat) (hG : VG G n) (hn : (G.getD 0 []).length = n) (mon : Bool) : CallS Tryz.prog 8 [v, .bool mon] w (fun r o => ∃ m, r = .tuple #[.agg (enC m (begN G mon)).toArray, .int .i64 0] ∧ EnF m (begN G mon) ∧ o = [bigA (enS 26 3 39 m (begN G mon))]) := by
 refine spec_of Tryz.func8 rfl (leb rfl) ?_
 refine .sr fun _ hK1 => ?_
 refine AK.alloc el29 rfl rfl trivial rfl (fun bx4 => ?_)
 refine .as rfl (.nt hK1 ?_)
 refine .sr fun _ hK2 => ?_
 refine .mv rfl (.mv rfl ?_)
 refine AK.call co34 rfl (fun w hw => s_ebegin w v G (h.at hw) n hG hn mon) trivial rfl ?_
 rintro r o ⟨rb, mb, m, rfl, hF, rfl⟩
 refine .mv rfl ?_
 refine .v (.extract rfl rfl) ?_
 refine .v (.extract rfl rfl) ?_
 refine .as rfl (.as rfl (.nt hK2 ?_))
 refine .seq fun _ hK3 => ?_
 refine .sr fun _ hK4 => ?_
 refine .mv rfl ?_
 refine .v (.neq rfl rfl) ?_
 refine .nt hK4 ?_
 refine AK.cond_f rfl (rfl) ?_
 refine .skip ?_
 refine AK.then_ (hK3 _ ?_)
 refine .sr fun _ hK5 => ?_
 refine .mv rfl ?_
 refine .v (.nilCheck rfl) ?_
 refine .v (.fieldAddr fd75_0 rfl) ?_
 refine AK.val (.agg (enC m (begN G mon)).toArray) (Yl.loadBoxG (cs := enB mb m (begN G mon)) (us := enC m (begN G mon)) ag29 rfl (BoxS.big 1 9 rfl rfl) rfl rfl) trivial rfl ?_
 refine AK.storeBox 0 (us := (enC m (begN G mon))) (cs' := (enC m (begN G mon))) rfl sz29 rfl rfl rfl rfl (enC_one hF) (leb rfl) rfl trivial ?_
 refine .as rfl (.nt hK5 (.ret ?_))
 refine AK.own' [bigA (enS 26 3 39 m (begN G mon)), box bx4 29 9 (enC m (begN G mon))] (fun w hw => hw.savedB (TR := 75) (TS := 9) (rb := rb) (mb := mb) 1 0 (by decide) rfl rfl) ?_
 refine AK.retG [.cell 4 29, .tmp 5] rfl (.cons (.cell ag29 rfl bsp rfl rfl) (.cons (.tmp rfl) (.nil))) (fun w hw => ⟨_, _, ?_, rfl, Ret.of (hw.pick [0] (by decide) rfl rfl)⟩)
 exact ⟨m, rfl, hF, rfl⟩

set_option maxHeartbeats 1600000 in
theorem s_ebuild (w : World) (v : Value) (G : List (List Int)) (h : RdLL (fun _ => False) (Value.int .i64) w v G) (n : Nat) (hG : VG G n) (hn : (G.getD 0 []).length = n) (mon : Bool) (q2 : Rn) (hq2 : runK (begN G mon) 257 = q2) : CallS Tryz.prog 11 [v, .bool mon] w (fun r o => ∃ m, r = .tuple #[.agg (enC m q2).toArray, .int .i64 0] ∧ EnF m q2 ∧ o = [bigA (enS 26 3 39 m q2)]) := by
 subst hq2
 have hb0 := begN_ok hG mon hn
 have hbI : RnI (begN G mon) (begN G mon).gens.length G.length := by rw [hb0.2]; exact hb0.1
 refine spec_of Tryz.func11 rfl (leb rfl) ?_
 refine .sr fun _ hK1 => ?_
 refine AK.alloc el29 rfl rfl trivial rfl (fun bx4 => ?_)
 refine .as rfl (.nt hK1 ?_)
 refine .sr fun _ hK2 => ?_
 refine .mv rfl (.mv rfl ?_)
 refine AK.call co34 rfl (fun w hw => s_ebegin w v G (h.at hw) n hG hn mon) trivial rfl ?_
 rintro r o ⟨rb, mb, m, rfl, hF0, rfl⟩
 refine .mv rfl ?_
 refine .v (.extract rfl rfl) ?_
 refine .v (.extract rfl rfl) ?_
 refine .as rfl (.as rfl (.nt hK2 ?_))
 refine .seq fun _ hK3 => ?_
 refine .sr fun _ hK4 => ?_
 refine .mv rfl ?_
 refine .v (.neq rfl rfl) ?_
 refine .nt hK4 ?_
 refine AK.cond_f rfl (rfl) ?_
 refine .skip ?_
 refine AK.then_ (hK3 _ ?_)
 refine .seq fun _ hK5 => ?_
 refine .block ?_
 refine AK.loopK (X := Nat × EnM) [(4, _), (6, _)] (fun y => []) (fun y => [box bx4 29 9 [.int .i64 0, .bool false, .slice none 0 0, .slice none 0 0, .slice none 0 0, .slice none 0 0, .slice none 0 0, .slice none 0 0, .int .i64 0], bigA (enO 75 26 3 39 9 rb mb y.2 (runK (begN G mon) y.1))]) (fun y => y.1 ≤ 257 ∧ EnF y.2 (runK (begN G mon) y.1)) (fun y => 257 - y.1) ((0, m)) slr ?_ ?_ ?_ ?_
 ·exact ⟨Nat.zero_le _, hF0⟩
 ·exact slr
 ·exact fun w hw => hw
 ·intro y hg0 _ hK6
  refine .seq fun _ hK7 => ?_
  refine .sr fun _ hK8 => ?_
  refine .mv rfl ?_
  have hF := hg0.2
  have hwy := Go.Sx.Way.run hG mon hn y.1
  refine AK.call co36 rfl (fun w hw => s_efin w rb mb y.2 (runK (begN G mon) y.1) (RnR.big (TR := 75) (TRI := 26) (TI := 3) (TRU := 39) (TS := 9) 1 hw hF rfl)) trivial rfl ?_
  rintro r o ⟨rfl, rfl⟩
  refine .v (.not rfl) ?_
  refine .nt hK8 ?_
  refine AK.condB rfl (fun hc1 => ?_) (fun hc1 => ?_)
  ·have hnf : ¬ finR (runK (begN G mon) y.1) := by simpa [finR] using hc1
   have hlt := hwy.lt hnf
   have hy : y.1 < 257 := by
    rcases Nat.lt_or_ge y.1 257 with h | h
    ·exact h
    ·exact absurd (runK_ends hbI h) hnf
   refine .skip ?_
   refine AK.then_ (hK7 _ ?_)
   refine .block ?_
   refine .sr fun _ hK9 => ?_
   refine .mv rfl ?_
   refine AK.callN 1 rfl co37 rfl (fun w Fs hw hh hfr hal => s_eproc w (Fs 1) rb mb y.2 (runK (begN G mon) y.1) hF _ hwy.ok hlt hwy.bnd (hh.at_ 1 _ rfl)) trivial rfl ?_
   rintro r A o ⟨rfl, rfl, m2, hF2, rfl⟩
   refine .as rfl (.nt hK9 ?_)
   refine .sr fun _ hK10 => ?_
   refine .mv rfl ?_
   refine .v (.neq rfl rfl) ?_
   refine .nt hK10 ?_
   refine AK.cond_f rfl (rfl) ?_
   refine .skip (.block_normal ?_)
   refine AK.then_ (hK6 _ _ ((y.1 + 1, m2)) ⟨by dsimp only; omega, by dsimp only; rw [runK_next hnf]; exact hF2⟩ (by dsimp only; omega) (slr) (fun w hw => by dsimp only; rw [runK_next hnf]; exact hw.pick [0, 1] (by decide) rfl rfl))
  ·have hfn : finR (runK (begN G mon) y.1) := by simpa [finR] using hc1
   have hq : (runK (begN G mon) y.1) = (runK (begN G mon) 257) := (runK_fin_le hfn hg0.1).symm
   have hF : EnF y.2 (runK (begN G mon) 257) := by have h := hg0.2; rw [hq] at h; exact h
   refine AK.own' [box bx4 29 9 [.int .i64 0, .bool false, .slice none 0 0, .slice none 0 0, .slice none 0 0, .slice none 0 0, .slice none 0 0, .slice none 0 0, .int .i64 0], bigA (enO 75 26 3 39 9 rb mb y.2 (runK (begN G mon) 257))] (fun w hw => by rw [hq] at hw; exact hw) ?_
   refine .exit (.then_exit (.then_exit (.block_exit ?_)))
   refine AK.then_ (hK5 _ ?_)
   refine .sr fun _ hK11 => ?_
   refine .mv rfl ?_
   refine .v (.nilCheck rfl) ?_
   refine .v (.fieldAddr fd75_0 rfl) ?_
   refine AK.val (.agg (enC y.2 (runK (begN G mon) 257)).toArray) (Yl.loadBoxG (cs := enB mb y.2 (runK (begN G mon) 257)) (us := enC y.2 (runK (begN G mon) 257)) ag29 rfl (BoxS.big 1 9 rfl rfl) rfl rfl) trivial rfl ?_
   refine AK.storeBox 0 (us := (enC y.2 (runK (begN G mon) 257))) (cs' := (enC y.2 (runK (begN G mon) 257))) rfl sz29 rfl rfl rfl rfl (enC_one hF) (leb rfl) rfl trivial ?_
   refine .as rfl (.nt hK11 (.ret ?_))
   refine AK.own' [bigA (enS 26 3 39 y.2 (runK (begN G mon) 257)), box bx4 29 9 (enC y.2 (runK (begN G mon) 257))] (fun w hw => hw.savedB (TR := 75) (TS := 9) (rb := rb) (mb := mb) 1 0 (by decide) rfl rfl) ?_
   refine AK.retG [.cell 4 29, .tmp 5] rfl (.cons (.cell ag29 rfl bsp rfl rfl) (.cons (.tmp rfl) (.nil))) (fun w hw => ⟨_, _, ?_, rfl, Ret.of (hw.pick [0] (by decide) rfl rfl)⟩)
   exact ⟨y.2, rfl, hF, rfl⟩

set_option maxHeartbeats 1600000 in
theorem s_estep (w : World) (v : Value) (q : Rn) (hv : RdEn (fun _ => False) w v q) (hW : Go.Sx.Way q) (b : Nat) (hb : b ≤ 100000) (q2 : Rn) (hq2 : runK q b = q2) : CallS Tryz.prog 10 [v, .int .i64 (b : Int)] w (fun r o => ∃ m, r = .tuple #[.agg (enC m q2).toArray, .int .i64 0] ∧ EnF m q2 ∧ o = [bigA (enS 26 3 39 m q2)]) := by
 have hv0 := hv
 obtain ⟨vG, vE, vP, vL, vR, vU, rfl, h1, h2, h3, h4, h5, h6⟩ := hv
 refine spec_of Tryz.func10 rfl (leb rfl) ?_
 refine .sr fun _ hK1 => ?_
 refine AK.box_ (E := 29) (cs := [.int .i64 (q.pts : Int), .bool q.mon, vG, vE, vP, vL, vR, vU, .int .i64 (q.done : Int)]) rfl rfl rfl trivial rfl (fun bx2 => ?_)
 refine AK.alloc el29 rfl rfl trivial rfl (fun bx4 => ?_)
 refine .as rfl (.nt hK1 ?_)
 refine .sr fun _ hK2 => ?_
 refine .v (.loadBoxG ag29 rfl bsp rfl rfl) ?_
 refine AK.call co35 rfl (fun w hw => s_replay w _ q (RdEn.at hv0 hw) hW) trivial rfl ?_
 rintro r o ⟨rb, mb, m, rfl, hF0, rfl⟩
 refine .mv rfl ?_
 refine .v (.extract rfl rfl) ?_
 refine .v (.extract rfl rfl) ?_
 refine .as rfl (.as rfl (.nt hK2 ?_))
 refine .seq fun _ hK3 => ?_
 refine .sr fun _ hK4 => ?_
 refine .mv rfl ?_
 refine .v (.not rfl) ?_
 refine .nt hK4 ?_
 refine AK.cond_f rfl (rfl) ?_
 refine .skip ?_
 refine AK.then_ (hK3 _ ?_)
 refine .seq fun _ hK5 => ?_
 refine .sr fun _ hK6 => ?_
 refine .mv rfl ?_
 refine .v (.lss rfl rfl) ?_
 refine .nt hK6 ?_
 refine AK.cond_f rfl (decide_eq_false (by omega)) ?_
 refine .skip ?_
 refine AK.then_ (hK5 _ ?_)
 refine .seq fun _ hK7 => ?_
 refine .block ?_
 refine AK.loopK (X := Nat × EnM) [(4, _), (6, _)] (fun y => [(1, .int .i64 ((b : Int) - (y.1 : Int)))]) (fun y => [box bx2 29 9 [.int .i64 (q.pts : Int), .bool q.mon, vG, vE, vP, vL, vR, vU, .int .i64 (q.done : Int)], box bx4 29 9 [.int .i64 0, .bool false, .slice none 0 0, .slice none 0 0, .slice none 0 0, .slice none 0 0, .slice none 0 0, .slice none 0 0, .int .i64 0], bigA (enO 75 26 3 39 9 rb mb y.2 (runK q y.1))]) (fun y => y.1 ≤ b ∧ EnF y.2 (runK q y.1)) (fun y => b - y.1) ((0, m)) slr ?_ ?_ ?_ ?_
 ·exact ⟨Nat.zero_le _, hF0⟩
 ·exact .cons (slI rfl (by omega)) (slr)
 ·exact fun w hw => hw
 ·intro y hg0 _ hK8
  refine .seq fun _ hK9 => ?_
  refine .sr fun _ hK10 => ?_
  refine .mv rfl ?_
  refine .v (.gtr rfl rfl) ?_
  refine .mv rfl ?_
  refine AK.splitB (g := 22) rfl (fun hg_6_2 => ?_) (fun hg_6_2 => ?_)
  ·have hg_6_2' := hg_6_2
   try simp only [bs] at hg_6_2'
   refine AK.val _ (Yl.move rfl) ⟨_, rfl, gB hg_6_2⟩ rfl ?_
   have hF := hg0.2
   have hwy := hW.more y.1
   refine AK.call co36 rfl (fun w hw => s_efin w rb mb y.2 (runK q y.1) (RnR.big (TR := 75) (TRI := 26) (TI := 3) (TRU := 39) (TS := 9) 2 hw hF rfl)) ⟨_, rfl, gB hg_6_2⟩ rfl ?_
   rintro r o ⟨rfl, rfl⟩
   refine AK.val _ (Yl.not rfl) ⟨_, rfl, gB hg_6_2⟩ rfl ?_
   refine .v (.pickT rfl (hg_6_2) rfl) ?_
   refine .nt hK10 ?_
   refine AK.condB rfl (fun hc2 => ?_) (fun hc2 => ?_)
   ·have hnf : ¬ finR (runK q y.1) := by simpa [finR] using hc2
    have hlt := hwy.lt hnf
    have hy : y.1 < b := by omega
    refine .skip ?_
    refine AK.then_ (hK9 _ ?_)
    refine .seq fun _ hK11 => ?_
    refine .block ?_
    refine .sr fun _ hK12 => ?_
    refine .mv rfl ?_
    refine AK.callN 2 rfl co37 rfl (fun w Fs hw hh hfr hal => s_eproc w (Fs 2) rb mb y.2 (runK q y.1) hF _ hwy.ok hlt hwy.bnd (hh.at_ 2 _ rfl)) trivial rfl ?_
    rintro r A o ⟨rfl, rfl, m2, hF2, rfl⟩
    refine .as rfl (.nt hK12 ?_)
    refine .sr fun _ hK13 => ?_
    refine .mv rfl ?_
    refine .v (.neq rfl rfl) ?_
    refine .nt hK13 ?_
    refine AK.cond_f rfl (rfl) ?_
    refine .skip (.block_normal ?_)
    refine AK.then_ (hK11 _ ?_)
    refine AK.region ?_
    refine .mv rfl ?_
    refine .v (.sub rfl rfl (by omega)) ?_
    refine .as rfl (.nil ?_)
    refine AK.then_ (hK8 _ _ ((y.1 + 1, m2)) ⟨by dsimp only; omega, by dsimp only; rw [runK_next hnf]; exact hF2⟩ (by dsimp only; omega) (.cons (slI rfl (by dsimp only; omega)) (slr)) (fun w hw => by dsimp only; rw [runK_next hnf]; exact hw.pick [0, 1, 2] (by decide) rfl rfl))
   ·have hq : (runK q y.1) = q2 := by
     rw [← hq2]
     first
     | (have e : y.1 = b := (by omega); rw [e]; done)
     | (have hfn : finR (runK q y.1) := (by simpa [finR] using hc2); exact (runK_fin_le hfn hg0.1).symm)
    have hF : EnF y.2 q2 := by have h := hg0.2; rw [hq] at h; exact h
    refine AK.own' [box bx2 29 9 [.int .i64 (q.pts : Int), .bool q.mon, vG, vE, vP, vL, vR, vU, .int .i64 (q.done : Int)], box bx4 29 9 [.int .i64 0, .bool false, .slice none 0 0, .slice none 0 0, .slice none 0 0, .slice none 0 0, .slice none 0 0, .slice none 0 0, .int .i64 0], bigA (enO 75 26 3 39 9 rb mb y.2 q2)] (fun w hw => by rw [hq] at hw; exact hw) ?_
    refine .exit (.then_exit (.then_exit (.block_exit ?_)))
    refine AK.then_ (hK7 _ ?_)
    refine .sr fun _ hK14 => ?_
    refine .mv rfl ?_
    refine .v (.nilCheck rfl) ?_
    refine .v (.fieldAddr fd75_0 rfl) ?_
    refine AK.val (.agg (enC y.2 q2).toArray) (Yl.loadBoxG (cs := enB mb y.2 q2) (us := enC y.2 q2) ag29 rfl (BoxS.big 2 9 rfl rfl) rfl rfl) trivial rfl ?_
    refine AK.storeBox 1 (us := (enC y.2 q2)) (cs' := (enC y.2 q2)) rfl sz29 rfl rfl rfl rfl (enC_one hF) (leb rfl) rfl trivial ?_
    refine .as rfl (.nt hK14 (.ret ?_))
    refine AK.own' [bigA (enS 26 3 39 y.2 q2), box bx4 29 9 (enC y.2 q2)] (fun w hw => hw.savedB (TR := 75) (TS := 9) (rb := rb) (mb := mb) 2 1 (by decide) rfl rfl) ?_
    refine AK.retG [.cell 4 29, .tmp 5] rfl (.cons (.cell ag29 rfl bsp rfl rfl) (.cons (.tmp rfl) (.nil))) (fun w hw => ⟨_, _, ?_, rfl, Ret.of (hw.pick [0] (by decide) rfl rfl)⟩)
    exact ⟨y.2, rfl, hF, rfl⟩
  ·have hg_6_2' := hg_6_2
   try simp only [bs] at hg_6_2'
   refine AK.pass rfl rfl (hg_6_2) rfl ?_
   refine AK.pass rfl rfl (hg_6_2) rfl ?_
   refine AK.pass rfl rfl (hg_6_2) rfl ?_
   refine .v (.pickF rfl (hg_6_2) rfl) ?_
   refine .nt hK10 ?_
   refine AK.cond_f rfl (rfl) ?_
   have hq : (runK q y.1) = q2 := by
    rw [← hq2]
    first
    | (have e : y.1 = b := (by omega); rw [e]; done)
    | (have hfn : finR (runK q y.1) := (by simpa [finR] using hc2); exact (runK_fin_le hfn hg0.1).symm)
   have hF : EnF y.2 q2 := by have h := hg0.2; rw [hq] at h; exact h
   refine AK.own' [box bx2 29 9 [.int .i64 (q.pts : Int), .bool q.mon, vG, vE, vP, vL, vR, vU, .int .i64 (q.done : Int)], box bx4 29 9 [.int .i64 0, .bool false, .slice none 0 0, .slice none 0 0, .slice none 0 0, .slice none 0 0, .slice none 0 0, .slice none 0 0, .int .i64 0], bigA (enO 75 26 3 39 9 rb mb y.2 q2)] (fun w hw => by rw [hq] at hw; exact hw) ?_
   refine .exit (.then_exit (.then_exit (.block_exit ?_)))
   refine AK.then_ (hK7 _ ?_)
   refine .sr fun _ hK15 => ?_
   refine .mv rfl ?_
   refine .v (.nilCheck rfl) ?_
   refine .v (.fieldAddr fd75_0 rfl) ?_
   refine AK.val (.agg (enC y.2 q2).toArray) (Yl.loadBoxG (cs := enB mb y.2 q2) (us := enC y.2 q2) ag29 rfl (BoxS.big 2 9 rfl rfl) rfl rfl) trivial rfl ?_
   refine AK.storeBox 1 (us := (enC y.2 q2)) (cs' := (enC y.2 q2)) rfl sz29 rfl rfl rfl rfl (enC_one hF) (leb rfl) rfl trivial ?_
   refine .as rfl (.nt hK15 (.ret ?_))
   refine AK.own' [bigA (enS 26 3 39 y.2 q2), box bx4 29 9 (enC y.2 q2)] (fun w hw => hw.savedB (TR := 75) (TS := 9) (rb := rb) (mb := mb) 2 1 (by decide) rfl rfl) ?_
   refine AK.retG [.cell 4 29, .tmp 5] rfl (.cons (.cell ag29 rfl bsp rfl rfl) (.cons (.tmp rfl) (.nil))) (fun w hw => ⟨_, _, ?_, rfl, Ret.of (hw.pick [0] (by decide) rfl rfl)⟩)
   exact ⟨y.2, rfl, hF, rfl⟩

end Go.Proofs.YtdnhiinakhmhgaaGreatDoor

namespace Go.Proofs.YtdnhiinakhmhgaaGreatDoor
open Go.Sx Go.RowKit
theorem s_isempty (w : World) (e : Ex) (s : Value) : CallS Tryz.prog 158 [.agg #[.int .i64 e.op, .int .i64 e.lt, s]] w (fun r o => r = .bool (isEmptyE e) ∧ o = []) := by
 refine spec_of Tryz.func158 rfl (leb rfl) ?_
 refine .sr fun _ hK1 => ?_
 refine AK.box_ (E := 65) (cs := [.int .i64 e.op, .int .i64 e.lt, s]) rfl rfl rfl trivial rfl (fun bx1 => ?_)
 refine .as rfl (.nt hK1 ?_)
 refine .sr fun _ hK2 => ?_
 refine .v (.fieldAddr fd65_0 rfl) ?_
 refine .v (.loadBox on3 rfl bsp rfl) ?_
 refine .v (.eql rfl rfl) ?_
 refine .as rfl (.nt hK2 (.ret ?_))
 refine AK.ret1 rfl rfl (fun w hw => ⟨_, _, ?_, rfl, Ret.of (hw.pick [] (by decide) rfl rfl)⟩)
 exact ⟨rfl, rfl⟩

theorem s_isunit (w : World) (e : Ex) (s : Value) : CallS Tryz.prog 176 [.agg #[.int .i64 e.op, .int .i64 e.lt, s]] w (fun r o => r = .bool (isUnitE e) ∧ o = []) := by
 refine spec_of Tryz.func176 rfl (leb rfl) ?_
 refine .sr fun _ hK1 => ?_
 refine AK.box_ (E := 65) (cs := [.int .i64 e.op, .int .i64 e.lt, s]) rfl rfl rfl trivial rfl (fun bx1 => ?_)
 refine .as rfl (.nt hK1 ?_)
 refine .sr fun _ hK2 => ?_
 refine .v (.fieldAddr fd65_0 rfl) ?_
 refine .v (.loadBox on3 rfl bsp rfl) ?_
 refine .v (.eql rfl rfl) ?_
 refine .as rfl (.nt hK2 (.ret ?_))
 refine AK.ret1 rfl rfl (fun w hw => ⟨_, _, ?_, rfl, Ret.of (hw.pick [] (by decide) rfl rfl)⟩)
 exact ⟨rfl, rfl⟩

theorem s_isuniv (w : World) (e : Ex) (s : Value) (h : RdK (cellR (fun _ => False) w) s e.kids) : CallS Tryz.prog 126 [.agg #[.int .i64 e.op, .int .i64 e.lt, s]] w (fun r o => r = .bool (isUnivE e) ∧ o = []) := by
 obtain ⟨ss, hl, hx, hk⟩ := h.inv
 have hr := hx.rd
 have hm := hr.le
 refine spec_of Tryz.func126 rfl (leb rfl) ?_
 refine .sr fun _ hK1 => ?_
 refine AK.box_ (E := 65) (cs := [.int .i64 e.op, .int .i64 e.lt, s]) rfl rfl rfl trivial rfl (fun bx1 => ?_)
 refine .as rfl (.nt hK1 ?_)
 refine .sr fun _ hK2 => ?_
 refine .v (.fieldAddr fd65_0 rfl) ?_
 refine .v (.loadBox on3 rfl bsp rfl) ?_
 refine .v (.eql rfl rfl) ?_
 refine .mv rfl ?_
 refine AK.splitB (g := 6) rfl (fun hg_1_3 => ?_) (fun hg_1_3 => ?_)
 ·have hg_1_3' := hg_1_3
  try simp only [bs] at hg_1_3'
  refine AK.val _ (Yl.fieldAddr fd65_2 rfl) ⟨_, rfl, gB hg_1_3⟩ rfl ?_
  refine AK.val _ (Yl.loadBox on63 rfl bsp rfl) ⟨_, rfl, gB hg_1_3⟩ rfl ?_
  refine AK.val _ (Yl.lenR sl63 rfl rdp) ⟨_, rfl, gB hg_1_3⟩ rfl ?_
  refine AK.val _ (Yl.eql rfl rfl) ⟨_, rfl, gB hg_1_3⟩ rfl ?_
  refine .v (.pickT rfl (hg_1_3) rfl) ?_
  refine .mv rfl ?_
  refine AK.splitB (g := 12) rfl (fun hg_1_9 => ?_) (fun hg_1_9 => ?_)
  ·have hg_1_9' := hg_1_9
   try simp only [bs] at hg_1_9'
   refine AK.val _ (Yl.fieldAddr fd65_2 rfl) ⟨_, rfl, gB hg_1_9⟩ rfl ?_
   refine AK.val _ (Yl.loadBox on63 rfl bsp rfl) ⟨_, rfl, gB hg_1_9⟩ rfl ?_
   refine AK.val _ (Yl.idxN (k := 0) sl63 rfl rfl rdp (by decide) (by have := hg_1_9; simp at this; omega)) ⟨_, rfl, gB hg_1_9⟩ rfl ?_
   refine AK.val _ (Yl.loadE ag65 rfl rdp (by assumption) rfl (by omega)) ⟨_, rfl, gB hg_1_9⟩ rfl ?_
   refine AK.call co158 rfl (fun w hw => s_isempty w _ _) ⟨_, rfl, gB hg_1_9⟩ rfl ?_
   rintro r o ⟨rfl, rfl⟩
   refine .v (.pickT rfl (hg_1_9) rfl) ?_
   refine .as rfl (.nt hK2 (.ret ?_))
   refine AK.ret1 rfl rfl (fun w hw => ⟨_, _, ?_, rfl, Ret.of (hw.pick [] (by decide) rfl rfl)⟩)
   refine ⟨congrArg Value.bool ?_, rfl⟩
   unfold isUnivE
   first | (have g : e.kids.length = 1 := (by omega); simp [hg_1_3', g]; done) | (have g : ¬ e.kids.length = 1 := (by omega); simp [g]; done) | (simp [hg_1_3']; done)
  ·have hg_1_9' := hg_1_9
   try simp only [bs] at hg_1_9'
   refine AK.pass rfl rfl (hg_1_9) rfl ?_
   refine AK.pass rfl rfl (hg_1_9) rfl ?_
   refine AK.pass rfl rfl (hg_1_9) rfl ?_
   refine AK.pass rfl rfl (hg_1_9) rfl ?_
   refine AK.pass rfl rfl (hg_1_9) rfl ?_
   refine .v (.pickF rfl (hg_1_9) rfl) ?_
   refine .as rfl (.nt hK2 (.ret ?_))
   refine AK.ret1 rfl rfl (fun w hw => ⟨_, _, ?_, rfl, Ret.of (hw.pick [] (by decide) rfl rfl)⟩)
   refine ⟨congrArg Value.bool ?_, rfl⟩
   unfold isUnivE
   first | (have g : e.kids.length = 1 := (by omega); simp [hg_1_3', g]; done) | (have g : ¬ e.kids.length = 1 := (by omega); simp [g]; done) | (simp [hg_1_3']; done)
 ·have hg_1_3' := hg_1_3
  try simp only [bs] at hg_1_3'
  refine AK.pass rfl rfl (hg_1_3) rfl ?_
  refine AK.pass rfl rfl (hg_1_3) rfl ?_
  refine AK.pass rfl rfl (hg_1_3) rfl ?_
  refine AK.pass rfl rfl (hg_1_3) rfl ?_
  refine .v (.pickF rfl (hg_1_3) rfl) ?_
  refine .mv rfl ?_
  refine AK.pass rfl rfl rfl rfl ?_
  refine AK.pass rfl rfl rfl rfl ?_
  refine AK.pass rfl rfl rfl rfl ?_
  refine AK.pass rfl rfl rfl rfl ?_
  refine AK.pass rfl rfl rfl rfl ?_
  refine .v (.pickF rfl (rfl) rfl) ?_
  refine .as rfl (.nt hK2 (.ret ?_))
  refine AK.ret1 rfl rfl (fun w hw => ⟨_, _, ?_, rfl, Ret.of (hw.pick [] (by decide) rfl rfl)⟩)
  refine ⟨congrArg Value.bool ?_, rfl⟩
  unfold isUnivE
  first | (have g : e.kids.length = 1 := (by omega); simp [hg_1_3', g]; done) | (have g : ¬ e.kids.length = 1 := (by omega); simp [g]; done) | (simp [hg_1_3']; done)

theorem s_empty (w : World) : CallS Tryz.prog 175 [] w (fun r o => r = .agg #[.int .i64 emptyE.op, .int .i64 emptyE.lt, nilV] ∧ o = []) := by
 refine spec_of Tryz.func175 rfl (leb rfl) ?_
 refine .sr fun _ hK1 => ?_
 refine AK.alloc el65 rfl rfl trivial rfl (fun bx0 => ?_)
 refine .nt hK1 ?_
 refine .sr fun _ hK2 => ?_
 refine .v (.build (parts := [(0, .const (.int .i64 1))]) (cs := #[.int .i64 emptyE.op, .int .i64 emptyE.lt, .slice none 0 0]) rfl (by kernel_rfl)) ?_
 refine AK.storeBox 0 (us := [.int .i64 emptyE.op, .int .i64 emptyE.lt, .slice none 0 0]) (cs' := [.int .i64 emptyE.op, .int .i64 emptyE.lt, .slice none 0 0]) rfl sz65 rfl rfl rfl rfl oneP (leb rfl) rfl trivial ?_
 refine .nt hK2 (.ret ?_)
 refine AK.retG [.cell 0 65] rfl (.cons (.cell ag65 rfl bsp rfl rfl) (.nil)) (fun w hw => ⟨_, _, ?_, rfl, Ret.of (hw.pick [] (by decide) rfl rfl)⟩)
 exact ⟨rfl, rfl⟩

theorem s_unit (w : World) : CallS Tryz.prog 152 [] w (fun r o => r = .agg #[.int .i64 unitE.op, .int .i64 unitE.lt, nilV] ∧ o = []) := by
 refine spec_of Tryz.func152 rfl (leb rfl) ?_
 refine .sr fun _ hK1 => ?_
 refine AK.alloc el65 rfl rfl trivial rfl (fun bx0 => ?_)
 refine .nt hK1 ?_
 refine .sr fun _ hK2 => ?_
 refine .v (.build (parts := [(0, .const (.int .i64 2))]) (cs := #[.int .i64 unitE.op, .int .i64 unitE.lt, .slice none 0 0]) rfl (by kernel_rfl)) ?_
 refine AK.storeBox 0 (us := [.int .i64 unitE.op, .int .i64 unitE.lt, .slice none 0 0]) (cs' := [.int .i64 unitE.op, .int .i64 unitE.lt, .slice none 0 0]) rfl sz65 rfl rfl rfl rfl oneP (leb rfl) rfl trivial ?_
 refine .nt hK2 (.ret ?_)
 refine AK.retG [.cell 0 65] rfl (.cons (.cell ag65 rfl bsp rfl rfl) (.nil)) (fun w hw => ⟨_, _, ?_, rfl, Ret.of (hw.pick [] (by decide) rfl rfl)⟩)
 exact ⟨rfl, rfl⟩

theorem s_level (w : World) (op : Int) : CallS Tryz.prog 180 [.int .i64 op] w (fun r o => r = .int .i64 (levE op) ∧ o = []) := by
 refine spec_of Tryz.func180 rfl (leb rfl) ?_
 refine .sr fun _ hK1 => ?_
 refine .as rfl (.nt hK1 ?_)
 refine .seq fun _ hK2 => ?_
 refine .sr fun _ hK3 => ?_
 refine .mv rfl (.nt hK3 (.block ?_))
 refine .sr fun _ hK4 => ?_
 refine .v (.eql rfl rfl) ?_
 refine .as rfl (.nt hK4 ?_)
 refine AK.condD rfl (fun hc0 => ?_) (fun hc0 => ?_)
 ·refine .sr fun _ hK5 => ?_
  refine .as rfl (.nt hK5 (.ret (.block_ret (.then_ret ?_))))
  refine AK.ret1 rfl rfl (fun w hw => ⟨_, _, ?_, rfl, Ret.of (hw.pick [] (by decide) rfl rfl)⟩)
  refine ⟨congrArg (Value.int .i64) ?_, rfl⟩
  unfold levE
  simp_all
 ·refine .sr fun _ hK6 => ?_
  refine .v (.eql rfl rfl) ?_
  refine .as rfl (.nt hK6 ?_)
  refine AK.condD rfl (fun hc1 => ?_) (fun hc1 => ?_)
  ·refine .sr fun _ hK7 => ?_
   refine .as rfl (.nt hK7 (.ret (.block_ret (.then_ret ?_))))
   refine AK.ret1 rfl rfl (fun w hw => ⟨_, _, ?_, rfl, Ret.of (hw.pick [] (by decide) rfl rfl)⟩)
   refine ⟨congrArg (Value.int .i64) ?_, rfl⟩
   unfold levE
   simp_all
  ·refine .sr fun _ hK8 => ?_
   refine .v (.eql rfl rfl) ?_
   refine .as rfl (.nt hK8 ?_)
   refine AK.condD rfl (fun hc2 => ?_) (fun hc2 => ?_)
   ·refine .sr fun _ hK9 => ?_
    refine .as rfl (.nt hK9 (.ret (.block_ret (.then_ret ?_))))
    refine AK.ret1 rfl rfl (fun w hw => ⟨_, _, ?_, rfl, Ret.of (hw.pick [] (by decide) rfl rfl)⟩)
    refine ⟨congrArg (Value.int .i64) ?_, rfl⟩
    unfold levE
    simp_all
   ·refine .sr fun _ hK10 => ?_
    refine .v (.eql rfl rfl) ?_
    refine .as rfl (.nt hK10 ?_)
    refine AK.condD rfl (fun hc3 => ?_) (fun hc3 => ?_)
    ·refine .sr fun _ hK11 => ?_
     refine .as rfl (.nt hK11 (.ret (.block_ret (.then_ret ?_))))
     refine AK.ret1 rfl rfl (fun w hw => ⟨_, _, ?_, rfl, Ret.of (hw.pick [] (by decide) rfl rfl)⟩)
     refine ⟨congrArg (Value.int .i64) ?_, rfl⟩
     unfold levE
     simp_all
    ·refine .sr fun _ hK12 => ?_
     refine .v (.eql rfl rfl) ?_
     refine .as rfl (.nt hK12 ?_)
     refine AK.condD rfl (fun hc4 => ?_) (fun hc4 => ?_)
     ·refine .sr fun _ hK13 => ?_
      refine .as rfl (.nt hK13 (.ret (.block_ret (.then_ret ?_))))
      refine AK.ret1 rfl rfl (fun w hw => ⟨_, _, ?_, rfl, Ret.of (hw.pick [] (by decide) rfl rfl)⟩)
      refine ⟨congrArg (Value.int .i64) ?_, rfl⟩
      unfold levE
      simp_all
     ·refine .skip (.block_normal ?_)
      refine AK.then_ (hK2 _ ?_)
      refine .sr fun _ hK14 => ?_
      refine .as rfl (.nt hK14 (.ret ?_))
      refine AK.ret1 rfl rfl (fun w hw => ⟨_, _, ?_, rfl, Ret.of (hw.pick [] (by decide) rfl rfl)⟩)
      refine ⟨congrArg (Value.int .i64) ?_, rfl⟩
      unfold levE
      simp_all

theorem s_univ (w : World) : CallS Tryz.prog 170 [] w (fun r o => ∃ s, r = .agg #[.int .i64 univE.op, .int .i64 univE.lt, s] ∧ o = [row s 65 3 1 (xcs [emptyE] [nilV])]) := by
 refine spec_of Tryz.func170 rfl (leb rfl) ?_
 refine .sr fun _ hK1 => ?_
 refine AK.alloc el65 rfl rfl trivial rfl (fun bx0 => ?_)
 refine .nt hK1 ?_
 refine .sr fun _ hK2 => ?_
 refine AK.call co175 rfl (fun w hw => s_empty w) trivial rfl ?_
 rintro r o ⟨rfl, rfl⟩
 refine AK.lit (xs := [.tmp 1]) sl63 el65 rfl rfl rfl (by simp [Value.cells]) (by decide) (by decide) trivial rfl (fun lv => ?_)
 refine AK.shape 1 rfl (fun slv => ?_)
 refine .v (.build (parts := [(0, .const (.int .i64 8)), (2, .tmp 2)]) (cs := #[.int .i64 univE.op, .int .i64 univE.lt, lv]) rfl (by obtain ⟨_, _, _, rfl⟩ := slv; kernel_rfl)) ?_
 refine AK.storeBox 0 (us := [.int .i64 univE.op, .int .i64 univE.lt, lv]) (cs' := [.int .i64 univE.op, .int .i64 univE.lt, lv]) rfl sz65 rfl rfl rfl rfl oneP (leb rfl) rfl trivial ?_
 refine .nt hK2 (.ret ?_)
 refine AK.retG [.cell 0 65] rfl (.cons (.cell ag65 rfl bsp rfl rfl) (.nil)) (fun w hw => ⟨_, _, ?_, rfl, Ret.of (hw.pick [1] (by decide) rfl rfl)⟩)
 exact ⟨_, rfl, rfl⟩

def FitsS (d : Nat) : Prop := ∀ (w : World) (F : Nat → Prop) (lb : Nat) (e : Ex) (s : Value) (left : Nat) (hA : (box lb 3 1 [.int .i64 (left : Int)]).holds w F) (hle : left ≤ 400) (hd : d ≤ 40) (h : RdK (cellR F w) s e.kids),
  CallM Tryz.prog 117 [.agg #[.int .i64 e.op, .int .i64 e.lt, s], .int .i64 (d : Int), .pointer (some ⟨lb, 0, none⟩)] w F (fun r A o => ∃ (b : Bool) (l2 : Nat), r = .bool b ∧ A = box lb 3 1 [.int .i64 (l2 : Int)] ∧ l2 ≤ 400 ∧ o = [] ∧ fitsE d e left = if b then some l2 else none)
theorem foldlM_none {d : Nat} {ks : List Ex} {k : Nat} {l0 l : Nat} (h : (ks.take k).foldlM (fun l k => fitsE d k l) l0 = some l) (hk : k < ks.length) (hn : fitsE d (ks.getD k default) l = none) : ks.foldlM (fun l k => fitsE d k l) l0 = none := by
  have e : ks = ks.take k ++ ks.getD k default :: ks.drop (k + 1) := by
    rw [show ks.getD k default = ks[k] by simp [List.getD_eq_getElem?_getD, hk]]
    simp
  rw [e, List.foldlM_append, h]
  simp only [Option.bind_eq_bind, Option.bind_some, List.foldlM_cons, hn, Option.bind_none]
theorem foldlM_some {d : Nat} {ks : List Ex} {k : Nat} {l0 l l2 : Nat} (h : (ks.take k).foldlM (fun l k => fitsE d k l) l0 = some l) (hk : k < ks.length) (hn : fitsE d (ks.getD k default) l = some l2) : (ks.take (k + 1)).foldlM (fun l k => fitsE d k l) l0 = some l2 := by
  rw [take_snocD default ks k hk, List.foldlM_append, h]
  simp only [Option.bind_eq_bind, Option.bind_some, List.foldlM_cons, hn, List.foldlM_nil]
  rfl
set_option maxHeartbeats 400000 in
theorem s_fits_step (d : Nat) (ih : ∀ d', d = d' + 1 → FitsS d') (w : World) (F : Nat → Prop) (lb : Nat) (e : Ex) (s : Value) (left : Nat) (hA : (box lb 3 1 [.int .i64 (left : Int)]).holds w F) (hle : left ≤ 400) (hd : d ≤ 40) (h : RdK (cellR F w) s e.kids) : CallM Tryz.prog 117 [.agg #[.int .i64 e.op, .int .i64 e.lt, s], .int .i64 (d : Int), .pointer (some ⟨lb, 0, none⟩)] w F (fun r A o => ∃ (b : Bool) (l2 : Nat), r = .bool b ∧ A = box lb 3 1 [.int .i64 (l2 : Int)] ∧ l2 ≤ 400 ∧ o = [] ∧ fitsE d e left = if b then some l2 else none) := by
 obtain ⟨ss, hl, hx, hk⟩ := h.inv
 have hr := hx.rd
 have hm := hr.le
 refine specM_of Tryz.func117 rfl (leb rfl) hA ?_
 refine .sr fun _ hK1 => ?_
 refine AK.box_ (E := 65) (cs := [.int .i64 e.op, .int .i64 e.lt, s]) rfl rfl rfl trivial rfl (fun bx3 => ?_)
 refine .as rfl (.nt hK1 ?_)
 refine .seq fun _ hK2 => ?_
 refine .sr fun _ hK3 => ?_
 refine .mv rfl ?_
 refine .v (.eql rfl rfl) ?_
 refine .mv rfl ?_
 refine AK.splitB (g := 11) rfl (fun hg_1_2 => ?_) (fun hg_1_2 => ?_)
 ·have hg_1_2' := hg_1_2
  try simp only [bs] at hg_1_2'
  refine AK.pass rfl rfl (hg_1_2) rfl ?_
  refine AK.pass rfl rfl (hg_1_2) rfl ?_
  refine AK.pass rfl rfl (hg_1_2) rfl ?_
  refine AK.pass rfl rfl (hg_1_2) rfl ?_
  refine .v (.pickT rfl (hg_1_2) rfl) ?_
  refine .nt hK3 ?_
  refine AK.cond_t rfl (rfl) ?_
  refine .sr fun _ hK4 => ?_
  refine .as rfl (.nt hK4 (.ret (.then_ret ?_)))
  refine AK.ret1 rfl rfl (fun w hw => ⟨_, _, _, ?_, rfl, Ret.of (hw.pick [0] (by decide) rfl rfl)⟩)
  refine ⟨false, left, rfl, rfl, hle, rfl, ?_⟩
  cases d with
  | zero => rfl
  | succ d => rw [fitsE, if_pos (by omega)]; rfl
 ·have hg_1_2' := hg_1_2
  try simp only [bs] at hg_1_2'
  refine AK.val _ (Yl.move rfl) ⟨_, rfl, gB hg_1_2⟩ rfl ?_
  refine AK.val _ (Yl.nilCheck rfl) ⟨_, rfl, gB hg_1_2⟩ rfl ?_
  refine AK.val _ (Yl.loadBox on3 rfl bsp rfl) ⟨_, rfl, gB hg_1_2⟩ rfl ?_
  refine AK.val _ (Yl.eql rfl rfl) ⟨_, rfl, gB hg_1_2⟩ rfl ?_
  refine .v (.pickF rfl (hg_1_2) rfl) ?_
  refine .nt hK3 ?_
  refine AK.condD rfl (fun hc0 => ?_) (fun hc0 => ?_)
  ·refine .sr fun _ hK5 => ?_
   refine .as rfl (.nt hK5 (.ret (.then_ret ?_)))
   refine AK.ret1 rfl rfl (fun w hw => ⟨_, _, _, ?_, rfl, Ret.of (hw.pick [0] (by decide) rfl rfl)⟩)
   refine ⟨false, left, rfl, rfl, hle, rfl, ?_⟩
   cases d with
   | zero => rfl
   | succ d => rw [fitsE, if_pos (by omega)]; rfl
  ·obtain ⟨d', rfl⟩ : ∃ d', d = d' + 1 := ⟨d - 1, by omega⟩
   have ihd := ih d' rfl
   refine .skip ?_
   refine AK.then_ (hK2 _ ?_)
   refine .sr fun _ hK6 => ?_
   refine .mv rfl ?_
   refine .v (.nilCheck rfl) ?_
   refine .v (.loadBox on3 rfl bsp rfl) ?_
   refine .v (.subE (((left - 1 : Nat) : Int)) rfl rfl (by omega) (by omega)) ?_
   refine .v (.nilCheck rfl) ?_
   refine AK.storeBox 0 (cs' := [.int .i64 ((left - 1 : Nat) : Int)]) rfl sz3 rfl rfl rfl rfl oneP (leb rfl) rfl trivial ?_
   refine .nt hK6 ?_
   refine .seq fun _ hK7 => ?_
   refine .sr fun _ hK8 => ?_
   refine .v (.fieldAddr fd65_2 rfl) ?_
   refine .v (.loadBox on63 rfl bsp rfl) ?_
   refine .v (.lenR sl63 rfl rdp) ?_
   refine .mv rfl (.nt hK8 (.block ?_))
   refine AK.loopK (X := Nat × Nat) [(1, _), (2, _), (23, _), (24, _)] (fun x => [(25, .int .i64 (x.1 : Int))]) (fun x => [box lb 3 1 [.int .i64 (x.2 : Int)], box bx3 65 3 [.int .i64 e.op, .int .i64 e.lt, s]]) (fun x => x.1 ≤ e.kids.length ∧ x.2 ≤ 400 ∧ (e.kids.take x.1).foldlM (fun l k => fitsE d' k l) (left - 1) = some x.2) (fun x => e.kids.length - x.1) ((0, left - 1)) slr ?_ ?_ ?_ ?_
   ·exact ⟨Nat.zero_le _, by dsimp only; omega, by simp⟩
   ·exact slr
   ·exact fun w hw => hw
   ·intro x hg0 _ hK9
    refine .sr fun _ hK10 => ?_
    refine .v (.lss rfl rfl) ?_
    refine .nt hK10 ?_
    refine .seq fun _ hK11 => ?_
    refine AK.condD rfl (fun hc1 => ?_) (fun hc1 => ?_)
    ·have sk := (hk x.1 (by omega)).sl
     refine .skip ?_
     refine AK.then_ (hK11 _ ?_)
     refine .seq fun _ hK12 => ?_
     refine .block ?_
     refine .sr fun _ hK13 => ?_
     first | refine .v (.iN sl63 rfl rfl) ?_ | refine .v (.iK sl63 rfl rfl) ?_
     refine .v (.loadE ag65 rfl rdp (by assumption) rfl (by omega)) ?_
     refine AK.alloc el65 rfl rfl trivial rfl (fun bx8 => ?_)
     refine AK.storeBox 2 (us := [.int .i64 (e.kids.getD x.1 default).op, .int .i64 (e.kids.getD x.1 default).lt, ss.getD x.1 undef]) (cs' := [.int .i64 (e.kids.getD x.1 default).op, .int .i64 (e.kids.getD x.1 default).lt, ss.getD x.1 undef]) rfl sz65 rfl rfl rfl rfl oneP (leb rfl) rfl trivial ?_
     refine .nt hK13 ?_
     refine .sr fun _ hK14 => ?_
     refine .v (.loadBoxG ag65 rfl bsp rfl rfl) ?_
     refine .mv rfl ?_
     refine .v (.subE ((d' : Int)) rfl rfl (by omega) (by omega)) ?_
     refine .mv rfl ?_
     refine AK.callN 0 rfl co117 rfl (fun w Fs hw hh hfr hal => ihd w (Fs 0) lb _ _ _ (hh.at_ 0 _ rfl) hg0.2.1 (by omega) ((hk x.1 (by omega)).atN hfr hal 0)) trivial rfl ?_
     rintro r A o ⟨b, l2, rfl, rfl, h2, rfl, hf⟩
     refine .v (.not rfl) ?_
     refine .nt hK14 ?_
     refine AK.condB rfl (fun hc2 => ?_) (fun hc2 => ?_)
     ·refine .sr fun _ hK15 => ?_
      refine .as rfl (.nt hK15 (.ret (.block_ret (.then_ret (.then_ret (.block_ret (.then_ret ?_)))))))
      refine AK.ret1 rfl rfl (fun w hw => ⟨_, _, _, ?_, rfl, Ret.of (hw.pick [0] (by decide) rfl rfl)⟩)
      cases b with
      | true => cases hc2
      | false =>
       refine ⟨false, l2, rfl, rfl, h2, rfl, ?_⟩
       rw [fitsE, if_neg (by omega), foldlM_none hg0.2.2 (by omega) hf]; rfl
     ·refine .skip (.block_normal ?_)
      refine AK.then_ (hK12 _ ?_)
      refine AK.region ?_
      refine .v (.add rfl rfl (by omega)) ?_
      refine .mv rfl (.nil ?_)
      refine AK.then_ (hK9 _ _ ((x.1 + 1, l2)) ⟨by dsimp only; omega, h2, foldlM_some hg0.2.2 (by omega) (by cases b with | true => exact hf | false => cases hc2)⟩ (by dsimp only; omega) (slr) (fun w hw => hw.pick [0, 1] (by decide) rfl rfl))
    ·refine .exit (.then_exit (.then_exit (.block_exit ?_)))
     refine AK.then_ (hK7 _ ?_)
     refine .sr fun _ hK16 => ?_
     refine .as rfl (.nt hK16 (.ret ?_))
     refine AK.ret1 rfl rfl (fun w hw => ⟨_, _, _, ?_, rfl, Ret.of (hw.pick [0] (by decide) rfl rfl)⟩)
     have hfull := hg0.2.2
     rw [List.take_of_length_le (by omega)] at hfull
     refine ⟨true, x.2, rfl, rfl, hg0.2.1, rfl, ?_⟩
     rw [fitsE, if_neg (by omega), hfull]; rfl

end Go.Proofs.YtdnhiinakhmhgaaGreatDoor

namespace Go.Proofs.YtdnhiinakhmhgaaGreatDoor
open Go.Sx Go.RowKit
theorem s_fits (d : Nat) : FitsS d := by
  induction d with
  | zero => intro w F lb e s left hA hle hd h; exact s_fits_step 0 (fun d' hd' => by omega) w F lb e s left hA hle hd h
  | succ d ih => intro w F lb e s left hA hle hd h; exact s_fits_step (d + 1) (fun d' hd' => by obtain rfl : d' = d := (by omega); exact ih) w F lb e s left hA hle hd h
theorem s_within (w : World) (e : Ex) (s : Value) (h : RdK (cellR (fun _ => False) w) s e.kids) : CallS Tryz.prog 93 [.agg #[.int .i64 e.op, .int .i64 e.lt, s]] w (fun r o => r = .bool (fitsE 40 e 400).isSome ∧ o = []) := by
 refine spec_of Tryz.func93 rfl (leb rfl) ?_
 refine .sr fun _ hK1 => ?_
 refine AK.box_ (E := 65) (cs := [.int .i64 e.op, .int .i64 e.lt, s]) rfl rfl rfl trivial rfl (fun bx1 => ?_)
 refine .as rfl (.nt hK1 ?_)
 refine .sr fun _ hK2 => ?_
 refine AK.alloc el3 rfl rfl trivial rfl (fun bx3 => ?_)
 refine AK.storeBox 1 (cs' := [.int .i64 ((400 : Nat) : Int)]) rfl sz3 rfl rfl rfl rfl oneP (leb rfl) rfl trivial ?_
 refine .nt hK2 ?_
 refine .sr fun _ hK3 => ?_
 refine .v (.loadBoxG ag65 rfl bsp rfl rfl) ?_
 refine AK.callN 1 rfl co117 rfl (fun w Fs hw hh hfr hal => s_fits 40 w (Fs 1) bx3 e s 400 (hh.at_ 1 _ rfl) (by omega) (by omega) (h.atN hfr hal 1)) trivial rfl ?_
 rintro r A o ⟨b, l2, rfl, rfl, _, rfl, hf⟩
 refine .as rfl (.nt hK3 (.ret ?_))
 refine AK.ret1 rfl rfl (fun w hw => ⟨_, _, ?_, rfl, Ret.of (hw.pick [] (by decide) rfl rfl)⟩)
 rw [hf]
 refine ⟨congrArg Value.bool ?_, rfl⟩
 cases b <;> rfl

def WfS (n : Int) (e : Ex) : Prop := ∀ (w : World) (s : Value) (h : RdK (cellR (fun _ => False) w) s e.kids), CallS Tryz.prog 94 [.agg #[.int .i64 e.op, .int .i64 e.lt, s], .int .i64 n] w (fun r o => r = .bool (wfE n e) ∧ o = [])
set_option maxHeartbeats 1000000 in
theorem s_wf_step (n : Int) (e : Ex) (ih : ∀ i, i < e.kids.length → WfS n (e.kids.getD i default)) (w : World) (s : Value) (h : RdK (cellR (fun _ => False) w) s e.kids) : CallS Tryz.prog 94 [.agg #[.int .i64 e.op, .int .i64 e.lt, s], .int .i64 n] w (fun r o => r = .bool (wfE n e) ∧ o = []) := by
 obtain ⟨ss, hl, hx, hk⟩ := h.inv
 have hr := hx.rd
 have hm := hr.le
 refine spec_of Tryz.func94 rfl (leb rfl) ?_
 refine .sr fun _ hK1 => ?_
 refine AK.box_ (E := 65) (cs := [.int .i64 e.op, .int .i64 e.lt, s]) rfl rfl rfl trivial rfl (fun bx2 => ?_)
 refine .as rfl (.nt hK1 ?_)
 refine .seq fun _ hK2 => ?_
 refine .sr fun _ hK3 => ?_
 refine .v (.fieldAddr fd65_0 rfl) ?_
 refine .v (.loadBox on3 rfl bsp rfl) ?_
 refine .v (.eql rfl rfl) ?_
 refine .nt hK3 ?_
 refine AK.condD rfl (fun hc0 => ?_) (fun hc0 => ?_)
 ·refine .sr fun _ hK4 => ?_
  refine .v (.fieldAddr fd65_2 rfl) ?_
  refine .v (.loadBox on63 rfl bsp rfl) ?_
  refine .v (.lenR sl63 rfl rdp) ?_
  refine .v (.eql rfl rfl) ?_
  refine .mv rfl ?_
  refine AK.splitB (g := 14) rfl (fun hg_2_4 => ?_) (fun hg_2_4 => ?_)
  ·have hg_2_4' := hg_2_4
   try simp only [bs] at hg_2_4'
   refine AK.val _ (Yl.fieldAddr fd65_1 rfl) ⟨_, rfl, gB hg_2_4⟩ rfl ?_
   refine AK.val _ (Yl.loadBox on3 rfl bsp rfl) ⟨_, rfl, gB hg_2_4⟩ rfl ?_
   refine AK.val _ (Yl.geq rfl rfl) ⟨_, rfl, gB hg_2_4⟩ rfl ?_
   refine .v (.pickT rfl (hg_2_4) rfl) ?_
   refine .mv rfl ?_
   refine AK.splitB (g := 19) rfl (fun hg_2_9 => ?_) (fun hg_2_9 => ?_)
   ·have hg_2_9' := hg_2_9
    try simp only [bs] at hg_2_9'
    refine AK.val _ (Yl.fieldAddr fd65_1 rfl) ⟨_, rfl, gB hg_2_9⟩ rfl ?_
    refine AK.val _ (Yl.loadBox on3 rfl bsp rfl) ⟨_, rfl, gB hg_2_9⟩ rfl ?_
    refine AK.val _ (Yl.move rfl) ⟨_, rfl, gB hg_2_9⟩ rfl ?_
    refine AK.val _ (Yl.lss rfl rfl) ⟨_, rfl, gB hg_2_9⟩ rfl ?_
    refine .v (.pickT rfl (hg_2_9) rfl) ?_
    refine .as rfl (.nt hK4 (.ret (.then_ret ?_)))
    refine AK.ret1 rfl rfl (fun w hw => ⟨_, _, ?_, rfl, Ret.of (hw.pick [] (by decide) rfl rfl)⟩)
    refine ⟨congrArg Value.bool ?_, rfl⟩
    rw [wfE_eq]
    clear hk hr h hx ih hl hw
    generalize e.kids.length = m at *
    generalize e.kids.all (wfE n) = b at *
    first | (simp_all; done) | grind
   ·have hg_2_9' := hg_2_9
    try simp only [bs] at hg_2_9'
    refine AK.pass rfl rfl (hg_2_9) rfl ?_
    refine AK.pass rfl rfl (hg_2_9) rfl ?_
    refine AK.pass rfl rfl (hg_2_9) rfl ?_
    refine AK.pass rfl rfl (hg_2_9) rfl ?_
    refine .v (.pickF rfl (hg_2_9) rfl) ?_
    refine .as rfl (.nt hK4 (.ret (.then_ret ?_)))
    refine AK.ret1 rfl rfl (fun w hw => ⟨_, _, ?_, rfl, Ret.of (hw.pick [] (by decide) rfl rfl)⟩)
    refine ⟨congrArg Value.bool ?_, rfl⟩
    rw [wfE_eq]
    clear hk hr h hx ih hl hw
    generalize e.kids.length = m at *
    generalize e.kids.all (wfE n) = b at *
    first | (simp_all; done) | grind
  ·have hg_2_4' := hg_2_4
   try simp only [bs] at hg_2_4'
   refine AK.pass rfl rfl (hg_2_4) rfl ?_
   refine AK.pass rfl rfl (hg_2_4) rfl ?_
   refine AK.pass rfl rfl (hg_2_4) rfl ?_
   refine .v (.pickF rfl (hg_2_4) rfl) ?_
   refine .mv rfl ?_
   refine AK.pass rfl rfl rfl rfl ?_
   refine AK.pass rfl rfl rfl rfl ?_
   refine AK.pass rfl rfl rfl rfl ?_
   refine AK.pass rfl rfl rfl rfl ?_
   refine .v (.pickF rfl (rfl) rfl) ?_
   refine .as rfl (.nt hK4 (.ret (.then_ret ?_)))
   refine AK.ret1 rfl rfl (fun w hw => ⟨_, _, ?_, rfl, Ret.of (hw.pick [] (by decide) rfl rfl)⟩)
   refine ⟨congrArg Value.bool ?_, rfl⟩
   rw [wfE_eq]
   clear hk hr h hx ih hl hw
   generalize e.kids.length = m at *
   generalize e.kids.all (wfE n) = b at *
   first | (simp_all; done) | grind
 ·refine .skip ?_
  refine AK.then_ (hK2 _ ?_)
  refine .seq fun _ hK5 => ?_
  refine .sr fun _ hK6 => ?_
  refine .v (.fieldAddr fd65_1 rfl) ?_
  refine .v (.loadBox on3 rfl bsp rfl) ?_
  refine .v (.neq rfl rfl) ?_
  refine .nt hK6 ?_
  refine AK.condNe rfl (fun hc1 => ?_) (fun hc1 => ?_)
  ·refine .sr fun _ hK7 => ?_
   refine .as rfl (.nt hK7 (.ret (.then_ret ?_)))
   refine AK.ret1 rfl rfl (fun w hw => ⟨_, _, ?_, rfl, Ret.of (hw.pick [] (by decide) rfl rfl)⟩)
   refine ⟨congrArg Value.bool ?_, rfl⟩
   rw [wfE_eq]
   clear hk hr h hx ih hl hw
   generalize e.kids.length = m at *
   generalize e.kids.all (wfE n) = b at *
   first | (simp_all; done) | grind
  ·refine .skip ?_
   refine AK.then_ (hK5 _ ?_)
   refine .seq fun _ hK8 => ?_
   refine .sr fun _ hK9 => ?_
   refine .v (.fieldAddr fd65_0 rfl) ?_
   refine .v (.loadBox on3 rfl bsp rfl) ?_
   refine .nt hK9 (.block ?_)
   refine .seq fun _ hK10 => ?_
   refine .sr fun _ hK11 => ?_
   refine .v (.eql rfl rfl) ?_
   refine .as rfl (.nt hK11 ?_)
   refine AK.condD rfl (fun hc2 => ?_) (fun hc2 => ?_)
   ·refine .skip ?_
    refine AK.then_ (hK10 _ ?_)
    refine AK.cond_t rfl (decide_eq_true hc2) ?_
    refine .sr fun _ hK12 => ?_
    refine .v (.fieldAddr fd65_2 rfl) ?_
    refine .v (.loadBox on63 rfl bsp rfl) ?_
    refine .v (.lenR sl63 rfl rdp) ?_
    refine .v (.eql rfl rfl) ?_
    refine .as rfl (.nt hK12 (.ret (.block_ret (.then_ret ?_))))
    refine AK.ret1 rfl rfl (fun w hw => ⟨_, _, ?_, rfl, Ret.of (hw.pick [] (by decide) rfl rfl)⟩)
    refine ⟨congrArg Value.bool ?_, rfl⟩
    rw [wfE_eq]
    clear hk hr h hx ih hl hw
    generalize e.kids.length = m at *
    generalize e.kids.all (wfE n) = b at *
    first | (simp_all; done) | grind
   ·refine AK.region ?_
    refine .v (.eql rfl rfl) ?_
    refine .as rfl (.nt hK10 ?_)
    refine AK.condD rfl (fun hc3 => ?_) (fun hc3 => ?_)
    ·refine .sr fun _ hK13 => ?_
     refine .v (.fieldAddr fd65_2 rfl) ?_
     refine .v (.loadBox on63 rfl bsp rfl) ?_
     refine .v (.lenR sl63 rfl rdp) ?_
     refine .v (.eql rfl rfl) ?_
     refine .as rfl (.nt hK13 (.ret (.block_ret (.then_ret ?_))))
     refine AK.ret1 rfl rfl (fun w hw => ⟨_, _, ?_, rfl, Ret.of (hw.pick [] (by decide) rfl rfl)⟩)
     refine ⟨congrArg Value.bool ?_, rfl⟩
     rw [wfE_eq]
     clear hk hr h hx ih hl hw
     generalize e.kids.length = m at *
     generalize e.kids.all (wfE n) = b at *
     first | (simp_all; done) | grind
    ·refine .seq fun _ hK14 => ?_
     refine .sr fun _ hK15 => ?_
     refine .v (.eql rfl rfl) ?_
     refine .as rfl (.nt hK15 ?_)
     refine AK.condD rfl (fun hc4 => ?_) (fun hc4 => ?_)
     ·refine .skip ?_
      refine AK.then_ (hK14 _ ?_)
      refine AK.cond_t rfl (decide_eq_true hc4) ?_
      refine .sr fun _ hK16 => ?_
      refine .v (.fieldAddr fd65_2 rfl) ?_
      refine .v (.loadBox on63 rfl bsp rfl) ?_
      refine .v (.lenR sl63 rfl rdp) ?_
      refine .v (.lss rfl rfl) ?_
      refine .nt hK16 ?_
      refine AK.condD rfl (fun hc7 => ?_) (fun hc7 => ?_)
      ·refine .sr fun _ hK17 => ?_
       refine .as rfl (.nt hK17 (.ret (.block_ret (.then_ret ?_))))
       refine AK.ret1 rfl rfl (fun w hw => ⟨_, _, ?_, rfl, Ret.of (hw.pick [] (by decide) rfl rfl)⟩)
       refine ⟨congrArg Value.bool ?_, rfl⟩
       rw [wfE_eq]
       clear hk hr h hx ih hl hw
       generalize e.kids.length = m at *
       generalize e.kids.all (wfE n) = b at *
       first | (simp_all; done) | grind
      ·refine .skip (.block_normal ?_)
       refine AK.then_ (hK8 _ ?_)
       refine .seq fun _ hK18 => ?_
       refine .sr fun _ hK19 => ?_
       refine .v (.fieldAddr fd65_2 rfl) ?_
       refine .v (.loadBox on63 rfl bsp rfl) ?_
       refine .v (.lenR sl63 rfl rdp) ?_
       refine .mv rfl (.nt hK19 (.block ?_))
       refine AK.loopK (X := Nat) [(1, _), (53, _), (54, _)] (fun k => [(55, .int .i64 (k : Int))]) (fun k => [box bx2 65 3 [.int .i64 e.op, .int .i64 e.lt, s]]) (fun k => k ≤ e.kids.length ∧ ∀ i, i < k → wfE n (e.kids.getD i default) = true) (fun k => e.kids.length - k) (0) slr ?_ ?_ ?_ ?_
       ·exact ⟨Nat.zero_le _, fun i hi => (by omega)⟩
       ·exact slr
       ·exact fun w hw => hw
       ·intro k hg0 _ hK20
        refine .sr fun _ hK21 => ?_
        refine .v (.lss rfl rfl) ?_
        refine .nt hK21 ?_
        refine .seq fun _ hK22 => ?_
        refine AK.condD rfl (fun hc11 => ?_) (fun hc11 => ?_)
        ·have sk := (hk k (by omega)).sl
         refine .skip ?_
         refine AK.then_ (hK22 _ ?_)
         refine .seq fun _ hK23 => ?_
         refine .block ?_
         refine .sr fun _ hK24 => ?_
         first | refine .v (.iN sl63 rfl rfl) ?_ | refine .v (.iK sl63 rfl rfl) ?_
         refine .v (.loadE ag65 rfl rdp (by assumption) rfl (by omega)) ?_
         refine AK.alloc el65 rfl rfl trivial rfl (fun bx6 => ?_)
         refine AK.storeBox 1 (us := [.int .i64 (e.kids.getD k default).op, .int .i64 (e.kids.getD k default).lt, ss.getD k undef]) (cs' := [.int .i64 (e.kids.getD k default).op, .int .i64 (e.kids.getD k default).lt, ss.getD k undef]) rfl sz65 rfl rfl rfl rfl oneP (leb rfl) rfl trivial ?_
         refine .nt hK24 ?_
         refine .sr fun _ hK25 => ?_
         refine .v (.loadBoxG ag65 rfl bsp rfl rfl) ?_
         refine .mv rfl ?_
         refine AK.call co94 rfl (fun w hw => ih k (by omega) w _ ((hk k (by omega)).at hw)) trivial rfl ?_
         rintro r o ⟨rfl, rfl⟩
         refine .v (.not rfl) ?_
         refine .nt hK25 ?_
         refine AK.condB rfl (fun hc12 => ?_) (fun hc12 => ?_)
         ·refine .sr fun _ hK26 => ?_
          refine .as rfl (.nt hK26 (.ret (.block_ret (.then_ret (.then_ret (.block_ret (.then_ret ?_)))))))
          refine AK.ret1 rfl rfl (fun w hw => ⟨_, _, ?_, rfl, Ret.of (hw.pick [] (by decide) rfl rfl)⟩)
          refine ⟨congrArg Value.bool ?_, rfl⟩
          rw [wfE_eq, all_false (k := k) (by omega) (by simpa using hc12)]
          clear hk hr h hx ih hl hw hg0 hc11 hc12
          generalize e.kids.length = m at *
          first | (simp_all; done) | grind
         ·refine .skip (.block_normal ?_)
          refine AK.then_ (hK23 _ ?_)
          refine AK.region ?_
          refine .v (.add rfl rfl (by omega)) ?_
          refine .mv rfl (.nil ?_)
          refine AK.then_ (hK20 _ _ (k + 1) ⟨by omega, fun i hi => by rcases Nat.lt_or_ge i k with hik | hik; exact hg0.2 i hik; obtain rfl : i = k := (by omega); simpa using hc12⟩ (by omega) (slr) (fun w hw => hw.pick [0] (by decide) rfl rfl))
        ·refine .exit (.then_exit (.then_exit (.block_exit ?_)))
         refine AK.then_ (hK18 _ ?_)
         refine .sr fun _ hK27 => ?_
         refine .as rfl (.nt hK27 (.ret ?_))
         refine AK.ret1 rfl rfl (fun w hw => ⟨_, _, ?_, rfl, Ret.of (hw.pick [] (by decide) rfl rfl)⟩)
         refine ⟨congrArg Value.bool ?_, rfl⟩
         have ha := all_true (p := wfE n) (ks := e.kids) (fun i hi => hg0.2 i (by omega))
         rw [wfE_eq, ha]
         clear hk hr h hx ih hl hg0 hw hc11 ha
         generalize e.kids.length = m at *
         first | (simp_all; done) | grind
     ·refine .sr fun _ hK28 => ?_
      refine .v (.eql rfl rfl) ?_
      refine .as rfl (.nt hK28 ?_)
      refine AK.condD rfl (fun hc5 => ?_) (fun hc5 => ?_)
      ·refine .skip ?_
       refine AK.then_ (hK14 _ ?_)
       refine AK.cond_t rfl (decide_eq_true hc5) ?_
       refine .sr fun _ hK29 => ?_
       refine .v (.fieldAddr fd65_2 rfl) ?_
       refine .v (.loadBox on63 rfl bsp rfl) ?_
       refine .v (.lenR sl63 rfl rdp) ?_
       refine .v (.lss rfl rfl) ?_
       refine .nt hK29 ?_
       refine AK.condD rfl (fun hc7 => ?_) (fun hc7 => ?_)
       ·refine .sr fun _ hK30 => ?_
        refine .as rfl (.nt hK30 (.ret (.block_ret (.then_ret ?_))))
        refine AK.ret1 rfl rfl (fun w hw => ⟨_, _, ?_, rfl, Ret.of (hw.pick [] (by decide) rfl rfl)⟩)
        refine ⟨congrArg Value.bool ?_, rfl⟩
        rw [wfE_eq]
        clear hk hr h hx ih hl hw
        generalize e.kids.length = m at *
        generalize e.kids.all (wfE n) = b at *
        first | (simp_all; done) | grind
       ·refine .skip (.block_normal ?_)
        refine AK.then_ (hK8 _ ?_)
        refine .seq fun _ hK31 => ?_
        refine .sr fun _ hK32 => ?_
        refine .v (.fieldAddr fd65_2 rfl) ?_
        refine .v (.loadBox on63 rfl bsp rfl) ?_
        refine .v (.lenR sl63 rfl rdp) ?_
        refine .mv rfl (.nt hK32 (.block ?_))
        refine AK.loopK (X := Nat) [(1, _), (53, _), (54, _)] (fun k => [(55, .int .i64 (k : Int))]) (fun k => [box bx2 65 3 [.int .i64 e.op, .int .i64 e.lt, s]]) (fun k => k ≤ e.kids.length ∧ ∀ i, i < k → wfE n (e.kids.getD i default) = true) (fun k => e.kids.length - k) (0) slr ?_ ?_ ?_ ?_
        ·exact ⟨Nat.zero_le _, fun i hi => (by omega)⟩
        ·exact slr
        ·exact fun w hw => hw
        ·intro k hg0 _ hK33
         refine .sr fun _ hK34 => ?_
         refine .v (.lss rfl rfl) ?_
         refine .nt hK34 ?_
         refine .seq fun _ hK35 => ?_
         refine AK.condD rfl (fun hc11 => ?_) (fun hc11 => ?_)
         ·have sk := (hk k (by omega)).sl
          refine .skip ?_
          refine AK.then_ (hK35 _ ?_)
          refine .seq fun _ hK36 => ?_
          refine .block ?_
          refine .sr fun _ hK37 => ?_
          first | refine .v (.iN sl63 rfl rfl) ?_ | refine .v (.iK sl63 rfl rfl) ?_
          refine .v (.loadE ag65 rfl rdp (by assumption) rfl (by omega)) ?_
          refine AK.alloc el65 rfl rfl trivial rfl (fun bx6 => ?_)
          refine AK.storeBox 1 (us := [.int .i64 (e.kids.getD k default).op, .int .i64 (e.kids.getD k default).lt, ss.getD k undef]) (cs' := [.int .i64 (e.kids.getD k default).op, .int .i64 (e.kids.getD k default).lt, ss.getD k undef]) rfl sz65 rfl rfl rfl rfl oneP (leb rfl) rfl trivial ?_
          refine .nt hK37 ?_
          refine .sr fun _ hK38 => ?_
          refine .v (.loadBoxG ag65 rfl bsp rfl rfl) ?_
          refine .mv rfl ?_
          refine AK.call co94 rfl (fun w hw => ih k (by omega) w _ ((hk k (by omega)).at hw)) trivial rfl ?_
          rintro r o ⟨rfl, rfl⟩
          refine .v (.not rfl) ?_
          refine .nt hK38 ?_
          refine AK.condB rfl (fun hc12 => ?_) (fun hc12 => ?_)
          ·refine .sr fun _ hK39 => ?_
           refine .as rfl (.nt hK39 (.ret (.block_ret (.then_ret (.then_ret (.block_ret (.then_ret ?_)))))))
           refine AK.ret1 rfl rfl (fun w hw => ⟨_, _, ?_, rfl, Ret.of (hw.pick [] (by decide) rfl rfl)⟩)
           refine ⟨congrArg Value.bool ?_, rfl⟩
           rw [wfE_eq, all_false (k := k) (by omega) (by simpa using hc12)]
           clear hk hr h hx ih hl hw hg0 hc11 hc12
           generalize e.kids.length = m at *
           first | (simp_all; done) | grind
          ·refine .skip (.block_normal ?_)
           refine AK.then_ (hK36 _ ?_)
           refine AK.region ?_
           refine .v (.add rfl rfl (by omega)) ?_
           refine .mv rfl (.nil ?_)
           refine AK.then_ (hK33 _ _ (k + 1) ⟨by omega, fun i hi => by rcases Nat.lt_or_ge i k with hik | hik; exact hg0.2 i hik; obtain rfl : i = k := (by omega); simpa using hc12⟩ (by omega) (slr) (fun w hw => hw.pick [0] (by decide) rfl rfl))
         ·refine .exit (.then_exit (.then_exit (.block_exit ?_)))
          refine AK.then_ (hK31 _ ?_)
          refine .sr fun _ hK40 => ?_
          refine .as rfl (.nt hK40 (.ret ?_))
          refine AK.ret1 rfl rfl (fun w hw => ⟨_, _, ?_, rfl, Ret.of (hw.pick [] (by decide) rfl rfl)⟩)
          refine ⟨congrArg Value.bool ?_, rfl⟩
          have ha := all_true (p := wfE n) (ks := e.kids) (fun i hi => hg0.2 i (by omega))
          rw [wfE_eq, ha]
          clear hk hr h hx ih hl hg0 hw hc11 ha
          generalize e.kids.length = m at *
          first | (simp_all; done) | grind
      ·refine AK.region ?_
       refine .v (.eql rfl rfl) ?_
       refine .as rfl (.nt hK14 ?_)
       refine AK.condD rfl (fun hc6 => ?_) (fun hc6 => ?_)
       ·refine .sr fun _ hK41 => ?_
        refine .v (.fieldAddr fd65_2 rfl) ?_
        refine .v (.loadBox on63 rfl bsp rfl) ?_
        refine .v (.lenR sl63 rfl rdp) ?_
        refine .v (.lss rfl rfl) ?_
        refine .nt hK41 ?_
        refine AK.condD rfl (fun hc7 => ?_) (fun hc7 => ?_)
        ·refine .sr fun _ hK42 => ?_
         refine .as rfl (.nt hK42 (.ret (.block_ret (.then_ret ?_))))
         refine AK.ret1 rfl rfl (fun w hw => ⟨_, _, ?_, rfl, Ret.of (hw.pick [] (by decide) rfl rfl)⟩)
         refine ⟨congrArg Value.bool ?_, rfl⟩
         rw [wfE_eq]
         clear hk hr h hx ih hl hw
         generalize e.kids.length = m at *
         generalize e.kids.all (wfE n) = b at *
         first | (simp_all; done) | grind
        ·refine .skip (.block_normal ?_)
         refine AK.then_ (hK8 _ ?_)
         refine .seq fun _ hK43 => ?_
         refine .sr fun _ hK44 => ?_
         refine .v (.fieldAddr fd65_2 rfl) ?_
         refine .v (.loadBox on63 rfl bsp rfl) ?_
         refine .v (.lenR sl63 rfl rdp) ?_
         refine .mv rfl (.nt hK44 (.block ?_))
         refine AK.loopK (X := Nat) [(1, _), (53, _), (54, _)] (fun k => [(55, .int .i64 (k : Int))]) (fun k => [box bx2 65 3 [.int .i64 e.op, .int .i64 e.lt, s]]) (fun k => k ≤ e.kids.length ∧ ∀ i, i < k → wfE n (e.kids.getD i default) = true) (fun k => e.kids.length - k) (0) slr ?_ ?_ ?_ ?_
         ·exact ⟨Nat.zero_le _, fun i hi => (by omega)⟩
         ·exact slr
         ·exact fun w hw => hw
         ·intro k hg0 _ hK45
          refine .sr fun _ hK46 => ?_
          refine .v (.lss rfl rfl) ?_
          refine .nt hK46 ?_
          refine .seq fun _ hK47 => ?_
          refine AK.condD rfl (fun hc11 => ?_) (fun hc11 => ?_)
          ·have sk := (hk k (by omega)).sl
           refine .skip ?_
           refine AK.then_ (hK47 _ ?_)
           refine .seq fun _ hK48 => ?_
           refine .block ?_
           refine .sr fun _ hK49 => ?_
           first | refine .v (.iN sl63 rfl rfl) ?_ | refine .v (.iK sl63 rfl rfl) ?_
           refine .v (.loadE ag65 rfl rdp (by assumption) rfl (by omega)) ?_
           refine AK.alloc el65 rfl rfl trivial rfl (fun bx6 => ?_)
           refine AK.storeBox 1 (us := [.int .i64 (e.kids.getD k default).op, .int .i64 (e.kids.getD k default).lt, ss.getD k undef]) (cs' := [.int .i64 (e.kids.getD k default).op, .int .i64 (e.kids.getD k default).lt, ss.getD k undef]) rfl sz65 rfl rfl rfl rfl oneP (leb rfl) rfl trivial ?_
           refine .nt hK49 ?_
           refine .sr fun _ hK50 => ?_
           refine .v (.loadBoxG ag65 rfl bsp rfl rfl) ?_
           refine .mv rfl ?_
           refine AK.call co94 rfl (fun w hw => ih k (by omega) w _ ((hk k (by omega)).at hw)) trivial rfl ?_
           rintro r o ⟨rfl, rfl⟩
           refine .v (.not rfl) ?_
           refine .nt hK50 ?_
           refine AK.condB rfl (fun hc12 => ?_) (fun hc12 => ?_)
           ·refine .sr fun _ hK51 => ?_
            refine .as rfl (.nt hK51 (.ret (.block_ret (.then_ret (.then_ret (.block_ret (.then_ret ?_)))))))
            refine AK.ret1 rfl rfl (fun w hw => ⟨_, _, ?_, rfl, Ret.of (hw.pick [] (by decide) rfl rfl)⟩)
            refine ⟨congrArg Value.bool ?_, rfl⟩
            rw [wfE_eq, all_false (k := k) (by omega) (by simpa using hc12)]
            clear hk hr h hx ih hl hw hg0 hc11 hc12
            generalize e.kids.length = m at *
            first | (simp_all; done) | grind
           ·refine .skip (.block_normal ?_)
            refine AK.then_ (hK48 _ ?_)
            refine AK.region ?_
            refine .v (.add rfl rfl (by omega)) ?_
            refine .mv rfl (.nil ?_)
            refine AK.then_ (hK45 _ _ (k + 1) ⟨by omega, fun i hi => by rcases Nat.lt_or_ge i k with hik | hik; exact hg0.2 i hik; obtain rfl : i = k := (by omega); simpa using hc12⟩ (by omega) (slr) (fun w hw => hw.pick [0] (by decide) rfl rfl))
          ·refine .exit (.then_exit (.then_exit (.block_exit ?_)))
           refine AK.then_ (hK43 _ ?_)
           refine .sr fun _ hK52 => ?_
           refine .as rfl (.nt hK52 (.ret ?_))
           refine AK.ret1 rfl rfl (fun w hw => ⟨_, _, ?_, rfl, Ret.of (hw.pick [] (by decide) rfl rfl)⟩)
           refine ⟨congrArg Value.bool ?_, rfl⟩
           have ha := all_true (p := wfE n) (ks := e.kids) (fun i hi => hg0.2 i (by omega))
           rw [wfE_eq, ha]
           clear hk hr h hx ih hl hg0 hw hc11 ha
           generalize e.kids.length = m at *
           first | (simp_all; done) | grind
       ·refine .seq fun _ hK53 => ?_
        refine .sr fun _ hK54 => ?_
        refine .v (.eql rfl rfl) ?_
        refine .as rfl (.nt hK54 ?_)
        refine AK.condD rfl (fun hc8 => ?_) (fun hc8 => ?_)
        ·refine .skip ?_
         refine AK.then_ (hK53 _ ?_)
         refine AK.cond_t rfl (decide_eq_true hc8) ?_
         refine .sr fun _ hK55 => ?_
         refine .v (.fieldAddr fd65_2 rfl) ?_
         refine .v (.loadBox on63 rfl bsp rfl) ?_
         refine .v (.lenR sl63 rfl rdp) ?_
         refine .v (.neq rfl rfl) ?_
         refine .nt hK55 ?_
         refine AK.condNe rfl (fun hc10 => ?_) (fun hc10 => ?_)
         ·refine .sr fun _ hK56 => ?_
          refine .as rfl (.nt hK56 (.ret (.block_ret (.then_ret ?_))))
          refine AK.ret1 rfl rfl (fun w hw => ⟨_, _, ?_, rfl, Ret.of (hw.pick [] (by decide) rfl rfl)⟩)
          refine ⟨congrArg Value.bool ?_, rfl⟩
          rw [wfE_eq]
          clear hk hr h hx ih hl hw
          generalize e.kids.length = m at *
          generalize e.kids.all (wfE n) = b at *
          first | (simp_all; done) | grind
         ·refine .skip (.block_normal ?_)
          refine AK.then_ (hK8 _ ?_)
          refine .seq fun _ hK57 => ?_
          refine .sr fun _ hK58 => ?_
          refine .v (.fieldAddr fd65_2 rfl) ?_
          refine .v (.loadBox on63 rfl bsp rfl) ?_
          refine .v (.lenR sl63 rfl rdp) ?_
          refine .mv rfl (.nt hK58 (.block ?_))
          refine AK.loopK (X := Nat) [(1, _), (53, _), (54, _)] (fun k => [(55, .int .i64 (k : Int))]) (fun k => [box bx2 65 3 [.int .i64 e.op, .int .i64 e.lt, s]]) (fun k => k ≤ e.kids.length ∧ ∀ i, i < k → wfE n (e.kids.getD i default) = true) (fun k => e.kids.length - k) (0) slr ?_ ?_ ?_ ?_
          ·exact ⟨Nat.zero_le _, fun i hi => (by omega)⟩
          ·exact slr
          ·exact fun w hw => hw
          ·intro k hg0 _ hK59
           refine .sr fun _ hK60 => ?_
           refine .v (.lss rfl rfl) ?_
           refine .nt hK60 ?_
           refine .seq fun _ hK61 => ?_
           refine AK.condD rfl (fun hc11 => ?_) (fun hc11 => ?_)
           ·have sk := (hk k (by omega)).sl
            refine .skip ?_
            refine AK.then_ (hK61 _ ?_)
            refine .seq fun _ hK62 => ?_
            refine .block ?_
            refine .sr fun _ hK63 => ?_
            first | refine .v (.iN sl63 rfl rfl) ?_ | refine .v (.iK sl63 rfl rfl) ?_
            refine .v (.loadE ag65 rfl rdp (by assumption) rfl (by omega)) ?_
            refine AK.alloc el65 rfl rfl trivial rfl (fun bx6 => ?_)
            refine AK.storeBox 1 (us := [.int .i64 (e.kids.getD k default).op, .int .i64 (e.kids.getD k default).lt, ss.getD k undef]) (cs' := [.int .i64 (e.kids.getD k default).op, .int .i64 (e.kids.getD k default).lt, ss.getD k undef]) rfl sz65 rfl rfl rfl rfl oneP (leb rfl) rfl trivial ?_
            refine .nt hK63 ?_
            refine .sr fun _ hK64 => ?_
            refine .v (.loadBoxG ag65 rfl bsp rfl rfl) ?_
            refine .mv rfl ?_
            refine AK.call co94 rfl (fun w hw => ih k (by omega) w _ ((hk k (by omega)).at hw)) trivial rfl ?_
            rintro r o ⟨rfl, rfl⟩
            refine .v (.not rfl) ?_
            refine .nt hK64 ?_
            refine AK.condB rfl (fun hc12 => ?_) (fun hc12 => ?_)
            ·refine .sr fun _ hK65 => ?_
             refine .as rfl (.nt hK65 (.ret (.block_ret (.then_ret (.then_ret (.block_ret (.then_ret ?_)))))))
             refine AK.ret1 rfl rfl (fun w hw => ⟨_, _, ?_, rfl, Ret.of (hw.pick [] (by decide) rfl rfl)⟩)
             refine ⟨congrArg Value.bool ?_, rfl⟩
             rw [wfE_eq, all_false (k := k) (by omega) (by simpa using hc12)]
             clear hk hr h hx ih hl hw hg0 hc11 hc12
             generalize e.kids.length = m at *
             first | (simp_all; done) | grind
            ·refine .skip (.block_normal ?_)
             refine AK.then_ (hK62 _ ?_)
             refine AK.region ?_
             refine .v (.add rfl rfl (by omega)) ?_
             refine .mv rfl (.nil ?_)
             refine AK.then_ (hK59 _ _ (k + 1) ⟨by omega, fun i hi => by rcases Nat.lt_or_ge i k with hik | hik; exact hg0.2 i hik; obtain rfl : i = k := (by omega); simpa using hc12⟩ (by omega) (slr) (fun w hw => hw.pick [0] (by decide) rfl rfl))
           ·refine .exit (.then_exit (.then_exit (.block_exit ?_)))
            refine AK.then_ (hK57 _ ?_)
            refine .sr fun _ hK66 => ?_
            refine .as rfl (.nt hK66 (.ret ?_))
            refine AK.ret1 rfl rfl (fun w hw => ⟨_, _, ?_, rfl, Ret.of (hw.pick [] (by decide) rfl rfl)⟩)
            refine ⟨congrArg Value.bool ?_, rfl⟩
            have ha := all_true (p := wfE n) (ks := e.kids) (fun i hi => hg0.2 i (by omega))
            rw [wfE_eq, ha]
            clear hk hr h hx ih hl hg0 hw hc11 ha
            generalize e.kids.length = m at *
            first | (simp_all; done) | grind
        ·refine AK.region ?_
         refine .v (.eql rfl rfl) ?_
         refine .as rfl (.nt hK53 ?_)
         refine AK.condD rfl (fun hc9 => ?_) (fun hc9 => ?_)
         ·refine .sr fun _ hK67 => ?_
          refine .v (.fieldAddr fd65_2 rfl) ?_
          refine .v (.loadBox on63 rfl bsp rfl) ?_
          refine .v (.lenR sl63 rfl rdp) ?_
          refine .v (.neq rfl rfl) ?_
          refine .nt hK67 ?_
          refine AK.condNe rfl (fun hc10 => ?_) (fun hc10 => ?_)
          ·refine .sr fun _ hK68 => ?_
           refine .as rfl (.nt hK68 (.ret (.block_ret (.then_ret ?_))))
           refine AK.ret1 rfl rfl (fun w hw => ⟨_, _, ?_, rfl, Ret.of (hw.pick [] (by decide) rfl rfl)⟩)
           refine ⟨congrArg Value.bool ?_, rfl⟩
           rw [wfE_eq]
           clear hk hr h hx ih hl hw
           generalize e.kids.length = m at *
           generalize e.kids.all (wfE n) = b at *
           first | (simp_all; done) | grind
          ·refine .skip (.block_normal ?_)
           refine AK.then_ (hK8 _ ?_)
           refine .seq fun _ hK69 => ?_
           refine .sr fun _ hK70 => ?_
           refine .v (.fieldAddr fd65_2 rfl) ?_
           refine .v (.loadBox on63 rfl bsp rfl) ?_
           refine .v (.lenR sl63 rfl rdp) ?_
           refine .mv rfl (.nt hK70 (.block ?_))
           refine AK.loopK (X := Nat) [(1, _), (53, _), (54, _)] (fun k => [(55, .int .i64 (k : Int))]) (fun k => [box bx2 65 3 [.int .i64 e.op, .int .i64 e.lt, s]]) (fun k => k ≤ e.kids.length ∧ ∀ i, i < k → wfE n (e.kids.getD i default) = true) (fun k => e.kids.length - k) (0) slr ?_ ?_ ?_ ?_
           ·exact ⟨Nat.zero_le _, fun i hi => (by omega)⟩
           ·exact slr
           ·exact fun w hw => hw
           ·intro k hg0 _ hK71
            refine .sr fun _ hK72 => ?_
            refine .v (.lss rfl rfl) ?_
            refine .nt hK72 ?_
            refine .seq fun _ hK73 => ?_
            refine AK.condD rfl (fun hc11 => ?_) (fun hc11 => ?_)
            ·have sk := (hk k (by omega)).sl
             refine .skip ?_
             refine AK.then_ (hK73 _ ?_)
             refine .seq fun _ hK74 => ?_
             refine .block ?_
             refine .sr fun _ hK75 => ?_
             first | refine .v (.iN sl63 rfl rfl) ?_ | refine .v (.iK sl63 rfl rfl) ?_
             refine .v (.loadE ag65 rfl rdp (by assumption) rfl (by omega)) ?_
             refine AK.alloc el65 rfl rfl trivial rfl (fun bx6 => ?_)
             refine AK.storeBox 1 (us := [.int .i64 (e.kids.getD k default).op, .int .i64 (e.kids.getD k default).lt, ss.getD k undef]) (cs' := [.int .i64 (e.kids.getD k default).op, .int .i64 (e.kids.getD k default).lt, ss.getD k undef]) rfl sz65 rfl rfl rfl rfl oneP (leb rfl) rfl trivial ?_
             refine .nt hK75 ?_
             refine .sr fun _ hK76 => ?_
             refine .v (.loadBoxG ag65 rfl bsp rfl rfl) ?_
             refine .mv rfl ?_
             refine AK.call co94 rfl (fun w hw => ih k (by omega) w _ ((hk k (by omega)).at hw)) trivial rfl ?_
             rintro r o ⟨rfl, rfl⟩
             refine .v (.not rfl) ?_
             refine .nt hK76 ?_
             refine AK.condB rfl (fun hc12 => ?_) (fun hc12 => ?_)
             ·refine .sr fun _ hK77 => ?_
              refine .as rfl (.nt hK77 (.ret (.block_ret (.then_ret (.then_ret (.block_ret (.then_ret ?_)))))))
              refine AK.ret1 rfl rfl (fun w hw => ⟨_, _, ?_, rfl, Ret.of (hw.pick [] (by decide) rfl rfl)⟩)
              refine ⟨congrArg Value.bool ?_, rfl⟩
              rw [wfE_eq, all_false (k := k) (by omega) (by simpa using hc12)]
              clear hk hr h hx ih hl hw hg0 hc11 hc12
              generalize e.kids.length = m at *
              first | (simp_all; done) | grind
             ·refine .skip (.block_normal ?_)
              refine AK.then_ (hK74 _ ?_)
              refine AK.region ?_
              refine .v (.add rfl rfl (by omega)) ?_
              refine .mv rfl (.nil ?_)
              refine AK.then_ (hK71 _ _ (k + 1) ⟨by omega, fun i hi => by rcases Nat.lt_or_ge i k with hik | hik; exact hg0.2 i hik; obtain rfl : i = k := (by omega); simpa using hc12⟩ (by omega) (slr) (fun w hw => hw.pick [0] (by decide) rfl rfl))
            ·refine .exit (.then_exit (.then_exit (.block_exit ?_)))
             refine AK.then_ (hK69 _ ?_)
             refine .sr fun _ hK78 => ?_
             refine .as rfl (.nt hK78 (.ret ?_))
             refine AK.ret1 rfl rfl (fun w hw => ⟨_, _, ?_, rfl, Ret.of (hw.pick [] (by decide) rfl rfl)⟩)
             refine ⟨congrArg Value.bool ?_, rfl⟩
             have ha := all_true (p := wfE n) (ks := e.kids) (fun i hi => hg0.2 i (by omega))
             rw [wfE_eq, ha]
             clear hk hr h hx ih hl hg0 hw hc11 ha
             generalize e.kids.length = m at *
             first | (simp_all; done) | grind
         ·refine .sr fun _ hK79 => ?_
          refine .as rfl (.nt hK79 (.ret (.block_ret (.then_ret ?_))))
          refine AK.ret1 rfl rfl (fun w hw => ⟨_, _, ?_, rfl, Ret.of (hw.pick [] (by decide) rfl rfl)⟩)
          refine ⟨congrArg Value.bool ?_, rfl⟩
          rw [wfE_eq]
          clear hk hr h hx ih hl hw
          generalize e.kids.length = m at *
          generalize e.kids.all (wfE n) = b at *
          first | (simp_all; done) | grind

theorem s_wf (n : Int) (e : Ex) : WfS n e := Ex.ind (P := WfS n) (fun e ih w s h => s_wf_step n e ih w s h) e
theorem s_valid (w : World) (e : Ex) (s : Value) (n : Int) (h : RdK (cellR (fun _ => False) w) s e.kids) : CallS Tryz.prog 57 [.agg #[.int .i64 e.op, .int .i64 e.lt, s], .int .i64 n] w (fun r o => r = .int .i64 (validE e n) ∧ o = []) := by
 refine spec_of Tryz.func57 rfl (leb rfl) ?_
 refine .sr fun _ hK1 => ?_
 refine AK.box_ (E := 65) (cs := [.int .i64 e.op, .int .i64 e.lt, s]) rfl rfl rfl trivial rfl (fun bx2 => ?_)
 refine .as rfl (.nt hK1 ?_)
 refine .seq fun _ hK2 => ?_
 refine .sr fun _ hK3 => ?_
 refine .mv rfl ?_
 refine .v (.lss rfl rfl) ?_
 refine .mv rfl ?_
 refine AK.splitB (g := 7) rfl (fun hg_1_2 => ?_) (fun hg_1_2 => ?_)
 ·have hg_1_2' := hg_1_2
  try simp only [bs] at hg_1_2'
  refine AK.pass rfl rfl (hg_1_2) rfl ?_
  refine AK.pass rfl rfl (hg_1_2) rfl ?_
  refine .v (.pickT rfl (hg_1_2) rfl) ?_
  refine .nt hK3 ?_
  refine AK.cond_t rfl (rfl) ?_
  refine .sr fun _ hK4 => ?_
  refine .as rfl (.nt hK4 (.ret (.then_ret ?_)))
  refine AK.ret1 rfl rfl (fun w hw => ⟨_, _, ?_, rfl, Ret.of (hw.pick [] (by decide) rfl rfl)⟩)
  refine ⟨congrArg (Value.int .i64) ?_, rfl⟩
  unfold validE
  clear h
  first | (simp_all; done) | (simp_all <;> omega)
 ·have hg_1_2' := hg_1_2
  try simp only [bs] at hg_1_2'
  refine AK.val _ (Yl.move rfl) ⟨_, rfl, gB hg_1_2⟩ rfl ?_
  refine AK.val _ (Yl.gtr rfl rfl) ⟨_, rfl, gB hg_1_2⟩ rfl ?_
  refine .v (.pickF rfl (hg_1_2) rfl) ?_
  refine .nt hK3 ?_
  refine AK.condD rfl (fun hc0 => ?_) (fun hc0 => ?_)
  ·refine .sr fun _ hK5 => ?_
   refine .as rfl (.nt hK5 (.ret (.then_ret ?_)))
   refine AK.ret1 rfl rfl (fun w hw => ⟨_, _, ?_, rfl, Ret.of (hw.pick [] (by decide) rfl rfl)⟩)
   refine ⟨congrArg (Value.int .i64) ?_, rfl⟩
   unfold validE
   clear h
   first | (simp_all; done) | (simp_all <;> omega)
  ·refine .skip ?_
   refine AK.then_ (hK2 _ ?_)
   refine .seq fun _ hK6 => ?_
   refine .sr fun _ hK7 => ?_
   refine .v (.loadBoxG ag65 rfl bsp rfl rfl) ?_
   refine AK.call co93 rfl (fun w hw => s_within w e s (h.at hw)) trivial rfl ?_
   rintro r o ⟨rfl, rfl⟩
   refine .v (.not rfl) ?_
   refine .nt hK7 ?_
   refine AK.condB rfl (fun hc1 => ?_) (fun hc1 => ?_)
   ·refine .sr fun _ hK8 => ?_
    refine .as rfl (.nt hK8 (.ret (.then_ret ?_)))
    refine AK.ret1 rfl rfl (fun w hw => ⟨_, _, ?_, rfl, Ret.of (hw.pick [] (by decide) rfl rfl)⟩)
    refine ⟨congrArg (Value.int .i64) ?_, rfl⟩
    unfold validE
    clear h
    first | (simp_all; done) | (simp_all <;> omega)
   ·refine .skip ?_
    refine AK.then_ (hK6 _ ?_)
    refine .seq fun _ hK9 => ?_
    refine .sr fun _ hK10 => ?_
    refine .v (.loadBoxG ag65 rfl bsp rfl rfl) ?_
    refine .mv rfl ?_
    refine AK.call co94 rfl (fun w hw => s_wf n e w s (h.at hw)) trivial rfl ?_
    rintro r o ⟨rfl, rfl⟩
    refine .v (.not rfl) ?_
    refine .nt hK10 ?_
    refine AK.condB rfl (fun hc2 => ?_) (fun hc2 => ?_)
    ·refine .sr fun _ hK11 => ?_
     refine .as rfl (.nt hK11 (.ret (.then_ret ?_)))
     refine AK.ret1 rfl rfl (fun w hw => ⟨_, _, ?_, rfl, Ret.of (hw.pick [] (by decide) rfl rfl)⟩)
     refine ⟨congrArg (Value.int .i64) ?_, rfl⟩
     unfold validE
     clear h
     first | (simp_all; done) | (simp_all <;> omega)
    ·refine .skip ?_
     refine AK.then_ (hK9 _ ?_)
     refine .sr fun _ hK12 => ?_
     refine .as rfl (.nt hK12 (.ret ?_))
     refine AK.ret1 rfl rfl (fun w hw => ⟨_, _, ?_, rfl, Ret.of (hw.pick [] (by decide) rfl rfl)⟩)
     refine ⟨congrArg (Value.int .i64) ?_, rfl⟩
     unfold validE
     clear h
     first | (simp_all; done) | (simp_all <;> omega)

theorem s_val6 (w : World) (e : Ex) (s : Value) (h : RdK (cellR (fun _ => False) w) s e.kids) : CallS Tryz.prog 64 [.agg #[.int .i64 e.op, .int .i64 e.lt, s]] w (fun r o => r = .bool (decide (validE e 6 = 0)) ∧ o = []) := by
 refine spec_of Tryz.func64 rfl (leb rfl) ?_
 refine .sr fun _ hK1 => ?_
 refine AK.box_ (E := 65) (cs := [.int .i64 e.op, .int .i64 e.lt, s]) rfl rfl rfl trivial rfl (fun bx1 => ?_)
 refine .as rfl (.nt hK1 ?_)
 refine .sr fun _ hK2 => ?_
 refine .v (.loadBoxG ag65 rfl bsp rfl rfl) ?_
 refine AK.call co57 rfl (fun w hw => s_valid w e s 6 (h.at hw)) trivial rfl ?_
 rintro r o ⟨rfl, rfl⟩
 refine .v (.eql rfl rfl) ?_
 refine .as rfl (.nt hK2 (.ret ?_))
 refine AK.ret1 rfl rfl (fun w hw => ⟨_, _, ?_, rfl, Ret.of (hw.pick [] (by decide) rfl rfl)⟩)
 exact ⟨rfl, rfl⟩

theorem s_index (w : World) (f : FuncId) (hco : CallOk Tryz.prog f) (p : Ex → Bool) (s : Value) (ks : List Ex) (ss : List Value) (hl : ss.length = ks.length) (hsl : ∀ i, i < ks.length → IsSl (ss.getD i undef)) (hr : Rd (fun b => ¬ (fun _ => False) b) w s 3 ks.length (xcs ks ss)) (hf : ∀ w', FrameX (fun _ => False) w w' → ∀ i, i < ks.length → CallS Tryz.prog f [.agg #[.int .i64 (ks.getD i default).op, .int .i64 (ks.getD i default).lt, ss.getD i undef]] w' (fun r o => r = .bool (p (ks.getD i default)) ∧ o = [])) : CallS Tryz.prog 157 [s, .func (.func f) #[] #[]] w (fun r o => r = .int .i64 (idxE p ks) ∧ o = []) := by
 have hm := hr.le
 refine spec_of Tryz.func157 rfl (leb rfl) ?_
 refine .sr fun _ hK1 => ?_
 refine .as rfl (.nt hK1 ?_)
 refine .seq fun _ hK2 => ?_
 refine .sr fun _ hK3 => ?_
 refine .mv rfl ?_
 refine .v (.lenR sl63 rfl rdp) ?_
 refine .mv rfl (.nt hK3 (.block ?_))
 refine AK.loopK (X := Nat) [(0, _), (1, _), (7, _)] (fun k => [(8, .int .i64 (k : Int))]) (fun k => []) (fun k => k ≤ ks.length ∧ ∀ i, i < k → p (ks.getD i default) = false) (fun k => ks.length - k) (0) slr ?_ ?_ ?_ ?_
 ·exact ⟨Nat.zero_le _, fun i hi => (by omega)⟩
 ·exact slr
 ·exact fun w hw => hw
 ·intro k hg0 _ hK4
  refine .sr fun _ hK5 => ?_
  refine .v (.lss rfl rfl) ?_
  refine .nt hK5 ?_
  refine .seq fun _ hK6 => ?_
  refine AK.condD rfl (fun hc0 => ?_) (fun hc0 => ?_)
  ·refine .skip ?_
   refine AK.then_ (hK6 _ ?_)
   refine .seq fun _ hK7 => ?_
   refine .block ?_
   refine .sr fun _ hK8 => ?_
   refine .mv rfl (.as rfl (.nt hK8 ?_))
   refine .sr fun _ hK9 => ?_
   refine .mv rfl (.mv rfl (.mv rfl ?_))
   first | refine .v (.iN sl63 rfl rfl) ?_ | refine .v (.iK sl63 rfl rfl) ?_
   refine .v (.loadE ag65 rfl rdp (by assumption) rfl (by omega)) ?_
   refine AK.callV (us := []) (cs := []) hco rfl rfl (fun w hw => hf w hw.frame k (by omega)) trivial rfl ?_
   rintro r o ⟨rfl, rfl⟩
   refine .nt hK9 ?_
   refine AK.cond rfl (fun hc1 => ?_) (fun hc1 => ?_)
   ·try simp only [bs] at hc1
    refine .sr fun _ hK10 => ?_
    refine .mv rfl (.as rfl (.nt hK10 (.ret (.block_ret (.then_ret (.then_ret (.block_ret (.then_ret ?_))))))))
    refine AK.ret1 rfl rfl (fun w hw => ⟨_, _, ?_, rfl, Ret.of (hw.pick [] (by decide) rfl rfl)⟩)
    refine ⟨congrArg (Value.int .i64) ?_, rfl⟩
    exact (idxE_some (by omega) hg0.2 (by simpa using hc1)).symm
   ·try simp only [bs] at hc1
    refine .skip (.block_normal ?_)
    refine AK.then_ (hK7 _ ?_)
    refine AK.region ?_
    refine .v (.add rfl rfl (by omega)) ?_
    refine .mv rfl (.nil ?_)
    refine AK.then_ (hK4 _ _ (k + 1) ⟨by omega, fun i hi => by rcases Nat.lt_or_ge i k with hik | hik; exact hg0.2 i hik; obtain rfl : i = k := (by omega); simpa using hc1⟩ (by omega) (slr) (fun w hw => hw))
  ·refine .exit (.then_exit (.then_exit (.block_exit ?_)))
   refine AK.then_ (hK2 _ ?_)
   refine .sr fun _ hK11 => ?_
   refine .as rfl (.nt hK11 (.ret ?_))
   refine AK.ret1 rfl rfl (fun w hw => ⟨_, _, ?_, rfl, Ret.of (hw.pick [] (by decide) rfl rfl)⟩)
   refine ⟨congrArg (Value.int .i64) ?_, rfl⟩
   exact (idxE_none fun i hi => hg0.2 i (by omega)).symm

theorem s_contains (w : World) (f : FuncId) (hco : CallOk Tryz.prog f) (p : Ex → Bool) (s : Value) (ks : List Ex) (ss : List Value) (hl : ss.length = ks.length) (hsl : ∀ i, i < ks.length → IsSl (ss.getD i undef)) (hr : Rd (fun b => ¬ (fun _ => False) b) w s 3 ks.length (xcs ks ss)) (hf : ∀ w', FrameX (fun _ => False) w w' → ∀ i, i < ks.length → CallS Tryz.prog f [.agg #[.int .i64 (ks.getD i default).op, .int .i64 (ks.getD i default).lt, ss.getD i undef]] w' (fun r o => r = .bool (p (ks.getD i default)) ∧ o = [])) : CallS Tryz.prog 123 [s, .func (.func f) #[] #[]] w (fun r o => r = .bool (ks.any p) ∧ o = []) := by
 have hm := hr.le
 refine spec_of Tryz.func123 rfl (leb rfl) ?_
 refine .sr fun _ hK1 => ?_
 refine .as rfl (.nt hK1 ?_)
 refine .sr fun _ hK2 => ?_
 refine .mv rfl (.mv rfl ?_)
 refine AK.call co157 rfl (fun w hw => s_index w f hco p s ks ss hl hsl (hr.mono fun b _ hlt => ⟨id, hw.frame.block b hlt id⟩) (fun w' hfr i hi => hf w' (hw.frame.step hfr (fun _ h _ => h)) i hi)) trivial rfl ?_
 rintro r o ⟨rfl, rfl⟩
 refine .v (.geq rfl rfl) ?_
 refine .as rfl (.nt hK2 (.ret ?_))
 refine AK.ret1 rfl rfl (fun w hw => ⟨_, _, ?_, rfl, Ret.of (hw.pick [] (by decide) rfl rfl)⟩)
 refine ⟨congrArg Value.bool ?_, rfl⟩
 have := (idxE_any p ks).1
 rw [Bool.eq_iff_iff, this]; simp

def HuS (e : Ex) : Prop := ∀ (w : World) (s : Value) (h : RdK (cellR (fun _ => False) w) s e.kids), CallS Tryz.prog 99 [.agg #[.int .i64 e.op, .int .i64 e.lt, s]] w (fun r o => r = .bool (hasU e) ∧ o = [])
set_option maxHeartbeats 1000000 in
theorem s_hasu_step (e : Ex) (ih : ∀ i, i < e.kids.length → HuS (e.kids.getD i default)) (w : World) (s : Value) (h : RdK (cellR (fun _ => False) w) s e.kids) : CallS Tryz.prog 99 [.agg #[.int .i64 e.op, .int .i64 e.lt, s]] w (fun r o => r = .bool (hasU e) ∧ o = []) := by
 obtain ⟨ss, hl, hx, hk⟩ := h.inv
 have hr := hx.rd
 have hm := hr.le
 refine spec_of Tryz.func99 rfl (leb rfl) ?_
 refine .sr fun _ hK1 => ?_
 refine AK.box_ (E := 65) (cs := [.int .i64 e.op, .int .i64 e.lt, s]) rfl rfl rfl trivial rfl (fun bx1 => ?_)
 refine .as rfl (.nt hK1 ?_)
 refine .seq fun _ hK2 => ?_
 refine .sr fun _ hK3 => ?_
 refine .v (.fieldAddr fd65_0 rfl) ?_
 refine .v (.loadBox on3 rfl bsp rfl) ?_
 refine .nt hK3 (.block ?_)
 refine .seq fun _ hK4 => ?_
 refine .sr fun _ hK5 => ?_
 refine .v (.eql rfl rfl) ?_
 refine .as rfl (.nt hK5 ?_)
 refine AK.condD rfl (fun hc0 => ?_) (fun hc0 => ?_)
 ·refine .skip ?_
  refine AK.then_ (hK4 _ ?_)
  refine AK.cond_t rfl (decide_eq_true hc0) ?_
  refine .sr fun _ hK6 => ?_
  refine .as rfl (.nt hK6 (.ret (.block_ret (.then_ret ?_))))
  refine AK.ret1 rfl rfl (fun w hw => ⟨_, _, ?_, rfl, Ret.of (hw.pick [] (by decide) rfl rfl)⟩)
  refine ⟨congrArg Value.bool ?_, rfl⟩
  rw [hasU_eq e]
  clear hk hr h hx ih hl hw
  generalize e.kids.getD 0 default = x0 at *
  generalize e.kids.length = m at *
  first | (simp_all; done) | grind
 ·refine AK.region ?_
  refine .v (.eql rfl rfl) ?_
  refine .as rfl (.nt hK4 ?_)
  refine AK.condD rfl (fun hc1 => ?_) (fun hc1 => ?_)
  ·refine .sr fun _ hK7 => ?_
   refine .as rfl (.nt hK7 (.ret (.block_ret (.then_ret ?_))))
   refine AK.ret1 rfl rfl (fun w hw => ⟨_, _, ?_, rfl, Ret.of (hw.pick [] (by decide) rfl rfl)⟩)
   refine ⟨congrArg Value.bool ?_, rfl⟩
   rw [hasU_eq e]
   clear hk hr h hx ih hl hw
   generalize e.kids.getD 0 default = x0 at *
   generalize e.kids.length = m at *
   first | (simp_all; done) | grind
  ·refine .sr fun _ hK8 => ?_
   refine .v (.eql rfl rfl) ?_
   refine .as rfl (.nt hK8 ?_)
   refine AK.condD rfl (fun hc2 => ?_) (fun hc2 => ?_)
   ·refine .sr fun _ hK9 => ?_
    refine .v (.fieldAddr fd65_2 rfl) ?_
    refine .v (.loadBox on63 rfl bsp rfl) ?_
    refine AK.call co123 rfl (fun w hw => s_contains w 99 co99 hasU s e.kids ss hl (fun i hi => (hk i hi).sl) (hr.mono fun b _ hlt => ⟨id, hw.frame.block b hlt id⟩) (fun w' hfr i hi => ih i hi w' _ (((hk i hi).at hw).fr hfr))) trivial rfl ?_
    rintro r o ⟨rfl, rfl⟩
    refine .as rfl (.nt hK9 (.ret (.block_ret (.then_ret ?_))))
    refine AK.ret1 rfl rfl (fun w hw => ⟨_, _, ?_, rfl, Ret.of (hw.pick [] (by decide) rfl rfl)⟩)
    refine ⟨congrArg Value.bool ?_, rfl⟩
    rw [hasU_eq e]
    clear hk hr h hx ih hl hw
    generalize e.kids.getD 0 default = x0 at *
    generalize e.kids.length = m at *
    first | (simp_all; done) | grind
   ·refine .seq fun _ hK10 => ?_
    refine .sr fun _ hK11 => ?_
    refine .v (.eql rfl rfl) ?_
    refine .as rfl (.nt hK11 ?_)
    refine AK.condD rfl (fun hc3 => ?_) (fun hc3 => ?_)
    ·refine .skip ?_
     refine AK.then_ (hK10 _ ?_)
     refine AK.cond_t rfl (decide_eq_true hc3) ?_
     refine .seq fun _ hK12 => ?_
     refine .sr fun _ hK13 => ?_
     refine .v (.fieldAddr fd65_2 rfl) ?_
     refine .v (.loadBox on63 rfl bsp rfl) ?_
     refine .v (.lenR sl63 rfl rdp) ?_
     refine .mv rfl (.nt hK13 (.block ?_))
     refine AK.loopK (X := Nat) [(19, _), (20, _)] (fun k => [(21, .int .i64 (k : Int))]) (fun k => [box bx1 65 3 [.int .i64 e.op, .int .i64 e.lt, s]]) (fun k => k ≤ e.kids.length ∧ ∀ i, i < k → hasU (e.kids.getD i default) = true) (fun k => e.kids.length - k) (0) slr ?_ ?_ ?_ ?_
     ·exact ⟨Nat.zero_le _, fun i hi => (by omega)⟩
     ·exact slr
     ·exact fun w hw => hw
     ·intro k hg0 _ hK14
      refine .sr fun _ hK15 => ?_
      refine .v (.lss rfl rfl) ?_
      refine .nt hK15 ?_
      refine .seq fun _ hK16 => ?_
      refine AK.condD rfl (fun hc5 => ?_) (fun hc5 => ?_)
      ·have sk := (hk k (by omega)).sl
       refine .skip ?_
       refine AK.then_ (hK16 _ ?_)
       refine .seq fun _ hK17 => ?_
       refine .block ?_
       refine .sr fun _ hK18 => ?_
       first | refine .v (.iN sl63 rfl rfl) ?_ | refine .v (.iK sl63 rfl rfl) ?_
       refine .v (.loadE ag65 rfl rdp (by assumption) rfl (by omega)) ?_
       refine AK.alloc el65 rfl rfl trivial rfl (fun bx4 => ?_)
       refine AK.storeBox 1 (us := [.int .i64 (e.kids.getD k default).op, .int .i64 (e.kids.getD k default).lt, ss.getD k undef]) (cs' := [.int .i64 (e.kids.getD k default).op, .int .i64 (e.kids.getD k default).lt, ss.getD k undef]) rfl sz65 rfl rfl rfl rfl oneP (leb rfl) rfl trivial ?_
       refine .nt hK18 ?_
       refine .sr fun _ hK19 => ?_
       refine .v (.loadBoxG ag65 rfl bsp rfl rfl) ?_
       refine AK.call co99 rfl (fun w hw => ih k (by omega) w _ ((hk k (by omega)).at hw)) trivial rfl ?_
       rintro r o ⟨rfl, rfl⟩
       refine .v (.not rfl) ?_
       refine .nt hK19 ?_
       refine AK.condB rfl (fun hc6 => ?_) (fun hc6 => ?_)
       ·refine .sr fun _ hK20 => ?_
        refine .as rfl (.nt hK20 (.ret (.block_ret (.then_ret (.then_ret (.block_ret (.then_ret (.block_ret (.then_ret ?_)))))))))
        refine AK.ret1 rfl rfl (fun w hw => ⟨_, _, ?_, rfl, Ret.of (hw.pick [] (by decide) rfl rfl)⟩)
        refine ⟨congrArg Value.bool ?_, rfl⟩
        rw [hasU_eq e, all_false (k := k) (by omega) (by simpa using hc6)]
        clear hk hr h hx ih hl hg0
        first | (simp_all; done) | (simp_all <;> omega)
       ·refine .skip (.block_normal ?_)
        refine AK.then_ (hK17 _ ?_)
        refine AK.region ?_
        refine .v (.add rfl rfl (by omega)) ?_
        refine .mv rfl (.nil ?_)
        refine AK.then_ (hK14 _ _ (k + 1) ⟨by omega, fun i hi => by rcases Nat.lt_or_ge i k with hik | hik; exact hg0.2 i hik; obtain rfl : i = k := (by omega); simpa using hc6⟩ (by omega) (slr) (fun w hw => hw.pick [0] (by decide) rfl rfl))
      ·refine .exit (.then_exit (.then_exit (.block_exit ?_)))
       refine AK.then_ (hK12 _ ?_)
       refine .sr fun _ hK21 => ?_
       refine .as rfl (.nt hK21 (.ret (.block_ret (.then_ret ?_))))
       refine AK.ret1 rfl rfl (fun w hw => ⟨_, _, ?_, rfl, Ret.of (hw.pick [] (by decide) rfl rfl)⟩)
       refine ⟨congrArg Value.bool ?_, rfl⟩
       have ha := all_true (p := hasU) (ks := e.kids) (fun i hi => hg0.2 i (by omega))
       rw [hasU_eq e, ha]
       clear hk hr h hx ih hl hg0
       first | (simp_all; done) | (simp_all <;> omega)
    ·refine AK.region ?_
     refine .v (.eql rfl rfl) ?_
     refine .as rfl (.nt hK10 ?_)
     refine AK.condD rfl (fun hc4 => ?_) (fun hc4 => ?_)
     ·refine .seq fun _ hK22 => ?_
      refine .sr fun _ hK23 => ?_
      refine .v (.fieldAddr fd65_2 rfl) ?_
      refine .v (.loadBox on63 rfl bsp rfl) ?_
      refine .v (.lenR sl63 rfl rdp) ?_
      refine .mv rfl (.nt hK23 (.block ?_))
      refine AK.loopK (X := Nat) [(19, _), (20, _)] (fun k => [(21, .int .i64 (k : Int))]) (fun k => [box bx1 65 3 [.int .i64 e.op, .int .i64 e.lt, s]]) (fun k => k ≤ e.kids.length ∧ ∀ i, i < k → hasU (e.kids.getD i default) = true) (fun k => e.kids.length - k) (0) slr ?_ ?_ ?_ ?_
      ·exact ⟨Nat.zero_le _, fun i hi => (by omega)⟩
      ·exact slr
      ·exact fun w hw => hw
      ·intro k hg0 _ hK24
       refine .sr fun _ hK25 => ?_
       refine .v (.lss rfl rfl) ?_
       refine .nt hK25 ?_
       refine .seq fun _ hK26 => ?_
       refine AK.condD rfl (fun hc5 => ?_) (fun hc5 => ?_)
       ·have sk := (hk k (by omega)).sl
        refine .skip ?_
        refine AK.then_ (hK26 _ ?_)
        refine .seq fun _ hK27 => ?_
        refine .block ?_
        refine .sr fun _ hK28 => ?_
        first | refine .v (.iN sl63 rfl rfl) ?_ | refine .v (.iK sl63 rfl rfl) ?_
        refine .v (.loadE ag65 rfl rdp (by assumption) rfl (by omega)) ?_
        refine AK.alloc el65 rfl rfl trivial rfl (fun bx4 => ?_)
        refine AK.storeBox 1 (us := [.int .i64 (e.kids.getD k default).op, .int .i64 (e.kids.getD k default).lt, ss.getD k undef]) (cs' := [.int .i64 (e.kids.getD k default).op, .int .i64 (e.kids.getD k default).lt, ss.getD k undef]) rfl sz65 rfl rfl rfl rfl oneP (leb rfl) rfl trivial ?_
        refine .nt hK28 ?_
        refine .sr fun _ hK29 => ?_
        refine .v (.loadBoxG ag65 rfl bsp rfl rfl) ?_
        refine AK.call co99 rfl (fun w hw => ih k (by omega) w _ ((hk k (by omega)).at hw)) trivial rfl ?_
        rintro r o ⟨rfl, rfl⟩
        refine .v (.not rfl) ?_
        refine .nt hK29 ?_
        refine AK.condB rfl (fun hc6 => ?_) (fun hc6 => ?_)
        ·refine .sr fun _ hK30 => ?_
         refine .as rfl (.nt hK30 (.ret (.block_ret (.then_ret (.then_ret (.block_ret (.then_ret (.block_ret (.then_ret ?_)))))))))
         refine AK.ret1 rfl rfl (fun w hw => ⟨_, _, ?_, rfl, Ret.of (hw.pick [] (by decide) rfl rfl)⟩)
         refine ⟨congrArg Value.bool ?_, rfl⟩
         rw [hasU_eq e, all_false (k := k) (by omega) (by simpa using hc6)]
         clear hk hr h hx ih hl hg0
         first | (simp_all; done) | (simp_all <;> omega)
        ·refine .skip (.block_normal ?_)
         refine AK.then_ (hK27 _ ?_)
         refine AK.region ?_
         refine .v (.add rfl rfl (by omega)) ?_
         refine .mv rfl (.nil ?_)
         refine AK.then_ (hK24 _ _ (k + 1) ⟨by omega, fun i hi => by rcases Nat.lt_or_ge i k with hik | hik; exact hg0.2 i hik; obtain rfl : i = k := (by omega); simpa using hc6⟩ (by omega) (slr) (fun w hw => hw.pick [0] (by decide) rfl rfl))
       ·refine .exit (.then_exit (.then_exit (.block_exit ?_)))
        refine AK.then_ (hK22 _ ?_)
        refine .sr fun _ hK31 => ?_
        refine .as rfl (.nt hK31 (.ret (.block_ret (.then_ret ?_))))
        refine AK.ret1 rfl rfl (fun w hw => ⟨_, _, ?_, rfl, Ret.of (hw.pick [] (by decide) rfl rfl)⟩)
        refine ⟨congrArg Value.bool ?_, rfl⟩
        have ha := all_true (p := hasU) (ks := e.kids) (fun i hi => hg0.2 i (by omega))
        rw [hasU_eq e, ha]
        clear hk hr h hx ih hl hg0
        first | (simp_all; done) | (simp_all <;> omega)
     ·refine .sr fun _ hK32 => ?_
      refine .v (.eql rfl rfl) ?_
      refine .as rfl (.nt hK32 ?_)
      refine AK.condD rfl (fun hc7 => ?_) (fun hc7 => ?_)
      ·refine .sr fun _ hK33 => ?_
       refine .v (.fieldAddr fd65_2 rfl) ?_
       refine .v (.loadBox on63 rfl bsp rfl) ?_
       refine .v (.lenR sl63 rfl rdp) ?_
       refine .v (.eql rfl rfl) ?_
       refine .mv rfl ?_
       refine AK.splitB (g := 35) rfl (fun hg_17_4 => ?_) (fun hg_17_4 => ?_)
       ·have hg_17_4' := hg_17_4
        try simp only [bs] at hg_17_4'
        refine AK.val _ (Yl.fieldAddr fd65_2 rfl) ⟨_, rfl, gB hg_17_4⟩ rfl ?_
        refine AK.val _ (Yl.loadBox on63 rfl bsp rfl) ⟨_, rfl, gB hg_17_4⟩ rfl ?_
        refine AK.val _ (Yl.idxN (k := 0) sl63 rfl rfl rdp (by decide) (by have := hg_17_4; simp at this; omega)) ⟨_, rfl, gB hg_17_4⟩ rfl ?_
        refine AK.val _ (Yl.loadE ag65 rfl rdp (by assumption) rfl (by omega)) ⟨_, rfl, gB hg_17_4⟩ rfl ?_
        refine AK.call co99 rfl (fun w hw => ih 0 (by have := hg_17_4; simp at this; omega) w _ ((hk 0 (by have := hg_17_4; simp at this; omega)).at hw)) ⟨_, rfl, gB hg_17_4⟩ rfl ?_
        rintro r o ⟨rfl, rfl⟩
        refine AK.val _ (Yl.not rfl) ⟨_, rfl, gB hg_17_4⟩ rfl ?_
        refine .v (.pickT rfl (hg_17_4) rfl) ?_
        refine .as rfl (.nt hK33 (.ret (.block_ret (.then_ret ?_))))
        refine AK.ret1 rfl rfl (fun w hw => ⟨_, _, ?_, rfl, Ret.of (hw.pick [] (by decide) rfl rfl)⟩)
        refine ⟨congrArg Value.bool ?_, rfl⟩
        rw [hasU_eq e]
        clear hk hr h hx ih hl hw
        generalize e.kids.getD 0 default = x0 at *
        generalize e.kids.length = m at *
        first | (simp_all; done) | grind
       ·have hg_17_4' := hg_17_4
        try simp only [bs] at hg_17_4'
        refine AK.pass rfl rfl (hg_17_4) rfl ?_
        refine AK.pass rfl rfl (hg_17_4) rfl ?_
        refine AK.pass rfl rfl (hg_17_4) rfl ?_
        refine AK.pass rfl rfl (hg_17_4) rfl ?_
        refine AK.pass rfl rfl (hg_17_4) rfl ?_
        refine AK.pass rfl rfl (hg_17_4) rfl ?_
        refine .v (.pickF rfl (hg_17_4) rfl) ?_
        refine .as rfl (.nt hK33 (.ret (.block_ret (.then_ret ?_))))
        refine AK.ret1 rfl rfl (fun w hw => ⟨_, _, ?_, rfl, Ret.of (hw.pick [] (by decide) rfl rfl)⟩)
        refine ⟨congrArg Value.bool ?_, rfl⟩
        rw [hasU_eq e]
        clear hk hr h hx ih hl hw
        generalize e.kids.getD 0 default = x0 at *
        generalize e.kids.length = m at *
        first | (simp_all; done) | grind
      ·refine .skip (.block_normal ?_)
       refine AK.then_ (hK2 _ ?_)
       refine .sr fun _ hK34 => ?_
       refine .as rfl (.nt hK34 (.ret ?_))
       refine AK.ret1 rfl rfl (fun w hw => ⟨_, _, ?_, rfl, Ret.of (hw.pick [] (by decide) rfl rfl)⟩)
       refine ⟨congrArg Value.bool ?_, rfl⟩
       rw [hasU_eq e]
       clear hk hr h hx ih hl hw
       generalize e.kids.getD 0 default = x0 at *
       generalize e.kids.length = m at *
       first | (simp_all; done) | grind

theorem s_hasu (e : Ex) : HuS e := Ex.ind (P := HuS) (fun e ih w s h => s_hasu_step e ih w s h) e
end Go.Proofs.YtdnhiinakhmhgaaGreatDoor

namespace Go.Proofs.YtdnhiinakhmhgaaGreatDoor
open Go.Sx Go.RowKit
set_option maxHeartbeats 800000 in
theorem s_flatten (w : World) (op : Int) (s : Value) (ks : List Ex) (ss : List Value) (tss : List (List Value)) (hl : ss.length = ks.length) (htl : tss.length = ks.length) (h3 : ∀ i, i < ks.length → (tss.getD i []).length = (ks.getD i default).kids.length) (hr : Rd (fun b => ¬ (fun _ => False) b) w s 3 ks.length (xcs ks ss)) (hkr : ∀ i, i < ks.length → Rd (fun b => ¬ (fun _ => False) b) w (ss.getD i undef) 3 (ks.getD i default).kids.length (xcs (ks.getD i default).kids (tss.getD i []))) (hsl : ∀ i, i < ks.length → IsSl (ss.getD i undef)) (hsl2 : ∀ i, i < ks.length → ∀ j, j < (ks.getD i default).kids.length → IsSl ((tss.getD i []).getD j undef)) (hlim : (flatE op ks).length ≤ 1073741824) : CallS Tryz.prog 172 [.int .i64 op, s] w (fun r o => IsSl r ∧ o = [row r 65 3 (flatE op ks).length (xcs (flatE op ks) (flatS op ks ss tss))]) := by
 have hm := hr.le
 refine spec_of Tryz.func172 rfl (leb rfl) ?_
 refine .sr fun _ hK1 => ?_
 refine .as rfl (.nt hK1 ?_)
 refine .sr fun _ hK2 => ?_
 refine .as rfl (.nt hK2 ?_)
 refine .seq fun _ hK3 => ?_
 refine .sr fun _ hK4 => ?_
 refine .mv rfl ?_
 refine .v (.lenR sl63 rfl rdp) ?_
 refine .mv rfl (.nt hK4 (.block ?_))
 refine AK.loopK (X := Nat × Value) [(0, _), (8, _), (9, _)] (fun x => [(10, .int .i64 (x.1 : Int)), (5, x.2)]) (fun x => [row x.2 65 3 (flatE op (ks.take x.1)).length (xcs (flatE op (ks.take x.1)) (flatS op (ks.take x.1) (ss.take x.1) (tss.take x.1)))]) (fun x => x.1 ≤ ks.length ∧ IsSl x.2) (fun x => ks.length - x.1) ((0, .slice none 0 0)) slr ?_ ?_ ?_ ?_
 ·exact ⟨Nat.zero_le _, nilSl⟩
 ·exact slr
 ·exact fun w hw => by simpa [flatE, flatS, xcs] using hw.ghost 65 3
 ·intro x hg0 _ hK5
  refine .sr fun _ hK6 => ?_
  refine .v (.lss rfl rfl) ?_
  refine .nt hK6 ?_
  refine .seq fun _ hK7 => ?_
  refine AK.condD rfl (fun hc0 => ?_) (fun hc0 => ?_)
  ·have sk := hsl x.1 (by omega)
   have hb := flatE_take_le op ks (x.1 + 1)
   rw [take_snocD default ks x.1 (by omega), flatE_snoc, List.length_append] at hb
   refine .skip ?_
   refine AK.then_ (hK7 _ ?_)
   refine .seq fun _ hK8 => ?_
   refine .block ?_
   refine .sr fun _ hK9 => ?_
   first | refine .v (.iN sl63 rfl rfl) ?_ | refine .v (.iK sl63 rfl rfl) ?_
   refine .v (.loadE ag65 rfl rdp (by assumption) rfl (by omega)) ?_
   refine AK.alloc el65 rfl rfl trivial rfl (fun bx7 => ?_)
   refine AK.storeBox 1 (us := [.int .i64 (ks.getD x.1 default).op, .int .i64 (ks.getD x.1 default).lt, ss.getD x.1 undef]) (cs' := [.int .i64 (ks.getD x.1 default).op, .int .i64 (ks.getD x.1 default).lt, ss.getD x.1 undef]) rfl sz65 rfl rfl rfl rfl oneP (leb rfl) rfl trivial ?_
   refine .nt hK9 ?_
   refine .sr fun _ hK10 => ?_
   refine .v (.fieldAddr fd65_0 rfl) ?_
   refine .v (.loadBox on3 rfl bsp rfl) ?_
   refine .mv rfl ?_
   refine .v (.eql rfl rfl) ?_
   refine .nt hK10 ?_
   refine AK.condD rfl (fun hc1 => ?_) (fun hc1 => ?_)
   ·rw [if_pos hc1] at hb
    refine AK.region ?_
    refine .mv rfl ?_
    refine .v (.fieldAddr fd65_2 rfl) ?_
    refine .v (.loadBox on63 rfl bsp rfl) ?_
    refine AK.appendS 0 rfl sl63 el65 rfl (by decide) rfl rfl rfl (RdS.arg (hkr x.1 (by omega))) (one'_ecs _ _ (all_getD fun j hj => hsl2 x.1 (by omega) j (by rw [← h3 x.1 (by omega)]; exact hj))) (by omega) (by omega) trivial rfl (fun av21 => ?_)
    refine AK.shape 0 rfl (fun sav => ?_)
    refine .as rfl (.nil (.block_normal ?_))
    refine AK.then_ (hK8 _ ?_)
    refine AK.region ?_
    refine .v (.add rfl rfl (by omega)) ?_
    refine .mv rfl (.nil ?_)
    first | refine AK.then_ (hK5 _ _ ((x.1 + 1, av21)) ⟨by dsimp only; omega, sav⟩ (by dsimp only; omega) (slr) (fun w hw => by dsimp only; rw [take_snocD default ks x.1 (by omega), take_snocD undef ss x.1 (by omega), take_snocD [] tss x.1 (by omega), flatE_snoc, flatS_snoc op _ _ _ _ _ _ (by simp; omega) (by simp; omega), xcs_append _ _ _ _ (flatT_len hl htl h3 x.1), List.length_append, if_pos hc1, if_pos hc1]; exact hw.pick [0] (by decide) rfl rfl)) | refine AK.then_ (hK5 _ _ ((x.1 + 1, av25)) ⟨by dsimp only; omega, hsl25⟩ (by dsimp only; omega) (slr) (fun w hw => by dsimp only; rw [take_snocD default ks x.1 (by omega), take_snocD undef ss x.1 (by omega), take_snocD [] tss x.1 (by omega), flatE_snoc, flatS_snoc op _ _ _ _ _ _ (by simp; omega) (by simp; omega), xcs_append _ _ _ _ (flatT_len hl htl h3 x.1), List.length_append, if_neg hc1, if_neg hc1]; exact hw.pick [0] (by decide) rfl rfl))
   ·rw [if_neg hc1, List.length_singleton] at hb
    refine AK.region ?_
    refine .mv rfl ?_
    refine .v (.loadBoxG ag65 rfl bsp rfl rfl) ?_
    refine AK.append1 0 rfl sl63 el65 rfl (by decide) rfl (by intro k hk; cases hk; rfl) rfl (one'_cons rfl (one'_cons rfl (one'_cons (IsSl.one sk) one'_nil))) (by omega) (by omega) (by decide) rfl rfl (fun av25 _ hsl25 => ?_)
    refine .as rfl (.nil (.block_normal ?_))
    refine AK.then_ (hK8 _ ?_)
    refine AK.region ?_
    refine .v (.add rfl rfl (by omega)) ?_
    refine .mv rfl (.nil ?_)
    first | refine AK.then_ (hK5 _ _ ((x.1 + 1, av21)) ⟨by dsimp only; omega, sav⟩ (by dsimp only; omega) (slr) (fun w hw => by dsimp only; rw [take_snocD default ks x.1 (by omega), take_snocD undef ss x.1 (by omega), take_snocD [] tss x.1 (by omega), flatE_snoc, flatS_snoc op _ _ _ _ _ _ (by simp; omega) (by simp; omega), xcs_append _ _ _ _ (flatT_len hl htl h3 x.1), List.length_append, if_pos hc1, if_pos hc1]; exact hw.pick [0] (by decide) rfl rfl)) | refine AK.then_ (hK5 _ _ ((x.1 + 1, av25)) ⟨by dsimp only; omega, hsl25⟩ (by dsimp only; omega) (slr) (fun w hw => by dsimp only; rw [take_snocD default ks x.1 (by omega), take_snocD undef ss x.1 (by omega), take_snocD [] tss x.1 (by omega), flatE_snoc, flatS_snoc op _ _ _ _ _ _ (by simp; omega) (by simp; omega), xcs_append _ _ _ _ (flatT_len hl htl h3 x.1), List.length_append, if_neg hc1, if_neg hc1]; exact hw.pick [0] (by decide) rfl rfl))
  ·refine .exit (.then_exit (.then_exit (.block_exit ?_)))
   refine AK.then_ (hK3 _ ?_)
   refine .sr fun _ hK11 => ?_
   refine .mv rfl (.as rfl (.nt hK11 (.ret ?_)))
   refine AK.ret1 rfl rfl (fun w hw => ⟨_, _, ?_, rfl, Ret.of (hw.pick [0] (by decide) rfl rfl)⟩)
   have e1 : x.1 = ks.length := by omega
   rw [e1, List.take_length, List.take_of_length_le (by omega), List.take_of_length_le (by omega)]
   exact ⟨hg0.2, rfl⟩

set_option maxHeartbeats 800000 in
theorem s_delete (w : World) (F : Nat → Prop) (f : FuncId) (hco : CallOk Tryz.prog f) (p : Ex → Bool) (s : Value) (ks : List Ex) (ss : List Value) (hl : ss.length = ks.length) (hsl : ∀ i, i < ks.length → IsSl (ss.getD i undef)) (hA : (row s 65 3 ks.length (xcs ks ss)).holds w F) (hf : ∀ w', FrameX F w w' → ∀ i, i < ks.length → CallS Tryz.prog f [.agg #[.int .i64 (ks.getD i default).op, .int .i64 (ks.getD i default).lt, ss.getD i undef]] w' (fun r o => r = .bool (p (ks.getD i default)) ∧ o = [])) : CallM Tryz.prog 171 [s, .func (.func f) #[] #[]] w F (fun r A o => ∃ ss', IsSl r ∧ A = row r 65 3 (ks.filter (fun e => !p e)).length (xcs (ks.filter (fun e => !p e)) ss') ∧ o = [] ∧ PSub (ks.filter (fun e => !p e)) ss' ks ss) := by
 have hsv := row_sl hA
 have hm := (row_rd hA).le
 refine specM_of Tryz.func171 rfl (leb rfl) hA ?_
 refine .sr fun _ hK1 => ?_
 refine .as rfl (.nt hK1 ?_)
 refine .sr fun _ hK2 => ?_
 refine .mv rfl (.mv rfl ?_)
 refine AK.call co157 rfl (fun w hw => s_index w f hco p s ks ss hl hsl ((RdS.own 0 rfl w hw).mono fun b _ _ => ⟨id, rfl⟩) (fun w' hfr i hi => hf w' (hw.frame.step hfr (fun _ h _ => h.elim)) i hi)) trivial rfl ?_
 rintro r o ⟨rfl, rfl⟩
 obtain ⟨ia, ib, ic⟩ := idxE_any p ks
 refine .as rfl (.nt hK2 ?_)
 refine .seq fun _ hK3 => ?_
 refine .sr fun _ hK4 => ?_
 refine .mv rfl ?_
 refine .v (.eql rfl rfl) ?_
 refine .nt hK4 ?_
 refine AK.condD rfl (fun hc0 => ?_) (fun hc0 => ?_)
 ·refine .sr fun _ hK5 => ?_
  refine .mv rfl (.as rfl (.nt hK5 (.ret (.then_ret ?_))))
  refine AK.ret1 rfl rfl (fun w hw => ⟨_, _, _, ?_, rfl, Ret.of (hw.pick [0] (by decide) rfl rfl)⟩)
  have hany : ks.any p = false := by
   cases h : ks.any p with
   | false => rfl
   | true => have := ia.1 h; omega
  rw [filter_not hany]
  exact ⟨ss, hsv, rfl, rfl, PSub.rfl hl⟩
 ·have hany : ks.any p = true := ia.2 (by omega)
  have hix : idxE p ks = ((ks.findIdx p : Nat) : Int) := by unfold idxE; rw [if_pos hany]
  rw [hix] at ib ic hc0 ⊢
  have hst := DelI.start (p := p) hl hany
  have hilt := (findIdx_first hany).1
  refine .skip ?_
  refine AK.then_ (hK3 _ ?_)
  refine .seq fun _ hK6 => ?_
  refine .sr fun _ hK7 => ?_
  refine .mv rfl ?_
  refine .v (.add rfl rfl (by omega)) ?_
  refine .as rfl (.nt hK7 (.block ?_))
  refine AK.loopK (X := Nat × Nat × List Ex × List Value) [(0, _), (1, _)] (fun x => [(6, .int .i64 (x.1 : Int)), (5, .int .i64 (x.2.1 : Int))]) (fun x => [row s 65 3 ks.length (xcs x.2.2.1 x.2.2.2)]) (fun x => DelI (fun e => !p e) ks ss x.1 x.2.1 x.2.2.1 x.2.2.2) (fun x => ks.length - x.1) ((ks.findIdx p + 1, ks.findIdx p, ks, ss)) slr ?_ ?_ ?_ ?_
  ·exact hst
  ·exact .cons (slI rfl (by omega)) (slr)
  ·exact fun w hw => hw
  ·intro x hg0 _ hK8
   refine .seq fun _ hK9 => ?_
   refine .sr fun _ hK10 => ?_
   refine .mv rfl (.mv rfl ?_)
   refine .v (.lenR sl63 rfl rdp) ?_
   refine .v (.lss rfl rfl) ?_
   refine .nt hK10 ?_
   refine AK.condD rfl (fun hc1 => ?_) (fun hc1 => ?_)
   ·have hjlt : x.1 < ks.length := by omega
    have hil := hg0.lt
    have hkl := hg0.len
    have hksl := hg0.slen
    have sk : IsSl (x.2.2.2.getD x.1 undef) := by rw [(hg0.suf x.1 (Nat.le_refl _)).2]; exact hsl x.1 hjlt
    refine .skip ?_
    refine AK.then_ (hK9 _ ?_)
    refine .seq fun _ hK11 => ?_
    refine .block ?_
    refine .sr fun _ hK12 => ?_
    refine .mv rfl (.mv rfl ?_)
    first | refine .v (.iN sl63 rfl rfl) ?_ | refine .v (.iK sl63 rfl rfl) ?_
    refine .v (.loadE ag65 rfl rdp (by assumption) (by omega) (by omega)) ?_
    refine AK.alloc el65 rfl rfl trivial rfl (fun bx7 => ?_)
    refine AK.storeBox 1 (us := [.int .i64 (x.2.2.1.getD x.1 default).op, .int .i64 (x.2.2.1.getD x.1 default).lt, x.2.2.2.getD x.1 undef]) (cs' := [.int .i64 (x.2.2.1.getD x.1 default).op, .int .i64 (x.2.2.1.getD x.1 default).lt, x.2.2.2.getD x.1 undef]) rfl sz65 rfl rfl rfl rfl oneP (leb rfl) rfl trivial ?_
    refine .nt hK12 ?_
    refine .sr fun _ hK13 => ?_
    refine .mv rfl ?_
    refine .v (.loadBoxG ag65 rfl bsp rfl rfl) ?_
    refine AK.callV (us := []) (cs := []) hco rfl rfl (fun w hw => (by have := hf w hw.frame x.1 (by omega); have e := hg0.suf x.1 (Nat.le_refl _); rw [← e.1, ← e.2] at this; exact this)) trivial rfl ?_
    rintro r o ⟨rfl, rfl⟩
    refine .v (.not rfl) ?_
    refine .nt hK13 ?_
    refine AK.condB rfl (fun hc2 => ?_) (fun hc2 => ?_)
    ·refine .sr fun _ hK14 => ?_
     refine .mv rfl (.mv rfl ?_)
     refine .v (.loadBoxG ag65 rfl bsp rfl rfl) ?_
     first | refine .v (.iN sl63 rfl rfl) ?_ | refine .v (.iK sl63 rfl rfl) ?_
     refine AK.storeG 0 rfl sz65 rfl rfl rfl rfl (one'_cons rfl (one'_cons rfl (one'_cons (IsSl.one sk) one'_nil))) (by omega) (cs' := xcs (x.2.2.1.set x.2.1 (x.2.2.1.getD x.1 default)) (x.2.2.2.set x.2.1 (x.2.2.2.getD x.1 undef))) (xcs_set _ _ _ hksl (by omega) _ _) trivial ?_
     refine .nt hK14 ?_
     refine AK.region ?_
     refine .mv rfl ?_
     refine .v (.add rfl rfl (by omega)) ?_
     refine .as rfl (.nil (.block_normal ?_))
     refine AK.then_ (hK11 _ ?_)
     refine AK.region ?_
     refine .mv rfl ?_
     refine .v (.add rfl rfl (by omega)) ?_
     refine .as rfl (.nil ?_)
     refine AK.then_ (hK8 _ _ ((x.1 + 1, x.2.1 + 1, x.2.2.1.set x.2.1 (x.2.2.1.getD x.1 default), x.2.2.2.set x.2.1 (x.2.2.2.getD x.1 undef))) (hg0.keep hjlt (by have e := (hg0.suf x.1 (Nat.le_refl _)).1; rw [e] at hc2; show (!p _) = _; rw [hc2]; rfl)) (by dsimp only; omega) (slr) (fun w hw => hw.pick [0] (by decide) rfl rfl))
    ·refine .skip (.block_normal ?_)
     refine AK.then_ (hK11 _ ?_)
     refine AK.region ?_
     refine .mv rfl ?_
     refine .v (.add rfl rfl (by omega)) ?_
     refine .as rfl (.nil ?_)
     refine AK.then_ (hK8 _ _ ((x.1 + 1, x.2.1, x.2.2.1, x.2.2.2)) (hg0.drop hjlt (by have e := (hg0.suf x.1 (Nat.le_refl _)).1; rw [e] at hc2; show (!p _) = _; rw [hc2]; rfl)) (by dsimp only; omega) (slr) (fun w hw => hw.pick [0] (by decide) rfl rfl))
   ·have hil := hg0.lt
    have hle := hg0.le
    have hkl := hg0.len
    have hksl := hg0.slen
    refine .exit (.then_exit (.then_exit (.block_exit ?_)))
    refine AK.then_ (hK6 _ ?_)
    refine .sr fun _ hK15 => ?_
    refine .mv rfl (.mv rfl ?_)
    refine .v (.sliceFr (CutS.row 0 rfl) sl63 rfl rfl (by omega)) ?_
    refine AK.clearE 0 (ks := x.2.2.1) (ss := x.2.2.2) rfl sl63 el65 rfl (by omega) hksl (by omega) trivial (fun cs hcs => ?_)
    refine .nt hK15 ?_
    refine .sr fun _ hK16 => ?_
    refine .mv rfl (.mv rfl ?_)
    refine .v (.sliceTo 0 rfl sl63 rfl rfl (by omega)) ?_
    refine .as rfl (.nt hK16 (.ret ?_))
    refine AK.reslice 0 x.2.1 rfl (by omega) ?_
    refine AK.ret1 rfl rfl (fun w hw => ⟨_, _, _, ?_, rfl, Ret.of (hw.pick [0] (by decide) rfl rfl)⟩)
    have hx1 : x.1 = ks.length := by omega
    rw [hx1] at hg0
    obtain ⟨ps, e1, e2⟩ := hg0.psub
    have hcs' : cs.take (x.2.1 * 3) = xcs (x.2.2.1.take x.2.1) (x.2.2.2.take x.2.1) := hcs
    rw [e1] at hcs'
    refine ⟨x.2.2.2.take x.2.1, slTo_sl _ hsv, ?_, rfl, ps⟩
    rw [hcs', ← e2]
    rfl

theorem s_collect (w : World) (op : Int) (s : Value) (ks : List Ex) (ss : List Value) (hl : ss.length = ks.length) (hr : Rd (fun b => ¬ (fun _ => False) b) w s 3 ks.length (xcs ks ss)) (nn : Ex) (ns : Value) (hsl : ∀ i, i < ks.length → IsSl (ss.getD i undef)) (hns : IsSl ns) : CallS Tryz.prog 173 [.int .i64 op, s, .agg #[.int .i64 nn.op, .int .i64 nn.lt, ns]] w (fun r o => ∃ sr, r = .agg #[.int .i64 (collectE op ks nn).op, .int .i64 (collectE op ks nn).lt, sr] ∧ IsSl sr ∧ o = [] ∧ ((ks = [] ∧ sr = ns) ∨ (ks.length = 1 ∧ sr = ss.getD 0 undef) ∨ (2 ≤ ks.length ∧ sr = s))) := by
 have hm := hr.le
 have hss := Rd.sl hr
 refine spec_of Tryz.func173 rfl (leb rfl) ?_
 refine .sr fun _ hK1 => ?_
 refine AK.box_ (E := 65) (cs := [.int .i64 nn.op, .int .i64 nn.lt, ns]) rfl rfl rfl trivial rfl (fun bx5 => ?_)
 refine AK.alloc el65 rfl rfl trivial rfl (fun bx6 => ?_)
 refine .nt hK1 ?_
 refine .seq fun _ hK2 => ?_
 refine .sr fun _ hK3 => ?_
 refine .mv rfl ?_
 refine .v (.lenR sl63 rfl rdp) ?_
 refine .nt hK3 (.block ?_)
 refine .sr fun _ hK4 => ?_
 refine .v (.eql rfl rfl) ?_
 refine .as rfl (.nt hK4 ?_)
 refine AK.condD rfl (fun hc0 => ?_) (fun hc0 => ?_)
 ·refine .sr fun _ hK5 => ?_
  refine .v (.loadBoxG ag65 rfl bsp rfl rfl) ?_
  refine AK.storeBox 1 (us := [.int .i64 nn.op, .int .i64 nn.lt, ns]) (cs' := [.int .i64 nn.op, .int .i64 nn.lt, ns]) rfl sz65 rfl rfl rfl rfl oneP (leb rfl) rfl trivial ?_
  refine .nt hK5 (.ret (.block_ret (.then_ret ?_)))
  refine AK.retG [.cell 6 65] rfl (.cons (.cell ag65 rfl bsp rfl rfl) (.nil)) (fun w hw => ⟨_, _, ?_, rfl, Ret.of (hw.pick [] (by decide) rfl rfl)⟩)
  have hk0 : ks = [] := List.eq_nil_of_length_eq_zero (by omega)
  subst hk0
  exact ⟨ns, rfl, hns, rfl, .inl ⟨rfl, rfl⟩⟩
 ·refine .sr fun _ hK6 => ?_
  refine .v (.eql rfl rfl) ?_
  refine .as rfl (.nt hK6 ?_)
  refine AK.condD rfl (fun hc1 => ?_) (fun hc1 => ?_)
  ·have hk1 : ks.length = 1 := by omega
   have sk := hsl 0 (by omega)
   refine .sr fun _ hK7 => ?_
   refine .mv rfl ?_
   refine .v (.idxN (k := 0) sl63 rfl rfl rdp (by decide) (by omega)) ?_
   refine .v (.loadE ag65 rfl rdp (by assumption) rfl (by omega)) ?_
   refine AK.storeBox 1 (us := [.int .i64 (ks.getD 0 default).op, .int .i64 (ks.getD 0 default).lt, ss.getD 0 undef]) (cs' := [.int .i64 (ks.getD 0 default).op, .int .i64 (ks.getD 0 default).lt, ss.getD 0 undef]) rfl sz65 rfl rfl rfl rfl oneP (leb rfl) rfl trivial ?_
   refine .nt hK7 (.ret (.block_ret (.then_ret ?_)))
   refine AK.retG [.cell 6 65] rfl (.cons (.cell ag65 rfl bsp rfl rfl) (.nil)) (fun w hw => ⟨_, _, ?_, rfl, Ret.of (hw.pick [] (by decide) rfl rfl)⟩)
   obtain ⟨k, rfl⟩ : ∃ k, ks = [k] := List.length_eq_one_iff.1 hk1
   exact ⟨_, rfl, sk, rfl, .inr (.inl ⟨rfl, rfl⟩)⟩
  ·refine .skip (.block_normal ?_)
   refine AK.then_ (hK2 _ ?_)
   refine .sr fun _ hK8 => ?_
   refine .mv rfl (.mv rfl ?_)
   refine .v (.build (parts := [(0, .tmp 17), (2, .tmp 18)]) (cs := #[.int .i64 op, .int .i64 0, s]) rfl (by obtain ⟨_, _, _, rfl⟩ := hss; kernel_rfl)) ?_
   refine AK.storeBox 1 (us := [.int .i64 op, .int .i64 0, s]) (cs' := [.int .i64 op, .int .i64 0, s]) rfl sz65 rfl rfl rfl rfl oneP (leb rfl) rfl trivial ?_
   refine .nt hK8 (.ret ?_)
   refine AK.retG [.cell 6 65] rfl (.cons (.cell ag65 rfl bsp rfl rfl) (.nil)) (fun w hw => ⟨_, _, ?_, rfl, Ret.of (hw.pick [] (by decide) rfl rfl)⟩)
   match ks, hc0, hc1 with
   | [], h, _ => simp at h
   | [k], _, h => simp at h
   | a :: b :: l, _, _ => exact ⟨s, rfl, hss, rfl, .inr (.inr ⟨by simp, rfl⟩)⟩

end Go.Proofs.YtdnhiinakhmhgaaGreatDoor
