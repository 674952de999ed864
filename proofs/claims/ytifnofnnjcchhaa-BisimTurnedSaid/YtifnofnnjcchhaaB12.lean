import Derived.Test.YtifnofnnjcchhaaB5
import Derived.Test.YtifnofnnjcchhaaB8
import Derived.Test.YtifnofnnjcchhaaB11
import Derived.Test.YtifnofnnjcchhaaDx
import Derived.Test.YtifnofnnjcchhaaE5
set_option linter.unusedVariables false
set_option linter.unusedSimpArgs false
namespace Go.Proofs.Ytifnofnnjcchhaa
open Go.Sx Go.RowKit Go.Sx.Pt
theorem findP_valid {a b : Dfa} : ValidP (FindP a b) := by
  unfold FindP
  split
  · exact valid_fromB _ _
  · exact ⟨by simp, rfl⟩
theorem sle_anti {u v : List UInt8} (h : sle u v) : ¬ CmpV v u < 0 := by
  intro hc
  rw [CmpV_lt] at hc
  rcases h with h | rfl
  · have := slx_trans hc h
    rw [slx_irr] at this; cases this
  · rw [slx_irr] at hc; cases hc
theorem decide_facts {a b : Dfa} (hE : pairE a b = 0) (hn : a.fin.length + b.fin.length ≤ 512) :
    (FindB a b = true → ChkP a b (FindP a b) ∧ ∀ l, AccV a l = AccV b l) ∧
    (FindB a b = false → AccV a (FindW a b) ≠ AccV b (FindW a b) ∧ (FindW a b).length < a.fin.length + b.fin.length ∧ ∀ l, AccV a l ≠ AccV b l → ¬ CmpV l (FindW a b) < 0) := by
  obtain ⟨ha, hb, hL⟩ := pairE_zero hE
  obtain ⟨f1, f2⟩ := find_ok hE
  refine ⟨fun h => ⟨chk_find hE h, ((find_iff hE).1 h).acc ha hb hL⟩, fun h => ?_⟩
  have hD : (DifD a b 6).2 = true := by rw [f1] at h; simpa using h
  obtain ⟨s1, s2⟩ := dif_spec ha hb hL 6
  obtain ⟨g1, g2⟩ := s1 hD
  have hl := dif6_len ha hb hL hn
  have hna := ha.n
  have hw := okw_valid ha g1 (by omega)
  rw [f2]
  refine ⟨?_, hl, fun l hne => ?_⟩
  · rw [AccV_of ha hw, AccV_of hb (by rw [← hL]; exact hw)]
    rw [byB6] at g2
    simpa [finQ] using g2
  · refine sle_anti (s2 l ?_ ?_).2
    · cases e : validW a.L l with
      | false => exact absurd (by rw [AccV_bad e, AccV_bad (by rw [← hL]; exact e)]) hne
      | true => unfold validW at e; rw [Bool.and_eq_true] at e; exact e.2
    · cases e : validW a.L l with
      | false => exact absurd (by rw [AccV_bad e, AccV_bad (by rw [← hL]; exact e)]) hne
      | true =>
        rw [AccV_of ha e, AccV_of hb (by rw [← hL]; exact e)] at hne
        rw [byB6]
        simpa [finQ] using hne
theorem turned_facts {d : Dfa} (hv : VD d) (hn : d.fin.length ≤ 12) : MinV d = minD d ∧ pairE d (minD d) = 0 ∧ FindB d (minD d) = true ∧ (FindP d (minD d)).length = d.fin.length + (minD d).fin.length ∧ ChkP d (minD d) (FindP d (minD d)) := by
  have hm := min_vd hv
  have hp : pairE d (minD d) = 0 := pairE_mk hv hm rfl
  have hf : FindB d (minD d) = true := (find_iff hp).2 (fun l hl => (min_lng hv l hl).symm)
  have hc := chk_find hp hf
  exact ⟨if_pos hv, hp, hf, hc.len, hc⟩
set_option maxHeartbeats 1000000 in
set_option maxRecDepth 100000 in
theorem l_checks (w : World) (u v : Value) (a b : Dfa) (hu : RdD (fun _ => False) w u a) (hv : RdD (fun _ => False) w v b) (vp : Value) (p : List Int) (hp : RdI w vp p) : CallS Try.prog 6 [u, v, vp] w (fun r o => r = .bool true ∧ o = []) := by
 have hu0 := hu
 obtain ⟨aF, aN, rfl, haF, haN⟩ := hu
 have haF0 := haF
 unfold RdL at haF
 have m1 := haF.le
 have hv0 := hv
 obtain ⟨bF, bN, rfl, hbF, hbN⟩ := hv
 have hbF0 := hbF
 unfold RdL at hbF
 have m2 := hbF.le
 have hp0 := hp
 refine spec_of Try.func6 rfl (Nat.le_of_ble_eq_true rfl) ?_
 refine .sr fun _ hK1 => ?_
 refine AK.box_ (E := 25) (cs := [.int .i64 a.L, .int .i64 a.s, aF, aN]) rfl rfl rfl trivial rfl (fun bx3 => ?_)
 refine AK.box_ (E := 25) (cs := [.int .i64 b.L, .int .i64 b.s, bF, bN]) rfl rfl rfl trivial rfl (fun bx4 => ?_)
 refine .as rfl (.nt hK1 ?_)
 refine .seq fun _ hK2 => ?_
 refine .sr fun _ hK3 => ?_
 refine .v (.fieldAddr fd25_2 rfl) ?_
 refine .v (.loadBox on22 rfl bsp rfl) ?_
 refine .v (.lenR sl22 rfl rdp) ?_
 refine .v (.gtr rfl rfl) ?_
 refine .mv rfl ?_
 refine AK.splitB (g := 11) rfl (fun hg_1_4 => ?_) (fun hg_1_4 => ?_)
 ·have hg_1_4' := hg_1_4
  try simp only [bs] at hg_1_4'
  refine AK.pass rfl rfl (hg_1_4) rfl ?_
  refine AK.pass rfl rfl (hg_1_4) rfl ?_
  refine AK.pass rfl rfl (hg_1_4) rfl ?_
  refine AK.pass rfl rfl (hg_1_4) rfl ?_
  refine .v (.pickT rfl (hg_1_4) rfl) ?_
  refine .nt hK3 ?_
  refine AK.cond_t rfl (rfl) ?_
  refine .sr fun _ hK4 => ?_
  refine AK.call co15 rfl (fun w hw => s_awake w) trivial rfl ?_
  rintro r o ⟨rfl, rfl⟩
  refine .as rfl (.nt hK4 (.ret (.then_ret ?_)))
  refine AK.ret1 rfl rfl (fun w hw => ⟨_, _, ?_, rfl, Ret.of (hw.pick [] (by decide) rfl rfl)⟩)
  exact ⟨rfl, rfl⟩
 ·have hg_1_4' := hg_1_4
  try simp only [bs] at hg_1_4'
  refine AK.val _ (Yl.fieldAddr fd25_2 rfl) ⟨_, rfl, congrArg (fun b => some (Value.bool b)) hg_1_4⟩ rfl ?_
  refine AK.val _ (Yl.loadBox on22 rfl bsp rfl) ⟨_, rfl, congrArg (fun b => some (Value.bool b)) hg_1_4⟩ rfl ?_
  refine AK.val _ (Yl.lenR sl22 rfl rdp) ⟨_, rfl, congrArg (fun b => some (Value.bool b)) hg_1_4⟩ rfl ?_
  refine AK.val _ (Yl.gtr rfl rfl) ⟨_, rfl, congrArg (fun b => some (Value.bool b)) hg_1_4⟩ rfl ?_
  refine .v (.pickF rfl (hg_1_4) rfl) ?_
  refine .nt hK3 ?_
  refine AK.condD rfl (fun hc0 => ?_) (fun hc0 => ?_)
  ·refine .sr fun _ hK5 => ?_
   refine AK.call co15 rfl (fun w hw => s_awake w) trivial rfl ?_
   rintro r o ⟨rfl, rfl⟩
   refine .as rfl (.nt hK5 (.ret (.then_ret ?_)))
   refine AK.ret1 rfl rfl (fun w hw => ⟨_, _, ?_, rfl, Ret.of (hw.pick [] (by decide) rfl rfl)⟩)
   exact ⟨rfl, rfl⟩
  ·refine .skip ?_
   refine AK.then_ (hK2 _ ?_)
   refine .seq fun _ hK6 => ?_
   try (conv => enter [2, 2]; dsimp only [List.set_cons_zero, List.set_cons_succ, List.cons_append, List.nil_append])
   refine AK.held 13 mixed ?_
   refine HeldK.first 0 (fuel := 12) (listed' := (lb 13 1)) _ rfl krf krf rfl (Yl.loadBoxG ag25 rfl bsp rfl rfl) trivial rfl ?_
   refine HeldK.first 1 (fuel := 11) (listed' := (lb 13 3)) _ rfl krf krf rfl (Yl.loadBoxG ag25 rfl bsp rfl rfl) trivial rfl ?_
   refine HeldK.first 2 (fuel := 10) (listed' := (lb 13 7)) _ rfl krf krf rfl (Yl.move rfl) trivial rfl ?_
   refine HeldK.first 4 (fuel := 9) (listed' := (lb 13 23)) _ rfl krf krf rfl (Yl.loadBoxG ag25 rfl bsp rfl rfl) trivial rfl ?_
   refine HeldK.first 5 (fuel := 8) (listed' := (lb 13 55)) _ rfl krf krf rfl (Yl.loadBoxG ag25 rfl bsp rfl rfl) trivial rfl ?_
   refine HeldK.first 6 (fuel := 7) (listed' := (lb 13 119)) _ rfl krf krf rfl (Yl.move rfl) trivial rfl ?_
   refine HeldK.one 3 (fuel := 6) (listed' := (lb 13 127)) krf rfl krf ?_
   refine AK.call co21 rfl (fun w hw => s_check w _ _ a b (hu0.at hw) (hv0.at hw) vp p (RdI.at hp0 hw)) trivial rfl ?_
   rintro r o ⟨b1, rfl, hb1, rfl⟩
   refine .nil ?_
   try (conv => enter [2, 2]; dsimp only [List.set_cons_zero, List.set_cons_succ, List.cons_append, List.nil_append])
   refine HeldK.back hle ?_
   refine HeldK.one 7 (fuel := 5) (listed' := (lb 13 255)) krf rfl krf ?_
   refine AK.call co22 rfl (fun w hw => s_refcheck w _ _ a b (hu0.at hw) (hv0.at hw) vp p (RdI.at hp0 hw)) trivial rfl ?_
   rintro r o ⟨b2, rfl, hb2, rfl⟩
   refine .nil ?_
   try (conv => enter [2, 2]; dsimp only [List.set_cons_zero, List.set_cons_succ, List.cons_append, List.nil_append])
   refine HeldK.back hle ?_
   refine HeldK.first 8 (fuel := 4) (listed' := (lb 13 511)) _ rfl krf krf rfl (Yl.eqlB bo4 rfl rfl) trivial rfl ?_
   refine HeldK.first 9 (fuel := 3) (listed' := (lb 13 1023)) _ rfl krf krf rfl (Yl.move rfl) trivial rfl ?_
   refine HeldK.one 10 (fuel := 2) (listed' := (lb 13 2047)) krf rfl krf ?_
   refine AK.knownT (g := 27) rfl (by rw [show b1 = b2 from Bool.eq_iff_iff.2 (hb1.trans hb2.symm)]; exact beq_self_eq_true _) (fun hg_3_9 => ?_)
   refine AK.call co15 rfl (fun w hw => s_awake w) ⟨_, rfl, congrArg (fun b => some (Value.bool b)) hg_3_9⟩ rfl ?_
   rintro r o ⟨rfl, rfl⟩
   refine .nil ?_
   try (conv => enter [2, 2]; dsimp only [List.set_cons_zero, List.set_cons_succ, List.cons_append, List.nil_append])
   refine HeldK.back hle ?_
   refine HeldK.first 11 (fuel := 1) (listed' := (lb 13 4095)) _ rfl krf krf rfl (Yl.pickT rfl (hg_3_9) rfl) trivial rfl ?_
   refine HeldK.first 12 (fuel := 0) (listed' := (lb 13 8191)) _ rfl krf krf rfl (Yl.assign rfl) trivial rfl ?_
   refine HeldK.done krf ?_
   refine AK.then_ (hK6 _ ?_)
   refine .ret ?_
   refine AK.ret1 rfl rfl (fun w hw => ⟨_, _, ?_, rfl, Ret.of (hw.pick [] (by decide) rfl rfl)⟩)
   exact ⟨rfl, rfl⟩

set_option maxHeartbeats 2000000 in
set_option maxRecDepth 100000 in
theorem l_sound (w : World) (u v : Value) (a b : Dfa) (hu : RdD (fun _ => False) w u a) (hv : RdD (fun _ => False) w v b) (vp : Value) (p : List Int) (hp : RdI w vp p) (l : List UInt8) (hm : l.length ≤ 9223372036854775807) : CallS Try.prog 9 [u, v, vp, sv l] w (fun r o => r = .bool true ∧ o = []) := by
 have hu0 := hu
 obtain ⟨aF, aN, rfl, haF, haN⟩ := hu
 have haF0 := haF
 unfold RdL at haF
 have m1 := haF.le
 have hv0 := hv
 obtain ⟨bF, bN, rfl, hbF, hbN⟩ := hv
 have hbF0 := hbF
 unfold RdL at hbF
 have m2 := hbF.le
 have hp0 := hp
 unfold RdI at hp
 refine spec_of Try.func9 rfl (Nat.le_of_ble_eq_true rfl) ?_
 refine .sr fun _ hK1 => ?_
 refine AK.box_ (E := 25) (cs := [.int .i64 a.L, .int .i64 a.s, aF, aN]) rfl rfl rfl trivial rfl (fun bx4 => ?_)
 refine AK.box_ (E := 25) (cs := [.int .i64 b.L, .int .i64 b.s, bF, bN]) rfl rfl rfl trivial rfl (fun bx5 => ?_)
 refine .as rfl (.nt hK1 ?_)
 refine .seq fun _ hK2 => ?_
 refine .sr fun _ hK3 => ?_
 refine .v (.loadBoxG ag25 rfl bsp rfl rfl) ?_
 refine .v (.loadBoxG ag25 rfl bsp rfl rfl) ?_
 refine AK.call co20 rfl (fun w hw => s_both w _ _ a b (hu0.at hw) (hv0.at hw) 12) trivial rfl ?_
 rintro r o ⟨rfl, rfl⟩
 refine .v (.not rfl) ?_
 refine .mv rfl ?_
 refine AK.splitB (g := 17) rfl (fun hg_1_4 => ?_) (fun hg_1_4 => ?_)
 ·have hg_1_4' := hg_1_4
  try simp only [bs] at hg_1_4'
  refine AK.pass rfl rfl (hg_1_4) rfl ?_
  refine AK.pass rfl rfl (hg_1_4) rfl ?_
  refine AK.pass rfl rfl (hg_1_4) rfl ?_
  refine AK.pass rfl rfl (hg_1_4) rfl ?_
  refine AK.pass rfl rfl (hg_1_4) rfl ?_
  refine .v (.pickT rfl (hg_1_4) rfl) ?_
  refine .nt hK3 ?_
  refine AK.cond_t rfl (rfl) ?_
  refine .sr fun _ hK4 => ?_
  refine AK.call co15 rfl (fun w hw => s_awake w) trivial rfl ?_
  rintro r o ⟨rfl, rfl⟩
  refine .as rfl (.nt hK4 (.ret (.then_ret ?_)))
  refine AK.ret1 rfl rfl (fun w hw => ⟨_, _, ?_, rfl, Ret.of (hw.pick [] (by decide) rfl rfl)⟩)
  exact ⟨rfl, rfl⟩
 ·have hg_1_4' := hg_1_4
  try simp only [bs] at hg_1_4'
  refine AK.val _ (Yl.loadBoxG ag25 rfl bsp rfl rfl) ⟨_, rfl, congrArg (fun b => some (Value.bool b)) hg_1_4⟩ rfl ?_
  refine AK.val _ (Yl.loadBoxG ag25 rfl bsp rfl rfl) ⟨_, rfl, congrArg (fun b => some (Value.bool b)) hg_1_4⟩ rfl ?_
  refine AK.val _ (Yl.move rfl) ⟨_, rfl, congrArg (fun b => some (Value.bool b)) hg_1_4⟩ rfl ?_
  refine AK.call co21 rfl (fun w hw => s_check w _ _ a b (hu0.at hw) (hv0.at hw) vp p (RdI.at hp0 hw)) ⟨_, rfl, congrArg (fun b => some (Value.bool b)) hg_1_4⟩ rfl ?_
  rintro r o ⟨b1, rfl, hb1, rfl⟩
  refine AK.val _ (Yl.not rfl) ⟨_, rfl, congrArg (fun b => some (Value.bool b)) hg_1_4⟩ rfl ?_
  refine .v (.pickF rfl (hg_1_4) rfl) ?_
  refine .nt hK3 ?_
  refine AK.condB rfl (fun hc0 => ?_) (fun hc0 => ?_)
  ·refine .sr fun _ hK5 => ?_
   refine AK.call co15 rfl (fun w hw => s_awake w) trivial rfl ?_
   rintro r o ⟨rfl, rfl⟩
   refine .as rfl (.nt hK5 (.ret (.then_ret ?_)))
   refine AK.ret1 rfl rfl (fun w hw => ⟨_, _, ?_, rfl, Ret.of (hw.pick [] (by decide) rfl rfl)⟩)
   exact ⟨rfl, rfl⟩
  ·obtain ⟨nla, nlb, hE⟩ : (a.fin.length : Int) ≤ 12 ∧ (b.fin.length : Int) ≤ 12 ∧ pairE a b = 0 := by simpa using hg_1_4'
   have hchk : ChkP a b p := hb1.1 (by simpa using hc0)
   obtain ⟨g1, g2, g3⟩ := chk_finest hchk
   obtain ⟨ha, hb, hL⟩ := pairE_zero hE
   refine .skip ?_
   refine AK.then_ (hK2 _ ?_)
   refine .sr fun _ hK6 => ?_
   refine .v (.loadBoxG ag25 rfl bsp rfl rfl) ?_
   refine .v (.loadBoxG ag25 rfl bsp rfl rfl) ?_
   refine AK.call co13 rfl (fun w hw => s_find w _ _ a b (hu0.at hw) (hv0.at hw)) trivial rfl ?_
   rintro r o ⟨pv, rfl, spv, rfl⟩
   refine .mv rfl ?_
   refine .v (.extract rfl rfl) ?_
   refine .v (.extract rfl rfl) ?_
   refine .v (.extract rfl rfl) ?_
   refine .v (.extract rfl rfl) ?_
   refine .as rfl (.as rfl (.as rfl (.as rfl (.nt hK6 ?_))))
   refine .seq fun _ hK7 => ?_
   try (conv => enter [2, 2]; dsimp only [List.set_cons_zero, List.set_cons_succ, List.cons_append, List.nil_append])
   refine AK.held 34 mixed ?_
   refine HeldK.first 0 (fuel := 33) (listed' := (lb 34 1)) _ rfl krf krf rfl (Yl.move rfl) trivial rfl ?_
   refine HeldK.first 1 (fuel := 32) (listed' := (lb 34 3)) _ rfl krf krf rfl (Yl.eql rfl rfl) trivial rfl ?_
   refine HeldK.first 2 (fuel := 31) (listed' := (lb 34 7)) _ rfl krf krf rfl (Yl.move rfl) trivial rfl ?_
   refine AK.knownT (g := 35) rfl (decide_eq_true hE) (fun hg_4_2 => ?_)
   refine HeldK.first 3 (fuel := 30) (listed' := (lb 34 15)) _ rfl krf krf rfl (Yl.move rfl) ⟨_, rfl, congrArg (fun b => some (Value.bool b)) hg_4_2⟩ rfl ?_
   refine HeldK.first 4 (fuel := 29) (listed' := (lb 34 31)) _ rfl krf krf rfl (Yl.pickT rfl (hg_4_2) rfl) trivial rfl ?_
   refine HeldK.first 5 (fuel := 28) (listed' := (lb 34 63)) _ rfl krf krf rfl (Yl.move rfl) trivial rfl ?_
   refine AK.knownT (g := 38) rfl (g1) (fun hg_4_5 => ?_)
   refine HeldK.first 6 (fuel := 27) (listed' := (lb 34 127)) _ rfl krf krf rfl (Yl.move rfl) ⟨_, rfl, congrArg (fun b => some (Value.bool b)) hg_4_5⟩ rfl ?_
   refine HeldK.first 7 (fuel := 26) (listed' := (lb 34 255)) _ rfl krf krf rfl (Yl.lenR sl26 rfl rdp) ⟨_, rfl, congrArg (fun b => some (Value.bool b)) hg_4_5⟩ rfl ?_
   refine HeldK.first 8 (fuel := 25) (listed' := (lb 34 511)) _ rfl krf krf rfl (Yl.move rfl) ⟨_, rfl, congrArg (fun b => some (Value.bool b)) hg_4_5⟩ rfl ?_
   refine HeldK.first 9 (fuel := 24) (listed' := (lb 34 1023)) _ rfl krf krf rfl (Yl.lenR sl26 rfl rdp) ⟨_, rfl, congrArg (fun b => some (Value.bool b)) hg_4_5⟩ rfl ?_
   refine HeldK.first 10 (fuel := 23) (listed' := (lb 34 2047)) _ rfl krf krf rfl (Yl.eql rfl rfl) ⟨_, rfl, congrArg (fun b => some (Value.bool b)) hg_4_5⟩ rfl ?_
   refine HeldK.first 11 (fuel := 22) (listed' := (lb 34 4095)) _ rfl krf krf rfl (Yl.pickT rfl (hg_4_5) rfl) trivial rfl ?_
   refine HeldK.first 12 (fuel := 21) (listed' := (lb 34 8191)) _ rfl krf krf rfl (Yl.move rfl) trivial rfl ?_
   refine AK.knownT (g := 45) rfl (decide_eq_true (by rw [g3])) (fun hg_4_12 => ?_)
   refine HeldK.first 13 (fuel := 20) (listed' := (lb 34 16383)) _ rfl krf krf rfl (Yl.move rfl) ⟨_, rfl, congrArg (fun b => some (Value.bool b)) hg_4_12⟩ rfl ?_
   refine HeldK.one 14 (fuel := 19) (listed' := (lb 34 32767)) krf rfl krf ?_
   refine AK.call co28 rfl (fun w hw => q_refvalid w pv (FindP a b) (RdI.own 2 hw rfl)) ⟨_, rfl, congrArg (fun b => some (Value.bool b)) hg_4_12⟩ rfl ?_
   rintro r o ⟨rfl, rfl⟩
   refine .nil ?_
   try (conv => enter [2, 2]; dsimp only [List.set_cons_zero, List.set_cons_succ, List.cons_append, List.nil_append])
   refine HeldK.back hle ?_
   refine HeldK.first 15 (fuel := 18) (listed' := (lb 34 65535)) _ rfl krf krf rfl (Yl.pickT rfl (hg_4_12) rfl) trivial rfl ?_
   refine HeldK.first 16 (fuel := 17) (listed' := (lb 34 131071)) _ rfl krf krf rfl (Yl.move rfl) trivial rfl ?_
   refine AK.knownT (g := 49) rfl (decide_eq_true findP_valid) (fun hg_4_16 => ?_)
   refine HeldK.first 17 (fuel := 16) (listed' := (lb 34 262143)) _ rfl krf krf rfl (Yl.move rfl) ⟨_, rfl, congrArg (fun b => some (Value.bool b)) hg_4_16⟩ rfl ?_
   refine HeldK.first 18 (fuel := 15) (listed' := (lb 34 524287)) _ rfl krf krf rfl (Yl.move rfl) ⟨_, rfl, congrArg (fun b => some (Value.bool b)) hg_4_16⟩ rfl ?_
   refine HeldK.one 19 (fuel := 14) (listed' := (lb 34 1048575)) krf rfl krf ?_
   refine AK.call co29 rfl (fun w hw => q_refrefines w pv vp (FindP a b) p (RdI.own 2 hw rfl) (RdI.at hp0 hw) g3) ⟨_, rfl, congrArg (fun b => some (Value.bool b)) hg_4_16⟩ rfl ?_
   rintro r o ⟨rfl, rfl⟩
   refine .nil ?_
   try (conv => enter [2, 2]; dsimp only [List.set_cons_zero, List.set_cons_succ, List.cons_append, List.nil_append])
   refine HeldK.back hle ?_
   refine HeldK.first 20 (fuel := 13) (listed' := (lb 34 2097151)) _ rfl krf krf rfl (Yl.pickT rfl (hg_4_16) rfl) trivial rfl ?_
   refine HeldK.first 21 (fuel := 12) (listed' := (lb 34 4194303)) _ rfl krf krf rfl (Yl.move rfl) trivial rfl ?_
   refine AK.knownT (g := 54) rfl (g2) (fun hg_4_21 => ?_)
   refine HeldK.first 22 (fuel := 11) (listed' := (lb 34 8388607)) _ rfl krf krf rfl (Yl.loadBoxG ag25 rfl bsp rfl rfl) ⟨_, rfl, congrArg (fun b => some (Value.bool b)) hg_4_21⟩ rfl ?_
   refine HeldK.first 23 (fuel := 10) (listed' := (lb 34 16777215)) _ rfl krf krf rfl (Yl.move rfl) ⟨_, rfl, congrArg (fun b => some (Value.bool b)) hg_4_21⟩ rfl ?_
   refine HeldK.first 25 (fuel := 9) (listed' := (lb 34 50331647)) _ rfl krf krf rfl (Yl.loadBoxG ag25 rfl bsp rfl rfl) ⟨_, rfl, congrArg (fun b => some (Value.bool b)) hg_4_21⟩ rfl ?_
   refine HeldK.first 26 (fuel := 8) (listed' := (lb 34 117440511)) _ rfl krf krf rfl (Yl.move rfl) ⟨_, rfl, congrArg (fun b => some (Value.bool b)) hg_4_21⟩ rfl ?_
   refine HeldK.one 24 (fuel := 7) (listed' := (lb 34 134217727)) krf rfl krf ?_
   refine AK.call co30 rfl (fun w hw => s_acc w _ a (hu0.at hw) l hm) ⟨_, rfl, congrArg (fun b => some (Value.bool b)) hg_4_21⟩ rfl ?_
   rintro r o ⟨rfl, rfl⟩
   refine .nil ?_
   try (conv => enter [2, 2]; dsimp only [List.set_cons_zero, List.set_cons_succ, List.cons_append, List.nil_append])
   refine HeldK.back hle ?_
   refine HeldK.one 27 (fuel := 6) (listed' := (lb 34 268435455)) krf rfl krf ?_
   refine AK.call co30 rfl (fun w hw => s_acc w _ b (hv0.at hw) l hm) ⟨_, rfl, congrArg (fun b => some (Value.bool b)) hg_4_21⟩ rfl ?_
   rintro r o ⟨rfl, rfl⟩
   refine .nil ?_
   try (conv => enter [2, 2]; dsimp only [List.set_cons_zero, List.set_cons_succ, List.cons_append, List.nil_append])
   refine HeldK.back hle ?_
   refine HeldK.first 28 (fuel := 5) (listed' := (lb 34 536870911)) _ rfl krf krf rfl (Yl.eqlB bo4 rfl rfl) ⟨_, rfl, congrArg (fun b => some (Value.bool b)) hg_4_21⟩ rfl ?_
   refine HeldK.first 29 (fuel := 4) (listed' := (lb 34 1073741823)) _ rfl krf krf rfl (Yl.pickT rfl (hg_4_21) rfl) trivial rfl ?_
   refine HeldK.first 30 (fuel := 3) (listed' := (lb 34 2147483647)) _ rfl krf krf rfl (Yl.move rfl) trivial rfl ?_
   refine HeldK.one 31 (fuel := 2) (listed' := (lb 34 4294967295)) krf rfl krf ?_
   refine AK.knownT (g := 63) rfl (by rw [hchk.lng.acc ha hb hL]; exact beq_self_eq_true _) (fun hg_4_30 => ?_)
   refine AK.call co15 rfl (fun w hw => s_awake w) ⟨_, rfl, congrArg (fun b => some (Value.bool b)) hg_4_30⟩ rfl ?_
   rintro r o ⟨rfl, rfl⟩
   refine .nil ?_
   try (conv => enter [2, 2]; dsimp only [List.set_cons_zero, List.set_cons_succ, List.cons_append, List.nil_append])
   refine HeldK.back hle ?_
   refine HeldK.first 32 (fuel := 1) (listed' := (lb 34 8589934591)) _ rfl krf krf rfl (Yl.pickT rfl (hg_4_30) rfl) trivial rfl ?_
   refine HeldK.first 33 (fuel := 0) (listed' := (lb 34 17179869183)) _ rfl krf krf rfl (Yl.assign rfl) trivial rfl ?_
   refine HeldK.done krf ?_
   refine AK.then_ (hK7 _ ?_)
   refine .ret ?_
   refine AK.ret1 rfl rfl (fun w hw => ⟨_, _, ?_, rfl, Ret.of (hw.pick [] (by decide) rfl rfl)⟩)
   exact ⟨rfl, rfl⟩

set_option maxHeartbeats 2000000 in
set_option maxRecDepth 100000 in
theorem l_decides (w : World) (u v : Value) (a b : Dfa) (hu : RdD (fun _ => False) w u a) (hv : RdD (fun _ => False) w v b) (l : List UInt8) (hm : l.length ≤ 9223372036854775807) : CallS Try.prog 10 [u, v, sv l] w (fun r o => r = .bool true ∧ o = []) := by
 have hu0 := hu
 obtain ⟨aF, aN, rfl, haF, haN⟩ := hu
 have haF0 := haF
 unfold RdL at haF
 have m1 := haF.le
 have hv0 := hv
 obtain ⟨bF, bN, rfl, hbF, hbN⟩ := hv
 have hbF0 := hbF
 unfold RdL at hbF
 have m2 := hbF.le
 refine spec_of Try.func10 rfl (Nat.le_of_ble_eq_true rfl) ?_
 refine .sr fun _ hK1 => ?_
 refine AK.box_ (E := 25) (cs := [.int .i64 a.L, .int .i64 a.s, aF, aN]) rfl rfl rfl trivial rfl (fun bx3 => ?_)
 refine AK.box_ (E := 25) (cs := [.int .i64 b.L, .int .i64 b.s, bF, bN]) rfl rfl rfl trivial rfl (fun bx4 => ?_)
 refine .as rfl (.nt hK1 ?_)
 refine .seq fun _ hK2 => ?_
 refine .sr fun _ hK3 => ?_
 refine .v (.loadBoxG ag25 rfl bsp rfl rfl) ?_
 refine .v (.loadBoxG ag25 rfl bsp rfl rfl) ?_
 refine AK.call co20 rfl (fun w hw => s_both w _ _ a b (hu0.at hw) (hv0.at hw) 12) trivial rfl ?_
 rintro r o ⟨rfl, rfl⟩
 refine .v (.not rfl) ?_
 refine .nt hK3 ?_
 refine AK.condB rfl (fun hc0 => ?_) (fun hc0 => ?_)
 ·refine .sr fun _ hK4 => ?_
  refine AK.call co15 rfl (fun w hw => s_awake w) trivial rfl ?_
  rintro r o ⟨rfl, rfl⟩
  refine .as rfl (.nt hK4 (.ret (.then_ret ?_)))
  refine AK.ret1 rfl rfl (fun w hw => ⟨_, _, ?_, rfl, Ret.of (hw.pick [] (by decide) rfl rfl)⟩)
  exact ⟨rfl, rfl⟩
 ·obtain ⟨nla, nlb, hE⟩ : (a.fin.length : Int) ≤ 12 ∧ (b.fin.length : Int) ≤ 12 ∧ pairE a b = 0 := by simpa using hc0
  obtain ⟨d1, d2⟩ := decide_facts hE (by omega)
  refine .skip ?_
  refine AK.then_ (hK2 _ ?_)
  refine .sr fun _ hK5 => ?_
  refine .v (.loadBoxG ag25 rfl bsp rfl rfl) ?_
  refine .v (.loadBoxG ag25 rfl bsp rfl rfl) ?_
  refine AK.call co13 rfl (fun w hw => s_find w _ _ a b (hu0.at hw) (hv0.at hw)) trivial rfl ?_
  rintro r o ⟨pv, rfl, spv, rfl⟩
  refine .mv rfl ?_
  refine .v (.extract rfl rfl) ?_
  refine .v (.extract rfl rfl) ?_
  refine .v (.extract rfl rfl) ?_
  refine .v (.extract rfl rfl) ?_
  refine .as rfl (.as rfl (.as rfl (.as rfl (.nt hK5 ?_))))
  refine .seq fun _ hK6 => ?_
  refine .sr fun _ hK7 => ?_
  refine .mv rfl ?_
  refine .v (.neq rfl rfl) ?_
  refine .nt hK7 ?_
  refine AK.cond_f rfl (decide_eq_false (fun h => h hE)) ?_
  refine .skip ?_
  refine AK.then_ (hK6 _ ?_)
  refine .seq fun _ hK8 => ?_
  try (conv => enter [2, 2]; dsimp only [List.set_cons_zero, List.set_cons_succ, List.cons_append, List.nil_append])
  refine AK.held 8 mixed ?_
  refine HeldK.first 0 (fuel := 7) (listed' := (lb 8 1)) _ rfl krf krf rfl (Yl.loadBoxG ag25 rfl bsp rfl rfl) trivial rfl ?_
  refine HeldK.first 1 (fuel := 6) (listed' := (lb 8 3)) _ rfl krf krf rfl (Yl.move rfl) trivial rfl ?_
  refine HeldK.first 3 (fuel := 5) (listed' := (lb 8 11)) _ rfl krf krf rfl (Yl.loadBoxG ag25 rfl bsp rfl rfl) trivial rfl ?_
  refine HeldK.first 4 (fuel := 4) (listed' := (lb 8 27)) _ rfl krf krf rfl (Yl.move rfl) trivial rfl ?_
  refine HeldK.one 2 (fuel := 3) (listed' := (lb 8 31)) krf rfl krf ?_
  refine AK.call co30 rfl (fun w hw => s_acc w _ a (hu0.at hw) l hm) trivial rfl ?_
  rintro r o ⟨rfl, rfl⟩
  refine .nil ?_
  try (conv => enter [2, 2]; dsimp only [List.set_cons_zero, List.set_cons_succ, List.cons_append, List.nil_append])
  refine HeldK.back hle ?_
  refine HeldK.one 5 (fuel := 2) (listed' := (lb 8 63)) krf rfl krf ?_
  refine AK.call co30 rfl (fun w hw => s_acc w _ b (hv0.at hw) l hm) trivial rfl ?_
  rintro r o ⟨rfl, rfl⟩
  refine .nil ?_
  try (conv => enter [2, 2]; dsimp only [List.set_cons_zero, List.set_cons_succ, List.cons_append, List.nil_append])
  refine HeldK.back hle ?_
  refine HeldK.first 6 (fuel := 1) (listed' := (lb 8 127)) _ rfl krf krf rfl (Yl.neqB bo4 rfl rfl) trivial rfl ?_
  refine HeldK.first 7 (fuel := 0) (listed' := (lb 8 255)) _ rfl krf krf rfl (Yl.assign rfl) trivial rfl ?_
  refine HeldK.done krf ?_
  refine AK.then_ (hK8 _ ?_)
  refine .seq fun _ hK9 => ?_
  refine .sr fun _ hK10 => ?_
  refine .mv rfl (.nt hK10 ?_)
  refine AK.cond rfl (fun hc2 => ?_) (fun hc2 => ?_)
  ·try simp only [bs] at hc2
   obtain ⟨t1, t2⟩ := d1 hc2
   refine .sr fun _ hK11 => ?_
   refine .v (.loadBoxG ag25 rfl bsp rfl rfl) ?_
   refine .v (.loadBoxG ag25 rfl bsp rfl rfl) ?_
   refine .mv rfl ?_
   refine AK.call co21 rfl (fun w hw => s_check w _ _ a b (hu0.at hw) (hv0.at hw) pv (FindP a b) (RdI.own 2 hw rfl)) trivial rfl ?_
   rintro r o ⟨b1, rfl, hb1, rfl⟩
   refine .mv rfl ?_
   refine AK.knownT (g := 39) rfl (hb1.2 t1) (fun hg_8_4 => ?_)
   refine AK.val _ (Yl.move rfl) ⟨_, rfl, congrArg (fun b => some (Value.bool b)) hg_8_4⟩ rfl ?_
   refine AK.val _ (Yl.not rfl) ⟨_, rfl, congrArg (fun b => some (Value.bool b)) hg_8_4⟩ rfl ?_
   refine .v (.pickT rfl (hg_8_4) rfl) ?_
   refine .mv rfl ?_
   refine AK.knownT (g := 43) rfl (by rw [t2 l]; simp) (fun hg_8_8 => ?_)
   refine AK.call co15 rfl (fun w hw => s_awake w) ⟨_, rfl, congrArg (fun b => some (Value.bool b)) hg_8_8⟩ rfl ?_
   rintro r o ⟨rfl, rfl⟩
   refine .v (.pickT rfl (hg_8_8) rfl) ?_
   refine .as rfl (.nt hK11 (.ret (.then_ret ?_)))
   refine AK.ret1 rfl rfl (fun w hw => ⟨_, _, ?_, rfl, Ret.of (hw.pick [] (by decide) rfl rfl)⟩)
   exact ⟨rfl, rfl⟩
  ·try simp only [bs] at hc2
   obtain ⟨t1, t2, t3⟩ := d2 hc2
   refine .skip ?_
   refine AK.then_ (hK9 _ ?_)
   refine .seq fun _ hK12 => ?_
   refine .seq fun _ hK13 => ?_
   try (conv => enter [2, 2]; dsimp only [List.set_cons_zero, List.set_cons_succ, List.cons_append, List.nil_append])
   refine AK.held 19 mixed ?_
   refine HeldK.first 0 (fuel := 18) (listed' := (lb 19 1)) _ rfl krf krf rfl (Yl.loadBoxG ag25 rfl bsp rfl rfl) trivial rfl ?_
   refine HeldK.first 1 (fuel := 17) (listed' := (lb 19 3)) _ rfl krf krf rfl (Yl.move rfl) trivial rfl ?_
   refine HeldK.first 3 (fuel := 16) (listed' := (lb 19 11)) _ rfl krf krf rfl (Yl.loadBoxG ag25 rfl bsp rfl rfl) trivial rfl ?_
   refine HeldK.first 4 (fuel := 15) (listed' := (lb 19 27)) _ rfl krf krf rfl (Yl.move rfl) trivial rfl ?_
   refine HeldK.one 2 (fuel := 14) (listed' := (lb 19 31)) krf rfl krf ?_
   refine AK.call co30 rfl (fun w hw => s_acc w _ a (hu0.at hw) (FindW a b) (by omega)) trivial rfl ?_
   rintro r o ⟨rfl, rfl⟩
   refine .nil ?_
   try (conv => enter [2, 2]; dsimp only [List.set_cons_zero, List.set_cons_succ, List.cons_append, List.nil_append])
   refine HeldK.back hle ?_
   refine HeldK.one 5 (fuel := 13) (listed' := (lb 19 63)) krf rfl krf ?_
   refine AK.call co30 rfl (fun w hw => s_acc w _ b (hv0.at hw) (FindW a b) (by omega)) trivial rfl ?_
   rintro r o ⟨rfl, rfl⟩
   refine .nil ?_
   try (conv => enter [2, 2]; dsimp only [List.set_cons_zero, List.set_cons_succ, List.cons_append, List.nil_append])
   refine HeldK.back hle ?_
   refine HeldK.first 6 (fuel := 12) (listed' := (lb 19 127)) _ rfl krf krf rfl (Yl.eqlB bo4 rfl rfl) trivial rfl ?_
   refine HeldK.first 7 (fuel := 11) (listed' := (lb 19 255)) _ rfl krf krf rfl (Yl.move rfl) trivial rfl ?_
   refine AK.knownF (g := 53) rfl (beq_eq_false_iff_ne.2 t1) (fun hg_9_7 => ?_)
   refine HeldK.first 8 (fuel := 10) (listed' := (lb 19 511)) _ rfl krf krf rfl (Yl.move rfl) ⟨_, rfl, congrArg (fun b => some (Value.bool b)) hg_9_7⟩ rfl ?_
   refine HeldK.first 9 (fuel := 9) (listed' := (lb 19 1023)) _ rfl krf krf rfl (Yl.lenS un9 rfl) ⟨_, rfl, congrArg (fun b => some (Value.bool b)) hg_9_7⟩ rfl ?_
   refine HeldK.first 10 (fuel := 8) (listed' := (lb 19 2047)) _ rfl krf krf rfl (Yl.fieldAddr fd25_2 rfl) ⟨_, rfl, congrArg (fun b => some (Value.bool b)) hg_9_7⟩ rfl ?_
   refine HeldK.first 11 (fuel := 7) (listed' := (lb 19 4095)) _ rfl krf krf rfl (Yl.loadBox on22 rfl bsp rfl) ⟨_, rfl, congrArg (fun b => some (Value.bool b)) hg_9_7⟩ rfl ?_
   refine HeldK.first 12 (fuel := 6) (listed' := (lb 19 8191)) _ rfl krf krf rfl (Yl.lenR sl22 rfl rdp) ⟨_, rfl, congrArg (fun b => some (Value.bool b)) hg_9_7⟩ rfl ?_
   refine HeldK.first 13 (fuel := 5) (listed' := (lb 19 16383)) _ rfl krf krf rfl (Yl.fieldAddr fd25_2 rfl) ⟨_, rfl, congrArg (fun b => some (Value.bool b)) hg_9_7⟩ rfl ?_
   refine HeldK.first 14 (fuel := 4) (listed' := (lb 19 32767)) _ rfl krf krf rfl (Yl.loadBox on22 rfl bsp rfl) ⟨_, rfl, congrArg (fun b => some (Value.bool b)) hg_9_7⟩ rfl ?_
   refine HeldK.first 15 (fuel := 3) (listed' := (lb 19 65535)) _ rfl krf krf rfl (Yl.lenR sl22 rfl rdp) ⟨_, rfl, congrArg (fun b => some (Value.bool b)) hg_9_7⟩ rfl ?_
   refine HeldK.first 16 (fuel := 2) (listed' := (lb 19 131071)) _ rfl krf krf rfl (Yl.add rfl rfl (by omega)) ⟨_, rfl, congrArg (fun b => some (Value.bool b)) hg_9_7⟩ rfl ?_
   refine HeldK.first 17 (fuel := 1) (listed' := (lb 19 262143)) _ rfl krf krf rfl (Yl.geq rfl rfl) ⟨_, rfl, congrArg (fun b => some (Value.bool b)) hg_9_7⟩ rfl ?_
   refine HeldK.first 18 (fuel := 0) (listed' := (lb 19 524287)) _ rfl krf krf rfl (Yl.pickF rfl (hg_9_7) rfl) trivial rfl ?_
   refine HeldK.done krf ?_
   refine AK.then_ (hK13 _ ?_)
   refine AK.cond_f rfl (decide_eq_false (by omega)) ?_
   refine .skip ?_
   refine AK.then_ (hK12 _ ?_)
   refine .sr fun _ hK14 => ?_
   refine .mv rfl (.mv rfl ?_)
   refine AK.splitB (g := 66) rfl (fun hg_11_1 => ?_) (fun hg_11_1 => ?_)
   ·have hg_11_1' := hg_11_1
    try simp only [bs] at hg_11_1'
    refine AK.val _ (Yl.move rfl) ⟨_, rfl, congrArg (fun b => some (Value.bool b)) hg_11_1⟩ rfl ?_
    refine AK.val _ (Yl.move rfl) ⟨_, rfl, congrArg (fun b => some (Value.bool b)) hg_11_1⟩ rfl ?_
    refine AK.call co31 rfl (fun w hw => s_compare w _ _) ⟨_, rfl, congrArg (fun b => some (Value.bool b)) hg_11_1⟩ rfl ?_
    rintro r o ⟨rfl, rfl⟩
    refine AK.val _ (Yl.lss rfl rfl) ⟨_, rfl, congrArg (fun b => some (Value.bool b)) hg_11_1⟩ rfl ?_
    refine .v (.pickT rfl (hg_11_1) rfl) ?_
    refine .v (.not rfl) ?_
    refine .mv rfl ?_
    refine AK.knownT (g := 73) rfl (by first | rfl | (rw [decide_eq_false (t3 l (by simpa using hg_11_1))]; rfl)) (fun hg_11_8 => ?_)
    refine AK.call co15 rfl (fun w hw => s_awake w) ⟨_, rfl, congrArg (fun b => some (Value.bool b)) hg_11_8⟩ rfl ?_
    rintro r o ⟨rfl, rfl⟩
    refine .v (.pickT rfl (hg_11_8) rfl) ?_
    refine .as rfl (.nt hK14 (.ret ?_))
    refine AK.ret1 rfl rfl (fun w hw => ⟨_, _, ?_, rfl, Ret.of (hw.pick [] (by decide) rfl rfl)⟩)
    exact ⟨rfl, rfl⟩
   ·have hg_11_1' := hg_11_1
    try simp only [bs] at hg_11_1'
    refine AK.pass rfl rfl (hg_11_1) rfl ?_
    refine AK.pass rfl rfl (hg_11_1) rfl ?_
    refine AK.pass rfl rfl (hg_11_1) rfl ?_
    refine AK.pass rfl rfl (hg_11_1) rfl ?_
    refine .v (.pickF rfl (hg_11_1) rfl) ?_
    refine .v (.not rfl) ?_
    refine .mv rfl ?_
    refine AK.call co15 rfl (fun w hw => s_awake w) ⟨_, rfl, rfl⟩ rfl ?_
    rintro r o ⟨rfl, rfl⟩
    refine .v (.pickT rfl (rfl) rfl) ?_
    refine .as rfl (.nt hK14 (.ret ?_))
    refine AK.ret1 rfl rfl (fun w hw => ⟨_, _, ?_, rfl, Ret.of (hw.pick [] (by decide) rfl rfl)⟩)
    exact ⟨rfl, rfl⟩

set_option maxHeartbeats 2000000 in
set_option maxRecDepth 100000 in
theorem l_turned (w : World) (v : Value) (d : Dfa) (h : RdD (fun _ => False) w v d) (pa tt : Int) (hpa : -9223372036854775808 ≤ pa ∧ pa ≤ 9223372036854775807) (htt : -9223372036854775808 ≤ tt ∧ tt ≤ 9223372036854775807) : CallS Try.prog 12 [v, .int .i64 pa, .int .i64 tt] w (fun r o => r = .bool true ∧ o = []) := by
 have h0 := h
 obtain ⟨vF, vN, rfl, hF, hN⟩ := h
 have hF0 := hF
 have hN0 := hN
 obtain ⟨rs, hrl, hNr, hNi⟩ := hN
 have sF := hF.sl
 have sN := hNr.sl
 have hmf := hF.le
 have hmn := hNr.le
 unfold RdL at hF
 refine spec_of Try.func12 rfl (Nat.le_of_ble_eq_true rfl) ?_
 refine .sr fun _ hK1 => ?_
 refine AK.box_ (E := 25) (cs := [.int .i64 d.L, .int .i64 d.s, vF, vN]) rfl rfl rfl trivial rfl (fun bx3 => ?_)
 refine .as rfl (.nt hK1 ?_)
 refine .seq fun _ hK2 => ?_
 refine .sr fun _ hK3 => ?_
 refine .v (.fieldAddr fd25_2 rfl) ?_
 refine .v (.loadBox on22 rfl bsp rfl) ?_
 refine .v (.lenR sl22 rfl rdp) ?_
 refine .v (.gtr rfl rfl) ?_
 refine .mv rfl ?_
 refine AK.splitB (g := 17) rfl (fun hg_1_4 => ?_) (fun hg_1_4 => ?_)
 ·have hg_1_4' := hg_1_4
  try simp only [bs] at hg_1_4'
  refine AK.pass rfl rfl (hg_1_4) rfl ?_
  refine AK.pass rfl rfl (hg_1_4) rfl ?_
  refine AK.pass rfl rfl (hg_1_4) rfl ?_
  refine .v (.pickT rfl (hg_1_4) rfl) ?_
  refine .nt hK3 ?_
  refine AK.cond_t rfl (rfl) ?_
  refine .sr fun _ hK4 => ?_
  refine AK.call co15 rfl (fun w hw => s_awake w) trivial rfl ?_
  rintro r o ⟨rfl, rfl⟩
  refine .as rfl (.nt hK4 (.ret (.then_ret ?_)))
  refine AK.ret1 rfl rfl (fun w hw => ⟨_, _, ?_, rfl, Ret.of (hw.pick [] (by decide) rfl rfl)⟩)
  exact ⟨rfl, rfl⟩
 ·have hg_1_4' := hg_1_4
  try simp only [bs] at hg_1_4'
  refine AK.val _ (Yl.loadBoxG ag25 rfl bsp rfl rfl) ⟨_, rfl, congrArg (fun b => some (Value.bool b)) hg_1_4⟩ rfl ?_
  refine AK.call co26 rfl (fun w hw => s_refvalidate w _ d (h0.at hw)) ⟨_, rfl, congrArg (fun b => some (Value.bool b)) hg_1_4⟩ rfl ?_
  rintro r o ⟨rfl, rfl⟩
  refine AK.val _ (Yl.neq rfl rfl) ⟨_, rfl, congrArg (fun b => some (Value.bool b)) hg_1_4⟩ rfl ?_
  refine .v (.pickF rfl (hg_1_4) rfl) ?_
  refine .nt hK3 ?_
  refine AK.condNe rfl (fun hc0 => ?_) (fun hc0 => ?_)
  ·refine .sr fun _ hK5 => ?_
   refine AK.call co15 rfl (fun w hw => s_awake w) trivial rfl ?_
   rintro r o ⟨rfl, rfl⟩
   refine .as rfl (.nt hK5 (.ret (.then_ret ?_)))
   refine AK.ret1 rfl rfl (fun w hw => ⟨_, _, ?_, rfl, Ret.of (hw.pick [] (by decide) rfl rfl)⟩)
   exact ⟨rfl, rfl⟩
  ·have hvd : VD d := (errV_iff d).1 (by omega)
   have hn12 : d.fin.length ≤ 12 := by omega
   obtain ⟨e1, e2, e3, e4, e5⟩ := turned_facts hvd hn12
   have hds := hvd.s
   have hml := min_len hvd
   obtain ⟨i1, ei1, hi1, hp1, hq1⟩ := idx_ok pa (n := (FindP d (minD d)).length) (by omega)
   obtain ⟨i2, ei2, hi2, hp2, hq2⟩ := idx_ok tt (n := (FindP d (minD d)).length) (by omega)
   refine .skip ?_
   refine AK.then_ (hK2 _ ?_)
   refine .sr fun _ hK6 => ?_
   refine .v (.loadBoxG ag25 rfl bsp rfl rfl) ?_
   refine AK.call co32 rfl (fun w hw => s_min w _ d (h0.at hw)) trivial rfl ?_
   rintro r o ⟨mF, mN, mrs, rfl, hmrs, smF, smN, rfl⟩
   rw [e1] at hmrs
   rw [e1]
   refine AK.alloc el25 rfl rfl trivial rfl (fun bx7 => ?_)
   refine AK.storeBox 4 (us := [.int .i64 (minD d).L, .int .i64 (minD d).s, mF, mN]) (cs' := [.int .i64 (minD d).L, .int .i64 (minD d).s, mF, mN]) rfl sz25 rfl rfl rfl rfl oneP (Nat.le_of_ble_eq_true rfl) rfl trivial ?_
   refine .nt hK6 ?_
   refine .sr fun _ hK7 => ?_
   refine .v (.loadBoxG ag25 rfl bsp rfl rfl) ?_
   refine .v (.loadBoxG ag25 rfl bsp rfl rfl) ?_
   refine AK.call co13 rfl (fun w hw => s_find w _ _ d (minD d) (h0.at hw) (RdD.own 1 hw hmrs rfl rfl rfl)) trivial rfl ?_
   rintro r o ⟨pv, rfl, spv, rfl⟩
   refine .mv rfl ?_
   refine .v (.extract rfl rfl) ?_
   refine .v (.extract rfl rfl) ?_
   refine .v (.extract rfl rfl) ?_
   refine .v (.extract rfl rfl) ?_
   refine .as rfl (.as rfl (.as rfl (.as rfl (.nt hK7 ?_))))
   refine .seq fun _ hK8 => ?_
   refine .sr fun _ hK9 => ?_
   refine .mv rfl ?_
   refine .v (.neq rfl rfl) ?_
   refine .mv rfl ?_
   refine AK.knownF (g := 35) rfl (decide_eq_false (fun h => h e2)) (fun hg_5_2 => ?_)
   refine AK.val _ (Yl.move rfl) ⟨_, rfl, congrArg (fun b => some (Value.bool b)) hg_5_2⟩ rfl ?_
   refine AK.val _ (Yl.not rfl) ⟨_, rfl, congrArg (fun b => some (Value.bool b)) hg_5_2⟩ rfl ?_
   refine .v (.pickF rfl (hg_5_2) rfl) ?_
   refine .mv rfl ?_
   refine AK.knownF (g := 39) rfl (by rw [e3]; rfl) (fun hg_5_6 => ?_)
   refine AK.val _ (Yl.move rfl) ⟨_, rfl, congrArg (fun b => some (Value.bool b)) hg_5_6⟩ rfl ?_
   refine AK.val _ (Yl.lenR sl26 rfl rdp) ⟨_, rfl, congrArg (fun b => some (Value.bool b)) hg_5_6⟩ rfl ?_
   refine AK.val _ (Yl.fieldAddr fd25_2 rfl) ⟨_, rfl, congrArg (fun b => some (Value.bool b)) hg_5_6⟩ rfl ?_
   refine AK.val _ (Yl.loadBox on22 rfl bsp rfl) ⟨_, rfl, congrArg (fun b => some (Value.bool b)) hg_5_6⟩ rfl ?_
   refine AK.val _ (Yl.lenR sl22 rfl rdp) ⟨_, rfl, congrArg (fun b => some (Value.bool b)) hg_5_6⟩ rfl ?_
   refine AK.val _ (Yl.fieldAddr fd25_2 rfl) ⟨_, rfl, congrArg (fun b => some (Value.bool b)) hg_5_6⟩ rfl ?_
   refine AK.val _ (Yl.loadBox on22 rfl bsp rfl) ⟨_, rfl, congrArg (fun b => some (Value.bool b)) hg_5_6⟩ rfl ?_
   refine AK.val _ (Yl.lenR sl22 rfl rdp) ⟨_, rfl, congrArg (fun b => some (Value.bool b)) hg_5_6⟩ rfl ?_
   refine AK.val _ (Yl.add rfl rfl (by omega)) ⟨_, rfl, congrArg (fun b => some (Value.bool b)) hg_5_6⟩ rfl ?_
   refine AK.val _ (Yl.neq rfl rfl) ⟨_, rfl, congrArg (fun b => some (Value.bool b)) hg_5_6⟩ rfl ?_
   refine .v (.pickF rfl (hg_5_6) rfl) ?_
   refine .mv rfl ?_
   refine AK.knownF (g := 51) rfl (decide_eq_false (by omega)) (fun hg_5_18 => ?_)
   refine AK.val _ (Yl.loadBoxG ag25 rfl bsp rfl rfl) ⟨_, rfl, congrArg (fun b => some (Value.bool b)) hg_5_18⟩ rfl ?_
   refine AK.val _ (Yl.loadBoxG ag25 rfl bsp rfl rfl) ⟨_, rfl, congrArg (fun b => some (Value.bool b)) hg_5_18⟩ rfl ?_
   refine AK.val _ (Yl.move rfl) ⟨_, rfl, congrArg (fun b => some (Value.bool b)) hg_5_18⟩ rfl ?_
   refine AK.call co21 rfl (fun w hw => s_check w _ _ d (minD d) (h0.at hw) (RdD.own 1 hw hmrs rfl rfl rfl) pv (FindP d (minD d)) (RdI.own 5 hw rfl)) ⟨_, rfl, congrArg (fun b => some (Value.bool b)) hg_5_18⟩ rfl ?_
   rintro r o ⟨b0, rfl, hb0, rfl⟩
   refine AK.val _ (Yl.not rfl) ⟨_, rfl, congrArg (fun b => some (Value.bool b)) hg_5_18⟩ rfl ?_
   refine .v (.pickF rfl (hg_5_18) rfl) ?_
   refine .nt hK9 ?_
   refine AK.cond_f rfl (by rw [hb0.2 e5]; rfl) ?_
   refine .skip ?_
   refine AK.then_ (hK8 _ ?_)
   refine .sr fun _ hK10 => ?_
   refine AK.lit (xs := []) sl26 el3 rfl rfl rfl (by intro a ha; cases ha) (by decide) (by decide) trivial rfl (fun t58 => ?_)
   refine .mv rfl ?_
   refine AK.appendS 6 rfl sl26 el3 rfl (by decide) rfl rfl rfl rdp (one'_map _ (fun _ => rfl) _) (by omega) (by omega) trivial rfl (fun qv => ?_)
   refine .as rfl (.nt hK10 ?_)
   refine .seq fun _ hK11 => ?_
   refine AK.stillTail 22 mixed krf (fun _ hws => ?_)
   refine .v hws (.move rfl) ?_
   refine .v hws (.move rfl) ?_
   refine .v hws (.move rfl) ?_
   refine SK.val hws (.int .i64 (((FindP d (minD d)).length : Nat) : Int)) (Yl.valE (Yl.lenR sl26 rfl rdp) (by simp)) trivial rfl ?_
   refine .v hws (.remT rfl rfl hpa (by omega)) ?_
   refine .v hws (.move rfl) ?_
   refine SK.val hws (.int .i64 (((FindP d (minD d)).length : Nat) : Int)) (Yl.valE (Yl.lenR sl26 rfl rdp) (by simp)) trivial rfl ?_
   refine .v hws (.add rfl rfl (by omega)) ?_
   refine .v hws (.move rfl) ?_
   refine SK.val hws (.int .i64 (((FindP d (minD d)).length : Nat) : Int)) (Yl.valE (Yl.lenR sl26 rfl rdp) (by simp)) trivial rfl ?_
   refine SK.val hws (.int .i64 (i1 : Int)) (Yl.valE (Yl.rem rfl rfl (by omega) (by omega)) (congrArg (Value.int .i64) ei1)) trivial rfl ?_
   refine .v hws (.move rfl) ?_
   refine .v hws (.move rfl) ?_
   refine SK.val hws (.int .i64 (((FindP d (minD d)).length : Nat) : Int)) (Yl.valE (Yl.lenR sl26 rfl rdp) (by simp)) trivial rfl ?_
   refine .v hws (.remT rfl rfl htt (by omega)) ?_
   refine .v hws (.move rfl) ?_
   refine SK.val hws (.int .i64 (((FindP d (minD d)).length : Nat) : Int)) (Yl.valE (Yl.lenR sl26 rfl rdp) (by simp)) trivial rfl ?_
   refine .v hws (.add rfl rfl (by omega)) ?_
   refine .v hws (.move rfl) ?_
   refine SK.val hws (.int .i64 (((FindP d (minD d)).length : Nat) : Int)) (Yl.valE (Yl.lenR sl26 rfl rdp) (by simp)) trivial rfl ?_
   refine SK.val hws (.int .i64 (i2 : Int)) (Yl.valE (Yl.rem rfl rfl (by omega) (by omega)) (congrArg (Value.int .i64) ei2)) trivial rfl ?_
   first | refine .v hws (.iN sl26 rfl rfl (h0 := (by simp; omega))) ?_ | refine .v hws (.iK sl26 rfl rfl (h0 := (by simp; omega))) ?_
   refine SK.nil (SK.fin hws ?_)
   refine AK.store1e 6 rfl sz3 rfl rfl rfl rfl (by simp; omega) (cs' := (((FindP d (minD d)).set i1 (i2 : Int)).map (Value.int .i64))) (by rw [List.map_set]; rfl) trivial ?_
   refine .nt hK11 ?_
   refine .sr fun _ hK12 => ?_
   refine .mv rfl ?_
   refine AK.call co34 rfl (fun w hw => q_refcanon w qv ((FindP d (minD d)).set i1 (i2 : Int)) (RdI.ownE 6 hw rfl (by rw [List.length_set]; simp) rfl)) trivial rfl ?_
   rintro cv o rfl
   refine .as rfl (.nt hK12 ?_)
   refine .seq fun _ hK13 => ?_
   try (conv => enter [2, 2]; dsimp only [List.set_cons_zero, List.set_cons_succ, List.cons_append, List.nil_append])
   refine AK.held 13 mixed ?_
   refine HeldK.first 0 (fuel := 12) (listed' := (lb 13 1)) _ rfl krf krf rfl (Yl.loadBoxG ag25 rfl bsp rfl rfl) trivial rfl ?_
   refine HeldK.first 1 (fuel := 11) (listed' := (lb 13 3)) _ rfl krf krf rfl (Yl.loadBoxG ag25 rfl bsp rfl rfl) trivial rfl ?_
   refine HeldK.first 2 (fuel := 10) (listed' := (lb 13 7)) _ rfl krf krf rfl (Yl.move rfl) trivial rfl ?_
   refine HeldK.first 4 (fuel := 9) (listed' := (lb 13 23)) _ rfl krf krf rfl (Yl.loadBoxG ag25 rfl bsp rfl rfl) trivial rfl ?_
   refine HeldK.first 5 (fuel := 8) (listed' := (lb 13 55)) _ rfl krf krf rfl (Yl.loadBoxG ag25 rfl bsp rfl rfl) trivial rfl ?_
   refine HeldK.first 6 (fuel := 7) (listed' := (lb 13 119)) _ rfl krf krf rfl (Yl.move rfl) trivial rfl ?_
   refine HeldK.one 3 (fuel := 6) (listed' := (lb 13 127)) krf rfl krf ?_
   refine AK.call co21 rfl (fun w hw => s_check w _ _ d (minD d) (h0.at hw) (RdD.own 1 hw hmrs rfl rfl rfl) cv (canonB ((FindP d (minD d)).set i1 (i2 : Int))) (RdI.own 7 hw rfl)) trivial rfl ?_
   rintro r o ⟨b1, rfl, hb1, rfl⟩
   refine .nil ?_
   try (conv => enter [2, 2]; dsimp only [List.set_cons_zero, List.set_cons_succ, List.cons_append, List.nil_append])
   refine HeldK.back hle ?_
   refine HeldK.one 7 (fuel := 5) (listed' := (lb 13 255)) krf rfl krf ?_
   refine AK.call co22 rfl (fun w hw => s_refcheck w _ _ d (minD d) (h0.at hw) (RdD.own 1 hw hmrs rfl rfl rfl) cv (canonB ((FindP d (minD d)).set i1 (i2 : Int))) (RdI.own 7 hw rfl)) trivial rfl ?_
   rintro r o ⟨b2, rfl, hb2, rfl⟩
   refine .nil ?_
   try (conv => enter [2, 2]; dsimp only [List.set_cons_zero, List.set_cons_succ, List.cons_append, List.nil_append])
   refine HeldK.back hle ?_
   refine HeldK.first 8 (fuel := 4) (listed' := (lb 13 511)) _ rfl krf krf rfl (Yl.eqlB bo4 rfl rfl) trivial rfl ?_
   refine HeldK.first 9 (fuel := 3) (listed' := (lb 13 1023)) _ rfl krf krf rfl (Yl.move rfl) trivial rfl ?_
   refine HeldK.one 10 (fuel := 2) (listed' := (lb 13 2047)) krf rfl krf ?_
   refine AK.knownT (g := 94) rfl (by rw [show b1 = b2 from Bool.eq_iff_iff.2 (hb1.trans hb2.symm)]; exact beq_self_eq_true _) (fun hg_10_9 => ?_)
   refine AK.call co15 rfl (fun w hw => s_awake w) ⟨_, rfl, congrArg (fun b => some (Value.bool b)) hg_10_9⟩ rfl ?_
   rintro r o ⟨rfl, rfl⟩
   refine .nil ?_
   try (conv => enter [2, 2]; dsimp only [List.set_cons_zero, List.set_cons_succ, List.cons_append, List.nil_append])
   refine HeldK.back hle ?_
   refine HeldK.first 11 (fuel := 1) (listed' := (lb 13 4095)) _ rfl krf krf rfl (Yl.pickT rfl (hg_10_9) rfl) trivial rfl ?_
   refine HeldK.first 12 (fuel := 0) (listed' := (lb 13 8191)) _ rfl krf krf rfl (Yl.assign rfl) trivial rfl ?_
   refine HeldK.done krf ?_
   refine AK.then_ (hK13 _ ?_)
   refine .ret ?_
   refine AK.ret1 rfl rfl (fun w hw => ⟨_, _, ?_, rfl, Ret.of (hw.pick [] (by decide) rfl rfl)⟩)
   exact ⟨rfl, rfl⟩

end Go.Proofs.Ytifnofnnjcchhaa
